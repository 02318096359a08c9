/-
  The balloon's small functions and those of its reference, walked.
-/
import Derived.Test.YtalfiiodioihdaaRowsAt
import Derived.Test.YtalfiiodioihdaaShelf
import Derived.Lib.Tables
namespace Go.Proofs.Ytalfiiodioihdaa
open Go.RowKit

theorem u32_bd (o : BinOp) (x y : Int) : 0 ≤ bits o .u32 x y ∧ bits o .u32 x y < 4294967296 := by
  unfold bits
  show 0 ≤ IntKind.u32.wrap _ ∧ IntKind.u32.wrap _ < _
  rw [IntKind.wrap_u32]; omega
theorem and_u32 (m c : Nat) (hm : m < 4294967296) (hc : c < 4294967296) : bits .and .u32 (m : Int) (c : Int) = ((m &&& c : Nat) : Int) := by
  have hx : m &&& c ≤ c := Nat.and_le_right
  show IntKind.u32.wrap ((BitVec.ofInt 32 (m : Int) &&& BitVec.ofInt 32 (c : Int)).toNat : Int) = _
  have e1 : (BitVec.ofInt 32 (m : Int)).toNat = m := by rw [BitVec.ofInt_natCast, BitVec.toNat_ofNat]; exact Nat.mod_eq_of_lt hm
  have e2 : (BitVec.ofInt 32 (c : Int)).toNat = c := by rw [BitVec.ofInt_natCast, BitVec.toNat_ofNat]; exact Nat.mod_eq_of_lt hc
  rw [BitVec.toNat_and, e1, e2, IntKind.wrap_u32]
  omega
theorem pop8_bd (i : Int) : 0 ≤ Lib.pop8 i ∧ Lib.pop8 i ≤ 8 := by
  unfold Lib.pop8
  have h : ∀ n : Nat, n < 256 → ((Lib.pop8tab[n]?).getD 0).toNat ≤ 8 := by decide +kernel
  refine ⟨by omega, ?_⟩
  by_cases hi : i.toNat < 256
  · have := h i.toNat hi; omega
  · have : Lib.pop8tab[i.toNat]? = none := by
      rw [getElem?_neg]
      rw [Lib.pop8tab_size]; exact hi
    rw [this]; decide
def popN (x : Nat) : Int := Lib.pop8 ((x : Int) / 16777216) + Lib.pop8 ((x / 65536 &&& 255 : Nat) : Int) + Lib.pop8 ((x / 256 &&& 255 : Nat) : Int) + Lib.pop8 ((x &&& 255 : Nat) : Int)
set_option maxRecDepth 100000 in
set_option maxHeartbeats 4000000 in
theorem ones_any (x : Nat) (w : World) (h1 : x < 4294967296) : Calls Try.prog 30 #[.int .u32 x] w (Ret w (.int .i64 (popN x))) := by
  have a1 : bits .and .u32 ((x : Int) / 65536) 255 = ((x / 65536 &&& 255 : Nat) : Int) := and_u32 (x / 65536) 255 (by omega) (by omega)
  have a2 : bits .and .u32 ((x : Int) / 256) 255 = ((x / 256 &&& 255 : Nat) : Int) := and_u32 (x / 256) 255 (by omega) (by omega)
  have a3 : bits .and .u32 (x : Int) 255 = ((x &&& 255 : Nat) : Int) := and_u32 x 255 (by omega) (by omega)
  have b1 : x / 65536 &&& 255 ≤ 255 := Nat.and_le_right
  have b2 : x / 256 &&& 255 ≤ 255 := Nat.and_le_right
  have b3 : x &&& 255 ≤ 255 := Nat.and_le_right
  have c0 : (x : Int) / 16777216 ≤ 255 := by omega
  have c1 : ((x / 65536 &&& 255 : Nat) : Int) ≤ 255 := by omega
  have c2 : ((x / 256 &&& 255 : Nat) : Int) ≤ 255 := by omega
  have c3 : ((x &&& 255 : Nat) : Int) ≤ 255 := by omega
  have d0 : 0 ≤ (x : Int) / 16777216 := by omega
  have p0 := pop8_bd ((x : Int) / 16777216)
  have p1 := pop8_bd ((x / 65536 &&& 255 : Nat) : Int)
  have p2 := pop8_bd ((x / 256 &&& 255 : Nat) : Int)
  have p3 := pop8_bd ((x &&& 255 : Nat) : Int)
  go_enter Try.func30, Try.ntmps30
  go_wp2_with fail
  refine wp_region_quiet_below (by kernel_rfl) (by kernel_rfl) ?_
  dsimp only [List.append]
  simp only [Lib.fold_pop8tab]
  repeat (go_big_quiet_step (fail))
  refine wpQuiet_nil ?_
  intro w1 hw1
  have hb1 := below_of_regrown hw1
  clear hw1
  go_wp2_with fail
  go_ret
  exact Ret.mk (by repeat (first | with_reducible exact Below.refl _ _ | with_reducible refine Below.drew ?_ | (with_reducible refine Below.alloc ?_ (by first | exact Nat.le_refl _ | omega | (simp only [sizes]; omega)) _) | (with_reducible refine Below.setCell ?_ (by first | exact Nat.le_refl _ | omega | (simp only [sizes]; omega)) _) | (refine Below.trans ?_ (Below.mono (by with_reducible assumption) (by first | exact Nat.le_refl _ | omega | (simp only [sizes]; omega))))))
/-! the number of bits -/
def onesN (G : Nat) : Nat → Nat
  | 0 => 0
  | k + 1 => onesN G k + G / 2 ^ k % 2
theorem onesN_succ (G k : Nat) : onesN G (k + 1) = onesN G k + G / 2 ^ k % 2 := rfl
theorem onesN_le (G k : Nat) : onesN G k ≤ k := by
  induction k with
  | zero => exact Nat.le_refl _
  | succ k ih => unfold onesN; omega
theorem onesN_split (G j k : Nat) : onesN G (j + k) = onesN G j + onesN (G / 2 ^ j) k := by
  induction k with
  | zero => rfl
  | succ k ih => rw [← Nat.add_assoc, onesN_succ, onesN_succ, ih, Nat.div_div_eq_div_mul, ← Nat.pow_add, Nat.add_assoc]
theorem onesN_mod (G j : Nat) : ∀ k, k ≤ j → onesN G k = onesN (G % 2 ^ j) k
  | 0, _ => rfl
  | k + 1, h => by
    unfold onesN
    rw [onesN_mod G j k (by omega)]
    have e : 2 ^ j = 2 ^ (k + 1) * 2 ^ (j - (k + 1)) := by rw [← Nat.pow_add]; congr 1; omega
    have : G % 2 ^ j % 2 ^ (k + 1) = G % 2 ^ (k + 1) := by rw [e]; exact Nat.mod_mul_right_mod ..
    have h1 : ∀ x : Nat, x / 2 ^ k % 2 = x % 2 ^ (k + 1) / 2 ^ k := fun x => by rw [Nat.pow_succ, Nat.mod_mul_right_div_self]
    rw [h1 G, h1 (G % 2 ^ j), this]
theorem pop8_ones : ∀ n : Nat, n < 256 → Lib.pop8 (n : Int) = onesN n 8 := by
  have h : ∀ n : Nat, n < 256 → ((Lib.pop8tab[n]?).getD 0).toNat = onesN n 8 := by decide +kernel
  intro n hn
  unfold Lib.pop8
  rw [Int.toNat_natCast, h n hn]
def cnt (G : Nat) : Nat := onesN G 32
theorem cnt_le (G : Nat) : cnt G ≤ 32 := onesN_le G 32
theorem popN_cnt (G : Nat) (h : G < 4294967296) : popN G = cnt G := by
  unfold popN cnt
  rw [show 32 = 8 + (8 + (8 + 8)) from rfl, onesN_split, onesN_split, onesN_split, Nat.div_div_eq_div_mul, Nat.div_div_eq_div_mul]
  rw [onesN_mod G 8 8 (Nat.le_refl _), onesN_mod (G / 2 ^ 8) 8 8 (Nat.le_refl _), onesN_mod (G / (2 ^ 8 * 2 ^ 8)) 8 8 (Nat.le_refl _)]
  have m1 : G &&& 255 = G % 2 ^ 8 := Nat.and_two_pow_sub_one_eq_mod G 8
  have m2 : G / 256 &&& 255 = G / 2 ^ 8 % 2 ^ 8 := Nat.and_two_pow_sub_one_eq_mod (G / 256) 8
  have m3 : G / 65536 &&& 255 = G / (2 ^ 8 * 2 ^ 8) % 2 ^ 8 := Nat.and_two_pow_sub_one_eq_mod (G / 65536) 8
  rw [m1, m2, m3, pop8_ones _ (by omega), pop8_ones _ (by omega), pop8_ones _ (by omega)]
  have := pop8_ones (G / 16777216) (by omega)
  rw [show ((G : Int) / 16777216) = ((G / 16777216 : Nat) : Int) from rfl, this]
  rw [show G / (2 ^ 8 * 2 ^ 8 * 2 ^ 8) = G / 16777216 from rfl]
  omega
theorem bit_at (G k : Nat) (hG : G < 4294967296) : bits .and .u32 ((G : Int) / 2 ^ k) 1 = ((G / 2 ^ k % 2 : Nat) : Int) := by
  have h := and_u32 (G / 2 ^ k) 1 (Nat.lt_of_le_of_lt (Nat.div_le_self _ _) hG) (by omega)
  have m : G / 2 ^ k &&& 1 = G / 2 ^ k % 2 ^ 1 := Nat.and_two_pow_sub_one_eq_mod (G / 2 ^ k) 1
  rw [m] at h
  rw [← h, Int.natCast_ediv, Int.natCast_pow]
  all_goals rfl

set_option maxHeartbeats 2000000 in
theorem given_any (T G : Nat) (w : World) (hG : G < 4294967296) : Calls Try.prog 20 #[.agg #[.int .u32 T, .int .u32 G]] w (Ret w (.int .i64 (cnt G))) := by
  go_enter Try.func20, Try.ntmps20
  go_wp2_with fail
  go_loopw [3, 4] (fun n i wr => ∃ k : Nat, k ≤ 32 ∧ i = .int .i64 k ∧ n = .int .i64 (onesN G k) ∧ HasBlock wr w.heap.size #[.int .u32 T, .int .u32 G] 25 ∧ Below w.heap.size w wr) (fun _ i _ => 32 - (intOf i).toNat)
  case atStart => exact ⟨0, by omega, rfl, rfl, HasBlock.made _ _ _, (by repeat (first | with_reducible exact Below.refl _ _ | with_reducible refine Below.drew ?_ | (with_reducible refine Below.alloc ?_ (by first | exact Nat.le_refl _ | omega | (simp only [sizes]; omega)) _) | (with_reducible refine Below.setCell ?_ (by first | exact Nat.le_refl _ | omega | (simp only [sizes]; omega)) _) | (refine Below.trans ?_ (Below.mono (by with_reducible assumption) (by first | exact Nat.le_refl _ | omega | (simp only [sizes]; omega))))))⟩
  case round =>
    obtain ⟨k, hk, rfl, rfl, hblk, hbw⟩ := hrel
    have x1 := (hblk.cell 1).trans rfl
    by_cases hlt : k < 32
    · have hb := bit_at G k hG
      have hm : G / 2 ^ k % 2 < 2 := Nat.mod_lt _ (by omega)
      obtain ⟨m, hm'⟩ : ∃ m, G / 2 ^ k % 2 = m := ⟨_, rfl⟩
      have hon := onesN_le G k
      have hs : onesN G (k + 1) = onesN G k + m := by rw [← hm']; rfl
      obtain ⟨q, hq⟩ : ∃ q, onesN G k = q := ⟨_, rfl⟩
      rw [hq] at hs hon ⊢
      rw [hm'] at hb hm
      have HS := Lib.hid hs; clear hs hm' hq
      go_wp2_with fail
      go_roundw
      case rel => exact ⟨k + 1, by omega, by go_num, by rw [HS.out]; go_num, hblk, hbw⟩
      case measure => simp [intOf]; omega
    · obtain rfl : k = 32 := by omega
      go_wp2_with fail
      go_ret
      exact Ret.mk (by repeat (first | with_reducible exact Below.refl _ _ | with_reducible refine Below.drew ?_ | (with_reducible refine Below.alloc ?_ (by first | exact Nat.le_refl _ | omega | (simp only [sizes]; omega)) _) | (with_reducible refine Below.setCell ?_ (by first | exact Nat.le_refl _ | omega | (simp only [sizes]; omega)) _) | (refine Below.trans ?_ (Below.mono (by with_reducible assumption) (by first | exact Nat.le_refl _ | omega | (simp only [sizes]; omega))))))
theorem count_any (T G : Nat) (w : World) (hG : G < 4294967296) : Calls Try.prog 15 #[.agg #[.int .u32 T, .int .u32 G]] w (Ret w (.int .i64 (cnt G))) := by
  have O := fun w => ones_any G w hG
  rw [popN_cnt G hG] at O
  have HO := Lib.hid O; clear O
  go_enter Try.func15, Try.ntmps15
  go_wp2_with fail
  refine (HO.out _).mono ?_
  rintro e w1 ⟨rfl, hb1⟩
  obtain ⟨hc1, hf1⟩ := bcell hb1
  have hz1 := bsize hb1
  try simp only [sizes1] at hz1
  try simp only [sizes] at hc1 hf1
  go_wp2_with fail
  go_ret
  exact Ret.mk (by repeat (first | with_reducible exact Below.refl _ _ | with_reducible refine Below.drew ?_ | (with_reducible refine Below.alloc ?_ (by first | exact Nat.le_refl _ | omega | (simp only [sizes]; omega)) _) | (with_reducible refine Below.setCell ?_ (by first | exact Nat.le_refl _ | omega | (simp only [sizes]; omega)) _) | (refine Below.trans ?_ (Below.mono (by with_reducible assumption) (by first | exact Nat.le_refl _ | omega | (simp only [sizes]; omega))))))
def pendB (T G : Nat) : Bool := (cnt G : Int) != (T : Int)
theorem pending_any (T G : Nat) (w : World) (_hT : T < 4294967296) (hG : G < 4294967296) : Calls Try.prog 6 #[.agg #[.int .u32 T, .int .u32 G]] w (Ret w (.bool (pendB T G))) := by
  have hc := cnt_le G
  have O := fun w => count_any T G w hG
  obtain ⟨q, hq⟩ : ∃ q, cnt G = q := ⟨_, rfl⟩
  have hp : pendB T G = ((q : Int) != (T : Int)) := by unfold pendB; rw [hq]
  rw [hq] at O hc
  have HP := Lib.hid hp; clear hp hq
  have HO := Lib.hid O; clear O
  go_enter Try.func6, Try.ntmps6
  go_wp2_with fail
  refine wp_region_quiet_below (by kernel_rfl) (by kernel_rfl) ?_
  repeat (go_big_quiet_step (first | fail | (go_at_call 15; exact quiet_ret (HO.out _))))
  refine wpQuiet_nil ?_
  intro w1 hw1
  have hb1 := below_of_regrown hw1
  clear hw1
  obtain ⟨hc1, hf1⟩ := bcell hb1
  have hz1 := bsize hb1
  try simp only [sizes1] at hz1
  try simp only [sizes] at hc1 hf1
  go_wp2_with fail
  go_ret
  exact Ret.mk' (by rw [HP.out]; rfl) (by repeat (first | with_reducible exact Below.refl _ _ | with_reducible refine Below.drew ?_ | (with_reducible refine Below.alloc ?_ (by first | exact Nat.le_refl _ | omega | (simp only [sizes]; omega)) _) | (with_reducible refine Below.setCell ?_ (by first | exact Nat.le_refl _ | omega | (simp only [sizes]; omega)) _) | (refine Below.trans ?_ (Below.mono (by with_reducible assumption) (by first | exact Nat.le_refl _ | omega | (simp only [sizes]; omega))))))
theorem rpending_any (T G : Nat) (w : World) (_hT : T < 4294967296) (hG : G < 4294967296) : Calls Try.prog 21 #[.agg #[.int .u32 T, .int .u32 G]] w (Ret w (.bool (pendB T G))) := by
  have hc := cnt_le G
  have O := fun w => given_any T G w hG
  obtain ⟨q, hq⟩ : ∃ q, cnt G = q := ⟨_, rfl⟩
  have hp : pendB T G = ((q : Int) != (T : Int)) := by unfold pendB; rw [hq]
  rw [hq] at O hc
  have HP := Lib.hid hp; clear hp hq
  have HO := Lib.hid O; clear O
  go_enter Try.func21, Try.ntmps21
  go_wp2_with fail
  refine wp_region_quiet_below (by kernel_rfl) (by kernel_rfl) ?_
  repeat (go_big_quiet_step (first | fail | (go_at_call 20; exact quiet_ret (HO.out _))))
  refine wpQuiet_nil ?_
  intro w1 hw1
  have hb1 := below_of_regrown hw1
  clear hw1
  obtain ⟨hc1, hf1⟩ := bcell hb1
  have hz1 := bsize hb1
  try simp only [sizes1] at hz1
  try simp only [sizes] at hc1 hf1
  go_wp2_with fail
  go_ret
  exact Ret.mk' (by rw [HP.out]; rfl) (by repeat (first | with_reducible exact Below.refl _ _ | with_reducible refine Below.drew ?_ | (with_reducible refine Below.alloc ?_ (by first | exact Nat.le_refl _ | omega | (simp only [sizes]; omega)) _) | (with_reducible refine Below.setCell ?_ (by first | exact Nat.le_refl _ | omega | (simp only [sizes]; omega)) _) | (refine Below.trans ?_ (Below.mono (by with_reducible assumption) (by first | exact Nat.le_refl _ | omega | (simp only [sizes]; omega))))))

def inI (T G : Nat) (port : Int) : Int := if port = 10 then T else if port = 11 then cnt G else 0
theorem in_any (T G : Nat) (port : Int) (w : World) (hG : G < 4294967296) : Calls Try.prog 7 #[.agg #[.int .u32 T, .int .u32 G], .int .i64 port] w (Ret w (.int .u32 (inI T G port))) := by
  have hc := cnt_le G
  have O := fun w => count_any T G w hG
  unfold inI
  obtain ⟨q, hq⟩ : ∃ q, cnt G = q := ⟨_, rfl⟩
  rw [hq] at O hc ⊢
  have HO := Lib.hid O; clear O hq
  by_cases h1 : port = 10
  · rw [if_pos h1]
    subst h1
    go_enter Try.func7, Try.ntmps7
    go_wp2_with fail
    go_ret
    exact Ret.mk (by repeat (first | with_reducible exact Below.refl _ _ | with_reducible refine Below.drew ?_ | (with_reducible refine Below.alloc ?_ (by first | exact Nat.le_refl _ | omega | (simp only [sizes]; omega)) _) | (with_reducible refine Below.setCell ?_ (by first | exact Nat.le_refl _ | omega | (simp only [sizes]; omega)) _) | (refine Below.trans ?_ (Below.mono (by with_reducible assumption) (by first | exact Nat.le_refl _ | omega | (simp only [sizes]; omega))))))
  · rw [if_neg h1]
    have e1 : (port == 10) = false := by rw [beq_eq_false_iff_ne]; exact h1
    by_cases h2 : port = 11
    · rw [if_pos h2]
      subst h2
      clear e1
      go_enter Try.func7, Try.ntmps7
      go_wp2_with fail
      refine (HO.out _).mono ?_
      rintro e w1 ⟨rfl, hb1⟩
      obtain ⟨hc1, hf1⟩ := bcell hb1
      have hz1 := bsize hb1
      try simp only [sizes1] at hz1
      try simp only [sizes] at hc1 hf1
      go_wp2_with fail
      go_ret
      exact Ret.mk (by repeat (first | with_reducible exact Below.refl _ _ | with_reducible refine Below.drew ?_ | (with_reducible refine Below.alloc ?_ (by first | exact Nat.le_refl _ | omega | (simp only [sizes]; omega)) _) | (with_reducible refine Below.setCell ?_ (by first | exact Nat.le_refl _ | omega | (simp only [sizes]; omega)) _) | (refine Below.trans ?_ (Below.mono (by with_reducible assumption) (by first | exact Nat.le_refl _ | omega | (simp only [sizes]; omega))))))
    · rw [if_neg h2]
      have e2 : (port == 11) = false := by rw [beq_eq_false_iff_ne]; exact h2
      go_enter Try.func7, Try.ntmps7
      go_wp2_with fail
      go_ret
      exact Ret.mk (by repeat (first | with_reducible exact Below.refl _ _ | with_reducible refine Below.drew ?_ | (with_reducible refine Below.alloc ?_ (by first | exact Nat.le_refl _ | omega | (simp only [sizes]; omega)) _) | (with_reducible refine Below.setCell ?_ (by first | exact Nat.le_refl _ | omega | (simp only [sizes]; omega)) _) | (refine Below.trans ?_ (Below.mono (by with_reducible assumption) (by first | exact Nat.le_refl _ | omega | (simp only [sizes]; omega))))))
theorem rin_any (T G : Nat) (port : Int) (w : World) (hG : G < 4294967296) : Calls Try.prog 19 #[.agg #[.int .u32 T, .int .u32 G], .int .i64 port] w (Ret w (.int .u32 (inI T G port))) := by
  have hc := cnt_le G
  have O := fun w => given_any T G w hG
  unfold inI
  obtain ⟨q, hq⟩ : ∃ q, cnt G = q := ⟨_, rfl⟩
  rw [hq] at O hc ⊢
  have HO := Lib.hid O; clear O hq
  by_cases h1 : port = 10
  · rw [if_pos h1]
    subst h1
    go_enter Try.func19, Try.ntmps19
    go_wp2_with fail
    go_ret
    exact Ret.mk (by repeat (first | with_reducible exact Below.refl _ _ | with_reducible refine Below.drew ?_ | (with_reducible refine Below.alloc ?_ (by first | exact Nat.le_refl _ | omega | (simp only [sizes]; omega)) _) | (with_reducible refine Below.setCell ?_ (by first | exact Nat.le_refl _ | omega | (simp only [sizes]; omega)) _) | (refine Below.trans ?_ (Below.mono (by with_reducible assumption) (by first | exact Nat.le_refl _ | omega | (simp only [sizes]; omega))))))
  · rw [if_neg h1]
    have e1 : (port == 10) = false := by rw [beq_eq_false_iff_ne]; exact h1
    by_cases h2 : port = 11
    · rw [if_pos h2]
      subst h2
      clear e1
      go_enter Try.func19, Try.ntmps19
      go_wp2_with fail
      refine (HO.out _).mono ?_
      rintro e w1 ⟨rfl, hb1⟩
      obtain ⟨hc1, hf1⟩ := bcell hb1
      have hz1 := bsize hb1
      try simp only [sizes1] at hz1
      try simp only [sizes] at hc1 hf1
      go_wp2_with fail
      go_ret
      exact Ret.mk (by repeat (first | with_reducible exact Below.refl _ _ | with_reducible refine Below.drew ?_ | (with_reducible refine Below.alloc ?_ (by first | exact Nat.le_refl _ | omega | (simp only [sizes]; omega)) _) | (with_reducible refine Below.setCell ?_ (by first | exact Nat.le_refl _ | omega | (simp only [sizes]; omega)) _) | (refine Below.trans ?_ (Below.mono (by with_reducible assumption) (by first | exact Nat.le_refl _ | omega | (simp only [sizes]; omega))))))
    · rw [if_neg h2]
      have e2 : (port == 11) = false := by rw [beq_eq_false_iff_ne]; exact h2
      go_enter Try.func19, Try.ntmps19
      go_wp2_with fail
      go_ret
      exact Ret.mk (by repeat (first | with_reducible exact Below.refl _ _ | with_reducible refine Below.drew ?_ | (with_reducible refine Below.alloc ?_ (by first | exact Nat.le_refl _ | omega | (simp only [sizes]; omega)) _) | (with_reducible refine Below.setCell ?_ (by first | exact Nat.le_refl _ | omega | (simp only [sizes]; omega)) _) | (refine Below.trans ?_ (Below.mono (by with_reducible assumption) (by first | exact Nat.le_refl _ | omega | (simp only [sizes]; omega))))))

/-! the frames below a number -/
def mayB (G : Nat) (pages : Int) : Bool := decide ((Lib.bitLen G : Int) ≤ max pages 0)
theorem aux_spec : ∀ (f x : Nat), x < 2 ^ f → x < 2 ^ Lib.bitLenAux f x ∧ (x ≠ 0 → 2 ^ (Lib.bitLenAux f x - 1) ≤ x)
  | 0, x, h => by
    have : x = 0 := by simpa using h
    subst this
    exact ⟨by simp [Lib.bitLenAux], fun h => absurd rfl h⟩
  | f + 1, x, h => by
    unfold Lib.bitLenAux
    by_cases h0 : x = 0
    · subst h0
      exact ⟨by simp, fun h => absurd rfl h⟩
    · rw [if_neg h0]
      obtain ⟨h1, h2⟩ := aux_spec f (x / 2) (by rw [Nat.pow_succ] at h; omega)
      have e : 2 ^ (1 + Lib.bitLenAux f (x / 2)) = 2 * 2 ^ Lib.bitLenAux f (x / 2) := by rw [Nat.add_comm, Nat.pow_succ, Nat.mul_comm]
      refine ⟨by omega, fun _ => ?_⟩
      rw [Nat.add_sub_cancel_left]
      by_cases h3 : x / 2 = 0
      · have : Lib.bitLenAux f (x / 2) = 0 := by
          rw [h3]
          cases f <;> simp [Lib.bitLenAux]
        rw [this]; omega
      · have h4 := h2 h3
        have h5 : Lib.bitLenAux f (x / 2) ≠ 0 := by
          intro e5
          rw [e5] at h1
          omega
        have e6 : 2 ^ Lib.bitLenAux f (x / 2) = 2 * 2 ^ (Lib.bitLenAux f (x / 2) - 1) := by rw [← Nat.pow_succ']; congr 1; omega
        omega
theorem len_spec (x : Nat) (h : x < 4294967296) : x < 2 ^ Lib.bitLen x ∧ (x ≠ 0 → 2 ^ (Lib.bitLen x - 1) ≤ x) := aux_spec 64 x (by omega)
theorem bit_top {G : Nat} (hG : G < 4294967296) (h : 0 < Lib.bitLen G) : G / 2 ^ (Lib.bitLen G - 1) % 2 = 1 := by
  obtain ⟨h1, h2⟩ := len_spec G hG
  have h0 : G ≠ 0 := by
    intro e
    rw [e] at h
    exact absurd h (by decide)
  have h3 := h2 h0
  have h4 : G / 2 ^ (Lib.bitLen G - 1) < 2 := by
    rw [Nat.div_lt_iff_lt_mul (Nat.two_pow_pos _)]
    have : 2 ^ Lib.bitLen G = 2 * 2 ^ (Lib.bitLen G - 1) := by rw [← Nat.pow_succ']; congr 1; omega
    omega
  have h5 : 1 ≤ G / 2 ^ (Lib.bitLen G - 1) := (Nat.le_div_iff_mul_le (Nat.two_pow_pos _)).2 (by omega)
  omega
theorem bit_above {G k : Nat} (hG : G < 4294967296) (h : Lib.bitLen G ≤ k) : G / 2 ^ k % 2 = 0 := by
  have h1 := (len_spec G hG).1
  rw [Nat.div_eq_of_lt (Nat.lt_of_lt_of_le h1 (Nat.pow_le_pow_right (by omega) h))]
theorem len_le (G : Nat) (hG : G < 4294967296) : Lib.bitLen G ≤ 32 := Lib.bitLen_le G 32 (by omega) (by omega)
theorem may_no {G k : Nat} {pages : Int} (hG : G < 4294967296) (h1 : G / 2 ^ k % 2 = 1) (h2 : pages ≤ k) : mayB G pages = false := by
  unfold mayB
  apply decide_eq_false
  intro h
  have : Lib.bitLen G ≤ k := by omega
  rw [bit_above hG this] at h1
  cases h1
theorem may_yes {G : Nat} {pages : Int} (hG : G < 4294967296) (h : ∀ i : Nat, i < 32 → G / 2 ^ i % 2 = 1 → (i : Int) < pages) : mayB G pages = true := by
  unfold mayB
  apply decide_eq_true
  have hl := len_le G hG
  by_cases h0 : 0 < Lib.bitLen G
  · have := h (Lib.bitLen G - 1) (by omega) (bit_top hG h0)
    omega
  · omega
theorem may_any (T G : Nat) (pages : Int) (w : World) (hG : G < 4294967296) : Calls Try.prog 16 #[.agg #[.int .u32 T, .int .u32 G], .int .i64 pages] w (Ret w (.bool (mayB G pages))) := by
  have hl := len_le G hG
  have O := fun w => Try.bits_Len32 (G : Int) w (by omega) (by omega)
  rw [Int.toNat_natCast] at O
  unfold mayB
  obtain ⟨q, hq⟩ : ∃ q, Lib.bitLen G = q := ⟨_, rfl⟩
  rw [hq] at O hl ⊢
  have HO := Lib.hid O; clear O hq
  go_enter Try.func16, Try.ntmps16
  go_wp2_with fail
  refine (HO.out _).mono ?_
  rintro e w1 ⟨rfl, rfl⟩
  go_wp2_with fail
  all_goals
    go_ret
    exact Ret.mk' (congrArg Value.bool (by first | rfl | (rw [Bool.eq_iff_iff]; simp only [decide_eq_true_eq]; omega))) (by repeat (first | with_reducible exact Below.refl _ _ | with_reducible refine Below.drew ?_ | (with_reducible refine Below.alloc ?_ (by first | exact Nat.le_refl _ | omega | (simp only [sizes]; omega)) _) | (with_reducible refine Below.setCell ?_ (by first | exact Nat.le_refl _ | omega | (simp only [sizes]; omega)) _) | (refine Below.trans ?_ (Below.mono (by with_reducible assumption) (by first | exact Nat.le_refl _ | omega | (simp only [sizes]; omega))))))
set_option maxHeartbeats 2000000 in
theorem rmay_any (T G : Nat) (pages : Int) (w : World) (hG : G < 4294967296) : Calls Try.prog 22 #[.agg #[.int .u32 T, .int .u32 G], .int .i64 pages] w (Ret w (.bool (mayB G pages))) := by
  go_enter Try.func22, Try.ntmps22
  go_wp2_with fail
  go_loopw [5] (fun i wr => ∃ k : Nat, k ≤ 32 ∧ i = .int .i64 k ∧ Hid (∀ j : Nat, j < k → G / 2 ^ j % 2 = 1 → (j : Int) < pages) ∧ HasBlock wr w.heap.size #[.int .u32 T, .int .u32 G] 25 ∧ Below w.heap.size w wr) (fun i _ => 32 - (intOf i).toNat)
  case atStart => exact ⟨0, by omega, rfl, (fun j hj => absurd hj (Nat.not_lt_zero _)), HasBlock.made _ _ _, (by repeat (first | with_reducible exact Below.refl _ _ | with_reducible refine Below.drew ?_ | (with_reducible refine Below.alloc ?_ (by first | exact Nat.le_refl _ | omega | (simp only [sizes]; omega)) _) | (with_reducible refine Below.setCell ?_ (by first | exact Nat.le_refl _ | omega | (simp only [sizes]; omega)) _) | (refine Below.trans ?_ (Below.mono (by with_reducible assumption) (by first | exact Nat.le_refl _ | omega | (simp only [sizes]; omega))))))⟩
  case round =>
    obtain ⟨k, hk, rfl, HJ, hblk, hbw⟩ := hrel
    have x1 := (hblk.cell 1).trans rfl
    by_cases hlt : k < 32
    · have hb := bit_at G k hG
      have hm : G / 2 ^ k % 2 < 2 := Nat.mod_lt _ (by omega)
      by_cases h1 : G / 2 ^ k % 2 = 1
      · rw [h1] at hb
        by_cases h2 : pages ≤ (k : Int)
        · have hno := may_no hG h1 h2
          have HN := Lib.hid hno; clear hno h1 hm
          go_wp2_with fail
          go_ret
          exact Ret.mk' (by rw [HN.out]; rfl) (by repeat (first | with_reducible exact Below.refl _ _ | with_reducible refine Below.drew ?_ | (with_reducible refine Below.alloc ?_ (by first | exact Nat.le_refl _ | omega | (simp only [sizes]; omega)) _) | (with_reducible refine Below.setCell ?_ (by first | exact Nat.le_refl _ | omega | (simp only [sizes]; omega)) _) | (refine Below.trans ?_ (Below.mono (by with_reducible assumption) (by first | exact Nat.le_refl _ | omega | (simp only [sizes]; omega))))))
        · have H1 := Lib.hid h1; clear h1 hm
          go_wp2_with fail
          go_roundw
          case rel => exact ⟨k + 1, by omega, by go_num, (fun j hj hj1 => by
            by_cases e : j = k
            · subst e; omega
            · exact HJ.out j (by omega) hj1), hblk, hbw⟩
          case measure => simp [intOf]; omega
      · rw [show G / 2 ^ k % 2 = 0 by omega] at hb
        have H1 := Lib.hid h1; clear h1 hm
        go_wp2_with fail
        go_roundw
        case rel => exact ⟨k + 1, by omega, by go_num, (fun j hj hj1 => by
          by_cases e : j = k
          · subst e; exact absurd hj1 H1.out
          · exact HJ.out j (by omega) hj1), hblk, hbw⟩
        case measure => simp [intOf]; omega
    · obtain rfl : k = 32 := by omega
      have hy := may_yes hG HJ.out
      have HY := Lib.hid hy; clear hy
      go_wp2_with fail
      go_ret
      exact Ret.mk' (by rw [HY.out]; rfl) (by repeat (first | with_reducible exact Below.refl _ _ | with_reducible refine Below.drew ?_ | (with_reducible refine Below.alloc ?_ (by first | exact Nat.le_refl _ | omega | (simp only [sizes]; omega)) _) | (with_reducible refine Below.setCell ?_ (by first | exact Nat.le_refl _ | omega | (simp only [sizes]; omega)) _) | (refine Below.trans ?_ (Below.mono (by with_reducible assumption) (by first | exact Nat.le_refl _ | omega | (simp only [sizes]; omega))))))
end Go.Proofs.Ytalfiiodioihdaa
