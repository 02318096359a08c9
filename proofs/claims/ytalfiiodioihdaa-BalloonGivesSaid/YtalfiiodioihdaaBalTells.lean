/-
  The law on the balloon's reference, walked.
-/
import Derived.Test.YtalfiiodioihdaaBalRef
import Derived.Test.YtalfiiodioihdaaBalAwake
import Derived.Test.YtalfiiodioihdaaMix
namespace Go.Proofs.Ytalfiiodioihdaa
open Go.RowKit

/-- Some words, so many of them. -/
def RetWords (L : Nat) (w : World) (e : Ending) (w' : World) : Prop := ∃ v xs, e = .returned v ∧ xs.length = L ∧ OwnMem w.heap.size w' v xs ∧ Below w.heap.size w w'
theorem and_mask (x : Int) (h0 : 0 ≤ x) (h1 : x < 9223372036854775808) : 0 ≤ bits .and .i64 x 4294967295 ∧ bits .and .i64 x 4294967295 ≤ 4294967295 := by
  obtain ⟨m, rfl⟩ : ∃ m : Nat, x = m := ⟨x.toNat, by omega⟩
  have hx : m &&& 4294967295 ≤ 4294967295 := Nat.and_le_right
  have e : bits .and .i64 (m : Int) 4294967295 = ((m &&& 4294967295 : Nat) : Int) := by
    show IntKind.i64.wrap ((BitVec.ofInt 64 (m : Int) &&& BitVec.ofInt 64 ((4294967295 : Nat) : Int)).toNat : Int) = _
    have e1 : (BitVec.ofInt 64 (m : Int)).toNat = m := by rw [BitVec.ofInt_natCast, BitVec.toNat_ofNat]; exact Nat.mod_eq_of_lt (by omega)
    have e2 : (BitVec.ofInt 64 ((4294967295 : Nat) : Int)).toNat = 4294967295 := by rw [BitVec.ofInt_natCast, BitVec.toNat_ofNat]
    rw [BitVec.toNat_and, e1, e2, IntKind.wrap_i64]
    omega
  rw [e]
  omega
set_option maxHeartbeats 2000000 in
theorem words_any (n pages : Int) (w : World) (hp : -9223372036854775808 ≤ pages ∧ pages ≤ 9223372036854775807) : Calls Try.prog 9 #[.int .i64 n, .int .i64 pages] w (RetWords ((1 + (pages % 8).toNat) * 32) w) := by
  have m1 := Int.emod_nonneg pages (show (8 : Int) ≠ 0 by omega)
  have m2 := Int.emod_lt_of_pos pages (show (0 : Int) < 8 by omega)
  have R := fun w => round_any pages 8 w hp (by omega) (by omega)
  obtain ⟨p, hpp⟩ : ∃ p : Nat, pages % 8 = p := ⟨(pages % 8).toNat, by omega⟩
  rw [hpp] at R m1 m2 ⊢
  rw [Int.toNat_natCast]
  have HR := Lib.hid R; clear R hpp
  have hl : (List.replicate ((1 + p) * 32) (0 : Int)).length = (1 + p) * 32 := List.length_replicate
  have N := fun w => new_any (1 + p) w (by omega) (by omega)
  generalize List.replicate ((1 + p) * 32) (0 : Int) = zs at hl N
  have HN := Lib.hid N; clear N
  go_enter Try.func9, Try.ntmps9
  go_wp2_with fail
  refine (HR.out _).mono ?_
  rintro e w1 ⟨rfl, hb1⟩
  obtain ⟨hc1, hf1⟩ := bcell hb1
  have hz1 := bsize hb1
  try simp only [sizes1] at hz1
  try simp only [sizes] at hc1 hf1
  go_wp2_with fail
  refine (HN.out _).mono ?_
  rintro e w2 ⟨v2, rfl, ho2, hb2⟩
  have hb12 : Below w.heap.size w w2 := hb1.trans (hb2.mono hb1.size)
  have ho3 := ho2.lower (base' := w.heap.size) hb1.size
  clear hb1 hb2 hc1 hf1 ho2
  unfold OwnMem at ho3
  rw [hl] at ho3
  rcases ho3.1.2 with ⟨_, hbad⟩ | ⟨g, cap1, _, hvv, hg, _, hgc, hgm, _⟩
  · omega
  subst hvv
  unfold maxLen at hgm
  have HO := Lib.hid ho3.1; clear ho3
  have HL := Lib.hid hl; clear hl
  have hL : ∃ L, L = (1 + p) * 32 ∧ L ≤ 256 := ⟨_, rfl, by omega⟩
  obtain ⟨L, hLL, hL2⟩ := hL
  rw [← hLL] at hgc HO HL ⊢
  have HLL := Lib.hid hLL; clear hLL
  go_wp2_with fail
  go_loopw [6] (fun i wr => ∃ (k : Nat) (xs : List Int), k ≤ L ∧ i = .int .i64 k ∧ Hid (xs.length = L) ∧ wr.ownsRow w.heap.size 22 1 (.slice (some ⟨g, 0, none⟩) L cap1) L (words xs) ∧ Below w.heap.size w wr) (fun i _ => L - (intOf i).toNat)
  case atStart => exact ⟨0, zs, Nat.zero_le _, rfl, HL.out, HO.out, hb12⟩
  case round =>
    obtain ⟨k, xs, hk, rfl, HX, hown, hbw⟩ := hrel
    clear hb12
    by_cases hlt : k < L
    · have hgl := hown.lt g rfl
      obtain ⟨x, hx⟩ := get_lt (xs := xs) (k := k) (by rw [HX.out]; exact hlt)
      have hcell : wr.cell? ⟨g, k, none⟩ = some (.int .u32 x) := (hown.cellAt k (by omega)).trans (by unfold Go.Proofs.Ytalfiiodioihdaa.words; rw [List.getElem?_map, hx]; rfl)
      have hfree := hown.frozenAt k
      have HO3 := Lib.hid hown; clear hown hx
      have M := mixI_bd n k
      have MA := and_mask (mixI n k) M.1 M.2
      obtain ⟨mx, hmx⟩ : ∃ x, mixI n k = x := ⟨_, rfl⟩
      have MM := fun w => mix_any n k w
      rw [hmx] at M MA MM
      obtain ⟨my, hmy⟩ : ∃ x, bits .and .i64 mx 4294967295 = x := ⟨_, rfl⟩
      rw [hmy] at MA
      have HM := Lib.hid MM; clear MM hmx
      go_wp2_with fail
      refine (HM.out _).mono ?_
      rintro e w3 ⟨rfl, hb3⟩
      obtain ⟨hc3, hf3⟩ := bcell hb3
      have hz3 := bsize hb3
      try simp only [sizes1] at hz3
      try simp only [sizes] at hc3 hf3
      have hc := (hb3.cell (p := ⟨g, k, none⟩) hgl.2).trans hcell
      have hf := (hb3.frozen (p := ⟨g, k, none⟩) hgl.2).trans hfree
      have hown3 := owns_below HO3.out hb3
      have hgl3 : g < w3.heap.size := by omega
      have HO4 := Lib.hid hown3; clear hown3 hc3 hf3
      have hbw3 : Below w.heap.size w w3 := hbw.trans (hb3.mono hbw.size)
      clear hb3 hbw
      go_wp2_with fail
      go_roundw
      case rel =>
        refine ⟨k + 1, xs.set k my, by omega, by go_num, by (unfold Hid; rw [List.length_set]; exact HX.out), ?_, (by repeat (first | with_reducible exact Below.refl _ _ | with_reducible refine Below.drew ?_ | (with_reducible refine Below.alloc ?_ (by first | exact Nat.le_refl _ | omega | (dsimp only; omega) | (simp only [sizes]; omega)) _) | (with_reducible refine Below.setCell ?_ (by first | exact Nat.le_refl _ | omega | (dsimp only; omega) | (simp only [sizes]; omega)) _) | (refine Below.trans ?_ (Below.mono (by with_reducible assumption) (by first | exact Nat.le_refl _ | omega | (dsimp only; omega) | (simp only [sizes]; omega))))))⟩
        have h5 := (HO4.out.stored k (.int .u32 my)).1
        rw [words_set] at h5
        exact h5
      case measure => simp [intOf]; omega
    · obtain rfl : k = L := by omega
      have HO3 := Lib.hid hown; clear hown
      go_wp2_with fail
      go_ret
      exact ⟨_, xs, rfl, HX.out.trans HLL.out, ⟨by rw [HX.out]; exact HO3.out, by rw [HX.out]; have := HLL.out; omega⟩, hbw⟩

def sameW (xs ys : List Int) (k : Nat) : Prop := ∀ i, i < k → xs[i]? = ys[i]?
set_option maxHeartbeats 1000000 in
theorem sameWords_self (va vb : Value) (xs : List Int) (w : World) (ha : MemRow w va xs) (hb : MemRow w vb xs) (hn : xs.length ≤ 1024) : Calls Try.prog 18 #[va, vb] w (Ret w (.bool true)) := by
  obtain ⟨b, off, cap, rfl, h1, h2, h0, h3, h4⟩ := ha
  obtain ⟨b', off', cap', rfl, h1', h2', _, h3', h4'⟩ := hb
  obtain ⟨n, hn'⟩ : ∃ n, xs.length = n := ⟨_, rfl⟩
  rw [hn'] at h0 h1 h1' hn ⊢
  have HN := Lib.hid hn'; clear hn'
  have H4 := Lib.hid h4; clear h4
  have H4' := Lib.hid h4'; clear h4'
  clear h2 h2'
  go_enter Try.func18, Try.ntmps18
  go_wp2_with fail
  go_loopw [5] (fun i wr => ∃ k : Nat, k ≤ n ∧ i = .int .i64 k ∧ Below w.heap.size w wr) (fun i _ => n - (intOf i).toNat)
  case atStart => exact ⟨0, Nat.zero_le _, rfl, (by repeat (first | with_reducible exact Below.refl _ _ | with_reducible refine Below.drew ?_ | (with_reducible refine Below.alloc ?_ (by first | exact Nat.le_refl _ | omega | (simp only [sizes]; omega)) _) | (with_reducible refine Below.setCell ?_ (by first | exact Nat.le_refl _ | omega | (simp only [sizes]; omega)) _) | (refine Below.trans ?_ (Below.mono (by with_reducible assumption) (by first | exact Nat.le_refl _ | omega | (simp only [sizes]; omega))))))⟩
  case round =>
    obtain ⟨k, hk, rfl, hbw⟩ := hrel
    by_cases hlt : k < n
    · obtain ⟨x, hx⟩ := get_lt (xs := xs) (k := k) (by rw [HN.out]; exact hlt)
      have hc := (hbw.cell (p := ⟨b, off + k, none⟩) h3).trans (H4.out k x hx)
      have hc' := (hbw.cell (p := ⟨b', off' + k, none⟩) h3').trans (H4'.out k x hx)
      have hs1 := hbw.size
      have hs2 : b < wr.heap.size := by omega
      have hs3 : b' < wr.heap.size := by omega
      clear hx
      go_wp2_with fail
      refine wp_region_quiet_below (by kernel_rfl) (by kernel_rfl) ?_
      repeat (go_big_quiet_step (first | fail | fail))
      refine wpQuiet_nil ?_
      intro w1 hw1
      have hb1 := below_of_regrown hw1
      clear hw1
      obtain ⟨hc1, hf1⟩ := bcell hb1
      have hz1 := bsize hb1
      try simp only [sizes1] at hz1
      try simp only [sizes] at hc1 hf1
      go_wp2_with fail
      go_roundw
      case rel => exact ⟨k + 1, by omega, by go_num, (by repeat (first | with_reducible exact Below.refl _ _ | with_reducible refine Below.drew ?_ | (with_reducible refine Below.alloc ?_ (by first | exact Nat.le_refl _ | omega | (simp only [sizes]; omega)) _) | (with_reducible refine Below.setCell ?_ (by first | exact Nat.le_refl _ | omega | (simp only [sizes]; omega)) _) | (refine Below.trans ?_ (Below.mono (by with_reducible assumption) (by first | exact Nat.le_refl _ | omega | (simp only [sizes]; omega))))))⟩
      case measure => simp [intOf]; omega
    · obtain rfl : k = n := by omega
      go_wp2_with fail
      go_ret
      exact Ret.mk (by repeat (first | with_reducible exact Below.refl _ _ | with_reducible refine Below.drew ?_ | (with_reducible refine Below.alloc ?_ (by first | exact Nat.le_refl _ | omega | (simp only [sizes]; omega)) _) | (with_reducible refine Below.setCell ?_ (by first | exact Nat.le_refl _ | omega | (simp only [sizes]; omega)) _) | (refine Below.trans ?_ (Below.mono (by with_reducible assumption) (by first | exact Nat.le_refl _ | omega | (simp only [sizes]; omega))))))

theorem and255 (G : Nat) (hG : G < 4294967296) : bits .and .u32 (G : Int) 255 = ((G &&& 255 : Nat) : Int) ∧ G &&& 255 < 4294967296 := by
  have h : G &&& 255 ≤ 255 := Nat.and_le_right
  exact ⟨and_u32 G 255 hG (by omega), by omega⟩
def BalAt (w : World) (B T G : Nat) : Prop := HasBlock w B #[.int .u32 T, .int .u32 G] 25
set_option maxRecDepth 100000 in
set_option maxHeartbeats 4000000 in
theorem tells_any (T G v : Nat) (n pages port : Int) (small : Bool) (w : World) (hG : G < 4294967296) (hT : T < 4294967296) (hv : v < 4294967296) (hp : -9223372036854775808 ≤ pages ∧ pages ≤ 9223372036854775807) (hq : -9223372036854775808 ≤ port ∧ port ≤ 9223372036854775807) :
    Calls Try.prog 5 #[.agg #[.int .u32 T, .int .u32 G], .int .i64 n, .int .i64 pages, .int .i64 port, .int .u32 v, .bool small] w (Ret w (.bool true)) := by
  have p1 := Int.emod_nonneg port (show (4 : Int) ≠ 0 by omega)
  have p2 := Int.emod_lt_of_pos port (show (0 : Int) < 4 by omega)
  have R := fun w => round_any port 4 w hq (by omega) (by omega)
  obtain ⟨po, hpo⟩ : ∃ u, port % 4 = u := ⟨_, rfl⟩
  rw [hpo] at R p1 p2
  have HR := Lib.hid R; clear R hpo
  obtain ⟨A1, A2⟩ := and255 G hG
  obtain ⟨G1, hG1⟩ : ∃ x, G &&& 255 = x := ⟨_, rfl⟩
  rw [hG1] at A1 A2
  clear hG1
  have hL : (1 + (pages % 8).toNat) * 32 ≤ 1024 := by
    have := Int.emod_lt_of_pos pages (show (0 : Int) < 8 by omega)
    omega
  go_enter Try.func5, Try.ntmps5
  go_wp2_with fail
  refine (words_any n pages _ hp).mono ?_
  rintro e w1 ⟨v1, xs, rfl, hlen, ho1, hb1⟩
  have hz1 := bsize hb1
  simp only [sizes1] at hz1
  have hxl : xs.length ≤ 1024 := by omega
  clear hlen
  have D := (HasBlock.made w #[.int .u32 T, .int .u32 G] 25).below hb1
  have hbw : Below w.heap.size w w1 := (by repeat (first | with_reducible exact Below.refl _ _ | with_reducible refine Below.drew ?_ | (with_reducible refine Below.alloc ?_ (by first | exact Nat.le_refl _ | omega | (dsimp only; omega) | (simp only [sizes]; omega)) _) | (with_reducible refine Below.setCell ?_ (by first | exact Nat.le_refl _ | omega | (dsimp only; omega) | (simp only [sizes]; omega)) _) | (refine Below.trans ?_ (Below.mono (by with_reducible assumption) (by first | exact Nat.le_refl _ | omega | (dsimp only; omega) | (simp only [sizes]; omega))))))
  simp only [sizes] at ho1
  have HM := Lib.hid ho1
  clear ho1 hb1
  obtain ⟨B, hB⟩ : ∃ B, w.heap.size = B := ⟨_, rfl⟩
  have hB2 : w.heap.size ≤ B := by omega
  rw [hB] at D HM ⊢
  clear hB
  go_upto_if 21 with (fail)
  go_cut [3, 4] from 22 to 30 (fun pv vv wx => ∃ (po : Int) (vn G : Nat), pv = .int .i64 po ∧ vv = .int .u32 vn ∧ vn < 4294967296 ∧ G < 4294967296 ∧ BalAt wx B T G ∧ OwnMem (B + 1) wx v1 xs ∧ Below w.heap.size w wx)
  case first =>
    cases small
    · go_wp2_with fail
      go_meet
      exact ⟨port, v, G, rfl, rfl, hv, hG, D, HM.out, hbw⟩
    · have x0 := (D.cell 0).trans rfl
      have x1 := (D.cell 1).trans rfl
      have xf := D.free
      have xz := D.lt
      go_wp2_with fail
      refine wp_region_tail_below 11 (by kernel_rfl) (by kernel_rfl) ?_
      simp only [List.take_succ_cons, List.take_zero, List.drop_succ_cons, List.drop_zero]
      repeat (go_big_quiet_step (first | fail | (go_at_call 11; exact quiet_ret (HR.out _))))
      refine wpQuiet_nil ?_
      intro w3 hw3
      have hb3 := below_of_regrown hw3
      clear hw3
      obtain ⟨hc3, hf3⟩ := bcell hb3
      have hz3 := bsize hb3
      try simp only [sizes1] at hz3
      try simp only [sizes] at hc3 hf3
      have D3 := D.below hb3
      have y1 := (D3.cell 1).trans rfl
      have yf := D3.free
      have yz := D3.lt
      have hbw3 : Below w.heap.size w w3 := hbw.trans (hb3.mono hbw.size)
      go_wp2_with fail
      go_meet
      exact ⟨9 + po, v % 34, G1, rfl, rfl, by omega, A2, D3.set_at 1 (.int .u32 G1), (HM.out.below hb3).set (Nat.lt_succ_self B) _, (by repeat (first | with_reducible exact Below.refl _ _ | with_reducible refine Below.drew ?_ | (with_reducible refine Below.alloc ?_ (by first | exact Nat.le_refl _ | omega | (dsimp only; omega) | (simp only [sizes]; omega)) _) | (with_reducible refine Below.setCell ?_ (by first | exact Nat.le_refl _ | omega | (dsimp only; omega) | (simp only [sizes]; omega)) _) | (refine Below.trans ?_ (Below.mono (by with_reducible assumption) (by first | exact Nat.le_refl _ | omega | (dsimp only; omega) | (simp only [sizes]; omega))))))⟩
  case rest =>
    clear hbw D HM A1 A2 hG hv
    obtain ⟨po, vn, G, rfl, rfl, hv, hG, D, hom, hbw⟩ := hcut
    have HM := Lib.hid hom; clear hom
    have hs0 := hbw.size
    have O1 := fun w ha => out_any v1 xs T G vn po w ha hxl hG
    have O2 := fun w ha => rout_any v1 xs T G vn po w ha hxl hG hv
    have hyl := outM_len G xs po vn
    obtain ⟨G2, hG2⟩ : ∃ x, outG G xs.length po vn = x := ⟨_, rfl⟩
    obtain ⟨ys, hys⟩ : ∃ x, outM G xs po vn = x := ⟨_, rfl⟩
    rw [hG2, hys] at O1 O2
    rw [hys] at hyl
    have hyl2 : ys.length ≤ 1024 := by omega
    have HO1 := Lib.hid O1; clear O1
    have HO2 := Lib.hid O2; clear O2 hG2 hys hyl
    unfold BalAt at D
    have x0 := (D.cell 0).trans rfl
    have x1 := (D.cell 1).trans rfl
    have xf := D.free
    have xz := D.lt
    go_wp2_with fail
    refine (HO1.out _ HM.out.row).mono ?_
    rintro e w4 ⟨v4, rfl, ho4, hb4⟩
    have D4 := D.below hb4
    have hbw4 : Below w.heap.size w w4 := hbw.trans (hb4.mono hs0)
    have HM4 := Lib.hid (HM.out.below hb4)
    have HR4 := Lib.hid ho4.row
    have hz4 := hb4.size
    clear hbw hb4 ho4 D x0 x1 xf xz HM
    have x0 := (D4.cell 0).trans rfl
    have x1 := (D4.cell 1).trans rfl
    have xz := D4.lt
    go_wp2_with fail
    refine (HO2.out _ (HM4.out.row.below (by repeat (first | with_reducible exact Below.refl _ _ | with_reducible refine Below.drew ?_ | (with_reducible refine Below.alloc ?_ (by first | exact Nat.le_refl _ | omega | (simp only [sizes]; omega)) _) | (with_reducible refine Below.setCell ?_ (by first | exact Nat.le_refl _ | omega | (simp only [sizes]; omega)) _) | (refine Below.trans ?_ (Below.mono (by with_reducible assumption) (by first | exact Nat.le_refl _ | omega | (simp only [sizes]; omega)))))))).mono ?_
    rintro e w5 ⟨v5, rfl, ho5, hb5⟩
    have E1 := (D4.alloc (.cells #[.int .u32 T, .int .u32 G2] 25)).below hb5
    have E2 := (HasBlock.made w4 #[.int .u32 T, .int .u32 G2] 25).below hb5
    have HR4' := Lib.hid ((HR4.out.below ((Below.refl _ _).alloc (Nat.le_refl _) _ : Below w4.heap.size w4 (w4.alloc (.cells #[.int .u32 T, .int .u32 G2] 25)))).below hb5)
    have HR5 := Lib.hid ho5.row
    have hz5 := hb5.size
    simp only [sizes] at hz5
    have hbw5 : Below w.heap.size w w5 := (by repeat (first | with_reducible exact Below.refl _ _ | with_reducible refine Below.drew ?_ | (with_reducible refine Below.alloc ?_ (by first | exact Nat.le_refl _ | omega | (dsimp only; omega) | (simp only [sizes]; omega)) _) | (with_reducible refine Below.setCell ?_ (by first | exact Nat.le_refl _ | omega | (dsimp only; omega) | (simp only [sizes]; omega)) _) | (refine Below.trans ?_ (Below.mono (by with_reducible assumption) (by first | exact Nat.le_refl _ | omega | (dsimp only; omega) | (simp only [sizes]; omega))))))
    clear hb5 ho5 D4 x0 x1 xz hbw4 HM4 HR4
    obtain ⟨n4, hn4⟩ : ∃ n, w4.heap.size = n := ⟨_, rfl⟩
    rw [hn4] at E2 ⊢
    clear hn4
    have x0 := (E1.cell 0).trans rfl
    have x1 := (E1.cell 1).trans rfl
    have y0 := (E2.cell 0).trans rfl
    have y1 := (E2.cell 1).trans rfl
    have xz := E1.lt
    have yz := E2.lt
    have S := fun w a b => sameWords_self v4 v5 ys w a b hyl2
    have HS := Lib.hid S; clear S
    have C1 := fun w => count_any T G w hG
    have C2 := fun w => given_any T G w hG
    obtain ⟨cx, hcx⟩ : ∃ x, cnt G = x := ⟨_, rfl⟩
    rw [hcx] at C1 C2
    have HC1 := Lib.hid C1; clear C1
    have HC2 := Lib.hid C2; clear C2 hcx
    have I1 := fun w => in_any T G po w hG
    have I2 := fun w => rin_any T G po w hG
    obtain ⟨ix, hix⟩ : ∃ x, inI T G po = x := ⟨_, rfl⟩
    rw [hix] at I1 I2
    have HI1 := Lib.hid I1; clear I1
    have HI2 := Lib.hid I2; clear I2 hix
    have P1 := fun w => pending_any T G w hT hG
    have P2 := fun w => rpending_any T G w hT hG
    obtain ⟨px, hpx⟩ : ∃ x, pendB T G = x := ⟨_, rfl⟩
    rw [hpx] at P1 P2
    have HP1 := Lib.hid P1; clear P1
    have HP2 := Lib.hid P2; clear P2 hpx
    have M1 := fun w => may_any T G pages w hG
    have M2 := fun w => rmay_any T G pages w hG
    obtain ⟨mx, hmx⟩ : ∃ x, mayB G pages = x := ⟨_, rfl⟩
    rw [hmx] at M1 M2
    have HM1 := Lib.hid M1; clear M1
    have HM2 := Lib.hid M2; clear M2 hmx
    have HA4 := Lib.hid (HR4'.out.below ((Below.refl _ _).alloc (Nat.le_refl _) _ : Below w5.heap.size w5 (w5.alloc (.cells #[.int .u32 T, .int .u32 G2] 25))))
    have HA5 := Lib.hid (HR5.out.below ((Below.refl _ _).alloc (Nat.le_refl _) _ : Below w5.heap.size w5 (w5.alloc (.cells #[.int .u32 T, .int .u32 G2] 25))))
    go_wp2_with fail
    refine wp_region_quiet_below (by kernel_rfl) (by kernel_rfl) ?_
    repeat (go_big_quiet_step (first | fail | (first | (go_at_call 18; exact quiet_ret (HS.out _ (HA4.out.below (below_regrown _ _ _)) (HA5.out.below (below_regrown _ _ _)))) | (go_at_call 7; exact quiet_ret (HI1.out _)) | (go_at_call 19; exact quiet_ret (HI2.out _)) | (go_at_call 15; exact quiet_ret (HC1.out _)) | (go_at_call 20; exact quiet_ret (HC2.out _)) | (go_at_call 6; exact quiet_ret (HP1.out _)) | (go_at_call 21; exact quiet_ret (HP2.out _)) | (go_at_call 16; exact quiet_ret (HM1.out _)) | (go_at_call 22; exact quiet_ret (HM2.out _)) | (go_at_call 8; exact quiet_ret (awake_any _)))))
    refine wpQuiet_nil ?_
    intro w9 hw9
    have hb9 := below_of_regrown hw9
    clear hw9
    obtain ⟨hc9, hf9⟩ := bcell hb9
    have hz9 := bsize hb9
    try simp only [sizes1] at hz9
    try simp only [sizes] at hc9 hf9
    go_wp2_with fail
    go_ret
    have hs5 := hbw5.size
    exact Ret.mk (by repeat (first | with_reducible exact Below.refl _ _ | with_reducible refine Below.drew ?_ | (with_reducible refine Below.alloc ?_ (by first | exact Nat.le_refl _ | omega | (simp only [sizes]; omega)) _) | (with_reducible refine Below.setCell ?_ (by first | exact Nat.le_refl _ | omega | (simp only [sizes]; omega)) _) | (refine Below.trans ?_ (Below.mono (by with_reducible assumption) (by first | exact Nat.le_refl _ | omega | (simp only [sizes]; omega))))))
end Go.Proofs.Ytalfiiodioihdaa
