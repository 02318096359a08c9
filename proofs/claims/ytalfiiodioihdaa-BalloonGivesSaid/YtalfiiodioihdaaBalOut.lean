/-
  The balloon's port, written: balloon.Out, walked.
-/
import Derived.Test.YtalfiiodioihdaaBalMem
import Derived.Deep.RegionWith
namespace Go.Proofs.Ytalfiiodioihdaa
open Go.RowKit

def setN (G v : Nat) : Nat := G ||| 2 ^ v
def clrN (G v : Nat) : Nat := (BitVec.ofNat 32 G &&& ~~~BitVec.ofNat 32 (2 ^ v)).toNat
theorem two_lt {v : Nat} (h : v < 32) : 2 ^ v < 4294967296 := Nat.lt_of_lt_of_le (Nat.pow_lt_pow_right (by omega) h) (by decide)
theorem setN_lt {G v : Nat} (hG : G < 4294967296) (h : v < 32) : setN G v < 4294967296 := Nat.or_lt_two_pow (n := 32) hG (two_lt h)
theorem clrN_lt (G v : Nat) : clrN G v < 4294967296 := BitVec.isLt _
theorem or_u32 (G v : Nat) (hG : G < 4294967296) (h : v < 32) : bits .or .u32 (G : Int) (2 ^ v) = (setN G v : Int) := by
  show IntKind.u32.wrap ((BitVec.ofInt 32 (G : Int) ||| BitVec.ofInt 32 (2 ^ v)).toNat : Int) = _
  have e0 : ((2 : Int) ^ v) = ((2 ^ v : Nat) : Int) := by rw [Int.natCast_pow]; rfl
  have e1 : (BitVec.ofInt 32 (G : Int)).toNat = G := by rw [BitVec.ofInt_natCast, BitVec.toNat_ofNat]; exact Nat.mod_eq_of_lt hG
  have e2 : (BitVec.ofInt 32 ((2 : Int) ^ v)).toNat = 2 ^ v := by rw [e0, BitVec.ofInt_natCast, BitVec.toNat_ofNat]; exact Nat.mod_eq_of_lt (two_lt h)
  rw [BitVec.toNat_or, e1, e2, IntKind.wrap_u32]
  have := setN_lt hG h
  unfold setN at *
  omega
theorem andNot_u32 (G v : Nat) : bits .andNot .u32 (G : Int) (2 ^ v) = (clrN G v : Int) := by
  show IntKind.u32.wrap ((BitVec.ofInt 32 (G : Int) &&& ~~~BitVec.ofInt 32 (2 ^ v)).toNat : Int) = _
  have e0 : ((2 : Int) ^ v) = ((2 ^ v : Nat) : Int) := by rw [Int.natCast_pow]; rfl
  rw [e0, BitVec.ofInt_natCast, BitVec.ofInt_natCast, IntKind.wrap_u32]
  have := clrN_lt G v
  unfold clrN at *
  omega
theorem and_bit (G v : Nat) (hG : G < 4294967296) (h : v < 32) : bits .and .u32 (G : Int) (2 ^ v) = (((G.testBit v).toNat * 2 ^ v : Nat) : Int) := by
  have := and_u32 G (2 ^ v) hG (two_lt h)
  have e : G &&& 2 ^ v = (G.testBit v).toNat * 2 ^ v := by
    apply Nat.eq_of_testBit_eq
    intro i
    rw [Nat.testBit_and, Nat.testBit_two_pow]
    by_cases hi : v = i
    · subst hi
      cases G.testBit v <;> simp
    · rw [decide_eq_false hi, Bool.and_false]
      cases G.testBit v
      · simp
      · rw [Bool.toNat_true, Nat.one_mul, Nat.testBit_two_pow, decide_eq_false hi]
  rw [e, Int.natCast_pow] at this
  exact this

theorem OwnMem.set {base : Nat} {w : World} {v : Value} {xs : List Int} (h : OwnMem base w v xs) {b j : Nat} (hlt : b < base) (x : Value) : OwnMem base (w.setCell ⟨b, j, none⟩ x) v xs := ⟨ownsRow_setCell_below h.1 hlt x, h.2⟩
theorem two_mod {v : Nat} (h : v < 32) : (2 : Int) ^ v % 4294967296 = 2 ^ v := by
  have := two_lt h
  have e : (2 : Int) ^ v = ((2 ^ v : Nat) : Int) := by rw [Int.natCast_pow]; rfl
  rw [e]
  exact Int.emod_eq_of_lt (Int.natCast_nonneg _) (Int.ofNat_lt.2 this)
theorem two_ne (v : Nat) : (((2 ^ v : Nat) : Int) == 0) = false := by
  rw [beq_eq_false_iff_ne]
  exact fun h => Nat.ne_of_gt (Nat.two_pow_pos v) (Int.ofNat.inj h)
theorem two_ne' (v : Nat) : ((2 : Int) ^ v == 0) = false := by
  have e : (2 : Int) ^ v = ((2 ^ v : Nat) : Int) := by rw [Int.natCast_pow]; rfl
  rw [e]; exact two_ne v
theorem repeat_any (w : World) : Calls Try.prog 28 #[.string ⟨#[0]⟩, .int .i64 128] w (Ret w (.string zeros128)) := by
  have h := Try.strings_Repeat ⟨#[0]⟩ 128 w (by decide) (by decide)
  have e : (⟨(Lib.repeatL (⟨#[0]⟩ : ByteArray).data.toList 128).toArray⟩ : ByteArray) = zeros128 := by decide +kernel
  rw [e] at h
  exact h
/-- What is given behind the write, and the memory behind it. -/
def outG (G n : Nat) (port : Int) (v : Nat) : Nat :=
  if v < 32 then if port = 10 then if v < pagesN n ∧ G.testBit v = false then setN G v else G else if port = 11 then clrN G v else G else G
def outM (G : Nat) (xs : List Int) (port : Int) (v : Nat) : List Int :=
  if v < 32 ∧ port = 10 ∧ v < pagesN xs.length ∧ G.testBit v = false then clearP xs v 32 else xs
def RetOut (w : World) (T G : Nat) (xs : List Int) (e : Ending) (w' : World) : Prop := ∃ v, e = .returned (.tuple #[.agg #[.int .u32 T, .int .u32 G], v]) ∧ OwnMem w.heap.size w' v xs ∧ Below w.heap.size w w'
theorem out_blocks (w : World) (x0 x1 y0 y1 : Value) (T : TypeId) : HasBlock ((w.alloc (.cells #[x0, x1] T)).alloc (.cells #[y0, y1] T)) w.heap.size #[x0, x1] T ∧ HasBlock ((w.alloc (.cells #[x0, x1] T)).alloc (.cells #[y0, y1] T)) (w.heap.size + 1) #[y0, y1] T := by
  refine ⟨(HasBlock.made w _ T).alloc _, ?_⟩
  have := HasBlock.made (w.alloc (.cells #[x0, x1] T)) #[y0, y1] T
  simpa only [sizes] using this
set_option maxHeartbeats 1000000 in
theorem out_big (va : Value) (xs : List Int) (T G v : Nat) (port : Int) (w : World) (ha : MemRow w va xs) (hn : xs.length ≤ 1024) (h : 32 ≤ v) : Calls Try.prog 12 #[.agg #[.int .u32 T, .int .u32 G], va, .int .i64 port, .int .u32 v] w (RetOut w T G xs) := by
  have hrow := ha
  obtain ⟨b, off, cap, rfl, h1, h2, h0, h3, h4⟩ := ha
  clear h3 h4
  have HROW := Lib.hid hrow; clear hrow
  obtain ⟨n, hn'⟩ : ∃ n, xs.length = n := ⟨_, rfl⟩
  rw [hn'] at h0 h1 hn HROW ⊢
  have HN := Lib.hid hn'; clear hn'
  go_enter Try.func12, Try.ntmps12
  go_wp2_with fail
  go_region_with (go_at_call 25; refine (clone_any _ xs _ (HROW.out.below (by repeat (first | with_reducible exact Below.refl _ _ | with_reducible refine Below.drew ?_ | (with_reducible refine Below.alloc ?_ (by first | exact Nat.le_refl _ | omega | (simp only [sizes]; omega)) _) | (with_reducible refine Below.setCell ?_ (by first | exact Nat.le_refl _ | omega | (simp only [sizes]; omega)) _) | (refine Below.trans ?_ (Below.mono (by with_reducible assumption) (by first | exact Nat.le_refl _ | omega | (simp only [sizes]; omega))))))) (by rw [HN.out]; omega)).mono ?_; rintro e w5 ⟨v5, rfl, ho5, hb5⟩; obtain ⟨hc5, hf5⟩ := bcell hb5; have hz5 := bsize hb5; try simp only [sizes1] at hz5; try simp only [sizes] at hc5 hf5)
  all_goals
    go_wp2_with fail
    exact bodyPost_ret (v := .tuple #[.agg #[.int .u32 T, .int .u32 G], v5]) (by simp [results, Try.results12, go_sem, hc5 ]) rfl ⟨_, rfl, (((ho5.set (by simp only [sizes]; omega) _).set (by simp only [sizes]; omega) _).lower (by simp only [sizes]; omega)), (by repeat (first | with_reducible exact Below.refl _ _ | with_reducible refine Below.drew ?_ | (with_reducible refine Below.alloc ?_ (by first | exact Nat.le_refl _ | omega | (dsimp only; omega) | (simp only [sizes]; omega)) _) | (with_reducible refine Below.setCell ?_ (by first | exact Nat.le_refl _ | omega | (dsimp only; omega) | (simp only [sizes]; omega)) _) | (refine Below.trans ?_ (Below.mono (by with_reducible assumption) (by first | exact Nat.le_refl _ | omega | (dsimp only; omega) | (simp only [sizes]; omega))))))⟩
set_option maxHeartbeats 1000000 in
theorem out_else (va : Value) (xs : List Int) (T G v : Nat) (port : Int) (w : World) (ha : MemRow w va xs) (hn : xs.length ≤ 1024) (h : v < 32) (hp : port ≠ 10) (hq : port ≠ 11) : Calls Try.prog 12 #[.agg #[.int .u32 T, .int .u32 G], va, .int .i64 port, .int .u32 v] w (RetOut w T G xs) := by
  have hrow := ha
  obtain ⟨b, off, cap, rfl, h1, h2, h0, h3, h4⟩ := ha
  clear h3 h4
  have HROW := Lib.hid hrow; clear hrow
  obtain ⟨n, hn'⟩ : ∃ n, xs.length = n := ⟨_, rfl⟩
  rw [hn'] at h0 h1 hn HROW ⊢
  have HN := Lib.hid hn'; clear hn'
  have e1 : (port == 10) = false := by rw [beq_eq_false_iff_ne]; exact hp
  have e2 : (port == 11) = false := by rw [beq_eq_false_iff_ne]; exact hq
  clear hp hq
  go_enter Try.func12, Try.ntmps12
  go_wp2_with fail
  go_region_with (go_at_call 25; refine (clone_any _ xs _ (HROW.out.below (by repeat (first | with_reducible exact Below.refl _ _ | with_reducible refine Below.drew ?_ | (with_reducible refine Below.alloc ?_ (by first | exact Nat.le_refl _ | omega | (simp only [sizes]; omega)) _) | (with_reducible refine Below.setCell ?_ (by first | exact Nat.le_refl _ | omega | (simp only [sizes]; omega)) _) | (refine Below.trans ?_ (Below.mono (by with_reducible assumption) (by first | exact Nat.le_refl _ | omega | (simp only [sizes]; omega))))))) (by rw [HN.out]; omega)).mono ?_; rintro e w5 ⟨v5, rfl, ho5, hb5⟩; obtain ⟨hc5, hf5⟩ := bcell hb5; have hz5 := bsize hb5; try simp only [sizes1] at hz5; try simp only [sizes] at hc5 hf5)
  all_goals
    go_wp2_with fail
    exact bodyPost_ret (v := .tuple #[.agg #[.int .u32 T, .int .u32 G], v5]) (by simp [results, Try.results12, go_sem, hc5 ]) rfl ⟨_, rfl, (((ho5.set (by simp only [sizes]; omega) _).set (by simp only [sizes]; omega) _).lower (by simp only [sizes]; omega)), (by repeat (first | with_reducible exact Below.refl _ _ | with_reducible refine Below.drew ?_ | (with_reducible refine Below.alloc ?_ (by first | exact Nat.le_refl _ | omega | (dsimp only; omega) | (simp only [sizes]; omega)) _) | (with_reducible refine Below.setCell ?_ (by first | exact Nat.le_refl _ | omega | (dsimp only; omega) | (simp only [sizes]; omega)) _) | (refine Below.trans ?_ (Below.mono (by with_reducible assumption) (by first | exact Nat.le_refl _ | omega | (dsimp only; omega) | (simp only [sizes]; omega))))))⟩
set_option maxHeartbeats 1000000 in
theorem out_take (va : Value) (xs : List Int) (T G v : Nat) (w : World) (ha : MemRow w va xs) (hn : xs.length ≤ 1024) (_hG : G < 4294967296) (h : v < 32) : Calls Try.prog 12 #[.agg #[.int .u32 T, .int .u32 G], va, .int .i64 11, .int .u32 v] w (RetOut w T (clrN G v) xs) := by
  have hrow := ha
  obtain ⟨b, off, cap, rfl, h1, h2, h0, h3, h4⟩ := ha
  clear h3 h4
  have HROW := Lib.hid hrow; clear hrow
  obtain ⟨n, hn'⟩ : ∃ n, xs.length = n := ⟨_, rfl⟩
  rw [hn'] at h0 h1 hn HROW ⊢
  have HN := Lib.hid hn'; clear hn'
  have am := two_mod h
  have a1 := andNot_u32 G v
  have a2 := clrN_lt G v
  obtain ⟨G1, hG1⟩ : ∃ x, clrN G v = x := ⟨_, rfl⟩
  rw [hG1] at a1 a2 ⊢
  clear hG1
  go_enter Try.func12, Try.ntmps12
  go_wp2_with fail
  go_region_with (go_at_call 25; refine (clone_any _ xs _ (HROW.out.below (by repeat (first | with_reducible exact Below.refl _ _ | with_reducible refine Below.drew ?_ | (with_reducible refine Below.alloc ?_ (by first | exact Nat.le_refl _ | omega | (simp only [sizes]; omega)) _) | (with_reducible refine Below.setCell ?_ (by first | exact Nat.le_refl _ | omega | (simp only [sizes]; omega)) _) | (refine Below.trans ?_ (Below.mono (by with_reducible assumption) (by first | exact Nat.le_refl _ | omega | (simp only [sizes]; omega))))))) (by rw [HN.out]; omega)).mono ?_; rintro e w5 ⟨v5, rfl, ho5, hb5⟩; obtain ⟨hc5, hf5⟩ := bcell hb5; have hz5 := bsize hb5; try simp only [sizes1] at hz5; try simp only [sizes] at hc5 hf5)
  all_goals
    go_wp2_with fail
    exact bodyPost_ret (v := .tuple #[.agg #[.int .u32 T, .int .u32 G1], v5]) (by simp [results, Try.results12, go_sem, hc5 ]) rfl ⟨_, rfl, (((ho5.set (by simp only [sizes]; omega) _).set (by simp only [sizes]; omega) _).lower (by simp only [sizes]; omega)), (by repeat (first | with_reducible exact Below.refl _ _ | with_reducible refine Below.drew ?_ | (with_reducible refine Below.alloc ?_ (by first | exact Nat.le_refl _ | omega | (dsimp only; omega) | (simp only [sizes]; omega)) _) | (with_reducible refine Below.setCell ?_ (by first | exact Nat.le_refl _ | omega | (dsimp only; omega) | (simp only [sizes]; omega)) _) | (refine Below.trans ?_ (Below.mono (by with_reducible assumption) (by first | exact Nat.le_refl _ | omega | (dsimp only; omega) | (simp only [sizes]; omega))))))⟩
set_option maxHeartbeats 1000000 in
theorem out_keep (va : Value) (xs : List Int) (T G v : Nat) (w : World) (ha : MemRow w va xs) (hn : xs.length ≤ 1024) (hG : G < 4294967296) (h : v < 32) (hno : ¬ (v < pagesN xs.length ∧ G.testBit v = false)) : Calls Try.prog 12 #[.agg #[.int .u32 T, .int .u32 G], va, .int .i64 10, .int .u32 v] w (RetOut w T G xs) := by
  have hrow := ha
  obtain ⟨b, off, cap, rfl, h1, h2, h0, h3, h4⟩ := ha
  clear h3 h4
  have HROW := Lib.hid hrow; clear hrow
  obtain ⟨n, hn'⟩ : ∃ n, xs.length = n := ⟨_, rfl⟩
  rw [hn'] at h0 h1 hn HROW ⊢
  have HN := Lib.hid hn'; clear hn'
  rw [HN.out] at hno
  have am := two_mod h
  have a1 := and_bit G v hG h
  have P := fun w => mpages_any (some ⟨b, off, none⟩) n cap w (by omega)
  have hpl := pagesN_le n
  obtain ⟨q, hq⟩ : ∃ q, pagesN n = q := ⟨_, rfl⟩
  rw [hq] at P hno hpl
  have HP := Lib.hid P; clear P hq
  by_cases hv : v < q
  · have hb : G.testBit v = true := by
      cases hb : G.testBit v
      · exact absurd ⟨hv, hb⟩ hno
      · rfl
    rw [hb, Bool.toNat_true, Nat.one_mul] at a1
    have a2 := two_ne v
    have a3 := two_ne' v
    clear hno hb
    go_enter Try.func12, Try.ntmps12
    go_wp2_with fail
    refine (HP.out _).mono ?_
    rintro e w1 ⟨rfl, hb1⟩
    obtain ⟨hc1, hf1⟩ := bcell hb1
    have hz1 := bsize hb1
    try simp only [sizes1] at hz1
    try simp only [sizes] at hc1 hf1
    obtain ⟨D1, D2⟩ := out_blocks w (.int .u32 T) (.int .u32 G) (.int .u32 0) (.int .u32 0) 25
    replace D1 := D1.below hb1
    replace D2 := D2.below hb1
    have x0 := (D1.cell 0).trans rfl
    have x1 := (D1.cell 1).trans rfl
    have y0 := (D2.cell 0).trans rfl
    have y1 := (D2.cell 1).trans rfl
    have xf := D1.free
    have yf := D2.free
    have xz := D1.lt
    have yz := D2.lt
    clear hc1 hf1
    go_wp2_with fail
    go_region_with (go_at_call 25; refine (clone_any _ xs _ (HROW.out.below (by repeat (first | with_reducible exact Below.refl _ _ | with_reducible refine Below.drew ?_ | (with_reducible refine Below.alloc ?_ (by first | exact Nat.le_refl _ | omega | (simp only [sizes]; omega)) _) | (with_reducible refine Below.setCell ?_ (by first | exact Nat.le_refl _ | omega | (simp only [sizes]; omega)) _) | (refine Below.trans ?_ (Below.mono (by with_reducible assumption) (by first | exact Nat.le_refl _ | omega | (simp only [sizes]; omega))))))) (by rw [HN.out]; omega)).mono ?_; rintro e w5 ⟨v5, rfl, ho5, hb5⟩; obtain ⟨hc5, hf5⟩ := bcell hb5; have hz5 := bsize hb5; try simp only [sizes1] at hz5; try simp only [sizes] at hc5 hf5)
    all_goals
      go_wp2_with fail
      exact bodyPost_ret (v := .tuple #[.agg #[.int .u32 T, .int .u32 G], v5]) (by simp [results, Try.results12, go_sem, hc5 , y0, y1, yz]) rfl ⟨_, rfl, (((ho5.set (by simp only [sizes]; omega) _).set (by simp only [sizes]; omega) _).lower (by simp only [sizes]; omega)), (by repeat (first | with_reducible exact Below.refl _ _ | with_reducible refine Below.drew ?_ | (with_reducible refine Below.alloc ?_ (by first | exact Nat.le_refl _ | omega | (dsimp only; omega) | (simp only [sizes]; omega)) _) | (with_reducible refine Below.setCell ?_ (by first | exact Nat.le_refl _ | omega | (dsimp only; omega) | (simp only [sizes]; omega)) _) | (refine Below.trans ?_ (Below.mono (by with_reducible assumption) (by first | exact Nat.le_refl _ | omega | (dsimp only; omega) | (simp only [sizes]; omega))))))⟩
  · clear a1
    go_enter Try.func12, Try.ntmps12
    go_wp2_with fail
    refine (HP.out _).mono ?_
    rintro e w1 ⟨rfl, hb1⟩
    obtain ⟨hc1, hf1⟩ := bcell hb1
    have hz1 := bsize hb1
    try simp only [sizes1] at hz1
    try simp only [sizes] at hc1 hf1
    obtain ⟨D1, D2⟩ := out_blocks w (.int .u32 T) (.int .u32 G) (.int .u32 0) (.int .u32 0) 25
    replace D1 := D1.below hb1
    replace D2 := D2.below hb1
    have x0 := (D1.cell 0).trans rfl
    have x1 := (D1.cell 1).trans rfl
    have y0 := (D2.cell 0).trans rfl
    have y1 := (D2.cell 1).trans rfl
    have xf := D1.free
    have yf := D2.free
    have xz := D1.lt
    have yz := D2.lt
    clear hc1 hf1
    go_wp2_with fail
    go_region_with (go_at_call 25; refine (clone_any _ xs _ (HROW.out.below (by repeat (first | with_reducible exact Below.refl _ _ | with_reducible refine Below.drew ?_ | (with_reducible refine Below.alloc ?_ (by first | exact Nat.le_refl _ | omega | (simp only [sizes]; omega)) _) | (with_reducible refine Below.setCell ?_ (by first | exact Nat.le_refl _ | omega | (simp only [sizes]; omega)) _) | (refine Below.trans ?_ (Below.mono (by with_reducible assumption) (by first | exact Nat.le_refl _ | omega | (simp only [sizes]; omega))))))) (by rw [HN.out]; omega)).mono ?_; rintro e w5 ⟨v5, rfl, ho5, hb5⟩; obtain ⟨hc5, hf5⟩ := bcell hb5; have hz5 := bsize hb5; try simp only [sizes1] at hz5; try simp only [sizes] at hc5 hf5)
    all_goals
      go_wp2_with fail
      exact bodyPost_ret (v := .tuple #[.agg #[.int .u32 T, .int .u32 G], v5]) (by simp [results, Try.results12, go_sem, hc5 , y0, y1, yz]) rfl ⟨_, rfl, (((ho5.set (by simp only [sizes]; omega) _).set (by simp only [sizes]; omega) _).lower (by simp only [sizes]; omega)), (by repeat (first | with_reducible exact Below.refl _ _ | with_reducible refine Below.drew ?_ | (with_reducible refine Below.alloc ?_ (by first | exact Nat.le_refl _ | omega | (dsimp only; omega) | (simp only [sizes]; omega)) _) | (with_reducible refine Below.setCell ?_ (by first | exact Nat.le_refl _ | omega | (dsimp only; omega) | (simp only [sizes]; omega)) _) | (refine Below.trans ?_ (Below.mono (by with_reducible assumption) (by first | exact Nat.le_refl _ | omega | (dsimp only; omega) | (simp only [sizes]; omega))))))⟩
set_option maxHeartbeats 1000000 in
theorem out_give (va : Value) (xs : List Int) (T G v : Nat) (w : World) (ha : MemRow w va xs) (hn : xs.length ≤ 1024) (hG : G < 4294967296) (h : v < 32) (hp : v < pagesN xs.length) (hb : G.testBit v = false) : Calls Try.prog 12 #[.agg #[.int .u32 T, .int .u32 G], va, .int .i64 10, .int .u32 v] w (RetOut w T (setN G v) (clearP xs v 32)) := by
  have hrow := ha
  obtain ⟨b, off, cap, rfl, h1, h2, h0, h3, h4⟩ := ha
  clear h3 h4
  have HROW := Lib.hid hrow; clear hrow
  obtain ⟨n, hn'⟩ : ∃ n, xs.length = n := ⟨_, rfl⟩
  rw [hn'] at h0 h1 hn HROW ⊢
  have HN := Lib.hid hn'; clear hn'
  have S := fun w ha => setPage_zero (.slice (some ⟨b, off, none⟩) n cap) xs v w ha hp
  have HS := Lib.hid S; clear S
  rw [HN.out] at hp
  have am := two_mod h
  have a1 := and_bit G v hG h
  rw [hb, Bool.toNat_false, Nat.zero_mul] at a1
  have a4 := or_u32 G v hG h
  have a5 := setN_lt hG h
  obtain ⟨G1, hG1⟩ : ∃ x, setN G v = x := ⟨_, rfl⟩
  rw [hG1] at a4 a5 ⊢
  clear hG1 hb
  have P := fun w => mpages_any (some ⟨b, off, none⟩) n cap w (by omega)
  have hpl := pagesN_le n
  obtain ⟨q, hq⟩ : ∃ q, pagesN n = q := ⟨_, rfl⟩
  rw [hq] at P hp hpl
  have HP := Lib.hid P; clear P hq
  go_enter Try.func12, Try.ntmps12
  go_wp2_with fail
  refine (HP.out _).mono ?_
  rintro e w1 ⟨rfl, hb1⟩
  obtain ⟨hc1, hf1⟩ := bcell hb1
  have hz1 := bsize hb1
  try simp only [sizes1] at hz1
  try simp only [sizes] at hc1 hf1
  obtain ⟨D1, D2⟩ := out_blocks w (.int .u32 T) (.int .u32 G) (.int .u32 0) (.int .u32 0) 25
  replace D1 := D1.below hb1
  replace D2 := D2.below hb1
  have x0 := (D1.cell 0).trans rfl
  have x1 := (D1.cell 1).trans rfl
  have y0 := (D2.cell 0).trans rfl
  have y1 := (D2.cell 1).trans rfl
  have xf := D1.free
  have yf := D2.free
  have xz := D1.lt
  have yz := D2.lt
  clear hc1 hf1
  go_wp2_with fail
  refine (repeat_any _).mono ?_
  rintro e w2 ⟨rfl, hb2⟩
  obtain ⟨hc2, hf2⟩ := bcell hb2
  have hz2 := bsize hb2
  try simp only [sizes1] at hz2
  try simp only [sizes] at hc2 hf2
  go_wp2_with fail
  refine (HS.out _ (HROW.out.below (by repeat (first | with_reducible exact Below.refl _ _ | with_reducible refine Below.drew ?_ | (with_reducible refine Below.alloc ?_ (by first | exact Nat.le_refl _ | omega | (simp only [sizes]; omega)) _) | (with_reducible refine Below.setCell ?_ (by first | exact Nat.le_refl _ | omega | (simp only [sizes]; omega)) _) | (refine Below.trans ?_ (Below.mono (by with_reducible assumption) (by first | exact Nat.le_refl _ | omega | (simp only [sizes]; omega)))))))).mono ?_
  rintro e w5 ⟨v5, rfl, ho5, hb5⟩
  have hz5 := bsize hb5
  have E1 := ((D1.set_at 1 (.int .u32 G1)).below hb2).below hb5
  have E2 := ((D2.set_ne (b' := w.heap.size) (j := 1) (by omega) (.int .u32 G1)).below hb2).below hb5
  clear x0 x1 y0 y1 xf yf xz yz hc2 hf2
  have x0 := (E1.cell 0).trans rfl
  have x1 := (E1.cell 1).trans rfl
  have y0 := (E2.cell 0).trans rfl
  have y1 := (E2.cell 1).trans rfl
  have xf := E1.free
  have yf := E2.free
  have xz := E1.lt
  have yz := E2.lt
  go_wp2_with fail
  exact bodyPost_ret (v := .tuple #[.agg #[.int .u32 T, .int .u32 G1], v5]) (by simp [results, Try.results12, go_sem, y0, y1]) rfl ⟨_, rfl, (((ho5.set (by omega) _).set (by omega) _).lower (by omega)), (by repeat (first | with_reducible exact Below.refl _ _ | with_reducible refine Below.drew ?_ | (with_reducible refine Below.alloc ?_ (by first | exact Nat.le_refl _ | omega | (dsimp only; omega) | (simp only [sizes]; omega)) _) | (with_reducible refine Below.setCell ?_ (by first | exact Nat.le_refl _ | omega | (dsimp only; omega) | (simp only [sizes]; omega)) _) | (refine Below.trans ?_ (Below.mono (by with_reducible assumption) (by first | exact Nat.le_refl _ | omega | (dsimp only; omega) | (simp only [sizes]; omega))))))⟩
theorem out_any (va : Value) (xs : List Int) (T G v : Nat) (port : Int) (w : World) (ha : MemRow w va xs) (hn : xs.length ≤ 1024) (hG : G < 4294967296) : Calls Try.prog 12 #[.agg #[.int .u32 T, .int .u32 G], va, .int .i64 port, .int .u32 v] w (RetOut w T (outG G xs.length port v) (outM G xs port v)) := by
  unfold outG outM
  by_cases h : v < 32
  · by_cases h10 : port = 10
    · subst h10
      by_cases hp : v < pagesN xs.length ∧ G.testBit v = false
      · rw [if_pos h, if_pos rfl, if_pos hp, if_pos ⟨h, rfl, hp.1, hp.2⟩]
        exact out_give va xs T G v w ha hn hG h hp.1 hp.2
      · rw [if_pos h, if_pos rfl, if_neg hp, if_neg (fun e => hp e.2.2)]
        exact out_keep va xs T G v w ha hn hG h hp
    · rw [if_pos h, if_neg h10, if_neg (c := v < 32 ∧ port = 10 ∧ v < pagesN xs.length ∧ G.testBit v = false) (fun e => h10 e.2.1)]
      by_cases h11 : port = 11
      · subst h11
        rw [if_pos rfl]
        exact out_take va xs T G v w ha hn hG h
      · rw [if_neg h11]
        exact out_else va xs T G v port w ha hn h h10 h11
  · rw [if_neg h, if_neg (fun e => h e.1)]
    exact out_big va xs T G v port w ha hn (by omega)
end Go.Proofs.Ytalfiiodioihdaa
