/-
  The law on what is given, walked.
-/
import Derived.Test.YtalfiiodioihdaaBalChanged
namespace Go.Proofs.Ytalfiiodioihdaa
open Go.RowKit

theorem set_bit {G v : Nat} (i : Nat) : (setN G v).testBit i = (G.testBit i || decide (v = i)) := by
  unfold setN
  rw [Nat.testBit_or, Nat.testBit_two_pow]
theorem clr_bit {G v : Nat} (hv : v < 32) {i : Nat} (hi : i < 32) : (clrN G v).testBit i = (G.testBit i && !decide (v = i)) := by
  unfold clrN
  rw [BitVec.testBit_toNat, BitVec.getLsbD_and, BitVec.getLsbD_not, BitVec.getLsbD_ofNat, BitVec.getLsbD_ofNat, Nat.testBit_two_pow]
  simp [hi]
def bl (G : Nat) : List Bool := (List.range 32).map (fun i => G.testBit i)
theorem bl_len (G : Nat) : (bl G).length = 32 := by simp [bl]
theorem bl_at {G i : Nat} (h : i < 32) : (bl G)[i]? = some (G.testBit i) := by
  unfold bl
  rw [List.getElem?_map, List.getElem?_range h]
  rfl
theorem bl_ext {D : List Bool} {G : Nat} (hl : D.length = 32) (h : ∀ i, i < 32 → D[i]? = some (G.testBit i)) : D = bl G := by
  apply List.ext_getElem?
  intro i
  by_cases hi : i < 32
  · rw [h i hi, bl_at hi]
  · rw [List.getElem?_eq_none (by omega), List.getElem?_eq_none (by rw [bl_len]; omega)]
theorem bl_set {G v : Nat} (_hv : v < 32) : (bl G).set v true = bl (setN G v) := by
  apply bl_ext (by rw [List.length_set, bl_len])
  intro i hi
  rw [List.getElem?_set, set_bit]
  by_cases e : v = i
  · subst e; rw [if_pos rfl, if_pos (by rw [bl_len]; omega)]; simp
  · rw [if_neg e, bl_at hi, decide_eq_false e, Bool.or_false]
theorem bl_clr {G v : Nat} (hv : v < 32) : (bl G).set v false = bl (clrN G v) := by
  apply bl_ext (by rw [List.length_set, bl_len])
  intro i hi
  rw [List.getElem?_set, clr_bit hv hi]
  by_cases e : v = i
  · subst e; rw [if_pos rfl, if_pos (by rw [bl_len]; omega)]; simp
  · rw [if_neg e, bl_at hi, decide_eq_false e, Bool.not_false, Bool.and_true]
def blArr (G : Nat) : Array Value := ((bl G).map Value.bool).toArray
theorem blArr_at {G i : Nat} (h : i < 32) : (blArr G)[i]? = some (.bool (G.testBit i)) := by
  unfold blArr
  rw [List.getElem?_toArray, List.getElem?_map, bl_at h]
  rfl
theorem blArr_set {G v : Nat} (_hv : v < 32) : (blArr G).setIfInBounds v (.bool true) = blArr (setN G v) := by
  unfold blArr
  rw [← bl_set _hv, List.map_set]
  simp
theorem blArr_clr {G v : Nat} (hv : v < 32) : (blArr G).setIfInBounds v (.bool false) = blArr (clrN G v) := by
  unfold blArr
  rw [← bl_clr hv, List.map_set]
  simp
theorem blArr_zero : blArr 0 = (List.replicate 32 (Value.bool false)).toArray := by
  unfold blArr
  rw [show bl 0 = List.replicate 32 false by decide, List.map_replicate]
/-! pages of a memory of which one is cleared -/
theorem clearP_get (xs : List Int) (p : Nat) : ∀ (k i : Nat), p * 32 + k ≤ xs.length → (clearP xs p k)[i]? = if p * 32 ≤ i ∧ i < p * 32 + k then some 0 else xs[i]?
  | 0, i, _ => by rw [clearP, if_neg (by omega)]
  | k + 1, i, h => by
    rw [clearP, List.getElem?_set, clearP_len]
    by_cases e : p * 32 + k = i
    · rw [if_pos e, if_pos (by omega), if_pos (by omega)]
    · rw [if_neg e, clearP_get xs p k i (by omega)]
      by_cases h1 : p * 32 ≤ i ∧ i < p * 32 + k
      · rw [if_pos h1, if_pos (by omega)]
      · rw [if_neg h1, if_neg (by omega)]
theorem clearP_page {xs : List Int} {p k : Nat} (h : p * 32 + 32 ≤ xs.length) (hk : k ≠ p) : pageOf (clearP xs p 32) k = pageOf xs k := by
  apply List.ext_getElem?
  intro i
  unfold pageOf
  rw [List.getElem?_take, List.getElem?_take]
  split
  · rw [List.getElem?_drop, List.getElem?_drop, clearP_get xs p 32 _ h, if_neg]
    intro hh
    rcases Nat.lt_or_gt_of_ne hk with h1 | h1
    · have : k * 32 + 32 ≤ p * 32 := by omega
      omega
    · have : p * 32 + 32 ≤ k * 32 := by omega
      omega
  · rfl
theorem chL_self (xs : List Int) (k : Nat) : chL xs xs k = [] := by
  induction k with
  | zero => rfl
  | succ k ih => rw [chL, if_pos rfl, ih]
theorem chL_one {xs : List Int} {p : Nat} (h : p * 32 + 32 ≤ xs.length) : ∀ k, chL xs (clearP xs p 32) k = [] ∨ chL xs (clearP xs p 32) k = [(p : Int)]
  | 0 => .inl rfl
  | k + 1 => by
    rw [chL]
    split
    · exact chL_one h k
    · rename_i hne
      by_cases e : k = p
      · subst e
        right
        have : chL xs (clearP xs k 32) k = [] := by
          have h2 : ∀ j, j ≤ k → chL xs (clearP xs k 32) j = [] := by
            intro j
            induction j with
            | zero => intro _; rfl
            | succ j ih => intro hj; rw [chL, if_pos (clearP_page h (by omega)).symm, ih (by omega)]
          exact h2 k (Nat.le_refl _)
        rw [this]; rfl
      · exact absurd (clearP_page h e).symm hne
theorem and_one (x : Int) : bits .and .i64 x 1 = 0 ∨ bits .and .i64 x 1 = 1 := by
  have h : ((BitVec.ofInt 64 x &&& BitVec.ofInt 64 1).toNat) ≤ 1 := by
    rw [BitVec.toNat_and]
    exact Nat.and_le_right
  have e : bits .and .i64 x 1 = IntKind.i64.wrap ((BitVec.ofInt 64 x &&& BitVec.ofInt 64 1).toNat : Int) := rfl
  rw [e, IntKind.wrap_i64]
  omega

theorem make_bools (w : World) : (Instr.makeSlice 34 (.int .i64 32) (.int .i64 32)).run Try.prog w = .ok (.slice (some ⟨w.heap.size, 0, none⟩) 32 32) (w.alloc (.cells (blArr 0) 4)) := by
  rw [blArr_zero]
  exact run_make_one 34 4 (.bool false) 1 Try.underlying34 (by kernel_rfl) rfl 32 (by omega) (by omega) w
theorem out_give_eq {G n v : Nat} {xs : List Int} (hl : xs.length = n) (h : v < 32) (hP : v < pagesN n) (hb : G.testBit v = false) : outG G n 10 v = setN G v ∧ outM G xs 10 v = clearP xs v 32 := by
  unfold outG outM
  rw [if_pos h, if_pos rfl, if_pos ⟨hP, hb⟩, if_pos ⟨h, rfl, by rw [hl]; exact hP, hb⟩]
  exact ⟨rfl, rfl⟩
theorem out_keep_eq {G n v : Nat} {xs : List Int} (hl : xs.length = n) (h : ¬ (v < pagesN n ∧ G.testBit v = false)) : outG G n 10 v = G ∧ outM G xs 10 v = xs := by
  unfold outG outM
  rw [if_pos rfl, if_neg h, ite_self, if_neg (fun e => h (by rw [← hl]; exact e.2.2))]
  exact ⟨rfl, rfl⟩
theorem out_take_eq {G n v : Nat} {xs : List Int} (h : v < 32) : outG G n 11 v = clrN G v ∧ outM G xs 11 v = xs := by
  unfold outG outM
  rw [if_pos h, if_neg (by decide), if_pos rfl, if_neg (fun e => absurd e.2.1 (by decide))]
  exact ⟨rfl, rfl⟩
def OutIs (w : World) (L G1 : Nat) (ys : List Int) (e : Ending) (w' : World) : Prop := ∃ g cap, e = .returned (.tuple #[.agg #[.int .u32 0, .int .u32 G1], .slice (some ⟨g, 0, none⟩) L cap]) ∧ L ≤ cap ∧ cap ≤ 9223372036854775807 ∧ w'.ownsRow w.heap.size 22 1 (.slice (some ⟨g, 0, none⟩) L cap) L (words ys) ∧ Below w.heap.size w w'
theorem out_is (va : Value) (xs : List Int) (G v L : Nat) (port : Int) (w : World) (ha : MemRow w va xs) (hL : xs.length = L) (hn : L ≤ 1024) (hG : G < 4294967296) : Calls Try.prog 12 #[.agg #[.int .u32 0, .int .u32 G], va, .int .i64 port, .int .u32 v] w (OutIs w L (outG G L port v) (outM G xs port v)) := by
  have h := out_any va xs 0 G v port w ha (by omega) hG
  rw [hL] at h
  refine h.mono ?_
  rintro e w' ⟨v', rfl, ho, hb⟩
  have hl := outM_len G xs port v
  unfold OwnMem at ho
  rw [hl, hL] at ho
  rcases ho.1.2 with ⟨_, hbad⟩ | ⟨g, cap, _, rfl, _, _, h1, h2, _⟩
  · omega
  · unfold maxLen at h2
    exact ⟨g, cap, rfl, h1, by omega, ho.1, hb⟩
theorem made_zeros (w : World) : (Instr.makeSlice 41 (.int .i64 128) (.int .i64 128)).run Try.prog w = .ok (.slice (some ⟨w.heap.size, 0, none⟩) 128 128) (w.alloc (.cells (zb 128).toArray 5)) :=
  run_make_one 41 5 (.int .u8 0) 1 Try.underlying41 (by kernel_rfl) rfl 128 (by omega) (by omega) w
theorem made_string (w : World) : (convert 41 9 (.slice (some ⟨w.heap.size, 0, none⟩) 128 128)).run Try.prog (w.alloc (.cells (zb 128).toArray 5)) = .ok (.string zeros128) (w.alloc (.cells (zb 128).toArray 5)) := by
  have ho := owns_full w w.heap.size 5 1 128 (zb 128) (by simp [zb]) (by decide) (Nat.le_refl _)
  obtain ⟨g, cap, e, _, _, h⟩ := zeros_string ho (by omega)
  rw [show strOfNums (List.replicate 128 0) = zeros128 by decide +kernel] at h
  exact h
theorem owns_lower {w : World} {base base' : Nat} {e : TypeId} {size n : Nat} {v : Value} {xs : List Value} (h : w.ownsRow base e size v n xs) (hb : base' ≤ base) : w.ownsRow base' e size v n xs := by
  obtain ⟨h1, h2⟩ := h
  refine ⟨h1, ?_⟩
  rcases h2 with h2 | ⟨g, cap, cur, e1, e2, h3⟩
  · exact .inl h2
  · exact .inr ⟨g, cap, cur, e1, Nat.le_trans hb e2, h3⟩
theorem cell_one {w : World} {b o B i : Nat} {u x : Value} (h : w.cell? ⟨b, o, none⟩ = some u) (hne : b ≠ B) : (w.setCell ⟨B, i, none⟩ x).cell? ⟨b, o, none⟩ = some u := by
  unfold World.cell? at *
  rw [Below.heap_setCell w _ x b hne]
  exact h
theorem cell_two {w : World} {b o B i j : Nat} {u x y : Value} (h : w.cell? ⟨b, o, none⟩ = some u) (hne : b ≠ B) : ((w.setCell ⟨B, i, none⟩ x).setCell ⟨B, j, none⟩ y).cell? ⟨b, o, none⟩ = some u := by
  have h1 : ∀ (w : World) (j : Nat) (y : Value), (w.setCell ⟨B, j, none⟩ y).cell? ⟨b, o, none⟩ = w.cell? ⟨b, o, none⟩ := by
    intro w j y
    unfold World.cell?
    rw [Below.heap_setCell w _ y b hne]
  rw [h1, h1, h]
set_option maxRecDepth 100000 in
set_option maxHeartbeats 8000000 in
theorem gives_in (va : Value) (ls : List Int) (n pages : Int) (w : World) (ha : IntRow w va ls) (h : ls.length ≤ 60) (hp : -9223372036854775808 ≤ pages ∧ pages ≤ 9223372036854775807) (hb : ∀ x ∈ ls, -9223372036854775808 ≤ x ∧ x ≤ 9223372036854775807) :
    Calls Try.prog 4 #[.int .i64 n, .int .i64 pages, va] w (Ret w (.bool true)) := by
  obtain ⟨ao, ca, rfl, a1, a2, a3⟩ := ha.out
  unfold maxLen at a2
  clear ha
  obtain ⟨N, hN⟩ : ∃ n, ls.length = n := ⟨_, rfl⟩
  rw [hN] at h a1 a3 ⊢
  have HN := Lib.hid hN; clear hN
  have HB := Lib.hid hb; clear hb
  have hpm := Int.emod_lt_of_pos pages (show (0 : Int) < 8 by omega)
  have hpm2 := Int.emod_nonneg pages (show (8 : Int) ≠ 0 by omega)
  obtain ⟨P, hP⟩ : ∃ P, P = 1 + (pages % 8).toNat := ⟨_, rfl⟩
  have W := fun w => words_any n pages w hp
  rw [← hP] at W
  have hP8 : 1 ≤ P ∧ P ≤ 8 := by omega
  clear hpm hpm2 hP hp
  have HW := Lib.hid W; clear W
  have hmk := make_bools
  go_enter Try.func4, Try.ntmps4
  go_wp2_with fail
  refine (HW.out _).mono ?_
  rintro e w1 ⟨v1, xs, rfl, hlen, ho1, hb1⟩
  have hz1 := hb1.size
  unfold OwnMem at ho1
  rw [hlen] at ho1
  have HX0 := Lib.hid hlen; clear hlen
  obtain ⟨L, hL⟩ : ∃ L, P * 32 = L := ⟨_, rfl⟩
  rw [hL] at ho1 HX0
  have hL2 : 32 ≤ L ∧ L ≤ 256 := by omega
  rcases ho1.1.2 with ⟨_, hbad⟩ | ⟨g, cap1, _, hvv, hg, _, hgc, hgm, _⟩
  · omega
  subst hvv
  unfold maxLen at hgm
  have hgl := (ho1.1.lt g rfl)
  have HO := Lib.hid ho1.1; clear ho1
  have hPL : pagesN L = P := by unfold pagesN; rw [if_pos ⟨by omega, by omega⟩]; omega
  have PG := fun w ao cap => rpages_any ao L cap w (by omega)
  rw [hPL] at PG
  have HPG := Lib.hid PG; clear PG
  have HPL := Lib.hid hPL; clear hPL
  have HLL := Lib.hid hL; clear hL
  go_wp2_with fail
  refine (HPG.out _ _ _).mono ?_
  rintro e w2 ⟨rfl, hb2⟩
  have hz2 := hb2.size
  have hbw2 : Below w.heap.size w w2 := hb1.trans (hb2.mono hz1)
  have HO2 := Lib.hid (owns_below HO.out hb2)
  clear hb1 hb2 HO
  go_wp2_with fail
  have E1 := (HasBlock.made w2 #[.int .u32 0, .int .u32 0] 25).alloc (.cells (blArr 0) 4)
  have E2 := HasBlock.made (w2.alloc (.cells #[.int .u32 0, .int .u32 0] 25)) (blArr 0) 4
  have hbw3 : Below w.heap.size w ((w2.alloc (.cells #[.int .u32 0, .int .u32 0] 25)).alloc (.cells (blArr 0) 4)) := (by repeat (first | with_reducible exact Below.refl _ _ | with_reducible refine Below.drew ?_ | (with_reducible refine Below.alloc ?_ (by first | exact Nat.le_refl _ | omega | (dsimp only; omega) | (simp only [sizes]; omega)) _) | (with_reducible refine Below.setCell ?_ (by first | exact Nat.le_refl _ | omega | (dsimp only; omega) | (simp only [sizes]; omega)) _) | (refine Below.trans ?_ (Below.mono (by with_reducible assumption) (by first | exact Nat.le_refl _ | omega | (dsimp only; omega) | (simp only [sizes]; omega))))))
  have HO3 := Lib.hid ((HO2.out.alloc (.cells #[.int .u32 0, .int .u32 0] 25)).alloc (.cells (blArr 0) 4))
  simp only [sizes] at E2
  clear hbw2 HO2
  have hgne : g < w2.heap.size := by omega
  obtain ⟨B, hB⟩ : ∃ B, w2.heap.size = B := ⟨_, rfl⟩
  rw [hB] at E1 E2 hgne ⊢
  have hwB : w.heap.size ≤ B := by omega
  clear hB
  go_loopw [7, 11] (fun mv i wr => ∃ (k G : Nat) (xs : List Int) (g cap : Nat), k ≤ N ∧ i = .int .i64 k ∧ mv = .slice (some ⟨g, 0, none⟩) L cap ∧ L ≤ cap ∧ cap ≤ 9223372036854775807 ∧ Hid (xs.length = L) ∧ g ≠ B ∧ g ≠ B + 1 ∧ wr.ownsRow w.heap.size 22 1 mv L (words xs) ∧ G < 4294967296 ∧ Hid (∀ i, i < 32 → G.testBit i = true → i < P) ∧ HasBlock wr B #[.int .u32 0, .int .u32 G] 25 ∧ HasBlock wr (B + 1) (blArr G) 4 ∧ Below w.heap.size w wr) (fun _ i _ => N - (intOf i).toNat)
  case atStart => exact ⟨0, 0, xs, g, cap1, Nat.zero_le _, rfl, rfl, hgc, by omega, HX0.out, by omega, by omega, HO3.out, by omega, (fun i _ h => by simp at h), E1, E2, hbw3⟩
  case round =>
    obtain ⟨k, G, xs, g, cap, hk, rfl, rfl, hgc, hgm, HX, hg1, hg2, hown, hG, HI, D1, D2, hbw⟩ := hrel
    clear HX0 HO3 E1 E2 hbw3
    have hsz0 := hbw.size
    have x0 := (D1.cell 0).trans rfl
    have x1 := (D1.cell 1).trans rfl
    have xf := D1.free
    have xz := D1.lt
    have zf := D2.free
    have zz := D2.lt
    by_cases hlt : k < N
    · obtain ⟨x, hx⟩ := get_lt (xs := ls) (k := k) (by rw [HN.out]; exact hlt)
      have hxb := HB.out x (List.mem_of_getElem? hx)
      obtain ⟨b, off, rfl, hbs, hbc⟩ := a3.resolve_left (by omega)
      have hcx := (hbw.cell (p := ⟨b, off + k, none⟩) hbs).trans (hbc k x hx)
      clear hx hbc a3
      have hbs2 : b < wr.heap.size := by omega
      have v1 := Int.emod_nonneg (x / 2) (show (10 : Int) ≠ 0 by omega)
      have v2 := Int.emod_lt_of_pos (x / 2) (show (0 : Int) < 10 by omega)
      have R := fun w => round_any (x / 2) 10 w (by omega) (by omega) (by omega)
      obtain ⟨vn, hvn⟩ : ∃ v : Nat, x / 2 % 10 = v := ⟨(x / 2 % 10).toNat, by omega⟩
      rw [hvn] at R v1 v2
      have HR := Lib.hid R; clear R hvn
      obtain ⟨pb, hpb⟩ : ∃ p, bits .and .i64 x 1 = p := ⟨_, rfl⟩
      have hpor := and_one x
      rw [hpb] at hpor
      have HO := Lib.hid hown; clear hown
      have HM := Lib.hid (OwnMem.row (base := w.heap.size) ⟨by rw [HX.out]; exact HO.out, by rw [HX.out]; omega⟩ : MemRow wr (.slice (some ⟨g, 0, none⟩) xs.length cap) xs)
      rcases hpor with rfl | rfl
      · by_cases hvP : vn < P
        · cases hbt : G.testBit vn
          · obtain ⟨G1, hGe⟩ : ∃ G1, setN G vn = G1 := ⟨_, rfl⟩
            obtain ⟨ys, hye⟩ : ∃ ys, clearP xs vn 32 = ys := ⟨_, rfl⟩
            have HGE := Lib.hid hGe; clear hGe
            have HYE := Lib.hid hye; clear hye
            have O := fun w ha => out_is (.slice (some ⟨g, 0, none⟩) L cap) xs G vn L 10 w ha HX.out (by omega) hG
            obtain ⟨eG, eM⟩ := (show outG G L 10 vn = G1 ∧ outM G xs 10 vn = ys by rw [← HGE.out, ← HYE.out]; exact out_give_eq HX.out (by omega) (by rw [HPL.out]; exact hvP) hbt)
            rw [eG, eM] at O
            have hG1 : (G1) < 4294967296 := (by rw [← HGE.out]; exact setN_lt hG (by omega))
            have HYL : Hid ((ys).length = L) := (by unfold Hid; rw [← HYE.out]; exact (clearP_len _ _ _).trans HX.out)
            have HOU := Lib.hid O; clear O eG eM
            go_wp2_with fail
            refine (HR.out _).mono ?_
            rintro e w3 ⟨rfl, hb3⟩
            have D1' := D1.below hb3
            have D2' := D2.below hb3
            have hM3 := HM.out.below hb3
            rw [HX.out] at hM3
            have hbw3 : Below w.heap.size w w3 := hbw.trans (hb3.mono hbw.size)
            have hcx3 := (hb3.cell (p := ⟨b, off + k, none⟩) hbs2).trans hcx
            clear hb3 hbw x0 x1 xf xz zf zz D1 D2 hcx HO HM
            have x0 := (D1'.cell 0).trans rfl
            have x1 := (D1'.cell 1).trans rfl
            have xf := D1'.free
            have xz := D1'.lt
            have zf := D2'.free
            have zz := D2'.lt
            have hbs3 := hbw3.size
            have hbs4 : b < w3.heap.size := by omega
            go_wp2_with fail
            refine (HOU.out _ hM3).mono ?_
            rintro e w5 ⟨g5, cap5, rfl, hc51, hc52, ho5, hb5⟩
            have hz5 := hb5.size
            have zc5 := ((D2'.below hb5).cell vn).trans (blArr_at (G := G) (i := vn) (by omega))
            rw [hbt] at zc5
            have zz5 := (D2'.below hb5).lt
            go_wp2_with fail
            have E1 := (D1'.below hb5).alloc (.cells #[.int .u32 0, .int .u32 (G1)] 25)
            have E2 := (D2'.below hb5).alloc (.cells #[.int .u32 0, .int .u32 (G1)] 25)
            have E3 := HasBlock.made w5 #[.int .u32 0, .int .u32 (G1)] 25
            have hM5 := (hM3.below hb5).below ((Below.refl _ _).alloc (Nat.le_refl _) _ : Below w5.heap.size w5 (w5.alloc (.cells #[.int .u32 0, .int .u32 (G1)] 25)))
            have ho6 := ho5.alloc (.cells #[.int .u32 0, .int .u32 (G1)] 25)
            have hg5 := ho6.lt g5 rfl
            have hg5B : B + 1 < g5 := by have := D2'.lt; omega
            have hN5 := OwnMem.row (base := w3.heap.size) ⟨by rw [HYL.out]; exact ho6, by rw [HYL.out]; omega⟩
            try rw [HYL.out] at hN5
            have hbw6 : Below w.heap.size w (w5.alloc (.cells #[.int .u32 0, .int .u32 (G1)] 25)) := (hbw3.trans (hb5.mono hbw3.size)).alloc (by omega) _
            have hcx5 := (hb5.cell (p := ⟨b, off + k, none⟩) hbs4).trans hcx3
            have hcx6 := (((Below.refl w5.heap.size w5).alloc (Nat.le_refl _) (.cells #[.int .u32 0, .int .u32 (G1)] 25)).cell (p := ⟨b, off + k, none⟩) (show b < w5.heap.size by omega)).trans hcx5
            clear hb5 zc5 hbw3 D1' D2' hM3 x0 x1 xf xz zf zz ho5 hcx3
            generalize hW : w5.alloc (.cells #[.int .u32 0, .int .u32 (G1)] 25) = w6 at E1 E2 E3 hM5 ho6 hg5 hN5 hbw6 hcx6 ⊢
            clear hW
            have s6 := hbw6.size
            have zb6 : b < w6.heap.size := by omega
            obtain ⟨n5, hn5⟩ : ∃ n, w5.heap.size = n := ⟨_, rfl⟩
            rw [hn5] at E3 zz5 ⊢
            clear hn5 hz5
            have HI1 : Hid (∀ i, i < 32 → G1.testBit i = true → i < P) := fun i hi h => by
              rw [← HGE.out, set_bit, Bool.or_eq_true] at h
              rcases h with h | h
              · exact HI.out i hi h
              · have := of_decide_eq_true h; omega
            have hfit : vn * 32 + 32 ≤ xs.length := by rw [HX.out]; have := HLL.out; omega
            have hch := chL_one (xs := xs) (p := vn) hfit (xs.length / 32)
            rw [HYE.out] at hch
            have hpz : ∀ j, j < 32 → ys[vn * 32 + j]? = some 0 := fun j hj => by rw [← HYE.out, clearP_get xs vn 32 _ hfit, if_pos (by omega)]
            have hpp : vn < pagesN ys.length := by rw [HYL.out, HPL.out]; exact hvP
            have PZ := fun w ha => page_zero (.slice (some ⟨g5, 0, none⟩) L cap5) ys vn w ha hpp hpz
            obtain ⟨z8, hz8⟩ : ∃ z, zeros128 = z := ⟨_, rfl⟩
            rw [hz8] at PZ
            have HZ8 := Lib.hid hz8; clear hz8
            have HPZ := Lib.hid PZ; clear PZ hpp hpz
            refine (changed_any _ _ xs ys _ hM5 hN5 (HYL.out.trans HX.out.symm) (by rw [HX.out]; omega) (by rw [HX.out]; have := HLL.out; omega)).mono ?_
            rintro e w7 ⟨v7, rfl, hr7, hb7⟩
            have F1 := E1.below hb7
            have F2 := E2.below hb7
            have F3 := E3.below hb7
            have HO8 := Lib.hid (owns_below ho6 hb7)
            have HN8 := Lib.hid (hN5.below hb7)
            have hbw8 : Below w.heap.size w w7 := hbw6.trans (hb7.mono hbw6.size)
            have hcx8 := (hb7.cell (p := ⟨b, off + k, none⟩) zb6).trans hcx6
            have zb8 : b < w7.heap.size := Nat.lt_of_lt_of_le zb6 hb7.size
            clear hb7 hbw6 ho6 hcx6 E1 E2 E3 hM5 hN5 s6 zb6 hfit
            obtain ⟨cl, hcl⟩ : ∃ cl, chL xs ys (xs.length / 32) = cl := ⟨_, rfl⟩
            rw [hcl] at hr7 hch
            have hcc : ∃ (ao7 : Option Addr) (ca7 : Nat), v7 = .slice ao7 cl.length ca7 ∧ (cl = [] ∨ (cl = [(vn : Int)] ∧ ∃ b7 o7, ao7 = some ⟨b7, o7, none⟩ ∧ w7.cell? ⟨b7, o7, none⟩ = some (.int .i64 vn))) := by
              obtain ⟨ao7, ca7, e, _, _, h3⟩ := hr7.out
              refine ⟨ao7, ca7, e, ?_⟩
              rcases hch with h | h
              · exact .inl h
              · right
                refine ⟨h, ?_⟩
                rcases h3 with h3 | ⟨b7, o7, e7, _, h7⟩
                · rw [h] at h3; simp at h3
                · exact ⟨b7, o7, e7, by have := h7 0 vn (by rw [h]; rfl); rwa [Nat.add_zero] at this⟩
            clear hr7 hch hcl
            obtain ⟨ao7, ca7, rfl, hcc⟩ := hcc
            have HCC := Lib.hid hcc; clear hcc
            rcases HCC.out with hcc | ⟨hcc, b7, o7, rfl, hc7⟩
            all_goals
              subst hcc
              clear HCC
              have zf := F2.free
              have zz := F2.lt
              go_wp2_with fail
              refine (HPZ.out _ HN8.out).mono ?_
              rintro e w9 ⟨rfl, hb9⟩
              replace F1 := F1.below hb9
              replace F2 := F2.below hb9
              replace F3 := F3.below hb9
              have HO9 := Lib.hid (owns_below HO8.out hb9)
              have hbw9 := hbw8.trans (hb9.mono hbw8.size)
              have hcx9 := (hb9.cell (p := ⟨b, off + k, none⟩) zb8).trans hcx8
              have zb9 : b < w9.heap.size := Nat.lt_of_lt_of_le zb8 hb9.size
              clear hb9 hbw8 hcx8 zb8 HO8 HN8 zf zz
              have zf := F2.free
              have zz := F2.lt
              have zc9 := (F2.cell vn).trans (blArr_at (G := G) (i := vn) (by omega))
              have hmk8 := made_zeros
              have hms := made_string
              rw [HZ8.out] at hms
              go_upto_region 24 with (fail)
              clear hmk8 hms zf zz zc9
              have J1 := (F1.set_ne (b' := B + 1) (j := vn) (by omega) (.bool true)).alloc (.cells (zb 128).toArray 5)
              have J2 := (F2.set_at vn (.bool true)).alloc (.cells (zb 128).toArray 5)
              rw [blArr_set (by omega), HGE.out] at J2
              have J3 := (F3.set_ne (b' := B + 1) (j := vn) (by omega) (.bool true)).alloc (.cells (zb 128).toArray 5)
              have JO := (owns_set_ne (b := B + 1) (j := vn) HO9.out (own_ne (by omega)) (.bool true)).alloc (.cells (zb 128).toArray 5)
              have jbw0 := hbw9.setCell (show w.heap.size ≤ (⟨B + 1, vn, none⟩ : Addr).block from Nat.le_succ_of_le hwB) (.bool true)
              have jbw := jbw0.alloc jbw0.size (.cells (zb 128).toArray 5)
              have jcx0 := cell_one (B := B + 1) (i := vn) (x := .bool true) hcx9 (by omega)
              have jzb0 : b < (w9.setCell ⟨B + 1, vn, none⟩ (.bool true)).heap.size := by rw [World.size_setCell]; exact zb9
              have jcx := (((Below.refl _ (w9.setCell ⟨B + 1, vn, none⟩ (.bool true))).alloc (Nat.le_refl _) (.cells (zb 128).toArray 5)).cell (p := ⟨b, off + k, none⟩) jzb0).trans jcx0
              have jzb : b < ((w9.setCell ⟨B + 1, vn, none⟩ (.bool true)).alloc (.cells (zb 128).toArray 5)).heap.size := by rw [World.size_alloc]; omega
              clear F1 F2 F3 HO9 hbw9 hcx9 zb9 jbw0 jcx0 jzb0
              generalize hW : (w9.setCell ⟨B + 1, vn, none⟩ (.bool true)).alloc (.cells (zb 128).toArray 5) = w10 at J1 J2 J3 JO jbw jcx jzb ⊢
              clear hW
              have F1 := J1
              have F2 := J2
              have F3 := J3
              have HO8 := Lib.hid JO
              have hbw8 := jbw
              have hcx8 := jcx
              have zb8 := jzb
              have zf := F2.free
              have zz := F2.lt
              clear J1 J2 J3 JO jbw jcx jzb HZ8 HPZ HYE HGE
            all_goals
              have x0 := (F1.cell 0).trans rfl
              have x1 := (F1.cell 1).trans rfl
              have xf := F1.free
              have xz := F1.lt
              have y0 := (F3.cell 0).trans rfl
              have y1 := (F3.cell 1).trans rfl
              have yz := F3.lt
              go_wp2_with fail
              have K1 := (F1.set_at 0 (.int .u32 0)).set_at 1 (.int .u32 (G1))
              have K2 := (F2.set_ne (b' := B) (j := 0) (by omega) (.int .u32 0)).set_ne (b' := B) (j := 1) (by omega) (.int .u32 (G1))
              have KO := owns_set_ne (b := B) (j := 1) (owns_set_ne (b := B) (j := 0) HO8.out (own_ne (by omega)) (.int .u32 0)) (own_ne (by omega)) (.int .u32 (G1))
              have kbw := (hbw8.setCell (show w.heap.size ≤ (⟨B, 0, none⟩ : Addr).block from hwB) (.int .u32 0)).setCell (show w.heap.size ≤ (⟨B, 1, none⟩ : Addr).block from hwB) (.int .u32 (G1))
              have kcx := cell_two (B := B) (i := 0) (j := 1) (x := .int .u32 0) (y := .int .u32 (G1)) hcx8 (by omega)
              clear F1 F2 F3 x0 x1 xf xz y0 y1 yz zf zz HO8 hbw8 hcx8
              generalize hW : (w10.setCell ⟨B, 0, none⟩ (.int .u32 0)).setCell ⟨B, 1, none⟩ (.int .u32 (G1)) = w9 at K1 K2 KO kbw kcx ⊢
              clear hW
              have KH := Lib.hid KO; clear KO
              go_loop [20, 21] (fun c q => ∃ r : Nat, r ≤ 32 ∧ q = .int .i64 r ∧ c = .int .i64 (onesN (G1) r)) (fun _ q => 32 - (intOf q).toNat)
              case atStart => exact ⟨0, by omega, rfl, rfl⟩
              case round =>
                obtain ⟨r, hr, rfl, rfl⟩ := hrel
                by_cases hr2 : r < 32
                · have zc := (K2.cell r).trans (blArr_at (G := G1) (i := r) hr2)
                  have zz := K2.lt
                  have hon := onesN_le (G1) r
                  have hsu := onesN_succ (G1) r
                  rw [bit_is] at hsu
                  obtain ⟨q, hq⟩ : ∃ q, onesN (G1) r = q := ⟨_, rfl⟩
                  rw [hq] at hsu hon ⊢
                  clear hq
                  cases hbb : (G1).testBit r
                  · rw [hbb] at zc hsu
                    have HS := Lib.hid hsu; clear hsu hbb
                    go_wp2_with fail
                    go_round
                    case rel => exact ⟨r + 1, by omega, by go_num, by rw [HS.out]; rfl⟩
                    case measure => simp [intOf]; omega
                  · rw [hbb] at zc hsu
                    have HS := Lib.hid hsu; clear hsu hbb
                    go_wp2_with fail
                    go_round
                    case rel => exact ⟨r + 1, by omega, by go_num, by rw [HS.out]; rfl⟩
                    case measure => simp [intOf]; omega
                · obtain rfl : r = 32 := by omega
                  have hon := onesN_le (G1) 32
                  have C : ∀ w, Calls Try.prog 15 #[.agg #[.int .u32 0, .int .u32 (G1)]] w (Ret w (.int .i64 (onesN (G1) 32))) := fun w => count_any 0 (G1) w hG1
                  have M : ∀ w, Calls Try.prog 16 #[.agg #[.int .u32 0, .int .u32 (G1)], .int .i64 P] w (Ret w (.bool true)) := fun w => by
                    have := may_any 0 (G1) P w hG1
                    rwa [may_yes hG1 (fun i hi h1 => by have := HI1.out i hi (by rw [bit_is] at h1; cases hb : (G1).testBit i; rw [hb] at h1; cases h1; rfl); omega)] at this
                  obtain ⟨c0, hc0⟩ : ∃ c, onesN (G1) 32 = c := ⟨_, rfl⟩
                  rw [hc0] at C hon ⊢
                  have HC := Lib.hid C; clear C hc0
                  have HMY := Lib.hid M; clear M
                  have x0 := (K1.cell 0).trans rfl
                  have x1 := (K1.cell 1).trans rfl
                  have xz := K1.lt
                  go_wp2_with fail
                  refine (HC.out _).mono ?_
                  rintro e w10 ⟨rfl, hb10⟩
                  have L1 := K1.below hb10
                  have L2 := K2.below hb10
                  have HO10 := Lib.hid (owns_below KH.out hb10)
                  have hbw10 := kbw.trans (hb10.mono kbw.size)
                  have kb9 : b < w9.heap.size := by omega
                  have hcx10 := (hb10.cell (p := ⟨b, off + k, none⟩) kb9).trans kcx
                  clear hb10 kbw kcx K1 K2 KH x0 x1 xz
                  have x0 := (L1.cell 0).trans rfl
                  have x1 := (L1.cell 1).trans rfl
                  have xz := L1.lt
                  go_wp2_with fail
                  refine (HMY.out _).mono ?_
                  rintro e w11 ⟨rfl, hb11⟩
                  have K1 := L1.below hb11
                  have K2 := L2.below hb11
                  have HO11 := Lib.hid (owns_below HO10.out hb11)
                  have hbw11 := hbw10.trans (hb11.mono hbw10.size)
                  have kb10 : b < w10.heap.size := by have := hbw10.size; omega
                  have hcx11 := (hb11.cell (p := ⟨b, off + k, none⟩) kb10).trans hcx10
                  have kb11 : b < w11.heap.size := Nat.lt_of_lt_of_le kb10 hb11.size
                  clear hb11 hbw10 hcx10 L1 L2 HO10 x0 x1 xz kb10
                  have j1 := Int.emod_nonneg x (show (L : Int) ≠ 0 by omega)
                  have j2 := Int.emod_lt_of_pos x (show (0 : Int) < L by omega)
                  have R2 := fun w => round_any x L w hxb (by omega) (by omega)
                  obtain ⟨j, hj⟩ : ∃ j : Nat, x % L = j := ⟨(x % L).toNat, by omega⟩
                  rw [hj] at R2 j1 j2
                  have HR2 := Lib.hid R2; clear R2 hj
                  have hgo := HO11.out.lt g5 rfl
                  obtain ⟨z, hz⟩ := get_lt (xs := ys) (k := j) (by rw [HYL.out]; omega)
                  have gcell := (HO11.out.cellAt j (by omega)).trans (show (words (ys))[j]? = some (.int .u32 z) by unfold words; rw [List.getElem?_map, hz]; rfl)
                  have gfree := HO11.out.frozenAt j
                  clear hz
                  go_wp2_with fail
                  refine wp_region_tail_below 15 (by kernel_rfl) (by kernel_rfl) ?_
                  simp only [List.take_succ_cons, List.take_zero, List.drop_succ_cons, List.drop_zero]
                  repeat (go_big_quiet_step (first | fail | (go_at_call 11; exact quiet_ret (HR2.out _))))
                  refine wpQuiet_nil ?_
                  intro w12 hw12
                  have hb12 := below_of_regrown hw12
                  clear hw12
                  obtain ⟨hc12, hf12⟩ := bcell hb12
                  have hz12 := bsize hb12
                  try simp only [sizes1] at hz12
                  try simp only [sizes] at hc12 hf12
                  have HO12 := Lib.hid (owns_below HO11.out hb12)
                  have gc := (hb12.cell (p := ⟨g5, j, none⟩) hgo.2).trans gcell
                  have gf := (hb12.frozen (p := ⟨g5, j, none⟩) hgo.2).trans gfree
                  have hg12 : g5 < w12.heap.size := Nat.lt_of_lt_of_le hgo.2 hb12.size
                  have L1 := K1.below hb12
                  have L2 := K2.below hb12
                  have hbw12 := hbw11.trans (hb12.mono hbw11.size)
                  clear hb12 hc12 hf12 hbw11 HO11 K1 K2 gcell gfree
                  go_wp2_with fail
                  go_roundw
                  case rel =>
                    refine ⟨k + 1, G1, (ys).set j (bits .and .i64 x 4294967295 % 4294967296), g5, cap5, by omega, by go_num, rfl, hc51, hc52, by (unfold Hid; rw [List.length_set]; exact HYL.out), by omega, by omega, ?_, hG1, HI1.out, L1.set_ne (by omega) _, L2.set_ne (by omega) _, (by repeat (first | with_reducible exact Below.refl _ _ | with_reducible refine Below.drew ?_ | (with_reducible refine Below.alloc ?_ (by first | exact Nat.le_refl _ | omega | (dsimp only; omega) | (simp only [sizes]; omega)) _) | (with_reducible refine Below.setCell ?_ (by first | exact Nat.le_refl _ | omega | (dsimp only; omega) | (simp only [sizes]; omega)) _) | (refine Below.trans ?_ (Below.mono (by with_reducible assumption) (by first | exact Nat.le_refl _ | omega | (dsimp only; omega) | (simp only [sizes]; omega))))))⟩
                    have h5 := (HO12.out.stored j (.int .u32 (bits .and .i64 x 4294967295 % 4294967296))).1
                    rw [words_set] at h5
                    exact owns_lower h5 (by omega)
                  case measure => simp [intOf]; omega
          · have O := fun w ha => out_is (.slice (some ⟨g, 0, none⟩) L cap) xs G vn L 10 w ha HX.out (by omega) hG
            obtain ⟨eG, eM⟩ := (out_keep_eq HX.out (fun e => by rw [hbt] at e; cases e.2))
            rw [eG, eM] at O
            have hG1 : (G) < 4294967296 := hG
            have HYL : Hid ((xs).length = L) := HX.out
            have HOU := Lib.hid O; clear O eG eM
            go_wp2_with fail
            refine (HR.out _).mono ?_
            rintro e w3 ⟨rfl, hb3⟩
            have D1' := D1.below hb3
            have D2' := D2.below hb3
            have hM3 := HM.out.below hb3
            rw [HX.out] at hM3
            have hbw3 : Below w.heap.size w w3 := hbw.trans (hb3.mono hbw.size)
            have hcx3 := (hb3.cell (p := ⟨b, off + k, none⟩) hbs2).trans hcx
            clear hb3 hbw x0 x1 xf xz zf zz D1 D2 hcx HO HM
            have x0 := (D1'.cell 0).trans rfl
            have x1 := (D1'.cell 1).trans rfl
            have xf := D1'.free
            have xz := D1'.lt
            have zf := D2'.free
            have zz := D2'.lt
            have hbs3 := hbw3.size
            have hbs4 : b < w3.heap.size := by omega
            go_wp2_with fail
            refine (HOU.out _ hM3).mono ?_
            rintro e w5 ⟨g5, cap5, rfl, hc51, hc52, ho5, hb5⟩
            have hz5 := hb5.size
            have zc5 := ((D2'.below hb5).cell vn).trans (blArr_at (G := G) (i := vn) (by omega))
            rw [hbt] at zc5
            have zz5 := (D2'.below hb5).lt
            go_wp2_with fail
            have E1 := (D1'.below hb5).alloc (.cells #[.int .u32 0, .int .u32 (G)] 25)
            have E2 := (D2'.below hb5).alloc (.cells #[.int .u32 0, .int .u32 (G)] 25)
            have E3 := HasBlock.made w5 #[.int .u32 0, .int .u32 (G)] 25
            have hM5 := (hM3.below hb5).below ((Below.refl _ _).alloc (Nat.le_refl _) _ : Below w5.heap.size w5 (w5.alloc (.cells #[.int .u32 0, .int .u32 (G)] 25)))
            have ho6 := ho5.alloc (.cells #[.int .u32 0, .int .u32 (G)] 25)
            have hg5 := ho6.lt g5 rfl
            have hg5B : B + 1 < g5 := by have := D2'.lt; omega
            have hN5 := OwnMem.row (base := w3.heap.size) ⟨by rw [HYL.out]; exact ho6, by rw [HYL.out]; omega⟩
            try rw [HYL.out] at hN5
            have hbw6 : Below w.heap.size w (w5.alloc (.cells #[.int .u32 0, .int .u32 (G)] 25)) := (hbw3.trans (hb5.mono hbw3.size)).alloc (by omega) _
            have hcx5 := (hb5.cell (p := ⟨b, off + k, none⟩) hbs4).trans hcx3
            have hcx6 := (((Below.refl w5.heap.size w5).alloc (Nat.le_refl _) (.cells #[.int .u32 0, .int .u32 (G)] 25)).cell (p := ⟨b, off + k, none⟩) (show b < w5.heap.size by omega)).trans hcx5
            clear hb5 zc5 hbw3 D1' D2' hM3 x0 x1 xf xz zf zz ho5 hcx3
            generalize hW : w5.alloc (.cells #[.int .u32 0, .int .u32 (G)] 25) = w6 at E1 E2 E3 hM5 ho6 hg5 hN5 hbw6 hcx6 ⊢
            clear hW
            have s6 := hbw6.size
            have zb6 : b < w6.heap.size := by omega
            obtain ⟨n5, hn5⟩ : ∃ n, w5.heap.size = n := ⟨_, rfl⟩
            rw [hn5] at E3 zz5 ⊢
            clear hn5 hz5
            have HI1 := Lib.hid (HI.out)
            
            refine (changed_any _ _ xs xs _ hM5 hN5 rfl (by rw [HX.out]; omega) (by rw [HX.out]; have := HLL.out; omega)).mono ?_
            rw [chL_self]
            rintro e w7 ⟨v7, rfl, hr7, hb7⟩
            obtain ⟨ao7, ca7, rfl, r1, r2, r3⟩ := hr7.out
            unfold maxLen at r2
            clear r3 hr7
            have F1 := E1.below hb7
            have F2 := E2.below hb7
            have F3 := E3.below hb7
            have HO8 := Lib.hid (owns_below ho6 hb7)
            have hbw8 : Below w.heap.size w w7 := hbw6.trans (hb7.mono hbw6.size)
            have hcx8 := (hb7.cell (p := ⟨b, off + k, none⟩) zb6).trans hcx6
            have zb8 : b < w7.heap.size := Nat.lt_of_lt_of_le zb6 hb7.size
            clear hb7 hbw6 ho6 hcx6 E1 E2 E3 hM5 hN5 s6 zb6
            have zf := F2.free
            have zz := F2.lt
            skip
            all_goals
              have x0 := (F1.cell 0).trans rfl
              have x1 := (F1.cell 1).trans rfl
              have xf := F1.free
              have xz := F1.lt
              have y0 := (F3.cell 0).trans rfl
              have y1 := (F3.cell 1).trans rfl
              have yz := F3.lt
              go_wp2_with fail
              have K1 := (F1.set_at 0 (.int .u32 0)).set_at 1 (.int .u32 (G))
              have K2 := (F2.set_ne (b' := B) (j := 0) (by omega) (.int .u32 0)).set_ne (b' := B) (j := 1) (by omega) (.int .u32 (G))
              have KO := owns_set_ne (b := B) (j := 1) (owns_set_ne (b := B) (j := 0) HO8.out (own_ne (by omega)) (.int .u32 0)) (own_ne (by omega)) (.int .u32 (G))
              have kbw := (hbw8.setCell (show w.heap.size ≤ (⟨B, 0, none⟩ : Addr).block from hwB) (.int .u32 0)).setCell (show w.heap.size ≤ (⟨B, 1, none⟩ : Addr).block from hwB) (.int .u32 (G))
              have kcx := cell_two (B := B) (i := 0) (j := 1) (x := .int .u32 0) (y := .int .u32 (G)) hcx8 (by omega)
              clear F1 F2 F3 x0 x1 xf xz y0 y1 yz zf zz HO8 hbw8 hcx8
              generalize hW : (w7.setCell ⟨B, 0, none⟩ (.int .u32 0)).setCell ⟨B, 1, none⟩ (.int .u32 (G)) = w9 at K1 K2 KO kbw kcx ⊢
              clear hW
              have KH := Lib.hid KO; clear KO
              go_loop [20, 21] (fun c q => ∃ r : Nat, r ≤ 32 ∧ q = .int .i64 r ∧ c = .int .i64 (onesN (G) r)) (fun _ q => 32 - (intOf q).toNat)
              case atStart => exact ⟨0, by omega, rfl, rfl⟩
              case round =>
                obtain ⟨r, hr, rfl, rfl⟩ := hrel
                by_cases hr2 : r < 32
                · have zc := (K2.cell r).trans (blArr_at (G := G) (i := r) hr2)
                  have zz := K2.lt
                  have hon := onesN_le (G) r
                  have hsu := onesN_succ (G) r
                  rw [bit_is] at hsu
                  obtain ⟨q, hq⟩ : ∃ q, onesN (G) r = q := ⟨_, rfl⟩
                  rw [hq] at hsu hon ⊢
                  clear hq
                  cases hbb : (G).testBit r
                  · rw [hbb] at zc hsu
                    have HS := Lib.hid hsu; clear hsu hbb
                    go_wp2_with fail
                    go_round
                    case rel => exact ⟨r + 1, by omega, by go_num, by rw [HS.out]; rfl⟩
                    case measure => simp [intOf]; omega
                  · rw [hbb] at zc hsu
                    have HS := Lib.hid hsu; clear hsu hbb
                    go_wp2_with fail
                    go_round
                    case rel => exact ⟨r + 1, by omega, by go_num, by rw [HS.out]; rfl⟩
                    case measure => simp [intOf]; omega
                · obtain rfl : r = 32 := by omega
                  have hon := onesN_le (G) 32
                  have C : ∀ w, Calls Try.prog 15 #[.agg #[.int .u32 0, .int .u32 (G)]] w (Ret w (.int .i64 (onesN (G) 32))) := fun w => count_any 0 (G) w hG1
                  have M : ∀ w, Calls Try.prog 16 #[.agg #[.int .u32 0, .int .u32 (G)], .int .i64 P] w (Ret w (.bool true)) := fun w => by
                    have := may_any 0 (G) P w hG1
                    rwa [may_yes hG1 (fun i hi h1 => by have := HI1.out i hi (by rw [bit_is] at h1; cases hb : (G).testBit i; rw [hb] at h1; cases h1; rfl); omega)] at this
                  obtain ⟨c0, hc0⟩ : ∃ c, onesN (G) 32 = c := ⟨_, rfl⟩
                  rw [hc0] at C hon ⊢
                  have HC := Lib.hid C; clear C hc0
                  have HMY := Lib.hid M; clear M
                  have x0 := (K1.cell 0).trans rfl
                  have x1 := (K1.cell 1).trans rfl
                  have xz := K1.lt
                  go_wp2_with fail
                  refine (HC.out _).mono ?_
                  rintro e w10 ⟨rfl, hb10⟩
                  have L1 := K1.below hb10
                  have L2 := K2.below hb10
                  have HO10 := Lib.hid (owns_below KH.out hb10)
                  have hbw10 := kbw.trans (hb10.mono kbw.size)
                  have kb9 : b < w9.heap.size := by omega
                  have hcx10 := (hb10.cell (p := ⟨b, off + k, none⟩) kb9).trans kcx
                  clear hb10 kbw kcx K1 K2 KH x0 x1 xz
                  have x0 := (L1.cell 0).trans rfl
                  have x1 := (L1.cell 1).trans rfl
                  have xz := L1.lt
                  go_wp2_with fail
                  refine (HMY.out _).mono ?_
                  rintro e w11 ⟨rfl, hb11⟩
                  have K1 := L1.below hb11
                  have K2 := L2.below hb11
                  have HO11 := Lib.hid (owns_below HO10.out hb11)
                  have hbw11 := hbw10.trans (hb11.mono hbw10.size)
                  have kb10 : b < w10.heap.size := by have := hbw10.size; omega
                  have hcx11 := (hb11.cell (p := ⟨b, off + k, none⟩) kb10).trans hcx10
                  have kb11 : b < w11.heap.size := Nat.lt_of_lt_of_le kb10 hb11.size
                  clear hb11 hbw10 hcx10 L1 L2 HO10 x0 x1 xz kb10
                  have j1 := Int.emod_nonneg x (show (L : Int) ≠ 0 by omega)
                  have j2 := Int.emod_lt_of_pos x (show (0 : Int) < L by omega)
                  have R2 := fun w => round_any x L w hxb (by omega) (by omega)
                  obtain ⟨j, hj⟩ : ∃ j : Nat, x % L = j := ⟨(x % L).toNat, by omega⟩
                  rw [hj] at R2 j1 j2
                  have HR2 := Lib.hid R2; clear R2 hj
                  have hgo := HO11.out.lt g5 rfl
                  obtain ⟨z, hz⟩ := get_lt (xs := xs) (k := j) (by rw [HYL.out]; omega)
                  have gcell := (HO11.out.cellAt j (by omega)).trans (show (words (xs))[j]? = some (.int .u32 z) by unfold words; rw [List.getElem?_map, hz]; rfl)
                  have gfree := HO11.out.frozenAt j
                  clear hz
                  go_wp2_with fail
                  refine wp_region_tail_below 15 (by kernel_rfl) (by kernel_rfl) ?_
                  simp only [List.take_succ_cons, List.take_zero, List.drop_succ_cons, List.drop_zero]
                  repeat (go_big_quiet_step (first | fail | (go_at_call 11; exact quiet_ret (HR2.out _))))
                  refine wpQuiet_nil ?_
                  intro w12 hw12
                  have hb12 := below_of_regrown hw12
                  clear hw12
                  obtain ⟨hc12, hf12⟩ := bcell hb12
                  have hz12 := bsize hb12
                  try simp only [sizes1] at hz12
                  try simp only [sizes] at hc12 hf12
                  have HO12 := Lib.hid (owns_below HO11.out hb12)
                  have gc := (hb12.cell (p := ⟨g5, j, none⟩) hgo.2).trans gcell
                  have gf := (hb12.frozen (p := ⟨g5, j, none⟩) hgo.2).trans gfree
                  have hg12 : g5 < w12.heap.size := Nat.lt_of_lt_of_le hgo.2 hb12.size
                  have L1 := K1.below hb12
                  have L2 := K2.below hb12
                  have hbw12 := hbw11.trans (hb12.mono hbw11.size)
                  clear hb12 hc12 hf12 hbw11 HO11 K1 K2 gcell gfree
                  go_wp2_with fail
                  go_roundw
                  case rel =>
                    refine ⟨k + 1, G, (xs).set j (bits .and .i64 x 4294967295 % 4294967296), g5, cap5, by omega, by go_num, rfl, hc51, hc52, by (unfold Hid; rw [List.length_set]; exact HYL.out), by omega, by omega, ?_, hG1, HI1.out, L1.set_ne (by omega) _, L2.set_ne (by omega) _, (by repeat (first | with_reducible exact Below.refl _ _ | with_reducible refine Below.drew ?_ | (with_reducible refine Below.alloc ?_ (by first | exact Nat.le_refl _ | omega | (dsimp only; omega) | (simp only [sizes]; omega)) _) | (with_reducible refine Below.setCell ?_ (by first | exact Nat.le_refl _ | omega | (dsimp only; omega) | (simp only [sizes]; omega)) _) | (refine Below.trans ?_ (Below.mono (by with_reducible assumption) (by first | exact Nat.le_refl _ | omega | (dsimp only; omega) | (simp only [sizes]; omega))))))⟩
                    have h5 := (HO12.out.stored j (.int .u32 (bits .and .i64 x 4294967295 % 4294967296))).1
                    rw [words_set] at h5
                    exact owns_lower h5 (by omega)
                  case measure => simp [intOf]; omega
        · have O := fun w ha => out_is (.slice (some ⟨g, 0, none⟩) L cap) xs G vn L 10 w ha HX.out (by omega) hG
          obtain ⟨eG, eM⟩ := (out_keep_eq HX.out (fun e => hvP (by rw [← HPL.out]; exact e.1)))
          rw [eG, eM] at O
          have hG1 : (G) < 4294967296 := hG
          have HYL : Hid ((xs).length = L) := HX.out
          have HOU := Lib.hid O; clear O eG eM
          go_wp2_with fail
          refine (HR.out _).mono ?_
          rintro e w3 ⟨rfl, hb3⟩
          have D1' := D1.below hb3
          have D2' := D2.below hb3
          have hM3 := HM.out.below hb3
          rw [HX.out] at hM3
          have hbw3 : Below w.heap.size w w3 := hbw.trans (hb3.mono hbw.size)
          have hcx3 := (hb3.cell (p := ⟨b, off + k, none⟩) hbs2).trans hcx
          clear hb3 hbw x0 x1 xf xz zf zz D1 D2 hcx HO HM
          have x0 := (D1'.cell 0).trans rfl
          have x1 := (D1'.cell 1).trans rfl
          have xf := D1'.free
          have xz := D1'.lt
          have zf := D2'.free
          have zz := D2'.lt
          have hbs3 := hbw3.size
          have hbs4 : b < w3.heap.size := by omega
          go_wp2_with fail
          refine (HOU.out _ hM3).mono ?_
          rintro e w5 ⟨g5, cap5, rfl, hc51, hc52, ho5, hb5⟩
          have hz5 := hb5.size
          have zc5 := ((D2'.below hb5).cell vn).trans (blArr_at (G := G) (i := vn) (by omega))
          skip
          have zz5 := (D2'.below hb5).lt
          go_wp2_with fail
          have E1 := (D1'.below hb5).alloc (.cells #[.int .u32 0, .int .u32 (G)] 25)
          have E2 := (D2'.below hb5).alloc (.cells #[.int .u32 0, .int .u32 (G)] 25)
          have E3 := HasBlock.made w5 #[.int .u32 0, .int .u32 (G)] 25
          have hM5 := (hM3.below hb5).below ((Below.refl _ _).alloc (Nat.le_refl _) _ : Below w5.heap.size w5 (w5.alloc (.cells #[.int .u32 0, .int .u32 (G)] 25)))
          have ho6 := ho5.alloc (.cells #[.int .u32 0, .int .u32 (G)] 25)
          have hg5 := ho6.lt g5 rfl
          have hg5B : B + 1 < g5 := by have := D2'.lt; omega
          have hN5 := OwnMem.row (base := w3.heap.size) ⟨by rw [HYL.out]; exact ho6, by rw [HYL.out]; omega⟩
          try rw [HYL.out] at hN5
          have hbw6 : Below w.heap.size w (w5.alloc (.cells #[.int .u32 0, .int .u32 (G)] 25)) := (hbw3.trans (hb5.mono hbw3.size)).alloc (by omega) _
          have hcx5 := (hb5.cell (p := ⟨b, off + k, none⟩) hbs4).trans hcx3
          have hcx6 := (((Below.refl w5.heap.size w5).alloc (Nat.le_refl _) (.cells #[.int .u32 0, .int .u32 (G)] 25)).cell (p := ⟨b, off + k, none⟩) (show b < w5.heap.size by omega)).trans hcx5
          clear hb5 zc5 hbw3 D1' D2' hM3 x0 x1 xf xz zf zz ho5 hcx3
          generalize hW : w5.alloc (.cells #[.int .u32 0, .int .u32 (G)] 25) = w6 at E1 E2 E3 hM5 ho6 hg5 hN5 hbw6 hcx6 ⊢
          clear hW
          have s6 := hbw6.size
          have zb6 : b < w6.heap.size := by omega
          obtain ⟨n5, hn5⟩ : ∃ n, w5.heap.size = n := ⟨_, rfl⟩
          rw [hn5] at E3 zz5 ⊢
          clear hn5 hz5
          have HI1 := Lib.hid (HI.out)
          
          refine (changed_any _ _ xs xs _ hM5 hN5 rfl (by rw [HX.out]; omega) (by rw [HX.out]; have := HLL.out; omega)).mono ?_
          rw [chL_self]
          rintro e w7 ⟨v7, rfl, hr7, hb7⟩
          obtain ⟨ao7, ca7, rfl, r1, r2, r3⟩ := hr7.out
          unfold maxLen at r2
          clear r3 hr7
          have F1 := E1.below hb7
          have F2 := E2.below hb7
          have F3 := E3.below hb7
          have HO8 := Lib.hid (owns_below ho6 hb7)
          have hbw8 : Below w.heap.size w w7 := hbw6.trans (hb7.mono hbw6.size)
          have hcx8 := (hb7.cell (p := ⟨b, off + k, none⟩) zb6).trans hcx6
          have zb8 : b < w7.heap.size := Nat.lt_of_lt_of_le zb6 hb7.size
          clear hb7 hbw6 ho6 hcx6 E1 E2 E3 hM5 hN5 s6 zb6
          have zf := F2.free
          have zz := F2.lt
          skip
          all_goals
            have x0 := (F1.cell 0).trans rfl
            have x1 := (F1.cell 1).trans rfl
            have xf := F1.free
            have xz := F1.lt
            have y0 := (F3.cell 0).trans rfl
            have y1 := (F3.cell 1).trans rfl
            have yz := F3.lt
            go_wp2_with fail
            have K1 := (F1.set_at 0 (.int .u32 0)).set_at 1 (.int .u32 (G))
            have K2 := (F2.set_ne (b' := B) (j := 0) (by omega) (.int .u32 0)).set_ne (b' := B) (j := 1) (by omega) (.int .u32 (G))
            have KO := owns_set_ne (b := B) (j := 1) (owns_set_ne (b := B) (j := 0) HO8.out (own_ne (by omega)) (.int .u32 0)) (own_ne (by omega)) (.int .u32 (G))
            have kbw := (hbw8.setCell (show w.heap.size ≤ (⟨B, 0, none⟩ : Addr).block from hwB) (.int .u32 0)).setCell (show w.heap.size ≤ (⟨B, 1, none⟩ : Addr).block from hwB) (.int .u32 (G))
            have kcx := cell_two (B := B) (i := 0) (j := 1) (x := .int .u32 0) (y := .int .u32 (G)) hcx8 (by omega)
            clear F1 F2 F3 x0 x1 xf xz y0 y1 yz zf zz HO8 hbw8 hcx8
            generalize hW : (w7.setCell ⟨B, 0, none⟩ (.int .u32 0)).setCell ⟨B, 1, none⟩ (.int .u32 (G)) = w9 at K1 K2 KO kbw kcx ⊢
            clear hW
            have KH := Lib.hid KO; clear KO
            go_loop [20, 21] (fun c q => ∃ r : Nat, r ≤ 32 ∧ q = .int .i64 r ∧ c = .int .i64 (onesN (G) r)) (fun _ q => 32 - (intOf q).toNat)
            case atStart => exact ⟨0, by omega, rfl, rfl⟩
            case round =>
              obtain ⟨r, hr, rfl, rfl⟩ := hrel
              by_cases hr2 : r < 32
              · have zc := (K2.cell r).trans (blArr_at (G := G) (i := r) hr2)
                have zz := K2.lt
                have hon := onesN_le (G) r
                have hsu := onesN_succ (G) r
                rw [bit_is] at hsu
                obtain ⟨q, hq⟩ : ∃ q, onesN (G) r = q := ⟨_, rfl⟩
                rw [hq] at hsu hon ⊢
                clear hq
                cases hbb : (G).testBit r
                · rw [hbb] at zc hsu
                  have HS := Lib.hid hsu; clear hsu hbb
                  go_wp2_with fail
                  go_round
                  case rel => exact ⟨r + 1, by omega, by go_num, by rw [HS.out]; rfl⟩
                  case measure => simp [intOf]; omega
                · rw [hbb] at zc hsu
                  have HS := Lib.hid hsu; clear hsu hbb
                  go_wp2_with fail
                  go_round
                  case rel => exact ⟨r + 1, by omega, by go_num, by rw [HS.out]; rfl⟩
                  case measure => simp [intOf]; omega
              · obtain rfl : r = 32 := by omega
                have hon := onesN_le (G) 32
                have C : ∀ w, Calls Try.prog 15 #[.agg #[.int .u32 0, .int .u32 (G)]] w (Ret w (.int .i64 (onesN (G) 32))) := fun w => count_any 0 (G) w hG1
                have M : ∀ w, Calls Try.prog 16 #[.agg #[.int .u32 0, .int .u32 (G)], .int .i64 P] w (Ret w (.bool true)) := fun w => by
                  have := may_any 0 (G) P w hG1
                  rwa [may_yes hG1 (fun i hi h1 => by have := HI1.out i hi (by rw [bit_is] at h1; cases hb : (G).testBit i; rw [hb] at h1; cases h1; rfl); omega)] at this
                obtain ⟨c0, hc0⟩ : ∃ c, onesN (G) 32 = c := ⟨_, rfl⟩
                rw [hc0] at C hon ⊢
                have HC := Lib.hid C; clear C hc0
                have HMY := Lib.hid M; clear M
                have x0 := (K1.cell 0).trans rfl
                have x1 := (K1.cell 1).trans rfl
                have xz := K1.lt
                go_wp2_with fail
                refine (HC.out _).mono ?_
                rintro e w10 ⟨rfl, hb10⟩
                have L1 := K1.below hb10
                have L2 := K2.below hb10
                have HO10 := Lib.hid (owns_below KH.out hb10)
                have hbw10 := kbw.trans (hb10.mono kbw.size)
                have kb9 : b < w9.heap.size := by omega
                have hcx10 := (hb10.cell (p := ⟨b, off + k, none⟩) kb9).trans kcx
                clear hb10 kbw kcx K1 K2 KH x0 x1 xz
                have x0 := (L1.cell 0).trans rfl
                have x1 := (L1.cell 1).trans rfl
                have xz := L1.lt
                go_wp2_with fail
                refine (HMY.out _).mono ?_
                rintro e w11 ⟨rfl, hb11⟩
                have K1 := L1.below hb11
                have K2 := L2.below hb11
                have HO11 := Lib.hid (owns_below HO10.out hb11)
                have hbw11 := hbw10.trans (hb11.mono hbw10.size)
                have kb10 : b < w10.heap.size := by have := hbw10.size; omega
                have hcx11 := (hb11.cell (p := ⟨b, off + k, none⟩) kb10).trans hcx10
                have kb11 : b < w11.heap.size := Nat.lt_of_lt_of_le kb10 hb11.size
                clear hb11 hbw10 hcx10 L1 L2 HO10 x0 x1 xz kb10
                have j1 := Int.emod_nonneg x (show (L : Int) ≠ 0 by omega)
                have j2 := Int.emod_lt_of_pos x (show (0 : Int) < L by omega)
                have R2 := fun w => round_any x L w hxb (by omega) (by omega)
                obtain ⟨j, hj⟩ : ∃ j : Nat, x % L = j := ⟨(x % L).toNat, by omega⟩
                rw [hj] at R2 j1 j2
                have HR2 := Lib.hid R2; clear R2 hj
                have hgo := HO11.out.lt g5 rfl
                obtain ⟨z, hz⟩ := get_lt (xs := xs) (k := j) (by rw [HYL.out]; omega)
                have gcell := (HO11.out.cellAt j (by omega)).trans (show (words (xs))[j]? = some (.int .u32 z) by unfold words; rw [List.getElem?_map, hz]; rfl)
                have gfree := HO11.out.frozenAt j
                clear hz
                go_wp2_with fail
                refine wp_region_tail_below 15 (by kernel_rfl) (by kernel_rfl) ?_
                simp only [List.take_succ_cons, List.take_zero, List.drop_succ_cons, List.drop_zero]
                repeat (go_big_quiet_step (first | fail | (go_at_call 11; exact quiet_ret (HR2.out _))))
                refine wpQuiet_nil ?_
                intro w12 hw12
                have hb12 := below_of_regrown hw12
                clear hw12
                obtain ⟨hc12, hf12⟩ := bcell hb12
                have hz12 := bsize hb12
                try simp only [sizes1] at hz12
                try simp only [sizes] at hc12 hf12
                have HO12 := Lib.hid (owns_below HO11.out hb12)
                have gc := (hb12.cell (p := ⟨g5, j, none⟩) hgo.2).trans gcell
                have gf := (hb12.frozen (p := ⟨g5, j, none⟩) hgo.2).trans gfree
                have hg12 : g5 < w12.heap.size := Nat.lt_of_lt_of_le hgo.2 hb12.size
                have L1 := K1.below hb12
                have L2 := K2.below hb12
                have hbw12 := hbw11.trans (hb12.mono hbw11.size)
                clear hb12 hc12 hf12 hbw11 HO11 K1 K2 gcell gfree
                go_wp2_with fail
                go_roundw
                case rel =>
                  refine ⟨k + 1, G, (xs).set j (bits .and .i64 x 4294967295 % 4294967296), g5, cap5, by omega, by go_num, rfl, hc51, hc52, by (unfold Hid; rw [List.length_set]; exact HYL.out), by omega, by omega, ?_, hG1, HI1.out, L1.set_ne (by omega) _, L2.set_ne (by omega) _, (by repeat (first | with_reducible exact Below.refl _ _ | with_reducible refine Below.drew ?_ | (with_reducible refine Below.alloc ?_ (by first | exact Nat.le_refl _ | omega | (dsimp only; omega) | (simp only [sizes]; omega)) _) | (with_reducible refine Below.setCell ?_ (by first | exact Nat.le_refl _ | omega | (dsimp only; omega) | (simp only [sizes]; omega)) _) | (refine Below.trans ?_ (Below.mono (by with_reducible assumption) (by first | exact Nat.le_refl _ | omega | (dsimp only; omega) | (simp only [sizes]; omega))))))⟩
                  have h5 := (HO12.out.stored j (.int .u32 (bits .and .i64 x 4294967295 % 4294967296))).1
                  rw [words_set] at h5
                  exact owns_lower h5 (by omega)
                case measure => simp [intOf]; omega
      · obtain ⟨G1, hGe⟩ : ∃ G1, clrN G vn = G1 := ⟨_, rfl⟩
        have HGE := Lib.hid hGe; clear hGe
        have O := fun w ha => out_is (.slice (some ⟨g, 0, none⟩) L cap) xs G vn L 11 w ha HX.out (by omega) hG
        obtain ⟨eG, eM⟩ := (show outG G L 11 vn = G1 ∧ outM G xs 11 vn = xs by rw [← HGE.out]; exact out_take_eq (by omega))
        rw [eG, eM] at O
        have hG1 : (G1) < 4294967296 := (by rw [← HGE.out]; exact clrN_lt _ _)
        have HYL : Hid ((xs).length = L) := HX.out
        have HOU := Lib.hid O; clear O eG eM
        go_wp2_with fail
        refine (HR.out _).mono ?_
        rintro e w3 ⟨rfl, hb3⟩
        have D1' := D1.below hb3
        have D2' := D2.below hb3
        have hM3 := HM.out.below hb3
        rw [HX.out] at hM3
        have hbw3 : Below w.heap.size w w3 := hbw.trans (hb3.mono hbw.size)
        have hcx3 := (hb3.cell (p := ⟨b, off + k, none⟩) hbs2).trans hcx
        clear hb3 hbw x0 x1 xf xz zf zz D1 D2 hcx HO HM
        have x0 := (D1'.cell 0).trans rfl
        have x1 := (D1'.cell 1).trans rfl
        have xf := D1'.free
        have xz := D1'.lt
        have zf := D2'.free
        have zz := D2'.lt
        have hbs3 := hbw3.size
        have hbs4 : b < w3.heap.size := by omega
        go_wp2_with fail
        refine (HOU.out _ hM3).mono ?_
        rintro e w5 ⟨g5, cap5, rfl, hc51, hc52, ho5, hb5⟩
        have hz5 := hb5.size
        have zc5 := ((D2'.below hb5).cell vn).trans (blArr_at (G := G) (i := vn) (by omega))
        skip
        have zz5 := (D2'.below hb5).lt
        go_wp2_with fail
        have E1 := (D1'.below hb5).alloc (.cells #[.int .u32 0, .int .u32 (G1)] 25)
        have E2 := (D2'.below hb5).alloc (.cells #[.int .u32 0, .int .u32 (G1)] 25)
        have E3 := HasBlock.made w5 #[.int .u32 0, .int .u32 (G1)] 25
        have hM5 := (hM3.below hb5).below ((Below.refl _ _).alloc (Nat.le_refl _) _ : Below w5.heap.size w5 (w5.alloc (.cells #[.int .u32 0, .int .u32 (G1)] 25)))
        have ho6 := ho5.alloc (.cells #[.int .u32 0, .int .u32 (G1)] 25)
        have hg5 := ho6.lt g5 rfl
        have hg5B : B + 1 < g5 := by have := D2'.lt; omega
        have hN5 := OwnMem.row (base := w3.heap.size) ⟨by rw [HYL.out]; exact ho6, by rw [HYL.out]; omega⟩
        try rw [HYL.out] at hN5
        have hbw6 : Below w.heap.size w (w5.alloc (.cells #[.int .u32 0, .int .u32 (G1)] 25)) := (hbw3.trans (hb5.mono hbw3.size)).alloc (by omega) _
        have hcx5 := (hb5.cell (p := ⟨b, off + k, none⟩) hbs4).trans hcx3
        have hcx6 := (((Below.refl w5.heap.size w5).alloc (Nat.le_refl _) (.cells #[.int .u32 0, .int .u32 (G1)] 25)).cell (p := ⟨b, off + k, none⟩) (show b < w5.heap.size by omega)).trans hcx5
        clear hb5 zc5 hbw3 D1' D2' hM3 x0 x1 xf xz zf zz ho5 hcx3
        generalize hW : w5.alloc (.cells #[.int .u32 0, .int .u32 (G1)] 25) = w6 at E1 E2 E3 hM5 ho6 hg5 hN5 hbw6 hcx6 ⊢
        clear hW
        have s6 := hbw6.size
        have zb6 : b < w6.heap.size := by omega
        obtain ⟨n5, hn5⟩ : ∃ n, w5.heap.size = n := ⟨_, rfl⟩
        rw [hn5] at E3 zz5 ⊢
        clear hn5 hz5
        have HI1 := Lib.hid ((show ∀ i, i < 32 → G1.testBit i = true → i < P from fun i hi h => HI.out i hi (by rw [← HGE.out, clr_bit (by omega) hi, Bool.and_eq_true] at h; exact h.1)))
        
        refine (changed_any _ _ xs xs _ hM5 hN5 rfl (by rw [HX.out]; omega) (by rw [HX.out]; have := HLL.out; omega)).mono ?_
        rw [chL_self]
        rintro e w7 ⟨v7, rfl, hr7, hb7⟩
        obtain ⟨ao7, ca7, rfl, r1, r2, r3⟩ := hr7.out
        unfold maxLen at r2
        clear r3 hr7
        have F1 := E1.below hb7
        have F2 := E2.below hb7
        have F3 := E3.below hb7
        have HO8 := Lib.hid (owns_below ho6 hb7)
        have hbw8 : Below w.heap.size w w7 := hbw6.trans (hb7.mono hbw6.size)
        have hcx8 := (hb7.cell (p := ⟨b, off + k, none⟩) zb6).trans hcx6
        have zb8 : b < w7.heap.size := Nat.lt_of_lt_of_le zb6 hb7.size
        clear hb7 hbw6 ho6 hcx6 E1 E2 E3 hM5 hN5 s6 zb6
        have zf := F2.free
        have zz := F2.lt
        have zc9 := (F2.cell vn).trans (blArr_at (G := G) (i := vn) (by omega))
        go_upto_region 24 with (fail)
        clear zf zz zc9
        have J1 := F1.set_ne (b' := B + 1) (j := vn) (by omega) (.bool false)
        have J2 := F2.set_at vn (.bool false)
        rw [blArr_clr (by omega), HGE.out] at J2
        have J3 := F3.set_ne (b' := B + 1) (j := vn) (by omega) (.bool false)
        have JO := owns_set_ne (b := B + 1) (j := vn) HO8.out (own_ne (by omega)) (.bool false)
        have jbw := hbw8.setCell (show w.heap.size ≤ (⟨B + 1, vn, none⟩ : Addr).block from Nat.le_succ_of_le hwB) (.bool false)
        have jcx := cell_one (B := B + 1) (i := vn) (x := .bool false) hcx8 (by omega)
        have jzb : b < (w7.setCell ⟨B + 1, vn, none⟩ (.bool false)).heap.size := by rw [World.size_setCell]; exact zb8
        clear F1 F2 F3 HO8 hbw8 hcx8 zb8
        generalize hW : w7.setCell ⟨B + 1, vn, none⟩ (.bool false) = w8 at J1 J2 J3 JO jbw jcx jzb ⊢
        clear hW
        have F1 := J1
        have F2 := J2
        have F3 := J3
        have HO8 := Lib.hid JO
        have hbw8 := jbw
        have hcx8 := jcx
        have zb8 := jzb
        clear J1 J2 J3 JO jbw jcx jzb
        have zf := F2.free
        have zz := F2.lt
        all_goals
          have x0 := (F1.cell 0).trans rfl
          have x1 := (F1.cell 1).trans rfl
          have xf := F1.free
          have xz := F1.lt
          have y0 := (F3.cell 0).trans rfl
          have y1 := (F3.cell 1).trans rfl
          have yz := F3.lt
          go_wp2_with fail
          have K1 := (F1.set_at 0 (.int .u32 0)).set_at 1 (.int .u32 (G1))
          have K2 := (F2.set_ne (b' := B) (j := 0) (by omega) (.int .u32 0)).set_ne (b' := B) (j := 1) (by omega) (.int .u32 (G1))
          have KO := owns_set_ne (b := B) (j := 1) (owns_set_ne (b := B) (j := 0) HO8.out (own_ne (by omega)) (.int .u32 0)) (own_ne (by omega)) (.int .u32 (G1))
          have kbw := (hbw8.setCell (show w.heap.size ≤ (⟨B, 0, none⟩ : Addr).block from hwB) (.int .u32 0)).setCell (show w.heap.size ≤ (⟨B, 1, none⟩ : Addr).block from hwB) (.int .u32 (G1))
          have kcx := cell_two (B := B) (i := 0) (j := 1) (x := .int .u32 0) (y := .int .u32 (G1)) hcx8 (by omega)
          clear F1 F2 F3 x0 x1 xf xz y0 y1 yz zf zz HO8 hbw8 hcx8
          generalize hW : (w8.setCell ⟨B, 0, none⟩ (.int .u32 0)).setCell ⟨B, 1, none⟩ (.int .u32 (G1)) = w9 at K1 K2 KO kbw kcx ⊢
          clear hW
          have KH := Lib.hid KO; clear KO
          go_loop [20, 21] (fun c q => ∃ r : Nat, r ≤ 32 ∧ q = .int .i64 r ∧ c = .int .i64 (onesN (G1) r)) (fun _ q => 32 - (intOf q).toNat)
          case atStart => exact ⟨0, by omega, rfl, rfl⟩
          case round =>
            obtain ⟨r, hr, rfl, rfl⟩ := hrel
            by_cases hr2 : r < 32
            · have zc := (K2.cell r).trans (blArr_at (G := G1) (i := r) hr2)
              have zz := K2.lt
              have hon := onesN_le (G1) r
              have hsu := onesN_succ (G1) r
              rw [bit_is] at hsu
              obtain ⟨q, hq⟩ : ∃ q, onesN (G1) r = q := ⟨_, rfl⟩
              rw [hq] at hsu hon ⊢
              clear hq
              cases hbb : (G1).testBit r
              · rw [hbb] at zc hsu
                have HS := Lib.hid hsu; clear hsu hbb
                go_wp2_with fail
                go_round
                case rel => exact ⟨r + 1, by omega, by go_num, by rw [HS.out]; rfl⟩
                case measure => simp [intOf]; omega
              · rw [hbb] at zc hsu
                have HS := Lib.hid hsu; clear hsu hbb
                go_wp2_with fail
                go_round
                case rel => exact ⟨r + 1, by omega, by go_num, by rw [HS.out]; rfl⟩
                case measure => simp [intOf]; omega
            · obtain rfl : r = 32 := by omega
              have hon := onesN_le (G1) 32
              have C : ∀ w, Calls Try.prog 15 #[.agg #[.int .u32 0, .int .u32 (G1)]] w (Ret w (.int .i64 (onesN (G1) 32))) := fun w => count_any 0 (G1) w hG1
              have M : ∀ w, Calls Try.prog 16 #[.agg #[.int .u32 0, .int .u32 (G1)], .int .i64 P] w (Ret w (.bool true)) := fun w => by
                have := may_any 0 (G1) P w hG1
                rwa [may_yes hG1 (fun i hi h1 => by have := HI1.out i hi (by rw [bit_is] at h1; cases hb : (G1).testBit i; rw [hb] at h1; cases h1; rfl); omega)] at this
              obtain ⟨c0, hc0⟩ : ∃ c, onesN (G1) 32 = c := ⟨_, rfl⟩
              rw [hc0] at C hon ⊢
              have HC := Lib.hid C; clear C hc0
              have HMY := Lib.hid M; clear M
              have x0 := (K1.cell 0).trans rfl
              have x1 := (K1.cell 1).trans rfl
              have xz := K1.lt
              go_wp2_with fail
              refine (HC.out _).mono ?_
              rintro e w10 ⟨rfl, hb10⟩
              have L1 := K1.below hb10
              have L2 := K2.below hb10
              have HO10 := Lib.hid (owns_below KH.out hb10)
              have hbw10 := kbw.trans (hb10.mono kbw.size)
              have kb9 : b < w9.heap.size := by omega
              have hcx10 := (hb10.cell (p := ⟨b, off + k, none⟩) kb9).trans kcx
              clear hb10 kbw kcx K1 K2 KH x0 x1 xz
              have x0 := (L1.cell 0).trans rfl
              have x1 := (L1.cell 1).trans rfl
              have xz := L1.lt
              go_wp2_with fail
              refine (HMY.out _).mono ?_
              rintro e w11 ⟨rfl, hb11⟩
              have K1 := L1.below hb11
              have K2 := L2.below hb11
              have HO11 := Lib.hid (owns_below HO10.out hb11)
              have hbw11 := hbw10.trans (hb11.mono hbw10.size)
              have kb10 : b < w10.heap.size := by have := hbw10.size; omega
              have hcx11 := (hb11.cell (p := ⟨b, off + k, none⟩) kb10).trans hcx10
              have kb11 : b < w11.heap.size := Nat.lt_of_lt_of_le kb10 hb11.size
              clear hb11 hbw10 hcx10 L1 L2 HO10 x0 x1 xz kb10
              have j1 := Int.emod_nonneg x (show (L : Int) ≠ 0 by omega)
              have j2 := Int.emod_lt_of_pos x (show (0 : Int) < L by omega)
              have R2 := fun w => round_any x L w hxb (by omega) (by omega)
              obtain ⟨j, hj⟩ : ∃ j : Nat, x % L = j := ⟨(x % L).toNat, by omega⟩
              rw [hj] at R2 j1 j2
              have HR2 := Lib.hid R2; clear R2 hj
              have hgo := HO11.out.lt g5 rfl
              obtain ⟨z, hz⟩ := get_lt (xs := xs) (k := j) (by rw [HYL.out]; omega)
              have gcell := (HO11.out.cellAt j (by omega)).trans (show (words (xs))[j]? = some (.int .u32 z) by unfold words; rw [List.getElem?_map, hz]; rfl)
              have gfree := HO11.out.frozenAt j
              clear hz
              go_wp2_with fail
              refine wp_region_tail_below 15 (by kernel_rfl) (by kernel_rfl) ?_
              simp only [List.take_succ_cons, List.take_zero, List.drop_succ_cons, List.drop_zero]
              repeat (go_big_quiet_step (first | fail | (go_at_call 11; exact quiet_ret (HR2.out _))))
              refine wpQuiet_nil ?_
              intro w12 hw12
              have hb12 := below_of_regrown hw12
              clear hw12
              obtain ⟨hc12, hf12⟩ := bcell hb12
              have hz12 := bsize hb12
              try simp only [sizes1] at hz12
              try simp only [sizes] at hc12 hf12
              have HO12 := Lib.hid (owns_below HO11.out hb12)
              have gc := (hb12.cell (p := ⟨g5, j, none⟩) hgo.2).trans gcell
              have gf := (hb12.frozen (p := ⟨g5, j, none⟩) hgo.2).trans gfree
              have hg12 : g5 < w12.heap.size := Nat.lt_of_lt_of_le hgo.2 hb12.size
              have L1 := K1.below hb12
              have L2 := K2.below hb12
              have hbw12 := hbw11.trans (hb12.mono hbw11.size)
              clear hb12 hc12 hf12 hbw11 HO11 K1 K2 gcell gfree
              go_wp2_with fail
              go_roundw
              case rel =>
                refine ⟨k + 1, G1, (xs).set j (bits .and .i64 x 4294967295 % 4294967296), g5, cap5, by omega, by go_num, rfl, hc51, hc52, by (unfold Hid; rw [List.length_set]; exact HYL.out), by omega, by omega, ?_, hG1, HI1.out, L1.set_ne (by omega) _, L2.set_ne (by omega) _, (by repeat (first | with_reducible exact Below.refl _ _ | with_reducible refine Below.drew ?_ | (with_reducible refine Below.alloc ?_ (by first | exact Nat.le_refl _ | omega | (dsimp only; omega) | (simp only [sizes]; omega)) _) | (with_reducible refine Below.setCell ?_ (by first | exact Nat.le_refl _ | omega | (dsimp only; omega) | (simp only [sizes]; omega)) _) | (refine Below.trans ?_ (Below.mono (by with_reducible assumption) (by first | exact Nat.le_refl _ | omega | (dsimp only; omega) | (simp only [sizes]; omega))))))⟩
                have h5 := (HO12.out.stored j (.int .u32 (bits .and .i64 x 4294967295 % 4294967296))).1
                rw [words_set] at h5
                exact owns_lower h5 (by omega)
              case measure => simp [intOf]; omega
    · obtain rfl : k = N := by omega
      go_wp2_with fail
      refine (awake_any _).mono ?_
      rintro e w3 ⟨rfl, hb3⟩
      obtain ⟨hc3, hf3⟩ := bcell hb3
      have hz3 := bsize hb3
      try simp only [sizes1] at hz3
      try simp only [sizes] at hc3 hf3
      go_wp2_with fail
      go_ret
      exact Ret.mk (by repeat (first | with_reducible exact Below.refl _ _ | with_reducible refine Below.drew ?_ | (with_reducible refine Below.alloc ?_ (by first | exact Nat.le_refl _ | omega | (simp only [sizes]; omega)) _) | (with_reducible refine Below.setCell ?_ (by first | exact Nat.le_refl _ | omega | (simp only [sizes]; omega)) _) | (refine Below.trans ?_ (Below.mono (by with_reducible assumption) (by first | exact Nat.le_refl _ | omega | (simp only [sizes]; omega))))))
theorem gives_out (n pages : Int) (ao : Option Addr) (len cap : Nat) (w : World) (h : 60 < len) (hl : len ≤ 9223372036854775807) : Calls Try.prog 4 #[.int .i64 n, .int .i64 pages, .slice ao len cap] w (Ret w (.bool true)) := by
  go_enter Try.func4, Try.ntmps4
  go_wp2_with fail
  refine (awake_any _).mono ?_
  rintro e w1 ⟨rfl, hb1⟩
  obtain ⟨hc1, hf1⟩ := bcell hb1
  have hz1 := bsize hb1
  try simp only [sizes1] at hz1
  try simp only [sizes] at hc1 hf1
  go_wp2_with fail
  go_ret
  exact Ret.mk (by repeat (first | with_reducible exact Below.refl _ _ | with_reducible refine Below.drew ?_ | (with_reducible refine Below.alloc ?_ (by first | exact Nat.le_refl _ | omega | (simp only [sizes]; omega)) _) | (with_reducible refine Below.setCell ?_ (by first | exact Nat.le_refl _ | omega | (simp only [sizes]; omega)) _) | (refine Below.trans ?_ (Below.mono (by with_reducible assumption) (by first | exact Nat.le_refl _ | omega | (simp only [sizes]; omega))))))
end Go.Proofs.Ytalfiiodioihdaa
