/-
  Blocks of a mirror copied, walked.
-/
import Derived.Test.YtfomfokgibijjaaMirFns
import Derived.Deep.RegionLaw
import Derived.Deep.Cut
import Derived.Deep.CutRange
namespace Go.Proofs.Ytfomfokgibijjaa
open Go.RowKit

/-- The target when 'k' blocks from 'c' on have been copied. -/
def cpL (S T : List ByteArray) (c : Nat) : Nat → List ByteArray
  | 0 => T
  | k + 1 => match S[c + k]? with
    | some s => (cpL S T c k).set (c + k) s
    | none => cpL S T c k
theorem cpL_len (S T : List ByteArray) (c k : Nat) : (cpL S T c k).length = T.length := by
  induction k with
  | zero => rfl
  | succ k ih =>
    unfold cpL
    split
    · rw [List.length_set, ih]
    · exact ih
theorem cpL_at {S T : List ByteArray} {c : Nat} (hl : T.length = S.length) : ∀ (k i : Nat), (cpL S T c k)[i]? = if c ≤ i ∧ i < c + k then S[i]? else T[i]?
  | 0, i => by rw [cpL, if_neg (by omega)]
  | k + 1, i => by
    unfold cpL
    split
    · rename_i s hs
      rw [List.getElem?_set, cpL_len]
      have hlt := lt_of_get hs
      by_cases e : c + k = i
      · subst e
        rw [if_pos rfl, if_pos (by omega), if_pos (by omega), hs]
      · rw [if_neg e, cpL_at hl k i]
        by_cases h : c ≤ i ∧ i < c + k
        · rw [if_pos h, if_pos (by omega)]
        · rw [if_neg h, if_neg (by omega)]
    · rename_i hs
      rw [cpL_at hl k i]
      by_cases h : c ≤ i ∧ i < c + k
      · rw [if_pos h, if_pos (by omega)]
      · rw [if_neg h]
        by_cases e : c + k = i
        · subst e
          rw [if_pos (by omega), hs]
          rw [List.getElem?_eq_none_iff] at hs ⊢
          omega
        · rw [if_neg (by omega)]
theorem OwnEnc.block {α : Type} {enc : α → Value} {e : TypeId} {base n g k : Nat} {w : World} {xs : List α} (h : OwnEnc enc e base w (.slice (some ⟨g, 0, none⟩) n k) xs) : ∃ cur : List Value, w.heap[g]? = some (.cells cur.toArray e (0, 0)) ∧ cur.length = k ∧ cur.take n = xs.map enc ∧ n ≤ k ∧ k ≤ maxLen := by
  have hn := h.len
  rcases h.2 with ⟨hv, _⟩ | ⟨g', cap, cur, hv, hb, hg, h1, h2, h3, h4⟩
  · cases hv
  · injection hv with e1 e2 e3
    injection e1 with e1
    injection e1 with e1
    subst e1 e3
    exact ⟨cur.toList, hg, by simpa using h3, by rw [← h4, ← hn, Nat.mul_one], by omega, h2⟩
theorem OwnEnc.spliced {α : Type} {enc : α → Value} {e : TypeId} {base n g k j : Nat} {w : World} {xs ys : List α} {cur : List Value} (hb : base ≤ g) (hg : w.heap[g]? = some (.cells (splice cur j (ys.map enc)).toArray e (0, 0))) (hc : cur.length = k) (ht : cur.take n = xs.map enc) (hn : xs.length = n) (hnk : n ≤ k) (hk : k ≤ maxLen) (hj : j + ys.length ≤ n) :
    OwnEnc enc e base w (.slice (some ⟨g, 0, none⟩) n k) (splice xs j ys) := by
  have hl : (splice xs j ys).length = n := by rw [length_splice _ _ _ (by omega), hn]
  have hl2 : (splice cur j (ys.map enc)).length = k := by rw [length_splice _ _ _ (by rw [List.length_map]; omega), hc]
  unfold OwnEnc
  rw [hl]
  refine ⟨by rw [List.length_map, hl, Nat.mul_one], .inr ⟨g, k, (splice cur j (ys.map enc)).toArray, rfl, hb, hg, hnk, hk, by simpa using hl2, ?_⟩⟩
  rw [Nat.mul_one]
  have e1 : cur = xs.map enc ++ cur.drop n := by rw [← ht, List.take_append_drop]
  show (splice cur j (ys.map enc)).take n = _
  unfold splice
  rw [List.length_map, List.map_append, List.map_append, List.map_take, List.map_drop, ← ht, List.take_append, List.take_append]
  have l1 : (cur.take j).length = j := by rw [List.length_take]; omega
  have l2 : (ys.map enc).length = ys.length := List.length_map ..
  rw [l1, l2, List.take_of_length_le (l := cur.take j) (by omega), List.take_of_length_le (l := ys.map enc) (by omega), List.take_take, Nat.min_eq_left (by omega), List.drop_take, Nat.sub_sub]
theorem OwnEnc.under {α : Type} {enc : α → Value} {e : TypeId} {base n g k B : Nat} {w w' : World} {xs : List α} (h : OwnEnc enc e base w (.slice (some ⟨g, 0, none⟩) n k) xs) (hb : Below B w w') (hg : g < B) : OwnEnc enc e base w' (.slice (some ⟨g, 0, none⟩) n k) xs := by
  obtain ⟨h1, h2⟩ := h
  refine ⟨h1, ?_⟩
  rcases h2 with ⟨hv, _⟩ | ⟨g', cap, cur, hv, hb', hg', h3⟩
  · cases hv
  · injection hv with e1 e2 e3
    injection e1 with e1
    injection e1 with e1
    subst e1 e3
    exact .inr ⟨g, k, cur, by rw [← e2], hb', (hb.block g hg).trans hg', h3⟩
/-- A part of a row, cut out. -/
theorem slice_part {P : Program} {t : TypeId} (ht : P.underlying t = some (.slice (P.elem t))) (hs : ∀ w, (sizeOf (P.elem t)).run P w = .ok 1 w) (g n cap j k : Nat) (E : Int) (hE : E = j + k) (h2 : j + k ≤ cap) :
    ∃ A, (0 < k → A = some ⟨g, j, none⟩) ∧ ∀ w, (Instr.slice t (.slice (some ⟨g, 0, none⟩) n cap) (some (.int .i64 j)) (some (.int .i64 E)) none).run P w = .ok (.slice A k (cap - j)) w := by
  refine ⟨if cap = j then some ⟨g, 0, none⟩ else some ⟨g, j, none⟩, fun h => if_neg (by omega), fun w => ?_⟩
  rw [run_slice_lh w t _ n cap ht .i64 .i64 j E (by omega) (by omega) (by omega), hs]
  simp only [Result.andThen, sliced]
  congr 1
  rw [show E.toNat = j + k by omega, Int.toNat_natCast, Nat.add_sub_cancel_left, Nat.mul_one, Option.map_some, add_of_none, Nat.zero_add]
def goodC (S T : List ByteArray) (c q : Int) : Bool := validB S T c && decide (1 ≤ q)
def cpC (S T : List ByteArray) (c q : Int) : Int := if goodC S T c q then c + min q (S.length - c) else c
def cpT (S T : List ByteArray) (c q : Int) : List ByteArray := if goodC S T c q then cpL S T c.toNat (min q (S.length - c)).toNat else T
theorem cpL_splice {S T : List ByteArray} {c k : Nat} (hl : T.length = S.length) (hk : c + k ≤ S.length) : splice T c ((S.drop c).take k) = cpL S T c k := by
  apply List.ext_getElem?
  intro i
  rw [cpL_at hl]
  have h1 : ((S.drop c).take k).length = k := by rw [List.length_take, List.length_drop]; omega
  unfold splice
  rw [h1, List.getElem?_append, List.getElem?_append]
  have h2 : (T.take c).length = c := by rw [List.length_take]; omega
  rw [h1, h2]
  by_cases a : i < c
  · rw [if_pos a, if_neg (by omega), List.getElem?_take, if_pos a]
  · by_cases b : i < c + k
    · rw [if_neg a, if_pos (by omega), if_pos (by omega), List.getElem?_take, if_pos (by omega), List.getElem?_drop]
      congr 1; omega
    · rw [if_neg a, if_neg (by omega), if_neg (by omega), List.getElem?_drop]
      congr 1; omega
theorem retRow {S T : List ByteArray} {c : Int} {w w' : World} {vs vt : Value} (h1 : StrRow w' vs S) (h2 : StrRow w' vt T) (hb : Below w.heap.size w w') : RetRow S T c w (.returned (.agg #[vs, vt, .int .i64 c])) w' := ⟨_, rfl, ⟨vs, vt, rfl, h1, h2⟩, hb⟩
set_option maxHeartbeats 4000000 in
theorem copy_own (vs vt : Value) (S T : List ByteArray) (c q : Int) (w : World) (ha : StrRow w vs S) (hb : StrRow w vt T) (hc : -9223372036854775808 ≤ c ∧ c ≤ 9223372036854775807) (hs : S.length ≤ 1000000) (ht : T.length ≤ 1000000) (hq : -9223372036854775808 ≤ q ∧ q ≤ 9223372036854775807) : Calls Try.prog 17 #[.agg #[vs, vt, .int .i64 c], .int .i64 q] w (RetOwnM S (cpT S T c q) (cpC S T c q) w) := by
  have hlen := fun h => validB_len (S := S) (T := T) (c := c) h
  have HLEN := Lib.hid hlen; clear hlen
  have HA := Lib.hid ha
  have HB := Lib.hid hb
  obtain ⟨ao, ca, rfl, a1, a2, a3⟩ := ha.out
  obtain ⟨bo, cb, rfl, b1, b2, b3⟩ := hb.out
  clear ha hb a3 b3
  have V := fun vs vt w ha hb => valid_any vs vt S T c w ha hb hc
  obtain ⟨vb, hvb⟩ : ∃ v, validB S T c = v := ⟨_, rfl⟩
  obtain ⟨n, hn⟩ : ∃ n, S.length = n := ⟨_, rfl⟩
  obtain ⟨m, hm⟩ : ∃ n, T.length = n := ⟨_, rfl⟩
  rw [hvb] at V
  have HV := Lib.hid V; clear V
  have HVB := Lib.hid hvb; clear hvb
  rw [hn] at a1 HA ⊢
  rw [hm] at b1 HB ⊢
  rw [hn] at hs
  rw [hm] at ht
  have HN := Lib.hid hn; clear hn
  have HM := Lib.hid hm; clear hm
  go_enter Try.func17, Try.ntmps17
  go_wp2_with fail
  with_reducible refine (mclone_any _ _ S T c _ (HA.out.below (by repeat (first | with_reducible exact Below.refl _ _ | with_reducible refine Below.drew ?_ | (with_reducible refine Below.alloc ?_ (by first | exact Nat.le_refl _ | omega | (simp only [sizes]; omega)) _) | (with_reducible refine Below.setCell ?_ (by first | exact Nat.le_refl _ | omega | (simp only [sizes]; omega)) _) | (refine Below.trans ?_ (Below.mono (by with_reducible assumption) (by first | exact Nat.le_refl _ | omega | (simp only [sizes]; omega))))))) (HB.out.below (by repeat (first | with_reducible exact Below.refl _ _ | with_reducible refine Below.drew ?_ | (with_reducible refine Below.alloc ?_ (by first | exact Nat.le_refl _ | omega | (simp only [sizes]; omega)) _) | (with_reducible refine Below.setCell ?_ (by first | exact Nat.le_refl _ | omega | (simp only [sizes]; omega)) _) | (refine Below.trans ?_ (Below.mono (by with_reducible assumption) (by first | exact Nat.le_refl _ | omega | (simp only [sizes]; omega))))))) (by rw [HN.out]; omega) (by rw [HM.out]; omega)).mono ?_
  rintro e w1 ⟨v1, rfl, ho1, hb1⟩
  obtain ⟨vs1, vt1, rfl, os1, ot1, hap⟩ := ho1
  have D1 := ((HasBlock.made w #[.slice ao n ca, .slice bo m cb, .int .i64 c] 24).alloc (.cells #[.slice none 0 0, .slice none 0 0, .int .i64 0] 24)).below hb1
  have D2 := (HasBlock.made (w.alloc (.cells #[.slice ao n ca, .slice bo m cb, .int .i64 c] 24)) #[.slice none 0 0, .slice none 0 0, .int .i64 0] 24).below hb1
  have hbw1 : Below w.heap.size w w1 := (by repeat (first | with_reducible exact Below.refl _ _ | with_reducible refine Below.drew ?_ | (with_reducible refine Below.alloc ?_ (by first | exact Nat.le_refl _ | omega | (dsimp only; omega) | (simp only [sizes]; omega)) _) | (with_reducible refine Below.setCell ?_ (by first | exact Nat.le_refl _ | omega | (dsimp only; omega) | (simp only [sizes]; omega)) _) | (refine Below.trans ?_ (Below.mono (by with_reducible assumption) (by first | exact Nat.le_refl _ | omega | (dsimp only; omega) | (simp only [sizes]; omega))))))
  have hz1 := hb1.size
  simp only [sizes] at D2 hz1 os1 ot1
  clear hb1
  obtain ⟨o1, k1, rfl, kl1, km1⟩ := os1.formN HN.out
  obtain ⟨o3, k3, rfl, kl3, km3⟩ := ot1.formN HM.out
  have HAP := Lib.hid hap; clear hap
  have HO1 := Lib.hid os1; clear os1
  have HO3 := Lib.hid ot1; clear ot1
  have x0 := (D1.cell 0).trans rfl
  have x1 := (D1.cell 1).trans rfl
  have x2 := (D1.cell 2).trans rfl
  have xf := D1.free
  have xz := D1.lt
  have y0 := (D2.cell 0).trans rfl
  have y1 := (D2.cell 1).trans rfl
  have y2 := (D2.cell 2).trans rfl
  have yf := D2.free
  have yz := D2.lt
  go_wp2_with fail
  have E1 : HasBlock (((w1.setCell ⟨w.heap.size, 0, none⟩ (.slice o1 n k1)).setCell ⟨w.heap.size, 1, none⟩ (.slice o3 m k3)).setCell ⟨w.heap.size, 2, none⟩ (.int .i64 c)) w.heap.size #[.slice o1 n k1, .slice o3 m k3, .int .i64 c] 24 := by simpa using ((D1.set_at 0 (.slice o1 n k1)).set_at 1 (.slice o3 m k3)).set_at 2 (.int .i64 c)
  have E2 := ((D2.set_ne (b' := w.heap.size) (j := 0) (by omega) (.slice o1 n k1)).set_ne (b' := w.heap.size) (j := 1) (by omega) (.slice o3 m k3)).set_ne (b' := w.heap.size) (j := 2) (by omega) (.int .i64 c)
  have p1 : OwnStr (w.heap.size + 1 + 1) (((w1.setCell ⟨w.heap.size, 0, none⟩ (.slice o1 n k1)).setCell ⟨w.heap.size, 1, none⟩ (.slice o3 m k3)).setCell ⟨w.heap.size, 2, none⟩ (.int .i64 c)) (.slice o1 n k1) S := (by have h4 := OwnEnc.raw (HO1).out; refine OwnEnc.of ?_; repeat (first | with_reducible exact h4 | (with_reducible refine World.ownsRow.alloc ?_ _) | (with_reducible refine owns_set_ne ?_ (own_gt h4 (by omega)) _)))
  have p3 : OwnStr (w.heap.size + 1 + 1) (((w1.setCell ⟨w.heap.size, 0, none⟩ (.slice o1 n k1)).setCell ⟨w.heap.size, 1, none⟩ (.slice o3 m k3)).setCell ⟨w.heap.size, 2, none⟩ (.int .i64 c)) (.slice o3 m k3) T := (by have h4 := OwnEnc.raw (HO3).out; refine OwnEnc.of ?_; repeat (first | with_reducible exact h4 | (with_reducible refine World.ownsRow.alloc ?_ _) | (with_reducible refine owns_set_ne ?_ (own_gt h4 (by omega)) _)))
  have hbw2 : Below w.heap.size w (((w1.setCell ⟨w.heap.size, 0, none⟩ (.slice o1 n k1)).setCell ⟨w.heap.size, 1, none⟩ (.slice o3 m k3)).setCell ⟨w.heap.size, 2, none⟩ (.int .i64 c)) := (by repeat (first | with_reducible exact Below.refl _ _ | with_reducible refine Below.drew ?_ | (with_reducible refine Below.alloc ?_ (by first | exact Nat.le_refl _ | omega | (dsimp only; omega) | (simp only [sizes]; omega)) _) | (with_reducible refine Below.setCell ?_ (by first | exact Nat.le_refl _ | omega | (dsimp only; omega) | (simp only [sizes]; omega)) _) | (refine Below.trans ?_ (Below.mono (by with_reducible assumption) (by first | exact Nat.le_refl _ | omega | (dsimp only; omega) | (simp only [sizes]; omega))))))
  clear x0 x1 x2 xf xz
  clear y0 y1 y2 yf yz
  clear D1 D2 HO1 HO3 hbw1
  generalize hW : ((w1.setCell ⟨w.heap.size, 0, none⟩ (.slice o1 n k1)).setCell ⟨w.heap.size, 1, none⟩ (.slice o3 m k3)).setCell ⟨w.heap.size, 2, none⟩ (.int .i64 c) = w2 at E1 E2 p1 p3 hbw2 ⊢
  have hz2 : w.heap.size + 1 + 1 ≤ w2.heap.size := by rw [← hW]; simp only [World.size_setCell]; exact hz1
  clear hW hz1
  with_reducible refine (HV.out _ _ _ p1.row p3.row).mono ?_
  rintro e w3 ⟨rfl, hb3⟩
  have D1 := E1.below hb3
  have D2 := E2.below hb3
  have HO1 := Lib.hid (p1.below hb3)
  have HO3 := Lib.hid (p3.below hb3)
  have hbw3 : Below w.heap.size w w3 := hbw2.trans (hb3.mono hbw2.size)
  have hz3 := Nat.le_trans hz2 hb3.size
  clear E1 E2 p1 p3 hbw2 hb3 hz2 HV
  have x0 := (D1.cell 0).trans rfl
  have x1 := (D1.cell 1).trans rfl
  have x2 := (D1.cell 2).trans rfl
  have xf := D1.free
  have xz := D1.lt
  have y0 := (D2.cell 0).trans rfl
  have y1 := (D2.cell 1).trans rfl
  have y2 := (D2.cell 2).trans rfl
  have yf := D2.free
  have yz := D2.lt
  cases vb
  · have hfail : goodC S T c q = false := by rw [goodC, HVB.out, Bool.false_and]
    have HF := Lib.hid hfail; clear hfail
    go_wp2_with fail
    refine bodyPost_ret (v := .agg #[.slice o1 n k1, .slice o3 m k3, .int .i64 c]) (by simp [results, Try.results17, go_sem, y0, y1, y2]) rfl ?_
    rw [show RetOwnM S (cpT S T c q) (cpC S T c q) w = RetOwnM S T c w by simp [cpT, cpC, HF.out]]
    exact retOwn (OwnEnc.lower (base := w.heap.size + 1 + 1) (by have h4 := OwnEnc.raw (HO1).out; refine OwnEnc.of ?_; repeat (first | with_reducible exact h4 | (with_reducible refine World.ownsRow.alloc ?_ _) | (with_reducible refine owns_set_ne ?_ (own_gt h4 (by omega)) _))) (by omega)) (OwnEnc.lower (base := w.heap.size + 1 + 1) (by have h4 := OwnEnc.raw (HO3).out; refine OwnEnc.of ?_; repeat (first | with_reducible exact h4 | (with_reducible refine World.ownsRow.alloc ?_ _) | (with_reducible refine owns_set_ne ?_ (own_gt h4 (by omega)) _))) (by omega)) (by repeat (first | with_reducible exact Below.refl _ _ | with_reducible refine Below.drew ?_ | (with_reducible refine Below.alloc ?_ (by first | exact Nat.le_refl _ | omega | (dsimp only; omega) | (simp only [sizes]; omega)) _) | (with_reducible refine Below.setCell ?_ (by first | exact Nat.le_refl _ | omega | (dsimp only; omega) | (simp only [sizes]; omega)) _) | (refine Below.trans ?_ (Below.mono (by with_reducible assumption) (by first | exact Nat.le_refl _ | omega | (dsimp only; omega) | (simp only [sizes]; omega))))))
  have hln : 1 ≤ n ∧ n ≤ 64 ∧ 1 ≤ m ∧ m ≤ 64 ∧ n ≤ m ∧ m ≤ n ∧ 0 ≤ c ∧ c ≤ n := by
    have h := HLEN.out HVB.out
    rw [HN.out, HM.out] at h
    omega
  have HTL := Lib.hid (HLEN.out HVB.out).2.2.1
  clear HLEN
  by_cases hq1 : 1 ≤ q
  rotate_left
  · have hfail : goodC S T c q = false := by rw [goodC, decide_eq_false hq1, Bool.and_false]
    have HF := Lib.hid hfail; clear hfail
    go_wp2_with fail
    refine bodyPost_ret (v := .agg #[.slice o1 n k1, .slice o3 m k3, .int .i64 c]) (by simp [results, Try.results17, go_sem, y0, y1, y2]) rfl ?_
    rw [show RetOwnM S (cpT S T c q) (cpC S T c q) w = RetOwnM S T c w by simp [cpT, cpC, HF.out]]
    exact retOwn (OwnEnc.lower (base := w.heap.size + 1 + 1) (by have h4 := OwnEnc.raw (HO1).out; refine OwnEnc.of ?_; repeat (first | with_reducible exact h4 | (with_reducible refine World.ownsRow.alloc ?_ _) | (with_reducible refine owns_set_ne ?_ (own_gt h4 (by omega)) _))) (by omega)) (OwnEnc.lower (base := w.heap.size + 1 + 1) (by have h4 := OwnEnc.raw (HO3).out; refine OwnEnc.of ?_; repeat (first | with_reducible exact h4 | (with_reducible refine World.ownsRow.alloc ?_ _) | (with_reducible refine owns_set_ne ?_ (own_gt h4 (by omega)) _))) (by omega)) (by repeat (first | with_reducible exact Below.refl _ _ | with_reducible refine Below.drew ?_ | (with_reducible refine Below.alloc ?_ (by first | exact Nat.le_refl _ | omega | (dsimp only; omega) | (simp only [sizes]; omega)) _) | (with_reducible refine Below.setCell ?_ (by first | exact Nat.le_refl _ | omega | (dsimp only; omega) | (simp only [sizes]; omega)) _) | (refine Below.trans ?_ (Below.mono (by with_reducible assumption) (by first | exact Nat.le_refl _ | omega | (dsimp only; omega) | (simp only [sizes]; omega))))))
  have hgood : goodC S T c q = true := by rw [goodC, HVB.out, Bool.true_and]; exact decide_eq_true hq1
  have HG := Lib.hid hgood; clear hgood
  obtain ⟨j, rfl⟩ : ∃ j : Nat, c = j := ⟨c.toNat, by omega⟩
  obtain ⟨g, rfl, hg1, hg2⟩ := HO1.out.addr HN.out (by omega)
  obtain ⟨g', rfl, hg1', hg2'⟩ := HO3.out.addr HM.out (by omega)
  have hgl := HAP.out g g' rfl rfl
  have hgg : g ≠ g' := Nat.ne_of_lt hgl
  have hgg' : g' ≠ g := fun e => hgg e.symm
  clear HAP
  by_cases hqn : q ≤ (n : Int) - j
  · obtain ⟨k, hk⟩ : ∃ k : Nat, q = k := ⟨q.toNat, by omega⟩
    have hk1 : j + k ≤ n := by omega
    have hk2 : q ≤ k ∧ (k : Int) ≤ q := by omega
    clear hk
    have sA : (0 : Int) ≤ (j : Int) + q := by omega
    have sB : (j : Int) + q ≤ (k3 : Int) := by omega
    have sC : (j : Int) + q ≤ (k1 : Int) := by omega
    have hres : cpC S T j q = (j : Int) + q := by unfold cpC; rw [HG.out, if_pos rfl, HN.out]; omega
    have hspl : cpT S T j q = splice T j ((S.drop j).take k) := by
      unfold cpT
      rw [HG.out, if_pos rfl, HN.out, Int.toNat_natCast, show (min q ((n : Int) - j)).toNat = k by omega]
      exact (cpL_splice HTL.out (by rw [HN.out]; omega)).symm
    obtain ⟨cur, hcb, hcl, hct, hck1, hck2⟩ := HO3.out.block
    have HCT := Lib.hid hct; clear hct
    have HCL := Lib.hid hcl; clear hcl
    have HCB := Lib.hid hcb; clear hcb
    obtain ⟨cs, hcs⟩ : ∃ cs, (S.drop j).take k = cs := ⟨_, rfl⟩
    have hsl : cs.length = k := by rw [← hcs, List.length_take, List.length_drop, HN.out]; omega
    have hml : (cs.map Value.string).length = k := by rw [List.length_map, hsl]
    have hsrc : ∀ i v, (cs.map Value.string)[i]? = some v → w3.cell? ((⟨g, j, none⟩ : Addr).add i) = some v := by
      intro i v hv
      rw [← hcs, List.getElem?_map, List.getElem?_take] at hv
      split at hv
      · rw [List.getElem?_drop] at hv
        cases hx : S[j + i]? with
        | none => rw [hx] at hv; simp at hv
        | some x =>
          rw [hx] at hv
          simp at hv
          subst hv
          rw [add_of_none]
          exact (HO1.out.at hx).1
      · simp at hv
    have hone : ∀ v ∈ cs.map Value.string, v.oneCell' = true := by
      intro v hv
      rw [List.mem_map] at hv
      obtain ⟨x, _, rfl⟩ := hv
      rfl
    rw [hcs] at hspl
    clear hcs
    obtain ⟨A3, hA3, hrun3⟩ := slice_part (P := Try.prog) (t := 22) (by kernel_rfl) (fun _ => by kernel_rfl) g' m k3 j k ((j : Int) + q) (by omega) (by omega)
    obtain ⟨A1, hA1, hrun1⟩ := slice_part (P := Try.prog) (t := 22) (by kernel_rfl) (fun _ => by kernel_rfl) g n k1 j k ((j : Int) + q) (by omega) (by omega)
    have HA3 := Lib.hid hA3; clear hA3
    have HA1 := Lib.hid hA1; clear hA1
    have HRES := Lib.hid hres; clear hres
    have HSPL := Lib.hid hspl; clear hspl
    have HSL := Lib.hid hsl; clear hsl
    have HML := Lib.hid hml; clear hml
    have HSRC := Lib.hid hsrc; clear hsrc
    have HONE := Lib.hid hone; clear hone
    go_upto_region 5 with (fail)
    go_cut [] from 27 to 39 (fun wx => HasBlock wx w.heap.size #[.slice (some ⟨g, 0, none⟩) n k1, .slice (some ⟨g', 0, none⟩) m k3, .int .i64 j] 24 ∧ HasBlock wx (w.heap.size + 1) #[.slice none 0 0, .slice none 0 0, .int .i64 0] 24 ∧ OwnStr (w.heap.size + 1 + 1) wx (.slice (some ⟨g, 0, none⟩) n k1) S ∧ OwnStr (w.heap.size + 1 + 1) wx (.slice (some ⟨g', 0, none⟩) m k3) (splice T j cs) ∧ Below w.heap.size w wx)
    case first =>
      go_region_law (refine step_copy_splice rfl (.tmp 32) (.tmp 38) 22 22 rfl 9 Try.underlying22 size_str _ _ _ _ _ _ rfl rfl g' j cur 9 HCB.out (cs.map Value.string) (by rw [HML.out]; exact (Nat.min_self k).symm) (fun h => ⟨HA3.out (by rw [HML.out] at h; exact h), _, HA1.out (by rw [HML.out] at h; exact h), fun i v hv => HSRC.out i v hv⟩) (by rw [HML.out, HCL.out]; omega) HONE.out g' w3 (Below.drew (Below.refl _ _)) (Nat.le_refl _) ?_; intro w4 hg4 hb4)
      all_goals
        go_wp2_with fail
        go_meet
        have Z3 := OwnEnc.spliced (enc := Value.string) (ys := cs) hg1' hg4.out HCL.out HCT.out HM.out hck1 hck2 (by rw [HSL.out]; omega)
        exact ⟨D1.under hb4 (by omega), D2.under hb4 (by omega), HO1.out.under hb4 hgl, Z3, hbw3.trans (hb4.mono (by omega))⟩
    case rest =>
      obtain ⟨E1, E2, p1, p3, hbw4⟩ := hcut
      have Z1 := Lib.hid p1; clear p1
      have Z3 := Lib.hid p3; clear p3
      clear x0 x1 x2 xf xz y0 y1 y2 yf yz hbw3 D1 D2 HO1 HO3 HCB hrun1 hrun3
      have x0 := (E1.cell 0).trans rfl
      have x1 := (E1.cell 1).trans rfl
      have x2 := (E1.cell 2).trans rfl
      have xf := E1.free
      have xz := E1.lt
      have y0 := (E2.cell 0).trans rfl
      have y1 := (E2.cell 1).trans rfl
      have y2 := (E2.cell 2).trans rfl
      have yf := E2.free
      have yz := E2.lt
      go_wp2_with fail
      refine bodyPost_ret (v := .agg #[.slice (some ⟨g, 0, none⟩) n k1, .slice (some ⟨g', 0, none⟩) m k3, .int .i64 ((j : Int) + q)]) (by simp [results, Try.results17, go_sem, y0, y1, y2]) rfl ?_
      rw [HRES.out, HSPL.out]
      exact retOwn (OwnEnc.lower (base := w.heap.size + 1 + 1) (by have h4 := OwnEnc.raw (Z1.out); refine OwnEnc.of ?_; repeat (first | with_reducible exact h4 | (with_reducible refine World.ownsRow.alloc ?_ _) | (with_reducible refine owns_set_ne ?_ (own_gt h4 (by omega)) _) | (with_reducible refine owns_set_ne ?_ (own_ne (by omega)) _))) (by omega)) (OwnEnc.lower (base := w.heap.size + 1 + 1) (by have h4 := OwnEnc.raw (Z3.out); refine OwnEnc.of ?_; repeat (first | with_reducible exact h4 | (with_reducible refine World.ownsRow.alloc ?_ _) | (with_reducible refine owns_set_ne ?_ (own_gt h4 (by omega)) _) | (with_reducible refine owns_set_ne ?_ (own_ne (by omega)) _))) (by omega)) (by repeat (first | with_reducible exact Below.refl _ _ | with_reducible refine Below.drew ?_ | (with_reducible refine Below.alloc ?_ (by first | exact Nat.le_refl _ | omega | (dsimp only; omega) | (simp only [sizes]; omega)) _) | (with_reducible refine Below.setCell ?_ (by first | exact Nat.le_refl _ | omega | (dsimp only; omega) | (simp only [sizes]; omega)) _) | (refine Below.trans ?_ (Below.mono (by with_reducible assumption) (by first | exact Nat.le_refl _ | omega | (dsimp only; omega) | (simp only [sizes]; omega))))))
  · obtain ⟨k, hk⟩ : ∃ k : Nat, j + k = n := ⟨n - j, by omega⟩
    have hk1 : j + k ≤ n := by omega
    have hk2 : n ≤ j + k := by omega
    clear hk
    have sA : (0 : Int) ≤ (j : Int) + ((n : Int) - j) := by omega
    have sB : (j : Int) + ((n : Int) - j) ≤ (k3 : Int) := by omega
    have sC : (j : Int) + ((n : Int) - j) ≤ (k1 : Int) := by omega
    have hres : cpC S T j q = (j : Int) + ((n : Int) - j) := by unfold cpC; rw [HG.out, if_pos rfl, HN.out]; omega
    have hspl : cpT S T j q = splice T j ((S.drop j).take k) := by
      unfold cpT
      rw [HG.out, if_pos rfl, HN.out, Int.toNat_natCast, show (min q ((n : Int) - j)).toNat = k by omega]
      exact (cpL_splice HTL.out (by rw [HN.out]; omega)).symm
    obtain ⟨cur, hcb, hcl, hct, hck1, hck2⟩ := HO3.out.block
    have HCT := Lib.hid hct; clear hct
    have HCL := Lib.hid hcl; clear hcl
    have HCB := Lib.hid hcb; clear hcb
    obtain ⟨cs, hcs⟩ : ∃ cs, (S.drop j).take k = cs := ⟨_, rfl⟩
    have hsl : cs.length = k := by rw [← hcs, List.length_take, List.length_drop, HN.out]; omega
    have hml : (cs.map Value.string).length = k := by rw [List.length_map, hsl]
    have hsrc : ∀ i v, (cs.map Value.string)[i]? = some v → w3.cell? ((⟨g, j, none⟩ : Addr).add i) = some v := by
      intro i v hv
      rw [← hcs, List.getElem?_map, List.getElem?_take] at hv
      split at hv
      · rw [List.getElem?_drop] at hv
        cases hx : S[j + i]? with
        | none => rw [hx] at hv; simp at hv
        | some x =>
          rw [hx] at hv
          simp at hv
          subst hv
          rw [add_of_none]
          exact (HO1.out.at hx).1
      · simp at hv
    have hone : ∀ v ∈ cs.map Value.string, v.oneCell' = true := by
      intro v hv
      rw [List.mem_map] at hv
      obtain ⟨x, _, rfl⟩ := hv
      rfl
    rw [hcs] at hspl
    clear hcs
    obtain ⟨A3, hA3, hrun3⟩ := slice_part (P := Try.prog) (t := 22) (by kernel_rfl) (fun _ => by kernel_rfl) g' m k3 j k ((j : Int) + ((n : Int) - j)) (by omega) (by omega)
    obtain ⟨A1, hA1, hrun1⟩ := slice_part (P := Try.prog) (t := 22) (by kernel_rfl) (fun _ => by kernel_rfl) g n k1 j k ((j : Int) + ((n : Int) - j)) (by omega) (by omega)
    have HA3 := Lib.hid hA3; clear hA3
    have HA1 := Lib.hid hA1; clear hA1
    have HRES := Lib.hid hres; clear hres
    have HSPL := Lib.hid hspl; clear hspl
    have HSL := Lib.hid hsl; clear hsl
    have HML := Lib.hid hml; clear hml
    have HSRC := Lib.hid hsrc; clear hsrc
    have HONE := Lib.hid hone; clear hone
    go_upto_region 5 with (fail)
    go_cut [] from 27 to 39 (fun wx => HasBlock wx w.heap.size #[.slice (some ⟨g, 0, none⟩) n k1, .slice (some ⟨g', 0, none⟩) m k3, .int .i64 j] 24 ∧ HasBlock wx (w.heap.size + 1) #[.slice none 0 0, .slice none 0 0, .int .i64 0] 24 ∧ OwnStr (w.heap.size + 1 + 1) wx (.slice (some ⟨g, 0, none⟩) n k1) S ∧ OwnStr (w.heap.size + 1 + 1) wx (.slice (some ⟨g', 0, none⟩) m k3) (splice T j cs) ∧ Below w.heap.size w wx)
    case first =>
      go_region_law (refine step_copy_splice rfl (.tmp 32) (.tmp 38) 22 22 rfl 9 Try.underlying22 size_str _ _ _ _ _ _ rfl rfl g' j cur 9 HCB.out (cs.map Value.string) (by rw [HML.out]; exact (Nat.min_self k).symm) (fun h => ⟨HA3.out (by rw [HML.out] at h; exact h), _, HA1.out (by rw [HML.out] at h; exact h), fun i v hv => HSRC.out i v hv⟩) (by rw [HML.out, HCL.out]; omega) HONE.out g' w3 (Below.drew (Below.refl _ _)) (Nat.le_refl _) ?_; intro w4 hg4 hb4)
      all_goals
        go_wp2_with fail
        go_meet
        have Z3 := OwnEnc.spliced (enc := Value.string) (ys := cs) hg1' hg4.out HCL.out HCT.out HM.out hck1 hck2 (by rw [HSL.out]; omega)
        exact ⟨D1.under hb4 (by omega), D2.under hb4 (by omega), HO1.out.under hb4 hgl, Z3, hbw3.trans (hb4.mono (by omega))⟩
    case rest =>
      obtain ⟨E1, E2, p1, p3, hbw4⟩ := hcut
      have Z1 := Lib.hid p1; clear p1
      have Z3 := Lib.hid p3; clear p3
      clear x0 x1 x2 xf xz y0 y1 y2 yf yz hbw3 D1 D2 HO1 HO3 HCB hrun1 hrun3
      have x0 := (E1.cell 0).trans rfl
      have x1 := (E1.cell 1).trans rfl
      have x2 := (E1.cell 2).trans rfl
      have xf := E1.free
      have xz := E1.lt
      have y0 := (E2.cell 0).trans rfl
      have y1 := (E2.cell 1).trans rfl
      have y2 := (E2.cell 2).trans rfl
      have yf := E2.free
      have yz := E2.lt
      go_wp2_with fail
      refine bodyPost_ret (v := .agg #[.slice (some ⟨g, 0, none⟩) n k1, .slice (some ⟨g', 0, none⟩) m k3, .int .i64 ((j : Int) + ((n : Int) - j))]) (by simp [results, Try.results17, go_sem, y0, y1, y2]) rfl ?_
      rw [HRES.out, HSPL.out]
      exact retOwn (OwnEnc.lower (base := w.heap.size + 1 + 1) (by have h4 := OwnEnc.raw (Z1.out); refine OwnEnc.of ?_; repeat (first | with_reducible exact h4 | (with_reducible refine World.ownsRow.alloc ?_ _) | (with_reducible refine owns_set_ne ?_ (own_gt h4 (by omega)) _) | (with_reducible refine owns_set_ne ?_ (own_ne (by omega)) _))) (by omega)) (OwnEnc.lower (base := w.heap.size + 1 + 1) (by have h4 := OwnEnc.raw (Z3.out); refine OwnEnc.of ?_; repeat (first | with_reducible exact h4 | (with_reducible refine World.ownsRow.alloc ?_ _) | (with_reducible refine owns_set_ne ?_ (own_gt h4 (by omega)) _) | (with_reducible refine owns_set_ne ?_ (own_ne (by omega)) _))) (by omega)) (by repeat (first | with_reducible exact Below.refl _ _ | with_reducible refine Below.drew ?_ | (with_reducible refine Below.alloc ?_ (by first | exact Nat.le_refl _ | omega | (dsimp only; omega) | (simp only [sizes]; omega)) _) | (with_reducible refine Below.setCell ?_ (by first | exact Nat.le_refl _ | omega | (dsimp only; omega) | (simp only [sizes]; omega)) _) | (refine Below.trans ?_ (Below.mono (by with_reducible assumption) (by first | exact Nat.le_refl _ | omega | (dsimp only; omega) | (simp only [sizes]; omega))))))
theorem copy_mir (vs vt : Value) (S T : List ByteArray) (c q : Int) (w : World) (ha : StrRow w vs S) (hb : StrRow w vt T) (hc : -9223372036854775808 ≤ c ∧ c ≤ 9223372036854775807) (hs : S.length ≤ 1000000) (ht : T.length ≤ 1000000) (hq : -9223372036854775808 ≤ q ∧ q ≤ 9223372036854775807) : Calls Try.prog 17 #[.agg #[vs, vt, .int .i64 c], .int .i64 q] w (RetRow S (cpT S T c q) (cpC S T c q) w) := (copy_own vs vt S T c q w ha hb hc hs ht hq).mono fun _ _ h => h.row
end Go.Proofs.Ytfomfokgibijjaa
