/-
  Two mirrors held against one another; a block written, in the reference: walked.
-/
import Derived.Test.YtfomfokgibijjaaMirWrite
import Derived.Test.YtfomfokgibijjaaMirCopy
namespace Go.Proofs.Ytfomfokgibijjaa
open Go.RowKit

theorem same_row (va vb : Value) (A : List ByteArray) (w : World) (ha : StrRow w va A) (hb : StrRow w vb A) : Calls Try.prog 20 #[va, vb] w (Ret w (.bool true)) := by
  have h := same_str va vb A A w ha hb
  rwa [decide_eq_true rfl] at h
set_option maxHeartbeats 1000000 in
theorem same_mir (v v' : Value) (S T : List ByteArray) (c : Int) (w : World) (ha : MirRow w S T c v) (hb : MirRow w S T c v') : Calls Try.prog 16 #[v, v'] w (Ret w (.bool true)) := by
  obtain ⟨vs, vt, rfl, h1, h2⟩ := ha
  obtain ⟨us, ut, rfl, h3, h4⟩ := hb
  have H1 := Lib.hid h1
  have H2 := Lib.hid h2
  have H3 := Lib.hid h3
  have H4 := Lib.hid h4
  obtain ⟨a1, k1, rfl, _, _, _⟩ := h1.out
  obtain ⟨a2, k2, rfl, _, _, _⟩ := h2.out
  obtain ⟨a3, k3, rfl, _, _, _⟩ := h3.out
  obtain ⟨a4, k4, rfl, _, _, _⟩ := h4.out
  clear h1 h2 h3 h4
  have hb0 : Below w.heap.size w ((w.alloc (.cells #[.slice a1 S.length k1, .slice a2 T.length k2, .int .i64 c] 24)).alloc (.cells #[.slice a3 S.length k3, .slice a4 T.length k4, .int .i64 c] 24)) := (by repeat (first | with_reducible exact Below.refl _ _ | with_reducible refine Below.drew ?_ | (with_reducible refine Below.alloc ?_ (by first | exact Nat.le_refl _ | omega | (simp only [sizes]; omega)) _) | (with_reducible refine Below.setCell ?_ (by first | exact Nat.le_refl _ | omega | (simp only [sizes]; omega)) _) | (refine Below.trans ?_ (Below.mono (by with_reducible assumption) (by first | exact Nat.le_refl _ | omega | (simp only [sizes]; omega))))))
  go_enter Try.func16, Try.ntmps16
  go_wp2_with fail
  refine (same_row _ _ S _ (H1.out.below hb0) (H3.out.below hb0)).mono ?_
  rintro e w1 ⟨rfl, hb1⟩
  obtain ⟨hc1, hf1⟩ := bcell hb1
  have hz1 := bsize hb1
  try simp only [sizes1] at hz1
  try simp only [sizes] at hc1 hf1
  have D1 := ((HasBlock.made w #[.slice a1 S.length k1, .slice a2 T.length k2, .int .i64 c] 24).alloc (.cells #[.slice a3 S.length k3, .slice a4 T.length k4, .int .i64 c] 24)).below hb1
  have D2 := (HasBlock.made (w.alloc (.cells #[.slice a1 S.length k1, .slice a2 T.length k2, .int .i64 c] 24)) #[.slice a3 S.length k3, .slice a4 T.length k4, .int .i64 c] 24).below hb1
  have hbw1 : Below w.heap.size w w1 := hb0.trans (hb1.mono hb0.size)
  simp only [sizes] at D2
  clear hc1 hf1 hb1
  have x0 := (D1.cell 0).trans rfl
  have x1 := (D1.cell 1).trans rfl
  have x2 := (D1.cell 2).trans rfl
  have xf := D1.free
  have xz := D1.lt
  have y0 := (D2.cell 0).trans rfl
  have y1 := (D2.cell 1).trans rfl
  have y2 := (D2.cell 2).trans rfl
  have yf := D2.free
  have yz := D2.lt
  go_wp2_with fail
  refine (same_row _ _ T _ (H2.out.below hbw1) (H4.out.below hbw1)).mono ?_
  rintro e w2 ⟨rfl, hb2⟩
  obtain ⟨hc2, hf2⟩ := bcell hb2
  have hz2 := bsize hb2
  try simp only [sizes1] at hz2
  try simp only [sizes] at hc2 hf2
  go_wp2_with fail
  go_ret
  exact Ret.mk (hbw1.trans (hb2.mono hbw1.size))
set_option maxHeartbeats 2000000 in
theorem rwrite_any (vs vt : Value) (S T : List ByteArray) (c b : Int) (d : ByteArray) (w : World) (ha : StrRow w vs S) (hb : StrRow w vt T) (hc : -9223372036854775808 ≤ c ∧ c ≤ 9223372036854775807) : Calls Try.prog 11 #[.agg #[vs, vt, .int .i64 c], .int .i64 b, .string d] w (RetRow2 (wS S T c b d) (wT S T c b d) c (goodW S T c b d) w) := by
  have HA := Lib.hid ha
  have HB := Lib.hid hb
  obtain ⟨ao, ca, rfl, a1, a2, a3⟩ := ha.out
  obtain ⟨bo, cb, rfl, b1, b2, b3⟩ := hb.out
  clear ha hb
  have V := fun vs vt w ha hb => rvalid_any vs vt S T c w ha hb hc
  have hlen := fun h => validB_len (S := S) (T := T) (c := c) h
  have HLEN := Lib.hid hlen; clear hlen
  obtain ⟨vb, hvb⟩ : ∃ v, validB S T c = v := ⟨_, rfl⟩
  obtain ⟨n, hn⟩ : ∃ n, S.length = n := ⟨_, rfl⟩
  obtain ⟨m, hm⟩ : ∃ n, T.length = n := ⟨_, rfl⟩
  rw [hvb] at V
  have HV := Lib.hid V; clear V
  have HVB := Lib.hid hvb; clear hvb
  rw [hn] at a1 a3 HA ⊢
  rw [hm] at b1 b3 HB ⊢
  have HN := Lib.hid hn; clear hn
  have HM := Lib.hid hm; clear hm
  have hb0 : Below w.heap.size w ((w.alloc (.cells #[.slice ao n ca, .slice bo m cb, .int .i64 c] 24)).alloc (.cells #[.slice none 0 0, .slice none 0 0, .int .i64 0] 24)) := (by repeat (first | with_reducible exact Below.refl _ _ | with_reducible refine Below.drew ?_ | (with_reducible refine Below.alloc ?_ (by first | exact Nat.le_refl _ | omega | (simp only [sizes]; omega)) _) | (with_reducible refine Below.setCell ?_ (by first | exact Nat.le_refl _ | omega | (simp only [sizes]; omega)) _) | (refine Below.trans ?_ (Below.mono (by with_reducible assumption) (by first | exact Nat.le_refl _ | omega | (simp only [sizes]; omega))))))
  have D0 := (HasBlock.made w #[.slice ao n ca, .slice bo m cb, .int .i64 c] 24).alloc (.cells #[.slice none 0 0, .slice none 0 0, .int .i64 0] 24)
  have D9 := HasBlock.made (w.alloc (.cells #[.slice ao n ca, .slice bo m cb, .int .i64 c] 24)) #[.slice none 0 0, .slice none 0 0, .int .i64 0] 24
  have hz0 := hb0.size
  simp only [sizes] at D9 hz0
  go_enter Try.func11, Try.ntmps11
  go_wp2_with fail
  with_reducible refine (HV.out _ _ _ (HA.out.below hb0) (HB.out.below hb0)).mono ?_
  rintro e w1 ⟨rfl, hb1⟩
  have D1 := D0.below hb1
  have D2 := D9.below hb1
  have hbw1 : Below w.heap.size w w1 := hb0.trans (hb1.mono hb0.size)
  have hz1 : w.heap.size + 1 + 1 ≤ w1.heap.size := by have := hb1.size; simp only [sizes] at this; exact this
  clear hb1 hb0 D0 D9 hz0 HV
  have x0 := (D1.cell 0).trans rfl
  have x1 := (D1.cell 1).trans rfl
  have x2 := (D1.cell 2).trans rfl
  have xf := D1.free
  have xz := D1.lt
  have y0 := (D2.cell 0).trans rfl
  have y1 := (D2.cell 1).trans rfl
  have y2 := (D2.cell 2).trans rfl
  have yf := D2.free
  have yz := D2.lt
  cases vb
  · have hfail : goodW S T c b d = false := by rw [goodW, HVB.out, Bool.false_and]
    have HF := Lib.hid hfail; clear hfail
    go_wp2_with fail
    refine bodyPost_ret (v := .tuple #[.agg #[.slice ao n ca, .slice bo m cb, .int .i64 c], .bool false]) (by simp [results, Try.results11, go_sem, y0, y1, y2]) rfl ?_
    rw [show RetRow2 (wS S T c b d) (wT S T c b d) c (goodW S T c b d) w = RetRow2 S T c false w by simp [wS, wT, HF.out]]
    exact retRow2 (HA.out.below (by repeat (first | with_reducible exact Below.refl _ _ | with_reducible refine Below.drew ?_ | (with_reducible refine Below.alloc ?_ (by first | exact Nat.le_refl _ | omega | (dsimp only; omega) | (simp only [sizes]; omega)) _) | (with_reducible refine Below.setCell ?_ (by first | exact Nat.le_refl _ | omega | (dsimp only; omega) | (simp only [sizes]; omega)) _) | (refine Below.trans ?_ (Below.mono (by with_reducible assumption) (by first | exact Nat.le_refl _ | omega | (dsimp only; omega) | (simp only [sizes]; omega))))))) (HB.out.below (by repeat (first | with_reducible exact Below.refl _ _ | with_reducible refine Below.drew ?_ | (with_reducible refine Below.alloc ?_ (by first | exact Nat.le_refl _ | omega | (dsimp only; omega) | (simp only [sizes]; omega)) _) | (with_reducible refine Below.setCell ?_ (by first | exact Nat.le_refl _ | omega | (dsimp only; omega) | (simp only [sizes]; omega)) _) | (refine Below.trans ?_ (Below.mono (by with_reducible assumption) (by first | exact Nat.le_refl _ | omega | (dsimp only; omega) | (simp only [sizes]; omega))))))) (by repeat (first | with_reducible exact Below.refl _ _ | with_reducible refine Below.drew ?_ | (with_reducible refine Below.alloc ?_ (by first | exact Nat.le_refl _ | omega | (dsimp only; omega) | (simp only [sizes]; omega)) _) | (with_reducible refine Below.setCell ?_ (by first | exact Nat.le_refl _ | omega | (dsimp only; omega) | (simp only [sizes]; omega)) _) | (refine Below.trans ?_ (Below.mono (by with_reducible assumption) (by first | exact Nat.le_refl _ | omega | (dsimp only; omega) | (simp only [sizes]; omega))))))
  have hln : 1 ≤ n ∧ n ≤ 64 ∧ 1 ≤ m ∧ m ≤ 64 ∧ n ≤ m ∧ m ≤ n := by
    have h := HLEN.out HVB.out
    rw [HN.out, HM.out] at h
    omega
  clear HLEN
  by_cases hb0 : 0 ≤ b
  rotate_left
  · have hfail : goodW S T c b d = false := by rw [goodW, decide_eq_false (fun h => hb0 h.1), Bool.and_false]
    have HF := Lib.hid hfail; clear hfail
    go_wp2_with fail
    refine bodyPost_ret (v := .tuple #[.agg #[.slice ao n ca, .slice bo m cb, .int .i64 c], .bool false]) (by simp [results, Try.results11, go_sem, y0, y1, y2]) rfl ?_
    rw [show RetRow2 (wS S T c b d) (wT S T c b d) c (goodW S T c b d) w = RetRow2 S T c false w by simp [wS, wT, HF.out]]
    exact retRow2 (HA.out.below (by repeat (first | with_reducible exact Below.refl _ _ | with_reducible refine Below.drew ?_ | (with_reducible refine Below.alloc ?_ (by first | exact Nat.le_refl _ | omega | (dsimp only; omega) | (simp only [sizes]; omega)) _) | (with_reducible refine Below.setCell ?_ (by first | exact Nat.le_refl _ | omega | (dsimp only; omega) | (simp only [sizes]; omega)) _) | (refine Below.trans ?_ (Below.mono (by with_reducible assumption) (by first | exact Nat.le_refl _ | omega | (dsimp only; omega) | (simp only [sizes]; omega))))))) (HB.out.below (by repeat (first | with_reducible exact Below.refl _ _ | with_reducible refine Below.drew ?_ | (with_reducible refine Below.alloc ?_ (by first | exact Nat.le_refl _ | omega | (dsimp only; omega) | (simp only [sizes]; omega)) _) | (with_reducible refine Below.setCell ?_ (by first | exact Nat.le_refl _ | omega | (dsimp only; omega) | (simp only [sizes]; omega)) _) | (refine Below.trans ?_ (Below.mono (by with_reducible assumption) (by first | exact Nat.le_refl _ | omega | (dsimp only; omega) | (simp only [sizes]; omega))))))) (by repeat (first | with_reducible exact Below.refl _ _ | with_reducible refine Below.drew ?_ | (with_reducible refine Below.alloc ?_ (by first | exact Nat.le_refl _ | omega | (dsimp only; omega) | (simp only [sizes]; omega)) _) | (with_reducible refine Below.setCell ?_ (by first | exact Nat.le_refl _ | omega | (dsimp only; omega) | (simp only [sizes]; omega)) _) | (refine Below.trans ?_ (Below.mono (by with_reducible assumption) (by first | exact Nat.le_refl _ | omega | (dsimp only; omega) | (simp only [sizes]; omega))))))
  by_cases hbn : b < n
  rotate_left
  · have hfail : goodW S T c b d = false := by rw [goodW, decide_eq_false (fun h => hbn (by rw [← HN.out]; exact h.2.1)), Bool.and_false]
    have HF := Lib.hid hfail; clear hfail
    go_wp2_with fail
    refine bodyPost_ret (v := .tuple #[.agg #[.slice ao n ca, .slice bo m cb, .int .i64 c], .bool false]) (by simp [results, Try.results11, go_sem, y0, y1, y2]) rfl ?_
    rw [show RetRow2 (wS S T c b d) (wT S T c b d) c (goodW S T c b d) w = RetRow2 S T c false w by simp [wS, wT, HF.out]]
    exact retRow2 (HA.out.below (by repeat (first | with_reducible exact Below.refl _ _ | with_reducible refine Below.drew ?_ | (with_reducible refine Below.alloc ?_ (by first | exact Nat.le_refl _ | omega | (dsimp only; omega) | (simp only [sizes]; omega)) _) | (with_reducible refine Below.setCell ?_ (by first | exact Nat.le_refl _ | omega | (dsimp only; omega) | (simp only [sizes]; omega)) _) | (refine Below.trans ?_ (Below.mono (by with_reducible assumption) (by first | exact Nat.le_refl _ | omega | (dsimp only; omega) | (simp only [sizes]; omega))))))) (HB.out.below (by repeat (first | with_reducible exact Below.refl _ _ | with_reducible refine Below.drew ?_ | (with_reducible refine Below.alloc ?_ (by first | exact Nat.le_refl _ | omega | (dsimp only; omega) | (simp only [sizes]; omega)) _) | (with_reducible refine Below.setCell ?_ (by first | exact Nat.le_refl _ | omega | (dsimp only; omega) | (simp only [sizes]; omega)) _) | (refine Below.trans ?_ (Below.mono (by with_reducible assumption) (by first | exact Nat.le_refl _ | omega | (dsimp only; omega) | (simp only [sizes]; omega))))))) (by repeat (first | with_reducible exact Below.refl _ _ | with_reducible refine Below.drew ?_ | (with_reducible refine Below.alloc ?_ (by first | exact Nat.le_refl _ | omega | (dsimp only; omega) | (simp only [sizes]; omega)) _) | (with_reducible refine Below.setCell ?_ (by first | exact Nat.le_refl _ | omega | (dsimp only; omega) | (simp only [sizes]; omega)) _) | (refine Below.trans ?_ (Below.mono (by with_reducible assumption) (by first | exact Nat.le_refl _ | omega | (dsimp only; omega) | (simp only [sizes]; omega))))))
  by_cases hdz : d.size = 128
  rotate_left
  · have de1 : ((d.size : Int) != 128) = true := by rw [bne_iff_ne]; omega
    have de2 : (d.size != 128) = true := by rw [bne_iff_ne]; omega
    have hfail : goodW S T c b d = false := by rw [goodW, decide_eq_false (fun h => hdz h.2.2), Bool.and_false]
    have HF := Lib.hid hfail; clear hfail
    go_wp2_with fail
    refine bodyPost_ret (v := .tuple #[.agg #[.slice ao n ca, .slice bo m cb, .int .i64 c], .bool false]) (by simp [results, Try.results11, go_sem, y0, y1, y2]) rfl ?_
    rw [show RetRow2 (wS S T c b d) (wT S T c b d) c (goodW S T c b d) w = RetRow2 S T c false w by simp [wS, wT, HF.out]]
    exact retRow2 (HA.out.below (by repeat (first | with_reducible exact Below.refl _ _ | with_reducible refine Below.drew ?_ | (with_reducible refine Below.alloc ?_ (by first | exact Nat.le_refl _ | omega | (dsimp only; omega) | (simp only [sizes]; omega)) _) | (with_reducible refine Below.setCell ?_ (by first | exact Nat.le_refl _ | omega | (dsimp only; omega) | (simp only [sizes]; omega)) _) | (refine Below.trans ?_ (Below.mono (by with_reducible assumption) (by first | exact Nat.le_refl _ | omega | (dsimp only; omega) | (simp only [sizes]; omega))))))) (HB.out.below (by repeat (first | with_reducible exact Below.refl _ _ | with_reducible refine Below.drew ?_ | (with_reducible refine Below.alloc ?_ (by first | exact Nat.le_refl _ | omega | (dsimp only; omega) | (simp only [sizes]; omega)) _) | (with_reducible refine Below.setCell ?_ (by first | exact Nat.le_refl _ | omega | (dsimp only; omega) | (simp only [sizes]; omega)) _) | (refine Below.trans ?_ (Below.mono (by with_reducible assumption) (by first | exact Nat.le_refl _ | omega | (dsimp only; omega) | (simp only [sizes]; omega))))))) (by repeat (first | with_reducible exact Below.refl _ _ | with_reducible refine Below.drew ?_ | (with_reducible refine Below.alloc ?_ (by first | exact Nat.le_refl _ | omega | (dsimp only; omega) | (simp only [sizes]; omega)) _) | (with_reducible refine Below.setCell ?_ (by first | exact Nat.le_refl _ | omega | (dsimp only; omega) | (simp only [sizes]; omega)) _) | (refine Below.trans ?_ (Below.mono (by with_reducible assumption) (by first | exact Nat.le_refl _ | omega | (dsimp only; omega) | (simp only [sizes]; omega))))))
  have hgood : goodW S T c b d = true := by rw [goodW, HVB.out, Bool.true_and]; exact decide_eq_true ⟨hb0, by rw [HN.out]; exact hbn, hdz⟩
  have HG := Lib.hid hgood; clear hgood
  have de1 : ((d.size : Int) != 128) = false := by rw [bne_eq_false_iff_eq]; omega
  have de2 : (d.size != 128) = false := by rw [bne_eq_false_iff_eq]; omega
  clear hdz
  obtain ⟨j, rfl⟩ : ∃ j : Nat, b = j := ⟨b.toNat, by omega⟩
  obtain ⟨b1', off, rfl, hbs, _⟩ := a3.resolve_left (by omega)
  obtain ⟨b2', off', rfl, hbs', _⟩ := b3.resolve_left (by omega)
  clear a3 b3
  obtain ⟨i0, hi, iz0, iz1, iz2⟩ := info_parts info_str
  go_wp2_with (at_builtin; refine wpList_append_own _ rfl (.tmp 28) (.tmp 30) 22 rfl w1.heap.size 9 i0 (.string ⟨#[]⟩) 1 16 Try.underlying22 hi iz0 iz1 iz2 rfl (by decide) _ _ _ rfl (World.ownsRow_made _ #[] 0 (Nat.le_refl _) (Nat.zero_le _) (by simp)) ⟨b1', off, none⟩ n ca (S.map Value.string) rfl ?qa2 ?qb2 ?qc2 ?qd2 ?qe2 ?qf2 ?_)
  case qa2 => rw [List.length_map, HN.out, Nat.mul_one]
  case qb2 => exact fun j u hj => Lib.cell?_alloc_some _ ((HA.out.below hbw1).cells' j u hj)
  case qc2 => intro u hu; rw [List.mem_map] at hu; obtain ⟨x, _, rfl⟩ := hu; rfl
  case qd2 => unfold maxLen; omega
  case qe2 => omega
  case qf2 => simp
  intro v2 w2 hown2 hgrow2 _
  have hb2 : Below w1.heap.size w1 w2 := ((Below.refl _ w1).alloc (Nat.le_refl _) _).grown hgrow2 (by simp) (by intro k hk; simp [Value.ownBlock] at hk; omega)
  have ho2 : OwnStr w1.heap.size w2 v2 S := by unfold OwnStr OwnEnc; rw [HN.out]; simpa using hown2
  clear hown2 hgrow2
  have E1 := D1.below hb2
  have E2 := D2.below hb2
  have hbw2 : Below w.heap.size w w2 := hbw1.trans (hb2.mono hbw1.size)
  have hz2 := hb2.size
  clear x0 x1 x2 xf xz
  clear y0 y1 y2 yf yz
  clear D1 D2 hbw1 hb2
  obtain ⟨o2, k2, rfl, _, _⟩ := ho2.formN HN.out
  obtain ⟨g, rfl, hg1, hg2⟩ := ho2.addr HN.out (by omega)
  obtain ⟨xo, hxo⟩ := get_lt (xs := S) (k := j) (by rw [HN.out]; omega)
  obtain ⟨s1, s2⟩ := ho2.at hxo
  have HO2 := Lib.hid ho2; clear ho2 hxo
  have x0 := (E1.cell 0).trans rfl
  have x1 := (E1.cell 1).trans rfl
  have x2 := (E1.cell 2).trans rfl
  have xf := E1.free
  have xz := E1.lt
  have y0 := (E2.cell 0).trans rfl
  have y1 := (E2.cell 1).trans rfl
  have y2 := (E2.cell 2).trans rfl
  have yf := E2.free
  have yz := E2.lt
  by_cases hbc : (j : Int) < c
  · go_upto_region 6 with (fail)
    have F1 := (E1.set_at 0 (.slice (some ⟨g, 0, none⟩) n k2)).set_ne (b' := g) (j := j) (by omega) (.string d)
    have F2 := (E2.set_ne (b' := w.heap.size) (j := 0) (by omega) (.slice (some ⟨g, 0, none⟩) n k2)).set_ne (b' := g) (j := j) (by omega) (.string d)
    have p2 := (OwnEnc.of (owns_set_ne HO2.out.raw (own_ne (show g ≠ w.heap.size by omega)) (j := 0) (.slice (some ⟨g, 0, none⟩) n k2))).put j d
    have hbw3 : Below w.heap.size w ((w2.setCell ⟨w.heap.size, 0, none⟩ (.slice (some ⟨g, 0, none⟩) n k2)).setCell ⟨g, j, none⟩ (.string d)) := (by repeat (first | with_reducible exact Below.refl _ _ | with_reducible refine Below.drew ?_ | (with_reducible refine Below.alloc ?_ (by first | exact Nat.le_refl _ | omega | (dsimp only; omega) | (simp only [sizes]; omega)) _) | (with_reducible refine Below.setCell ?_ (by first | exact Nat.le_refl _ | omega | (dsimp only; omega) | (simp only [sizes]; omega)) _) | (refine Below.trans ?_ (Below.mono (by with_reducible assumption) (by first | exact Nat.le_refl _ | omega | (dsimp only; omega) | (simp only [sizes]; omega))))))
    clear x0 x1 x2 xf xz
    clear y0 y1 y2 yf yz
    clear E1 E2 hbw2 s1 s2 HO2
    generalize hW : (w2.setCell ⟨w.heap.size, 0, none⟩ (.slice (some ⟨g, 0, none⟩) n k2)).setCell ⟨g, j, none⟩ (.string d) = w3 at F1 F2 p2 hbw3 ⊢
    have hz3 : w1.heap.size ≤ w3.heap.size := by rw [← hW]; simp only [World.size_setCell]; exact hz2
    have hg3 : g < w3.heap.size := by rw [← hW]; simp only [World.size_setCell]; exact hg2
    clear hW
    have x0 := (F1.cell 0).trans rfl
    have x1 := (F1.cell 1).trans rfl
    have x2 := (F1.cell 2).trans rfl
    have xf := F1.free
    have xz := F1.lt
    go_wp2_with (at_builtin; refine wpList_append_own _ rfl (.tmp 42) (.tmp 44) 22 rfl w3.heap.size 9 i0 (.string ⟨#[]⟩) 1 16 Try.underlying22 hi iz0 iz1 iz2 rfl (by decide) _ _ _ rfl (World.ownsRow_made _ #[] 0 (Nat.le_refl _) (Nat.zero_le _) (by simp)) ⟨b2', off', none⟩ m cb (T.map Value.string) rfl ?qa4 ?qb4 ?qc4 ?qd4 ?qe4 ?qf4 ?_)
    case qa4 => rw [List.length_map, HM.out, Nat.mul_one]
    case qb4 => exact fun j u hj => Lib.cell?_alloc_some _ ((HB.out.below hbw3).cells' j u hj)
    case qc4 => intro u hu; rw [List.mem_map] at hu; obtain ⟨x, _, rfl⟩ := hu; rfl
    case qd4 => unfold maxLen; omega
    case qe4 => omega
    case qf4 => simp
    intro v4 w4 hown4 hgrow4 _
    have hb4 : Below w3.heap.size w3 w4 := ((Below.refl _ w3).alloc (Nat.le_refl _) _).grown hgrow4 (by simp) (by intro k hk; simp [Value.ownBlock] at hk; omega)
    have ho4 : OwnStr w3.heap.size w4 v4 T := by unfold OwnStr OwnEnc; rw [HM.out]; simpa using hown4
    clear hown4 hgrow4
    have E1 := F1.below hb4
    have E2 := F2.below hb4
    have hbw4 : Below w.heap.size w w4 := hbw3.trans (hb4.mono hbw3.size)
    have p3 := p2.under hb4 (by omega)
    clear x0 x1 x2 xf xz
    clear F1 F2 hbw3 p2
    obtain ⟨o4, k4, rfl, _, _⟩ := ho4.formN HM.out
    obtain ⟨g', rfl, hg1', hg2'⟩ := ho4.addr HM.out (by omega)
    obtain ⟨yo, hyo⟩ := get_lt (xs := T) (k := j) (by rw [HM.out]; omega)
    obtain ⟨t1, t2⟩ := ho4.at hyo
    have HO4 := Lib.hid ho4; clear ho4 hyo
    have HO2 := Lib.hid p3; clear p3
    have x0 := (E1.cell 0).trans rfl
    have x1 := (E1.cell 1).trans rfl
    have x2 := (E1.cell 2).trans rfl
    have xf := E1.free
    have xz := E1.lt
    have y0 := (E2.cell 0).trans rfl
    have y1 := (E2.cell 1).trans rfl
    have y2 := (E2.cell 2).trans rfl
    have yf := E2.free
    have yz := E2.lt
    go_wp2_with fail
    refine bodyPost_ret (v := .tuple #[.agg #[.slice (some ⟨g, 0, none⟩) n k2, .slice (some ⟨g', 0, none⟩) m k4, .int .i64 c], .bool true]) (by simp [results, Try.results11, go_sem, y0, y1, y2]) rfl ?_
    rw [show RetRow2 (wS S T c j d) (wT S T c j d) c (goodW S T c j d) w = RetRow2 (S.set j d) (T.set j d) c true w by simp [wS, wT, HG.out, hbc]]
    exact retRow2 (OwnEnc.row (base := w1.heap.size) (e := 9) (by have h4 := OwnEnc.raw (HO2.out); refine OwnEnc.of ?_; repeat (first | with_reducible exact h4 | (with_reducible refine World.ownsRow.alloc ?_ _) | (with_reducible refine owns_set_ne ?_ (own_gt h4 (by omega)) _) | (with_reducible refine owns_set_ne ?_ (own_ne (by omega)) _)))) (OwnEnc.row (base := w3.heap.size) (e := 9) (by have h4 := OwnEnc.raw ((OwnEnc.of (owns_set_ne HO4.out.raw (own_ne (show g' ≠ w.heap.size by omega)) (j := 1) (.slice (some ⟨g', 0, none⟩) m k4))).put j d); refine OwnEnc.of ?_; repeat (first | with_reducible exact h4 | (with_reducible refine World.ownsRow.alloc ?_ _) | (with_reducible refine owns_set_ne ?_ (own_gt h4 (by omega)) _) | (with_reducible refine owns_set_ne ?_ (own_ne (by omega)) _)))) (by repeat (first | with_reducible exact Below.refl _ _ | with_reducible refine Below.drew ?_ | (with_reducible refine Below.alloc ?_ (by first | exact Nat.le_refl _ | omega | (dsimp only; omega) | (simp only [sizes]; omega)) _) | (with_reducible refine Below.setCell ?_ (by first | exact Nat.le_refl _ | omega | (dsimp only; omega) | (simp only [sizes]; omega)) _) | (refine Below.trans ?_ (Below.mono (by with_reducible assumption) (by first | exact Nat.le_refl _ | omega | (dsimp only; omega) | (simp only [sizes]; omega))))))
  · have HBC := Lib.hid (decide_eq_false hbc)
    go_wp2_with fail
    refine bodyPost_ret (v := .tuple #[.agg #[.slice (some ⟨g, 0, none⟩) n k2, .slice (some ⟨b2', off', none⟩) m cb, .int .i64 c], .bool true]) (by simp [results, Try.results11, go_sem, y0, y1, y2]) rfl ?_
    rw [show RetRow2 (wS S T c j d) (wT S T c j d) c (goodW S T c j d) w = RetRow2 (S.set j d) T c true w by simp only [wS, wT, HG.out, HBC.out, Bool.true_and, if_true, Bool.false_eq_true, if_false, Int.toNat_natCast]]
    exact retRow2 (OwnEnc.row (base := w1.heap.size) (e := 9) (by have h4 := OwnEnc.raw ((OwnEnc.of (owns_set_ne HO2.out.raw (own_ne (show g ≠ w.heap.size by omega)) (j := 0) (.slice (some ⟨g, 0, none⟩) n k2))).put j d); refine OwnEnc.of ?_; repeat (first | with_reducible exact h4 | (with_reducible refine World.ownsRow.alloc ?_ _) | (with_reducible refine owns_set_ne ?_ (own_gt h4 (by omega)) _) | (with_reducible refine owns_set_ne ?_ (own_ne (by omega)) _)))) (HB.out.below (by repeat (first | with_reducible exact Below.refl _ _ | with_reducible refine Below.drew ?_ | (with_reducible refine Below.alloc ?_ (by first | exact Nat.le_refl _ | omega | (dsimp only; omega) | (simp only [sizes]; omega)) _) | (with_reducible refine Below.setCell ?_ (by first | exact Nat.le_refl _ | omega | (dsimp only; omega) | (simp only [sizes]; omega)) _) | (refine Below.trans ?_ (Below.mono (by with_reducible assumption) (by first | exact Nat.le_refl _ | omega | (dsimp only; omega) | (simp only [sizes]; omega))))))) (by repeat (first | with_reducible exact Below.refl _ _ | with_reducible refine Below.drew ?_ | (with_reducible refine Below.alloc ?_ (by first | exact Nat.le_refl _ | omega | (dsimp only; omega) | (simp only [sizes]; omega)) _) | (with_reducible refine Below.setCell ?_ (by first | exact Nat.le_refl _ | omega | (dsimp only; omega) | (simp only [sizes]; omega)) _) | (refine Below.trans ?_ (Below.mono (by with_reducible assumption) (by first | exact Nat.le_refl _ | omega | (dsimp only; omega) | (simp only [sizes]; omega))))))
end Go.Proofs.Ytfomfokgibijjaa
