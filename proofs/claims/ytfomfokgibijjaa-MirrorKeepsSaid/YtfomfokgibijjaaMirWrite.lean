/-
  A mirror written, walked.
-/
import Derived.Test.YtfomfokgibijjaaMirFns
namespace Go.Proofs.Ytfomfokgibijjaa
open Go.RowKit

def goodW (S T : List ByteArray) (c b : Int) (d : ByteArray) : Bool := validB S T c && decide (0 ≤ b ∧ b < S.length ∧ d.size = 128)
def wS (S T : List ByteArray) (c b : Int) (d : ByteArray) : List ByteArray := if goodW S T c b d then S.set b.toNat d else S
def wT (S T : List ByteArray) (c b : Int) (d : ByteArray) : List ByteArray := if goodW S T c b d && decide (b < c) then T.set b.toNat d else T
theorem retRow2 {S T : List ByteArray} {c : Int} {ok : Bool} {w w' : World} {vs vt : Value} (h1 : StrRow w' vs S) (h2 : StrRow w' vt T) (hb : Below w.heap.size w w') : RetRow2 S T c ok w (.returned (.tuple #[.agg #[vs, vt, .int .i64 c], .bool ok])) w' := ⟨_, rfl, ⟨vs, vt, rfl, h1, h2⟩, hb⟩
set_option maxHeartbeats 2000000 in
theorem write_own (vs vt : Value) (S T : List ByteArray) (c b : Int) (d : ByteArray) (w : World) (ha : StrRow w vs S) (hb : StrRow w vt T) (hc : -9223372036854775808 ≤ c ∧ c ≤ 9223372036854775807) (hs : S.length ≤ 1000000) (ht : T.length ≤ 1000000) : Calls Try.prog 10 #[.agg #[vs, vt, .int .i64 c], .int .i64 b, .string d] w (RetOwnM2 (wS S T c b d) (wT S T c b d) c (goodW S T c b d) w) := by
  have hlen := fun h => validB_len (S := S) (T := T) (c := c) h
  have HLEN := Lib.hid hlen; clear hlen
  have HA := Lib.hid ha
  have HB := Lib.hid hb
  obtain ⟨ao, ca, rfl, a1, a2, a3⟩ := ha.out
  obtain ⟨bo, cb, rfl, b1, b2, b3⟩ := hb.out
  clear ha hb a3 b3
  have V := fun vs vt w ha hb => valid_any vs vt S T c w ha hb hc
  obtain ⟨vb, hvb⟩ : ∃ v, validB S T c = v := ⟨_, rfl⟩
  obtain ⟨n, hn⟩ : ∃ n, S.length = n := ⟨_, rfl⟩
  obtain ⟨m, hm⟩ : ∃ n, T.length = n := ⟨_, rfl⟩
  rw [hvb] at V
  have HV := Lib.hid V; clear V
  have HVB := Lib.hid hvb; clear hvb
  rw [hn] at a1 HA ⊢
  rw [hm] at b1 HB ⊢
  rw [hn] at hs
  rw [hm] at ht
  have HN := Lib.hid hn; clear hn
  have HM := Lib.hid hm; clear hm
  go_enter Try.func10, Try.ntmps10
  go_wp2_with fail
  with_reducible refine (mclone_any _ _ S T c _ (HA.out.below (by repeat (first | with_reducible exact Below.refl _ _ | with_reducible refine Below.drew ?_ | (with_reducible refine Below.alloc ?_ (by first | exact Nat.le_refl _ | omega | (simp only [sizes]; omega)) _) | (with_reducible refine Below.setCell ?_ (by first | exact Nat.le_refl _ | omega | (simp only [sizes]; omega)) _) | (refine Below.trans ?_ (Below.mono (by with_reducible assumption) (by first | exact Nat.le_refl _ | omega | (simp only [sizes]; omega))))))) (HB.out.below (by repeat (first | with_reducible exact Below.refl _ _ | with_reducible refine Below.drew ?_ | (with_reducible refine Below.alloc ?_ (by first | exact Nat.le_refl _ | omega | (simp only [sizes]; omega)) _) | (with_reducible refine Below.setCell ?_ (by first | exact Nat.le_refl _ | omega | (simp only [sizes]; omega)) _) | (refine Below.trans ?_ (Below.mono (by with_reducible assumption) (by first | exact Nat.le_refl _ | omega | (simp only [sizes]; omega))))))) (by rw [HN.out]; omega) (by rw [HM.out]; omega)).mono ?_
  rintro e w1 ⟨v1, rfl, ho1, hb1⟩
  obtain ⟨vs1, vt1, rfl, os1, ot1, hap⟩ := ho1
  have D1 := ((HasBlock.made w #[.slice ao n ca, .slice bo m cb, .int .i64 c] 24).alloc (.cells #[.slice none 0 0, .slice none 0 0, .int .i64 0] 24)).below hb1
  have D2 := (HasBlock.made (w.alloc (.cells #[.slice ao n ca, .slice bo m cb, .int .i64 c] 24)) #[.slice none 0 0, .slice none 0 0, .int .i64 0] 24).below hb1
  have hbw1 : Below w.heap.size w w1 := (by repeat (first | with_reducible exact Below.refl _ _ | with_reducible refine Below.drew ?_ | (with_reducible refine Below.alloc ?_ (by first | exact Nat.le_refl _ | omega | (dsimp only; omega) | (simp only [sizes]; omega)) _) | (with_reducible refine Below.setCell ?_ (by first | exact Nat.le_refl _ | omega | (dsimp only; omega) | (simp only [sizes]; omega)) _) | (refine Below.trans ?_ (Below.mono (by with_reducible assumption) (by first | exact Nat.le_refl _ | omega | (dsimp only; omega) | (simp only [sizes]; omega))))))
  have hz1 := hb1.size
  simp only [sizes] at D2 hz1 os1 ot1
  clear hb1
  obtain ⟨o1, k1, rfl, kl1, km1⟩ := os1.formN HN.out
  obtain ⟨o3, k3, rfl, kl3, km3⟩ := ot1.formN HM.out
  have HAP := Lib.hid hap; clear hap
  have HO1 := Lib.hid os1; clear os1
  have HO3 := Lib.hid ot1; clear ot1
  have x0 := (D1.cell 0).trans rfl
  have x1 := (D1.cell 1).trans rfl
  have x2 := (D1.cell 2).trans rfl
  have xf := D1.free
  have xz := D1.lt
  have y0 := (D2.cell 0).trans rfl
  have y1 := (D2.cell 1).trans rfl
  have y2 := (D2.cell 2).trans rfl
  have yf := D2.free
  have yz := D2.lt
  go_wp2_with fail
  have E1 : HasBlock (((w1.setCell ⟨w.heap.size, 0, none⟩ (.slice o1 n k1)).setCell ⟨w.heap.size, 1, none⟩ (.slice o3 m k3)).setCell ⟨w.heap.size, 2, none⟩ (.int .i64 c)) w.heap.size #[.slice o1 n k1, .slice o3 m k3, .int .i64 c] 24 := by simpa using ((D1.set_at 0 (.slice o1 n k1)).set_at 1 (.slice o3 m k3)).set_at 2 (.int .i64 c)
  have E2 := ((D2.set_ne (b' := w.heap.size) (j := 0) (by omega) (.slice o1 n k1)).set_ne (b' := w.heap.size) (j := 1) (by omega) (.slice o3 m k3)).set_ne (b' := w.heap.size) (j := 2) (by omega) (.int .i64 c)
  have p1 : OwnStr (w.heap.size + 1 + 1) (((w1.setCell ⟨w.heap.size, 0, none⟩ (.slice o1 n k1)).setCell ⟨w.heap.size, 1, none⟩ (.slice o3 m k3)).setCell ⟨w.heap.size, 2, none⟩ (.int .i64 c)) (.slice o1 n k1) S := (by have h4 := OwnEnc.raw (HO1).out; refine OwnEnc.of ?_; repeat (first | with_reducible exact h4 | (with_reducible refine World.ownsRow.alloc ?_ _) | (with_reducible refine owns_set_ne ?_ (own_gt h4 (by omega)) _)))
  have p3 : OwnStr (w.heap.size + 1 + 1) (((w1.setCell ⟨w.heap.size, 0, none⟩ (.slice o1 n k1)).setCell ⟨w.heap.size, 1, none⟩ (.slice o3 m k3)).setCell ⟨w.heap.size, 2, none⟩ (.int .i64 c)) (.slice o3 m k3) T := (by have h4 := OwnEnc.raw (HO3).out; refine OwnEnc.of ?_; repeat (first | with_reducible exact h4 | (with_reducible refine World.ownsRow.alloc ?_ _) | (with_reducible refine owns_set_ne ?_ (own_gt h4 (by omega)) _)))
  have hbw2 : Below w.heap.size w (((w1.setCell ⟨w.heap.size, 0, none⟩ (.slice o1 n k1)).setCell ⟨w.heap.size, 1, none⟩ (.slice o3 m k3)).setCell ⟨w.heap.size, 2, none⟩ (.int .i64 c)) := (by repeat (first | with_reducible exact Below.refl _ _ | with_reducible refine Below.drew ?_ | (with_reducible refine Below.alloc ?_ (by first | exact Nat.le_refl _ | omega | (dsimp only; omega) | (simp only [sizes]; omega)) _) | (with_reducible refine Below.setCell ?_ (by first | exact Nat.le_refl _ | omega | (dsimp only; omega) | (simp only [sizes]; omega)) _) | (refine Below.trans ?_ (Below.mono (by with_reducible assumption) (by first | exact Nat.le_refl _ | omega | (dsimp only; omega) | (simp only [sizes]; omega))))))
  clear x0 x1 x2 xf xz
  clear y0 y1 y2 yf yz
  clear D1 D2 HO1 HO3 hbw1
  generalize hW : ((w1.setCell ⟨w.heap.size, 0, none⟩ (.slice o1 n k1)).setCell ⟨w.heap.size, 1, none⟩ (.slice o3 m k3)).setCell ⟨w.heap.size, 2, none⟩ (.int .i64 c) = w2 at E1 E2 p1 p3 hbw2 ⊢
  have hz2 : w.heap.size + 1 + 1 ≤ w2.heap.size := by rw [← hW]; simp only [World.size_setCell]; exact hz1
  clear hW hz1
  with_reducible refine (HV.out _ _ _ p1.row p3.row).mono ?_
  rintro e w3 ⟨rfl, hb3⟩
  have D1 := E1.below hb3
  have D2 := E2.below hb3
  have HO1 := Lib.hid (p1.below hb3)
  have HO3 := Lib.hid (p3.below hb3)
  have hbw3 : Below w.heap.size w w3 := hbw2.trans (hb3.mono hbw2.size)
  have hz3 := Nat.le_trans hz2 hb3.size
  clear E1 E2 p1 p3 hbw2 hb3 hz2 HV
  have x0 := (D1.cell 0).trans rfl
  have x1 := (D1.cell 1).trans rfl
  have x2 := (D1.cell 2).trans rfl
  have xf := D1.free
  have xz := D1.lt
  have y0 := (D2.cell 0).trans rfl
  have y1 := (D2.cell 1).trans rfl
  have y2 := (D2.cell 2).trans rfl
  have yf := D2.free
  have yz := D2.lt
  cases vb
  · have hfail : goodW S T c b d = false := by rw [goodW, HVB.out, Bool.false_and]
    have HF := Lib.hid hfail; clear hfail
    go_wp2_with fail
    refine bodyPost_ret (v := .tuple #[.agg #[.slice o1 n k1, .slice o3 m k3, .int .i64 c], .bool false]) (by simp [results, Try.results10, go_sem, y0, y1, y2]) rfl ?_
    rw [show RetOwnM2 (wS S T c b d) (wT S T c b d) c (goodW S T c b d) w = RetOwnM2 S T c false w by simp [wS, wT, HF.out]]
    exact retOwn2 (OwnEnc.lower (base := w.heap.size + 1 + 1) (by have h4 := OwnEnc.raw (HO1).out; refine OwnEnc.of ?_; repeat (first | with_reducible exact h4 | (with_reducible refine World.ownsRow.alloc ?_ _) | (with_reducible refine owns_set_ne ?_ (own_gt h4 (by omega)) _))) (by omega)) (OwnEnc.lower (base := w.heap.size + 1 + 1) (by have h4 := OwnEnc.raw (HO3).out; refine OwnEnc.of ?_; repeat (first | with_reducible exact h4 | (with_reducible refine World.ownsRow.alloc ?_ _) | (with_reducible refine owns_set_ne ?_ (own_gt h4 (by omega)) _))) (by omega)) (by repeat (first | with_reducible exact Below.refl _ _ | with_reducible refine Below.drew ?_ | (with_reducible refine Below.alloc ?_ (by first | exact Nat.le_refl _ | omega | (dsimp only; omega) | (simp only [sizes]; omega)) _) | (with_reducible refine Below.setCell ?_ (by first | exact Nat.le_refl _ | omega | (dsimp only; omega) | (simp only [sizes]; omega)) _) | (refine Below.trans ?_ (Below.mono (by with_reducible assumption) (by first | exact Nat.le_refl _ | omega | (dsimp only; omega) | (simp only [sizes]; omega))))))
  have hln : 1 ≤ n ∧ n ≤ 64 ∧ 1 ≤ m ∧ m ≤ 64 ∧ n ≤ m ∧ m ≤ n := by
    have h := HLEN.out HVB.out
    rw [HN.out, HM.out] at h
    omega
  clear HLEN
  by_cases hb0 : 0 ≤ b
  rotate_left
  · have hfail : goodW S T c b d = false := by rw [goodW, decide_eq_false (fun h => hb0 h.1), Bool.and_false]
    have HF := Lib.hid hfail; clear hfail
    go_wp2_with fail
    refine bodyPost_ret (v := .tuple #[.agg #[.slice o1 n k1, .slice o3 m k3, .int .i64 c], .bool false]) (by simp [results, Try.results10, go_sem, y0, y1, y2]) rfl ?_
    rw [show RetOwnM2 (wS S T c b d) (wT S T c b d) c (goodW S T c b d) w = RetOwnM2 S T c false w by simp [wS, wT, HF.out]]
    exact retOwn2 (OwnEnc.lower (base := w.heap.size + 1 + 1) (by have h4 := OwnEnc.raw (HO1).out; refine OwnEnc.of ?_; repeat (first | with_reducible exact h4 | (with_reducible refine World.ownsRow.alloc ?_ _) | (with_reducible refine owns_set_ne ?_ (own_gt h4 (by omega)) _))) (by omega)) (OwnEnc.lower (base := w.heap.size + 1 + 1) (by have h4 := OwnEnc.raw (HO3).out; refine OwnEnc.of ?_; repeat (first | with_reducible exact h4 | (with_reducible refine World.ownsRow.alloc ?_ _) | (with_reducible refine owns_set_ne ?_ (own_gt h4 (by omega)) _))) (by omega)) (by repeat (first | with_reducible exact Below.refl _ _ | with_reducible refine Below.drew ?_ | (with_reducible refine Below.alloc ?_ (by first | exact Nat.le_refl _ | omega | (dsimp only; omega) | (simp only [sizes]; omega)) _) | (with_reducible refine Below.setCell ?_ (by first | exact Nat.le_refl _ | omega | (dsimp only; omega) | (simp only [sizes]; omega)) _) | (refine Below.trans ?_ (Below.mono (by with_reducible assumption) (by first | exact Nat.le_refl _ | omega | (dsimp only; omega) | (simp only [sizes]; omega))))))
  by_cases hbn : b < n
  rotate_left
  · have hfail : goodW S T c b d = false := by rw [goodW, decide_eq_false (fun h => hbn (by rw [← HN.out]; exact h.2.1)), Bool.and_false]
    have HF := Lib.hid hfail; clear hfail
    go_wp2_with fail
    refine bodyPost_ret (v := .tuple #[.agg #[.slice o1 n k1, .slice o3 m k3, .int .i64 c], .bool false]) (by simp [results, Try.results10, go_sem, y0, y1, y2]) rfl ?_
    rw [show RetOwnM2 (wS S T c b d) (wT S T c b d) c (goodW S T c b d) w = RetOwnM2 S T c false w by simp [wS, wT, HF.out]]
    exact retOwn2 (OwnEnc.lower (base := w.heap.size + 1 + 1) (by have h4 := OwnEnc.raw (HO1).out; refine OwnEnc.of ?_; repeat (first | with_reducible exact h4 | (with_reducible refine World.ownsRow.alloc ?_ _) | (with_reducible refine owns_set_ne ?_ (own_gt h4 (by omega)) _))) (by omega)) (OwnEnc.lower (base := w.heap.size + 1 + 1) (by have h4 := OwnEnc.raw (HO3).out; refine OwnEnc.of ?_; repeat (first | with_reducible exact h4 | (with_reducible refine World.ownsRow.alloc ?_ _) | (with_reducible refine owns_set_ne ?_ (own_gt h4 (by omega)) _))) (by omega)) (by repeat (first | with_reducible exact Below.refl _ _ | with_reducible refine Below.drew ?_ | (with_reducible refine Below.alloc ?_ (by first | exact Nat.le_refl _ | omega | (dsimp only; omega) | (simp only [sizes]; omega)) _) | (with_reducible refine Below.setCell ?_ (by first | exact Nat.le_refl _ | omega | (dsimp only; omega) | (simp only [sizes]; omega)) _) | (refine Below.trans ?_ (Below.mono (by with_reducible assumption) (by first | exact Nat.le_refl _ | omega | (dsimp only; omega) | (simp only [sizes]; omega))))))
  by_cases hdz : d.size = 128
  rotate_left
  · have de1 : ((d.size : Int) != 128) = true := by rw [bne_iff_ne]; omega
    have de2 : (d.size != 128) = true := by rw [bne_iff_ne]; omega
    have hfail : goodW S T c b d = false := by rw [goodW, decide_eq_false (fun h => hdz h.2.2), Bool.and_false]
    have HF := Lib.hid hfail; clear hfail
    go_wp2_with fail
    refine bodyPost_ret (v := .tuple #[.agg #[.slice o1 n k1, .slice o3 m k3, .int .i64 c], .bool false]) (by simp [results, Try.results10, go_sem, y0, y1, y2]) rfl ?_
    rw [show RetOwnM2 (wS S T c b d) (wT S T c b d) c (goodW S T c b d) w = RetOwnM2 S T c false w by simp [wS, wT, HF.out]]
    exact retOwn2 (OwnEnc.lower (base := w.heap.size + 1 + 1) (by have h4 := OwnEnc.raw (HO1).out; refine OwnEnc.of ?_; repeat (first | with_reducible exact h4 | (with_reducible refine World.ownsRow.alloc ?_ _) | (with_reducible refine owns_set_ne ?_ (own_gt h4 (by omega)) _))) (by omega)) (OwnEnc.lower (base := w.heap.size + 1 + 1) (by have h4 := OwnEnc.raw (HO3).out; refine OwnEnc.of ?_; repeat (first | with_reducible exact h4 | (with_reducible refine World.ownsRow.alloc ?_ _) | (with_reducible refine owns_set_ne ?_ (own_gt h4 (by omega)) _))) (by omega)) (by repeat (first | with_reducible exact Below.refl _ _ | with_reducible refine Below.drew ?_ | (with_reducible refine Below.alloc ?_ (by first | exact Nat.le_refl _ | omega | (dsimp only; omega) | (simp only [sizes]; omega)) _) | (with_reducible refine Below.setCell ?_ (by first | exact Nat.le_refl _ | omega | (dsimp only; omega) | (simp only [sizes]; omega)) _) | (refine Below.trans ?_ (Below.mono (by with_reducible assumption) (by first | exact Nat.le_refl _ | omega | (dsimp only; omega) | (simp only [sizes]; omega))))))
  have hgood : goodW S T c b d = true := by rw [goodW, HVB.out, Bool.true_and]; exact decide_eq_true ⟨hb0, by rw [HN.out]; exact hbn, hdz⟩
  have HG := Lib.hid hgood; clear hgood
  have de1 : ((d.size : Int) != 128) = false := by rw [bne_eq_false_iff_eq]; omega
  have de2 : (d.size != 128) = false := by rw [bne_eq_false_iff_eq]; omega
  clear hdz
  obtain ⟨j, rfl⟩ : ∃ j : Nat, b = j := ⟨b.toNat, by omega⟩
  obtain ⟨g, rfl, hg1, hg2⟩ := HO1.out.addr HN.out (by omega)
  obtain ⟨g', rfl, hg1', hg2'⟩ := HO3.out.addr HM.out (by omega)
  have hgl := HAP.out g g' rfl rfl
  have hgg : g ≠ g' := Nat.ne_of_lt hgl
  have hgg' : g' ≠ g := fun e => hgg e.symm
  obtain ⟨xo, hxo⟩ := get_lt (xs := S) (k := j) (by rw [HN.out]; omega)
  obtain ⟨yo, hyo⟩ := get_lt (xs := T) (k := j) (by rw [HM.out]; omega)
  obtain ⟨s1, s2⟩ := HO1.out.at hxo
  obtain ⟨t1, t2⟩ := HO3.out.at hyo
  clear hxo hyo HAP
  by_cases hbc : (j : Int) < c
  · go_wp2_with fail
    refine bodyPost_ret (v := .tuple #[.agg #[.slice (some ⟨g, 0, none⟩) n k1, .slice (some ⟨g', 0, none⟩) m k3, .int .i64 c], .bool true]) (by simp [results, Try.results10, go_sem, y0, y1, y2]) rfl ?_
    rw [show RetOwnM2 (wS S T c j d) (wT S T c j d) c (goodW S T c j d) w = RetOwnM2 (S.set j d) (T.set j d) c true w by simp [wS, wT, HG.out, hbc]]
    exact retOwn2 (OwnEnc.lower (base := w.heap.size + 1 + 1) (by have h4 := OwnEnc.raw (HO1.out.put j d); refine OwnEnc.of ?_; repeat (first | with_reducible exact h4 | (with_reducible refine World.ownsRow.alloc ?_ _) | (with_reducible refine owns_set_ne ?_ (own_gt h4 (by omega)) _) | (with_reducible refine owns_set_ne ?_ (own_ne (by omega)) _))) (by omega)) (OwnEnc.lower (base := w.heap.size + 1 + 1) (by have h4 := OwnEnc.raw ((OwnEnc.of (owns_set_ne HO3.out.raw (own_ne hgg') (j := j) (.string d))).put j d); refine OwnEnc.of ?_; repeat (first | with_reducible exact h4 | (with_reducible refine World.ownsRow.alloc ?_ _) | (with_reducible refine owns_set_ne ?_ (own_gt h4 (by omega)) _) | (with_reducible refine owns_set_ne ?_ (own_ne (by omega)) _))) (by omega)) (by repeat (first | with_reducible exact Below.refl _ _ | with_reducible refine Below.drew ?_ | (with_reducible refine Below.alloc ?_ (by first | exact Nat.le_refl _ | omega | (dsimp only; omega) | (simp only [sizes]; omega)) _) | (with_reducible refine Below.setCell ?_ (by first | exact Nat.le_refl _ | omega | (dsimp only; omega) | (simp only [sizes]; omega)) _) | (refine Below.trans ?_ (Below.mono (by with_reducible assumption) (by first | exact Nat.le_refl _ | omega | (dsimp only; omega) | (simp only [sizes]; omega))))))
  · have HBC := Lib.hid (decide_eq_false hbc)
    go_wp2_with fail
    refine bodyPost_ret (v := .tuple #[.agg #[.slice (some ⟨g, 0, none⟩) n k1, .slice (some ⟨g', 0, none⟩) m k3, .int .i64 c], .bool true]) (by simp [results, Try.results10, go_sem, y0, y1, y2]) rfl ?_
    rw [show RetOwnM2 (wS S T c j d) (wT S T c j d) c (goodW S T c j d) w = RetOwnM2 (S.set j d) T c true w by simp only [wS, wT, HG.out, HBC.out, Bool.true_and, if_true, Bool.false_eq_true, if_false, Int.toNat_natCast]]
    exact retOwn2 (OwnEnc.lower (base := w.heap.size + 1 + 1) (by have h4 := OwnEnc.raw (HO1.out.put j d); refine OwnEnc.of ?_; repeat (first | with_reducible exact h4 | (with_reducible refine World.ownsRow.alloc ?_ _) | (with_reducible refine owns_set_ne ?_ (own_gt h4 (by omega)) _) | (with_reducible refine owns_set_ne ?_ (own_ne (by omega)) _))) (by omega)) (OwnEnc.lower (base := w.heap.size + 1 + 1) (by have h4 := OwnEnc.raw (OwnEnc.of (owns_set_ne HO3.out.raw (own_ne hgg') (j := j) (.string d))); refine OwnEnc.of ?_; repeat (first | with_reducible exact h4 | (with_reducible refine World.ownsRow.alloc ?_ _) | (with_reducible refine owns_set_ne ?_ (own_gt h4 (by omega)) _) | (with_reducible refine owns_set_ne ?_ (own_ne (by omega)) _))) (by omega)) (by repeat (first | with_reducible exact Below.refl _ _ | with_reducible refine Below.drew ?_ | (with_reducible refine Below.alloc ?_ (by first | exact Nat.le_refl _ | omega | (dsimp only; omega) | (simp only [sizes]; omega)) _) | (with_reducible refine Below.setCell ?_ (by first | exact Nat.le_refl _ | omega | (dsimp only; omega) | (simp only [sizes]; omega)) _) | (refine Below.trans ?_ (Below.mono (by with_reducible assumption) (by first | exact Nat.le_refl _ | omega | (dsimp only; omega) | (simp only [sizes]; omega))))))
theorem write_any (vs vt : Value) (S T : List ByteArray) (c b : Int) (d : ByteArray) (w : World) (ha : StrRow w vs S) (hb : StrRow w vt T) (hc : -9223372036854775808 ≤ c ∧ c ≤ 9223372036854775807) (hs : S.length ≤ 1000000) (ht : T.length ≤ 1000000) : Calls Try.prog 10 #[.agg #[vs, vt, .int .i64 c], .int .i64 b, .string d] w (RetRow2 (wS S T c b d) (wT S T c b d) c (goodW S T c b d) w) := (write_own vs vt S T c b d w ha hb hc hs ht).mono fun _ _ h => h.row
end Go.Proofs.Ytfomfokgibijjaa
