/-
  The division of frames: idletax.Targets, walked.
-/
import Derived.Test.YtclnjjppcdgkiaaTaxDivide
namespace Go.Proofs.Ytclnjjppcdgkiaa
open Go.RowKit

theorem info_int : (Try.prog.info? 3).map (fun i => (i.zero, i.size, i.bytes)) = some (some (.int .i64 0), 1, 8) := by kernel_rfl
def RetInts (w : World) (xs : List Int) (b : Bool) (e : Ending) (w' : World) : Prop := ∃ v, e = .returned (.tuple #[v, .bool b]) ∧ IntRow w' v xs ∧ Below w.heap.size w w'
theorem RetInts.none {w w' : World} (h : Below w.heap.size w w') : RetInts w [] false (.returned (.tuple #[.slice none 0 0, .bool false])) w' := ⟨_, rfl, IntRow.nil _, h⟩
theorem one_int (x : Int) : ∀ u ∈ [Value.int .i64 x], u.oneCell' = true := by
  intro u hu
  rw [List.mem_singleton] at hu
  rw [hu]
  rfl
theorem map_snoc (xs : List Int) (x : Int) : (xs ++ [x]).map (Value.int .i64) = xs.map (Value.int .i64) ++ [.int .i64 x] := by simp

theorem targets_out (va : Value) (cs : List Clm) (total t : Int) (w : World) (ha : ClmRow w va cs) (h : ¬ (cs.length ≤ 8 ∧ 0 ≤ total ∧ total ≤ 96)) : Calls Try.prog 17 #[va, .int .i64 total, .int .i64 t] w (RetInts w [] false) := by
  obtain ⟨ao, ca, rfl, a1, a2, a3⟩ := ha.out
  unfold maxLen at a2
  clear ha a3
  obtain ⟨n, hn⟩ : ∃ n, cs.length = n := ⟨_, rfl⟩
  rw [hn] at a1 h ⊢
  clear hn
  by_cases h1 : 8 < n
  · go_enter Try.func17, Try.ntmps17
    go_wp2_with fail
    go_ret2
    exact RetInts.none (by repeat (first | with_reducible exact Below.refl _ _ | with_reducible refine Below.drew ?_ | (with_reducible refine Below.alloc ?_ (by first | exact Nat.le_refl _ | omega | (simp only [sizes]; omega)) _) | (with_reducible refine Below.setCell ?_ (by first | exact Nat.le_refl _ | omega | (simp only [sizes]; omega)) _) | (refine Below.trans ?_ (Below.mono (by with_reducible assumption) (by first | exact Nat.le_refl _ | omega | (simp only [sizes]; omega))))))
  · by_cases h2 : total < 0
    · go_enter Try.func17, Try.ntmps17
      go_wp2_with fail
      go_ret2
      exact RetInts.none (by repeat (first | with_reducible exact Below.refl _ _ | with_reducible refine Below.drew ?_ | (with_reducible refine Below.alloc ?_ (by first | exact Nat.le_refl _ | omega | (simp only [sizes]; omega)) _) | (with_reducible refine Below.setCell ?_ (by first | exact Nat.le_refl _ | omega | (simp only [sizes]; omega)) _) | (refine Below.trans ?_ (Below.mono (by with_reducible assumption) (by first | exact Nat.le_refl _ | omega | (simp only [sizes]; omega))))))
    · have h3 : 96 < total := by omega
      go_enter Try.func17, Try.ntmps17
      go_wp2_with fail
      go_ret2
      exact RetInts.none (by repeat (first | with_reducible exact Below.refl _ _ | with_reducible refine Below.drew ?_ | (with_reducible refine Below.alloc ?_ (by first | exact Nat.le_refl _ | omega | (simp only [sizes]; omega)) _) | (with_reducible refine Below.setCell ?_ (by first | exact Nat.le_refl _ | omega | (simp only [sizes]; omega)) _) | (refine Below.trans ?_ (Below.mono (by with_reducible assumption) (by first | exact Nat.le_refl _ | omega | (simp only [sizes]; omega))))))
theorem targets_notax (va : Value) (cs : List Clm) (total t : Int) (w : World) (ha : ClmRow w va cs) (h : cs.length ≤ 8 ∧ 0 ≤ total ∧ total ≤ 96) (ht : taxB t = false) : Calls Try.prog 17 #[va, .int .i64 total, .int .i64 t] w (RetInts w [] false) := by
  obtain ⟨ao, ca, rfl, a1, a2, a3⟩ := ha.out
  unfold maxLen at a2
  clear ha a3
  obtain ⟨n, hn⟩ : ∃ n, cs.length = n := ⟨_, rfl⟩
  rw [hn] at a1 h ⊢
  obtain ⟨h1, h2, h3⟩ := h
  have HT := Lib.hid ht; clear ht
  clear hn
  go_enter Try.func17, Try.ntmps17
  go_wp2_with fail
  refine (idletax_validTax_is HT.out _).mono ?_
  rintro e w1 ⟨rfl, hb1⟩
  obtain ⟨hc1, hf1⟩ := bcell hb1
  have hz1 := bsize hb1
  try simp only [sizes1] at hz1
  try simp only [sizes] at hc1 hf1
  go_wp2_with fail
  go_ret2
  exact RetInts.none (by repeat (first | with_reducible exact Below.refl _ _ | with_reducible refine Below.drew ?_ | (with_reducible refine Below.alloc ?_ (by first | exact Nat.le_refl _ | omega | (simp only [sizes]; omega)) _) | (with_reducible refine Below.setCell ?_ (by first | exact Nat.le_refl _ | omega | (simp only [sizes]; omega)) _) | (refine Below.trans ?_ (Below.mono (by with_reducible assumption) (by first | exact Nat.le_refl _ | omega | (simp only [sizes]; omega))))))

theorem intRow_of {w : World} {base : Nat} {v : Value} {n : Nat} {fr : List Int} (h : w.ownsRow base 3 1 v n (fr.map (Value.int .i64))) : fr.length = n ∧ IntRow w v fr := by
  have h1 := h.1
  rw [List.length_map, Nat.mul_one] at h1
  refine ⟨h1, ?_⟩
  unfold IntRow
  rw [h1]
  exact RowAt.of_owns h
theorem fine_bd {cs : List Clm} {fr : List Int} (h : Fine cs fr) : ∀ f ∈ fr, 0 ≤ f ∧ f ≤ 1000 := by
  intro f hf
  obtain ⟨i, hi⟩ := List.getElem?_of_mem hf
  have := h.2 i f hi
  omega
theorem give_stop {cs : List Clm} {t : Int} {m : Nat} {fr : List Int} (h : (ricF cs fr t cs.length).1 < 0) : give cs t m fr = fr := by
  cases m with
  | zero => rfl
  | succ m => rw [give, if_pos h]
theorem give_step {cs : List Clm} {t : Int} {m : Nat} {fr : List Int} {j : Nat} {f : Int} (h : (ricF cs fr t cs.length).1 = j) (hf : fr[j]? = some f) : give cs t (m + 1) fr = give cs t m (fr.set j (f + 1)) := by
  rw [give, h, if_neg (by omega)]
  unfold bump
  rw [Int.toNat_natCast, hf]
theorem set_map (fr : List Int) (j : Nat) (x : Int) : (fr.map (Value.int .i64)).set j (.int .i64 x) = (fr.set j x).map (Value.int .i64) := by rw [List.map_set]

set_option maxHeartbeats 4000000 in
theorem targets_in (va : Value) (cs : List Clm) (total t : Int) (w : World) (ha : ClmRow w va cs) (h : cs.length ≤ 8 ∧ 0 ≤ total ∧ total ≤ 96) (ht : taxB t = true) :
    Calls Try.prog 17 #[va, .int .i64 total, .int .i64 t] w (RetInts w (targetsL cs total t) (goodT cs total t)) := by
  have hrow := ha
  obtain ⟨ao, ca, rfl, a1, a2, a3⟩ := ha.out
  unfold maxLen at a2
  clear ha
  have hgood : goodT cs total t = (allV cs && decide (sumI (resv cs) ≤ total)) := by unfold goodT; rw [decide_eq_true h, ht]; rfl
  obtain ⟨n, hn⟩ : ∃ n, cs.length = n := ⟨_, rfl⟩
  rw [hn] at a1 a3 h hrow ⊢
  obtain ⟨h1, h2, h3⟩ := h
  have HT := Lib.hid ht; clear ht
  have HN := Lib.hid hn; clear hn
  have HG := Lib.hid hgood; clear hgood
  have HROW := Lib.hid hrow; clear hrow
  obtain ⟨i0, hi, iz0, iz1, iz2⟩ := info_parts info_int
  go_enter Try.func17, Try.ntmps17
  go_wp2_with fail
  refine (idletax_validTax_is HT.out _).mono ?_
  rintro e w1 ⟨rfl, hb1⟩
  obtain ⟨hc1, hf1⟩ := bcell hb1
  have hz1 := bsize hb1
  try simp only [sizes1] at hz1
  try simp only [sizes] at hc1 hf1
  go_wp2_with fail
  go_loopw [8, 9, 32] (fun lf v i wr => ∃ k : Nat, k ≤ n ∧ i = .int .i64 k ∧ (∃ lv : Int, lf = .int .i64 lv ∧ Hid (lv = total - sumI (resv (cs.take k))) ∧ -800 ≤ lv ∧ lv ≤ 96) ∧ Hid (allV (cs.take k) = true) ∧ wr.ownsRow w.heap.size 3 1 v k ((resv (cs.take k)).map (Value.int .i64)) ∧ Below w.heap.size w wr) (fun _ _ i _ => n - (intOf i).toNat)
  case atStart => exact ⟨0, Nat.zero_le _, rfl, ⟨total, rfl, by unfold Hid; simp [resv, sumI], by omega, by omega⟩, rfl, World.ownsRow_nil _ _ _ _, (by repeat (first | with_reducible exact Below.refl _ _ | with_reducible refine Below.drew ?_ | (with_reducible refine Below.alloc ?_ (by first | exact Nat.le_refl _ | omega | (simp only [sizes]; omega)) _) | (with_reducible refine Below.setCell ?_ (by first | exact Nat.le_refl _ | omega | (simp only [sizes]; omega)) _) | (refine Below.trans ?_ (Below.mono (by with_reducible assumption) (by first | exact Nat.le_refl _ | omega | (simp only [sizes]; omega))))))⟩
  case round =>
    obtain ⟨k, hk, rfl, ⟨lv, rfl, HLV, hl1, hl2⟩, HV, hown, hbw⟩ := hrel
    clear hc1 hf1 hb1 hz1
    have hbs0 := hbw.size
    by_cases hlt : k < n
    · obtain ⟨⟨r, l, s, p, a⟩, hx⟩ := get_lt (xs := cs) (k := k) (by rw [HN.out]; exact hlt)
      obtain ⟨b, off, rfl, hbs, hbc⟩ := a3.resolve_left (by omega)
      obtain ⟨d0', d1', d2', d3', d4'⟩ := hbc k _ hx
      dsimp only at d0' d1' d2' d3' d4'
      have d0 := (hbw.cell (p := ⟨b, off + k * 5, none⟩) hbs).trans d0'
      have d1 := (hbw.cell (p := ⟨b, off + k * 5 + 1, none⟩) hbs).trans d1'
      have d2 := (hbw.cell (p := ⟨b, off + k * 5 + 2, none⟩) hbs).trans d2'
      have d3 := (hbw.cell (p := ⟨b, off + k * 5 + 3, none⟩) hbs).trans d3'
      have d4 := (hbw.cell (p := ⟨b, off + k * 5 + 4, none⟩) hbs).trans d4'
      clear d0' d1' d2' d3' d4'
      have HX := Lib.hid hx; clear hx a3 hbc
      have HO := Lib.hid hown; clear hown
      have hbs1 : b < wr.heap.size := by omega
      cases hv : validB ⟨r, l, s, p, a⟩
      · have HVK := Lib.hid hv; clear hv
        go_wp2_with fail
        refine (idletax_Valid_is HVK.out _).mono ?_
        rintro e w2 ⟨rfl, hb2⟩
        obtain ⟨hc2, hf2⟩ := bcell hb2
        have hz2 := bsize hb2
        try simp only [sizes1] at hz2
        try simp only [sizes] at hc2 hf2
        go_wp2_with fail
        go_ret2
        have hno : goodT cs total t = false := by rw [HG.out, allV_not HX.out HVK.out]; rfl
        have e1 : targetsL cs total t = [] := by unfold targetsL; rw [hno, if_neg (by simp)]
        rw [hno, e1]
        exact RetInts.none (by repeat (first | with_reducible exact Below.refl _ _ | with_reducible refine Below.drew ?_ | (with_reducible refine Below.alloc ?_ (by first | exact Nat.le_refl _ | omega | (simp only [sizes]; omega)) _) | (with_reducible refine Below.setCell ?_ (by first | exact Nat.le_refl _ | omega | (simp only [sizes]; omega)) _) | (refine Below.trans ?_ (Below.mono (by with_reducible assumption) (by first | exact Nat.le_refl _ | omega | (simp only [sizes]; omega))))))
      · have hvb := (validB_iff _).1 hv
        dsimp only at hvb
        have HVK := Lib.hid hv; clear hv
        have hsum : -96 * k ≤ lv := by
          have := sum_bd HV.out (by rw [List.length_take]; omega)
          rw [List.length_take, HN.out, Nat.min_eq_left (by omega)] at this
          rw [HLV.out]; omega
        go_wp2_with fail
        refine (idletax_Valid_is HVK.out _).mono ?_
        rintro e w2 ⟨rfl, hb2⟩
        obtain ⟨hc2, hf2⟩ := bcell hb2
        have hz2 := bsize hb2
        try simp only [sizes1] at hz2
        try simp only [sizes] at hc2 hf2
        go_wp2_with (at_builtin; refine wpList_append_own _ rfl (.tmp 43) (.tmp 46) 29 rfl w.heap.size 3 i0 (.int .i64 0) 1 8 Try.underlying29 hi iz0 iz1 iz2 rfl (by decide) _ k ((resv (cs.take k)).map (Value.int .i64)) rfl ((owns_below (HO.out.alloc _) hb2).alloc _) ⟨w2.heap.size, 0, none⟩ 1 1 [Value.int .i64 r] rfl rfl (cells_made _ [Value.int .i64 r] _ _ (by first | rfl | simp only [sizes])) (one_int _) (by unfold maxLen; omega) (by omega) (by first | exact Nat.le_refl _ | omega | (simp only [sizes]; omega)) ?_; intro v3 w3 hown3 hgrow3 _; have hb3 := below_append (by repeat (first | with_reducible exact Below.refl _ _ | with_reducible refine Below.drew ?_ | (with_reducible refine Below.alloc ?_ (by first | exact Nat.le_refl _ | omega | (simp only [sizes]; omega)) _) | (with_reducible refine Below.setCell ?_ (by first | exact Nat.le_refl _ | omega | (simp only [sizes]; omega)) _) | (refine Below.trans ?_ (Below.mono (by with_reducible assumption) (by first | exact Nat.le_refl _ | omega | (simp only [sizes]; omega)))))) ((owns_below (HO.out.alloc _) hb2).alloc _) hgrow3; have hz3 := hb3.size)
        go_wp2_with fail
        go_roundw
        case rel => exact ⟨k + 1, by omega, by go_num, ⟨lv - r, rfl, by unfold Hid; rw [sum_take HX.out, HLV.out]; dsimp only; omega, by omega, by omega⟩, allV_take HX.out HV.out HVK.out, by rw [resv_take HX.out, map_snoc]; exact hown3, hb3⟩
        case measure => simp [intOf]; omega
    · obtain rfl : k = n := by omega
      have hall : cs.take k = cs := by rw [← HN.out]; exact List.take_length
      rw [hall] at HLV HV hown
      have HA := Lib.hid hall; clear hall
      by_cases hneg : lv < 0
      · have HO := Lib.hid hown; clear hown
        go_wp2_with fail
        go_ret2
        have hno : goodT cs total t = false := by rw [HG.out, decide_eq_false (by have := HLV.out; omega), Bool.and_false]
        have e1 : targetsL cs total t = [] := by unfold targetsL; rw [hno, if_neg (by simp)]
        rw [hno, e1]
        exact RetInts.none (by repeat (first | with_reducible exact Below.refl _ _ | with_reducible refine Below.drew ?_ | (with_reducible refine Below.alloc ?_ (by first | exact Nat.le_refl _ | omega | (simp only [sizes]; omega)) _) | (with_reducible refine Below.setCell ?_ (by first | exact Nat.le_refl _ | omega | (simp only [sizes]; omega)) _) | (refine Below.trans ?_ (Below.mono (by with_reducible assumption) (by first | exact Nat.le_refl _ | omega | (simp only [sizes]; omega))))))
      · obtain ⟨m, rfl⟩ : ∃ m : Nat, lv = m := ⟨lv.toNat, by omega⟩
        have hyes : goodT cs total t = true := by rw [HG.out, HV.out, decide_eq_true (by have := HLV.out; omega)]; rfl
        have e1 : targetsL cs total t = give cs t m (resv cs) := by unfold targetsL; rw [hyes, if_pos rfl, ← HLV.out, Int.toNat_natCast]
        have HY := Lib.hid hyes; clear hyes
        have HE := Lib.hid e1; clear e1
        have hfin := Fine.resv HV.out
        clear a3
        have hm : m ≤ 96 := by omega
        rcases hown.2 with ⟨hv, hk0⟩ | ⟨g, cap, _, hv, hg, _, hgc, hgm, _⟩
        · subst hv hk0
          have hcs : cs = [] := List.eq_nil_of_length_eq_zero HN.out
          subst hcs
          have hst : give [] t m (resv []) = [] := give_stop (by simp [ricF])
          have HST := Lib.hid hst; clear hst
          by_cases hm0 : m = 0
          · subst hm0
            go_wp2_with fail
            refine wp_loop_rounds 1 ?_
            rw [rounds_succ]
            go_wp2_with fail
            go_ret2
            rw [HY.out, HE.out, HST.out]; exact ⟨_, rfl, IntRow.nil _, (by repeat (first | with_reducible exact Below.refl _ _ | with_reducible refine Below.drew ?_ | (with_reducible refine Below.alloc ?_ (by first | exact Nat.le_refl _ | omega | (simp only [sizes]; omega)) _) | (with_reducible refine Below.setCell ?_ (by first | exact Nat.le_refl _ | omega | (simp only [sizes]; omega)) _) | (refine Below.trans ?_ (Below.mono (by with_reducible assumption) (by first | exact Nat.le_refl _ | omega | (simp only [sizes]; omega))))))⟩
          · have hm1 : 0 < m := by omega
            go_wp2_with fail
            refine wp_loop_rounds 1 ?_
            rw [rounds_succ]
            go_wp2_with fail
            refine (richest_any _ _ [] [] t _ (HROW.out.below' hbw) (IntRow.nil _) rfl (by simp)).mono ?_
            rw [show (ricF [] [] t (List.length ([] : List Clm))).1 = -1 from rfl]
            rintro e w2 ⟨rfl, hb2⟩
            obtain ⟨hc2, hf2⟩ := bcell hb2
            have hz2 := bsize hb2
            try simp only [sizes1] at hz2
            try simp only [sizes] at hc2 hf2
            go_wp2_with fail
            go_ret2
            rw [HY.out, HE.out, HST.out]; exact ⟨_, rfl, IntRow.nil _, (by repeat (first | with_reducible exact Below.refl _ _ | with_reducible refine Below.drew ?_ | (with_reducible refine Below.alloc ?_ (by first | exact Nat.le_refl _ | omega | (simp only [sizes]; omega)) _) | (with_reducible refine Below.setCell ?_ (by first | exact Nat.le_refl _ | omega | (simp only [sizes]; omega)) _) | (refine Below.trans ?_ (Below.mono (by with_reducible assumption) (by first | exact Nat.le_refl _ | omega | (simp only [sizes]; omega))))))⟩
        · subst hv
          have HO := Lib.hid hown; clear hown
          go_wp2_with fail
          go_loopw [8, 12] (fun lf i2 wr2 => ∃ (m' : Nat) (fr : List Int), lf = .int .i64 m' ∧ m' ≤ 96 ∧ Hid (give cs t m' fr = give cs t m (resv cs)) ∧ Hid (Fine cs fr) ∧ wr2.ownsRow w.heap.size 3 1 (.slice (some ⟨g, 0, none⟩) k cap) k (fr.map (Value.int .i64)) ∧ Below w.heap.size w wr2) (fun lf _ _ => (intOf lf).toNat)
          case atStart => exact ⟨m, resv cs, rfl, by omega, rfl, hfin, HO.out, (by repeat (first | with_reducible exact Below.refl _ _ | with_reducible refine Below.drew ?_ | (with_reducible refine Below.alloc ?_ (by first | exact Nat.le_refl _ | omega | (simp only [sizes]; omega)) _) | (with_reducible refine Below.setCell ?_ (by first | exact Nat.le_refl _ | omega | (simp only [sizes]; omega)) _) | (refine Below.trans ?_ (Below.mono (by with_reducible assumption) (by first | exact Nat.le_refl _ | omega | (simp only [sizes]; omega))))))⟩
          case round =>
            obtain ⟨m', fr, rfl, hm', HGV, HFI, hown2, hbw2⟩ := hrel
            clear hbw hbs0
            obtain ⟨hfl, hfr⟩ := intRow_of hown2
            have HFL := Lib.hid hfl; clear hfl
            have HFR := Lib.hid hfr; clear hfr
            have HO2 := Lib.hid hown2; clear hown2
            have hbs2 := hbw2.size
            by_cases hm0 : m' = 0
            · subst hm0
              go_wp2_with fail
              go_ret2
              rw [HY.out, HE.out, ← HGV.out]; exact ⟨_, rfl, HFR.out, (by repeat (first | with_reducible exact Below.refl _ _ | with_reducible refine Below.drew ?_ | (with_reducible refine Below.alloc ?_ (by first | exact Nat.le_refl _ | omega | (simp only [sizes]; omega)) _) | (with_reducible refine Below.setCell ?_ (by first | exact Nat.le_refl _ | omega | (simp only [sizes]; omega)) _) | (refine Below.trans ?_ (Below.mono (by with_reducible assumption) (by first | exact Nat.le_refl _ | omega | (simp only [sizes]; omega))))))⟩
            · have hm1 : 0 < m' := by omega
              go_wp2_with fail
              refine (richest_any _ _ cs fr t _ (HROW.out.below' hbw2) HFR.out (by rw [HN.out, HFL.out]) (fine_bd HFI.out)).mono ?_
              rw [HN.out]
              rintro e w2 ⟨rfl, hb2⟩
              obtain ⟨hc2, hf2⟩ := bcell hb2
              have hz2 := bsize hb2
              try simp only [sizes1] at hz2
              try simp only [sizes] at hc2 hf2
              by_cases hst : (ricF cs fr t k).1 < 0
              · have HST := Lib.hid hst
                go_wp2_with fail
                go_ret2
                have e2 := give_stop (cs := cs) (t := t) (m := m') (fr := fr) (by rw [HN.out]; exact HST.out)
                rw [HY.out, HE.out, ← HGV.out, e2]
                exact ⟨_, rfl, HFR.out.below hb2, (by repeat (first | with_reducible exact Below.refl _ _ | with_reducible refine Below.drew ?_ | (with_reducible refine Below.alloc ?_ (by first | exact Nat.le_refl _ | omega | (simp only [sizes]; omega)) _) | (with_reducible refine Below.setCell ?_ (by first | exact Nat.le_refl _ | omega | (simp only [sizes]; omega)) _) | (refine Below.trans ?_ (Below.mono (by with_reducible assumption) (by first | exact Nat.le_refl _ | omega | (simp only [sizes]; omega))))))⟩
              · obtain ⟨j, c, f, hj, hjk, hcj, hfj, hfc⟩ := ricF_pos k (Int.not_lt.1 hst)
                have hf96 := (HFI.out).2 j f hfj
                rw [hj] at hst ⊢
                have hcl := HO2.out.cellAt j (by omega)
                have hcell : wr.cell? ⟨g, j, none⟩ = some (.int .i64 f) := by rw [hcl, List.getElem?_map, hfj]; rfl
                have hfree := HO2.out.frozenAt j
                have hgl : g < wr.heap.size := (HO2.out.lt g rfl).2
                clear hcl
                have HJ := Lib.hid hj; clear hj
                have HC := Lib.hid hcj; clear hcj
                have HF := Lib.hid hfj; clear hfj
                go_wp2_with fail
                go_roundw
                case rel =>
                  obtain ⟨q, rfl⟩ : ∃ q : Nat, m' = q + 1 := ⟨m' - 1, by omega⟩
                  refine ⟨q, fr.set j (f + 1), by rw [show ((q + 1 : Nat) : Int) - 1 = q from by omega], by omega, ?_, (HFI.out).bump HV.out HC.out HF.out hfc, ?_, (by repeat (first | with_reducible exact Below.refl _ _ | with_reducible refine Below.drew ?_ | (with_reducible refine Below.alloc ?_ (by first | exact Nat.le_refl _ | omega | (simp only [sizes]; omega)) _) | (with_reducible refine Below.setCell ?_ (by first | exact Nat.le_refl _ | omega | (simp only [sizes]; omega)) _) | (refine Below.trans ?_ (Below.mono (by with_reducible assumption) (by first | exact Nat.le_refl _ | omega | (simp only [sizes]; omega))))))⟩
                  · have := give_step (cs := cs) (t := t) (m := q) (fr := fr) (j := j) (f := f) (by rw [HN.out]; exact HJ.out) HF.out
                    exact this.symm.trans HGV.out
                  · rw [← set_map]
                    exact ((owns_below HO2.out hb2).stored j _).1
                case measure => simp [intOf]; omega

theorem idletax_Targets_any (va : Value) (cs : List Clm) (total t : Int) (w : World) (ha : ClmRow w va cs) : Calls Try.prog 17 #[va, .int .i64 total, .int .i64 t] w (RetInts w (targetsL cs total t) (goodT cs total t)) := by
  by_cases h : cs.length ≤ 8 ∧ 0 ≤ total ∧ total ≤ 96
  · cases ht : taxB t
    · have hno : goodT cs total t = false := by unfold goodT; rw [ht, Bool.and_false, Bool.false_and, Bool.false_and]
      have e1 : targetsL cs total t = [] := by unfold targetsL; rw [hno, if_neg (by simp)]
      rw [hno, e1]
      exact targets_notax va cs total t w ha h ht
    · exact targets_in va cs total t w ha h ht
  · have hno : goodT cs total t = false := by unfold goodT; rw [decide_eq_false h, Bool.false_and, Bool.false_and, Bool.false_and]
    have e1 : targetsL cs total t = [] := by unfold targetsL; rw [hno, if_neg (by simp)]
    rw [hno, e1]
    exact targets_out va cs total t w ha h
end Go.Proofs.Ytclnjjppcdgkiaa
