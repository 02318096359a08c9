/-
  The division of frames of the reference, walked.
-/
import Derived.Test.YtclnjjppcdgkiaaTaxTargets
namespace Go.Proofs.Ytclnjjppcdgkiaa
open Go.RowKit

theorem goodT_sum {cs : List Clm} {total t : Int} {k : Nat} (h : total < sumI (resv (cs.take k))) : goodT cs total t = false := by
  unfold goodT
  cases hv : allV cs
  · rw [Bool.and_false, Bool.false_and]
  · have := sum_take_le hv k
    rw [decide_eq_false (p := sumI (resv cs) ≤ total) (by omega), Bool.and_false]
theorem owns_addr {w : World} {base : Nat} {e : TypeId} {size n cap : Nat} {ao : Option Addr} {xs : List Value} (h : w.ownsRow base e size (.slice ao n cap) n xs) (hn : 0 < n) : ∃ g : Nat, ao = some ⟨g, 0, none⟩ := by
  rcases h.2 with ⟨_, h⟩ | ⟨g, cap', cur, hv, _⟩
  · omega
  · injection hv with h1
    exact ⟨g, h1⟩

theorem rtargets_out (va : Value) (cs : List Clm) (total t : Int) (w : World) (ha : ClmRow w va cs) (h : ¬ (cs.length ≤ 8 ∧ 0 ≤ total ∧ total ≤ 96)) : Calls Try.prog 18 #[va, .int .i64 total, .int .i64 t] w (RetInts w [] false) := by
  obtain ⟨ao, ca, rfl, a1, a2, a3⟩ := ha.out
  unfold maxLen at a2
  clear ha a3
  obtain ⟨n, hn⟩ : ∃ n, cs.length = n := ⟨_, rfl⟩
  rw [hn] at a1 h ⊢
  clear hn
  by_cases h1 : 8 < n
  · go_enter Try.func18, Try.ntmps18
    go_wp2_with fail
    go_ret2
    exact RetInts.none (by repeat (first | with_reducible exact Below.refl _ _ | with_reducible refine Below.drew ?_ | (with_reducible refine Below.alloc ?_ (by first | exact Nat.le_refl _ | omega | (simp only [sizes]; omega)) _) | (with_reducible refine Below.setCell ?_ (by first | exact Nat.le_refl _ | omega | (simp only [sizes]; omega)) _) | (refine Below.trans ?_ (Below.mono (by with_reducible assumption) (by first | exact Nat.le_refl _ | omega | (simp only [sizes]; omega))))))
  · by_cases h2 : total < 0
    · go_enter Try.func18, Try.ntmps18
      go_wp2_with fail
      go_ret2
      exact RetInts.none (by repeat (first | with_reducible exact Below.refl _ _ | with_reducible refine Below.drew ?_ | (with_reducible refine Below.alloc ?_ (by first | exact Nat.le_refl _ | omega | (simp only [sizes]; omega)) _) | (with_reducible refine Below.setCell ?_ (by first | exact Nat.le_refl _ | omega | (simp only [sizes]; omega)) _) | (refine Below.trans ?_ (Below.mono (by with_reducible assumption) (by first | exact Nat.le_refl _ | omega | (simp only [sizes]; omega))))))
    · have h3 : 96 < total := by omega
      go_enter Try.func18, Try.ntmps18
      go_wp2_with fail
      go_ret2
      exact RetInts.none (by repeat (first | with_reducible exact Below.refl _ _ | with_reducible refine Below.drew ?_ | (with_reducible refine Below.alloc ?_ (by first | exact Nat.le_refl _ | omega | (simp only [sizes]; omega)) _) | (with_reducible refine Below.setCell ?_ (by first | exact Nat.le_refl _ | omega | (simp only [sizes]; omega)) _) | (refine Below.trans ?_ (Below.mono (by with_reducible assumption) (by first | exact Nat.le_refl _ | omega | (simp only [sizes]; omega))))))
theorem rtargets_notax (va : Value) (cs : List Clm) (total t : Int) (w : World) (ha : ClmRow w va cs) (h : cs.length ≤ 8 ∧ 0 ≤ total ∧ total ≤ 96) (ht : taxB t = false) : Calls Try.prog 18 #[va, .int .i64 total, .int .i64 t] w (RetInts w [] false) := by
  obtain ⟨ao, ca, rfl, a1, a2, a3⟩ := ha.out
  unfold maxLen at a2
  clear ha a3
  obtain ⟨n, hn⟩ : ∃ n, cs.length = n := ⟨_, rfl⟩
  rw [hn] at a1 h ⊢
  obtain ⟨h1, h2, h3⟩ := h
  have HT := Lib.hid ht; clear ht
  clear hn
  go_enter Try.func18, Try.ntmps18
  go_wp2_with fail
  refine (vmfleetref35_taxed_is HT.out _).mono ?_
  rintro e w1 ⟨rfl, hb1⟩
  obtain ⟨hc1, hf1⟩ := bcell hb1
  have hz1 := bsize hb1
  try simp only [sizes1] at hz1
  try simp only [sizes] at hc1 hf1
  go_wp2_with fail
  go_ret2
  exact RetInts.none (by repeat (first | with_reducible exact Below.refl _ _ | with_reducible refine Below.drew ?_ | (with_reducible refine Below.alloc ?_ (by first | exact Nat.le_refl _ | omega | (simp only [sizes]; omega)) _) | (with_reducible refine Below.setCell ?_ (by first | exact Nat.le_refl _ | omega | (simp only [sizes]; omega)) _) | (refine Below.trans ?_ (Below.mono (by with_reducible assumption) (by first | exact Nat.le_refl _ | omega | (simp only [sizes]; omega))))))

set_option maxRecDepth 100000 in
set_option maxHeartbeats 8000000 in
theorem rtargets_in (va : Value) (cs : List Clm) (total t : Int) (w : World) (ha : ClmRow w va cs) (h : cs.length ≤ 8 ∧ 0 ≤ total ∧ total ≤ 96) (ht : taxB t = true) :
    Calls Try.prog 18 #[va, .int .i64 total, .int .i64 t] w (RetInts w (targetsL cs total t) (goodT cs total t)) := by
  obtain ⟨ao, ca, rfl, a1, a2, a3⟩ := ha.out
  unfold maxLen at a2
  clear ha
  have hgood : goodT cs total t = (allV cs && decide (sumI (resv cs) ≤ total)) := by unfold goodT; rw [decide_eq_true h, ht]; rfl
  obtain ⟨n, hn⟩ : ∃ n, cs.length = n := ⟨_, rfl⟩
  rw [hn] at a1 a3 h ⊢
  obtain ⟨h1, h2, h3⟩ := h
  have HT := Lib.hid ht; clear ht
  have HN := Lib.hid hn; clear hn
  have HG := Lib.hid hgood; clear hgood
  obtain ⟨i0, hi, iz0, iz1, iz2⟩ := info_parts info_int
  go_enter Try.func18, Try.ntmps18
  go_wp2_with fail
  refine (vmfleetref35_taxed_is HT.out _).mono ?_
  rintro e w1 ⟨rfl, hb1⟩
  obtain ⟨hc1, hf1⟩ := bcell hb1
  have hz1 := bsize hb1
  try simp only [sizes1] at hz1
  try simp only [sizes] at hc1 hf1
  go_wp2_with fail
  go_loopw [8, 9, 10] (fun v lf i wr => ∃ k : Nat, k ≤ n ∧ i = .int .i64 k ∧ (∃ lv : Int, lf = .int .i64 lv ∧ Hid (lv = total - sumI (resv (cs.take k))) ∧ 0 ≤ lv ∧ lv ≤ 96) ∧ Hid (allV (cs.take k) = true) ∧ wr.ownsRow w.heap.size 3 1 v k ((resv (cs.take k)).map (Value.int .i64)) ∧ Below w.heap.size w wr) (fun _ _ i _ => n - (intOf i).toNat)
  case atStart => exact ⟨0, Nat.zero_le _, rfl, ⟨total, rfl, by unfold Hid; simp [resv, sumI], by omega, by omega⟩, rfl, World.ownsRow_nil _ _ _ _, (by repeat (first | with_reducible exact Below.refl _ _ | with_reducible refine Below.drew ?_ | (with_reducible refine Below.alloc ?_ (by first | exact Nat.le_refl _ | omega | (simp only [sizes]; omega)) _) | (with_reducible refine Below.setCell ?_ (by first | exact Nat.le_refl _ | omega | (simp only [sizes]; omega)) _) | (refine Below.trans ?_ (Below.mono (by with_reducible assumption) (by first | exact Nat.le_refl _ | omega | (simp only [sizes]; omega))))))⟩
  case round =>
    obtain ⟨k, hk, rfl, ⟨lv, rfl, HLV, hl1, hl2⟩, HV, hown, hbw⟩ := hrel
    clear hc1 hf1 hb1 hz1
    have hbs0 := hbw.size
    by_cases hlt : k < n
    · obtain ⟨⟨r, l, s, p, a⟩, hx⟩ := get_lt (xs := cs) (k := k) (by rw [HN.out]; exact hlt)
      obtain ⟨b, off, rfl, hbs, hbc⟩ := a3.resolve_left (by omega)
      obtain ⟨d0', d1', d2', d3', d4'⟩ := hbc k _ hx
      dsimp only at d0' d1' d2' d3' d4'
      have d0 := (hbw.cell (p := ⟨b, off + k * 5, none⟩) hbs).trans d0'
      have d1 := (hbw.cell (p := ⟨b, off + k * 5 + 1, none⟩) hbs).trans d1'
      have d2 := (hbw.cell (p := ⟨b, off + k * 5 + 2, none⟩) hbs).trans d2'
      have d3 := (hbw.cell (p := ⟨b, off + k * 5 + 3, none⟩) hbs).trans d3'
      have d4 := (hbw.cell (p := ⟨b, off + k * 5 + 4, none⟩) hbs).trans d4'
      clear d0' d1' d2' d3' d4'
      have HX := Lib.hid hx; clear hx a3 hbc
      have HO := Lib.hid hown; clear hown
      have hbs1 : b < wr.heap.size := by omega
      cases hv : validB ⟨r, l, s, p, a⟩
      · have HVK := Lib.hid hv; clear hv
        go_wp2_with fail
        refine (vmfleetref35_ValidClaim_is HVK.out _).mono ?_
        rintro e w2 ⟨rfl, hb2⟩
        obtain ⟨hc2, hf2⟩ := bcell hb2
        have hz2 := bsize hb2
        try simp only [sizes1] at hz2
        try simp only [sizes] at hc2 hf2
        go_wp2_with fail
        go_ret2
        have hno : goodT cs total t = false := (by rw [HG.out, allV_not HX.out HVK.out]; rfl)
        have e1 : targetsL cs total t = [] := by unfold targetsL; rw [hno, if_neg (by simp)]
        rw [hno, e1]
        exact RetInts.none (by repeat (first | with_reducible exact Below.refl _ _ | with_reducible refine Below.drew ?_ | (with_reducible refine Below.alloc ?_ (by first | exact Nat.le_refl _ | omega | (simp only [sizes]; omega)) _) | (with_reducible refine Below.setCell ?_ (by first | exact Nat.le_refl _ | omega | (simp only [sizes]; omega)) _) | (refine Below.trans ?_ (Below.mono (by with_reducible assumption) (by first | exact Nat.le_refl _ | omega | (simp only [sizes]; omega))))))
      · have hvb := (validB_iff _).1 hv
        dsimp only at hvb
        have HVK := Lib.hid hv; clear hv
        by_cases hrl : lv < r
        · go_wp2_with fail
          refine (vmfleetref35_ValidClaim_is HVK.out _).mono ?_
          rintro e w2 ⟨rfl, hb2⟩
          obtain ⟨hc2, hf2⟩ := bcell hb2
          have hz2 := bsize hb2
          try simp only [sizes1] at hz2
          try simp only [sizes] at hc2 hf2
          go_wp2_with fail
          go_ret2
          have hno : goodT cs total t = false := goodT_sum (k := k + 1) (by rw [sum_take HX.out]; have := HLV.out; dsimp only; omega)
          have e1 : targetsL cs total t = [] := by unfold targetsL; rw [hno, if_neg (by simp)]
          rw [hno, e1]
          exact RetInts.none (by repeat (first | with_reducible exact Below.refl _ _ | with_reducible refine Below.drew ?_ | (with_reducible refine Below.alloc ?_ (by first | exact Nat.le_refl _ | omega | (simp only [sizes]; omega)) _) | (with_reducible refine Below.setCell ?_ (by first | exact Nat.le_refl _ | omega | (simp only [sizes]; omega)) _) | (refine Below.trans ?_ (Below.mono (by with_reducible assumption) (by first | exact Nat.le_refl _ | omega | (simp only [sizes]; omega))))))
        · go_wp2_with fail
          refine (vmfleetref35_ValidClaim_is HVK.out _).mono ?_
          rintro e w2 ⟨rfl, hb2⟩
          obtain ⟨hc2, hf2⟩ := bcell hb2
          have hz2 := bsize hb2
          try simp only [sizes1] at hz2
          try simp only [sizes] at hc2 hf2
          go_wp2_with (at_builtin; refine wpList_append_own _ rfl (.tmp 60) (.tmp 66) 29 rfl w.heap.size 3 i0 (.int .i64 0) 1 8 Try.underlying29 hi iz0 iz1 iz2 rfl (by decide) _ k ((resv (cs.take k)).map (Value.int .i64)) rfl ((owns_below HO.out hb2).alloc _) ⟨w2.heap.size, 0, none⟩ 1 1 [Value.int .i64 r] rfl rfl (cells_made _ [Value.int .i64 r] _ _ (by first | rfl | simp only [sizes])) (one_int _) (by unfold maxLen; omega) (by omega) (by first | exact Nat.le_refl _ | omega | (simp only [sizes]; omega)) ?_; intro v3 w3 hown3 hgrow3 _; have hb3 := below_append (by repeat (first | with_reducible exact Below.refl _ _ | with_reducible refine Below.drew ?_ | (with_reducible refine Below.alloc ?_ (by first | exact Nat.le_refl _ | omega | (simp only [sizes]; omega)) _) | (with_reducible refine Below.setCell ?_ (by first | exact Nat.le_refl _ | omega | (simp only [sizes]; omega)) _) | (refine Below.trans ?_ (Below.mono (by with_reducible assumption) (by first | exact Nat.le_refl _ | omega | (simp only [sizes]; omega)))))) ((owns_below HO.out hb2).alloc _) hgrow3; have hz3 := hb3.size)
          go_wp2_with fail
          go_roundw
          case rel => exact ⟨k + 1, by omega, by go_num, ⟨lv - r, rfl, by unfold Hid; rw [sum_take HX.out, HLV.out]; dsimp only; omega, by omega, by omega⟩, allV_take HX.out HV.out HVK.out, by rw [resv_take HX.out, map_snoc]; exact hown3, hb3⟩
          case measure => simp [intOf]; omega
    · obtain rfl : k = n := by omega
      have hall : cs.take k = cs := by rw [← HN.out]; exact List.take_length
      rw [hall] at HLV HV hown
      have HA := Lib.hid hall; clear hall
      obtain ⟨m, rfl⟩ : ∃ m : Nat, lv = m := ⟨lv.toNat, by omega⟩
      have hyes : goodT cs total t = true := by rw [HG.out, HV.out, decide_eq_true (by have := HLV.out; omega)]; rfl
      have e1 : targetsL cs total t = give cs t m (resv cs) := by unfold targetsL; rw [hyes, if_pos rfl, ← HLV.out, Int.toNat_natCast]
      have HY := Lib.hid hyes; clear hyes
      have HE := Lib.hid e1; clear e1
      have hfin := Fine.resv HV.out
      have hm : m ≤ 96 := by omega
      obtain ⟨go, cap, rfl, g1, g2, g3⟩ := RowAt.of_owns hown
      unfold maxLen at g2
      clear g3
      have HO := Lib.hid hown; clear hown
      go_wp2_with fail
      go_loopw [9] (fun lf wr2 => ∃ (m' : Nat) (fr : List Int), lf = .int .i64 m' ∧ m' ≤ 96 ∧ Hid (give cs t m' fr = give cs t m (resv cs)) ∧ Hid (Fine cs fr) ∧ wr2.ownsRow w.heap.size 3 1 (.slice go k cap) k (fr.map (Value.int .i64)) ∧ Below w.heap.size w wr2) (fun lf _ => (intOf lf).toNat)
      case atStart => exact ⟨m, resv cs, rfl, by omega, rfl, hfin, HO.out, (by repeat (first | with_reducible exact Below.refl _ _ | with_reducible refine Below.drew ?_ | (with_reducible refine Below.alloc ?_ (by first | exact Nat.le_refl _ | omega | (simp only [sizes]; omega)) _) | (with_reducible refine Below.setCell ?_ (by first | exact Nat.le_refl _ | omega | (simp only [sizes]; omega)) _) | (refine Below.trans ?_ (Below.mono (by with_reducible assumption) (by first | exact Nat.le_refl _ | omega | (simp only [sizes]; omega))))))⟩
      case round =>
        obtain ⟨m', fr, rfl, hm', HGV, HFI, hown2, hbw2⟩ := hrel
        clear hbw hbs0
        obtain ⟨hfl, hfr⟩ := intRow_of hown2
        have HFL := Lib.hid hfl; clear hfl
        have HFR := Lib.hid hfr; clear hfr
        have HO2 := Lib.hid hown2; clear hown2
        have hbs2 := hbw2.size
        by_cases hm0 : m' = 0
        · subst hm0
          go_wp2_with fail
          go_ret2
          rw [HY.out, HE.out, ← HGV.out]; exact ⟨_, rfl, HFR.out, (by repeat (first | with_reducible exact Below.refl _ _ | with_reducible refine Below.drew ?_ | (with_reducible refine Below.alloc ?_ (by first | exact Nat.le_refl _ | omega | (simp only [sizes]; omega)) _) | (with_reducible refine Below.setCell ?_ (by first | exact Nat.le_refl _ | omega | (simp only [sizes]; omega)) _) | (refine Below.trans ?_ (Below.mono (by with_reducible assumption) (by first | exact Nat.le_refl _ | omega | (simp only [sizes]; omega))))))⟩
        · have hm1 : 0 < m' := by omega
          obtain ⟨wo, rfl⟩ : ∃ wo : World, wo = wr := ⟨_, rfl⟩
          go_wp2_with fail
          go_loopw [11, 13] (fun bs i wr => ∃ (q : Nat) (best : Int) (pc : Clm), q ≤ k ∧ i = .int .i64 q ∧ bs = .int .i64 best ∧ Hid ((best, pc) = ricF cs fr t q) ∧ -1 ≤ best ∧ best < q ∧ HasBlock wr wo.heap.size (clmArr pc) 23 ∧ Below wo.heap.size wo wr) (fun _ i _ => k - (intOf i).toNat)
          case atStart => exact ⟨0, -1, clm0, Nat.zero_le _, rfl, rfl, rfl, by omega, by omega, HasBlock.made _ _ _, (by repeat (first | with_reducible exact Below.refl _ _ | with_reducible refine Below.drew ?_ | (with_reducible refine Below.alloc ?_ (by first | exact Nat.le_refl _ | omega | (simp only [sizes]; omega)) _) | (with_reducible refine Below.setCell ?_ (by first | exact Nat.le_refl _ | omega | (simp only [sizes]; omega)) _) | (refine Below.trans ?_ (Below.mono (by with_reducible assumption) (by first | exact Nat.le_refl _ | omega | (simp only [sizes]; omega))))))⟩
          case round =>
            obtain ⟨q, best, ⟨pr, pl, ps, pp, pa⟩, hqk, rfl, rfl, HB, hb0, hbk, HP0, hbwr⟩ := hrel
            have HP1 : HasBlock wr wo.heap.size #[.int .i64 pr, .int .i64 pl, .int .i64 ps, .int .i64 pp, .int .i64 pa] 23 := HP0
            clear HP0
            have x0 := (HP1.cell 0).trans rfl
            have x1 := (HP1.cell 1).trans rfl
            have x2 := (HP1.cell 2).trans rfl
            have x3 := (HP1.cell 3).trans rfl
            have x4 := (HP1.cell 4).trans rfl
            have xf := HP1.free
            have xz := HP1.lt
            have hbs0 := hbwr.size
            by_cases hlt : q < k
            · obtain ⟨⟨r, l, s, p, a⟩, hx⟩ := get_lt (xs := cs) (k := q) (by rw [HN.out]; exact hlt)
              obtain ⟨f, hy⟩ := get_lt (xs := fr) (k := q) (by rw [HFL.out]; exact hlt)
              have hfb := HFI.out.2 q f hy
              obtain ⟨b, off, rfl, hbs, hbc⟩ := a3.resolve_left (by omega)
              obtain ⟨g, rfl⟩ := owns_addr HO2.out (by omega)
              have hgc := (HO2.out.cellAt q (by omega)).trans ((congrArg (fun z => z) (by rw [List.getElem?_map, hy]; rfl : (fr.map (Value.int .i64))[q]? = some (.int .i64 f))))
              have hgl : g < wo.heap.size := (HO2.out.lt g rfl).2
              have hgl2 : g < wr.heap.size := by omega
              have e0 := (hbwr.cell (p := ⟨g, q, none⟩) hgl).trans hgc
              have hb2 : Below w.heap.size w wr := hbw2.trans (hbwr.mono hbs2)
              obtain ⟨d0', d1', d2', d3', d4'⟩ := hbc q _ hx
              dsimp only at d0' d1' d2' d3' d4'
              have d0 := (hb2.cell (p := ⟨b, off + q * 5, none⟩) hbs).trans d0'
              have d1 := (hb2.cell (p := ⟨b, off + q * 5 + 1, none⟩) hbs).trans d1'
              have d2 := (hb2.cell (p := ⟨b, off + q * 5 + 2, none⟩) hbs).trans d2'
              have d3 := (hb2.cell (p := ⟨b, off + q * 5 + 3, none⟩) hbs).trans d3'
              have d4 := (hb2.cell (p := ⟨b, off + q * 5 + 4, none⟩) hbs).trans d4'
              clear d0' d1' d2' d3' d4'
              have HX := Lib.hid hx; clear hx a3 hbc hgc hb2
              have HY := Lib.hid hy; clear hy
              have hbs1 : b < wr.heap.size := by omega
              by_cases hcl : l ≤ f
              · have hge : decide (f < l) = false := decide_eq_false (by omega)
                go_wp2_with fail
                refine wp_region_quiet_below (by kernel_rfl) (by kernel_rfl) ?_
                repeat (go_big_quiet_step (first | fail | fail))
                refine wpQuiet_nil ?_
                intro w1 hw1
                have hb1 := below_of_regrown hw1
                clear hw1
                obtain ⟨hc1, hf1⟩ := bcell hb1
                have hz1 := bsize hb1
                try simp only [sizes1] at hz1
                try simp only [sizes] at hc1 hf1
                have hsz1 : wo.heap.size < w1.heap.size := by omega
                go_wp2_with fail
                go_roundw
                case rel => exact ⟨q + 1, _, ⟨pr, pl, ps, pp, pa⟩, by omega, by go_num, rfl, (by have := ricF_succ HB.out HX.out HY.out; rw [ricStep, if_pos hcl] at this; exact this.symm), by omega, by omega, (show HasBlock _ _ #[.int .i64 pr, .int .i64 pl, .int .i64 ps, .int .i64 pp, .int .i64 pa] _ from (by repeat (first | with_reducible assumption | (with_reducible refine HasBlock.alloc ?_ _) | (with_reducible refine HasBlock.drew ?_) | (with_reducible refine HasBlock.set_ne ?_ (by omega) _) | (refine HasBlock.below ?_ (by with_reducible assumption))))), (by repeat (first | with_reducible exact Below.refl _ _ | with_reducible refine Below.drew ?_ | (with_reducible refine Below.alloc ?_ (by first | exact Nat.le_refl _ | omega | (simp only [sizes]; omega)) _) | (with_reducible refine Below.setCell ?_ (by first | exact Nat.le_refl _ | omega | (simp only [sizes]; omega)) _) | (refine Below.trans ?_ (Below.mono (by with_reducible assumption) (by first | exact Nat.le_refl _ | omega | (simp only [sizes]; omega))))))⟩
                case measure => simp [intOf]; omega
              · have hge : decide (f < l) = true := decide_eq_true (by omega)
                by_cases hneg : best < 0
                · obtain rfl : best = -1 := by omega
                  go_wp2_with fail
                  refine wp_region_quiet_below (by kernel_rfl) (by kernel_rfl) ?_
                  repeat (go_big_quiet_step (first | fail | fail))
                  refine wpQuiet_nil ?_
                  intro w1 hw1
                  have hb1 := below_of_regrown hw1
                  clear hw1
                  obtain ⟨hc1, hf1⟩ := bcell hb1
                  have hz1 := bsize hb1
                  try simp only [sizes1] at hz1
                  try simp only [sizes] at hc1 hf1
                  have hsz1 : wo.heap.size < w1.heap.size := by omega
                  have hsz2 : wr.heap.size < w1.heap.size := by omega
                  go_wp2_with fail
                  go_roundw
                  case rel => exact ⟨q + 1, q, ⟨r, l, s, f + 1, a⟩, by omega, by go_num, rfl, (by have := ricF_succ HB.out HX.out HY.out; rw [ricStep, if_neg (show ¬ l ≤ f from by omega)] at this; exact this.symm), by omega, by omega, (show HasBlock _ _ #[.int .i64 r, .int .i64 l, .int .i64 s, .int .i64 (f + 1), .int .i64 a] _ from (by repeat (first | with_reducible assumption | (with_reducible refine HasBlock.alloc ?_ _) | (with_reducible refine HasBlock.drew ?_) | (with_reducible refine HasBlock.store5 (x0 := .int .i64 pr) (x1 := .int .i64 pl) (x2 := .int .i64 ps) (x3 := .int .i64 pp) (x4 := .int .i64 pa) ?_ _ _ _ _ _) | (with_reducible refine HasBlock.set_ne ?_ (by omega) _) | (refine HasBlock.below ?_ (by with_reducible assumption))))), (by repeat (first | with_reducible exact Below.refl _ _ | with_reducible refine Below.drew ?_ | (with_reducible refine Below.alloc ?_ (by first | exact Nat.le_refl _ | omega | (simp only [sizes]; omega)) _) | (with_reducible refine Below.setCell ?_ (by first | exact Nat.le_refl _ | omega | (simp only [sizes]; omega)) _) | (refine Below.trans ?_ (Below.mono (by with_reducible assumption) (by first | exact Nat.le_refl _ | omega | (simp only [sizes]; omega))))))⟩
                  case measure => simp [intOf]; omega
                · obtain ⟨j, rfl⟩ : ∃ j : Nat, best = j := ⟨best.toNat, by omega⟩
                  have hdn : decide ((j : Int) < 0) = false := decide_eq_false (by omega)
                  cases hpo : poorB ⟨pr, pl, ps, pp, pa⟩ ⟨r, l, s, f + 1, a⟩ t
                  · have HP := Lib.hid hpo; clear hpo
                    go_wp2_with fail
                    refine wp_region_quiet_below (by kernel_rfl) (by kernel_rfl) ?_
                    repeat (go_big_quiet_step (first | fail | (go_at_call 24; exact quiet_ret (rpoor_is HP.out _))))
                    refine wpQuiet_nil ?_
                    intro w1 hw1
                    have hb1 := below_of_regrown hw1
                    clear hw1
                    obtain ⟨hc1, hf1⟩ := bcell hb1
                    have hz1 := bsize hb1
                    try simp only [sizes1] at hz1
                    try simp only [sizes] at hc1 hf1
                    have hsz1 : wo.heap.size < w1.heap.size := by omega
                    go_wp2_with fail
                    go_roundw
                    case rel => exact ⟨q + 1, _, ⟨pr, pl, ps, pp, pa⟩, by omega, by go_num, rfl, (by have := ricF_succ HB.out HX.out HY.out; rw [ricStep, if_neg (show ¬ l ≤ f from by omega), hdn, Bool.false_or, show priced ⟨r, l, s, p, a⟩ f = ⟨r, l, s, f + 1, a⟩ from rfl, HP.out, if_neg (by simp)] at this; exact this.symm), by omega, by omega, (show HasBlock _ _ #[.int .i64 pr, .int .i64 pl, .int .i64 ps, .int .i64 pp, .int .i64 pa] _ from (by repeat (first | with_reducible assumption | (with_reducible refine HasBlock.alloc ?_ _) | (with_reducible refine HasBlock.drew ?_) | (with_reducible refine HasBlock.set_ne ?_ (by omega) _) | (refine HasBlock.below ?_ (by with_reducible assumption))))), (by repeat (first | with_reducible exact Below.refl _ _ | with_reducible refine Below.drew ?_ | (with_reducible refine Below.alloc ?_ (by first | exact Nat.le_refl _ | omega | (simp only [sizes]; omega)) _) | (with_reducible refine Below.setCell ?_ (by first | exact Nat.le_refl _ | omega | (simp only [sizes]; omega)) _) | (refine Below.trans ?_ (Below.mono (by with_reducible assumption) (by first | exact Nat.le_refl _ | omega | (simp only [sizes]; omega))))))⟩
                    case measure => simp [intOf]; omega
                  · have HP := Lib.hid hpo; clear hpo
                    go_wp2_with fail
                    refine wp_region_quiet_below (by kernel_rfl) (by kernel_rfl) ?_
                    repeat (go_big_quiet_step (first | fail | (go_at_call 24; exact quiet_ret (rpoor_is HP.out _))))
                    refine wpQuiet_nil ?_
                    intro w1 hw1
                    have hb1 := below_of_regrown hw1
                    clear hw1
                    obtain ⟨hc1, hf1⟩ := bcell hb1
                    have hz1 := bsize hb1
                    try simp only [sizes1] at hz1
                    try simp only [sizes] at hc1 hf1
                    have hsz1 : wo.heap.size < w1.heap.size := by omega
                    have hsz2 : wr.heap.size < w1.heap.size := by omega
                    go_wp2_with fail
                    go_roundw
                    case rel => exact ⟨q + 1, q, ⟨r, l, s, f + 1, a⟩, by omega, by go_num, rfl, (by have := ricF_succ HB.out HX.out HY.out; rw [ricStep, if_neg (show ¬ l ≤ f from by omega), hdn, Bool.false_or, show priced ⟨r, l, s, p, a⟩ f = ⟨r, l, s, f + 1, a⟩ from rfl, HP.out, if_pos rfl] at this; exact this.symm), by omega, by omega, (show HasBlock _ _ #[.int .i64 r, .int .i64 l, .int .i64 s, .int .i64 (f + 1), .int .i64 a] _ from (by repeat (first | with_reducible assumption | (with_reducible refine HasBlock.alloc ?_ _) | (with_reducible refine HasBlock.drew ?_) | (with_reducible refine HasBlock.store5 (x0 := .int .i64 pr) (x1 := .int .i64 pl) (x2 := .int .i64 ps) (x3 := .int .i64 pp) (x4 := .int .i64 pa) ?_ _ _ _ _ _) | (with_reducible refine HasBlock.set_ne ?_ (by omega) _) | (refine HasBlock.below ?_ (by with_reducible assumption))))), (by repeat (first | with_reducible exact Below.refl _ _ | with_reducible refine Below.drew ?_ | (with_reducible refine Below.alloc ?_ (by first | exact Nat.le_refl _ | omega | (simp only [sizes]; omega)) _) | (with_reducible refine Below.setCell ?_ (by first | exact Nat.le_refl _ | omega | (simp only [sizes]; omega)) _) | (refine Below.trans ?_ (Below.mono (by with_reducible assumption) (by first | exact Nat.le_refl _ | omega | (simp only [sizes]; omega))))))⟩
                    case measure => simp [intOf]; omega
            · obtain rfl : q = k := by omega
              have hbwx : Below w.heap.size w wr := hbw2.trans (hbwr.mono hbs2)
              by_cases hst : best < 0
              · go_wp2_with fail
                go_ret2
                have e2 := give_stop (cs := cs) (t := t) (m := m') (fr := fr) (by rw [HN.out, ← HB.out]; exact hst)
                rw [HY.out, HE.out, ← HGV.out, e2]
                exact ⟨_, rfl, HFR.out.below hbwr, hbwx⟩
              · obtain ⟨j, c, f, hj, hjk, hcj, hfj, hfc⟩ := ricF_pos q (by rw [← HB.out]; exact Int.not_lt.1 hst)
                obtain rfl : best = j := by rw [← hj, ← HB.out]
                have hf96 := (HFI.out).2 j f hfj
                obtain ⟨g, rfl⟩ := owns_addr HO2.out (by omega)
                have hgc := (HO2.out.cellAt j (by omega)).trans ((congrArg (fun z => z) (by rw [List.getElem?_map, hfj]; rfl : (fr.map (Value.int .i64))[j]? = some (.int .i64 f))))
                have hgl : g < wo.heap.size := (HO2.out.lt g rfl).2
                have hgb : w.heap.size ≤ g := (HO2.out.lt g rfl).1
                have hgl2 : g < wr.heap.size := by omega
                have hcell := (hbwr.cell (p := ⟨g, j, none⟩) hgl).trans hgc
                have hfree := (hbwr.frozen (p := ⟨g, j, none⟩) hgl).trans (HO2.out.frozenAt j)
                have HJ := Lib.hid hj; clear hj
                have HC := Lib.hid hcj; clear hcj
                have HF := Lib.hid hfj; clear hfj hgc
                go_wp2_with fail
                go_roundw
                case rel =>
                  obtain ⟨q', rfl⟩ : ∃ q : Nat, m' = q + 1 := ⟨m' - 1, by omega⟩
                  refine ⟨q', fr.set j (f + 1), by rw [show ((q' + 1 : Nat) : Int) - 1 = q' from by omega], by omega, ?_, (HFI.out).bump HV.out HC.out HF.out hfc, ?_, (by repeat (first | with_reducible exact Below.refl _ _ | with_reducible refine Below.drew ?_ | (with_reducible refine Below.alloc ?_ (by first | exact Nat.le_refl _ | omega | (dsimp only; omega) | (simp only [sizes]; omega)) _) | (with_reducible refine Below.setCell ?_ (by first | exact Nat.le_refl _ | omega | (dsimp only; omega) | (simp only [sizes]; omega)) _) | (refine Below.trans ?_ (Below.mono (by with_reducible assumption) (by first | exact Nat.le_refl _ | omega | (dsimp only; omega) | (simp only [sizes]; omega))))))⟩
                  · have := give_step (cs := cs) (t := t) (m := q') (fr := fr) (j := j) (f := f) (by rw [HN.out]; exact HJ.out) HF.out
                    exact this.symm.trans HGV.out
                  · rw [← set_map]
                    exact ((owns_below HO2.out hbwr).stored j _).1
                case measure => simp [intOf]; omega
theorem vmfleetref35_Targets_any (va : Value) (cs : List Clm) (total t : Int) (w : World) (ha : ClmRow w va cs) : Calls Try.prog 18 #[va, .int .i64 total, .int .i64 t] w (RetInts w (targetsL cs total t) (goodT cs total t)) := by
  by_cases h : cs.length ≤ 8 ∧ 0 ≤ total ∧ total ≤ 96
  · cases ht : taxB t
    · have hno : goodT cs total t = false := by unfold goodT; rw [ht, Bool.and_false, Bool.false_and, Bool.false_and]
      have e1 : targetsL cs total t = [] := by unfold targetsL; rw [hno, if_neg (by simp)]
      rw [hno, e1]
      exact rtargets_notax va cs total t w ha h ht
    · exact rtargets_in va cs total t w ha h ht
  · have hno : goodT cs total t = false := by unfold goodT; rw [decide_eq_false h, Bool.false_and, Bool.false_and, Bool.false_and]
    have e1 : targetsL cs total t = [] := by unfold targetsL; rw [hno, if_neg (by simp)]
    rw [hno, e1]
    exact rtargets_out va cs total t w ha h
end Go.Proofs.Ytclnjjppcdgkiaa
