/-
  The law on fairness, walked.
-/
import Derived.Test.YtclnjjppcdgkiaaTaxLawDivides
import Derived.RegionTactic
import Derived.BigRegion
namespace Go.Proofs.Ytclnjjppcdgkiaa
open Go.RowKit

theorem balances_out (ao : Option Addr) (len cap : Nat) (total t : Int) (w : World) (h : 8 < len) (hl : len ≤ 9223372036854775807) : Calls Try.prog 11 #[.slice ao len cap, .int .i64 total, .int .i64 t] w (Ret w (.bool true)) := by
  go_enter Try.func11, Try.ntmps11
  go_wp2_with fail
  refine (awake_any _).mono ?_
  rintro e w1 ⟨rfl, hb1⟩
  obtain ⟨hc1, hf1⟩ := bcell hb1
  have hz1 := bsize hb1
  try simp only [sizes1] at hz1
  try simp only [sizes] at hc1 hf1
  go_wp2_with fail
  go_ret
  exact Ret.mk (by repeat (first | with_reducible exact Below.refl _ _ | with_reducible refine Below.drew ?_ | (with_reducible refine Below.alloc ?_ (by first | exact Nat.le_refl _ | omega | (simp only [sizes]; omega)) _) | (with_reducible refine Below.setCell ?_ (by first | exact Nat.le_refl _ | omega | (simp only [sizes]; omega)) _) | (refine Below.trans ?_ (Below.mono (by with_reducible assumption) (by first | exact Nat.le_refl _ | omega | (simp only [sizes]; omega))))))

set_option maxRecDepth 100000 in
set_option maxHeartbeats 4000000 in
theorem balances_in (va : Value) (xs : List Int) (T X : Int) (w : World) (ha : IntRow w va xs) (h : xs.length ≤ 8) (hT : -9223372036854775808 ≤ T ∧ T ≤ 9223372036854775807) (hX : -9223372036854775808 ≤ X ∧ X ≤ 9223372036854775807) :
    Calls Try.prog 11 #[va, .int .i64 T, .int .i64 X] w (Ret w (.bool true)) := by
  have hrow := ha
  obtain ⟨ao, ca, rfl, a1, a2, a3⟩ := ha.out
  unfold maxLen at a2
  obtain ⟨n, hn⟩ : ∃ n, xs.length = n := ⟨_, rfl⟩
  rw [hn] at h hrow a1 ⊢
  clear ha a3
  obtain ⟨cs, hcs⟩ : ∃ cs, claimL xs = cs := ⟨_, rfl⟩
  have hv := claimL_allV xs
  have hlen : cs.length = n := by rw [← hcs, ← hn]; simp [claimL]
  rw [hcs] at hv
  have htx := tax_mod X
  obtain ⟨t, hu⟩ : ∃ t, X % 100 = t := ⟨_, rfl⟩
  obtain ⟨total, hto⟩ : ∃ total, T % 97 = total := ⟨_, rfl⟩
  have htb : 0 ≤ total ∧ total ≤ 96 := by omega
  rw [hu] at htx
  have L := fun hg => balances_law (cs := cs) (total := total) (t := t) hv hg
  have HL := Lib.hid L; clear L
  have HU := Lib.hid hu; clear hu
  have HT := Lib.hid hto; clear hto
  clear htx
  have HV := Lib.hid hv; clear hv
  have HN := Lib.hid hn; clear hn
  have HCS := Lib.hid hcs; clear hcs
  have HLEN := Lib.hid hlen; clear hlen
  have HROW := Lib.hid hrow; clear hrow
  go_enter Try.func11, Try.ntmps11
  go_wp2_with fail
  refine (claims_any _ xs _ HROW.out (by rw [HN.out]; omega)).mono ?_
  rw [HCS.out]
  rintro e w1 ⟨v1, rfl, hr1, hb1⟩
  have hz1 := bsize hb1
  have hr1' := hr1
  obtain ⟨ao1, ca1, rfl, c1, c2, c3⟩ := hr1.out
  rw [HLEN.out] at c1 c3 hr1' ⊢
  clear hr1
  unfold maxLen at c2
  have HR1 := Lib.hid hr1'; clear hr1'
  go_wp2_with fail
  refine (round_any _ _ _ hX (by omega) (by omega)).mono ?_
  rw [HU.out]
  rintro e w3 ⟨rfl, hb3⟩
  obtain ⟨hc3, hf3⟩ := bcell hb3
  have hz3 := bsize hb3
  try simp only [sizes1] at hz3
  try simp only [sizes] at hc3 hf3
  go_wp2_with fail
  refine (round_any _ _ _ hT (by omega) (by omega)).mono ?_
  rw [HT.out]
  rintro e w2 ⟨rfl, hb2⟩
  obtain ⟨hc2, hf2⟩ := bcell hb2
  have hz2 := bsize hb2
  try simp only [sizes1] at hz2
  try simp only [sizes] at hc2 hf2
  go_wp2_with fail
  refine (idletax_Targets_any _ cs _ _ _ ((HR1.out.below' hb3).below' hb2)).mono ?_
  rintro e w4 ⟨v4, rfl, hr4, hb4⟩
  have hz4 := bsize hb4
  clear hc2 hf2 hc3 hf3
  have hb14 : Below w1.heap.size w1 w4 := (by repeat (first | with_reducible exact Below.refl _ _ | with_reducible refine Below.drew ?_ | (with_reducible refine Below.alloc ?_ (by first | exact Nat.le_refl _ | omega | (simp only [sizes]; omega)) _) | (with_reducible refine Below.setCell ?_ (by first | exact Nat.le_refl _ | omega | (simp only [sizes]; omega)) _) | (refine Below.trans ?_ (Below.mono (by with_reducible assumption) (by first | exact Nat.le_refl _ | omega | (simp only [sizes]; omega))))))
  clear hb2 hb3 hb4
  obtain ⟨fr, hfr⟩ : ∃ fr, targetsL cs total t = fr := ⟨_, rfl⟩
  rw [hfr] at hr4
  have HFR := Lib.hid hfr; clear hfr
  obtain ⟨ao4, ca4, rfl, e1, e2, e3⟩ := hr4.out
  unfold maxLen at e2
  clear hr4
  cases hg : goodT cs total t
  · clear hg
    go_wp2_with fail
    refine (awake_any _).mono ?_
    rintro e w6 ⟨rfl, hb6⟩
    go_wp2_with fail
    go_ret
    exact Ret.mk (by repeat (first | with_reducible exact Below.refl _ _ | with_reducible refine Below.drew ?_ | (with_reducible refine Below.alloc ?_ (by first | exact Nat.le_refl _ | omega | (simp only [sizes]; omega)) _) | (with_reducible refine Below.setCell ?_ (by first | exact Nat.le_refl _ | omega | (simp only [sizes]; omega)) _) | (refine Below.trans ?_ (Below.mono (by with_reducible assumption) (by first | exact Nat.le_refl _ | omega | (simp only [sizes]; omega))))))
  · obtain ⟨hin, hbal⟩ := HL.out hg
    rw [HFR.out] at hin hbal
    rw [hin.1, HLEN.out] at e1 e3 ⊢
    have HIN := Lib.hid hin; clear hin
    have HBAL := Lib.hid hbal; clear hbal hg
    have hne : ((n : Int) != n) = false := by simp
    go_wp2_with fail
    go_loopw [10] (fun i wr => ∃ k : Nat, k ≤ n ∧ i = .int .i64 k ∧ Below w4.heap.size w4 wr) (fun i _ => n - (intOf i).toNat)
    case atStart => exact ⟨0, Nat.zero_le _, rfl, Below.refl _ _⟩
    case round =>
      obtain ⟨i, hi, rfl, hbw⟩ := hrel
      by_cases hlt : i < n
      · obtain ⟨wo, rfl⟩ : ∃ wo : World, wo = wr := ⟨_, rfl⟩
        have hwo := hbw
        go_wp2_with fail
        go_loopw [11] (fun q wq => ∃ k : Nat, k ≤ n ∧ q = .int .i64 k ∧ Below w4.heap.size w4 wq) (fun q _ => n - (intOf q).toNat)
        case atStart => exact ⟨0, Nat.zero_le _, rfl, hbw⟩
        case round =>
          obtain ⟨k, hk, rfl, hbq⟩ := hrel
          clear hbw
          have hb1r : Below w1.heap.size w1 wr := hb14.trans (hbq.mono hb14.size)
          have hbs0 := hb1r.size
          have hbs4 := hbq.size
          by_cases hlt2 : k < n
          · obtain ⟨⟨r, l, s, p, a⟩, hx⟩ := get_lt (xs := cs) (k := i) (by rw [HLEN.out]; exact hlt)
            obtain ⟨⟨r', l', s', p', a'⟩, hx'⟩ := get_lt (xs := cs) (k := k) (by rw [HLEN.out]; exact hlt2)
            obtain ⟨f, hy⟩ := get_lt (xs := fr) (k := i) (by rw [HIN.out.1, HLEN.out]; exact hlt)
            obtain ⟨f', hy'⟩ := get_lt (xs := fr) (k := k) (by rw [HIN.out.1, HLEN.out]; exact hlt2)
            have hfb := ((HIN.out.fine HV.out).2 i f hy)
            have hfb' := ((HIN.out.fine HV.out).2 k f' hy')
            obtain ⟨b, off, rfl, hbs, hbc⟩ := c3.resolve_left (by omega)
            obtain ⟨b4, off4, rfl, hbs4', hbc4⟩ := e3.resolve_left (by omega)
            obtain ⟨d0', d1', d2', d3', d4'⟩ := hbc i _ hx
            dsimp only at d0' d1' d2' d3' d4'
            have d0 := (hb1r.cell (p := ⟨b, off + i * 5, none⟩) hbs).trans d0'
            have d1 := (hb1r.cell (p := ⟨b, off + i * 5 + 1, none⟩) hbs).trans d1'
            have d2 := (hb1r.cell (p := ⟨b, off + i * 5 + 2, none⟩) hbs).trans d2'
            have d3 := (hb1r.cell (p := ⟨b, off + i * 5 + 3, none⟩) hbs).trans d3'
            have d4 := (hb1r.cell (p := ⟨b, off + i * 5 + 4, none⟩) hbs).trans d4'
            clear d0' d1' d2' d3' d4'
            obtain ⟨g0', g1', g2', g3', g4'⟩ := hbc k _ hx'
            dsimp only at g0' g1' g2' g3' g4'
            have g0 := (hb1r.cell (p := ⟨b, off + k * 5, none⟩) hbs).trans g0'
            have g1 := (hb1r.cell (p := ⟨b, off + k * 5 + 1, none⟩) hbs).trans g1'
            have g2 := (hb1r.cell (p := ⟨b, off + k * 5 + 2, none⟩) hbs).trans g2'
            have g3 := (hb1r.cell (p := ⟨b, off + k * 5 + 3, none⟩) hbs).trans g3'
            have g4 := (hb1r.cell (p := ⟨b, off + k * 5 + 4, none⟩) hbs).trans g4'
            clear g0' g1' g2' g3' g4'
            have x4 := (hbq.cell (p := ⟨b4, off4 + i, none⟩) hbs4').trans (hbc4 i f hy)
            have y4 := (hbq.cell (p := ⟨b4, off4 + k, none⟩) hbs4').trans (hbc4 k f' hy')
            have HX := Lib.hid hx; clear hx
            have HX' := Lib.hid hx'; clear hx'
            have HY := Lib.hid hy; clear hy
            have HY' := Lib.hid hy'; clear hy'
            clear c3 e3 hbc hbc4
            have s1 : b < wr.heap.size := by omega
            have s4 : b4 < wr.heap.size := by omega
            have s1' : b < wr.heap.size + 1 + 1 := by omega
            have s4' : b4 < wr.heap.size + 1 + 1 := by omega
            have s1n : b < wr.heap.size + 1 := by omega
            have s4n : b4 < wr.heap.size + 1 := by omega
            by_cases hik : i = k
            · subst hik
              have e1 : ((i : Int) != i) = false := by simp
              go_wp2_with fail
              go_region
              all_goals
                go_wp2_with fail
                go_region
                all_goals
                  go_wp2_with fail
                  refine wp_region_quiet_below (by kernel_rfl) (by kernel_rfl) ?_
                  repeat (go_big_quiet_step (first | fail | fail))
                  refine wpQuiet_nil ?_
                  intro w7 hw7
                  have hb7 := below_of_regrown hw7
                  clear hw7
                  obtain ⟨hc7, hf7⟩ := bcell hb7
                  have hz7 := bsize hb7
                  try simp only [sizes1] at hz7
                  try simp only [sizes] at hc7 hf7
                  go_wp2_with fail
                  go_roundw
                  case rel => exact ⟨i + 1, by omega, by go_num, hbq.trans ((show Below wr.heap.size wr w7 from (by repeat (first | with_reducible exact Below.refl _ _ | with_reducible refine Below.drew ?_ | (with_reducible refine Below.alloc ?_ (by first | exact Nat.le_refl _ | omega | (simp only [sizes]; omega)) _) | (with_reducible refine Below.setCell ?_ (by first | exact Nat.le_refl _ | omega | (simp only [sizes]; omega)) _) | (refine Below.trans ?_ (Below.mono (by with_reducible assumption) (by first | exact Nat.le_refl _ | omega | (simp only [sizes]; omega))))))).mono hbs4)⟩
                  case measure => simp [intOf]; omega
            · have e1 : ((i : Int) != k) = true := by rw [bne_iff_ne]; omega
              have e1' : (i != k) = true := by rw [bne_iff_ne]; omega
              have e1'' : ((i : Int) == k) = false := by rw [beq_eq_false_iff_ne]; omega
              have e1a : (i == k) = false := by rw [beq_eq_false_iff_ne]; omega
              have e1b : decide (i = k) = false := decide_eq_false hik
              have e1c : decide ((i : Int) = k) = false := decide_eq_false (by omega)
              have e1d : i ≠ k := hik
              by_cases hrf : r < f
              · have e2 : decide (r < f) = true := decide_eq_true hrf
                by_cases hfl : f' < l'
                · have e3' : decide (f' < l') = true := decide_eq_true hfl
                  have hpo := HBAL.out i k _ _ f f' hik HX.out HX'.out HY.out HY'.out hrf hfl
                  unfold priced at hpo
                  dsimp only at hpo
                  rw [show f - 1 + 1 = f from by omega] at hpo
                  have HP := Lib.hid hpo; clear hpo
                  go_wp2_with fail
                  go_region
                  all_goals
                    go_wp2_with fail
                    go_region
                    all_goals
                      go_wp2_with fail
                      refine wp_region_quiet_below (by kernel_rfl) (by kernel_rfl) ?_
                      repeat (go_big_quiet_step (first | fail | (go_at_call 23; exact quiet_ret (poor_is HP.out _))))
                      refine wpQuiet_nil ?_
                      intro w7 hw7
                      have hb7 := below_of_regrown hw7
                      clear hw7
                      obtain ⟨hc7, hf7⟩ := bcell hb7
                      have hz7 := bsize hb7
                      try simp only [sizes1] at hz7
                      try simp only [sizes] at hc7 hf7
                      go_wp2_with fail
                      go_roundw
                      case rel => exact ⟨k + 1, by omega, by go_num, hbq.trans ((show Below wr.heap.size wr w7 from (by repeat (first | with_reducible exact Below.refl _ _ | with_reducible refine Below.drew ?_ | (with_reducible refine Below.alloc ?_ (by first | exact Nat.le_refl _ | omega | (simp only [sizes]; omega)) _) | (with_reducible refine Below.setCell ?_ (by first | exact Nat.le_refl _ | omega | (simp only [sizes]; omega)) _) | (refine Below.trans ?_ (Below.mono (by with_reducible assumption) (by first | exact Nat.le_refl _ | omega | (simp only [sizes]; omega))))))).mono hbs4)⟩
                      case measure => simp [intOf]; omega
                · have e3' : decide (f' < l') = false := decide_eq_false hfl
                  go_wp2_with fail
                  go_region
                  all_goals
                    go_wp2_with fail
                    go_region
                    all_goals
                      go_wp2_with fail
                      refine wp_region_quiet_below (by kernel_rfl) (by kernel_rfl) ?_
                      repeat (go_big_quiet_step (first | fail | fail))
                      refine wpQuiet_nil ?_
                      intro w7 hw7
                      have hb7 := below_of_regrown hw7
                      clear hw7
                      obtain ⟨hc7, hf7⟩ := bcell hb7
                      have hz7 := bsize hb7
                      try simp only [sizes1] at hz7
                      try simp only [sizes] at hc7 hf7
                      go_wp2_with fail
                      go_roundw
                      case rel => exact ⟨k + 1, by omega, by go_num, hbq.trans ((show Below wr.heap.size wr w7 from (by repeat (first | with_reducible exact Below.refl _ _ | with_reducible refine Below.drew ?_ | (with_reducible refine Below.alloc ?_ (by first | exact Nat.le_refl _ | omega | (simp only [sizes]; omega)) _) | (with_reducible refine Below.setCell ?_ (by first | exact Nat.le_refl _ | omega | (simp only [sizes]; omega)) _) | (refine Below.trans ?_ (Below.mono (by with_reducible assumption) (by first | exact Nat.le_refl _ | omega | (simp only [sizes]; omega))))))).mono hbs4)⟩
                      case measure => simp [intOf]; omega
              · have e2 : decide (r < f) = false := decide_eq_false hrf
                go_wp2_with fail
                go_region
                all_goals
                  go_wp2_with fail
                  go_region
                  all_goals
                    go_wp2_with fail
                    refine wp_region_quiet_below (by kernel_rfl) (by kernel_rfl) ?_
                    repeat (go_big_quiet_step (first | fail | fail))
                    refine wpQuiet_nil ?_
                    intro w7 hw7
                    have hb7 := below_of_regrown hw7
                    clear hw7
                    obtain ⟨hc7, hf7⟩ := bcell hb7
                    have hz7 := bsize hb7
                    try simp only [sizes1] at hz7
                    try simp only [sizes] at hc7 hf7
                    go_wp2_with fail
                    go_roundw
                    case rel => exact ⟨k + 1, by omega, by go_num, hbq.trans ((show Below wr.heap.size wr w7 from (by repeat (first | with_reducible exact Below.refl _ _ | with_reducible refine Below.drew ?_ | (with_reducible refine Below.alloc ?_ (by first | exact Nat.le_refl _ | omega | (simp only [sizes]; omega)) _) | (with_reducible refine Below.setCell ?_ (by first | exact Nat.le_refl _ | omega | (simp only [sizes]; omega)) _) | (refine Below.trans ?_ (Below.mono (by with_reducible assumption) (by first | exact Nat.le_refl _ | omega | (simp only [sizes]; omega))))))).mono hbs4)⟩
                    case measure => simp [intOf]; omega
          · obtain rfl : k = n := by omega
            go_wp2_with fail
            go_roundw
            case rel => exact ⟨i + 1, by omega, by go_num, hbq⟩
            case measure => simp [intOf]; omega
      · obtain rfl : i = n := by omega
        have hb1r : Below w1.heap.size w1 wr := hb14.trans (hbw.mono hb14.size)
        have hbwr : Below w.heap.size w wr := hb1.trans (hb1r.mono hb1.size)
        clear hb1r hb14 hbw
        go_wp2_with fail
        refine (awake_any _).mono ?_
        rintro e w6 ⟨rfl, hb6⟩
        go_wp2_with fail
        go_ret
        exact Ret.mk (hbwr.trans (hb6.mono hbwr.size))
end Go.Proofs.Ytclnjjppcdgkiaa
