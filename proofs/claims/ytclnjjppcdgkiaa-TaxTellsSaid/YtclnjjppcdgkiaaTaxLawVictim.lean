/-
  PROVED: 'TaxVictimSaid': for every list of numbers and every tax, TaxVictim hands back true and leaves all memory as it was. Conditions: none.
-/
import Derived.Test.YtclnjjppcdgkiaaTaxPlain
import Derived.Test.YtclnjjppcdgkiaaTaxAwake
import Derived.Test.YtclnjjppcdgkiaaLaw
namespace Go.Proofs.Ytclnjjppcdgkiaa
open Go.ChangeShapes Go.WideShapes Go.ChangeAt Go.RowKit

theorem claimL_allV (xs : List Int) : allV (claimL xs) = true := by
  unfold allV claimL
  rw [List.all_map, List.all_eq_true]
  intro x _
  rw [Function.comp_apply]
  exact claimI_valid x
theorem tax_mod (t : Int) : taxB (t % 100) = true := by rw [taxB_iff]; omega

theorem victim_law_out (ao : Option Addr) (len cap : Nat) (t : Int) (w : World) (h : 8 < len) (hl : len ≤ 9223372036854775807) : Calls Try.prog 7 #[.slice ao len cap, .int .i64 t] w (Ret w (.bool true)) := by
  go_enter Try.func7, Try.ntmps7
  go_wp2_with fail
  refine (awake_any _).mono ?_
  rintro e w1 ⟨rfl, hb1⟩
  obtain ⟨hc1, hf1⟩ := bcell hb1
  have hz1 := bsize hb1
  try simp only [sizes1] at hz1
  try simp only [sizes] at hc1 hf1
  go_wp2_with fail
  go_ret
  exact Ret.mk (by repeat (first | with_reducible exact Below.refl _ _ | with_reducible refine Below.drew ?_ | (with_reducible refine Below.alloc ?_ (by first | exact Nat.le_refl _ | omega | (simp only [sizes]; omega)) _) | (with_reducible refine Below.setCell ?_ (by first | exact Nat.le_refl _ | omega | (simp only [sizes]; omega)) _) | (refine Below.trans ?_ (Below.mono (by with_reducible assumption) (by first | exact Nat.le_refl _ | omega | (simp only [sizes]; omega))))))

set_option maxHeartbeats 4000000 in
theorem victim_law_in (va : Value) (xs : List Int) (t : Int) (w : World) (ha : IntRow w va xs) (h : xs.length ≤ 8) (ht : -9223372036854775808 ≤ t ∧ t ≤ 9223372036854775807) : Calls Try.prog 7 #[va, .int .i64 t] w (Ret w (.bool true)) := by
  have hrow := ha
  obtain ⟨ao, ca, rfl, a1, a2, a3⟩ := ha.out
  unfold maxLen at a2
  obtain ⟨n, hn⟩ : ∃ n, xs.length = n := ⟨_, rfl⟩
  rw [hn] at h hrow a1 ⊢
  clear ha a3
  obtain ⟨cs, hcs⟩ : ∃ cs, claimL xs = cs := ⟨_, rfl⟩
  have hv := claimL_allV xs
  have hlen : cs.length = n := by rw [← hcs, ← hn]; simp [claimL]
  have htx := tax_mod t
  obtain ⟨u, hu⟩ : ∃ u, t % 100 = u := ⟨_, rfl⟩
  have hub : 0 ≤ u ∧ u ≤ 99 := by omega
  rw [hcs] at hv
  rw [hu] at htx
  obtain ⟨L1, L2⟩ := vic_law hv htx
  obtain ⟨⟨vi, ok⟩, hvr⟩ : ∃ q, victimR cs u = q := ⟨_, rfl⟩
  rw [hvr] at L1 L2
  dsimp only at L1 L2
  have HV := Lib.hid hvr; clear hvr
  have HL1 := Lib.hid L1; clear L1
  have HL2 := Lib.hid L2; clear L2
  have HN := Lib.hid hn; clear hn
  have HCS := Lib.hid hcs; clear hcs
  have HLEN := Lib.hid hlen; clear hlen
  have HU := Lib.hid hu; clear hu
  have HROW := Lib.hid hrow; clear hrow hv htx
  go_enter Try.func7, Try.ntmps7
  go_wp2_with fail
  refine (claims_any _ xs _ HROW.out (by rw [HN.out]; omega)).mono ?_
  rw [HCS.out]
  rintro e w1 ⟨v1, rfl, hr1, hb1⟩
  have hz1 := bsize hb1
  have hr1' := hr1
  obtain ⟨ao1, ca1, rfl, c1, c2, c3⟩ := hr1.out
  rw [HLEN.out] at c1 c3 hr1' ⊢
  clear hr1
  unfold maxLen at c2
  have HR1 := Lib.hid hr1'; clear hr1'
  go_wp2_with fail
  refine (round_any _ _ _ ht (by omega) (by omega)).mono ?_
  rw [HU.out]
  rintro e w2 ⟨rfl, hb2⟩
  obtain ⟨hc2, hf2⟩ := bcell hb2
  have hz2 := bsize hb2
  try simp only [sizes1] at hz2
  try simp only [sizes] at hc2 hf2
  go_wp2_with fail
  refine (idletax_Victim_any _ cs _ _ (HR1.out.below' hb2)).mono ?_
  rw [HV.out]
  rintro e w3 ⟨rfl, hb3⟩
  obtain ⟨hc3, hf3⟩ := bcell hb3
  have hz3 := bsize hb3
  try simp only [sizes1] at hz3
  try simp only [sizes] at hc3 hf3
  clear hc2 hf2 hc3 hf3
  have hb13 : Below w1.heap.size w1 w3 := (by repeat (first | with_reducible exact Below.refl _ _ | with_reducible refine Below.drew ?_ | (with_reducible refine Below.alloc ?_ (by first | exact Nat.le_refl _ | omega | (simp only [sizes]; omega)) _) | (with_reducible refine Below.setCell ?_ (by first | exact Nat.le_refl _ | omega | (simp only [sizes]; omega)) _) | (refine Below.trans ?_ (Below.mono (by with_reducible assumption) (by first | exact Nat.le_refl _ | omega | (simp only [sizes]; omega))))))
  go_wp2_with fail
  go_loopw [8, 9] (fun rich i wr => ∃ k : Nat, k ≤ n ∧ i = .int .i64 k ∧ (∃ rb : Bool, rich = .bool rb ∧ Hid (rb = true ↔ ∃ (j : Nat) (c : Clm), j < k ∧ cs[j]? = some c ∧ c.r < c.p)) ∧ Below w1.heap.size w1 wr) (fun _ i _ => n - (intOf i).toNat)
  case atStart => exact ⟨0, Nat.zero_le _, rfl, ⟨false, rfl, by unfold Hid; simp⟩, hb13⟩
  case round =>
    obtain ⟨k, hk, rfl, ⟨rb, rfl, HRB⟩, hbw1⟩ := hrel
    clear hb2 hb3 hb13
    have hbs1 := hbw1.size
    by_cases hlt : k < n
    · obtain ⟨⟨r, l, s, p, a⟩, hx⟩ := get_lt (xs := cs) (k := k) (by rw [HLEN.out]; exact hlt)
      obtain ⟨b, off, rfl, hbs, hbc⟩ := c3.resolve_left (by omega)
      obtain ⟨d0', d1', d2', d3', d4'⟩ := hbc k _ hx
      dsimp only at d0' d1' d2' d3' d4'
      have d0 := (hbw1.cell (p := ⟨b, off + k * 5, none⟩) hbs).trans d0'
      have d1 := (hbw1.cell (p := ⟨b, off + k * 5 + 1, none⟩) hbs).trans d1'
      have d2 := (hbw1.cell (p := ⟨b, off + k * 5 + 2, none⟩) hbs).trans d2'
      have d3 := (hbw1.cell (p := ⟨b, off + k * 5 + 3, none⟩) hbs).trans d3'
      have d4 := (hbw1.cell (p := ⟨b, off + k * 5 + 4, none⟩) hbs).trans d4'
      clear d0' d1' d2' d3' d4'
      have HX := Lib.hid hx; clear hx c3
      have hbsz : b < wr.heap.size := by omega
      by_cases hp : r < p
      · have hple : decide (p ≤ r) = false := decide_eq_false (by omega)
        obtain ⟨hok, j, ⟨r', l', s', p', a'⟩, hvj, hjl, hdj, hpo⟩ := HL2.out k _ HX.out hp
        subst hok
        subst hvj
        rw [HLEN.out] at hjl
        obtain ⟨e0', e1', e2', e3', e4'⟩ := hbc j _ hdj
        dsimp only at e0' e1' e2' e3' e4'
        have e0 := (hbw1.cell (p := ⟨b, off + j * 5, none⟩) hbs).trans e0'
        have e1 := (hbw1.cell (p := ⟨b, off + j * 5 + 1, none⟩) hbs).trans e1'
        have e2 := (hbw1.cell (p := ⟨b, off + j * 5 + 2, none⟩) hbs).trans e2'
        have e3 := (hbw1.cell (p := ⟨b, off + j * 5 + 3, none⟩) hbs).trans e3'
        have e4 := (hbw1.cell (p := ⟨b, off + j * 5 + 4, none⟩) hbs).trans e4'
        clear e0' e1' e2' e3' e4'
        have hj0 : decide ((j : Int) < 0) = false := decide_eq_false (by omega)
        have hj1 : decide ((n : Int) ≤ j) = false := decide_eq_false (by omega)
        have hj2 : decide (n ≤ j) = false := decide_eq_false (by omega)
        have HP := Lib.hid hpo; clear hpo
        go_wp2_with fail
        refine wp_region_quiet_below (by kernel_rfl) (by kernel_rfl) ?_
        repeat (go_big_quiet_step (first | fail | fail))
        refine wpQuiet_nil ?_
        intro w4 hw4
        have hb4 := below_of_regrown hw4
        clear hw4
        obtain ⟨hc4, hf4⟩ := bcell hb4
        have hz4 := bsize hb4
        try simp only [sizes1] at hz4
        try simp only [sizes] at hc4 hf4
        have hbsz4 : b < w4.heap.size := by omega
        go_wp2_with fail
        refine wp_region_quiet_below (by kernel_rfl) (by kernel_rfl) ?_
        repeat (go_big_quiet_step (first | fail | (go_at_call 23; exact quiet_ret (poor_is HP.out _))))
        refine wpQuiet_nil ?_
        intro w5 hw5
        have hb5 := below_of_regrown hw5
        clear hw5
        obtain ⟨hc5, hf5⟩ := bcell hb5
        have hz5 := bsize hb5
        try simp only [sizes1] at hz5
        try simp only [sizes] at hc5 hf5
        go_wp2_with fail
        go_roundw
        case rel => exact ⟨k + 1, by omega, by go_num, ⟨true, rfl, ⟨fun _ => ⟨k, _, by omega, HX.out, hp⟩, fun _ => rfl⟩⟩, (by repeat (first | with_reducible exact Below.refl _ _ | with_reducible refine Below.drew ?_ | (with_reducible refine Below.alloc ?_ (by first | exact Nat.le_refl _ | omega | (simp only [sizes]; omega)) _) | (with_reducible refine Below.setCell ?_ (by first | exact Nat.le_refl _ | omega | (simp only [sizes]; omega)) _) | (refine Below.trans ?_ (Below.mono (by with_reducible assumption) (by first | exact Nat.le_refl _ | omega | (simp only [sizes]; omega))))))⟩
        case measure => simp [intOf]; omega
      · have hple : decide (p ≤ r) = true := decide_eq_true (by omega)
        go_wp2_with fail
        refine wp_region_quiet_below (by kernel_rfl) (by kernel_rfl) ?_
        repeat (go_big_quiet_step (first | fail | fail))
        refine wpQuiet_nil ?_
        intro w4 hw4
        have hb4 := below_of_regrown hw4
        clear hw4
        obtain ⟨hc4, hf4⟩ := bcell hb4
        have hz4 := bsize hb4
        try simp only [sizes1] at hz4
        try simp only [sizes] at hc4 hf4
        go_wp2_with fail
        go_roundw
        case rel =>
          refine ⟨k + 1, by omega, by go_num, ⟨rb, rfl, ⟨fun h => ?_, fun h => ?_⟩⟩, (by repeat (first | with_reducible exact Below.refl _ _ | with_reducible refine Below.drew ?_ | (with_reducible refine Below.alloc ?_ (by first | exact Nat.le_refl _ | omega | (simp only [sizes]; omega)) _) | (with_reducible refine Below.setCell ?_ (by first | exact Nat.le_refl _ | omega | (simp only [sizes]; omega)) _) | (refine Below.trans ?_ (Below.mono (by with_reducible assumption) (by first | exact Nat.le_refl _ | omega | (simp only [sizes]; omega))))))⟩
          · obtain ⟨j, c, h1, h2⟩ := HRB.out.1 h
            exact ⟨j, c, by omega, h2⟩
          · obtain ⟨j, c, h1, h2, h3⟩ := h
            refine HRB.out.2 ⟨j, c, ?_, h2, h3⟩
            by_cases e : j = k
            · subst e
              rw [HX.out] at h2
              cases h2
              exact absurd h3 (show ¬ r < p by omega)
            · omega
        case measure => simp [intOf]; omega
    · obtain rfl : k = n := by omega
      cases ok
      · have hrb : rb = false := by
          cases rb
          · rfl
          · obtain ⟨j, c, h1, h2, h3⟩ := HRB.out.1 rfl
            exact absurd (HL2.out j c h2 h3).1 (by simp)
        subst hrb
        go_wp2_with fail
        refine wp_region_quiet_below (by kernel_rfl) (by kernel_rfl) ?_
        repeat (go_big_quiet_step (first | fail | (go_at_call 12; exact quiet_ret (awake_any _))))
        refine wpQuiet_nil ?_
        intro w4 hw4
        have hb4 := below_of_regrown hw4
        clear hw4
        obtain ⟨hc4, hf4⟩ := bcell hb4
        have hz4 := bsize hb4
        try simp only [sizes1] at hz4
        try simp only [sizes] at hc4 hf4
        go_wp2_with fail
        go_ret
        exact Ret.mk (by repeat (first | with_reducible exact Below.refl _ _ | with_reducible refine Below.drew ?_ | (with_reducible refine Below.alloc ?_ (by first | exact Nat.le_refl _ | omega | (simp only [sizes]; omega)) _) | (with_reducible refine Below.setCell ?_ (by first | exact Nat.le_refl _ | omega | (simp only [sizes]; omega)) _) | (refine Below.trans ?_ (Below.mono (by with_reducible assumption) (by first | exact Nat.le_refl _ | omega | (simp only [sizes]; omega))))))
      · obtain ⟨j, ⟨r', l', s', p', a'⟩, hvj, hjl, hdj, hlt'⟩ := HL1.out rfl
        subst hvj
        rw [HLEN.out] at hjl
        obtain ⟨b, off, rfl, hbs, hbc⟩ := c3.resolve_left (by omega)
        obtain ⟨e0', e1', e2', e3', e4'⟩ := hbc j _ hdj
        dsimp only at e0' e1' e2' e3' e4'
        have e0 := (hbw1.cell (p := ⟨b, off + j * 5, none⟩) hbs).trans e0'
        have e1 := (hbw1.cell (p := ⟨b, off + j * 5 + 1, none⟩) hbs).trans e1'
        have e2 := (hbw1.cell (p := ⟨b, off + j * 5 + 2, none⟩) hbs).trans e2'
        have e3 := (hbw1.cell (p := ⟨b, off + j * 5 + 3, none⟩) hbs).trans e3'
        have e4 := (hbw1.cell (p := ⟨b, off + j * 5 + 4, none⟩) hbs).trans e4'
        clear e0' e1' e2' e3' e4'
        dsimp only at hlt'
        have hdc : decide (r' < p') = true := decide_eq_true hlt'
        have hbsz : b < wr.heap.size := by omega
        have hrb : rb = true := HRB.out.2 ⟨j, _, hjl, hdj, hlt'⟩
        subst hrb
        clear c3
        go_wp2_with fail
        refine wp_region_quiet_below (by kernel_rfl) (by kernel_rfl) ?_
        repeat (go_big_quiet_step (first | fail | (go_at_call 12; exact quiet_ret (awake_any _))))
        refine wpQuiet_nil ?_
        intro w4 hw4
        have hb4 := below_of_regrown hw4
        clear hw4
        obtain ⟨hc4, hf4⟩ := bcell hb4
        have hz4 := bsize hb4
        try simp only [sizes1] at hz4
        try simp only [sizes] at hc4 hf4
        go_wp2_with fail
        go_ret
        exact Ret.mk (by repeat (first | with_reducible exact Below.refl _ _ | with_reducible refine Below.drew ?_ | (with_reducible refine Below.alloc ?_ (by first | exact Nat.le_refl _ | omega | (simp only [sizes]; omega)) _) | (with_reducible refine Below.setCell ?_ (by first | exact Nat.le_refl _ | omega | (simp only [sizes]; omega)) _) | (refine Below.trans ?_ (Below.mono (by with_reducible assumption) (by first | exact Nat.le_refl _ | omega | (simp only [sizes]; omega))))))
end Go.Proofs.Ytclnjjppcdgkiaa
