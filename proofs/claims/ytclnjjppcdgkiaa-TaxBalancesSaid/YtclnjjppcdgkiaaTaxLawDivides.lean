/-
  The law on the division: targets are from Reserve to Limit, and everything is given away unless all limits are reached; walked.
-/
import Derived.Test.YtclnjjppcdgkiaaTaxPlain2
import Derived.Test.YtclnjjppcdgkiaaTaxLawVictim
namespace Go.Proofs.Ytclnjjppcdgkiaa
open Go.RowKit

theorem sum_lims_take {cs : List Clm} {k : Nat} {c : Clm} (h : cs[k]? = some c) : sumI (lims (cs.take (k + 1))) = sumI (lims (cs.take k)) + c.l := by
  rw [List.take_add_one, h]
  unfold lims
  rw [List.map_append, sumI_append]
  simp [sumI]
theorem sum_ints_take {fr : List Int} {k : Nat} {x : Int} (h : fr[k]? = some x) : sumI (fr.take (k + 1)) = sumI (fr.take k) + x := by
  rw [List.take_add_one, h, sumI_append]
  simp [sumI]
theorem divides_out (ao : Option Addr) (len cap : Nat) (total t : Int) (w : World) (h : 8 < len) (hl : len ≤ 9223372036854775807) : Calls Try.prog 5 #[.slice ao len cap, .int .i64 total, .int .i64 t] w (Ret w (.bool true)) := by
  go_enter Try.func5, Try.ntmps5
  go_wp2_with fail
  refine (awake_any _).mono ?_
  rintro e w1 ⟨rfl, hb1⟩
  obtain ⟨hc1, hf1⟩ := bcell hb1
  have hz1 := bsize hb1
  try simp only [sizes1] at hz1
  try simp only [sizes] at hc1 hf1
  go_wp2_with fail
  go_ret
  exact Ret.mk (by repeat (first | with_reducible exact Below.refl _ _ | with_reducible refine Below.drew ?_ | (with_reducible refine Below.alloc ?_ (by first | exact Nat.le_refl _ | omega | (simp only [sizes]; omega)) _) | (with_reducible refine Below.setCell ?_ (by first | exact Nat.le_refl _ | omega | (simp only [sizes]; omega)) _) | (refine Below.trans ?_ (Below.mono (by with_reducible assumption) (by first | exact Nat.le_refl _ | omega | (simp only [sizes]; omega))))))

set_option maxHeartbeats 4000000 in
theorem divides_in (va : Value) (xs : List Int) (T X : Int) (w : World) (ha : IntRow w va xs) (h : xs.length ≤ 8) (hT : -9223372036854775808 ≤ T ∧ T ≤ 9223372036854775807) (hX : -9223372036854775808 ≤ X ∧ X ≤ 9223372036854775807) :
    Calls Try.prog 5 #[va, .int .i64 T, .int .i64 X] w (Ret w (.bool true)) := by
  have hrow := ha
  obtain ⟨ao, ca, rfl, a1, a2, a3⟩ := ha.out
  unfold maxLen at a2
  obtain ⟨n, hn⟩ : ∃ n, xs.length = n := ⟨_, rfl⟩
  rw [hn] at h hrow a1 ⊢
  clear ha a3
  obtain ⟨cs, hcs⟩ : ∃ cs, claimL xs = cs := ⟨_, rfl⟩
  have hv := claimL_allV xs
  have hlen : cs.length = n := by rw [← hcs, ← hn]; simp [claimL]
  rw [hcs] at hv
  have htx := tax_mod X
  obtain ⟨t, hu⟩ : ∃ t, X % 100 = t := ⟨_, rfl⟩
  obtain ⟨total, hto⟩ : ∃ total, T % 97 = total := ⟨_, rfl⟩
  have htb : 0 ≤ total ∧ total ≤ 96 := by omega
  rw [hu] at htx
  obtain ⟨L1, L2, L3⟩ := divides_law (cs := cs) (total := total) (t := t) (by omega) hv htb.1 htb.2 htx
  have HL1 := Lib.hid L1; clear L1
  have HL2 := Lib.hid L2; clear L2
  have HL3 := Lib.hid L3; clear L3
  have HU := Lib.hid hu; clear hu
  have HT := Lib.hid hto; clear hto
  clear htx
  have HV := Lib.hid hv; clear hv
  have HN := Lib.hid hn; clear hn
  have HCS := Lib.hid hcs; clear hcs
  have HLEN := Lib.hid hlen; clear hlen
  have HROW := Lib.hid hrow; clear hrow
  go_enter Try.func5, Try.ntmps5
  go_wp2_with fail
  refine (claims_any _ xs _ HROW.out (by rw [HN.out]; omega)).mono ?_
  rw [HCS.out]
  rintro e w1 ⟨v1, rfl, hr1, hb1⟩
  have hz1 := bsize hb1
  have hr1' := hr1
  obtain ⟨ao1, ca1, rfl, c1, c2, c3⟩ := hr1.out
  rw [HLEN.out] at c1 c3 hr1' ⊢
  clear hr1
  unfold maxLen at c2
  have HR1 := Lib.hid hr1'; clear hr1'
  go_wp2_with fail
  refine (round_any _ _ _ hT (by omega) (by omega)).mono ?_
  rw [HT.out]
  rintro e w2 ⟨rfl, hb2⟩
  obtain ⟨hc2, hf2⟩ := bcell hb2
  have hz2 := bsize hb2
  try simp only [sizes1] at hz2
  try simp only [sizes] at hc2 hf2
  go_wp2_with fail
  refine (round_any _ _ _ hX (by omega) (by omega)).mono ?_
  rw [HU.out]
  rintro e w3 ⟨rfl, hb3⟩
  obtain ⟨hc3, hf3⟩ := bcell hb3
  have hz3 := bsize hb3
  try simp only [sizes1] at hz3
  try simp only [sizes] at hc3 hf3
  go_wp2_with fail
  refine (idletax_Targets_any _ cs _ _ _ ((HR1.out.below' hb2).below' hb3)).mono ?_
  rintro e w4 ⟨v4, rfl, hr4, hb4⟩
  have hz4 := bsize hb4
  clear hc2 hf2 hc3 hf3
  have hb14 : Below w1.heap.size w1 w4 := (by repeat (first | with_reducible exact Below.refl _ _ | with_reducible refine Below.drew ?_ | (with_reducible refine Below.alloc ?_ (by first | exact Nat.le_refl _ | omega | (simp only [sizes]; omega)) _) | (with_reducible refine Below.setCell ?_ (by first | exact Nat.le_refl _ | omega | (simp only [sizes]; omega)) _) | (refine Below.trans ?_ (Below.mono (by with_reducible assumption) (by first | exact Nat.le_refl _ | omega | (simp only [sizes]; omega))))))
  clear hb2 hb3 hb4
  obtain ⟨ok, hok⟩ : ∃ ok, goodT cs total t = ok := ⟨_, rfl⟩
  obtain ⟨fr, hfr⟩ : ∃ fr, targetsL cs total t = fr := ⟨_, rfl⟩
  rw [hfr] at hr4
  rw [hok]
  have HOK := Lib.hid hok; clear hok
  have HFR := Lib.hid hfr; clear hfr
  obtain ⟨ao4, ca4, rfl, e1, e2, e3⟩ := hr4.out
  unfold maxLen at e2
  clear hr4
  obtain ⟨q, hq⟩ : ∃ q, fr.length = q := ⟨_, rfl⟩
  rw [hq] at e1 e3 ⊢
  have HQ := Lib.hid hq; clear hq
  go_wp2_with fail
  go_loopw [10, 11, 13] (fun a b i wr => ∃ k : Nat, k ≤ n ∧ i = .int .i64 k ∧ (∃ ra lb : Int, a = .int .i64 ra ∧ b = .int .i64 lb ∧ Hid (ra = sumI (resv (cs.take k))) ∧ Hid (lb = sumI (lims (cs.take k))) ∧ 0 ≤ ra ∧ 0 ≤ lb ∧ ra ≤ 96 * k ∧ lb ≤ 96 * k) ∧ w4 = wr) (fun _ _ i _ => n - (intOf i).toNat)
  case atStart => exact ⟨0, Nat.zero_le _, rfl, ⟨0, 0, rfl, rfl, by unfold Hid; simp [resv, sumI], by unfold Hid; simp [lims, sumI], by omega, by omega, by omega, by omega⟩, rfl⟩
  case round =>
    obtain ⟨k, hk, rfl, ⟨ra, lb, rfl, rfl, HRA, HLB, r0, l0, r1, l1⟩, rfl⟩ := hrel
    by_cases hlt : k < n
    · obtain ⟨⟨r, l, s, p, a⟩, hx⟩ := get_lt (xs := cs) (k := k) (by rw [HLEN.out]; exact hlt)
      have hvk := (validB_iff _).1 (allV_at HV.out hx)
      dsimp only at hvk
      obtain ⟨b, off, rfl, hbs, hbc⟩ := c3.resolve_left (by omega)
      obtain ⟨d0', d1', d2', d3', d4'⟩ := hbc k _ hx
      dsimp only at d0' d1' d2' d3' d4'
      have d0 := (hb14.cell (p := ⟨b, off + k * 5, none⟩) hbs).trans d0'
      have d1 := (hb14.cell (p := ⟨b, off + k * 5 + 1, none⟩) hbs).trans d1'
      have d2 := (hb14.cell (p := ⟨b, off + k * 5 + 2, none⟩) hbs).trans d2'
      have d3 := (hb14.cell (p := ⟨b, off + k * 5 + 3, none⟩) hbs).trans d3'
      have d4 := (hb14.cell (p := ⟨b, off + k * 5 + 4, none⟩) hbs).trans d4'
      clear d0' d1' d2' d3' d4'
      have HX := Lib.hid hx; clear hx c3
      go_wp2_with fail
      go_roundw
      case rel => exact ⟨k + 1, by omega, by go_num, ⟨ra + r, lb + l, rfl, rfl, by unfold Hid; rw [sum_take HX.out, HRA.out], by unfold Hid; rw [sum_lims_take HX.out, HLB.out], by omega, by omega, by omega, by omega⟩, by first | rfl | trivial⟩
      case measure => simp [intOf]; omega
    · obtain rfl : k = n := by omega
      have hall : cs.take k = cs := by rw [← HLEN.out]; exact List.take_length
      rw [hall] at HRA HLB
      clear hall
      have hok2 : decide (ra ≤ total) = ok := by rw [HRA.out, ← HL1.out, HOK.out]
      cases ok
      · have hgt : total < ra := by have := of_decide_eq_false hok2; omega
        clear hok2
        have hq0 : q = 0 := by rw [← HQ.out, ← HFR.out, HL2.out HOK.out]; rfl
        subst hq0
        go_wp2_with fail
        refine (awake_any _).mono ?_
        rintro e w5 ⟨rfl, hb5⟩
        obtain ⟨hc5, hf5⟩ := bcell hb5
        have hz5 := bsize hb5
        try simp only [sizes1] at hz5
        try simp only [sizes] at hc5 hf5
        go_wp2_with fail
        go_ret
        exact Ret.mk (by repeat (first | with_reducible exact Below.refl _ _ | with_reducible refine Below.drew ?_ | (with_reducible refine Below.alloc ?_ (by first | exact Nat.le_refl _ | omega | (simp only [sizes]; omega)) _) | (with_reducible refine Below.setCell ?_ (by first | exact Nat.le_refl _ | omega | (simp only [sizes]; omega)) _) | (refine Below.trans ?_ (Below.mono (by with_reducible assumption) (by first | exact Nat.le_refl _ | omega | (simp only [sizes]; omega))))))
      · have hgt : ra ≤ total := of_decide_eq_true hok2
        clear hok2
        obtain ⟨hin, hsum⟩ := HL3.out HOK.out
        rw [HFR.out] at hin hsum
        obtain rfl : q = k := by rw [← HQ.out, hin.1, HLEN.out]
        have HIN := Lib.hid hin; clear hin
        have HSUM := Lib.hid hsum; clear hsum
        have hne : ((q : Int) != q) = false := by simp
        go_wp2_with fail
        go_loopw [12, 14] (fun a i wr => ∃ k : Nat, k ≤ q ∧ i = .int .i64 k ∧ (∃ s : Int, a = .int .i64 s ∧ Hid (s = sumI (fr.take k)) ∧ 0 ≤ s ∧ s ≤ 96 * k) ∧ Below w4.heap.size w4 wr) (fun _ i _ => q - (intOf i).toNat)
        case atStart => exact ⟨0, Nat.zero_le _, rfl, ⟨0, rfl, by unfold Hid; simp [sumI], by omega, by omega⟩, Below.refl _ _⟩
        case round =>
          obtain ⟨k, hk, rfl, ⟨s0, rfl, HS, s1, s2⟩, hbw⟩ := hrel
          have hb1r : Below w1.heap.size w1 wr := hb14.trans (hbw.mono hb14.size)
          have hbs0 := hb1r.size
          have hbs4 := hbw.size
          by_cases hlt : k < q
          · obtain ⟨⟨r, l, s, p, a⟩, hx⟩ := get_lt (xs := cs) (k := k) (by rw [HLEN.out]; exact hlt)
            obtain ⟨f, hy⟩ := get_lt (xs := fr) (k := k) (by rw [HQ.out]; exact hlt)
            have hvk := (validB_iff _).1 (allV_at HV.out hx)
            have hrl := HIN.out.2 k _ f hx hy
            dsimp only at hvk hrl
            obtain ⟨b, off, rfl, hbs, hbc⟩ := c3.resolve_left (by omega)
            obtain ⟨b', off', rfl, hbs', hbc'⟩ := e3.resolve_left (by omega)
            obtain ⟨d0', d1', d2', d3', d4'⟩ := hbc k _ hx
            dsimp only at d0' d1' d2' d3' d4'
            have d0 := (hb1r.cell (p := ⟨b, off + k * 5, none⟩) hbs).trans d0'
            have d1 := (hb1r.cell (p := ⟨b, off + k * 5 + 1, none⟩) hbs).trans d1'
            have d2 := (hb1r.cell (p := ⟨b, off + k * 5 + 2, none⟩) hbs).trans d2'
            have d3 := (hb1r.cell (p := ⟨b, off + k * 5 + 3, none⟩) hbs).trans d3'
            have d4 := (hb1r.cell (p := ⟨b, off + k * 5 + 4, none⟩) hbs).trans d4'
            clear d0' d1' d2' d3' d4'
            have g0 := (hbw.cell (p := ⟨b', off' + k, none⟩) hbs').trans (hbc' k f hy)
            have HX := Lib.hid hx; clear hx c3
            have HY := Lib.hid hy; clear hy e3
            have hb1s : b < wr.heap.size := by omega
            have hb2s : b' < wr.heap.size := by omega
            have hd1 : decide (f < r) = false := decide_eq_false (by omega)
            have hd2 : decide (l < f) = false := decide_eq_false (by omega)
            go_wp2_with fail
            refine wp_region_quiet_below (by kernel_rfl) (by kernel_rfl) ?_
            repeat (go_big_quiet_step (first | fail | fail))
            refine wpQuiet_nil ?_
            intro w5 hw5
            have hb5 := below_of_regrown hw5
            clear hw5
            obtain ⟨hc5, hf5⟩ := bcell hb5
            have hz5 := bsize hb5
            try simp only [sizes1] at hz5
            try simp only [sizes] at hc5 hf5
            have hb2t : b' < w5.heap.size := by omega
            go_wp2_with fail
            go_roundw
            case rel => exact ⟨k + 1, by omega, by go_num, ⟨s0 + f, rfl, by unfold Hid; rw [sum_ints_take HY.out, HS.out], by omega, by omega⟩, hbw.trans (hb5.mono hbs4)⟩
            case measure => simp [intOf]; omega
          · obtain rfl : k = q := by omega
            have hall : fr.take k = fr := by rw [← HQ.out]; exact List.take_length
            rw [hall] at HS
            clear hall
            have hs : s0 = min total lb := by rw [HS.out, HSUM.out, HLB.out]
            have hbwr : Below w.heap.size w wr := hb1.trans (hb1r.mono hb1.size)
            clear hb14 hbw hb1r
            by_cases hmin : total ≤ lb
            · obtain rfl : s0 = total := by omega
              clear hs
              go_wp2_with fail
              refine (awake_any _).mono ?_
              rintro e w6 ⟨rfl, hb6⟩
              go_wp2_with fail
              go_ret
              exact Ret.mk (hbwr.trans (hb6.mono hbwr.size))
            · obtain rfl : s0 = lb := by omega
              clear hs
              go_wp2_with fail
              refine (awake_any _).mono ?_
              rintro e w6 ⟨rfl, hb6⟩
              go_wp2_with fail
              go_ret
              exact Ret.mk (hbwr.trans (hb6.mono hbwr.size))
end Go.Proofs.Ytclnjjppcdgkiaa
