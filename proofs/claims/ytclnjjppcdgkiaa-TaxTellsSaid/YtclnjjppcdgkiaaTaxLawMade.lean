/-
  The law on the reference at valid claims, walked.
-/
import Derived.Test.YtclnjjppcdgkiaaTaxRefTargets
import Derived.Test.YtclnjjppcdgkiaaTaxLawVictim
namespace Go.Proofs.Ytclnjjppcdgkiaa
open Go.RowKit

theorem sameInts_self (va vb : Value) (xs : List Int) (w : World) (ha : IntRow w va xs) (hb : IntRow w vb xs) : Calls Try.prog 25 #[va, vb] w (Ret w (.bool true)) := by
  have := sameInts_any va vb xs xs w ha hb
  rwa [decide_eq_true rfl] at this

theorem made_out (ao : Option Addr) (len cap : Nat) (total t : Int) (w : World) (h : 8 < len) (hl : len ≤ 9223372036854775807) : Calls Try.prog 4 #[.slice ao len cap, .int .i64 total, .int .i64 t] w (Ret w (.bool true)) := by
  go_enter Try.func4, Try.ntmps4
  go_wp2_with fail
  refine (awake_any _).mono ?_
  rintro e w1 ⟨rfl, hb1⟩
  obtain ⟨hc1, hf1⟩ := bcell hb1
  have hz1 := bsize hb1
  try simp only [sizes1] at hz1
  try simp only [sizes] at hc1 hf1
  go_wp2_with fail
  go_ret
  exact Ret.mk (by repeat (first | with_reducible exact Below.refl _ _ | with_reducible refine Below.drew ?_ | (with_reducible refine Below.alloc ?_ (by first | exact Nat.le_refl _ | omega | (simp only [sizes]; omega)) _) | (with_reducible refine Below.setCell ?_ (by first | exact Nat.le_refl _ | omega | (simp only [sizes]; omega)) _) | (refine Below.trans ?_ (Below.mono (by with_reducible assumption) (by first | exact Nat.le_refl _ | omega | (simp only [sizes]; omega))))))

set_option maxRecDepth 100000 in
set_option maxHeartbeats 4000000 in
theorem made_in (va : Value) (xs : List Int) (T X : Int) (w : World) (ha : IntRow w va xs) (h : xs.length ≤ 8) (hT : -9223372036854775808 ≤ T ∧ T ≤ 9223372036854775807) (hX : -9223372036854775808 ≤ X ∧ X ≤ 9223372036854775807) :
    Calls Try.prog 4 #[va, .int .i64 T, .int .i64 X] w (Ret w (.bool true)) := by
  have hrow := ha
  obtain ⟨ao, ca, rfl, a1, a2, a3⟩ := ha.out
  unfold maxLen at a2
  obtain ⟨n, hn⟩ : ∃ n, xs.length = n := ⟨_, rfl⟩
  rw [hn] at h hrow a1 ⊢
  clear ha a3
  obtain ⟨cs, hcs⟩ : ∃ cs, claimL xs = cs := ⟨_, rfl⟩
  have hv := claimL_allV xs
  have hlen : cs.length = n := by rw [← hcs, ← hn]; simp [claimL]
  rw [hcs] at hv
  obtain ⟨t, hu⟩ : ∃ t, X % 100 = t := ⟨_, rfl⟩
  obtain ⟨total, hto⟩ : ∃ total, T % 97 = total := ⟨_, rfl⟩
  have HU := Lib.hid hu; clear hu
  have HT := Lib.hid hto; clear hto
  have V1 := fun va w ha => idletax_Victim_any va cs t w ha
  have V2 := fun va w ha => vmfleetref35_Payer_any va cs t w ha
  obtain ⟨⟨vi, vb⟩, hvi⟩ : ∃ x, victimR cs t = x := ⟨_, rfl⟩
  rw [hvi] at V1 V2
  have HV1 := Lib.hid V1; clear V1
  have HV2 := Lib.hid V2; clear V2 hvi
  have T1 := fun va w ha => idletax_Targets_any va cs total t w ha
  have T2 := fun va w ha => vmfleetref35_Targets_any va cs total t w ha
  obtain ⟨fr, hfr⟩ : ∃ x, targetsL cs total t = x := ⟨_, rfl⟩
  obtain ⟨gd, hgd⟩ : ∃ x, goodT cs total t = x := ⟨_, rfl⟩
  rw [hfr, hgd] at T1 T2
  have HT1 := Lib.hid T1; clear T1
  have HT2 := Lib.hid T2; clear T2 hfr hgd
  have HV := Lib.hid hv; clear hv
  have HN := Lib.hid hn; clear hn
  have HCS := Lib.hid hcs; clear hcs
  have HLEN := Lib.hid hlen; clear hlen
  have HROW := Lib.hid hrow; clear hrow
  go_enter Try.func4, Try.ntmps4
  go_wp2_with fail
  refine (claims_any _ xs _ HROW.out (by rw [HN.out]; omega)).mono ?_
  rw [HCS.out]
  rintro e w1 ⟨v1, rfl, hr1, hb1⟩
  have hz1 := bsize hb1
  have hr1' := hr1
  obtain ⟨ao1, ca1, rfl, c1, c2, c3⟩ := hr1.out
  rw [HLEN.out] at c1 c3 hr1' ⊢
  clear hr1
  unfold maxLen at c2
  have HR1 := Lib.hid hr1'; clear hr1'
  go_wp2_with fail
  refine (round_any _ _ _ hX (by omega) (by omega)).mono ?_
  rw [HU.out]
  rintro e w2 ⟨rfl, hb2⟩
  obtain ⟨hc2, hf2⟩ := bcell hb2
  have hz2 := bsize hb2
  try simp only [sizes1] at hz2
  try simp only [sizes] at hc2 hf2
  go_wp2_with fail
  refine (round_any _ _ _ hT (by omega) (by omega)).mono ?_
  rw [HT.out]
  rintro e w3 ⟨rfl, hb3⟩
  obtain ⟨hc3, hf3⟩ := bcell hb3
  have hz3 := bsize hb3
  try simp only [sizes1] at hz3
  try simp only [sizes] at hc3 hf3
  have hb13 : Below w1.heap.size w1 w3 := (by repeat (first | with_reducible exact Below.refl _ _ | with_reducible refine Below.drew ?_ | (with_reducible refine Below.alloc ?_ (by first | exact Nat.le_refl _ | omega | (simp only [sizes]; omega)) _) | (with_reducible refine Below.setCell ?_ (by first | exact Nat.le_refl _ | omega | (simp only [sizes]; omega)) _) | (refine Below.trans ?_ (Below.mono (by with_reducible assumption) (by first | exact Nat.le_refl _ | omega | (simp only [sizes]; omega))))))
  clear hb2 hb3 hc2 hf2 hc3 hf3 hz2 hz3
  go_wp2_with fail
  refine (HV1.out _ _ (HR1.out.below' hb13)).mono ?_
  rintro e w4 ⟨rfl, hb4⟩
  have hb14 : Below w1.heap.size w1 w4 := hb13.trans (hb4.mono hb13.size)
  clear hb13 hb4
  go_wp2_with fail
  refine (HV2.out _ _ (HR1.out.below' hb14)).mono ?_
  rintro e w5 ⟨rfl, hb5⟩
  have hb15 : Below w1.heap.size w1 w5 := hb14.trans (hb5.mono hb14.size)
  clear hb14 hb5
  go_wp2_with fail
  refine (HT1.out _ _ (HR1.out.below' hb15)).mono ?_
  rintro e w6 ⟨v6, rfl, hr6, hb6⟩
  have hb16 : Below w1.heap.size w1 w6 := hb15.trans (hb6.mono hb15.size)
  clear hb15 hb6
  go_wp2_with fail
  refine (HT2.out _ _ (HR1.out.below' hb16)).mono ?_
  rintro e w7 ⟨v7, rfl, hr7, hb7⟩
  have hb17 : Below w1.heap.size w1 w7 := hb16.trans (hb7.mono hb16.size)
  have HR6 := Lib.hid (hr6.below hb7); clear hr6 hb16 hb7
  have HR7 := Lib.hid hr7; clear hr7
  go_wp2_with fail
  refine (sameInts_self _ _ fr _ HR6.out HR7.out).mono ?_
  rintro e w8 ⟨rfl, hb8⟩
  have hb18 : Below w1.heap.size w1 w8 := hb17.trans (hb8.mono hb17.size)
  clear hb17 hb8
  go_wp2_with fail
  refine (awake_any _).mono ?_
  rintro e w9 ⟨rfl, hb9⟩
  have hb19 : Below w1.heap.size w1 w9 := hb18.trans (hb9.mono hb18.size)
  clear hb18 hb9
  go_wp2_with fail
  go_ret
  exact Ret.mk (by repeat (first | with_reducible exact Below.refl _ _ | with_reducible refine Below.drew ?_ | (with_reducible refine Below.alloc ?_ (by first | exact Nat.le_refl _ | omega | (simp only [sizes]; omega)) _) | (with_reducible refine Below.setCell ?_ (by first | exact Nat.le_refl _ | omega | (simp only [sizes]; omega)) _) | (refine Below.trans ?_ (Below.mono (by with_reducible assumption) (by first | exact Nat.le_refl _ | omega | (simp only [sizes]; omega))))))
end Go.Proofs.Ytclnjjppcdgkiaa
