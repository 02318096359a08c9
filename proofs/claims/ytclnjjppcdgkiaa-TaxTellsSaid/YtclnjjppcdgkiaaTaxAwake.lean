/-
  The laws' fixed example, walked.
-/
import Derived.Test.YtclnjjppcdgkiaaTaxSample
import Derived.Test.YtclnjjppcdgkiaaTaxClaims
namespace Go.Proofs.Ytclnjjppcdgkiaa
open Go.RowKit

def cA : Clm := ⟨1, 20, 100, 10, 1000⟩
def cB : Clm := ⟨1, 20, 100, 10, 0⟩
theorem vic_AB : victimR [cA, cB] 75 = (1, true) := by decide
theorem tgt_AB : targetsL [cA, cB] 10 0 = [5, 5] ∧ goodT [cA, cB] 10 0 = true := by decide +kernel
theorem sam_len : (sampleL 1 5 9).length = 5 := by
  have h := (samOk 5 1 ⟨by decide, by decide⟩ 5 (Nat.le_refl _)).olen
  exact h
theorem est_1 : estimateI 100 1 2 = 500 := by decide
theorem est_2 : estimateI 500 0 2 = 375 := by decide

set_option maxHeartbeats 2000000 in
theorem awake_any (w : World) : Calls Try.prog 12 #[] w (Ret w (.bool true)) := by
  have hv := fun (v : Value) (W : World) (h : ClmRow W v [cA, cB]) => vic_AB ▸ idletax_Victim_any v [cA, cB] 75 W h
  have ht := fun (v : Value) (W : World) (h : ClmRow W v [cA, cB]) => tgt_AB.2 ▸ tgt_AB.1 ▸ idletax_Targets_any v [cA, cB] 10 0 W h
  have HV := Lib.hid hv; clear hv
  have HT := Lib.hid ht; clear ht
  go_enter Try.func12, Try.ntmps12
  go_wp2_with fail
  refine (HV.out _ _ (rowAt_made _ (clmCells cA ++ clmCells cB) 23 _ 2 (by simp) (by decide))).mono ?_
  rintro e w1 ⟨rfl, hb1⟩
  obtain ⟨hc1, hf1⟩ := bcell hb1
  have hz1 := bsize hb1
  try simp only [sizes1] at hz1
  try simp only [sizes] at hc1 hf1
  have hB1 : w.heap.size < w1.heap.size := by omega
  have hC1 : w.heap.size + 1 < w1.heap.size := by omega
  go_wp2_with fail
  refine (HT.out _ _ (rowAt_made _ (clmCells cA ++ clmCells cB) 23 _ 2 (by simp) (by decide))).mono ?_
  rintro e w2 ⟨v, rfl, hr, hb2⟩
  have hz2 := bsize hb2
  simp only [World.size_alloc] at hz2
  clear hc1 hf1
  have HR := Lib.hid hr; clear hr
  go_wp2_with fail
  refine (idletax_Sample_any 1 5 9 _ ⟨by decide, by decide⟩).mono ?_
  rintro e w3 ⟨v3, rfl, hr3, hb3⟩
  have hz3 := bsize hb3
  obtain ⟨ao3, ca3, rfl, _, _, _⟩ := hr3.out
  rw [sam_len]
  clear hr3
  generalize sampleS 1 5 9 = q3
  go_wp2_with fail
  refine (sameInts_any _ _ [5, 5] [5, 5] _ ((HR.out.below hb3).below ?_) (rowAt_made _ [.int .i64 5, .int .i64 5] 3 _ 2 (by simp) (by decide))).mono ?_
  · exact (Below.refl _ _).alloc (Nat.le_refl _) _
  rw [decide_eq_true rfl]
  rintro e w4 ⟨rfl, hb4⟩
  obtain ⟨hc4, hf4⟩ := bcell hb4
  have hz4 := bsize hb4
  try simp only [sizes1] at hz4
  try simp only [sizes] at hc4 hf4
  go_wp2_with fail
  refine (idletax_Estimate_any _ _ _ _).mono ?_
  rw [est_1]
  rintro e w5 ⟨rfl, hb5⟩
  obtain ⟨hc5, hf5⟩ := bcell hb5
  have hz5 := bsize hb5
  try simp only [sizes1] at hz5
  try simp only [sizes] at hc5 hf5
  go_wp2_with fail
  refine (idletax_Estimate_any _ _ _ _).mono ?_
  rw [est_2]
  rintro e w6 ⟨rfl, hb6⟩
  obtain ⟨hc6, hf6⟩ := bcell hb6
  have hz6 := bsize hb6
  try simp only [sizes1] at hz6
  try simp only [sizes] at hc6 hf6
  go_wp2_with fail
  go_ret
  exact Ret.mk (by repeat (first | with_reducible exact Below.refl _ _ | with_reducible refine Below.drew ?_ | (with_reducible refine Below.alloc ?_ (by first | exact Nat.le_refl _ | omega | (simp only [sizes]; omega)) _) | (with_reducible refine Below.setCell ?_ (by first | exact Nat.le_refl _ | omega | (simp only [sizes]; omega)) _) | (refine Below.trans ?_ (Below.mono (by with_reducible assumption) (by first | exact Nat.le_refl _ | omega | (simp only [sizes]; omega))))))
end Go.Proofs.Ytclnjjppcdgkiaa
