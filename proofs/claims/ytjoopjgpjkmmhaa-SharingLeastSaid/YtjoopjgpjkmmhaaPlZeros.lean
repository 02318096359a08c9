/-
  Whether a page is all zeros, walked.
-/
import Derived.Test.YtjoopjgpjkmmhaaPool
import Derived.Test.YtjoopjgpjkmmhaaShelf
namespace Go.Proofs.Ytjoopjgpjkmmhaa
open Go.RowKit

theorem zeroB_iff (s : ByteArray) : zeroB s = decide (Lib.countByte s.data.toList 0 = s.size) := by
  unfold zeroB Lib.countByte
  rw [Bool.eq_iff_iff, decide_eq_true_eq, List.all_eq_true, show s.size = s.data.toList.length from (Array.length_toList ..).symm, List.count_eq_length]
  constructor
  · intro h b hb
    have := h b hb
    rw [beq_iff_eq] at this
    exact this.symm
  · intro h b hb
    rw [beq_iff_eq]
    exact (h b hb).symm
set_option maxHeartbeats 1000000 in
theorem zeros_any (s : ByteArray) (w : World) : Calls Try.prog 36 #[.string s] w (Ret w (.bool (zeroB s))) := by
  have C := fun w => Try.strings_Count_one s 0 w
  have hz := zeroB_iff s
  have hc : Lib.countByte s.data.toList 0 ≤ s.size := by
    have h : s.data.toList.count 0 ≤ s.data.toList.length := List.count_le_length
    rwa [Array.length_toList] at h
  obtain ⟨k, hk⟩ : ∃ k, Lib.countByte s.data.toList 0 = k := ⟨_, rfl⟩
  obtain ⟨m, hm⟩ : ∃ m, s.size = m := ⟨_, rfl⟩
  rw [hk] at C hz hc
  rw [hm] at hz hc
  have HM := Lib.hid hm; clear hm
  have HC := Lib.hid C; clear C hk
  by_cases h : k = m
  · rw [hz, decide_eq_true h]
    clear hz
    have HE := Lib.hid h; clear h
    go_enter Try.func36, Try.ntmps36
    go_wp2_with fail
    with_reducible refine (HC.out _).mono ?_
    rintro e w1 ⟨rfl, rfl⟩
    go_wp2_with fail
    go_ret
    exact Ret.mk' (congrArg Value.bool (by have h1 := HE.out; have h2 := HM.out; rw [h2, h1]; simp)) (by repeat (first | with_reducible exact Below.refl _ _ | with_reducible refine Below.drew ?_ | (with_reducible refine Below.alloc ?_ (by first | exact Nat.le_refl _ | omega | (simp only [sizes]; omega)) _) | (with_reducible refine Below.setCell ?_ (by first | exact Nat.le_refl _ | omega | (simp only [sizes]; omega)) _) | (refine Below.trans ?_ (Below.mono (by with_reducible assumption) (by first | exact Nat.le_refl _ | omega | (simp only [sizes]; omega))))))
  · rw [hz, decide_eq_false h]
    clear hz
    have HE := Lib.hid h; clear h
    go_enter Try.func36, Try.ntmps36
    go_wp2_with fail
    with_reducible refine (HC.out _).mono ?_
    rintro e w1 ⟨rfl, rfl⟩
    go_wp2_with fail
    go_ret
    exact Ret.mk' (congrArg Value.bool (by have h1 := HE.out; have h2 := HM.out; rw [h2]; simp; omega)) (by repeat (first | with_reducible exact Below.refl _ _ | with_reducible refine Below.drew ?_ | (with_reducible refine Below.alloc ?_ (by first | exact Nat.le_refl _ | omega | (simp only [sizes]; omega)) _) | (with_reducible refine Below.setCell ?_ (by first | exact Nat.le_refl _ | omega | (simp only [sizes]; omega)) _) | (refine Below.trans ?_ (Below.mono (by with_reducible assumption) (by first | exact Nat.le_refl _ | omega | (simp only [sizes]; omega))))))
def zeros128 : ByteArray := ⟨(List.replicate 128 0).toArray⟩
theorem zeros128_size : zeros128.size = 128 := by decide +kernel
theorem zeros128_zero : zeroB zeros128 = true := by decide +kernel
theorem rep_any (w : World) : Calls Try.prog 37 #[.string ⟨#[0]⟩, .int .i64 128] w (Ret w (.string zeros128)) := by
  have h := Try.strings_Repeat ⟨#[0]⟩ 128 w (by omega) (by decide)
  rw [show (⟨(Lib.repeatL (⟨#[0]⟩ : ByteArray).data.toList 128).toArray⟩ : ByteArray) = zeros128 by decide +kernel] at h
  exact h
end Go.Proofs.Ytjoopjgpjkmmhaa
