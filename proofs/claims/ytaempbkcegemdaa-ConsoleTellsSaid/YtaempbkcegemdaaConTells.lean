/-
  The law 'the console's functions return what the chapter specifies', walked.
-/
import Derived.Test.YtaempbkcegemdaaConAwake
import Derived.Lib.QuietBelow
namespace Go.Proofs.Ytaempbkcegemdaa
open Go.RowKit

theorem round_lo (n : Int) (k : Int) : 0 ≤ n.tmod k ∨ n.tmod k < 0 := by omega
set_option maxHeartbeats 400000 in
theorem round3_any (n : Int) (w : World) (h : -9223372036854775808 ≤ n ∧ n ≤ 9223372036854775807) : Calls Try.prog 10 #[.int .i64 n, .int .i64 3] w (fun e w' => (∃ r, e = .returned (.int .i64 r)) ∧ w = w') := by
  go_enter Try.func10, Try.ntmps10
  go_wp2
  all_goals (go_ret; exact ⟨⟨_, rfl⟩, rfl⟩)

theorem tells_out (s : ByteArray) (b p : Int) (small : Bool) (w : World) (h : 100 < s.size) : Calls Try.prog 4 #[.agg #[.string s], .int .u8 b, .int .i64 p, .bool small] w (Ret w (.bool true)) := by
  go_enter Try.func4, Try.ntmps4
  go_wp2_with fail
  refine (awake_any _).mono ?_
  rintro e w1 ⟨rfl, hb1⟩
  go_wp2_with fail
  go_ret
  exact Ret.mk (by repeat (first | exact Below.refl _ _ | with_reducible refine Below.drew ?_ | (with_reducible refine Below.alloc ?_ (by first | exact Nat.le_refl _ | omega | (simp only [World.size_alloc, World.size_setCell, World.size_drew]; omega)) _) | (with_reducible refine Below.setCell ?_ (by first | exact Nat.le_refl _ | omega | (simp only [World.size_alloc, World.size_setCell, World.size_drew]; omega)) _) | (refine Below.trans ?_ (Below.mono (by assumption) (by first | exact Nat.le_refl _ | omega | (simp only [World.size_alloc, World.size_setCell, World.size_drew]; omega))))))

set_option maxHeartbeats 1000000 in
theorem tells_big (s : ByteArray) (b p : Int) (w : World) (h : s.size ≤ 100) : Calls Try.prog 4 #[.agg #[.string s], .int .u8 b, .int .i64 p, .bool false] w (Ret w (.bool true)) := by
  have hs : s.size ≤ 1000 := by omega
  go_enter Try.func4, Try.ntmps4
  go_wp2_with fail
  refine (console_Type_any s b _).mono ?_
  rintro e w1 ⟨rfl, hb1⟩
  obtain ⟨hc1, hf1⟩ := bcell hb1
  have hz1 := bsize hb1
  simp only [World.size_alloc, Nat.add_one_le_iff] at hz1 hc1 hf1
  go_wp2_with fail
  refine (vmfleetref7_Type_any s b _).mono ?_
  rintro e w2 ⟨rfl, hb2⟩
  obtain ⟨hc2, hf2⟩ := bcell hb2
  have hz2 := bsize hb2
  try simp only [World.size_alloc, World.size_setCell, World.size_drew, Nat.add_one_le_iff] at hz2
  try simp only [World.size_alloc, World.size_setCell, World.size_drew] at hc2 hf2
  have hB2 : w.heap.size < w2.heap.size := by omega
  go_wp2_with fail
  refine (console_In_any s _ _ hs).mono ?_
  rintro e w3 ⟨rfl, hb3⟩
  obtain ⟨hc3, hf3⟩ := bcell hb3
  have hz3 := bsize hb3
  try simp only [World.size_alloc, World.size_setCell, World.size_drew, Nat.add_one_le_iff] at hz3
  try simp only [World.size_alloc, World.size_setCell, World.size_drew] at hc3 hf3
  have hB3 : w.heap.size < w3.heap.size := by omega
  have hD3 : w1.heap.size < w3.heap.size := by omega
  go_wp2_with fail
  refine (vmfleetref7_ConsoleIn_any s _ _ hs).mono ?_
  rintro e w4 ⟨rfl, hb4⟩
  obtain ⟨hc4, hf4⟩ := bcell hb4
  have hz4 := bsize hb4
  try simp only [World.size_alloc, World.size_setCell, World.size_drew, Nat.add_one_le_iff] at hz4
  try simp only [World.size_alloc, World.size_setCell, World.size_drew] at hc4 hf4
  have hB4 : w.heap.size < w4.heap.size := by omega
  have hD4 : w1.heap.size < w4.heap.size := by omega
  have hE4 : w2.heap.size < w4.heap.size := by omega
  go_wp2_with fail
  have q4 := fun d os => cell_regrown (w := w4.alloc (.cells #[.string (conIn s p).1] 24)) (a := ⟨w.heap.size, 0, none⟩) (v := .string s) (by simp [go_sem, *]) d os
  have q9 := fun d os => cell_regrown (w := w4.alloc (.cells #[.string (conIn s p).1] 24)) (a := ⟨w1.heap.size, 0, none⟩) (v := .string (conType s b).1) (by simp [go_sem, *]) d os
  have q11 := fun d os => cell_regrown (w := w4.alloc (.cells #[.string (conIn s p).1] 24)) (a := ⟨w2.heap.size, 0, none⟩) (v := .string (conType s b).1) (by simp [go_sem, *]) d os
  have q13 := fun d os => cell_regrown (w := w4.alloc (.cells #[.string (conIn s p).1] 24)) (a := ⟨w3.heap.size, 0, none⟩) (v := .string (conIn s p).1) (by simp [go_sem, *]) d os
  have q15 := fun d os => cell_regrown (w := w4.alloc (.cells #[.string (conIn s p).1] 24)) (a := ⟨w4.heap.size, 0, none⟩) (v := .string (conIn s p).1) (by simp [go_sem, *]) d os
  clear hc1 hc2 hc3 hc4 hf1 hf2 hf3 hf4
  refine wp_region_quiet_below (by kernel_rfl) (by kernel_rfl) ?_
  repeat (go_big_quiet_step (first | (go_at_call 9; exact quiet_ret (console_Pending_any s _)) | (go_at_call 13; exact quiet_ret (vmfleetref7_ConsolePending_any s _)) | (go_at_call 14; exact quiet_ret (console_May_any s _)) | (go_at_call 15; exact quiet_ret (vmfleetref7_ConsoleMay_any s _)) | (go_at_call 6; exact quiet_ret (awake_any _))))
  refine wpQuiet_nil ?_
  intro w5 hw5
  have hb5 := below_of_regrown hw5
  clear hw5 q4 q9 q11 q13 q15
  go_wp2_with fail
  go_ret
  exact Ret.mk (by repeat (first | exact Below.refl _ _ | with_reducible refine Below.drew ?_ | (with_reducible refine Below.alloc ?_ (by first | exact Nat.le_refl _ | omega | (simp only [World.size_alloc, World.size_setCell, World.size_drew]; omega)) _) | (with_reducible refine Below.setCell ?_ (by first | exact Nat.le_refl _ | omega | (simp only [World.size_alloc, World.size_setCell, World.size_drew]; omega)) _) | (refine Below.trans ?_ (Below.mono (by assumption) (by first | exact Nat.le_refl _ | omega | (simp only [World.size_alloc, World.size_setCell, World.size_drew]; omega))))))

set_option maxHeartbeats 1000000 in
theorem tells_small (s : ByteArray) (b p : Int) (w : World) (h : s.size ≤ 100) (hp : -9223372036854775808 ≤ p ∧ p ≤ 9223372036854775807) : Calls Try.prog 4 #[.agg #[.string s], .int .u8 b, .int .i64 p, .bool true] w (Ret w (.bool true)) := by
  have hs : s.size ≤ 1000 := by omega
  go_enter Try.func4, Try.ntmps4
  go_wp2_with fail
  refine (round3_any p _ hp).mono ?_
  rintro e w0 ⟨⟨r, rfl⟩, rfl⟩
  go_wp2_with fail
  refine (console_Type_any s b _).mono ?_
  rintro e w1 ⟨rfl, hb1⟩
  obtain ⟨hc1, hf1⟩ := bcell hb1
  have hz1 := bsize hb1
  simp only [World.size_alloc, Nat.add_one_le_iff] at hz1 hc1 hf1
  go_wp2_with fail
  refine (vmfleetref7_Type_any s b _).mono ?_
  rintro e w2 ⟨rfl, hb2⟩
  obtain ⟨hc2, hf2⟩ := bcell hb2
  have hz2 := bsize hb2
  try simp only [World.size_alloc, World.size_setCell, World.size_drew, Nat.add_one_le_iff] at hz2
  try simp only [World.size_alloc, World.size_setCell, World.size_drew] at hc2 hf2
  have hB2 : w.heap.size < w2.heap.size := by omega
  go_wp2_with fail
  refine (console_In_any s _ _ hs).mono ?_
  rintro e w3 ⟨rfl, hb3⟩
  obtain ⟨hc3, hf3⟩ := bcell hb3
  have hz3 := bsize hb3
  try simp only [World.size_alloc, World.size_setCell, World.size_drew, Nat.add_one_le_iff] at hz3
  try simp only [World.size_alloc, World.size_setCell, World.size_drew] at hc3 hf3
  have hB3 : w.heap.size < w3.heap.size := by omega
  have hD3 : w1.heap.size < w3.heap.size := by omega
  go_wp2_with fail
  refine (vmfleetref7_ConsoleIn_any s _ _ hs).mono ?_
  rintro e w4 ⟨rfl, hb4⟩
  obtain ⟨hc4, hf4⟩ := bcell hb4
  have hz4 := bsize hb4
  try simp only [World.size_alloc, World.size_setCell, World.size_drew, Nat.add_one_le_iff] at hz4
  try simp only [World.size_alloc, World.size_setCell, World.size_drew] at hc4 hf4
  have hB4 : w.heap.size < w4.heap.size := by omega
  have hD4 : w1.heap.size < w4.heap.size := by omega
  have hE4 : w2.heap.size < w4.heap.size := by omega
  go_wp2_with fail
  have q4 := fun d os => cell_regrown (w := w4.alloc (.cells #[.string (conIn s r).1] 24)) (a := ⟨w.heap.size, 0, none⟩) (v := .string s) (by simp [go_sem, *]) d os
  have q9 := fun d os => cell_regrown (w := w4.alloc (.cells #[.string (conIn s r).1] 24)) (a := ⟨w1.heap.size, 0, none⟩) (v := .string (conType s b).1) (by simp [go_sem, *]) d os
  have q11 := fun d os => cell_regrown (w := w4.alloc (.cells #[.string (conIn s r).1] 24)) (a := ⟨w2.heap.size, 0, none⟩) (v := .string (conType s b).1) (by simp [go_sem, *]) d os
  have q13 := fun d os => cell_regrown (w := w4.alloc (.cells #[.string (conIn s r).1] 24)) (a := ⟨w3.heap.size, 0, none⟩) (v := .string (conIn s r).1) (by simp [go_sem, *]) d os
  have q15 := fun d os => cell_regrown (w := w4.alloc (.cells #[.string (conIn s r).1] 24)) (a := ⟨w4.heap.size, 0, none⟩) (v := .string (conIn s r).1) (by simp [go_sem, *]) d os
  clear hc1 hc2 hc3 hc4 hf1 hf2 hf3 hf4
  refine wp_region_quiet_below (by kernel_rfl) (by kernel_rfl) ?_
  repeat (go_big_quiet_step (first | (go_at_call 9; exact quiet_ret (console_Pending_any s _)) | (go_at_call 13; exact quiet_ret (vmfleetref7_ConsolePending_any s _)) | (go_at_call 14; exact quiet_ret (console_May_any s _)) | (go_at_call 15; exact quiet_ret (vmfleetref7_ConsoleMay_any s _)) | (go_at_call 6; exact quiet_ret (awake_any _))))
  refine wpQuiet_nil ?_
  intro w5 hw5
  have hb5 := below_of_regrown hw5
  clear hw5 q4 q9 q11 q13 q15
  go_wp2_with fail
  go_ret
  exact Ret.mk (by repeat (first | exact Below.refl _ _ | with_reducible refine Below.drew ?_ | (with_reducible refine Below.alloc ?_ (by first | exact Nat.le_refl _ | omega | (simp only [World.size_alloc, World.size_setCell, World.size_drew]; omega)) _) | (with_reducible refine Below.setCell ?_ (by first | exact Nat.le_refl _ | omega | (simp only [World.size_alloc, World.size_setCell, World.size_drew]; omega)) _) | (refine Below.trans ?_ (Below.mono (by assumption) (by first | exact Nat.le_refl _ | omega | (simp only [World.size_alloc, World.size_setCell, World.size_drew]; omega))))))

theorem tells_any (s : ByteArray) (b p : Int) (small : Bool) (w : World) (hp : -9223372036854775808 ≤ p ∧ p ≤ 9223372036854775807) : Calls Try.prog 4 #[.agg #[.string s], .int .u8 b, .int .i64 p, .bool small] w (Ret w (.bool true)) := by
  by_cases h : s.size ≤ 100
  · cases small
    · exact tells_big s b p w h
    · exact tells_small s b p w h hp
  · exact tells_out s b p small w (by omega)
end Go.Proofs.Ytaempbkcegemdaa
