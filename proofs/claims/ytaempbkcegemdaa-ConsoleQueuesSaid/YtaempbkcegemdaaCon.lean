/-
  The console's functions, walked.
-/
import Derived.Test.YtaempbkcegemdaaBase
namespace Go.Proofs.Ytaempbkcegemdaa
open Go.RowKit

def byteStr (b : Int) : ByteArray := ⟨#[UInt8.ofNat b.toNat]⟩
theorem byteStr_size (b : Int) : (byteStr b).size = 1 := rfl
def conType (s : ByteArray) (b : Int) : ByteArray × Bool := if 16 ≤ s.size then (s, false) else (s ++ byteStr b, true)
def conIn (s : ByteArray) (port : Int) : ByteArray × Int :=
  if port = 0 then (if s.size = 0 then (s, 4294967295) else (s.extract 1 s.size, ((s.data[0]?.getD 0).toNat : Int)))
  else if port = 1 then (s, s.size) else (s, 0)
def conVal (s : ByteArray) : Value := .agg #[.string s]

theorem run_one_byte (b : Int) (W : World) (B : Nat) (h : W.cell? ⟨B, 0, none⟩ = some (.int .u8 b)) :
    (convert 36 9 (.slice (some ⟨B, 0, none⟩) 1 1)).run Try.prog W = .ok (.string (byteStr b)) W :=
  @run_convert_bytes_arg Try.prog W 36 5 Try.underlying36 Try.underlying5 B 0 1 1 [b] rfl
    (fun i hi => by obtain rfl : i = 0 := by omega
                    exact h) 9 Try.underlying9

theorem console_Type_full (s : ByteArray) (b : Int) (w : World) (hs : (16 : Int) ≤ s.size) :
    Calls Try.prog 7 #[.agg #[.string s], .int .u8 b] w (Ret w (.tuple #[.agg #[.string s], .bool false])) := by
  go_enter Try.func7, Try.ntmps7
  go_wp2
  exact bodyPost_ret (v := .tuple #[.agg #[.string s], .bool false]) (by simp [results, Try.results7, go_sem]) rfl (Ret.mk (by repeat (first | exact Below.refl _ _ | with_reducible refine Below.drew ?_ | (with_reducible refine Below.alloc ?_ (by first | exact Nat.le_refl _ | omega | (simp only [World.size_alloc, World.size_setCell, World.size_drew]; omega)) _) | (with_reducible refine Below.setCell ?_ (by first | exact Nat.le_refl _ | omega | (simp only [World.size_alloc, World.size_setCell, World.size_drew]; omega)) _) | (refine Below.trans ?_ (Below.mono (by assumption) (by first | exact Nat.le_refl _ | omega | (simp only [World.size_alloc, World.size_setCell, World.size_drew]; omega)))))))
set_option maxHeartbeats 400000 in
theorem console_Type_room (s : ByteArray) (b : Int) (w : World) (hs : s.size < 16) :
    Calls Try.prog 7 #[.agg #[.string s], .int .u8 b] w (Ret w (.tuple #[.agg #[.string (s ++ byteStr b)], .bool true])) := by
  have hc := run_one_byte b
  have hz := byteStr_size b
  go_enter Try.func7, Try.ntmps7
  go_wp2
  exact bodyPost_ret (v := .tuple #[.agg #[.string (s ++ byteStr b)], .bool true]) (by simp [results, Try.results7, go_sem]) rfl (Ret.mk (by repeat (first | exact Below.refl _ _ | with_reducible refine Below.drew ?_ | (with_reducible refine Below.alloc ?_ (by first | exact Nat.le_refl _ | omega | (simp only [World.size_alloc, World.size_setCell, World.size_drew]; omega)) _) | (with_reducible refine Below.setCell ?_ (by first | exact Nat.le_refl _ | omega | (simp only [World.size_alloc, World.size_setCell, World.size_drew]; omega)) _) | (refine Below.trans ?_ (Below.mono (by assumption) (by first | exact Nat.le_refl _ | omega | (simp only [World.size_alloc, World.size_setCell, World.size_drew]; omega)))))))
theorem console_Type_any (s : ByteArray) (b : Int) (w : World) :
    Calls Try.prog 7 #[.agg #[.string s], .int .u8 b] w (Ret w (.tuple #[.agg #[.string (conType s b).1], .bool (conType s b).2])) := by
  unfold conType
  split
  · exact console_Type_full s b w (by omega)
  · exact console_Type_room s b w (by omega)
theorem vmfleetref7_Type_full (s : ByteArray) (b : Int) (w : World) (hs : (16 : Int) ≤ s.size) :
    Calls Try.prog 11 #[.agg #[.string s], .int .u8 b] w (Ret w (.tuple #[.agg #[.string s], .bool false])) := by
  go_enter Try.func11, Try.ntmps11
  go_wp2
  exact bodyPost_ret (v := .tuple #[.agg #[.string s], .bool false]) (by simp [results, Try.results11, go_sem]) rfl (Ret.mk (by repeat (first | exact Below.refl _ _ | with_reducible refine Below.drew ?_ | (with_reducible refine Below.alloc ?_ (by first | exact Nat.le_refl _ | omega | (simp only [World.size_alloc, World.size_setCell, World.size_drew]; omega)) _) | (with_reducible refine Below.setCell ?_ (by first | exact Nat.le_refl _ | omega | (simp only [World.size_alloc, World.size_setCell, World.size_drew]; omega)) _) | (refine Below.trans ?_ (Below.mono (by assumption) (by first | exact Nat.le_refl _ | omega | (simp only [World.size_alloc, World.size_setCell, World.size_drew]; omega)))))))
set_option maxHeartbeats 400000 in
theorem vmfleetref7_Type_room (s : ByteArray) (b : Int) (w : World) (hs : s.size < 16) :
    Calls Try.prog 11 #[.agg #[.string s], .int .u8 b] w (Ret w (.tuple #[.agg #[.string (s ++ byteStr b)], .bool true])) := by
  have hc := run_one_byte b
  have hz := byteStr_size b
  go_enter Try.func11, Try.ntmps11
  go_wp2
  exact bodyPost_ret (v := .tuple #[.agg #[.string (s ++ byteStr b)], .bool true]) (by simp [results, Try.results11, go_sem]) rfl (Ret.mk (by repeat (first | exact Below.refl _ _ | with_reducible refine Below.drew ?_ | (with_reducible refine Below.alloc ?_ (by first | exact Nat.le_refl _ | omega | (simp only [World.size_alloc, World.size_setCell, World.size_drew]; omega)) _) | (with_reducible refine Below.setCell ?_ (by first | exact Nat.le_refl _ | omega | (simp only [World.size_alloc, World.size_setCell, World.size_drew]; omega)) _) | (refine Below.trans ?_ (Below.mono (by assumption) (by first | exact Nat.le_refl _ | omega | (simp only [World.size_alloc, World.size_setCell, World.size_drew]; omega)))))))
theorem vmfleetref7_Type_any (s : ByteArray) (b : Int) (w : World) :
    Calls Try.prog 11 #[.agg #[.string s], .int .u8 b] w (Ret w (.tuple #[.agg #[.string (conType s b).1], .bool (conType s b).2])) := by
  unfold conType
  split
  · exact vmfleetref7_Type_full s b w (by omega)
  · exact vmfleetref7_Type_room s b w (by omega)

theorem conv_u32 (n : Int) (h0 : 0 ≤ n) (h1 : n < 4294967296) : IntKind.u32.wrap n = n := by rw [IntKind.wrap_u32]; omega
theorem head_byte (s : ByteArray) (h : 0 < s.size) : (s.data[0]?.getD 0) = s[0] := by
  rw [Array.getElem?_eq_getElem h]; rfl
theorem byte_lt (c : UInt8) : (c.toNat : Int) < 4294967296 ∧ (c.toNat : Int) < 256 ∧ 0 ≤ (c.toNat : Int) := by have := c.toNat_lt; omega

set_option maxHeartbeats 400000 in
theorem console_In_key0 (s : ByteArray) (w : World) (hs : s.toList.isEmpty = true) (hz : ((s.size : Int) == 0) = true) :
    Calls Try.prog 8 #[.agg #[.string s], .int .i64 0] w (Ret w (.tuple #[.agg #[.string s], .int .u32 4294967295])) := by
  go_enter Try.func8, Try.ntmps8
  go_wp2
  exact bodyPost_ret (v := .tuple #[.agg #[.string s], .int .u32 4294967295]) (by simp [results, Try.results8, go_sem]) rfl (Ret.mk (by repeat (first | exact Below.refl _ _ | with_reducible refine Below.drew ?_ | (with_reducible refine Below.alloc ?_ (by first | exact Nat.le_refl _ | omega | (simp only [World.size_alloc, World.size_setCell, World.size_drew]; omega)) _) | (with_reducible refine Below.setCell ?_ (by first | exact Nat.le_refl _ | omega | (simp only [World.size_alloc, World.size_setCell, World.size_drew]; omega)) _) | (refine Below.trans ?_ (Below.mono (by assumption) (by first | exact Nat.le_refl _ | omega | (simp only [World.size_alloc, World.size_setCell, World.size_drew]; omega)))))))
set_option maxHeartbeats 400000 in
theorem console_In_key1 (s : ByteArray) (w : World) (hs : s.toList.isEmpty = false) (hz : ((s.size : Int) == 0) = false) (h0 : 0 < s.size) :
    Calls Try.prog 8 #[.agg #[.string s], .int .i64 0] w (Ret w (.tuple #[.agg #[.string (s.extract 1 s.size)], .int .u32 (s.data[0]?.getD 0).toNat])) := by
  have hb := byte_lt s[0]
  have hw := conv_u32 s[0].toNat (by omega) (by omega)
  go_enter Try.func8, Try.ntmps8
  go_wp2
  all_goals try (go_region; all_goals go_wp2)
  all_goals exact bodyPost_ret (v := .tuple #[.agg #[.string (s.extract 1 s.size)], .int .u32 s[0].toNat]) (by simp [results, Try.results8, go_sem]; try omega) rfl (Ret.mk' (by rw [head_byte s h0]) (by repeat (first | exact Below.refl _ _ | with_reducible refine Below.drew ?_ | (with_reducible refine Below.alloc ?_ (by first | exact Nat.le_refl _ | omega | (simp only [World.size_alloc, World.size_setCell, World.size_drew]; omega)) _) | (with_reducible refine Below.setCell ?_ (by first | exact Nat.le_refl _ | omega | (simp only [World.size_alloc, World.size_setCell, World.size_drew]; omega)) _) | (refine Below.trans ?_ (Below.mono (by assumption) (by first | exact Nat.le_refl _ | omega | (simp only [World.size_alloc, World.size_setCell, World.size_drew]; omega)))))))
set_option maxHeartbeats 400000 in
theorem console_In_keys (s : ByteArray) (w : World) (h0 : s.size ≤ 1000) :
    Calls Try.prog 8 #[.agg #[.string s], .int .i64 1] w (Ret w (.tuple #[.agg #[.string s], .int .u32 s.size])) := by
  have hw := conv_u32 s.size (by omega) (by omega)
  go_enter Try.func8, Try.ntmps8
  go_wp2
  go_region
  all_goals go_wp2
  all_goals exact bodyPost_ret (v := .tuple #[.agg #[.string s], .int .u32 s.size]) (by simp [results, Try.results8, go_sem]; try omega) rfl (Ret.mk (by repeat (first | exact Below.refl _ _ | with_reducible refine Below.drew ?_ | (with_reducible refine Below.alloc ?_ (by first | exact Nat.le_refl _ | omega | (simp only [World.size_alloc, World.size_setCell, World.size_drew]; omega)) _) | (with_reducible refine Below.setCell ?_ (by first | exact Nat.le_refl _ | omega | (simp only [World.size_alloc, World.size_setCell, World.size_drew]; omega)) _) | (refine Below.trans ?_ (Below.mono (by assumption) (by first | exact Nat.le_refl _ | omega | (simp only [World.size_alloc, World.size_setCell, World.size_drew]; omega)))))))
set_option maxHeartbeats 400000 in
theorem console_In_other (s : ByteArray) (p : Int) (w : World) (h0 : (p == 0) = false) (h1 : (p == 1) = false) :
    Calls Try.prog 8 #[.agg #[.string s], .int .i64 p] w (Ret w (.tuple #[.agg #[.string s], .int .u32 0])) := by
  go_enter Try.func8, Try.ntmps8
  go_wp2
  all_goals exact bodyPost_ret (v := .tuple #[.agg #[.string s], .int .u32 0]) (by simp [results, Try.results8, go_sem]) rfl (Ret.mk (by repeat (first | exact Below.refl _ _ | with_reducible refine Below.drew ?_ | (with_reducible refine Below.alloc ?_ (by first | exact Nat.le_refl _ | omega | (simp only [World.size_alloc, World.size_setCell, World.size_drew]; omega)) _) | (with_reducible refine Below.setCell ?_ (by first | exact Nat.le_refl _ | omega | (simp only [World.size_alloc, World.size_setCell, World.size_drew]; omega)) _) | (refine Below.trans ?_ (Below.mono (by assumption) (by first | exact Nat.le_refl _ | omega | (simp only [World.size_alloc, World.size_setCell, World.size_drew]; omega)))))))
theorem console_In_any (s : ByteArray) (p : Int) (w : World) (h0 : s.size ≤ 1000) :
    Calls Try.prog 8 #[.agg #[.string s], .int .i64 p] w (Ret w (.tuple #[.agg #[.string (conIn s p).1], .int .u32 (conIn s p).2])) := by
  unfold conIn
  split
  · rename_i h; subst h
    split
    · exact console_In_key0 s w (by rw [isEmpty_iff]; exact decide_eq_true (by assumption)) (by rw [beq_iff_eq]; omega)
    · exact console_In_key1 s w (by rw [isEmpty_iff]; exact decide_eq_false (by assumption)) (by rw [beq_eq_false_iff_ne]; omega) (by omega)
  · split
    · rename_i h; subst h
      exact console_In_keys s w h0
    · exact console_In_other s p w (by simpa using ‹_›) (by simpa using ‹_›)
set_option maxHeartbeats 400000 in
theorem vmfleetref7_ConsoleIn_key0 (s : ByteArray) (w : World) (hs : s.toList.isEmpty = true) (hz : ((s.size : Int) == 0) = true) :
    Calls Try.prog 12 #[.agg #[.string s], .int .i64 0] w (Ret w (.tuple #[.agg #[.string s], .int .u32 4294967295])) := by
  go_enter Try.func12, Try.ntmps12
  go_wp2
  exact bodyPost_ret (v := .tuple #[.agg #[.string s], .int .u32 4294967295]) (by simp [results, Try.results12, go_sem]) rfl (Ret.mk (by repeat (first | exact Below.refl _ _ | with_reducible refine Below.drew ?_ | (with_reducible refine Below.alloc ?_ (by first | exact Nat.le_refl _ | omega | (simp only [World.size_alloc, World.size_setCell, World.size_drew]; omega)) _) | (with_reducible refine Below.setCell ?_ (by first | exact Nat.le_refl _ | omega | (simp only [World.size_alloc, World.size_setCell, World.size_drew]; omega)) _) | (refine Below.trans ?_ (Below.mono (by assumption) (by first | exact Nat.le_refl _ | omega | (simp only [World.size_alloc, World.size_setCell, World.size_drew]; omega)))))))
set_option maxHeartbeats 400000 in
theorem vmfleetref7_ConsoleIn_key1 (s : ByteArray) (w : World) (hs : s.toList.isEmpty = false) (hz : ((s.size : Int) == 0) = false) (h0 : 0 < s.size) :
    Calls Try.prog 12 #[.agg #[.string s], .int .i64 0] w (Ret w (.tuple #[.agg #[.string (s.extract 1 s.size)], .int .u32 (s.data[0]?.getD 0).toNat])) := by
  have hb := byte_lt s[0]
  have hw := conv_u32 s[0].toNat (by omega) (by omega)
  go_enter Try.func12, Try.ntmps12
  go_wp2
  all_goals try (go_region; all_goals go_wp2)
  all_goals exact bodyPost_ret (v := .tuple #[.agg #[.string (s.extract 1 s.size)], .int .u32 s[0].toNat]) (by simp [results, Try.results12, go_sem]; try omega) rfl (Ret.mk' (by rw [head_byte s h0]) (by repeat (first | exact Below.refl _ _ | with_reducible refine Below.drew ?_ | (with_reducible refine Below.alloc ?_ (by first | exact Nat.le_refl _ | omega | (simp only [World.size_alloc, World.size_setCell, World.size_drew]; omega)) _) | (with_reducible refine Below.setCell ?_ (by first | exact Nat.le_refl _ | omega | (simp only [World.size_alloc, World.size_setCell, World.size_drew]; omega)) _) | (refine Below.trans ?_ (Below.mono (by assumption) (by first | exact Nat.le_refl _ | omega | (simp only [World.size_alloc, World.size_setCell, World.size_drew]; omega)))))))
set_option maxHeartbeats 400000 in
theorem vmfleetref7_ConsoleIn_keys (s : ByteArray) (w : World) (h0 : s.size ≤ 1000) :
    Calls Try.prog 12 #[.agg #[.string s], .int .i64 1] w (Ret w (.tuple #[.agg #[.string s], .int .u32 s.size])) := by
  have hw := conv_u32 s.size (by omega) (by omega)
  go_enter Try.func12, Try.ntmps12
  go_wp2
  go_region
  all_goals go_wp2
  all_goals exact bodyPost_ret (v := .tuple #[.agg #[.string s], .int .u32 s.size]) (by simp [results, Try.results12, go_sem]; try omega) rfl (Ret.mk (by repeat (first | exact Below.refl _ _ | with_reducible refine Below.drew ?_ | (with_reducible refine Below.alloc ?_ (by first | exact Nat.le_refl _ | omega | (simp only [World.size_alloc, World.size_setCell, World.size_drew]; omega)) _) | (with_reducible refine Below.setCell ?_ (by first | exact Nat.le_refl _ | omega | (simp only [World.size_alloc, World.size_setCell, World.size_drew]; omega)) _) | (refine Below.trans ?_ (Below.mono (by assumption) (by first | exact Nat.le_refl _ | omega | (simp only [World.size_alloc, World.size_setCell, World.size_drew]; omega)))))))
set_option maxHeartbeats 400000 in
theorem vmfleetref7_ConsoleIn_other (s : ByteArray) (p : Int) (w : World) (h0 : (p == 0) = false) (h1 : (p == 1) = false) :
    Calls Try.prog 12 #[.agg #[.string s], .int .i64 p] w (Ret w (.tuple #[.agg #[.string s], .int .u32 0])) := by
  go_enter Try.func12, Try.ntmps12
  go_wp2
  all_goals exact bodyPost_ret (v := .tuple #[.agg #[.string s], .int .u32 0]) (by simp [results, Try.results12, go_sem]) rfl (Ret.mk (by repeat (first | exact Below.refl _ _ | with_reducible refine Below.drew ?_ | (with_reducible refine Below.alloc ?_ (by first | exact Nat.le_refl _ | omega | (simp only [World.size_alloc, World.size_setCell, World.size_drew]; omega)) _) | (with_reducible refine Below.setCell ?_ (by first | exact Nat.le_refl _ | omega | (simp only [World.size_alloc, World.size_setCell, World.size_drew]; omega)) _) | (refine Below.trans ?_ (Below.mono (by assumption) (by first | exact Nat.le_refl _ | omega | (simp only [World.size_alloc, World.size_setCell, World.size_drew]; omega)))))))
theorem vmfleetref7_ConsoleIn_any (s : ByteArray) (p : Int) (w : World) (h0 : s.size ≤ 1000) :
    Calls Try.prog 12 #[.agg #[.string s], .int .i64 p] w (Ret w (.tuple #[.agg #[.string (conIn s p).1], .int .u32 (conIn s p).2])) := by
  unfold conIn
  split
  · rename_i h; subst h
    split
    · exact vmfleetref7_ConsoleIn_key0 s w (by rw [isEmpty_iff]; exact decide_eq_true (by assumption)) (by rw [beq_iff_eq]; omega)
    · exact vmfleetref7_ConsoleIn_key1 s w (by rw [isEmpty_iff]; exact decide_eq_false (by assumption)) (by rw [beq_eq_false_iff_ne]; omega) (by omega)
  · split
    · rename_i h; subst h
      exact vmfleetref7_ConsoleIn_keys s w h0
    · exact vmfleetref7_ConsoleIn_other s p w (by simpa using ‹_›) (by simpa using ‹_›)

theorem console_Pending_any (s : ByteArray) (w : World) : Calls Try.prog 9 #[.agg #[.string s]] w (Ret w (.bool (decide (0 < s.size)))) := by
  by_cases h : s.size = 0
  · have h1 : s.toList.isEmpty = true := by rw [isEmpty_iff]; exact decide_eq_true h
    have h2 : decide ((0 : Int) < s.size) = false := decide_eq_false (by omega)
    go_enter Try.func9, Try.ntmps9
    go_wp2
    go_ret
    exact Ret.mk' (by simp [h]) (by repeat (first | exact Below.refl _ _ | with_reducible refine Below.drew ?_ | (with_reducible refine Below.alloc ?_ (by first | exact Nat.le_refl _ | omega | (simp only [World.size_alloc, World.size_setCell, World.size_drew]; omega)) _) | (with_reducible refine Below.setCell ?_ (by first | exact Nat.le_refl _ | omega | (simp only [World.size_alloc, World.size_setCell, World.size_drew]; omega)) _) | (refine Below.trans ?_ (Below.mono (by assumption) (by first | exact Nat.le_refl _ | omega | (simp only [World.size_alloc, World.size_setCell, World.size_drew]; omega))))))
  · have h1 : s.toList.isEmpty = false := by rw [isEmpty_iff]; exact decide_eq_false h
    have h2 : decide ((0 : Int) < s.size) = true := decide_eq_true (by omega)
    go_enter Try.func9, Try.ntmps9
    go_wp2
    go_ret
    exact Ret.mk' (by have : 0 < s.size := by omega
                      simp [this]) (by repeat (first | exact Below.refl _ _ | with_reducible refine Below.drew ?_ | (with_reducible refine Below.alloc ?_ (by first | exact Nat.le_refl _ | omega | (simp only [World.size_alloc, World.size_setCell, World.size_drew]; omega)) _) | (with_reducible refine Below.setCell ?_ (by first | exact Nat.le_refl _ | omega | (simp only [World.size_alloc, World.size_setCell, World.size_drew]; omega)) _) | (refine Below.trans ?_ (Below.mono (by assumption) (by first | exact Nat.le_refl _ | omega | (simp only [World.size_alloc, World.size_setCell, World.size_drew]; omega))))))
theorem vmfleetref7_ConsolePending_any (s : ByteArray) (w : World) : Calls Try.prog 13 #[.agg #[.string s]] w (Ret w (.bool (decide (0 < s.size)))) := by
  by_cases h : s.size = 0
  · have h1 : s.toList.isEmpty = true := by rw [isEmpty_iff]; exact decide_eq_true h
    have h2 : decide ((0 : Int) < s.size) = false := decide_eq_false (by omega)
    go_enter Try.func13, Try.ntmps13
    go_wp2
    go_ret
    exact Ret.mk' (by simp [h]) (by repeat (first | exact Below.refl _ _ | with_reducible refine Below.drew ?_ | (with_reducible refine Below.alloc ?_ (by first | exact Nat.le_refl _ | omega | (simp only [World.size_alloc, World.size_setCell, World.size_drew]; omega)) _) | (with_reducible refine Below.setCell ?_ (by first | exact Nat.le_refl _ | omega | (simp only [World.size_alloc, World.size_setCell, World.size_drew]; omega)) _) | (refine Below.trans ?_ (Below.mono (by assumption) (by first | exact Nat.le_refl _ | omega | (simp only [World.size_alloc, World.size_setCell, World.size_drew]; omega))))))
  · have h1 : s.toList.isEmpty = false := by rw [isEmpty_iff]; exact decide_eq_false h
    have h2 : decide ((0 : Int) < s.size) = true := decide_eq_true (by omega)
    go_enter Try.func13, Try.ntmps13
    go_wp2
    go_ret
    exact Ret.mk' (by have : 0 < s.size := by omega
                      simp [this]) (by repeat (first | exact Below.refl _ _ | with_reducible refine Below.drew ?_ | (with_reducible refine Below.alloc ?_ (by first | exact Nat.le_refl _ | omega | (simp only [World.size_alloc, World.size_setCell, World.size_drew]; omega)) _) | (with_reducible refine Below.setCell ?_ (by first | exact Nat.le_refl _ | omega | (simp only [World.size_alloc, World.size_setCell, World.size_drew]; omega)) _) | (refine Below.trans ?_ (Below.mono (by assumption) (by first | exact Nat.le_refl _ | omega | (simp only [World.size_alloc, World.size_setCell, World.size_drew]; omega))))))
theorem console_May_any (s : ByteArray) (w : World) : Calls Try.prog 14 #[.agg #[.string s]] w (Ret w (.bool (decide (s.size ≤ 16)))) := by
  go_enter Try.func14, Try.ntmps14
  go_wp2
  go_ret
  exact Ret.mk' (by simp; omega) (by repeat (first | exact Below.refl _ _ | with_reducible refine Below.drew ?_ | (with_reducible refine Below.alloc ?_ (by first | exact Nat.le_refl _ | omega | (simp only [World.size_alloc, World.size_setCell, World.size_drew]; omega)) _) | (with_reducible refine Below.setCell ?_ (by first | exact Nat.le_refl _ | omega | (simp only [World.size_alloc, World.size_setCell, World.size_drew]; omega)) _) | (refine Below.trans ?_ (Below.mono (by assumption) (by first | exact Nat.le_refl _ | omega | (simp only [World.size_alloc, World.size_setCell, World.size_drew]; omega))))))
theorem vmfleetref7_ConsoleMay_any (s : ByteArray) (w : World) : Calls Try.prog 15 #[.agg #[.string s]] w (Ret w (.bool (decide (s.size ≤ 16)))) := by
  go_enter Try.func15, Try.ntmps15
  go_wp2
  go_ret
  exact Ret.mk' (by simp; omega) (by repeat (first | exact Below.refl _ _ | with_reducible refine Below.drew ?_ | (with_reducible refine Below.alloc ?_ (by first | exact Nat.le_refl _ | omega | (simp only [World.size_alloc, World.size_setCell, World.size_drew]; omega)) _) | (with_reducible refine Below.setCell ?_ (by first | exact Nat.le_refl _ | omega | (simp only [World.size_alloc, World.size_setCell, World.size_drew]; omega)) _) | (refine Below.trans ?_ (Below.mono (by assumption) (by first | exact Nat.le_refl _ | omega | (simp only [World.size_alloc, World.size_setCell, World.size_drew]; omega))))))
end Go.Proofs.Ytaempbkcegemdaa
