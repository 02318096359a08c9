/-
  The console's fixed example, and the law on full consoles.
-/
import Derived.Test.YtaempbkcegemdaaCon
namespace Go.Proofs.Ytaempbkcegemdaa
open Go.RowKit

def sA : ByteArray := ⟨#[65]⟩
def sAB : ByteArray := ⟨#[65, 66]⟩
def sB : ByteArray := ⟨#[66]⟩
theorem type_A (w : World) : Calls Try.prog 7 #[.agg #[.string ⟨#[]⟩], .int .u8 65] w (Ret w (.tuple #[.agg #[.string sA], .bool true])) := console_Type_room ⟨#[]⟩ 65 w (by decide)
theorem type_AB (w : World) : Calls Try.prog 7 #[.agg #[.string sA], .int .u8 66] w (Ret w (.tuple #[.agg #[.string sAB], .bool true])) := console_Type_room sA 66 w (by decide)
theorem in_A (w : World) : Calls Try.prog 8 #[.agg #[.string sAB], .int .i64 0] w (Ret w (.tuple #[.agg #[.string sB], .int .u32 65])) := console_In_key1 sAB w (by rw [isEmpty_iff]; decide) (by decide) (by decide)
theorem in_B (w : World) : Calls Try.prog 8 #[.agg #[.string sB], .int .i64 1] w (Ret w (.tuple #[.agg #[.string sB], .int .u32 1])) := console_In_keys sB w (by decide)
theorem pend_B (w : World) : Calls Try.prog 9 #[.agg #[.string sB]] w (Ret w (.bool true)) := console_Pending_any sB w

set_option maxHeartbeats 400000 in
theorem awake_any (w : World) : Calls Try.prog 6 #[] w (Ret w (.bool true)) := by
  go_enter Try.func6, Try.ntmps6
  go_wp2_with fail
  refine (type_A _).mono ?_
  rintro e w1 ⟨rfl, hb1⟩
  obtain ⟨hc1, hf1⟩ := bcell hb1
  have hz1 := bsize hb1
  try simp only [World.size_alloc, World.size_setCell, World.size_drew, Nat.add_one_le_iff] at hz1
  try simp only [World.size_alloc, World.size_setCell, World.size_drew] at hc1 hf1
  go_wp2_with fail
  refine (type_AB _).mono ?_
  rintro e w2 ⟨rfl, hb2⟩
  obtain ⟨hc2, hf2⟩ := bcell hb2
  have hz2 := bsize hb2
  try simp only [World.size_alloc, World.size_setCell, World.size_drew, Nat.add_one_le_iff] at hz2
  try simp only [World.size_alloc, World.size_setCell, World.size_drew] at hc2 hf2
  go_wp2_with fail
  refine (in_A _).mono ?_
  rintro e w3 ⟨rfl, hb3⟩
  obtain ⟨hc3, hf3⟩ := bcell hb3
  have hz3 := bsize hb3
  try simp only [World.size_alloc, World.size_setCell, World.size_drew, Nat.add_one_le_iff] at hz3
  try simp only [World.size_alloc, World.size_setCell, World.size_drew] at hc3 hf3
  go_wp2_with fail
  refine (in_B _).mono ?_
  rintro e w4 ⟨rfl, hb4⟩
  obtain ⟨hc4, hf4⟩ := bcell hb4
  have hz4 := bsize hb4
  try simp only [World.size_alloc, World.size_setCell, World.size_drew, Nat.add_one_le_iff] at hz4
  try simp only [World.size_alloc, World.size_setCell, World.size_drew] at hc4 hf4
  go_wp2_with fail
  refine (pend_B _).mono ?_
  rintro e w5 ⟨rfl, hb5⟩
  obtain ⟨hc5, hf5⟩ := bcell hb5
  have hz5 := bsize hb5
  try simp only [World.size_alloc, World.size_setCell, World.size_drew, Nat.add_one_le_iff] at hz5
  try simp only [World.size_alloc, World.size_setCell, World.size_drew] at hc5 hf5
  go_wp2_with fail
  go_ret
  exact Ret.mk (by repeat (first | exact Below.refl _ _ | with_reducible refine Below.drew ?_ | (with_reducible refine Below.alloc ?_ (by first | exact Nat.le_refl _ | omega | (simp only [World.size_alloc, World.size_setCell, World.size_drew]; omega)) _) | (with_reducible refine Below.setCell ?_ (by first | exact Nat.le_refl _ | omega | (simp only [World.size_alloc, World.size_setCell, World.size_drew]; omega)) _) | (refine Below.trans ?_ (Below.mono (by assumption) (by first | exact Nat.le_refl _ | omega | (simp only [World.size_alloc, World.size_setCell, World.size_drew]; omega))))))

theorem conType_len (s : ByteArray) (b : Int) : (conType s b).1.size = if 16 ≤ s.size then s.size else s.size + 1 := by
  unfold conType; split <;> simp [byteStr_size]

end Go.Proofs.Ytaempbkcegemdaa
