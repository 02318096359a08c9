/-
  The law on full consoles, walked: for every number and byte it hands back true.
-/
import Derived.Test.YtaempbkcegemdaaConAwake
namespace Go.Proofs.Ytaempbkcegemdaa
open Go.RowKit

theorem full_out (m b : Int) (w : World) (h : m < 0 ∨ 40 < m) : Calls Try.prog 3 #[.int .i64 m, .int .u8 b] w (Ret w (.bool true)) := by
  rcases h with h | h
  all_goals
    go_enter Try.func3, Try.ntmps3
    go_wp2_with fail
    refine (awake_any _).mono ?_
    rintro e w1 ⟨rfl, hb1⟩
    go_wp2_with fail
    go_ret
    exact Ret.mk (by repeat (first | exact Below.refl _ _ | with_reducible refine Below.drew ?_ | (with_reducible refine Below.alloc ?_ (by first | exact Nat.le_refl _ | omega | (simp only [World.size_alloc, World.size_setCell, World.size_drew]; omega)) _) | (with_reducible refine Below.setCell ?_ (by first | exact Nat.le_refl _ | omega | (simp only [World.size_alloc, World.size_setCell, World.size_drew]; omega)) _) | (refine Below.trans ?_ (Below.mono (by assumption) (by first | exact Nat.le_refl _ | omega | (simp only [World.size_alloc, World.size_setCell, World.size_drew]; omega))))))

theorem in_keys_at (s : ByteArray) (k : Nat) (h : s.size = k) (hk : k ≤ 1000) (w : World) : Calls Try.prog 8 #[.agg #[.string s], .int .i64 1] w (Ret w (.tuple #[.agg #[.string s], .int .u32 k])) := by
  subst h; exact console_In_keys s w hk
theorem pend_at (s : ByteArray) (b : Bool) (h : decide (0 < s.size) = b) (w : World) : Calls Try.prog 9 #[.agg #[.string s]] w (Ret w (.bool b)) := by
  subst h; exact console_Pending_any s w

set_option maxHeartbeats 1000000 in
theorem full_in (m : Nat) (b : Int) (w : World) (h : m ≤ 40) : Calls Try.prog 3 #[.int .i64 m, .int .u8 b] w (Ret w (.bool true)) := by
  go_enter Try.func3, Try.ntmps3
  go_wp2_with fail
  go_loopw [6, 7] (fun n i wr => ∃ k : Nat, k ≤ m ∧ i = .int .i64 k ∧ n = .int .i64 ((min k 16 : Nat) : Int) ∧ (∃ s : ByteArray, s.size = min k 16 ∧ wr.cell? ⟨w.heap.size, 0, none⟩ = some (.string s)) ∧ wr.frozen? ⟨w.heap.size, 0, none⟩ = false ∧ w.heap.size < wr.heap.size ∧ Below w.heap.size w wr) (fun _ i _ => m - (intOf i).toNat)
  case atStart => exact ⟨0, Nat.zero_le _, rfl, rfl, ⟨⟨#[]⟩, rfl, by simp [go_sem]⟩, by simp [go_sem], by simp, (by repeat (first | exact Below.refl _ _ | with_reducible refine Below.drew ?_ | (with_reducible refine Below.alloc ?_ (by first | exact Nat.le_refl _ | omega | (simp only [World.size_alloc, World.size_setCell, World.size_drew]; omega)) _) | (with_reducible refine Below.setCell ?_ (by first | exact Nat.le_refl _ | omega | (simp only [World.size_alloc, World.size_setCell, World.size_drew]; omega)) _) | (refine Below.trans ?_ (Below.mono (by assumption) (by first | exact Nat.le_refl _ | omega | (simp only [World.size_alloc, World.size_setCell, World.size_drew]; omega))))))⟩
  case round =>
    obtain ⟨k, hk, rfl, rfl, ⟨s, hs, hcell⟩, hfr, hsz, hbw⟩ := hrel
    by_cases hlt : k < m
    · by_cases h16 : k < 16
      · have HS := Lib.hid hs; clear hs
        go_wp2_with fail
        refine (console_Type_room s b _ (by rw [HS.out]; omega)).mono ?_
        rintro e w1 ⟨rfl, hb1⟩
        obtain ⟨hc1, hf1⟩ := bcell hb1
        have hz1 := bsize hb1
        try simp only [World.size_alloc, World.size_setCell, World.size_drew, Nat.add_one_le_iff] at hz1
        try simp only [World.size_alloc, World.size_setCell, World.size_drew] at hc1 hf1
        have hB1 : w.heap.size < w1.heap.size := by omega
        go_wp2_with fail
        go_roundw
        case rel => exact ⟨k + 1, by omega, by go_num, by rw [show min (k + 1) 16 = min k 16 + 1 from by omega]; go_num, ⟨s ++ byteStr b, by rw [ByteArray.size_append, HS.out, byteStr_size]; omega, by simp [go_sem, hB1, hc1 _ _ hsz, hcell]⟩, by simp [go_sem, hB1, hf1 _ _ hsz, hfr], (by first | exact Nat.le_refl _ | omega | (simp only [World.size_alloc, World.size_setCell, World.size_drew]; omega)), (by repeat (first | exact Below.refl _ _ | with_reducible refine Below.drew ?_ | (with_reducible refine Below.alloc ?_ (by first | exact Nat.le_refl _ | omega | (simp only [World.size_alloc, World.size_setCell, World.size_drew]; omega)) _) | (with_reducible refine Below.setCell ?_ (by first | exact Nat.le_refl _ | omega | (simp only [World.size_alloc, World.size_setCell, World.size_drew]; omega)) _) | (refine Below.trans ?_ (Below.mono (by assumption) (by first | exact Nat.le_refl _ | omega | (simp only [World.size_alloc, World.size_setCell, World.size_drew]; omega))))))⟩
        case measure => simp [intOf]; omega
      · have HS := Lib.hid hs; clear hs
        go_wp2_with fail
        refine (console_Type_full s b _ (by rw [HS.out]; omega)).mono ?_
        rintro e w1 ⟨rfl, hb1⟩
        obtain ⟨hc1, hf1⟩ := bcell hb1
        have hz1 := bsize hb1
        try simp only [World.size_alloc, World.size_setCell, World.size_drew, Nat.add_one_le_iff] at hz1
        try simp only [World.size_alloc, World.size_setCell, World.size_drew] at hc1 hf1
        have hB1 : w.heap.size < w1.heap.size := by omega
        go_wp2_with fail
        go_roundw
        case rel => exact ⟨k + 1, by omega, by go_num, by rw [show min (k + 1) 16 = min k 16 from by omega], ⟨s, by rw [HS.out]; omega, by simp [go_sem, hB1, hc1 _ _ hsz, hcell]⟩, by simp [go_sem, hB1, hf1 _ _ hsz, hfr], (by first | exact Nat.le_refl _ | omega | (simp only [World.size_alloc, World.size_setCell, World.size_drew]; omega)), (by repeat (first | exact Below.refl _ _ | with_reducible refine Below.drew ?_ | (with_reducible refine Below.alloc ?_ (by first | exact Nat.le_refl _ | omega | (simp only [World.size_alloc, World.size_setCell, World.size_drew]; omega)) _) | (with_reducible refine Below.setCell ?_ (by first | exact Nat.le_refl _ | omega | (simp only [World.size_alloc, World.size_setCell, World.size_drew]; omega)) _) | (refine Below.trans ?_ (Below.mono (by assumption) (by first | exact Nat.le_refl _ | omega | (simp only [World.size_alloc, World.size_setCell, World.size_drew]; omega))))))⟩
        case measure => simp [intOf]; omega
    · obtain rfl : k = m := by omega
      have hcv := conv_u32 k (by omega) (by omega)
      rcases (show k = 0 ∨ (0 < k ∧ k < 16) ∨ k = 16 ∨ 16 < k from by omega) with h0 | ⟨h0, h1⟩ | h1 | h1
      · obtain rfl := h0
        rw [show min 0 16 = 0 from rfl] at hs ⊢
        have HS := Lib.hid hs; clear hs
        go_wp2_with fail
        refine (in_keys_at s 0 HS.out (by omega) _).mono ?_
        rintro e w1 ⟨rfl, hb1⟩
        obtain ⟨hc1, hf1⟩ := bcell hb1
        have hz1 := bsize hb1
        try simp only [World.size_alloc, World.size_setCell, World.size_drew, Nat.add_one_le_iff] at hz1
        try simp only [World.size_alloc, World.size_setCell, World.size_drew] at hc1 hf1
        have hB1 : w.heap.size < w1.heap.size := by omega
        go_wp2_with fail
        refine (pend_at s false (by rw [HS.out]; first | rfl | exact decide_eq_true (by omega)) _).mono ?_
        rintro e w2 ⟨rfl, hb2⟩
        obtain ⟨hc2, hf2⟩ := bcell hb2
        have hz2 := bsize hb2
        simp only [World.size_alloc] at hz2
        go_wp2_with fail
        refine (awake_any _).mono ?_
        rintro e w3 ⟨rfl, hb3⟩
        have hz3 := bsize hb3
        go_wp2_with fail
        go_ret
        exact Ret.mk (by repeat (first | exact Below.refl _ _ | with_reducible refine Below.drew ?_ | (with_reducible refine Below.alloc ?_ (by first | exact Nat.le_refl _ | omega | (simp only [World.size_alloc, World.size_setCell, World.size_drew]; omega)) _) | (with_reducible refine Below.setCell ?_ (by first | exact Nat.le_refl _ | omega | (simp only [World.size_alloc, World.size_setCell, World.size_drew]; omega)) _) | (refine Below.trans ?_ (Below.mono (by assumption) (by first | exact Nat.le_refl _ | omega | (simp only [World.size_alloc, World.size_setCell, World.size_drew]; omega))))))
      · rw [show min k 16 = k from by omega] at hs ⊢
        have HS := Lib.hid hs; clear hs
        go_wp2_with fail
        refine (in_keys_at s k HS.out (by omega) _).mono ?_
        rintro e w1 ⟨rfl, hb1⟩
        obtain ⟨hc1, hf1⟩ := bcell hb1
        have hz1 := bsize hb1
        try simp only [World.size_alloc, World.size_setCell, World.size_drew, Nat.add_one_le_iff] at hz1
        try simp only [World.size_alloc, World.size_setCell, World.size_drew] at hc1 hf1
        have hB1 : w.heap.size < w1.heap.size := by omega
        go_wp2_with fail
        refine (pend_at s true (by rw [HS.out]; first | rfl | exact decide_eq_true (by omega)) _).mono ?_
        rintro e w2 ⟨rfl, hb2⟩
        obtain ⟨hc2, hf2⟩ := bcell hb2
        have hz2 := bsize hb2
        simp only [World.size_alloc] at hz2
        go_wp2_with fail
        refine (awake_any _).mono ?_
        rintro e w3 ⟨rfl, hb3⟩
        have hz3 := bsize hb3
        go_wp2_with fail
        go_ret
        exact Ret.mk (by repeat (first | exact Below.refl _ _ | with_reducible refine Below.drew ?_ | (with_reducible refine Below.alloc ?_ (by first | exact Nat.le_refl _ | omega | (simp only [World.size_alloc, World.size_setCell, World.size_drew]; omega)) _) | (with_reducible refine Below.setCell ?_ (by first | exact Nat.le_refl _ | omega | (simp only [World.size_alloc, World.size_setCell, World.size_drew]; omega)) _) | (refine Below.trans ?_ (Below.mono (by assumption) (by first | exact Nat.le_refl _ | omega | (simp only [World.size_alloc, World.size_setCell, World.size_drew]; omega))))))
      · obtain rfl := h1
        rw [show min 16 16 = 16 from rfl] at hs ⊢
        have HS := Lib.hid hs; clear hs
        go_wp2_with fail
        refine (in_keys_at s 16 HS.out (by omega) _).mono ?_
        rintro e w1 ⟨rfl, hb1⟩
        obtain ⟨hc1, hf1⟩ := bcell hb1
        have hz1 := bsize hb1
        try simp only [World.size_alloc, World.size_setCell, World.size_drew, Nat.add_one_le_iff] at hz1
        try simp only [World.size_alloc, World.size_setCell, World.size_drew] at hc1 hf1
        have hB1 : w.heap.size < w1.heap.size := by omega
        go_wp2_with fail
        refine (pend_at s true (by rw [HS.out]; first | rfl | exact decide_eq_true (by omega)) _).mono ?_
        rintro e w2 ⟨rfl, hb2⟩
        obtain ⟨hc2, hf2⟩ := bcell hb2
        have hz2 := bsize hb2
        simp only [World.size_alloc] at hz2
        go_wp2_with fail
        refine (awake_any _).mono ?_
        rintro e w3 ⟨rfl, hb3⟩
        have hz3 := bsize hb3
        go_wp2_with fail
        go_ret
        exact Ret.mk (by repeat (first | exact Below.refl _ _ | with_reducible refine Below.drew ?_ | (with_reducible refine Below.alloc ?_ (by first | exact Nat.le_refl _ | omega | (simp only [World.size_alloc, World.size_setCell, World.size_drew]; omega)) _) | (with_reducible refine Below.setCell ?_ (by first | exact Nat.le_refl _ | omega | (simp only [World.size_alloc, World.size_setCell, World.size_drew]; omega)) _) | (refine Below.trans ?_ (Below.mono (by assumption) (by first | exact Nat.le_refl _ | omega | (simp only [World.size_alloc, World.size_setCell, World.size_drew]; omega))))))
      · rw [show min k 16 = 16 from by omega] at hs ⊢
        have HS := Lib.hid hs; clear hs
        go_wp2_with fail
        refine (in_keys_at s 16 HS.out (by omega) _).mono ?_
        rintro e w1 ⟨rfl, hb1⟩
        obtain ⟨hc1, hf1⟩ := bcell hb1
        have hz1 := bsize hb1
        try simp only [World.size_alloc, World.size_setCell, World.size_drew, Nat.add_one_le_iff] at hz1
        try simp only [World.size_alloc, World.size_setCell, World.size_drew] at hc1 hf1
        have hB1 : w.heap.size < w1.heap.size := by omega
        go_wp2_with fail
        refine (pend_at s true (by rw [HS.out]; first | rfl | exact decide_eq_true (by omega)) _).mono ?_
        rintro e w2 ⟨rfl, hb2⟩
        obtain ⟨hc2, hf2⟩ := bcell hb2
        have hz2 := bsize hb2
        simp only [World.size_alloc] at hz2
        go_wp2_with fail
        refine (awake_any _).mono ?_
        rintro e w3 ⟨rfl, hb3⟩
        have hz3 := bsize hb3
        go_wp2_with fail
        go_ret
        exact Ret.mk (by repeat (first | exact Below.refl _ _ | with_reducible refine Below.drew ?_ | (with_reducible refine Below.alloc ?_ (by first | exact Nat.le_refl _ | omega | (simp only [World.size_alloc, World.size_setCell, World.size_drew]; omega)) _) | (with_reducible refine Below.setCell ?_ (by first | exact Nat.le_refl _ | omega | (simp only [World.size_alloc, World.size_setCell, World.size_drew]; omega)) _) | (refine Below.trans ?_ (Below.mono (by assumption) (by first | exact Nat.le_refl _ | omega | (simp only [World.size_alloc, World.size_setCell, World.size_drew]; omega))))))
end Go.Proofs.Ytaempbkcegemdaa
