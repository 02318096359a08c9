/-
  The fixed balloon of the laws, walked; the law on what is asked.
-/
import Derived.Test.YtalfiiodioihdaaBalOut
namespace Go.Proofs.Ytalfiiodioihdaa
open Go.RowKit

theorem pend14 (w : World) : Calls Try.prog 6 #[.agg #[.int .u32 1, .int .u32 4]] w (Ret w (.bool false)) := by
  have h := pending_any 1 4 w (by omega) (by omega)
  rw [show pendB 1 4 = false by decide] at h
  exact h
theorem pend10 (w : World) : Calls Try.prog 6 #[.agg #[.int .u32 1, .int .u32 0]] w (Ret w (.bool true)) := by
  have h := pending_any 1 0 w (by omega) (by omega)
  rw [show pendB 1 0 = true by decide] at h
  exact h
theorem count14 (w : World) : Calls Try.prog 15 #[.agg #[.int .u32 1, .int .u32 4]] w (Ret w (.int .i64 1)) := by
  have h := count_any 1 4 w (by omega)
  rw [show cnt 4 = 1 by decide] at h
  exact h
theorem new4 (w : World) : Calls Try.prog 23 #[.int .i64 4] w (RetMem w (List.replicate 128 0)) := new_any 4 w (by omega) (by omega)
theorem out4 (va : Value) (w : World) (ha : MemRow w va (List.replicate 128 0)) : Calls Try.prog 12 #[.agg #[.int .u32 1, .int .u32 0], va, .int .i64 10, .int .u32 2] w (fun e w' => ∃ g cap, e = .returned (.tuple #[.agg #[.int .u32 1, .int .u32 4], .slice (some ⟨g, 0, none⟩) 128 cap]) ∧ Below w.heap.size w w') := by
  have hl : (List.replicate 128 (0 : Int)).length = 128 := List.length_replicate
  have h := out_any va _ 1 0 2 10 w ha (by rw [hl]; omega) (by omega)
  rw [hl, show outG 0 128 10 2 = 4 by decide] at h
  refine h.mono ?_
  rintro e w' ⟨v, rfl, ho, hb⟩
  have hlen : (outM 0 (List.replicate 128 0) 10 2).length = 128 := by
    unfold outM
    split
    · rw [clearP_len, hl]
    · exact hl
  rcases ho.1.2 with ⟨_, hbad⟩ | ⟨g, cap, cur, rfl, _⟩
  · have := ho.2; omega
  · exact ⟨g, cap, by rw [hlen]; rfl, hb⟩
set_option maxHeartbeats 1000000 in
theorem awake_any (w : World) : Calls Try.prog 8 #[] w (Ret w (.bool true)) := by
  go_enter Try.func8, Try.ntmps8
  go_wp2_with fail
  refine (new4 _).mono ?_
  rintro e w1 ⟨v1, rfl, ho1, hb1⟩
  have hz1 := hb1.size
  go_wp2_with fail
  refine (out4 v1 _ ho1.row).mono ?_
  rintro e w2 ⟨g, cap, rfl, hb2⟩
  have hz2 := hb2.size
  have hb12 : Below w.heap.size w w2 := hb1.trans (hb2.mono hz1)
  clear hb1 hb2 ho1
  go_wp2_with fail
  refine (pend14 _).mono ?_
  rintro e w3 ⟨rfl, hb3⟩
  obtain ⟨hc3, hf3⟩ := bcell hb3
  have hz3 := bsize hb3
  try simp only [sizes1] at hz3
  try simp only [sizes] at hc3 hf3
  go_wp2_with fail
  refine (count14 _).mono ?_
  rintro e w4 ⟨rfl, hb4⟩
  obtain ⟨hc4, hf4⟩ := bcell hb4
  have hz4 := bsize hb4
  try simp only [sizes1] at hz4
  try simp only [sizes] at hc4 hf4
  go_wp2_with fail
  refine (pend10 _).mono ?_
  rintro e w5 ⟨rfl, hb5⟩
  obtain ⟨hc5, hf5⟩ := bcell hb5
  have hz5 := bsize hb5
  try simp only [sizes1] at hz5
  try simp only [sizes] at hc5 hf5
  go_wp2_with fail
  go_ret
  exact Ret.mk (by repeat (first | with_reducible exact Below.refl _ _ | with_reducible refine Below.drew ?_ | (with_reducible refine Below.alloc ?_ (by first | exact Nat.le_refl _ | omega | (simp only [sizes]; omega)) _) | (with_reducible refine Below.setCell ?_ (by first | exact Nat.le_refl _ | omega | (simp only [sizes]; omega)) _) | (refine Below.trans ?_ (Below.mono (by with_reducible assumption) (by first | exact Nat.le_refl _ | omega | (simp only [sizes]; omega))))))

set_option maxHeartbeats 2000000 in
theorem asks_any (G T : Nat) (w : World) (hG : G < 4294967296) (hT : T < 4294967296) : Calls Try.prog 3 #[.int .u32 G, .int .u32 T] w (Ret w (.bool true)) := by
  have ht : T % 40 < 40 := Nat.mod_lt _ (by omega)
  obtain ⟨t, htt⟩ : ∃ t, T % 40 = t := ⟨_, rfl⟩
  have hti : (T : Int) % 40 = t := by omega
  rw [htt] at ht
  clear htt
  have PP := fun w => pending_any t G w (by omega) hG
  have I1 := fun w => in_any t G 11 w hG
  have I2 := fun w => in_any t G 10 w hG
  rw [show inI t G 11 = (cnt G : Int) from rfl] at I1
  rw [show inI t G 10 = (t : Int) from rfl] at I2
  have hc := cnt_le G
  have hq : onesN G 32 = cnt G := rfl
  unfold pendB at PP
  have HP := Lib.hid PP; clear PP
  have HI1 := Lib.hid I1; clear I1
  have HI2 := Lib.hid I2; clear I2
  have HQ := Lib.hid hq; clear hq
  go_enter Try.func3, Try.ntmps3
  go_wp2_with fail
  go_loop [5, 6] (fun n i => ∃ k : Nat, k ≤ 32 ∧ i = .int .i64 k ∧ n = .int .i64 (onesN G k)) (fun _ i => 32 - (intOf i).toNat)
  case atStart => exact ⟨0, by omega, rfl, rfl⟩
  case round =>
    obtain ⟨k, hk, rfl, rfl⟩ := hrel
    by_cases hlt : k < 32
    · have hb := bit_at G k hG
      have hm : G / 2 ^ k % 2 < 2 := Nat.mod_lt _ (by omega)
      obtain ⟨m, hm'⟩ : ∃ m, G / 2 ^ k % 2 = m := ⟨_, rfl⟩
      have hon := onesN_le G k
      have hs : onesN G (k + 1) = onesN G k + m := by rw [← hm']; rfl
      obtain ⟨q, hq⟩ : ∃ q, onesN G k = q := ⟨_, rfl⟩
      rw [hq] at hs hon ⊢
      rw [hm'] at hb hm
      have HS := Lib.hid hs; clear hs hm' hq
      go_wp2_with fail
      go_round
      case rel => exact ⟨k + 1, by omega, by go_num, by rw [HS.out]; go_num⟩
      case measure => simp [intOf]; omega
    · obtain rfl : k = 32 := by omega
      rw [HQ.out]
      generalize cnt G = q at hc HP HI1 HI2 ⊢
      clear HQ
      go_wp2_with fail
      refine (HP.out _).mono ?_
      rintro e w1 ⟨rfl, hb1⟩
      obtain ⟨hc1, hf1⟩ := bcell hb1
      have hz1 := bsize hb1
      try simp only [sizes1] at hz1
      try simp only [sizes] at hc1 hf1
      go_wp2_with fail
      refine (HI1.out _).mono ?_
      rintro e w2 ⟨rfl, hb2⟩
      obtain ⟨hc2, hf2⟩ := bcell hb2
      have hz2 := bsize hb2
      try simp only [sizes1] at hz2
      try simp only [sizes] at hc2 hf2
      go_wp2_with fail
      refine (HI2.out _).mono ?_
      rintro e w3 ⟨rfl, hb3⟩
      obtain ⟨hc3, hf3⟩ := bcell hb3
      have hz3 := bsize hb3
      try simp only [sizes1] at hz3
      try simp only [sizes] at hc3 hf3
      go_wp2_with fail
      refine (awake_any _).mono ?_
      rintro e w4 ⟨rfl, hb4⟩
      obtain ⟨hc4, hf4⟩ := bcell hb4
      have hz4 := bsize hb4
      try simp only [sizes1] at hz4
      try simp only [sizes] at hc4 hf4
      go_wp2_with fail
      go_ret
      exact Ret.mk (by repeat (first | with_reducible exact Below.refl _ _ | with_reducible refine Below.drew ?_ | (with_reducible refine Below.alloc ?_ (by first | exact Nat.le_refl _ | omega | (simp only [sizes]; omega)) _) | (with_reducible refine Below.setCell ?_ (by first | exact Nat.le_refl _ | omega | (simp only [sizes]; omega)) _) | (refine Below.trans ?_ (Below.mono (by with_reducible assumption) (by first | exact Nat.le_refl _ | omega | (simp only [sizes]; omega))))))
end Go.Proofs.Ytalfiiodioihdaa
