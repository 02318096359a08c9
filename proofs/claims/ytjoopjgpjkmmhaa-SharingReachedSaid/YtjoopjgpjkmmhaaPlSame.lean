/-
  Pools that are the same, in the reference: walked.
-/
import Derived.Test.YtjoopjgpjkmmhaaPlOwn
namespace Go.Proofs.Ytjoopjgpjkmmhaa
open Go.RowKit

set_option maxHeartbeats 1000000 in
theorem same_num (va vb : Value) (A : List Int) (w : World) (ha : NumRow w va A) (hb : NumRow w vb A) : Calls Try.prog 47 #[va, vb] w (Ret w (.bool true)) := by
  obtain ⟨ao, ca, rfl, a1, a2, _⟩ := ha.out
  obtain ⟨bo, cb, rfl, b1, b2, _⟩ := hb.out
  unfold maxLen at a2 b2
  obtain ⟨n, hn⟩ : ∃ n, A.length = n := ⟨_, rfl⟩
  rw [hn] at a1 ha b1 hb ⊢
  have HN := Lib.hid hn; clear hn
  have HA := Lib.hid ha; clear ha
  have HB := Lib.hid hb; clear hb
  go_enter Try.func47, Try.ntmps47
  go_wp2_with fail
  go_loopw [5] (fun i wr => ∃ k : Nat, k ≤ n ∧ i = .int .i64 k ∧ Below w.heap.size w wr) (fun i _ => n - (intOf i).toNat)
  case atStart => exact ⟨0, Nat.zero_le _, rfl, (by repeat (first | with_reducible exact Below.refl _ _ | with_reducible refine Below.drew ?_ | (with_reducible refine Below.alloc ?_ (by first | exact Nat.le_refl _ | omega | (simp only [sizes]; omega)) _) | (with_reducible refine Below.setCell ?_ (by first | exact Nat.le_refl _ | omega | (simp only [sizes]; omega)) _) | (refine Below.trans ?_ (Below.mono (by with_reducible assumption) (by first | exact Nat.le_refl _ | omega | (simp only [sizes]; omega))))))⟩
  case round =>
    obtain ⟨k, hk, rfl, hbw⟩ := hrel
    by_cases hlt : k < n
    · obtain ⟨x, hx⟩ := get_lt (xs := A) (k := k) (by rw [HN.out]; exact hlt)
      obtain ⟨b, off, rfl, hbs, c1⟩ := (HA.out.below hbw).elem hx
      obtain ⟨b', off', rfl, hbs', c2⟩ := (HB.out.below hbw).elem hx
      clear hx
      have hx2 : (x != x) = false := by simp
      go_wp2_with fail
      refine wp_region_quiet_below (by kernel_rfl) (by kernel_rfl) ?_
      repeat (go_big_quiet_step (first | fail | fail))
      refine wpQuiet_nil ?_
      intro w3 hw3
      have hb3 := below_of_regrown hw3
      clear hw3
      obtain ⟨hc3, hf3⟩ := bcell hb3
      have hz3 := bsize hb3
      try simp only [sizes1] at hz3
      try simp only [sizes] at hc3 hf3
      go_wp2_with fail
      go_roundw
      case rel => exact ⟨k + 1, by omega, by go_num, hbw.trans (hb3.mono hbw.size)⟩
      case measure => simp [intOf]; omega
    · obtain rfl : k = n := by omega
      go_wp2_with fail
      go_ret
      exact Ret.mk hbw
set_option maxRecDepth 100000 in
set_option maxHeartbeats 2000000 in
theorem psame_any (va vb : Value) (P : Pl) (w : World) (ha : PlRow w va P) (hb : PlRow w vb P) : Calls Try.prog 30 #[va, vb] w (Ret w (.bool true)) := by
  obtain ⟨of, or', om, kf, kr, km, rfl, kf1, kf2, kr1, kr2, km1, km2⟩ := ha.form
  obtain ⟨of', or2, om', kf', kr', km', rfl, kf1', kf2', kr1', kr2', km1', km2'⟩ := hb.form
  obtain ⟨n, hn⟩ : ∃ n, P.F.length = n := ⟨_, rfl⟩
  obtain ⟨r, hr⟩ : ∃ n, P.R.length = n := ⟨_, rfl⟩
  obtain ⟨m, hm⟩ : ∃ n, P.M.length = n := ⟨_, rfl⟩
  rw [hn, hr, hm] at ha hb ⊢
  rw [hm] at km1 km1'
  rw [hn] at kf1 kf1'
  rw [hr] at kr1 kr1'
  have HM := Lib.hid hm; clear hm
  clear hn hr
  have HA := Lib.hid ha; clear ha
  have HB := Lib.hid hb; clear hb
  have SS : ∀ w, StrRow w (.slice of n kf) P.F → StrRow w (.slice of' n kf') P.F → Calls Try.prog 46 #[.slice of n kf, .slice of' n kf'] w (Ret w (.bool true)) := fun w h1 h2 => by
    have h := same_str _ _ P.F P.F w h1 h2
    rwa [decide_eq_true rfl] at h
  have HSS := Lib.hid SS; clear SS
  have hbw : Below w.heap.size w ((w.alloc (.cells #[.slice of n kf, .slice or' r kr, .slice om m km] 26)).alloc (.cells #[.slice of' n kf', .slice or2 r kr', .slice om' m km'] 26)) := (by repeat (first | with_reducible exact Below.refl _ _ | with_reducible refine Below.drew ?_ | (with_reducible refine Below.alloc ?_ (by first | exact Nat.le_refl _ | omega | (dsimp only; omega) | (simp only [sizes]; omega)) _) | (with_reducible refine Below.setCell ?_ (by first | exact Nat.le_refl _ | omega | (dsimp only; omega) | (simp only [sizes]; omega)) _) | (refine Below.trans ?_ (Below.mono (by with_reducible assumption) (by first | exact Nat.le_refl _ | omega | (dsimp only; omega) | (simp only [sizes]; omega))))))
  have D1 := (HasBlock.made w #[.slice of n kf, .slice or' r kr, .slice om m km] 26).alloc (.cells #[.slice of' n kf', .slice or2 r kr', .slice om' m km'] 26)
  have D2 := HasBlock.made (w.alloc (.cells #[.slice of n kf, .slice or' r kr, .slice om m km] 26)) #[.slice of' n kf', .slice or2 r kr', .slice om' m km'] 26
  simp only [sizes] at D2
  go_enter Try.func30, Try.ntmps30
  go_wp2_with fail
  with_reducible refine (HSS.out _ (HA.out.below hbw).parts.1 (HB.out.below hbw).parts.1).mono ?_
  rintro e w1 ⟨rfl, hb1⟩
  replace D1 := D1.below hb1
  replace D2 := D2.below hb1
  replace hbw := hbw.trans (hb1.mono hbw.size)
  clear hb1
  obtain ⟨D1_c, D1_f, D1_z⟩ := D1.all
  obtain ⟨D2_c, D2_f, D2_z⟩ := D2.all
  go_wp2_with fail
  clear D1_c D1_f D1_z
  clear D2_c D2_f D2_z
  with_reducible refine (same_num _ _ P.R _ (HA.out.below hbw).parts.2.1 (HB.out.below hbw).parts.2.1).mono ?_
  rintro e w2 ⟨rfl, hb2⟩
  replace D1 := D1.below hb2
  replace D2 := D2.below hb2
  replace hbw := hbw.trans (hb2.mono hbw.size)
  clear hb2
  have e1 : (m != m) = false := by simp
  have e2 : ((m : Int) != (m : Int)) = false := by simp
  obtain ⟨D1_c, D1_f, D1_z⟩ := D1.all
  obtain ⟨D2_c, D2_f, D2_z⟩ := D2.all
  go_wp2_with fail
  clear D1_c D1_f D1_z
  clear D2_c D2_f D2_z
  go_loopw [5] (fun i wr => ∃ k : Nat, k ≤ m ∧ i = .int .i64 k ∧ HasBlock wr w.heap.size #[.slice of n kf, .slice or' r kr, .slice om m km] 26 ∧ HasBlock wr (w.heap.size + 1) #[.slice of' n kf', .slice or2 r kr', .slice om' m km'] 26 ∧ Below w.heap.size w wr) (fun i _ => m - (intOf i).toNat)
  case atStart => exact ⟨0, Nat.zero_le _, rfl, D1, D2, hbw⟩
  case round =>
    clear D1 D2 hbw
    obtain ⟨k, hk, rfl, D1, D2, hbw⟩ := hrel
    by_cases hlt : k < m
    · obtain ⟨l, hl⟩ := get_lt (xs := P.M) (k := k) (by rw [HM.out]; exact hlt)
      obtain ⟨mb, moff, uo, uc, rfl, hmb, cm, u1, u2, hr1⟩ := (HA.out.below hbw).guest hl
      obtain ⟨mb', moff', uo', uc', rfl, hmb', cm', u1', u2', hr2⟩ := (HB.out.below hbw).guest hl
      clear hl
      have H1 := Lib.hid hr1; clear hr1
      have H2 := Lib.hid hr2; clear hr2
      obtain ⟨D1_c, D1_f, D1_z⟩ := D1.all
      obtain ⟨D2_c, D2_f, D2_z⟩ := D2.all
      go_wp2_with fail
      refine wp_region_quiet_below (by kernel_rfl) (by kernel_rfl) ?_
      repeat (go_big_quiet_step (first | fail | (go_at_call 47; exact quiet_ret (same_num _ _ l _ (H1.out.below (below_regrown _ _ _)) (H2.out.below (below_regrown _ _ _))))))
      refine wpQuiet_nil ?_
      intro w3 hw3
      have hb3 := below_of_regrown hw3
      clear hw3
      obtain ⟨hc3, hf3⟩ := bcell hb3
      have hz3 := bsize hb3
      try simp only [sizes1] at hz3
      try simp only [sizes] at hc3 hf3
      clear hc3 hf3
      go_wp2_with fail
      go_roundw
      case rel => exact ⟨k + 1, by omega, by go_num, D1.below hb3, D2.below hb3, hbw.trans (hb3.mono hbw.size)⟩
      case measure => simp [intOf]; omega
    · obtain rfl : k = m := by omega
      obtain ⟨D1_c, D1_f, D1_z⟩ := D1.all
      obtain ⟨D2_c, D2_f, D2_z⟩ := D2.all
      go_wp2_with fail
      go_ret
      exact Ret.mk hbw
end Go.Proofs.Ytjoopjgpjkmmhaa
