/-
  The reference's validity of a mirror, walked.
-/
import Derived.Test.YtfomfokgibijjaaMir
namespace Go.Proofs.Ytfomfokgibijjaa
open Go.RowKit

set_option maxHeartbeats 4000000 in
theorem rvalid_any (vs vt : Value) (S T : List ByteArray) (c : Int) (w : World) (ha : StrRow w vs S) (hb : StrRow w vt T) (hc : -9223372036854775808 ≤ c ∧ c ≤ 9223372036854775807) : Calls Try.prog 15 #[.agg #[vs, vt, .int .i64 c]] w (Ret w (.bool (validB S T c))) := by
  obtain ⟨ao, ca, rfl, a1, a2, a3⟩ := ha.out
  obtain ⟨bo, cb, rfl, b1, b2, b3⟩ := hb.out
  unfold maxLen at a2 b2
  clear ha hb
  obtain ⟨n, hn⟩ : ∃ n, S.length = n := ⟨_, rfl⟩
  obtain ⟨m, hm⟩ : ∃ n, T.length = n := ⟨_, rfl⟩
  have HN := Lib.hid hn
  have HM := Lib.hid hm
  rw [hn] at a1 a3
  rw [hm] at b1 b3
  unfold validB headB
  rw [hn, hm]
  clear hn hm
  by_cases h1 : 1 ≤ n ∧ n ≤ 64 ∧ m = n ∧ 0 ≤ c ∧ c ≤ n
  rotate_left
  · rw [decide_eq_false h1, Bool.false_and]
    by_cases g1 : n < 1
    · clear h1
      go_enter Try.func15, Try.ntmps15
      go_wp2_with fail
      go_ret
      exact Ret.mk (by repeat (first | with_reducible exact Below.refl _ _ | with_reducible refine Below.drew ?_ | (with_reducible refine Below.alloc ?_ (by first | exact Nat.le_refl _ | omega | (simp only [sizes]; omega)) _) | (with_reducible refine Below.setCell ?_ (by first | exact Nat.le_refl _ | omega | (simp only [sizes]; omega)) _) | (refine Below.trans ?_ (Below.mono (by with_reducible assumption) (by first | exact Nat.le_refl _ | omega | (simp only [sizes]; omega))))))
    by_cases g2 : 64 < n
    · clear h1
      go_enter Try.func15, Try.ntmps15
      go_wp2_with fail
      go_ret
      exact Ret.mk (by repeat (first | with_reducible exact Below.refl _ _ | with_reducible refine Below.drew ?_ | (with_reducible refine Below.alloc ?_ (by first | exact Nat.le_refl _ | omega | (simp only [sizes]; omega)) _) | (with_reducible refine Below.setCell ?_ (by first | exact Nat.le_refl _ | omega | (simp only [sizes]; omega)) _) | (refine Below.trans ?_ (Below.mono (by with_reducible assumption) (by first | exact Nat.le_refl _ | omega | (simp only [sizes]; omega))))))
    by_cases g3 : m = n
    · by_cases g4 : c < 0
      · clear h1
        subst g3
        go_enter Try.func15, Try.ntmps15
        go_wp2_with fail
        go_ret
        exact Ret.mk (by repeat (first | with_reducible exact Below.refl _ _ | with_reducible refine Below.drew ?_ | (with_reducible refine Below.alloc ?_ (by first | exact Nat.le_refl _ | omega | (simp only [sizes]; omega)) _) | (with_reducible refine Below.setCell ?_ (by first | exact Nat.le_refl _ | omega | (simp only [sizes]; omega)) _) | (refine Below.trans ?_ (Below.mono (by with_reducible assumption) (by first | exact Nat.le_refl _ | omega | (simp only [sizes]; omega))))))
      · have g5 : (m : Int) < c := by omega
        clear h1
        subst g3
        go_enter Try.func15, Try.ntmps15
        go_wp2_with fail
        go_ret
        exact Ret.mk (by repeat (first | with_reducible exact Below.refl _ _ | with_reducible refine Below.drew ?_ | (with_reducible refine Below.alloc ?_ (by first | exact Nat.le_refl _ | omega | (simp only [sizes]; omega)) _) | (with_reducible refine Below.setCell ?_ (by first | exact Nat.le_refl _ | omega | (simp only [sizes]; omega)) _) | (refine Below.trans ?_ (Below.mono (by with_reducible assumption) (by first | exact Nat.le_refl _ | omega | (simp only [sizes]; omega))))))
    · have e1 : ((m : Int) != n) = true := by rw [bne_iff_ne]; omega
      have e2 : (m != n) = true := by rw [bne_iff_ne]; omega
      clear h1
      go_enter Try.func15, Try.ntmps15
      go_wp2_with fail
      go_ret
      exact Ret.mk (by repeat (first | with_reducible exact Below.refl _ _ | with_reducible refine Below.drew ?_ | (with_reducible refine Below.alloc ?_ (by first | exact Nat.le_refl _ | omega | (simp only [sizes]; omega)) _) | (with_reducible refine Below.setCell ?_ (by first | exact Nat.le_refl _ | omega | (simp only [sizes]; omega)) _) | (refine Below.trans ?_ (Below.mono (by with_reducible assumption) (by first | exact Nat.le_refl _ | omega | (simp only [sizes]; omega))))))
  rw [decide_eq_true h1, Bool.true_and]
  obtain ⟨h1, h2, rfl, h4, h5⟩ := h1
  clear hc
  obtain ⟨b, off, rfl, hbs, hbc⟩ := a3.resolve_left (by omega)
  obtain ⟨b', off', rfl, hbs', hbc'⟩ := b3.resolve_left (by omega)
  have HC := Lib.hid hbc; clear hbc a3
  have HC' := Lib.hid hbc'; clear hbc' b3
  go_enter Try.func15, Try.ntmps15
  go_wp2_with fail
  have D0 := HasBlock.made w #[.slice (some ⟨b, off, none⟩) m ca, .slice (some ⟨b', off', none⟩) m cb, .int .i64 c] 24
  go_loopw [4] (fun i wr => ∃ k : Nat, k ≤ m ∧ i = .int .i64 k ∧ Hid (upB S T c k = true) ∧ HasBlock wr w.heap.size #[.slice (some ⟨b, off, none⟩) m ca, .slice (some ⟨b', off', none⟩) m cb, .int .i64 c] 24 ∧ Below w.heap.size w wr) (fun i _ => m - (intOf i).toNat)
  case atStart => exact ⟨0, Nat.zero_le _, rfl, rfl, D0, (by repeat (first | with_reducible exact Below.refl _ _ | with_reducible refine Below.drew ?_ | (with_reducible refine Below.alloc ?_ (by first | exact Nat.le_refl _ | omega | (simp only [sizes]; omega)) _) | (with_reducible refine Below.setCell ?_ (by first | exact Nat.le_refl _ | omega | (simp only [sizes]; omega)) _) | (refine Below.trans ?_ (Below.mono (by with_reducible assumption) (by first | exact Nat.le_refl _ | omega | (simp only [sizes]; omega))))))⟩
  case round =>
    obtain ⟨k, hk, rfl, hU, D, hbw⟩ := hrel
    clear D0
    have hz0 := hbw.size
    have x0 := (D.cell 0).trans rfl
    have x1 := (D.cell 1).trans rfl
    have x2 := (D.cell 2).trans rfl
    have xz := D.lt
    have hbs2 : b < wr.heap.size := by omega
    have hbs2' : b' < wr.heap.size := by omega
    by_cases hlt : k < m
    · obtain ⟨x, hx⟩ := get_lt (xs := S) (k := k) (by rw [HN.out]; exact hlt)
      obtain ⟨y, hy⟩ := get_lt (xs := T) (k := k) (by rw [HM.out]; exact hlt)
      have c1 := (hbw.cell (p := ⟨b, off + k, none⟩) hbs).trans (HC.out k x hx)
      have c2 := (hbw.cell (p := ⟨b', off' + k, none⟩) hbs').trans (HC'.out k y hy)
      have HX := Lib.hid hx; clear hx
      have HY := Lib.hid hy; clear hy
      by_cases q1 : x.size = 128
      · have xe1 : ((x.size : Int) != 128) = false := by rw [bne_eq_false_iff_eq]; omega
        have xe2 : (x.size != 128) = false := by rw [bne_eq_false_iff_eq]; omega
        by_cases q2 : y.size = 128
        · have ye1 : ((y.size : Int) != 128) = false := by rw [bne_eq_false_iff_eq]; omega
          have ye2 : (y.size != 128) = false := by rw [bne_eq_false_iff_eq]; omega
          by_cases q3 : (k : Int) < c
          · have g1 : decide ((k : Int) < c) = true := decide_eq_true q3
            by_cases hxy : x = y
            · have hup : upB S T c (k + 1) = true := by
                rw [upB, hU.out, elB_eq HX.out HY.out, decide_eq_true q1, decide_eq_true q2, decide_eq_true hxy]; simp
              have HUP := Lib.hid hup; clear hup
              clear q1 q2
              subst hxy
              go_wp2_with fail
              refine wp_region_quiet_below (by kernel_rfl) (by kernel_rfl) ?_
              repeat (go_big_quiet_step (first | fail | fail))
              refine wpQuiet_nil ?_
              intro w3 hw3
              have hb3 := below_of_regrown hw3
              clear hw3
              obtain ⟨hc3, hf3⟩ := bcell hb3
              have hz3 := bsize hb3
              try simp only [sizes1] at hz3
              try simp only [sizes] at hc3 hf3
              go_wp2_with fail
              go_roundw
              case rel => exact ⟨k + 1, by omega, by go_num, HUP.out, D.below hb3, (by repeat (first | with_reducible exact Below.refl _ _ | with_reducible refine Below.drew ?_ | (with_reducible refine Below.alloc ?_ (by first | exact Nat.le_refl _ | omega | (dsimp only; omega) | (simp only [sizes]; omega)) _) | (with_reducible refine Below.setCell ?_ (by first | exact Nat.le_refl _ | omega | (dsimp only; omega) | (simp only [sizes]; omega)) _) | (refine Below.trans ?_ (Below.mono (by with_reducible assumption) (by first | exact Nat.le_refl _ | omega | (dsimp only; omega) | (simp only [sizes]; omega))))))⟩
              case measure => simp [intOf]; omega
            · have hne2 := toList_ne hxy
              have hel : elB S T c k = false := by rw [elB_eq HX.out HY.out]; simp [hxy, q3]
              have HE := Lib.hid (upB_false hel hlt); clear hel
              clear q1 q2 hxy
              go_wp2_with fail
              refine wp_region_quiet_below (by kernel_rfl) (by kernel_rfl) ?_
              repeat (go_big_quiet_step (first | fail | fail))
              refine wpQuiet_nil ?_
              intro w3 hw3
              have hb3 := below_of_regrown hw3
              clear hw3
              obtain ⟨hc3, hf3⟩ := bcell hb3
              have hz3 := bsize hb3
              try simp only [sizes1] at hz3
              try simp only [sizes] at hc3 hf3
              go_wp2_with fail
              go_ret
              exact Ret.mk' (by rw [HE.out]; rfl) (by repeat (first | with_reducible exact Below.refl _ _ | with_reducible refine Below.drew ?_ | (with_reducible refine Below.alloc ?_ (by first | exact Nat.le_refl _ | omega | (dsimp only; omega) | (simp only [sizes]; omega)) _) | (with_reducible refine Below.setCell ?_ (by first | exact Nat.le_refl _ | omega | (dsimp only; omega) | (simp only [sizes]; omega)) _) | (refine Below.trans ?_ (Below.mono (by with_reducible assumption) (by first | exact Nat.le_refl _ | omega | (dsimp only; omega) | (simp only [sizes]; omega))))))
          · have hup : upB S T c (k + 1) = true := by
              rw [upB, hU.out, elB_eq HX.out HY.out, decide_eq_true q1, decide_eq_true q2, decide_eq_true (show c ≤ (k : Int) by omega)]; simp
            have HUP := Lib.hid hup; clear hup
            have g1 : decide ((k : Int) < c) = false := decide_eq_false q3
            clear q1 q2
            go_wp2_with fail
            refine wp_region_quiet_below (by kernel_rfl) (by kernel_rfl) ?_
            repeat (go_big_quiet_step (first | fail | fail))
            refine wpQuiet_nil ?_
            intro w3 hw3
            have hb3 := below_of_regrown hw3
            clear hw3
            obtain ⟨hc3, hf3⟩ := bcell hb3
            have hz3 := bsize hb3
            try simp only [sizes1] at hz3
            try simp only [sizes] at hc3 hf3
            go_wp2_with fail
            go_roundw
            case rel => exact ⟨k + 1, by omega, by go_num, HUP.out, D.below hb3, (by repeat (first | with_reducible exact Below.refl _ _ | with_reducible refine Below.drew ?_ | (with_reducible refine Below.alloc ?_ (by first | exact Nat.le_refl _ | omega | (dsimp only; omega) | (simp only [sizes]; omega)) _) | (with_reducible refine Below.setCell ?_ (by first | exact Nat.le_refl _ | omega | (dsimp only; omega) | (simp only [sizes]; omega)) _) | (refine Below.trans ?_ (Below.mono (by with_reducible assumption) (by first | exact Nat.le_refl _ | omega | (dsimp only; omega) | (simp only [sizes]; omega))))))⟩
            case measure => simp [intOf]; omega
        · have ye1 : ((y.size : Int) != 128) = true := by rw [bne_iff_ne]; omega
          have ye2 : (y.size != 128) = true := by rw [bne_iff_ne]; omega
          have hel : elB S T c k = false := by rw [elB_eq HX.out HY.out]; simp [q2]
          have HE := Lib.hid (upB_false hel hlt); clear hel
          clear q1 q2
          go_wp2_with fail
          refine wp_region_quiet_below (by kernel_rfl) (by kernel_rfl) ?_
          repeat (go_big_quiet_step (first | fail | fail))
          refine wpQuiet_nil ?_
          intro w3 hw3
          have hb3 := below_of_regrown hw3
          clear hw3
          obtain ⟨hc3, hf3⟩ := bcell hb3
          have hz3 := bsize hb3
          try simp only [sizes1] at hz3
          try simp only [sizes] at hc3 hf3
          go_wp2_with fail
          go_ret
          exact Ret.mk' (by rw [HE.out]; rfl) (by repeat (first | with_reducible exact Below.refl _ _ | with_reducible refine Below.drew ?_ | (with_reducible refine Below.alloc ?_ (by first | exact Nat.le_refl _ | omega | (dsimp only; omega) | (simp only [sizes]; omega)) _) | (with_reducible refine Below.setCell ?_ (by first | exact Nat.le_refl _ | omega | (dsimp only; omega) | (simp only [sizes]; omega)) _) | (refine Below.trans ?_ (Below.mono (by with_reducible assumption) (by first | exact Nat.le_refl _ | omega | (dsimp only; omega) | (simp only [sizes]; omega))))))
      · have xe1 : ((x.size : Int) != 128) = true := by rw [bne_iff_ne]; omega
        have xe2 : (x.size != 128) = true := by rw [bne_iff_ne]; omega
        have hel : elB S T c k = false := by rw [elB_eq HX.out HY.out]; simp [q1]
        have HE := Lib.hid (upB_false hel hlt); clear hel
        clear q1
        go_wp2_with fail
        refine wp_region_quiet_below (by kernel_rfl) (by kernel_rfl) ?_
        repeat (go_big_quiet_step (first | fail | fail))
        refine wpQuiet_nil ?_
        intro w3 hw3
        have hb3 := below_of_regrown hw3
        clear hw3
        obtain ⟨hc3, hf3⟩ := bcell hb3
        have hz3 := bsize hb3
        try simp only [sizes1] at hz3
        try simp only [sizes] at hc3 hf3
        go_wp2_with fail
        go_ret
        exact Ret.mk' (by rw [HE.out]; rfl) (by repeat (first | with_reducible exact Below.refl _ _ | with_reducible refine Below.drew ?_ | (with_reducible refine Below.alloc ?_ (by first | exact Nat.le_refl _ | omega | (dsimp only; omega) | (simp only [sizes]; omega)) _) | (with_reducible refine Below.setCell ?_ (by first | exact Nat.le_refl _ | omega | (dsimp only; omega) | (simp only [sizes]; omega)) _) | (refine Below.trans ?_ (Below.mono (by with_reducible assumption) (by first | exact Nat.le_refl _ | omega | (dsimp only; omega) | (simp only [sizes]; omega))))))
    · obtain rfl : k = m := by omega
      go_wp2_with fail
      go_ret
      exact Ret.mk' (by rw [hU.out]; rfl) (by repeat (first | with_reducible exact Below.refl _ _ | with_reducible refine Below.drew ?_ | (with_reducible refine Below.alloc ?_ (by first | exact Nat.le_refl _ | omega | (dsimp only; omega) | (simp only [sizes]; omega)) _) | (with_reducible refine Below.setCell ?_ (by first | exact Nat.le_refl _ | omega | (dsimp only; omega) | (simp only [sizes]; omega)) _) | (refine Below.trans ?_ (Below.mono (by with_reducible assumption) (by first | exact Nat.le_refl _ | omega | (dsimp only; omega) | (simp only [sizes]; omega))))))
end Go.Proofs.Ytfomfokgibijjaa
