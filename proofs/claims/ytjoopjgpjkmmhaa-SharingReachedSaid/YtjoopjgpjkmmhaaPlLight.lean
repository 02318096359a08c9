/-
  Whether a pool is small, walked.
-/
import Derived.Test.YtjoopjgpjkmmhaaPlOwn
namespace Go.Proofs.Ytjoopjgpjkmmhaa
open Go.RowKit

/-- The answer is yes only where the pool is small. -/
def RetLight (P : Pl) (w : World) (e : Ending) (w' : World) : Prop := ∃ b : Bool, e = .returned (.bool b) ∧ (b = true → P.small) ∧ Below w.heap.size w w'
set_option maxHeartbeats 2000000 in
theorem light_any (v : Value) (P : Pl) (w : World) (h : PlRow w v P) : Calls Try.prog 8 #[v] w (RetLight P w) := by
  obtain ⟨of, or', om, kf, kr, km, rfl, kf1, kf2, kr1, kr2, km1, km2⟩ := h.form
  obtain ⟨n, hn⟩ : ∃ n, P.F.length = n := ⟨_, rfl⟩
  obtain ⟨r, hr⟩ : ∃ n, P.R.length = n := ⟨_, rfl⟩
  obtain ⟨m, hm⟩ : ∃ n, P.M.length = n := ⟨_, rfl⟩
  rw [hn] at h kf1 ⊢
  rw [hr] at h kr1 ⊢
  rw [hm] at h km1 ⊢
  have HN := Lib.hid hn; clear hn
  have HR := Lib.hid hr; clear hr
  have HM := Lib.hid hm; clear hm
  have hbw : Below w.heap.size w (w.alloc (.cells #[.slice of n kf, .slice or' r kr, .slice om m km] 26)) := (Below.refl _ _).alloc (Nat.le_refl _) _
  by_cases g1 : 120 < n
  · go_enter Try.func8, Try.ntmps8
    go_wp2_with fail
    go_ret
    exact ⟨false, rfl, (fun h => by cases h), (by repeat (first | with_reducible exact Below.refl _ _ | with_reducible refine Below.drew ?_ | (with_reducible refine Below.alloc ?_ (by first | exact Nat.le_refl _ | omega | (dsimp only; omega) | (simp only [sizes]; omega)) _) | (with_reducible refine Below.setCell ?_ (by first | exact Nat.le_refl _ | omega | (dsimp only; omega) | (simp only [sizes]; omega)) _) | (refine Below.trans ?_ (Below.mono (by with_reducible assumption) (by first | exact Nat.le_refl _ | omega | (dsimp only; omega) | (simp only [sizes]; omega))))))⟩
  by_cases g2 : 120 < r
  · go_enter Try.func8, Try.ntmps8
    go_wp2_with fail
    go_ret
    exact ⟨false, rfl, (fun h => by cases h), (by repeat (first | with_reducible exact Below.refl _ _ | with_reducible refine Below.drew ?_ | (with_reducible refine Below.alloc ?_ (by first | exact Nat.le_refl _ | omega | (dsimp only; omega) | (simp only [sizes]; omega)) _) | (with_reducible refine Below.setCell ?_ (by first | exact Nat.le_refl _ | omega | (dsimp only; omega) | (simp only [sizes]; omega)) _) | (refine Below.trans ?_ (Below.mono (by with_reducible assumption) (by first | exact Nat.le_refl _ | omega | (dsimp only; omega) | (simp only [sizes]; omega))))))⟩
  by_cases g3 : 12 < m
  · go_enter Try.func8, Try.ntmps8
    go_wp2_with fail
    go_ret
    exact ⟨false, rfl, (fun h => by cases h), (by repeat (first | with_reducible exact Below.refl _ _ | with_reducible refine Below.drew ?_ | (with_reducible refine Below.alloc ?_ (by first | exact Nat.le_refl _ | omega | (dsimp only; omega) | (simp only [sizes]; omega)) _) | (with_reducible refine Below.setCell ?_ (by first | exact Nat.le_refl _ | omega | (dsimp only; omega) | (simp only [sizes]; omega)) _) | (refine Below.trans ?_ (Below.mono (by with_reducible assumption) (by first | exact Nat.le_refl _ | omega | (dsimp only; omega) | (simp only [sizes]; omega))))))⟩
  have D1 := HasBlock.made w #[.slice of n kf, .slice or' r kr, .slice om m km] 26
  have hrow := h.below hbw
  clear h
  go_enter Try.func8, Try.ntmps8
  go_wp2_with fail
  generalize hW : w.alloc (.cells #[.slice of n kf, .slice or' r kr, .slice om m km] 26) = w1 at D1 hbw hrow ⊢
  clear hW
  obtain ⟨D1_c, D1_f, D1_z⟩ := D1.all
  go_loop [3] (fun i => ∃ k : Nat, k ≤ m ∧ i = .int .i64 k ∧ Hid (∀ l ∈ P.M.take k, l.length ≤ 60)) (fun i => m - (intOf i).toNat)
  case atStart => exact ⟨0, Nat.zero_le _, rfl, fun l hl => by simp at hl⟩
  case round =>
    obtain ⟨k, hk, rfl, hA⟩ := hrel
    by_cases hlt : k < m
    · obtain ⟨l, hl⟩ := get_lt (xs := P.M) (k := k) (by rw [HM.out]; exact hlt)
      obtain ⟨mb, moff, uo, uc, rfl, hmb, cm, u1, u2, hr⟩ := hrow.guest hl
      clear hr
      by_cases g4 : 60 < l.length
      · clear hl
        go_wp2_with fail
        go_ret
        exact ⟨false, rfl, (fun h => by cases h), hbw⟩
      · have hup : ∀ l' ∈ P.M.take (k + 1), l'.length ≤ 60 := by
          intro l' hl'
          rw [List.take_add_one, hl, List.mem_append] at hl'
          rcases hl' with hl' | hl'
          · exact hA.out l' hl'
          · simp at hl'
            subst hl'
            omega
        have HUP := Lib.hid hup; clear hup hl
        go_wp2_with fail
        go_round
        case rel => exact ⟨k + 1, by omega, by go_num, HUP.out⟩
        case measure => simp [intOf]; omega
    · obtain rfl : k = m := by omega
      have hall : ∀ l ∈ P.M, l.length ≤ 60 := by
        have h := hA.out
        rw [List.take_of_length_le (by rw [HM.out]; exact Nat.le_refl _)] at h
        exact h
      have HALL := Lib.hid hall; clear hall
      go_wp2_with fail
      go_loop [4] (fun i => ∃ k : Nat, k ≤ n ∧ i = .int .i64 k) (fun i => n - (intOf i).toNat)
      case atStart => exact ⟨0, Nat.zero_le _, rfl⟩
      case round =>
        obtain ⟨j, hj, rfl⟩ := hrel
        by_cases hlt : j < n
        · obtain ⟨s, hs⟩ := get_lt (xs := P.F) (k := j) (by rw [HN.out]; exact hlt)
          obtain ⟨fb, foff, rfl, hfb, cf⟩ := hrow.parts.1.elem hs
          clear hs
          by_cases g5 : 300 < s.size
          · go_wp2_with fail
            go_ret
            exact ⟨false, rfl, (fun h => by cases h), hbw⟩
          · go_wp2_with fail
            go_round
            case rel => exact ⟨j + 1, by omega, by go_num⟩
            case measure => simp [intOf]; omega
        · obtain rfl : j = n := by omega
          go_wp2_with fail
          go_ret
          exact ⟨true, rfl, (fun _ => ⟨by rw [HN.out]; omega, by rw [HR.out]; omega, by rw [HM.out]; omega, fun l hl => by have := HALL.out l hl; omega⟩), hbw⟩
end Go.Proofs.Ytjoopjgpjkmmhaa
