/-
  The claims made of a list of numbers, walked.
-/
import Derived.Test.YtclnjjppcdgkiaaTaxRows
import Derived.Test.YtclnjjppcdgkiaaTaxNext
namespace Go.Proofs.Ytclnjjppcdgkiaa
open Go.RowKit

theorem info_claim : (Try.prog.info? 23).map (fun i => (i.zero, i.size, i.bytes)) = some (some (.agg #[.int .i64 0, .int .i64 0, .int .i64 0, .int .i64 0, .int .i64 0]), 5, 40) := by kernel_rfl

def claimL (xs : List Int) : List Clm := xs.map claimI
theorem claimL_take {xs : List Int} {k : Nat} {x : Int} (h : xs[k]? = some x) : (claimL (xs.take (k + 1))).flatMap clmCells = (claimL (xs.take k)).flatMap clmCells ++ clmCells (claimI x) := by
  rw [List.take_add_one, h]; simp [claimL]
theorem clm_one (c : Clm) : ∀ u ∈ clmCells c, u.oneCell' = true := by
  intro u hu
  simp only [clmCells, List.mem_cons, List.not_mem_nil, or_false] at hu
  rcases hu with rfl | rfl | rfl | rfl | rfl <;> rfl

set_option maxHeartbeats 2000000 in
theorem claims_any (va : Value) (xs : List Int) (w : World) (ha : IntRow w va xs) (hl : xs.length ≤ 1000) :
    Calls Try.prog 28 #[va] w (fun e w' => ∃ v, e = .returned v ∧ ClmRow w' v (claimL xs) ∧ Below w.heap.size w w') := by
  obtain ⟨ao, ca, rfl, a1, a2, a3⟩ := ha.out
  unfold maxLen at a2
  clear ha
  obtain ⟨n, hn⟩ : ∃ n, xs.length = n := ⟨_, rfl⟩
  rw [hn] at a1 a3 hl ⊢
  have HN := Lib.hid hn; clear hn
  obtain ⟨i0, hi, iz0, iz1, iz2⟩ := info_parts info_claim
  go_enter Try.func28, Try.ntmps28
  go_wp2_with fail
  go_loopw [3, 4] (fun v i wr => ∃ k : Nat, k ≤ n ∧ i = .int .i64 k ∧ wr.ownsRow w.heap.size 23 5 v k ((claimL (xs.take k)).flatMap clmCells) ∧ Below w.heap.size w wr) (fun _ i _ => n - (intOf i).toNat)
  case atStart => exact ⟨0, Nat.zero_le _, rfl, World.ownsRow_nil _ _ _ _, (by repeat (first | with_reducible exact Below.refl _ _ | with_reducible refine Below.drew ?_ | (with_reducible refine Below.alloc ?_ (by first | exact Nat.le_refl _ | omega | (simp only [sizes]; omega)) _) | (with_reducible refine Below.setCell ?_ (by first | exact Nat.le_refl _ | omega | (simp only [sizes]; omega)) _) | (refine Below.trans ?_ (Below.mono (by with_reducible assumption) (by first | exact Nat.le_refl _ | omega | (simp only [sizes]; omega))))))⟩
  case round =>
    obtain ⟨k, hk, rfl, hown, hbw⟩ := hrel
    have hbs0 := hbw.size
    by_cases hlt : k < n
    · obtain ⟨x, hx⟩ := get_lt (xs := xs) (k := k) (by rw [HN.out]; exact hlt)
      obtain ⟨b, off, rfl, hbs, hbc⟩ := a3.resolve_left (by omega)
      have hc := (hbw.cell (p := ⟨b, off + k, none⟩) hbs).trans (hbc k x hx)
      have HX := Lib.hid hx; clear hx a3 hbc
      have HO := Lib.hid hown; clear hown
      go_wp2_with fail
      refine (claim_any x _).mono ?_
      rintro e w1 ⟨rfl, hb1⟩
      obtain ⟨hc1, hf1⟩ := bcell hb1
      have hz1 := bsize hb1
      try simp only [sizes1] at hz1
      try simp only [sizes] at hc1 hf1
      go_wp2_with (at_builtin; refine wpList_append_own _ rfl (.tmp 11) (.tmp 17) 24 rfl w.heap.size 23 i0 (.agg #[.int .i64 0, .int .i64 0, .int .i64 0, .int .i64 0, .int .i64 0]) 5 40 Try.underlying24 hi iz0 iz1 iz2 rfl (by decide) _ k ((claimL (xs.take k)).flatMap clmCells) rfl ((owns_below HO.out hb1).alloc _) ⟨w1.heap.size, 0, none⟩ 1 1 (clmCells (claimI x)) rfl rfl (cells_made _ (clmCells (claimI x)) _ _ (by first | rfl | simp only [sizes])) (clm_one _) (by unfold maxLen; omega) (by omega) (by first | exact Nat.le_refl _ | omega | (simp only [sizes]; omega)) ?_; intro v2 w2 hown2 hgrow2 _; have hb2 := below_append (by repeat (first | with_reducible exact Below.refl _ _ | with_reducible refine Below.drew ?_ | (with_reducible refine Below.alloc ?_ (by first | exact Nat.le_refl _ | omega | (simp only [sizes]; omega)) _) | (with_reducible refine Below.setCell ?_ (by first | exact Nat.le_refl _ | omega | (simp only [sizes]; omega)) _) | (refine Below.trans ?_ (Below.mono (by with_reducible assumption) (by first | exact Nat.le_refl _ | omega | (simp only [sizes]; omega)))))) ((owns_below HO.out hb1).alloc _) hgrow2; have hz2 := hb2.size)
      go_wp2_with fail
      go_roundw
      case rel => exact ⟨k + 1, by omega, by go_num, by rw [claimL_take HX.out]; exact hown2, hb2⟩
      case measure => simp [intOf]; omega
    · obtain rfl : k = n := by omega
      have hall : xs.take k = xs := by rw [← HN.out]; exact List.take_length
      have HA := Lib.hid hall; clear hall
      have HO := Lib.hid hown; clear hown
      go_wp2_with fail
      go_ret
      refine ⟨_, rfl, ?_, (by repeat (first | with_reducible exact Below.refl _ _ | with_reducible refine Below.drew ?_ | (with_reducible refine Below.alloc ?_ (by first | exact Nat.le_refl _ | omega | (simp only [sizes]; omega)) _) | (with_reducible refine Below.setCell ?_ (by first | exact Nat.le_refl _ | omega | (simp only [sizes]; omega)) _) | (refine Below.trans ?_ (Below.mono (by with_reducible assumption) (by first | exact Nat.le_refl _ | omega | (simp only [sizes]; omega))))))⟩
      have := HO.out
      rw [HA.out] at this
      have hr := RowAt.of_owns this
      have hlen : (claimL xs).length = k := by rw [← HN.out]; simp [claimL]
      unfold ClmRow
      rw [hlen]
      exact hr
end Go.Proofs.Ytclnjjppcdgkiaa
