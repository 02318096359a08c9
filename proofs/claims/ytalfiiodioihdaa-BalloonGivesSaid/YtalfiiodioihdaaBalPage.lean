/-
  The bytes of a page of zeros; the pages that differ; the reference's, walked.
-/
import Derived.Test.YtalfiiodioihdaaBalTells
import Derived.Laws.BytesArg
import Derived.Lib.AppendStr
namespace Go.Proofs.Ytalfiiodioihdaa
open Go.RowKit

theorem info_byte : (Try.prog.info? 5).map (fun i => (i.zero, i.size, i.bytes)) = some (some (.int .u8 0), 1, 1) := by kernel_rfl
theorem info_int : (Try.prog.info? 3).map (fun i => (i.zero, i.size, i.bytes)) = some (some (.int .i64 0), 1, 8) := by kernel_rfl
def zb (k : Nat) : List Value := List.replicate k (.int .u8 0)
theorem zb_snoc (k j : Nat) : zb k ++ zb j = zb (k + j) := List.replicate_append_replicate
theorem zb_one (k : Nat) : ∀ u ∈ zb k, u.oneCell' = true := by
  intro u hu
  rw [(List.mem_replicate.1 hu).2]; rfl
/-- Zero bytes of a row of the call's own, made a string. -/
theorem zeros_string {w : World} {base n : Nat} {v : Value} (h : w.ownsRow base 5 1 v n (zb n)) (hn : 0 < n) : ∃ g cap, v = .slice (some ⟨g, 0, none⟩) n cap ∧ n ≤ cap ∧ cap ≤ maxLen ∧ (convert 41 9 v).run Try.prog w = .ok (.string (strOfNums (List.replicate n 0))) w := by
  rcases h.2 with ⟨_, hbad⟩ | ⟨g, cap, cur, rfl, hb, hg, h1, h2, h3, h4⟩
  · omega
  · refine ⟨g, cap, rfl, h1, h2, ?_⟩
    refine run_convert_bytes_arg w 41 5 Try.underlying41 Try.underlying5 g 0 n cap (List.replicate n 0) List.length_replicate (fun i hi => ?_) 9 Try.underlying9
    rw [Nat.zero_add]
    have := h.cellAt i (by omega)
    rw [this]
    unfold zb
    rw [List.getElem?_replicate, if_pos (by omega)]
    simp [List.getD_eq_getElem?_getD, hi]
set_option maxHeartbeats 1000000 in
theorem low_zero (w : World) : Calls Try.prog 29 #[.int .u32 0, .int .i64 4] w (Ret w (.string ⟨#[0, 0, 0, 0]⟩)) := by
  obtain ⟨i0, hi, iz0, iz1, iz2⟩ := info_parts info_byte
  go_enter Try.func29, Try.ntmps29
  go_wp2_with fail
  go_loopw [5, 6] (fun v i wr => ∃ k : Nat, k ≤ 4 ∧ i = .int .i64 k ∧ wr.ownsRow w.heap.size 5 1 v k (zb k) ∧ Below w.heap.size w wr) (fun _ i _ => 4 - (intOf i).toNat)
  case atStart => exact ⟨0, by omega, rfl, World.ownsRow_nil _ _ _ _, (by repeat (first | with_reducible exact Below.refl _ _ | with_reducible refine Below.drew ?_ | (with_reducible refine Below.alloc ?_ (by first | exact Nat.le_refl _ | omega | (simp only [sizes]; omega)) _) | (with_reducible refine Below.setCell ?_ (by first | exact Nat.le_refl _ | omega | (simp only [sizes]; omega)) _) | (refine Below.trans ?_ (Below.mono (by with_reducible assumption) (by first | exact Nat.le_refl _ | omega | (simp only [sizes]; omega))))))⟩
  case round =>
    obtain ⟨k, hk, rfl, hown, hbw⟩ := hrel
    have hbs0 := hbw.size
    by_cases hlt : k < 4
    · have HO := Lib.hid hown; clear hown
      go_wp2_with (at_builtin; refine wpList_append_own _ rfl (.tmp 12) (.tmp 19) 41 rfl w.heap.size 5 i0 (.int .u8 0) 1 1 Try.underlying41 hi iz0 iz1 iz2 rfl (by decide) _ k (zb k) rfl (HO.out.alloc _) ⟨wr.heap.size, 0, none⟩ 1 1 (zb 1) rfl rfl (cells_made _ (zb 1) _ _ (by first | rfl | simp only [sizes])) (zb_one 1) (by unfold maxLen; omega) (by omega) (by first | exact Nat.le_refl _ | omega | (simp only [sizes]; omega)) ?_; intro v3 w3 hown3 hgrow3 _; have hb3 := below_append (by repeat (first | with_reducible exact Below.refl _ _ | with_reducible refine Below.drew ?_ | (with_reducible refine Below.alloc ?_ (by first | exact Nat.le_refl _ | omega | (simp only [sizes]; omega)) _) | (with_reducible refine Below.setCell ?_ (by first | exact Nat.le_refl _ | omega | (simp only [sizes]; omega)) _) | (refine Below.trans ?_ (Below.mono (by with_reducible assumption) (by first | exact Nat.le_refl _ | omega | (simp only [sizes]; omega)))))) (HO.out.alloc _) hgrow3; have hz3 := hb3.size)
      rw [zb_snoc] at hown3
      go_wp2_with fail
      go_roundw
      case rel => exact ⟨k + 1, by omega, by go_num, hown3, hb3⟩
      case measure => simp [intOf]; omega
    · obtain rfl : k = 4 := by omega
      obtain ⟨g, cap, rfl, h1, h2, hcv⟩ := zeros_string hown (by omega)
      have e : strOfNums (List.replicate 4 0) = ⟨#[0, 0, 0, 0]⟩ := by decide
      rw [e] at hcv
      clear e hown
      go_wp2_with fail
      go_ret
      exact Ret.mk (by repeat (first | with_reducible exact Below.refl _ _ | with_reducible refine Below.drew ?_ | (with_reducible refine Below.alloc ?_ (by first | exact Nat.le_refl _ | omega | (simp only [sizes]; omega)) _) | (with_reducible refine Below.setCell ?_ (by first | exact Nat.le_refl _ | omega | (simp only [sizes]; omega)) _) | (refine Below.trans ?_ (Below.mono (by with_reducible assumption) (by first | exact Nat.le_refl _ | omega | (simp only [sizes]; omega))))))
set_option maxHeartbeats 2000000 in
theorem page_zero (va : Value) (xs : List Int) (p : Nat) (w : World) (ha : MemRow w va xs) (hp : p < pagesN xs.length) (hz : ∀ j, j < 32 → xs[p * 32 + j]? = some 0) : Calls Try.prog 14 #[va, .int .i64 p] w (Ret w (.tuple #[.string zeros128, .bool true])) := by
  have hfit := pagesN_fit hp
  obtain ⟨b, off, cap, rfl, h1, h2, h0, h3, h4⟩ := ha
  have P := fun w => rpages_any (some ⟨b, off, none⟩) xs.length cap w (by omega)
  have hpl := pagesN_le xs.length
  obtain ⟨q, hq⟩ : ∃ q, pagesN xs.length = q := ⟨_, rfl⟩
  rw [hq] at P hp hpl
  have HP := Lib.hid P; clear P hq
  obtain ⟨n, hn⟩ : ∃ n, xs.length = n := ⟨_, rfl⟩
  rw [hn] at HP hfit h0 h1 ⊢
  have H4 := Lib.hid h4; clear h4 hn h2
  have HZ := Lib.hid hz; clear hz
  obtain ⟨i0, hi, iz0, iz1, iz2⟩ := info_parts info_byte
  have ez : strOfNums (List.replicate 128 0) = zeros128 := by decide +kernel
  have EZ := Lib.hid ez; clear ez
  have d1 : decide ((q : Int) ≤ p) = false := decide_eq_false (by omega)
  have d2 : decide (q ≤ p) = false := decide_eq_false (by omega)
  have d3 : decide ((p : Int) < 0) = false := decide_eq_false (by omega)
  go_enter Try.func14, Try.ntmps14
  go_wp2_with fail
  refine (HP.out _).mono ?_
  rintro e w1 ⟨rfl, hb1⟩
  obtain ⟨hc1, hf1⟩ := bcell hb1
  have hz1 := bsize hb1
  try simp only [sizes1] at hz1
  try simp only [sizes] at hc1 hf1
  clear hc1 hf1
  go_wp2_with fail
  go_loopw [6, 7] (fun v i wr => ∃ k : Nat, k ≤ 32 ∧ i = .int .i64 k ∧ wr.ownsRow w.heap.size 5 1 v (4 * k) (zb (4 * k)) ∧ Below w.heap.size w wr) (fun _ i _ => 32 - (intOf i).toNat)
  case atStart => exact ⟨0, by omega, rfl, World.ownsRow_nil _ _ _ _, (by repeat (first | with_reducible exact Below.refl _ _ | with_reducible refine Below.drew ?_ | (with_reducible refine Below.alloc ?_ (by first | exact Nat.le_refl _ | omega | (simp only [sizes]; omega)) _) | (with_reducible refine Below.setCell ?_ (by first | exact Nat.le_refl _ | omega | (simp only [sizes]; omega)) _) | (refine Below.trans ?_ (Below.mono (by with_reducible assumption) (by first | exact Nat.le_refl _ | omega | (simp only [sizes]; omega))))))⟩
  case round =>
    obtain ⟨k, hk, rfl, hown, hbw⟩ := hrel
    clear hb1
    have hbs0 := hbw.size
    by_cases hlt : k < 32
    · have hc := (hbw.cell (p := ⟨b, off + (p * 32 + k), none⟩) h3).trans (H4.out (p * 32 + k) 0 (HZ.out k hlt))
      have HO := Lib.hid hown; clear hown
      go_wp2_with fail
      refine (low_zero _).mono ?_
      rintro e w2 ⟨rfl, hb2⟩
      have hz2 := hb2.size
      go_wp2_with (at_builtin; go_must (refine Lib.wpList_append_own_string _ rfl (.tmp 20) (.tmp 28) 41 9 rfl w.heap.size 5 i0 Try.underlying41 Try.underlying9 hi iz0 iz1 iz2 _ (4 * k) (zb (4 * k)) rfl (owns_below HO.out hb2) ⟨#[0, 0, 0, 0]⟩ rfl (by unfold maxLen; exact Nat.le_trans (show 4 * k + 4 ≤ 200 by omega) (by decide)) (show 4 * k + 4 ≤ 140737488355328 by omega) (by omega) ?_; intro v3 w3 hown3 hgrow3 _; have hb3 : Below w.heap.size w w3 := below_append (by repeat (first | with_reducible exact Below.refl _ _ | with_reducible refine Below.drew ?_ | (with_reducible refine Below.alloc ?_ (by first | exact Nat.le_refl _ | omega | (simp only [sizes]; omega)) _) | (with_reducible refine Below.setCell ?_ (by first | exact Nat.le_refl _ | omega | (simp only [sizes]; omega)) _) | (refine Below.trans ?_ (Below.mono (by with_reducible assumption) (by first | exact Nat.le_refl _ | omega | (simp only [sizes]; omega)))))) (owns_below HO.out hb2) hgrow3))
      have hown4 : w3.ownsRow w.heap.size 5 1 v3 (4 * (k + 1)) (zb (4 * (k + 1))) := by
        have e : zb (4 * k) ++ Lib.strCells ⟨#[0, 0, 0, 0]⟩ = zb (4 * (k + 1)) := zb_snoc (4 * k) 4
        rw [e] at hown3
        exact hown3
      clear hown3
      go_wp2_with fail
      go_roundw
      case rel => exact ⟨k + 1, by omega, by go_num, hown4, hb3⟩
      case measure => simp [intOf]; omega
    · obtain rfl : k = 32 := by omega
      obtain ⟨g, cap, rfl, h1, h2, hcv⟩ := zeros_string hown (by omega)
      rw [EZ.out] at hcv
      clear hown
      go_wp2_with fail
      go_ret2
      exact Ret.mk (by repeat (first | with_reducible exact Below.refl _ _ | with_reducible refine Below.drew ?_ | (with_reducible refine Below.alloc ?_ (by first | exact Nat.le_refl _ | omega | (simp only [sizes]; omega)) _) | (with_reducible refine Below.setCell ?_ (by first | exact Nat.le_refl _ | omega | (simp only [sizes]; omega)) _) | (refine Below.trans ?_ (Below.mono (by with_reducible assumption) (by first | exact Nat.le_refl _ | omega | (simp only [sizes]; omega))))))
end Go.Proofs.Ytalfiiodioihdaa
