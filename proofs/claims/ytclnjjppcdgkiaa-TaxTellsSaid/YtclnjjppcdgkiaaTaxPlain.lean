/-
  Prices, victims and the division of frames: the laws in plain Lean. Nothing is walked here.
-/
import Derived.Test.YtclnjjppcdgkiaaTaxDivide
import Derived.Test.YtclnjjppcdgkiaaTaxClaims
namespace Go.Proofs.Ytclnjjppcdgkiaa

/-! prices are ratios -/
theorem ratio_trans {s1 s2 s3 c1 c2 c3 : Int} (h1 : s1 * c2 < s2 * c1) (h2 : s2 * c3 < s3 * c2) (p1 : 0 < c1) (p2 : 0 < c2) (p3 : 0 < c3) : s1 * c3 < s3 * c1 := by
  have a1 := Int.mul_lt_mul_of_pos_right h1 p3
  have a2 := Int.mul_lt_mul_of_pos_right h2 p1
  have e1 : s1 * c2 * c3 = c2 * (s1 * c3) := by ac_rfl
  have e2 : s3 * c2 * c1 = c2 * (s3 * c1) := by ac_rfl
  have e3 : s2 * c1 * c3 = s2 * c3 * c1 := by ac_rfl
  have a3 : c2 * (s1 * c3) < c2 * (s3 * c1) := by rw [← e1, ← e2]; omega
  exact Int.lt_of_mul_lt_mul_left a3 (by omega)
theorem rate_pos {a t : Int} (ha : 0 ≤ a) (ha' : a ≤ 1000) (ht : 0 ≤ t) (ht' : t ≤ 99) : 0 < a * (100 - t) + 100 * (1000 - a) := by
  have h1 := Int.mul_nonneg ha (show 0 ≤ 99 - t by omega)
  have e : a * (100 - t) = a * (99 - t) + a := by rw [show 100 - t = (99 - t) + 1 from by omega, Int.mul_add, Int.mul_one]
  omega
theorem cost_pos {c : Clm} {t : Int} (hv : validB c = true) (ht : taxB t = true) (hp : 0 < c.p) : 0 < costI c t := by
  rw [costI_yes hv ht]
  have hv' := (validB_iff c).1 hv
  have ht' := (taxB_iff t).1 ht
  exact Int.mul_pos hp (rate_pos (by omega) (by omega) (by omega) (by omega))
theorem poor_iff {x y : Clm} {t : Int} (hx : validB x = true) (hy : validB y = true) (ht : taxB t = true) : poorB x y t = true ↔ x.s * costI y t < y.s * costI x t := by
  rw [poorB_yes hx hy ht, decide_eq_true_iff]
theorem poor_valid {x y : Clm} {t : Int} (h : poorB x y t = true) : validB x = true ∧ validB y = true ∧ taxB t = true := by
  unfold poorB at h
  simp only [Bool.and_eq_true] at h
  exact ⟨h.1.1.1, h.1.1.2, h.1.2⟩
theorem poor_trans {x y z : Clm} {t : Int} (h1 : poorB x y t = true) (h2 : poorB y z t = true) (hx : 0 < x.p) (hy : 0 < y.p) (hz : 0 < z.p) : poorB x z t = true := by
  obtain ⟨vx, vy, ht⟩ := poor_valid h1
  obtain ⟨_, vz, _⟩ := poor_valid h2
  rw [poor_iff vx vy ht] at h1
  rw [poor_iff vy vz ht] at h2
  rw [poor_iff vx vz ht]
  exact ratio_trans h1 h2 (cost_pos vx ht hx) (cost_pos vy ht hy) (cost_pos vz ht hz)
theorem poor_irrefl (x : Clm) (t : Int) : poorB x x t = false := by
  cases h : poorB x x t
  · rfl
  · obtain ⟨vx, _, ht⟩ := poor_valid h
    rw [poor_iff vx vx ht] at h
    omega
theorem poor_asymm {x y : Clm} {t : Int} (h : poorB x y t = true) : poorB y x t = false := by
  cases h2 : poorB y x t
  · rfl
  · obtain ⟨vx, vy, ht⟩ := poor_valid h
    rw [poor_iff vx vy ht] at h
    rw [poor_iff vy vx ht] at h2
    omega

/-! the victim -/
theorem vic_inv {l : List Clm} {t : Int} (hv : allV l = true) : ∀ k, k ≤ l.length →
    (∀ i c, i < k → l[i]? = some c → c.r < c.p → ∃ j d, vicF l t k = (j : Nat) ∧ j < k ∧ l[j]? = some d ∧ d.r < d.p ∧ poorB c d t = false) ∧
    (0 ≤ vicF l t k → ∃ j d, vicF l t k = (j : Nat) ∧ j < k ∧ l[j]? = some d ∧ d.r < d.p)
  | 0, _ => ⟨fun i c hi => absurd hi (Nat.not_lt_zero _), fun h => by simp [vicF] at h⟩
  | k + 1, hk => by
    obtain ⟨ih1, ih2⟩ := vic_inv (t := t) hv k (by omega)
    obtain ⟨c, hc⟩ := get_lt (xs := l) (k := k) (by omega)
    have hcv := allV_at hv hc
    have hbd := vicF_bd l t k
    cases ho : vicOk l t (vicF l t k) c
    · have e := (vicF_miss rfl hc ho).symm
      rw [e]
      refine ⟨fun i c' hi hi' hp => ?_, fun h => ?_⟩
      · by_cases hik : i < k
        · obtain ⟨j, d, h1, h2, h3⟩ := ih1 i c' hik hi' hp
          exact ⟨j, d, h1, by omega, h3⟩
        · obtain rfl : i = k := by omega
          rw [hc] at hi'
          cases hi'
          by_cases hneg : vicF l t i < 0
          · rw [vicOk_first hcv hp hneg] at ho; cases ho
          · obtain ⟨j, d, h1, h2, h3, h4⟩ := ih2 (by omega)
            rw [h1, vicOk_next hcv hp h3] at ho
            exact ⟨j, d, h1, by omega, h3, h4, ho⟩
      · obtain ⟨j, d, h1, h2, h3⟩ := ih2 h
        exact ⟨j, d, h1, by omega, h3⟩
    · have e := (vicF_hit rfl hc ho).symm
      rw [e]
      have hcp : c.r < c.p := by
        by_cases h : c.r < c.p
        · exact h
        · rw [vicOk_few h] at ho; cases ho
      refine ⟨fun i c' hi hi' hp => ⟨k, c, rfl, by omega, hc, hcp, ?_⟩, fun _ => ⟨k, c, rfl, by omega, hc, hcp⟩⟩
      by_cases hik : i < k
      · obtain ⟨j, d, h1, h2, h3, h4, h5⟩ := ih1 i c' hik hi' hp
        rw [h1, vicOk_next hcv hcp h3] at ho
        cases h6 : poorB c' c t
        · rfl
        · have b1 := (validB_iff c').1 (allV_at hv hi')
          have b2 := (validB_iff c).1 hcv
          have b3 := (validB_iff d).1 (allV_at hv h3)
          rw [poor_trans h6 ho (by omega) (by omega) (by omega)] at h5
          cases h5
      · obtain rfl : i = k := by omega
        rw [hc] at hi'
        cases hi'
        exact poor_irrefl _ _
/-- The law on victims, in plain words. -/
theorem vic_law {l : List Clm} {t : Int} (hv : allV l = true) (ht : taxB t = true) :
    ((victimR l t).2 = true → ∃ j d, (victimR l t).1 = (j : Nat) ∧ j < l.length ∧ l[j]? = some d ∧ d.r < d.p) ∧
    (∀ (i : Nat) (c : Clm), l[i]? = some c → c.r < c.p → (victimR l t).2 = true ∧ ∃ j d, (victimR l t).1 = (j : Nat) ∧ j < l.length ∧ l[j]? = some d ∧ poorB c d t = false) := by
  obtain ⟨h1, h2⟩ := vic_inv (t := t) hv l.length (Nat.le_refl _)
  unfold victimR
  refine ⟨fun h => ?_, fun i c hc hp => ?_⟩
  · split at h
    · rename_i hh
      rw [if_pos hh]
      exact h2 hh.2
    · cases h
  · obtain ⟨j, d, e, hj, hd, _, hpo⟩ := h1 i c (lt_of_get hc) hc hp
    rw [if_pos ⟨ht, by omega⟩]
    exact ⟨rfl, j, d, e, hj, hd, hpo⟩
end Go.Proofs.Ytclnjjppcdgkiaa
