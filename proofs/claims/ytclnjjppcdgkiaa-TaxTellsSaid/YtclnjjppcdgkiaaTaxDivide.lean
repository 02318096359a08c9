/-
  The division of frames in plain Lean: what Targets computes, and what is known of it. Nothing is walked here.
-/
import Derived.Test.YtclnjjppcdgkiaaTaxRichest
namespace Go.Proofs.Ytclnjjppcdgkiaa
open Go.RowKit

def sumI : List Int → Int
  | [] => 0
  | x :: xs => x + sumI xs
theorem sumI_append (xs ys : List Int) : sumI (xs ++ ys) = sumI xs + sumI ys := by
  induction xs with
  | nil => simp [sumI]
  | cons x xs ih => simp only [List.cons_append, sumI, ih]; omega
def resv (cs : List Clm) : List Int := cs.map (·.r)
theorem resv_take {cs : List Clm} {k : Nat} {c : Clm} (h : cs[k]? = some c) : resv (cs.take (k + 1)) = resv (cs.take k) ++ [c.r] := by
  rw [List.take_add_one, h]; simp [resv]
theorem sum_take {cs : List Clm} {k : Nat} {c : Clm} (h : cs[k]? = some c) : sumI (resv (cs.take (k + 1))) = sumI (resv (cs.take k)) + c.r := by
  rw [resv_take h, sumI_append]; simp [sumI]
def allV (cs : List Clm) : Bool := cs.all validB
theorem allV_take {cs : List Clm} {k : Nat} {c : Clm} (h : cs[k]? = some c) (h1 : allV (cs.take k) = true) (h2 : validB c = true) : allV (cs.take (k + 1)) = true := by
  unfold allV at *
  rw [List.take_add_one, h, List.all_append, h1]
  simp [h2]
theorem allV_not {cs : List Clm} {k : Nat} {c : Clm} (h : cs[k]? = some c) (h2 : validB c = false) : allV cs = false := by
  unfold allV
  rw [List.all_eq_false]
  exact ⟨c, List.mem_of_getElem? h, by simp [h2]⟩
theorem allV_at {cs : List Clm} {k : Nat} {c : Clm} (h1 : allV cs = true) (h : cs[k]? = some c) : validB c = true := by
  unfold allV at h1
  rw [List.all_eq_true] at h1
  exact h1 c (List.mem_of_getElem? h)
/-- The sum of some of the reservations is no more than the sum of all. -/
theorem sumI_nonneg : ∀ xs : List Int, (∀ x ∈ xs, 0 ≤ x) → 0 ≤ sumI xs
  | [], _ => by simp [sumI]
  | x :: xs, h => by
    have := sumI_nonneg xs (fun y hy => h y (List.mem_cons_of_mem _ hy))
    have := h x (List.mem_cons_self ..)
    simp only [sumI]; omega
theorem sum_take_le {cs : List Clm} (hv : allV cs = true) (k : Nat) : sumI (resv (cs.take k)) ≤ sumI (resv cs) := by
  have e : resv cs = resv (cs.take k) ++ resv (cs.drop k) := by unfold resv; rw [← List.map_append, List.take_append_drop]
  rw [e, sumI_append]
  have : 0 ≤ sumI (resv (cs.drop k)) := sumI_nonneg _ (fun x hx => by
    unfold resv at hx
    rw [List.mem_map] at hx
    obtain ⟨c, hc, rfl⟩ := hx
    obtain ⟨j, hj⟩ := List.getElem?_of_mem (List.mem_of_mem_drop hc)
    have := (validB_iff c).1 (allV_at hv hj)
    omega)
  omega
theorem sum_bd {cs : List Clm} (hv : allV cs = true) (_hl : cs.length ≤ 8) : 0 ≤ sumI (resv cs) ∧ sumI (resv cs) ≤ 96 * cs.length := by
  clear _hl
  induction cs with
  | nil => simp [resv, sumI]
  | cons c cs ih =>
    have h1 : validB c = true := allV_at hv (k := 0) rfl
    have h2 : allV cs = true := by unfold allV at *; rw [List.all_cons, Bool.and_eq_true] at hv; exact hv.2
    have := ih h2
    have := (validB_iff c).1 h1
    simp only [resv, List.map_cons, sumI, List.length_cons] at *
    omega

def bump (fr : List Int) (i : Int) : List Int := match fr[i.toNat]? with
  | some f => fr.set i.toNat (f + 1)
  | none => fr
def give (cs : List Clm) (t : Int) : Nat → List Int → List Int
  | 0, fr => fr
  | k + 1, fr => if (ricF cs fr t cs.length).1 < 0 then fr else give cs t k (bump fr (ricF cs fr t cs.length).1)
def goodT (cs : List Clm) (total t : Int) : Bool := decide (cs.length ≤ 8 ∧ 0 ≤ total ∧ total ≤ 96) && taxB t && allV cs && decide (sumI (resv cs) ≤ total)
def targetsL (cs : List Clm) (total t : Int) : List Int := if goodT cs total t = true then give cs t (total - sumI (resv cs)).toNat (resv cs) else []

/-- Every guest has frames from 0 to 96. -/
def Fine (cs : List Clm) (fr : List Int) : Prop := fr.length = cs.length ∧ ∀ (i : Nat) (f : Int), fr[i]? = some f → 0 ≤ f ∧ f ≤ 96
theorem Fine.resv {cs : List Clm} (hv : allV cs = true) : Fine cs (resv cs) := by
  refine ⟨by simp [Go.Proofs.Ytclnjjppcdgkiaa.resv], fun i f h => ?_⟩
  unfold Go.Proofs.Ytclnjjppcdgkiaa.resv at h
  rw [List.getElem?_map] at h
  cases hc : cs[i]? with
  | none => rw [hc] at h; simp at h
  | some c =>
    rw [hc] at h
    simp at h
    have := (validB_iff c).1 (allV_at hv hc)
    omega
/-- The richest guest is below its limit. -/
theorem ricF_pos {cs : List Clm} {fr : List Int} {t : Int} : ∀ (k : Nat), 0 ≤ (ricF cs fr t k).1 → ∃ (j : Nat) (c : Clm) (f : Int), (ricF cs fr t k).1 = j ∧ j < k ∧ cs[j]? = some c ∧ fr[j]? = some f ∧ f < c.l
  | 0, h => by simp [ricF] at h
  | k + 1, h => by
    have ih := ricF_pos (cs := cs) (fr := fr) (t := t) k
    unfold ricF at h ⊢
    split
    · rename_i c f hc hf
      rw [hc, hf] at h
      dsimp only at h
      unfold ricStep at h ⊢
      split
      · rename_i h1
        rw [if_pos h1] at h
        obtain ⟨j, c, f, h1, h2, h3⟩ := ih h
        exact ⟨j, c, f, h1, by omega, h3⟩
      · rename_i h1
        rw [if_neg h1] at h
        split
        · exact ⟨k, c, f, rfl, by omega, hc, hf, by omega⟩
        · rename_i h2
          rw [if_neg h2] at h
          obtain ⟨j, c, f, h1, h2, h3⟩ := ih h
          exact ⟨j, c, f, h1, by omega, h3⟩
    · rename_i hno
      split at h
      · rename_i c f hc hf
        exact absurd hf (hno c f hc)
      · obtain ⟨j, c, f, h1, h2, h3⟩ := ih h
        exact ⟨j, c, f, h1, by omega, h3⟩
theorem Fine.bump {cs : List Clm} {fr : List Int} (h : Fine cs fr) (hv : allV cs = true) {j : Nat} {c : Clm} {f : Int} (hc : cs[j]? = some c) (hf : fr[j]? = some f) (hlt : f < c.l) : Fine cs (fr.set j (f + 1)) := by
  refine ⟨by rw [List.length_set]; exact h.1, fun i g hg => ?_⟩
  rw [List.getElem?_set] at hg
  have := (validB_iff c).1 (allV_at hv hc)
  have := h.2 j f hf
  split at hg
  · split at hg
    · simp at hg; omega
    · simp at hg
  · exact h.2 i g hg
end Go.Proofs.Ytclnjjppcdgkiaa
