/-
  The first place of a word in a slice of strings: walked by the library's contract.
-/
import Derived.Test.YtjoopjgpjkmmhaaPlOwn
import Derived.Test.YtjoopjgpjkmmhaaShelf
namespace Go.Proofs.Ytjoopjgpjkmmhaa
open Go.RowKit

theorem firstOf_some {L : List ByteArray} {s : ByteArray} {k : Nat} : firstOf L s = some k ↔ L[k]? = some s ∧ ∀ j, j < k → L[j]? ≠ some s := by
  unfold firstOf
  rw [List.findIdx?_eq_some_iff_getElem]
  constructor
  · rintro ⟨h, h1, h2⟩
    rw [decide_eq_true_eq] at h1
    refine ⟨by rw [List.getElem?_eq_getElem h, h1], fun j hj e => ?_⟩
    have hjl : j < L.length := Nat.lt_trans hj h
    rw [List.getElem?_eq_getElem hjl] at e
    injection e with e
    have := h2 j hj
    rw [e] at this
    simp at this
  · rintro ⟨h1, h2⟩
    have h := lt_of_get h1
    refine ⟨h, ?_, fun j hj => ?_⟩
    · rw [List.getElem?_eq_getElem h] at h1
      injection h1 with h1
      rw [decide_eq_true_eq]
      exact h1
    · have hjl : j < L.length := Nat.lt_trans hj h
      have := h2 j hj
      rw [List.getElem?_eq_getElem hjl] at this
      simp only [decide_eq_true_eq]
      exact fun e => this (by rw [e])
theorem firstOf_none {L : List ByteArray} {s : ByteArray} : firstOf L s = none ↔ ∀ j : Nat, L[j]? ≠ some s := by
  unfold firstOf
  rw [List.findIdx?_eq_none_iff]
  constructor
  · intro h j e
    have := h s (List.mem_of_getElem? e)
    simp at this
  · intro h x hx
    obtain ⟨j, hj⟩ := List.getElem?_of_mem hx
    rw [decide_eq_false_iff_not]
    rintro rfl
    exact h j hj
def idxI (L : List ByteArray) (s : ByteArray) : Int := match firstOf L s with | some k => k | none => -1
theorem idxBy_str (L : List ByteArray) (s : ByteArray) : Lib.idxBy (fun x y : ByteArray => x.toList == y.toList) L s = idxI L s := by
  unfold idxI
  have hne : ∀ {x y : ByteArray}, x ≠ y → (x.toList == y.toList) = false := fun h => toList_ne h
  cases h : firstOf L s with
  | none =>
    have h1 := firstOf_none.1 h
    have := Lib.idxBy_miss (fun x y : ByteArray => x.toList == y.toList) L L.length s (fun j hj => hne (fun e => h1 j (by rw [e]; simp [List.getElem?_eq_getElem hj, List.getElem!_eq_getElem?_getD])))
    rwa [List.take_length] at this
  | some k =>
    obtain ⟨h1, h2⟩ := firstOf_some.1 h
    have hk := lt_of_get h1
    have e : ∀ {j : Nat} {t : ByteArray}, L[j]? = some t → L[j]! = t := fun h => by rw [List.getElem!_eq_getElem?_getD, h]; rfl
    have := Lib.idxBy_hit (fun x y : ByteArray => x.toList == y.toList) L L.length k s hk (Nat.le_refl _) (by rw [e h1]; simp) (fun j hj => hne (fun e' => by
      obtain ⟨t, ht⟩ := get_lt (xs := L) (k := j) (by omega)
      rw [e ht] at e'
      exact h2 j hj (by rw [ht, e'])))
    rw [List.take_length] at this
    exact this
theorem index_any (v : Value) (L : List ByteArray) (s : ByteArray) (w : World) (h : StrRow w v L) : Calls Try.prog 34 #[v, .string s] w (Ret w (.int .i64 (idxI L s))) := by
  obtain ⟨ao, ca, rfl, a1, a2, a3⟩ := h.out
  unfold maxLen at a2
  rcases a3 with h0 | ⟨b, off, rfl, hb, hc⟩
  · have hnil := List.eq_nil_of_length_eq_zero h0
    subst hnil
    exact (Try.slices_Index_empty (α := ByteArray) ao ca (.string s) w).mono fun e w' ⟨h1, h2⟩ => by
      subst h1 h2
      exact Ret.mk (Below.refl _ _)
  · refine (Try.slices_Index Value.string (fun x y => x.toList == y.toList) (EqlAt.string Try.prog 9) b off L.length ca L s w (Nat.le_refl _) (by omega) (fun j hj => ?_)).mono fun e w' ⟨h1, h2⟩ => ?_
    · have := hc j L[j] (List.getElem?_eq_getElem hj)
      rw [this, List.getElem!_eq_getElem?_getD, List.getElem?_eq_getElem hj]
      rfl
    · subst h1 h2
      exact Ret.mk' (by rw [List.take_length, idxBy_str]) (Below.refl _ _)
theorem idxI_bd (L : List ByteArray) (s : ByteArray) : -1 ≤ idxI L s ∧ idxI L s < L.length ∨ idxI L s = -1 := by
  unfold idxI
  cases h : firstOf L s with
  | none => right; rfl
  | some k =>
    left
    have := lt_of_get (firstOf_some.1 h).1
    dsimp only
    omega
end Go.Proofs.Ytjoopjgpjkmmhaa
