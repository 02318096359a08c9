/-
  What writing and sharing do to a valid pool, in plain words. Nothing of the program is walked.
-/
import Derived.Test.YtjoopjgpjkmmhaaPlShare
import Derived.Test.YtjoopjgpjkmmhaaPlAdd
namespace Go.Proofs.Ytjoopjgpjkmmhaa
open Go.RowKit

/-! counting in a map whose one page changes -/
theorem count_set {l : List Int} {p : Nat} {f x v : Int} (h : l[p]? = some f) : (l.set p x).count v + (if f = v then 1 else 0) = l.count v + (if x = v then 1 else 0) := by
  induction l generalizing p with
  | nil => simp at h
  | cons a l ih =>
    cases p with
    | zero =>
      simp at h
      subst h
      rw [List.set_cons_zero, List.count_cons, List.count_cons]
      simp only [beq_iff_eq]
      omega
    | succ p =>
      simp at h
      rw [List.set_cons_succ, List.count_cons, List.count_cons]
      have := ih h
      omega
theorem flat_set {M : List (List Int)} {g : Nat} {l l' : List Int} {v : Int} (h : M[g]? = some l) : ((M.set g l').flatten).count v + l.count v = M.flatten.count v + l'.count v := by
  induction M generalizing g with
  | nil => simp at h
  | cons a M ih =>
    cases g with
    | zero =>
      simp at h
      subst h
      rw [List.set_cons_zero, List.flatten_cons, List.flatten_cons, List.count_append, List.count_append]
      omega
    | succ g =>
      simp at h
      rw [List.set_cons_succ, List.flatten_cons, List.flatten_cons, List.count_append, List.count_append]
      have := ih h
      omega
theorem Pl.setM_cnt {P : Pl} {g p : Nat} {l : List Int} {f x : Int} (hl : P.M[g]? = some l) (hp : l[p]? = some f) (v : Nat) : (P.setM g p x).cnt v + (if f = (v : Int) then 1 else 0) = P.cnt v + (if x = (v : Int) then 1 else 0) := by
  unfold Pl.cnt Pl.setM
  dsimp only
  rw [Pl.pages_eq hl]
  have h1 := flat_set (M := P.M) (g := g) (l := l) (l' := l.set p x) (v := (v : Int)) hl
  have h2 := count_set (x := x) (v := (v : Int)) hp
  omega
/-- The content of a page. -/
def Pl.text (P : Pl) (g p : Nat) : ByteArray := if P.fr g p < 0 then zeros128 else P.txt (P.fr g p).toNat
/-- A page of the pool. -/
def Pl.at (P : Pl) (g p : Nat) : Prop := ∃ l f, P.M[g]? = some l ∧ l[p]? = some f
theorem Pl.at_is {P : Pl} {g p : Nat} (h : P.at g p) : P.is g p = true := by
  obtain ⟨l, f, hl, hp⟩ := h
  have h1 := lt_of_get hl
  have h2 := lt_of_get hp
  exact Pl.is_yes ⟨by omega, by omega, by omega, by rw [Int.toNat_natCast, Pl.pages_eq hl]; omega⟩
theorem Pl.at_has {P : Pl} {g p : Nat} (H : P.Ok) (h : P.at g p) : P.has g p = true := by
  unfold Pl.has
  rw [Pl.ok_iff.2 H, Pl.at_is h]
  rfl
theorem Pl.read_eq {P : Pl} {g p : Nat} (H : P.Ok) (h : P.at g p) : P.read g p = P.text g p := by
  unfold Pl.read Pl.text
  rw [Pl.at_has H h, if_pos rfl, Int.toNat_natCast, Int.toNat_natCast]
theorem Pl.setM_fr {P : Pl} {g p : Nat} (h : P.at g p) (x : Int) (a b : Nat) : (P.setM g p x).fr a b = if g = a ∧ p = b then x else P.fr a b := by
  obtain ⟨l, f, hl, hp⟩ := h
  unfold Pl.fr
  rw [Pl.setM_pages, Pl.pages_eq hl]
  by_cases e : g = a
  · subst e
    rw [if_pos ⟨rfl, lt_of_get hl⟩, Pl.pages_eq hl, List.getElem?_set]
    by_cases e2 : p = b
    · subst e2
      rw [if_pos rfl, if_pos (lt_of_get hp), if_pos ⟨rfl, rfl⟩]
      rfl
    · rw [if_neg e2, if_neg (fun h => e2 h.2)]
  · rw [if_neg (fun h => e h.1), if_neg (fun h => e h.1)]
theorem Pl.setM_at {P : Pl} {g p : Nat} (x : Int) (a b : Nat) : (P.setM g p x).at a b ↔ P.at a b := by
  have h1 : ∀ Q : Pl, Q.at a b ↔ (a < Q.M.length ∧ b < (Q.pages a).length) := by
    intro Q
    constructor
    · rintro ⟨l, f, hl, hp⟩
      exact ⟨lt_of_get hl, by rw [Pl.pages_eq hl]; exact lt_of_get hp⟩
    · rintro ⟨ha, hb⟩
      obtain ⟨l, hl⟩ := get_lt ha
      rw [Pl.pages_eq hl] at hb
      obtain ⟨f, hf⟩ := get_lt hb
      exact ⟨l, f, hl, hf⟩
  rw [h1, h1, Pl.setM_pages]
  have e : (P.setM g p x).M.length = P.M.length := List.length_set ..
  rw [e]
  split
  · rename_i h
    rw [List.length_set, h.1]
  · rfl
end Go.Proofs.Ytjoopjgpjkmmhaa
