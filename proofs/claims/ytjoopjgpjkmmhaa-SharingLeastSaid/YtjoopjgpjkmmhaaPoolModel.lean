/-
  When a pool is valid, in plain words: the counts of the frames' uses. Nothing of the program is walked.
-/
import Derived.Test.YtjoopjgpjkmmhaaPool
namespace Go.Proofs.Ytjoopjgpjkmmhaa
open Go.RowKit

/-- How often each of n frames occurs among pages. -/
def cntRow (n : Nat) (P : List Int) : List Int := (List.range n).map (fun f : Nat => ((P.count (f : Int) : Nat) : Int))
theorem cntRow_len (n : Nat) (P : List Int) : (cntRow n P).length = n := by simp [cntRow]
theorem cntRow_at {n f : Nat} (P : List Int) (h : f < n) : (cntRow n P)[f]? = some ((P.count (f : Int) : Nat) : Int) := by
  unfold cntRow
  rw [List.getElem?_map, List.getElem?_range h]
  rfl
theorem cntRow_nil (n : Nat) : cntRow n [] = List.replicate n 0 := by
  apply List.ext_getElem?
  intro i
  by_cases h : i < n
  · rw [cntRow_at [] h, List.getElem?_replicate, if_pos h]; rfl
  · rw [List.getElem?_eq_none (by rw [cntRow_len]; omega), List.getElem?_eq_none (by rw [List.length_replicate]; omega)]
theorem cntRow_neg (n : Nat) (P : List Int) : cntRow n (P ++ [-1]) = cntRow n P := by
  unfold cntRow
  apply List.map_congr_left
  intro f _
  rw [List.count_append, List.count_singleton, if_neg (by rw [beq_iff_eq]; omega), Nat.add_zero]
theorem cntRow_inc {n f : Nat} (P : List Int) (h : f < n) : cntRow n (P ++ [(f : Int)]) = (cntRow n P).set f (((P.count (f : Int) : Nat) : Int) + 1) := by
  apply List.ext_getElem?
  intro i
  rw [List.getElem?_set, cntRow_len]
  by_cases hi : i < n
  · rw [cntRow_at _ hi, List.count_append, List.count_singleton]
    by_cases e : f = i
    · subst e
      rw [if_pos rfl, if_pos h, if_pos (by rw [beq_iff_eq])]
      rfl
    · rw [if_neg e, if_neg (by rw [beq_iff_eq]; omega), cntRow_at _ hi, Nat.add_zero]
  · rw [List.getElem?_eq_none (by rw [cntRow_len]; omega), if_neg (by omega), List.getElem?_eq_none (by rw [cntRow_len]; omega)]
theorem count_le_len (P : List Int) (f : Int) : P.count f ≤ P.length := List.count_le_length
def pageOk (n : Nat) (f : Int) : Bool := decide (-1 ≤ f ∧ f < n)
def rowOk (n : Nat) (l : List Int) : Bool := decide (1 ≤ l.length ∧ l.length ≤ 32) && l.all (pageOk n)
def mapOk (n : Nat) (M : List (List Int)) : Bool := M.all (rowOk n)
def frameOk (F : List ByteArray) (R : List Int) (P : List Int) (f : Nat) : Bool :=
  match F[f]?, R[f]? with
  | some s, some r => decide (r = ((P.count (f : Int) : Nat) : Int)) && (decide (P.count (f : Int) = 0) == decide (s.size = 0)) && (decide (s.size = 0) || (decide (s.size = 128) && !zeroB s))
  | _, _ => false
def framesOk (F : List ByteArray) (R : List Int) (P : List Int) : Nat → Bool
  | 0 => true
  | k + 1 => framesOk F R P k && frameOk F R P k
def poolHead (F : List ByteArray) (R : List Int) (M : List (List Int)) : Bool := decide (1 ≤ F.length ∧ F.length ≤ 96 ∧ R.length = F.length ∧ M.length ≤ 8)
def poolB (F : List ByteArray) (R : List Int) (M : List (List Int)) : Bool := poolHead F R M && (mapOk F.length M && framesOk F R M.flatten F.length)
theorem framesOk_false {F : List ByteArray} {R P : List Int} {k n : Nat} (h : frameOk F R P k = false) (hk : k < n) : framesOk F R P n = false := by
  induction n with
  | zero => omega
  | succ n ih =>
    unfold framesOk
    by_cases e : k = n
    · subst e; rw [h, Bool.and_false]
    · rw [ih (by omega), Bool.false_and]
theorem mapOk_false {n k : Nat} {M : List (List Int)} {l : List Int} (h : M[k]? = some l) (hl : rowOk n l = false) : mapOk n M = false := by
  unfold mapOk
  rw [List.all_eq_false]
  exact ⟨l, List.mem_of_getElem? h, by rw [hl]; decide⟩
theorem rowOk_len {n : Nat} {l : List Int} (h : ¬ (1 ≤ l.length ∧ l.length ≤ 32)) : rowOk n l = false := by
  unfold rowOk
  rw [decide_eq_false h, Bool.false_and]
theorem rowOk_at {n k : Nat} {l : List Int} {f : Int} (h : l[k]? = some f) (hf : pageOk n f = false) : rowOk n l = false := by
  unfold rowOk
  have : l.all (pageOk n) = false := by
    rw [List.all_eq_false]
    exact ⟨f, List.mem_of_getElem? h, by rw [hf]; decide⟩
  rw [this, Bool.and_false]
/-- The first k lists of a map are well formed. -/
def mapUp (n : Nat) (M : List (List Int)) (k : Nat) : Bool := mapOk n (M.take k)
theorem mapUp_succ {n k : Nat} {M : List (List Int)} {l : List Int} (h : M[k]? = some l) (h1 : mapUp n M k = true) (h2 : rowOk n l = true) : mapUp n M (k + 1) = true := by
  unfold mapUp mapOk at *
  rw [List.take_add_one, h, List.all_append, h1]
  simpa using h2
theorem flat_succ {M : List (List Int)} {k : Nat} {l : List Int} (h : M[k]? = some l) : (M.take (k + 1)).flatten = (M.take k).flatten ++ l := by
  rw [List.take_add_one, h, List.flatten_append]
  simp
theorem take_succ' {l : List Int} {k : Nat} {f : Int} (h : l[k]? = some f) : l.take (k + 1) = l.take k ++ [f] := by
  rw [List.take_add_one, h]
  rfl
theorem rowUp_all {n : Nat} {l : List Int} (h1 : 1 ≤ l.length ∧ l.length ≤ 32) (h2 : (l.take l.length).all (pageOk n) = true) : rowOk n l = true := by
  unfold rowOk
  rw [decide_eq_true h1]
  rw [List.take_length] at h2
  rw [h2]
  rfl
theorem rowUp_succ {n k : Nat} {l : List Int} {f : Int} (h : l[k]? = some f) (h1 : (l.take k).all (pageOk n) = true) (hf : pageOk n f = true) : (l.take (k + 1)).all (pageOk n) = true := by
  rw [take_succ' h, List.all_append, h1]
  simpa using hf
end Go.Proofs.Ytjoopjgpjkmmhaa
