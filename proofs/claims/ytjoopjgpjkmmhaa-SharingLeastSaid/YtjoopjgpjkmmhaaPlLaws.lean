/-
  What a valid pool is, in plain words. Nothing of the program is walked.
-/
import Derived.Test.YtjoopjgpjkmmhaaPl
namespace Go.Proofs.Ytjoopjgpjkmmhaa
open Go.RowKit

theorem framesOk_iff {F : List ByteArray} {R P : List Int} : ∀ n, framesOk F R P n = true ↔ ∀ k, k < n → frameOk F R P k = true
  | 0 => ⟨fun _ k h => absurd h (Nat.not_lt_zero _), fun _ => rfl⟩
  | n + 1 => by
    rw [framesOk, Bool.and_eq_true, framesOk_iff n]
    constructor
    · rintro ⟨h1, h2⟩ k hk
      by_cases e : k = n
      · subst e; exact h2
      · exact h1 k (by omega)
    · intro h
      exact ⟨fun k hk => h k (by omega), h n (by omega)⟩
/-- How often a frame is used. -/
def Pl.cnt (P : Pl) (f : Nat) : Nat := P.M.flatten.count (f : Int)
/-- What is true of each frame. -/
def Pl.frameP (P : Pl) (f : Nat) : Prop := ∃ s, P.F[f]? = some s ∧ P.R[f]? = some ((P.cnt f : Nat) : Int) ∧ (P.cnt f = 0 ↔ s.size = 0) ∧ (s.size = 0 ∨ s.size = 128 ∧ zeroB s = false)
structure Pl.Ok (P : Pl) : Prop where
  n1 : 1 ≤ P.F.length
  n2 : P.F.length ≤ 96
  r : P.R.length = P.F.length
  m : P.M.length ≤ 8
  l : ∀ l ∈ P.M, 1 ≤ l.length ∧ l.length ≤ 32
  pg : ∀ l ∈ P.M, ∀ f ∈ l, (-1 : Int) ≤ f ∧ f < P.F.length
  fr : ∀ f, f < P.F.length → P.frameP f
theorem Pl.ok_iff {P : Pl} : P.ok = true ↔ P.Ok := by
  unfold Pl.ok poolB poolHead
  rw [Bool.and_eq_true, Bool.and_eq_true, decide_eq_true_eq, framesOk_iff]
  unfold mapOk
  rw [List.all_eq_true]
  constructor
  · rintro ⟨⟨h1, h2, h3, h4⟩, h5, h6⟩
    have hl : ∀ l ∈ P.M, (1 ≤ l.length ∧ l.length ≤ 32) ∧ ∀ f ∈ l, (-1 : Int) ≤ f ∧ f < P.F.length := by
      intro l hl
      have h := h5 l hl
      unfold rowOk at h
      rw [Bool.and_eq_true, decide_eq_true_eq, List.all_eq_true] at h
      refine ⟨h.1, fun f hf => ?_⟩
      have := h.2 f hf
      unfold pageOk at this
      rwa [decide_eq_true_eq] at this
    refine ⟨h1, h2, h3, h4, fun l h => (hl l h).1, fun l h => (hl l h).2, fun f hf => ?_⟩
    obtain ⟨s, hs⟩ := get_lt hf
    obtain ⟨x, hx⟩ := get_lt (xs := P.R) (k := f) (by omega)
    have h := h6 f hf
    unfold frameOk at h
    rw [hs, hx] at h
    simp only [Bool.and_eq_true, decide_eq_true_eq, Bool.or_eq_true, beq_iff_eq, Bool.not_eq_true'] at h
    obtain ⟨⟨e1, e2⟩, e3⟩ := h
    have e2 : (P.M.flatten.count (f : Int) = 0 ↔ s.size = 0) := by
      constructor
      · intro a
        rw [decide_eq_true a] at e2
        exact of_decide_eq_true e2.symm
      · intro a
        rw [decide_eq_true a] at e2
        exact of_decide_eq_true e2
    exact ⟨s, hs, by rw [hx, e1]; rfl, e2, e3⟩
  · intro H
    refine ⟨⟨H.n1, H.n2, H.r, H.m⟩, fun l hl => ?_, fun f hf => ?_⟩
    · unfold rowOk
      rw [Bool.and_eq_true, decide_eq_true_eq, List.all_eq_true]
      refine ⟨H.l l hl, fun f hf => ?_⟩
      unfold pageOk
      rw [decide_eq_true_eq]
      exact H.pg l hl f hf
    · obtain ⟨s, hs, hx, h1, h2⟩ := H.fr f hf
      unfold frameOk
      rw [hs, hx]
      simp only [Bool.and_eq_true, decide_eq_true_eq, Bool.or_eq_true, beq_iff_eq, Bool.not_eq_true']
      refine ⟨⟨rfl, ?_⟩, h2⟩
      rw [Bool.eq_iff_iff, decide_eq_true_eq, decide_eq_true_eq]
      exact h1
theorem mem_at {α : Type} {xs : List α} {k : Nat} {x : α} (h : xs[k]? = some x) : x ∈ xs := List.mem_of_getElem? h
theorem Pl.Ok.page {P : Pl} (H : P.Ok) {g p : Nat} {l : List Int} {f : Int} (hl : P.M[g]? = some l) (hp : l[p]? = some f) : (-1 : Int) ≤ f ∧ f < P.F.length := H.pg l (mem_at hl) f (mem_at hp)
theorem flat_count {M : List (List Int)} : ∀ (k : Nat), (∀ l ∈ M, l.length ≤ k) → M.flatten.length ≤ k * M.length := by
  intro k h
  induction M with
  | nil => simp
  | cons a M ih =>
    rw [List.flatten_cons, List.length_append, List.length_cons, Nat.mul_add]
    have h1 := h a (List.mem_cons_self ..)
    have h2 := ih (fun l hl => h l (List.mem_cons_of_mem _ hl))
    omega
theorem Pl.Ok.cnt_le {P : Pl} (H : P.Ok) (f : Nat) : P.cnt f ≤ 256 := by
  have h1 : P.cnt f ≤ P.M.flatten.length := List.count_le_length
  have h2 := flat_count (M := P.M) 32 (fun l hl => (H.l l hl).2)
  have := H.m
  omega
theorem Pl.Ok.ref_eq {P : Pl} (H : P.Ok) {f : Nat} (hf : f < P.F.length) : P.ref f = P.cnt f := by
  obtain ⟨s, _, hx, _⟩ := H.fr f hf
  unfold Pl.ref
  rw [hx]
  rfl
theorem Pl.Ok.fit {P : Pl} (H : P.Ok) : P.fit := by
  refine ⟨fun x hx => ?_, fun l hl x hx => ?_⟩
  · obtain ⟨k, hk⟩ := List.getElem?_of_mem hx
    have hlt := lt_of_get hk
    rw [H.r] at hlt
    obtain ⟨s, _, hx', _⟩ := H.fr k hlt
    rw [hk] at hx'
    injection hx' with hx'
    have := H.cnt_le k
    omega
  · have h1 := H.pg l hl x hx
    have := H.n2
    omega
theorem Pl.Ok.small {P : Pl} (H : P.Ok) : P.small := ⟨by have := H.n2; omega, by have := H.n2; have := H.r; omega, by have := H.m; omega, fun l hl => by have := (H.l l hl).2; omega⟩
/-- A frame that a page has is counted. -/
theorem Pl.cnt_pos {P : Pl} {g p f : Nat} {l : List Int} (hl : P.M[g]? = some l) (hp : l[p]? = some (f : Int)) : 0 < P.cnt f := by
  unfold Pl.cnt
  rw [List.count_pos_iff, List.mem_flatten]
  exact ⟨l, mem_at hl, mem_at hp⟩
end Go.Proofs.Ytjoopjgpjkmmhaa
