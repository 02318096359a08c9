/-
  Arguments that are slices, opened: each element read by a relation of the reader's own. Nothing of the program.
-/
import Derived.Test.YtjoopjgpjkmmhaaLaw
import Derived.Test.YtjoopjgpjkmmhaaRowsAt
import Derived.Deep.Slices
namespace Go.Proofs.Ytjoopjgpjkmmhaa
open Go.ChangeShapes Go.WideShapes Go.ChangeAt Go.RowKit Go.Deep

/-- A slice whose elements, each of 'size' cells, are read by R. -/
def RowOf {α : Type} (R : World → List Value → α → Prop) (size : Nat) (w : World) (v : Value) (xs : List α) : Prop :=
  ∃ (ao : Option Addr) (cap : Nat), v = .slice ao xs.length cap ∧ xs.length ≤ cap ∧ cap ≤ maxLen ∧ (xs.length = 0 ∨ ∃ b off, ao = some ⟨b, off, none⟩ ∧ b < w.heap.size ∧ ∀ (i : Nat) (a : α), xs[i]? = some a → ∃ cs : List Value, cs.length = size ∧ R w cs a ∧ ∀ (j : Nat) (u : Value), cs[j]? = some u → w.cell? ⟨b, off + i * size + j, none⟩ = some u)

theorem list_of {α : Type} (n : Nat) (p : Nat → α → Prop) (h : ∀ i, i < n → ∃ a, p i a) : ∃ xs : List α, xs.length = n ∧ ∀ (i : Nat) (a : α), xs[i]? = some a → p i a := by
  induction n with
  | zero => exact ⟨[], rfl, fun i a h => by simp at h⟩
  | succ n ih =>
    obtain ⟨xs, hl, hx⟩ := ih (fun i hi => h i (by omega))
    obtain ⟨a, ha⟩ := h n (by omega)
    refine ⟨xs ++ [a], by simp [hl], fun i b hb => ?_⟩
    rw [List.getElem?_append] at hb
    split at hb
    · exact hx i b hb
    · rename_i hi
      have hlt := (List.getElem?_eq_some_iff.1 hb).1
      simp at hlt
      obtain rfl : i = n := by omega
      rw [hl] at hb
      simp at hb
      exact hb ▸ ha

theorem open_rowOf {α : Type} {R : World → List Value → α → Prop} {size : Nat} {H : Type} {enc : TypeId × Value → H} {P : Program} {W : World} {base : Nat} {sp : Nat → Bool} {held : Bool} {t e : TypeId} {fuel : Nat} {cs : List Value} {x : DataW H × List MemPlace}
    (ht : P.underlying t = some (.slice e)) (hc : P.cellsOf e = size) (hpos : 0 < size)
    (hR : ∀ (n : Nat) (cs : List Value) (y : DataW H × List MemPlace), DataW.trod enc P W base sp held n e cs = some y → cs.length = size → ∃ a, R W cs a)
    (h : DataW.trod enc P W base sp held fuel t cs = some x) : ∃ (v : Value) (xs : List α), cs = [v] ∧ RowOf R size W v xs := by
  rcases open_slice ht h with ⟨rfl, _⟩ | ⟨a, len, cap, m, n, D, Pl, rfl, hb, hl, hm, hmm, hx, hi⟩
  · exact ⟨_, [], rfl, none, 0, rfl, Nat.le_refl _, Nat.zero_le _, .inl rfl⟩
  · have hlm : len ≤ m := by rw [hmm]; split <;> omega
    obtain ⟨xs, hxl, hxp⟩ := list_of len (fun i a' => ∃ cs' : List Value, cs'.length = size ∧ R W cs' a' ∧ ∀ j, j < size → W.cell? ((a.add (i * size)).add j) = cs'[j]?) (fun i hil => by
      obtain ⟨cs', h1, h2⟩ := hi i (by omega)
      rw [hc] at h1
      obtain ⟨_, h3, h4⟩ := World.cells?_some h1
      obtain ⟨a', ha'⟩ := hR n cs' _ h2 h3
      exact ⟨a', cs', h3, ha', h4⟩)
    refine ⟨_, xs, rfl, some a, cap, by rw [hxl], by omega, hm, ?_⟩
    by_cases h0 : len = 0
    · exact .inl (by omega)
    right
    obtain ⟨b, off, spot⟩ := a
    have hsp : spot = none := by
      obtain ⟨y, hy⟩ := get_lt (xs := xs) (k := 0) (by omega)
      obtain ⟨cs', h1, _, h3⟩ := hxp 0 y hy
      have h4 := h3 0 hpos
      rw [List.getElem?_eq_getElem (by omega)] at h4
      rw [Nat.zero_mul] at h4
      simpa [Addr.add] using World.cell?_spot h4
    subst hsp
    refine ⟨b, off, rfl, ?_, fun i a' ha' => ?_⟩
    · obtain ⟨y, hy⟩ := get_lt (xs := xs) (k := 0) (by omega)
      obtain ⟨cs', h1, _, h3⟩ := hxp 0 y hy
      have h4 := h3 0 hpos
      rw [List.getElem?_eq_getElem (by omega)] at h4
      rw [Nat.zero_mul, Go.WideShapes.add_plain, Go.WideShapes.add_plain] at h4
      exact World.block_lt_of_cell? W _ h4
    · obtain ⟨cs', h1, h2, h3⟩ := hxp i a' ha'
      refine ⟨cs', h1, h2, fun j u hu => ?_⟩
      have h4 := h3 j (by have := lt_of_get hu; omega)
      rw [Go.WideShapes.add_plain, Go.WideShapes.add_plain, hu] at h4
      exact h4

theorem RowOf.below {α : Type} {R : World → List Value → α → Prop} {size : Nat} {w w' : World} {v : Value} {xs : List α} (h : RowOf R size w v xs) (hb : Below w.heap.size w w') (hR : ∀ cs a, R w cs a → R w' cs a) : RowOf R size w' v xs := by
  obtain ⟨ao, cap, hv, h1, h2, h3⟩ := h
  refine ⟨ao, cap, hv, h1, h2, ?_⟩
  rcases h3 with h3 | ⟨b, off, ha, hlt, hc⟩
  · exact .inl h3
  · refine .inr ⟨b, off, ha, Nat.lt_of_lt_of_le hlt hb.size, fun i a hi => ?_⟩
    obtain ⟨cs, e1, e2, e3⟩ := hc i a hi
    exact ⟨cs, e1, hR _ _ e2, fun j u hu => (hb.cell (p := ⟨b, off + i * size + j, none⟩) hlt).trans (e3 j u hu)⟩

/-- A struct's cells, each field of one cell. -/
theorem open_cells {H : Type} {enc : TypeId × Value → H} {P : Program} {w : World} {base : Nat} {sp : Nat → Bool} {held : Bool} {t : TypeId} {fs : Array Field} {fuel : Nat} {cs : List Value} {x : DataW H × List MemPlace} (hs : P.underlying t = some (.struct fs)) (hone : oneCellFields P fs = true)
    (h : DataW.trod enc P w base sp held fuel t cs = some x) (hl : cs.length = fs.size) : ∃ n, ∀ (j : Nat) (f : Field), fs[j]? = some f → ∃ c y, cs[j]? = some c ∧ DataW.trod enc P w base sp held n f.type [c] = some y := by
  obtain ⟨xs, n, _, _, _, hlen, hg⟩ := DataW.trod_struct hs h
  refine ⟨n, fun j f hj => ?_⟩
  obtain ⟨ho, hk⟩ := hone_of hone j f hj
  have hjl : j < fs.size := (Array.getElem?_eq_some_iff.1 hj).1
  have h1 := hg j f hj
  rw [ho, hk] at h1
  have h2 : (cs.drop j).take 1 = [cs[j]'(by omega)] := by
    rw [List.drop_eq_getElem_cons (by omega)]
    rfl
  rw [h2] at h1
  rw [List.getElem?_eq_getElem (by omega)] at h1
  exact ⟨_, _, List.getElem?_eq_getElem (by omega), h1⟩

/-- What stands in a row of plain cells, a fixed number to an element. -/
theorem rowAt_of_rowOf {α : Type} {f : α → List Value} {size : Nat} {w : World} {v : Value} {xs : List α} (hpos : 0 < size) (hf : ∀ a, (f a).length = size) (h : RowOf (fun _ cs a => cs = f a) size w v xs) : RowAt w v xs.length (xs.flatMap f) := by
  obtain ⟨ao, cap, hv, h1, h2, h3⟩ := h
  refine ⟨ao, cap, hv, h1, h2, ?_⟩
  rcases h3 with h3 | ⟨b, off, ha, hlt, hc⟩
  · left
    rw [List.eq_nil_of_length_eq_zero h3]
    rfl
  · refine .inr ⟨b, off, ha, hlt, fun i u hu => ?_⟩
    have hlen : (xs.flatMap f).length = xs.length * size := by
      clear h1 h2 hc hu hv
      induction xs with
      | nil => simp
      | cons y ys ih => rw [List.flatMap_cons, List.length_append, hf, ih, List.length_cons, Nat.add_mul]; omega
    have hi := lt_of_get hu
    rw [hlen] at hi
    have hk : i / size < xs.length := Nat.div_lt_of_lt_mul (by rw [Nat.mul_comm]; exact hi)
    have hm : i % size < size := Nat.mod_lt _ hpos
    obtain ⟨a, ha'⟩ := get_lt hk
    obtain ⟨cs, e1, rfl, e3⟩ := hc _ a ha'
    have e : off + i = off + i / size * size + i % size := by have := Nat.div_add_mod i size; rw [Nat.mul_comm] at this; omega
    rw [e]
    apply e3
    have h4 : ∀ (ys : List α) (k : Nat), ys[k]? = some a → ∀ j, j < size → (ys.flatMap f)[k * size + j]? = (f a)[j]? := by
      intro ys
      induction ys with
      | nil => intro k h; simp at h
      | cons y ys ih =>
        intro k h j hj
        cases k with
        | zero =>
          simp at h
          subst h
          rw [List.flatMap_cons, Nat.zero_mul, Nat.zero_add, List.getElem?_append_left (by rw [hf]; exact hj)]
        | succ k =>
          simp at h
          rw [List.flatMap_cons, List.getElem?_append_right (by rw [hf, Nat.add_mul]; omega), hf, show (k + 1) * size + j - size = k * size + j from by rw [Nat.add_mul]; omega]
          exact ih k h j hj
    rw [← h4 xs _ ha' _ hm, ← hu]
    congr 1
    have := Nat.div_add_mod i size
    rw [Nat.mul_comm] at this
    omega
end Go.Proofs.Ytjoopjgpjkmmhaa
