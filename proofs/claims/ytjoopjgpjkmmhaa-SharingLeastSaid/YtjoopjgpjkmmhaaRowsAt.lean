/-
  Slices that read as lists: of one-cell elements, of claims; what stays of them while a call makes memory of its own. Nothing of the program.
-/
import Derived.Test.YtjoopjgpjkmmhaaBase
namespace Go.Proofs.Ytjoopjgpjkmmhaa
open Go.RowKit

/-- The slice value 'v' has 'n' elements, whose cells hold 'vals' in the world 'w'. -/
def RowAt (w : World) (v : Value) (n : Nat) (vals : List Value) : Prop :=
  ∃ (ao : Option Addr) (cap : Nat), v = .slice ao n cap ∧ n ≤ cap ∧ cap ≤ maxLen ∧ (vals = [] ∨ ∃ b off, ao = some ⟨b, off, none⟩ ∧ b < w.heap.size ∧ ∀ (i : Nat) (u : Value), vals[i]? = some u → w.cell? ⟨b, off + i, none⟩ = some u)

theorem RowAt.below {w w' : World} {v : Value} {n : Nat} {vals : List Value} (h : RowAt w v n vals) (hb : Below w.heap.size w w') : RowAt w' v n vals := by
  obtain ⟨ao, cap, hv, h1, h2, h3⟩ := h
  refine ⟨ao, cap, hv, h1, h2, ?_⟩
  rcases h3 with h3 | ⟨b, off, ha, hlt, hc⟩
  · exact .inl h3
  · exact .inr ⟨b, off, ha, Nat.lt_of_lt_of_le hlt hb.size, fun i u hu => (hb.cell (p := ⟨b, off + i, none⟩) hlt).trans (hc i u hu)⟩
theorem RowAt.nil (w : World) : RowAt w (.slice none 0 0) 0 [] := ⟨none, 0, rfl, Nat.le_refl _, Nat.zero_le _, .inl rfl⟩
theorem RowAt.of_owns {w : World} {base : Nat} {e : TypeId} {size n : Nat} {v : Value} {vals : List Value} (h : w.ownsRow base e size v n vals) : RowAt w v n vals := by
  obtain ⟨hl, h⟩ := h
  rcases h with ⟨rfl, rfl⟩ | ⟨g, cap, cur, rfl, hb, hg, hn, hm, hs, ht⟩
  · obtain rfl : vals = [] := by simpa using hl
    exact RowAt.nil w
  · refine ⟨_, cap, rfl, hn, hm, .inr ⟨g, 0, rfl, (Array.getElem?_eq_some_iff.1 hg).1, fun i u hu => ?_⟩⟩
    rw [Nat.zero_add, cell_of_row w g i cur e (0, 0) hg]
    rw [← ht, List.getElem?_take] at hu
    split at hu
    · simpa using hu
    · cases hu

theorem rowAt_made (W : World) (cs : List Value) (T : TypeId) (b n : Nat) (hb : b = W.heap.size) (hn : n ≤ maxLen) : RowAt (W.alloc (.cells cs.toArray T)) (.slice (some ⟨b, 0, none⟩) n n) n cs := by
  subst hb
  refine ⟨_, n, rfl, Nat.le_refl _, hn, .inr ⟨_, 0, rfl, by simp, fun i u hu => ?_⟩⟩
  rw [Nat.zero_add, World.cell?_alloc_at (hn := rfl)]
  simpa using hu

/-- A slice of numbers. -/
def IntRow (w : World) (v : Value) (xs : List Int) : Prop := RowAt w v xs.length (xs.map (Value.int .i64))
theorem IntRow.below {w w' : World} {v : Value} {xs : List Int} (h : IntRow w v xs) (hb : Below w.heap.size w w') : IntRow w' v xs := RowAt.below h hb
theorem IntRow.out {w : World} {v : Value} {xs : List Int} (h : IntRow w v xs) : ∃ (ao : Option Addr) (cap : Nat), v = .slice ao xs.length cap ∧ xs.length ≤ cap ∧ cap ≤ maxLen ∧
    (xs.length = 0 ∨ ∃ b off, ao = some ⟨b, off, none⟩ ∧ b < w.heap.size ∧ ∀ (i : Nat) (x : Int), xs[i]? = some x → w.cell? ⟨b, off + i, none⟩ = some (.int .i64 x)) := by
  obtain ⟨ao, cap, hv, h1, h2, h3⟩ := h
  refine ⟨ao, cap, hv, h1, h2, ?_⟩
  rcases h3 with h3 | ⟨b, off, ha, hlt, hc⟩
  · exact .inl (by simpa using h3)
  · exact .inr ⟨b, off, ha, hlt, fun i x hx => hc i _ (by rw [List.getElem?_map, hx]; rfl)⟩
theorem IntRow.nil (w : World) : IntRow w (.slice none 0 0) [] := RowAt.nil w

/-- What a call owns stays owned while a callee makes memory of its own. -/
theorem owns_below {w w' : World} {base : Nat} {e : TypeId} {size n : Nat} {v : Value} {xs : List Value} (h : w.ownsRow base e size v n xs) (hb : Below w.heap.size w w') : w'.ownsRow base e size v n xs :=
  h.kept (row := none) ⟨hb.os, hb.tape, hb.output, hb.size, fun k hk _ => hb.block k hk⟩ (by cases hv : v.ownBlock <;> simp)
theorem below_append {w W w2 : World} {e : TypeId} {size n : Nat} {v : Value} {xs : List Value} (hB : Below w.heap.size w W) (hown : W.ownsRow w.heap.size e size v n xs) (hg : W.grownBy w2 v.ownBlock) : Below w.heap.size w w2 :=
  hB.grown hg hB.size (fun k hk => (hown.lt k hk).1)
theorem below_append' {w W w2 : World} {base : Nat} {e : TypeId} {size n : Nat} {v : Value} {xs : List Value} (hB : Below w.heap.size w W) (hown : W.ownsRow base e size v n xs) (hg : W.grownBy w2 v.ownBlock) (hb : w.heap.size ≤ base) : Below w.heap.size w w2 :=
  hB.grown hg hB.size (fun k hk => Nat.le_trans hb (hown.lt k hk).1)
theorem cells_made (w : World) (cs : List Value) (e : TypeId) (n : Nat) (hn : n = w.heap.size) : ∀ (j : Nat) (u : Value), cs[j]? = some u → (w.alloc (.cells cs.toArray e)).cell? ((⟨n, 0, none⟩ : Addr).add j) = some u := by
  subst hn
  intro j u h
  have e1 : (⟨w.heap.size, 0, none⟩ : Addr).add j = ⟨w.heap.size, j, none⟩ := by unfold Addr.add; split <;> simp_all
  rw [e1, World.cell?_alloc_at (hn := rfl)]
  simpa using h

/-- Block 'b' is a row of just these cells, none of them frozen. -/
def HasBlock (w : World) (b : Nat) (cs : Array Value) (T : TypeId) : Prop := w.heap[b]? = some (.cells cs T (0, 0))
theorem HasBlock.lt {w : World} {b : Nat} {cs : Array Value} {T : TypeId} (h : HasBlock w b cs T) : b < w.heap.size := (Array.getElem?_eq_some_iff.1 h).1
theorem HasBlock.alloc {w : World} {b : Nat} {cs : Array Value} {T : TypeId} (h : HasBlock w b cs T) (o : Obj) : HasBlock (w.alloc o) b cs T := (Below.heap_alloc w o b h.lt).trans h
theorem HasBlock.drew {w : World} {b : Nat} {cs : Array Value} {T : TypeId} (h : HasBlock w b cs T) : HasBlock w.drew b cs T := h
theorem HasBlock.set_ne {w : World} {b : Nat} {cs : Array Value} {T : TypeId} (h : HasBlock w b cs T) {b' j : Nat} (hne : b ≠ b') (v : Value) : HasBlock (w.setCell ⟨b', j, none⟩ v) b cs T := (Below.heap_setCell w _ v b hne).trans h
theorem HasBlock.set_at {w : World} {b : Nat} {cs : Array Value} {T : TypeId} (h : HasBlock w b cs T) (j : Nat) (v : Value) : HasBlock (w.setCell ⟨b, j, none⟩ v) b (cs.setIfInBounds j v) T := by
  unfold HasBlock at *
  simp only [World.setCell, Array.getElem?_modify, h]
  simp
theorem HasBlock.below {w w' : World} {b : Nat} {cs : Array Value} {T : TypeId} (h : HasBlock w b cs T) (hb : Below w.heap.size w w') : HasBlock w' b cs T := (hb.block b h.lt).trans h
theorem HasBlock.made (w : World) (cs : Array Value) (T : TypeId) : HasBlock (w.alloc (.cells cs T)) w.heap.size cs T := heap_alloc_new w _
theorem HasBlock.cell {w : World} {b : Nat} {cs : Array Value} {T : TypeId} (h : HasBlock w b cs T) (j : Nat) : w.cell? ⟨b, j, none⟩ = cs[j]? := cell_of_row w b j cs T (0, 0) h
theorem HasBlock.free {w : World} {b : Nat} {cs : Array Value} {T : TypeId} (h : HasBlock w b cs T) (j : Nat) : w.frozen? ⟨b, j, none⟩ = false := by
  unfold HasBlock at h
  simp [World.frozen?, h]
theorem HasBlock.store5 {w : World} {b : Nat} {T : TypeId} {x0 x1 x2 x3 x4 : Value} (h : HasBlock w b #[x0, x1, x2, x3, x4] T) (y0 y1 y2 y3 y4 : Value) :
    HasBlock (((((w.setCell ⟨b, 0, none⟩ y0).setCell ⟨b, 1, none⟩ y1).setCell ⟨b, 2, none⟩ y2).setCell ⟨b, 3, none⟩ y3).setCell ⟨b, 4, none⟩ y4) b #[y0, y1, y2, y3, y4] T := by
  have := ((((h.set_at 0 y0).set_at 1 y1).set_at 2 y2).set_at 3 y3).set_at 4 y4
  simpa using this

theorem HasBlock.append {W w2 : World} {b : Nat} {cs : Array Value} {T : TypeId} (h : HasBlock W b cs T) {base : Nat} {e : TypeId} {size n : Nat} {v : Value} {xs : List Value} (hown : W.ownsRow base e size v n xs) (hg : W.grownBy w2 v.ownBlock) (hlt : b < base) : HasBlock w2 b cs T :=
  (hg.block b h.lt (fun e => by have := (hown.lt b e.symm).1; omega)).trans h

/-- 'make([]T, n)', T of one cell: a new block of n zero cells. -/
theorem run_make_one {P : Program} (t e : TypeId) (z : Value) (bytes : Nat) (ht : P.underlying t = some (.slice e)) (hinfo : (P.info? e).map (fun i => (i.zero, i.size, i.bytes)) = some (some z, 1, bytes)) (hz : z.cells = #[z])
    (n : Nat) (hb : bytes * n ≤ 281474976710656) (hn : n ≤ 9223372036854775807) (w : World) :
    (Instr.makeSlice t (.int .i64 (n : Int)) (.int .i64 (n : Int))).run P w = .ok (.slice (some ⟨w.heap.size, 0, none⟩) n n) (w.alloc (.cells (List.replicate n z).toArray e)) := by
  obtain ⟨i, hi, hz0, hz1, hz2⟩ := info_parts hinfo
  have hbytes : (i.bytes : Int) * (n : Int) ≤ 281474976710656 := by
    have h : ((i.bytes * n : Nat) : Int) ≤ 281474976710656 := by rw [hz2]; omega
    rwa [Int.natCast_mul] at h
  have hr := run_make (P := P) w t e i z ht hi hz0 .i64 .i64 n n (by omega) (by omega) hbytes (by omega)
  simp only [Int.toNat_natCast] at hr
  rw [hr, hz, hz1, Nat.mul_one]
  congr 3
  apply Array.toList_inj.1
  rw [toList_madeCells_one]

theorem get_lt {α : Type} {xs : List α} {k : Nat} (h : k < xs.length) : ∃ x, xs[k]? = some x := ⟨xs[k], List.getElem?_eq_getElem h⟩
theorem lt_of_get {α : Type} {xs : List α} {k : Nat} {x : α} (h : xs[k]? = some x) : k < xs.length := (List.getElem?_eq_some_iff.1 h).1
end Go.Proofs.Ytjoopjgpjkmmhaa
