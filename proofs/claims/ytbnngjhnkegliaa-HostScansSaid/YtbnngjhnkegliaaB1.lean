/-
  Texts joined for the hand-in, in build order: Base RowsAt Str Regions Pool PoolModel Pl PlOwn PlClone PlGive. No law is proved here.
-/
import Derived.Test.YtbnngjhnkegliaaRows
import Derived.WalkKit
import Derived.WalkSpells
import Derived.WalkLawsBesides
import Derived.Lib.Hide
import Derived.Deep.QuietTactic
import Derived.BigQuiet
import Derived.Lib.QuietBelow
import Derived.Laws.CopyOwn
import Derived.StillTail
import Derived.Deep.RegionWith
import Derived.Deep.RegionLaw
import Derived.Deep.Cut
import Derived.Deep.CutRange
namespace Go.Proofs.Ytbnngjhnkegliaa
open Go.RowKit

/-- The call hands back 'v'; what was there before it is as it was. -/
def Ret (w : World) (v : Value) (e : Ending) (w' : World) : Prop := e = .returned v ∧ Below w.heap.size w w'
theorem Ret.mk {w w' : World} {v : Value} (h : Below w.heap.size w w') : Ret w v (.returned v) w' := ⟨rfl, h⟩
theorem Ret.mk' {w w' : World} {v u : Value} (e : u = v) (h : Below w.heap.size w w') : Ret w v (.returned u) w' := ⟨by rw [e], h⟩

theorem bcell {W w1 : World} (hb : Below W.heap.size W w1) : (∀ b o, b < W.heap.size → w1.cell? ⟨b, o, none⟩ = W.cell? ⟨b, o, none⟩) ∧ (∀ b o, b < W.heap.size → w1.frozen? ⟨b, o, none⟩ = W.frozen? ⟨b, o, none⟩) :=
  ⟨fun b o h => hb.cell (p := ⟨b, o, none⟩) h, fun b o h => hb.frozen (p := ⟨b, o, none⟩) h⟩
theorem bsize {W w1 : World} (hb : Below W.heap.size W w1) : W.heap.size ≤ w1.heap.size := hb.size

theorem sizes : (∀ (w : World) (o : Obj), (w.alloc o).heap.size = w.heap.size + 1) ∧ (∀ (w : World) (a : Addr) (v : Value), (w.setCell a v).heap.size = w.heap.size) ∧ (∀ w : World, w.drew.heap.size = w.heap.size) :=
  ⟨fun _ _ => World.size_alloc .., fun _ _ _ => World.size_setCell .., fun _ => rfl⟩
theorem sizes1 : (∀ (w : World) (o : Obj), (w.alloc o).heap.size = w.heap.size + 1) ∧ (∀ (w : World) (a : Addr) (v : Value), (w.setCell a v).heap.size = w.heap.size) ∧ (∀ w : World, w.drew.heap.size = w.heap.size) ∧ (∀ n m : Nat, (n + 1 ≤ m) = (n < m)) :=
  ⟨sizes.1, sizes.2.1, sizes.2.2, fun _ _ => rfl⟩
/-- A callee's contract, met in a world of the class of a quiet region. -/
theorem quiet_ret {P : Program} {f : FuncId} {args : Array Value} {w : World} {d : Nat} {os : Array Obj} {v : Value}
    (h : Calls P f args (Sort.grow (redrawn w d) os) (Ret (Sort.grow (redrawn w d) os) v)) : Calls P f args (Sort.grow (redrawn w d) os) fun e w'' => e = .returned v ∧ ∃ p : Regrown, w'' = Sort.grow (redrawn w p.d) p.os :=
  Calls.regrown_of (h.mono fun _ _ hh => ⟨hh.1, hh.2⟩)
/-- A cell of an old block, in every world of the class of a quiet region. -/
@[go_sem] theorem cell_regrown_lt (w : World) (d : Nat) (os : Array Obj) (b o : Nat) (h : b < w.heap.size) : (Sort.grow (redrawn w d) os).cell? ⟨b, o, none⟩ = w.cell? ⟨b, o, none⟩ :=
  (below_regrown w d os).cell (p := ⟨b, o, none⟩) h
theorem below_of_regrown {w w' : World} (h : ∃ p : Regrown, w' = Sort.grow (redrawn w p.d) p.os) : Below w.heap.size w w' := by
  obtain ⟨p, rfl⟩ := h
  exact below_regrown w p.d p.os

theorem isEmpty_iff (s : ByteArray) : s.toList.isEmpty = decide (s.size = 0) := by
  rw [ByteArray.toList_eq]
  cases s with
  | mk d =>
    cases d with
    | mk l => cases l <;> simp [ByteArray.size]
end Go.Proofs.Ytbnngjhnkegliaa
namespace Go.Proofs.Ytbnngjhnkegliaa
open Go.RowKit

/-- The slice value 'v' has 'n' elements, whose cells hold 'vals' in the world 'w'. -/
def RowAt (w : World) (v : Value) (n : Nat) (vals : List Value) : Prop :=
  ∃ (ao : Option Addr) (cap : Nat), v = .slice ao n cap ∧ n ≤ cap ∧ cap ≤ maxLen ∧ (vals = [] ∨ ∃ b off, ao = some ⟨b, off, none⟩ ∧ b < w.heap.size ∧ ∀ (i : Nat) (u : Value), vals[i]? = some u → w.cell? ⟨b, off + i, none⟩ = some u)

theorem RowAt.below {w w' : World} {v : Value} {n : Nat} {vals : List Value} (h : RowAt w v n vals) (hb : Below w.heap.size w w') : RowAt w' v n vals := by
  obtain ⟨ao, cap, hv, h1, h2, h3⟩ := h
  refine ⟨ao, cap, hv, h1, h2, ?_⟩
  rcases h3 with h3 | ⟨b, off, ha, hlt, hc⟩
  · exact .inl h3
  · exact .inr ⟨b, off, ha, Nat.lt_of_lt_of_le hlt hb.size, fun i u hu => (hb.cell (p := ⟨b, off + i, none⟩) hlt).trans (hc i u hu)⟩
theorem RowAt.nil (w : World) : RowAt w (.slice none 0 0) 0 [] := ⟨none, 0, rfl, Nat.le_refl _, Nat.zero_le _, .inl rfl⟩
theorem RowAt.of_owns {w : World} {base : Nat} {e : TypeId} {size n : Nat} {v : Value} {vals : List Value} (h : w.ownsRow base e size v n vals) : RowAt w v n vals := by
  obtain ⟨hl, h⟩ := h
  rcases h with ⟨rfl, rfl⟩ | ⟨g, cap, cur, rfl, hb, hg, hn, hm, hs, ht⟩
  · obtain rfl : vals = [] := by simpa using hl
    exact RowAt.nil w
  · refine ⟨_, cap, rfl, hn, hm, .inr ⟨g, 0, rfl, (Array.getElem?_eq_some_iff.1 hg).1, fun i u hu => ?_⟩⟩
    rw [Nat.zero_add, cell_of_row w g i cur e (0, 0) hg]
    rw [← ht, List.getElem?_take] at hu
    split at hu
    · simpa using hu
    · cases hu

theorem rowAt_made (W : World) (cs : List Value) (T : TypeId) (b n : Nat) (hb : b = W.heap.size) (hn : n ≤ maxLen) : RowAt (W.alloc (.cells cs.toArray T)) (.slice (some ⟨b, 0, none⟩) n n) n cs := by
  subst hb
  refine ⟨_, n, rfl, Nat.le_refl _, hn, .inr ⟨_, 0, rfl, by simp, fun i u hu => ?_⟩⟩
  rw [Nat.zero_add, World.cell?_alloc_at (hn := rfl)]
  simpa using hu

/-- A slice of numbers. -/
def IntRow (w : World) (v : Value) (xs : List Int) : Prop := RowAt w v xs.length (xs.map (Value.int .i64))
theorem IntRow.below {w w' : World} {v : Value} {xs : List Int} (h : IntRow w v xs) (hb : Below w.heap.size w w') : IntRow w' v xs := RowAt.below h hb
theorem IntRow.out {w : World} {v : Value} {xs : List Int} (h : IntRow w v xs) : ∃ (ao : Option Addr) (cap : Nat), v = .slice ao xs.length cap ∧ xs.length ≤ cap ∧ cap ≤ maxLen ∧
    (xs.length = 0 ∨ ∃ b off, ao = some ⟨b, off, none⟩ ∧ b < w.heap.size ∧ ∀ (i : Nat) (x : Int), xs[i]? = some x → w.cell? ⟨b, off + i, none⟩ = some (.int .i64 x)) := by
  obtain ⟨ao, cap, hv, h1, h2, h3⟩ := h
  refine ⟨ao, cap, hv, h1, h2, ?_⟩
  rcases h3 with h3 | ⟨b, off, ha, hlt, hc⟩
  · exact .inl (by simpa using h3)
  · exact .inr ⟨b, off, ha, hlt, fun i x hx => hc i _ (by rw [List.getElem?_map, hx]; rfl)⟩
theorem IntRow.nil (w : World) : IntRow w (.slice none 0 0) [] := RowAt.nil w

/-- What a call owns stays owned while a callee makes memory of its own. -/
theorem owns_below {w w' : World} {base : Nat} {e : TypeId} {size n : Nat} {v : Value} {xs : List Value} (h : w.ownsRow base e size v n xs) (hb : Below w.heap.size w w') : w'.ownsRow base e size v n xs :=
  h.kept (row := none) ⟨hb.os, hb.tape, hb.output, hb.size, fun k hk _ => hb.block k hk⟩ (by cases hv : v.ownBlock <;> simp)
theorem below_append {w W w2 : World} {e : TypeId} {size n : Nat} {v : Value} {xs : List Value} (hB : Below w.heap.size w W) (hown : W.ownsRow w.heap.size e size v n xs) (hg : W.grownBy w2 v.ownBlock) : Below w.heap.size w w2 :=
  hB.grown hg hB.size (fun k hk => (hown.lt k hk).1)
theorem below_append' {w W w2 : World} {base : Nat} {e : TypeId} {size n : Nat} {v : Value} {xs : List Value} (hB : Below w.heap.size w W) (hown : W.ownsRow base e size v n xs) (hg : W.grownBy w2 v.ownBlock) (hb : w.heap.size ≤ base) : Below w.heap.size w w2 :=
  hB.grown hg hB.size (fun k hk => Nat.le_trans hb (hown.lt k hk).1)
theorem cells_made (w : World) (cs : List Value) (e : TypeId) (n : Nat) (hn : n = w.heap.size) : ∀ (j : Nat) (u : Value), cs[j]? = some u → (w.alloc (.cells cs.toArray e)).cell? ((⟨n, 0, none⟩ : Addr).add j) = some u := by
  subst hn
  intro j u h
  have e1 : (⟨w.heap.size, 0, none⟩ : Addr).add j = ⟨w.heap.size, j, none⟩ := by unfold Addr.add; split <;> simp_all
  rw [e1, World.cell?_alloc_at (hn := rfl)]
  simpa using h

/-- Block 'b' is a row of just these cells, none of them frozen. -/
def HasBlock (w : World) (b : Nat) (cs : Array Value) (T : TypeId) : Prop := w.heap[b]? = some (.cells cs T (0, 0))
theorem HasBlock.lt {w : World} {b : Nat} {cs : Array Value} {T : TypeId} (h : HasBlock w b cs T) : b < w.heap.size := (Array.getElem?_eq_some_iff.1 h).1
theorem HasBlock.alloc {w : World} {b : Nat} {cs : Array Value} {T : TypeId} (h : HasBlock w b cs T) (o : Obj) : HasBlock (w.alloc o) b cs T := (Below.heap_alloc w o b h.lt).trans h
theorem HasBlock.drew {w : World} {b : Nat} {cs : Array Value} {T : TypeId} (h : HasBlock w b cs T) : HasBlock w.drew b cs T := h
theorem HasBlock.set_ne {w : World} {b : Nat} {cs : Array Value} {T : TypeId} (h : HasBlock w b cs T) {b' j : Nat} (hne : b ≠ b') (v : Value) : HasBlock (w.setCell ⟨b', j, none⟩ v) b cs T := (Below.heap_setCell w _ v b hne).trans h
theorem HasBlock.set_at {w : World} {b : Nat} {cs : Array Value} {T : TypeId} (h : HasBlock w b cs T) (j : Nat) (v : Value) : HasBlock (w.setCell ⟨b, j, none⟩ v) b (cs.setIfInBounds j v) T := by
  unfold HasBlock at *
  simp only [World.setCell, Array.getElem?_modify, h]
  simp
theorem HasBlock.below {w w' : World} {b : Nat} {cs : Array Value} {T : TypeId} (h : HasBlock w b cs T) (hb : Below w.heap.size w w') : HasBlock w' b cs T := (hb.block b h.lt).trans h
theorem HasBlock.made (w : World) (cs : Array Value) (T : TypeId) : HasBlock (w.alloc (.cells cs T)) w.heap.size cs T := heap_alloc_new w _
theorem HasBlock.cell {w : World} {b : Nat} {cs : Array Value} {T : TypeId} (h : HasBlock w b cs T) (j : Nat) : w.cell? ⟨b, j, none⟩ = cs[j]? := cell_of_row w b j cs T (0, 0) h
theorem HasBlock.free {w : World} {b : Nat} {cs : Array Value} {T : TypeId} (h : HasBlock w b cs T) (j : Nat) : w.frozen? ⟨b, j, none⟩ = false := by
  unfold HasBlock at h
  simp [World.frozen?, h]
theorem HasBlock.store5 {w : World} {b : Nat} {T : TypeId} {x0 x1 x2 x3 x4 : Value} (h : HasBlock w b #[x0, x1, x2, x3, x4] T) (y0 y1 y2 y3 y4 : Value) :
    HasBlock (((((w.setCell ⟨b, 0, none⟩ y0).setCell ⟨b, 1, none⟩ y1).setCell ⟨b, 2, none⟩ y2).setCell ⟨b, 3, none⟩ y3).setCell ⟨b, 4, none⟩ y4) b #[y0, y1, y2, y3, y4] T := by
  have := ((((h.set_at 0 y0).set_at 1 y1).set_at 2 y2).set_at 3 y3).set_at 4 y4
  simpa using this

theorem HasBlock.append {W w2 : World} {b : Nat} {cs : Array Value} {T : TypeId} (h : HasBlock W b cs T) {base : Nat} {e : TypeId} {size n : Nat} {v : Value} {xs : List Value} (hown : W.ownsRow base e size v n xs) (hg : W.grownBy w2 v.ownBlock) (hlt : b < base) : HasBlock w2 b cs T :=
  (hg.block b h.lt (fun e => by have := (hown.lt b e.symm).1; omega)).trans h

/-- 'make([]T, n)', T of one cell: a new block of n zero cells. -/
theorem run_make_one {P : Program} (t e : TypeId) (z : Value) (bytes : Nat) (ht : P.underlying t = some (.slice e)) (hinfo : (P.info? e).map (fun i => (i.zero, i.size, i.bytes)) = some (some z, 1, bytes)) (hz : z.cells = #[z])
    (n : Nat) (hb : bytes * n ≤ 281474976710656) (hn : n ≤ 9223372036854775807) (w : World) :
    (Instr.makeSlice t (.int .i64 (n : Int)) (.int .i64 (n : Int))).run P w = .ok (.slice (some ⟨w.heap.size, 0, none⟩) n n) (w.alloc (.cells (List.replicate n z).toArray e)) := by
  obtain ⟨i, hi, hz0, hz1, hz2⟩ := info_parts hinfo
  have hbytes : (i.bytes : Int) * (n : Int) ≤ 281474976710656 := by
    have h : ((i.bytes * n : Nat) : Int) ≤ 281474976710656 := by rw [hz2]; omega
    rwa [Int.natCast_mul] at h
  have hr := run_make (P := P) w t e i z ht hi hz0 .i64 .i64 n n (by omega) (by omega) hbytes (by omega)
  simp only [Int.toNat_natCast] at hr
  rw [hr, hz, hz1, Nat.mul_one]
  congr 3
  apply Array.toList_inj.1
  rw [toList_madeCells_one]

theorem get_lt {α : Type} {xs : List α} {k : Nat} (h : k < xs.length) : ∃ x, xs[k]? = some x := ⟨xs[k], List.getElem?_eq_getElem h⟩
theorem lt_of_get {α : Type} {xs : List α} {k : Nat} {x : α} (h : xs[k]? = some x) : k < xs.length := (List.getElem?_eq_some_iff.1 h).1
end Go.Proofs.Ytbnngjhnkegliaa
namespace Go.Proofs.Ytbnngjhnkegliaa
open Go.RowKit

section
variable {α : Type} (enc : α → Value)
/-- A slice whose elements are written as 'enc' says. -/
def EncRow (w : World) (v : Value) (xs : List α) : Prop := RowAt w v xs.length (xs.map enc)
/-- The same, in memory of the call's own. -/
def OwnEnc (e : TypeId) (base : Nat) (w : World) (v : Value) (xs : List α) : Prop := w.ownsRow base e 1 v xs.length (xs.map enc)
def RetOwn (e : TypeId) (w : World) (xs : List α) (en : Ending) (w' : World) : Prop := ∃ v, en = .returned v ∧ OwnEnc enc e w.heap.size w' v xs ∧ Below w.heap.size w w'
end
theorem EncRow.below {α : Type} {enc : α → Value} {w w' : World} {v : Value} {xs : List α} (h : EncRow enc w v xs) (hb : Below w.heap.size w w') : EncRow enc w' v xs := RowAt.below h hb
theorem OwnEnc.row {α : Type} {enc : α → Value} {e : TypeId} {base : Nat} {w : World} {v : Value} {xs : List α} (h : OwnEnc enc e base w v xs) : EncRow enc w v xs := RowAt.of_owns h
theorem OwnEnc.below {α : Type} {enc : α → Value} {e : TypeId} {base : Nat} {w w' : World} {v : Value} {xs : List α} (h : OwnEnc enc e base w v xs) (hb : Below w.heap.size w w') : OwnEnc enc e base w' v xs := owns_below h hb
theorem owns_lower {w : World} {base base' : Nat} {e : TypeId} {size n : Nat} {v : Value} {xs : List Value} (h : w.ownsRow base e size v n xs) (hb : base' ≤ base) : w.ownsRow base' e size v n xs := by
  obtain ⟨h1, h2⟩ := h
  refine ⟨h1, ?_⟩
  rcases h2 with h2 | ⟨g, cap, cur, e1, e2, h3⟩
  · exact .inl h2
  · exact .inr ⟨g, cap, cur, e1, Nat.le_trans hb e2, h3⟩
theorem OwnEnc.lower {α : Type} {enc : α → Value} {e : TypeId} {base base' : Nat} {w : World} {v : Value} {xs : List α} (h : OwnEnc enc e base w v xs) (hb : base' ≤ base) : OwnEnc enc e base' w v xs := owns_lower h hb
theorem OwnEnc.alloc {α : Type} {enc : α → Value} {e : TypeId} {base : Nat} {w : World} {v : Value} {xs : List α} (h : OwnEnc enc e base w v xs) (o : Obj) : OwnEnc enc e base (w.alloc o) v xs := World.ownsRow.alloc h o
theorem EncRow.out {α : Type} {enc : α → Value} {w : World} {v : Value} {xs : List α} (h : EncRow enc w v xs) : ∃ (ao : Option Addr) (cap : Nat), v = .slice ao xs.length cap ∧ xs.length ≤ cap ∧ cap ≤ maxLen ∧
    (xs.length = 0 ∨ ∃ b off, ao = some ⟨b, off, none⟩ ∧ b < w.heap.size ∧ ∀ (i : Nat) (x : α), xs[i]? = some x → w.cell? ⟨b, off + i, none⟩ = some (enc x)) := by
  obtain ⟨ao, cap, hv, h1, h2, h3⟩ := h
  refine ⟨ao, cap, hv, h1, h2, ?_⟩
  rcases h3 with h3 | ⟨b, off, ha, hlt, hc⟩
  · exact .inl (by simpa using h3)
  · exact .inr ⟨b, off, ha, hlt, fun i x hx => hc i _ (by rw [List.getElem?_map, hx]; rfl)⟩
theorem OwnEnc.raw {α : Type} {enc : α → Value} {e : TypeId} {base : Nat} {w : World} {v : Value} {xs : List α} (h : OwnEnc enc e base w v xs) : w.ownsRow base e 1 v xs.length (xs.map enc) := h
theorem OwnEnc.form {α : Type} {enc : α → Value} {e : TypeId} {base : Nat} {w : World} {v : Value} {xs : List α} (h : OwnEnc enc e base w v xs) : ∃ (ao : Option Addr) (cap : Nat), v = .slice ao xs.length cap ∧ xs.length ≤ cap ∧ cap ≤ 9223372036854775807 := by
  rcases h.2 with ⟨rfl, h0⟩ | ⟨g, cap, cur, rfl, _, _, hn, hm, _⟩
  · have : xs = [] := by simpa using h0
    subst this
    exact ⟨none, 0, rfl, Nat.le_refl _, by omega⟩
  · exact ⟨_, cap, rfl, hn, by unfold maxLen at hm; omega⟩
theorem OwnEnc.addr {α : Type} {enc : α → Value} {e : TypeId} {base n : Nat} {w : World} {ao : Option Addr} {k : Nat} {xs : List α} (h : OwnEnc enc e base w (.slice ao n k) xs) (hn : xs.length = n) (h0 : 0 < n) : ∃ g, ao = some ⟨g, 0, none⟩ ∧ base ≤ g ∧ g < w.heap.size := by
  rcases h.2 with ⟨hv, h0'⟩ | ⟨g, cap, cur, hv, hb, hg, _⟩
  · have : xs = [] := by simpa using h0'
    subst this
    simp at hn
    omega
  · injection hv with hv
    exact ⟨g, hv, hb, (Array.getElem?_eq_some_iff.1 hg).1⟩
theorem OwnEnc.len {α : Type} {enc : α → Value} {e : TypeId} {base n k : Nat} {ao : Option Addr} {w : World} {xs : List α} (h : OwnEnc enc e base w (.slice ao n k) xs) : n = xs.length := by
  obtain ⟨ao', cap, hv, _⟩ := h.form
  injection hv
theorem OwnEnc.at {α : Type} {enc : α → Value} {e : TypeId} {base n g k : Nat} {w : World} {xs : List α} (h : OwnEnc enc e base w (.slice (some ⟨g, 0, none⟩) n k) xs) {j : Nat} {x : α} (hx : xs[j]? = some x) : w.cell? ⟨g, j, none⟩ = some (enc x) ∧ w.frozen? ⟨g, j, none⟩ = false := by
  have hj := lt_of_get hx
  obtain rfl := h.len
  refine ⟨(World.ownsRow.cellAt h j (by omega)).trans (by rw [List.getElem?_map, hx]; rfl), World.ownsRow.frozenAt h j⟩
theorem OwnEnc.put {α : Type} {enc : α → Value} {e : TypeId} {base n g k : Nat} {w : World} {xs : List α} (h : OwnEnc enc e base w (.slice (some ⟨g, 0, none⟩) n k) xs) (j : Nat) (x : α) : OwnEnc enc e base (w.setCell ⟨g, j, none⟩ (enc x)) (.slice (some ⟨g, 0, none⟩) n k) (xs.set j x) := by
  obtain rfl := h.len
  have h5 := (World.ownsRow.stored h j (enc x)).1
  unfold OwnEnc
  rw [List.length_set, List.map_set]
  exact h5
theorem add_of_none (b off j : Nat) : (⟨b, off, none⟩ : Addr).add j = ⟨b, off + j, none⟩ := by unfold Addr.add; split <;> simp_all
theorem RowAt.cells {w : World} {a : Addr} {n cap : Nat} {vals : List Value} (h : RowAt w (.slice (some a) n cap) n vals) : ∀ (j : Nat) (u : Value), vals[j]? = some u → w.cell? (a.add j) = some u := by
  obtain ⟨ao, cap', hv, _, _, h3⟩ := h
  injection hv with e1 _ e2
  subst e1
  intro j u hu
  rcases h3 with h3 | ⟨b, off, ha, _, hc⟩
  · rw [h3] at hu; simp at hu
  · injection ha with ha
    subst ha
    rw [add_of_none]
    exact hc j u hu
theorem EncRow.cells' {α : Type} {enc : α → Value} {w : World} {a : Addr} {n cap : Nat} {xs : List α} (h : EncRow enc w (.slice (some a) n cap) xs) : ∀ (j : Nat) (u : Value), (xs.map enc)[j]? = some u → w.cell? (a.add j) = some u := by
  have hn : n = xs.length := by
    obtain ⟨ao, cap, hv, _⟩ := h.out
    injection hv
  subst hn
  exact RowAt.cells h
theorem info_str : (Try.prog.info? 9).map (fun i => (i.zero, i.size, i.bytes)) = some (some (.string ⟨#[]⟩), 1, 16) := by kernel_rfl
theorem size_str : (Try.prog.info? 9).map (·.size) = some 1 := by kernel_rfl
abbrev StrRow := EncRow Value.string
abbrev OwnStr := OwnEnc Value.string 9
set_option maxHeartbeats 1000000 in
theorem clone_str (va : Value) (xs : List ByteArray) (w : World) (ha : EncRow Value.string w va xs) (hn : xs.length ≤ 1099511627776) : Calls Try.prog 43 #[va] w (RetOwn Value.string 9 w xs) := by
  obtain ⟨ao, cap, rfl, h1, h2, h3⟩ := ha.out
  obtain ⟨n, hn'⟩ : ∃ n, xs.length = n := ⟨_, rfl⟩
  have hrow : RowAt w (.slice ao n cap) n (xs.map Value.string) := by rw [← hn']; exact ha
  rw [hn'] at hn ⊢
  have HN := Lib.hid hn'; clear hn' h1 h2 ha
  have q22 : ∀ (w : World) (a : Option Addr) (n c n' c' : Nat), (binOp .eql 24 (.slice a n c) (.slice none n' c')).run Try.prog w = .ok (.bool a.isNone) w := fun w a n c n' c' => Lib.run_eql_slice_nil w _ _ a n c n' c' Try.underlying24
  cases ao with
  | none =>
    have h0 : xs = [] := by
      rcases h3 with h3 | ⟨b, off, hb, _⟩
      · exact List.eq_nil_of_length_eq_zero h3
      · cases hb
    subst h0
    clear h3 hrow HN
    go_enter Try.func43, Try.ntmps43
    go_wp2_with fail
    go_ret
    exact ⟨_, rfl, World.ownsRow_nil _ _ _ _, (by repeat (first | with_reducible exact Below.refl _ _ | with_reducible refine Below.drew ?_ | (with_reducible refine Below.alloc ?_ (by first | exact Nat.le_refl _ | omega | (simp only [sizes]; omega)) _) | (with_reducible refine Below.setCell ?_ (by first | exact Nat.le_refl _ | omega | (simp only [sizes]; omega)) _) | (refine Below.trans ?_ (Below.mono (by with_reducible assumption) (by first | exact Nat.le_refl _ | omega | (simp only [sizes]; omega))))))⟩
  | some a =>
    clear h3
    have HR := Lib.hid hrow; clear hrow
    obtain ⟨i0, hi, iz0, iz1, iz2⟩ := info_parts info_str
    go_enter Try.func43, Try.ntmps43
    go_wp2_with (at_builtin; refine wpList_append_own _ rfl _ _ 24 rfl w.heap.size 9 i0 (.string ⟨#[]⟩) 1 16 Try.underlying24 hi iz0 iz1 iz2 rfl (by decide) _ _ _ rfl (World.ownsRow_made w #[] 0 (Nat.le_refl _) (Nat.zero_le _) (by simp)) a n cap (xs.map Value.string) rfl ?qc1 ?qc2 ?qc3 ?qc4 ?qc5 ?qc6 ?_)
    case qc1 => rw [List.length_map, HN.out, Nat.mul_one]
    case qc2 => exact fun j u hj => Lib.cell?_alloc_some _ (HR.out.cells j u hj)
    case qc3 => intro u hu; rw [List.mem_map] at hu; obtain ⟨x, _, rfl⟩ := hu; rfl
    case qc4 => unfold maxLen; omega
    case qc5 => omega
    case qc6 => simp
    intro v' w1 hown hgrow _
    have HO := Lib.hid hown; clear hown
    go_wp2_with fail
    go_ret
    refine ⟨v', rfl, ?_, ?_⟩
    · unfold OwnEnc; rw [HN.out]; simpa using HO.out
    · exact ((Below.refl _ w).alloc (Nat.le_refl _) _).grown hgrow (by simp) (by intro k hk; simp [Value.ownBlock] at hk; omega)

theorem take_succ_eq {α : Type} {A B : List α} {k : Nat} {x : α} (h : A.take k = B.take k) (ha : A[k]? = some x) (hb : B[k]? = some x) : A.take (k + 1) = B.take (k + 1) := by
  rw [List.take_add_one, List.take_add_one, h, ha, hb]
theorem toList_inj {x y : ByteArray} (h : x.toList = y.toList) : x = y := by
  rw [ByteArray.toList_eq, ByteArray.toList_eq] at h
  exact ByteArray.ext (Array.toList_inj.1 h)
theorem toList_ne {x y : ByteArray} (h : x ≠ y) : (x.toList == y.toList) = false := by
  rw [beq_eq_false_iff_ne]
  exact fun e => h (toList_inj e)
end Go.Proofs.Ytbnngjhnkegliaa
namespace Go.Proofs.Ytbnngjhnkegliaa
open Go.RowKit

section
variable {P : Program} {ops : Array Oper} {md : Region.Mode} {C : World → Prop}

/-- Whatever order the head is taken in, each of its operations is quiet in the class; behind the head, L. -/
def wpAnyQL (P : Program) (md : Region.Mode) (ops : Array Oper) (C : World → Prop) (n : Nat) (L : Array Bool → Act → Prop) : Nat → Array Bool → Act → Prop
  | 0, listed, a => L listed a
  | f + 1, listed, a =>
    Region.ready md ops listed ≠ [] ∧ ∀ i ∈ Region.ready md ops listed, i < n ∧ qOp P ops C i (wpAnyQL P md ops C n L f (listed.setIfInBounds i true)) a

theorem wpAny_of_headQ {n g : Nat} {L : Array Bool → Act → Prop} {Q' : Exit → Act → World → Prop} (hL : ∀ listed a w, C w → L listed a → wpAny P md ops Q' g listed a w) :
    ∀ (f : Nat) (listed : Array Bool) (a : Act) (w : World), C w → wpAnyQL P md ops C n L f listed a → wpAny P md ops Q' (f + g) listed a w
  | 0, listed, a, w, hw, h => by rw [Nat.zero_add]; exact hL _ _ _ hw h
  | f + 1, listed, a, w, hw, h => by
    rw [show f + 1 + g = (f + g) + 1 by omega]
    exact ⟨fun h0 => absurd h0 h.1, fun i hi => wpOp_of_qOp hw (fun a' w' hw' h' => wpAny_of_headQ hL f _ a' w' hw' h') (h.2 i hi).2⟩

theorem wpAnyQL_first {n i : Nat} {oi : Oper} {v : Value} {L : Array Bool → Act → Prop} (hi : ops[i]? = some oi) (hsel : ∀ (j : Nat) (o : Oper) cs b, ops[j]? = some o → o.op ≠ .select cs b)
    (hs : Region.sinkB md ops n = true) (hc : Region.chainB md ops n = true) (hn : n < ops.size) (hin : i < n)
    (hdone : ∀ listed a, L listed a → ∀ j ∈ Region.ready md ops listed, n ≤ j) :
    ∀ (f : Nat) (listed : Array Bool) (a : Act), HeadInv md ops n listed →
      (∀ j oj, ops[j]? = some oj → j ≠ i → listed.getD j true = false → (∀ e ∈ oj.after, Region.binds md e = true → e.on ≠ i) → oi.apart ops oj = true) →
      i ∈ Region.ready md ops listed → YieldsIn P ops C oi v a →
      wpAnyQL P md ops C n L f (listed.setIfInBounds i true) (a.put oi.dst v) → wpAnyQL P md ops C n L (f + 1) listed a := by
  intro f
  induction f with
  | zero =>
    intro listed a inv _ hr hy H
    have hun := (mem_ready.1 hr).1
    refine ⟨fun h => (by rw [h] at hr; cases hr), fun j hj => ?_⟩
    have hjn : j < n := by
      rcases Nat.lt_or_ge j n with h | h
      · exact h
      · exact absurd hj (tail_waits hs hc hn inv _ i rfl hin hun j h)
    refine ⟨hjn, ?_⟩
    by_cases hji : j = i
    · subst hji; exact hy.qOp hi H
    · have := hdone _ _ H j (ready_mono hj hji)
      omega
  | succ f ih =>
    intro listed a inv hfree hr hy H
    have hun := (mem_ready.1 hr).1
    refine ⟨fun h => (by rw [h] at hr; cases hr), fun j hj => ?_⟩
    have hjn : j < n := by
      rcases Nat.lt_or_ge j n with h | h
      · exact h
      · exact absurd hj (tail_waits hs hc hn inv _ i rfl hin hun j h)
    refine ⟨hjn, ?_⟩
    by_cases hji : j = i
    · subst hji; exact hy.qOp hi H
    · have h1 := (H.2 j (ready_mono hj hji)).2
      obtain ⟨hjun, oj, hoj, hall⟩ := mem_ready.1 hj
      have hnot : ∀ e ∈ oj.after, Region.binds md e = true → e.on ≠ i := fun e he hb heq => by
        have h1 := hall e he hb
        rw [heq, getD_both hun] at h1
        cases h1
      have h2 := qOp_put hoj (hfree j oj hoj hji hjun hnot) (fun cs b => hsel i oi cs b hi) (fun cs b => hsel j oj cs b hoj) hy h1
      have hfree' : ∀ k ok, ops[k]? = some ok → k ≠ i → (listed.setIfInBounds j true).getD k true = false →
          (∀ e ∈ ok.after, Region.binds md e = true → e.on ≠ i) → oi.apart ops ok = true := fun k ok hk hki hun hno => by
        refine hfree k ok hk hki ?_ hno
        by_cases hjk : j = k
        · subst hjk; exact hjun
        · rw [getD_set_ne true hjk] at hun; exact hun
      refine qOp_mono (fun a' h3 => ih (listed.setIfInBounds j true) a' (inv.set hj hjn) hfree' (ready_mono hr (Ne.symm hji)) h3.1 ?_) h2
      rw [Array.setIfInBounds_comm _ _ hji]
      exact h3.2

theorem wpAnyQL_lex {n g : Nat} {Lq : Act → Prop} (hsel : Region.noSelect ops = true) (hs : Region.sinkB md ops n = true) (hc : Region.chainB md ops n = true) (hn : n < ops.size) :
    ∀ (l : List Oper) (k : Nat) (listed : Array Bool) (a : Act), (∀ j, j < l.length → l[j]? = ops[k + j]?) → k + l.length = n → HeadInv md ops n listed →
    Region.lexHead md ops g l.length k listed = true → wpQuiet P ops C Lq l a →
    wpAnyQL P md ops C n (fun listed' a' => Region.seqB md ops g n listed' = true ∧ Lq a') l.length listed a
  | [], k, listed, a, _, hk, _, hB, h => by
    have : k = n := by simpa using hk
    subst this
    exact ⟨by simpa [Region.lexHead] using hB, h⟩
  | o :: l, k, listed, a, hl, hk, inv, hB, h => by
    have h0 : ops[k]? = some o := by simpa using (hl 0 (by simp)).symm
    simp only [List.length_cons, Region.lexHead, Bool.and_eq_true] at hB
    obtain ⟨⟨hr, hf⟩, hB'⟩ := hB
    have hkn : k < n := by simp only [List.length_cons] at hk; omega
    have hr' : k ∈ Region.ready md ops listed := by simpa using hr
    have hst : qOp P ops C k (wpQuiet P ops C Lq l) a := by unfold qOp; simp only [h0]; exact h
    obtain ⟨v, hy, hK⟩ := yieldsIn_of_qOp h0 hst
    exact wpAnyQL_first h0 (Region.noSelect_spec hsel) hs hc hn hkn (fun listed' a' hL => seqB_ready hL.1) l.length listed a inv (Region.free_spec h0 hf) hr' hy
      (wpAnyQL_lex hsel hs hc hn l (k + 1) _ _ (fun j hj => by have := hl (j + 1) (by simp; omega); simpa [Nat.add_assoc, Nat.add_comm 1 j] using this) (by simp only [List.length_cons] at hk; omega) (inv.set hr' hkn) hB' hK)

/-- A region that draws its order: the first n operations quiet in the class, the rest in one forced order, from whatever world of the class. -/
theorem wp_region_quiet_tail {id : Nat} {Q : Exit → Act → World → Prop} {a : Act} {w : World} {l : List Oper} (n : Nat) (hm : P.follows .mixedOrders = true) (hB : Region.lexTailB .any l.toArray n = true) (hC : C { w with drawn := w.drawn + 1 })
    (h : wpQuiet P l.toArray C (fun a' => ∀ w', C w' → wpList P l.toArray Q (l.drop n) a' w') (l.take n) a) : (Code.region id l.toArray true).wp P Q a w := by
  simp only [Region.lexTailB, Bool.and_eq_true, decide_eq_true_eq] at hB
  obtain ⟨⟨⟨⟨hsel, hn⟩, hs⟩, hc⟩, hlex⟩ := hB
  have hn' : n < l.length := by simpa using hn
  have htl : (l.take n).length = n := by simp; omega
  have hdl : (l.drop n).length = l.toArray.size - n := by simp
  have inv0 : HeadInv .any l.toArray n (Array.replicate l.toArray.size false) :=
    ⟨by simp, fun j oj _ hl => (by rw [getD_replicate_false] at hl; cases hl), fun t _ ht => getD_in (by simpa using ht) (getD_replicate_false _ _)⟩
  have H := wpAnyQL_lex (md := .any) (g := l.toArray.size - n) hsel hs hc hn (l.take n) 0 _ a (fun j hj => by
    have hj' : j < n := by rw [htl] at hj; exact hj
    simp [hj']) (by simpa using htl) inv0 (by rw [htl]; exact hlex) h
  refine wp_region_any hm ?_
  have := wpAny_of_headQ (Q' := Q) (g := l.toArray.size - n) (fun listed a' w' hw' hL => by
    have := wpAny_of_seq (md := .any) (Q' := Q) (l.drop n) n listed a' w' (fun j => by simp [List.getElem?_drop]) (by rw [hdl]; exact hL.1) (hL.2 w' hw')
    rwa [hdl] at this) _ _ _ _ hC H
  rw [htl, show n + (l.toArray.size - n) = l.toArray.size by omega] at this
  exact this
end

/-- The same at the class of worlds in which memory has been made. -/
theorem wp_region_tail_below {P : Program} {id : Nat} {Q : Exit → Act → World → Prop} {a : Act} {w : World} {l : List Oper} (n : Nat) (hm : P.follows .mixedOrders = true) (hB : Region.lexTailB .any l.toArray n = true)
    (h : wpQuiet P l.toArray (fun w' => ∃ p : Regrown, w' = Sort.grow (redrawn w p.d) p.os) (fun a' => ∀ w', (∃ p : Regrown, w' = Sort.grow (redrawn w p.d) p.os) → wpList P l.toArray Q (l.drop n) a' w') (l.take n) a) : (Code.region id l.toArray true).wp P Q a w :=
  wp_region_quiet_tail (C := fun w' => ∃ p : Regrown, w' = Sort.grow (redrawn w p.d) p.os) n hm hB ⟨⟨w.drawn + 1, #[]⟩, by rw [Sort.grow_empty]; rfl⟩ h
end Go.Proofs.Ytbnngjhnkegliaa
namespace Go.Proofs.Ytbnngjhnkegliaa
open Go.RowKit

theorem info_int : (Try.prog.info? 3).map (fun i => (i.zero, i.size, i.bytes)) = some (some (.int .i64 0), 1, 8) := by kernel_rfl
theorem info_ints : (Try.prog.info? 22).map (fun i => (i.zero, i.size, i.bytes)) = some (some (.slice none 0 0), 1, 24) := by kernel_rfl
abbrev NumRow := EncRow (Value.int .i64)
abbrev OwnNum := OwnEnc (Value.int .i64) 3
set_option maxHeartbeats 1000000 in
theorem clone_num (va : Value) (xs : List Int) (w : World) (ha : EncRow (Value.int .i64) w va xs) (hn : xs.length ≤ 1099511627776) : Calls Try.prog 44 #[va] w (RetOwn (Value.int .i64) 3 w xs) := by
  obtain ⟨ao, cap, rfl, h1, h2, h3⟩ := ha.out
  obtain ⟨n, hn'⟩ : ∃ n, xs.length = n := ⟨_, rfl⟩
  have hrow : RowAt w (.slice ao n cap) n (xs.map (Value.int .i64)) := by rw [← hn']; exact ha
  rw [hn'] at hn ⊢
  have HN := Lib.hid hn'; clear hn' h1 h2 ha
  have q22 : ∀ (w : World) (a : Option Addr) (n c n' c' : Nat), (binOp .eql 22 (.slice a n c) (.slice none n' c')).run Try.prog w = .ok (.bool a.isNone) w := fun w a n c n' c' => Lib.run_eql_slice_nil w _ _ a n c n' c' Try.underlying22
  cases ao with
  | none =>
    have h0 : xs = [] := by
      rcases h3 with h3 | ⟨b, off, hb, _⟩
      · exact List.eq_nil_of_length_eq_zero h3
      · cases hb
    subst h0
    clear h3 hrow HN
    go_enter Try.func44, Try.ntmps44
    go_wp2_with fail
    go_ret
    exact ⟨_, rfl, World.ownsRow_nil _ _ _ _, (by repeat (first | with_reducible exact Below.refl _ _ | with_reducible refine Below.drew ?_ | (with_reducible refine Below.alloc ?_ (by first | exact Nat.le_refl _ | omega | (simp only [sizes]; omega)) _) | (with_reducible refine Below.setCell ?_ (by first | exact Nat.le_refl _ | omega | (simp only [sizes]; omega)) _) | (refine Below.trans ?_ (Below.mono (by with_reducible assumption) (by first | exact Nat.le_refl _ | omega | (simp only [sizes]; omega))))))⟩
  | some a =>
    clear h3
    have HR := Lib.hid hrow; clear hrow
    obtain ⟨i0, hi, iz0, iz1, iz2⟩ := info_parts info_int
    go_enter Try.func44, Try.ntmps44
    go_wp2_with (at_builtin; refine wpList_append_own _ rfl _ _ 22 rfl w.heap.size 3 i0 (.int .i64 0) 1 8 Try.underlying22 hi iz0 iz1 iz2 rfl (by decide) _ _ _ rfl (World.ownsRow_made w #[] 0 (Nat.le_refl _) (Nat.zero_le _) (by simp)) a n cap (xs.map (Value.int .i64)) rfl ?qc1 ?qc2 ?qc3 ?qc4 ?qc5 ?qc6 ?_)
    case qc1 => rw [List.length_map, HN.out, Nat.mul_one]
    case qc2 => exact fun j u hj => Lib.cell?_alloc_some _ (HR.out.cells j u hj)
    case qc3 => intro u hu; rw [List.mem_map] at hu; obtain ⟨x, _, rfl⟩ := hu; rfl
    case qc4 => unfold maxLen; omega
    case qc5 => omega
    case qc6 => simp
    intro v' w1 hown hgrow _
    have HO := Lib.hid hown; clear hown
    go_wp2_with fail
    go_ret
    refine ⟨v', rfl, ?_, ?_⟩
    · unfold OwnEnc; rw [HN.out]; simpa using HO.out
    · exact ((Below.refl _ w).alloc (Nat.le_refl _) _).grown hgrow (by simp) (by intro k hk; simp [Value.ownBlock] at hk; omega)

/-- A slice of slices of numbers, read. -/
def MapRow (w : World) (v : Value) (M : List (List Int)) : Prop := ∃ us : List Value, RowAt w v M.length us ∧ us.length = M.length ∧ ∀ (i : Nat) (u : Value) (xs : List Int), us[i]? = some u → M[i]? = some xs → NumRow w u xs
theorem MapRow.below {w w' : World} {v : Value} {M : List (List Int)} (h : MapRow w v M) (hb : Below w.heap.size w w') : MapRow w' v M := by
  obtain ⟨us, h1, h2, h3⟩ := h
  exact ⟨us, h1.below hb, h2, fun i u xs hu hx => (h3 i u xs hu hx).below hb⟩
/-- A pool, read. -/
def PoolRow (w : World) (v : Value) (F : List ByteArray) (R : List Int) (M : List (List Int)) : Prop := ∃ vf vr vm, v = .agg #[vf, vr, vm] ∧ StrRow w vf F ∧ NumRow w vr R ∧ MapRow w vm M
theorem PoolRow.below {w w' : World} {v : Value} {F : List ByteArray} {R : List Int} {M : List (List Int)} (h : PoolRow w v F R M) (hb : Below w.heap.size w w') : PoolRow w' v F R M := by
  obtain ⟨vf, vr, vm, e, h1, h2, h3⟩ := h
  exact ⟨vf, vr, vm, e, h1.below hb, h2.below hb, h3.below hb⟩
/-- Two slices that share no block. -/
def Apart (v v' : Value) : Prop := ∀ k, v.ownBlock = some k → v'.ownBlock ≠ some k
/-- Rows of the call's own, the i-th holding the i-th list; no two share a block. -/
def OwnRows (base : Nat) (w : World) (us : List Value) (M : List (List Int)) : Prop := us.length = M.length ∧ (∀ (i : Nat) (u : Value) (xs : List Int), us[i]? = some u → M[i]? = some xs → OwnNum base w u xs) ∧ ∀ (i j : Nat) (u u' : Value), i ≠ j → us[i]? = some u → us[j]? = some u' → Apart u u'
theorem OwnRows.nil (base : Nat) (w : World) : OwnRows base w [] [] := ⟨rfl, fun i u xs h => by simp at h, fun i j u u' _ h => by simp at h⟩
theorem OwnRows.below {base : Nat} {w w' : World} {us : List Value} {M : List (List Int)} (h : OwnRows base w us M) (hb : Below w.heap.size w w') : OwnRows base w' us M :=
  ⟨h.1, fun i u xs hu hx => (h.2.1 i u xs hu hx).below hb, h.2.2⟩
theorem OwnRows.snoc {base : Nat} {w : World} {us : List Value} {M : List (List Int)} {u : Value} {xs : List Int} (h : OwnRows base w us M) (hu : OwnNum base w u xs) (ha : ∀ (i : Nat) (u' : Value), us[i]? = some u' → Apart u' u) : OwnRows base w (us ++ [u]) (M ++ [xs]) := by
  obtain ⟨h1, h2, h3⟩ := h
  refine ⟨by simp [h1], fun i v ys hv hy => ?_, fun i j v v' hij hv hv' => ?_⟩
  · rw [List.getElem?_append] at hv hy
    rw [← h1] at hy
    split at hv
    · rename_i hlt
      rw [if_pos hlt] at hy
      exact h2 i v ys hv hy
    · rename_i hge
      rw [if_neg hge] at hy
      obtain h0 : i - us.length = 0 := by have := lt_of_get hv; simp at this; omega
      rw [h0] at hv hy
      simp at hv hy
      subst hv hy
      exact hu
  · rw [List.getElem?_append] at hv hv'
    split at hv
    · split at hv'
      · exact h3 i j v v' hij hv hv'
      · have h0 : j - us.length = 0 := by have := lt_of_get hv'; simp at this; omega
        rw [h0] at hv'
        simp at hv'
        subst hv'
        exact ha i v hv
    · have h0 : i - us.length = 0 := by have := lt_of_get hv; simp at this; omega
      rw [h0] at hv
      simp at hv
      subst hv
      split at hv'
      · intro k hk hk'
        exact ha j v' hv' k hk' hk
      · have h0' : j - us.length = 0 := by have := lt_of_get hv'; simp at this; omega
        omega
/-- A pool in memory of the call's own. -/
def OwnPool (base : Nat) (w : World) (v : Value) (F : List ByteArray) (R : List Int) (M : List (List Int)) : Prop := ∃ (vf vr vm : Value) (us : List Value), v = .agg #[vf, vr, vm] ∧ OwnStr base w vf F ∧ OwnNum base w vr R ∧ w.ownsRow base 22 1 vm M.length us ∧ OwnRows base w us M ∧ ∀ (i : Nat) (u : Value), us[i]? = some u → Apart vr u
theorem OwnPool.below {base : Nat} {w w' : World} {v : Value} {F : List ByteArray} {R : List Int} {M : List (List Int)} (h : OwnPool base w v F R M) (hb : Below w.heap.size w w') : OwnPool base w' v F R M := by
  obtain ⟨vf, vr, vm, us, e, h1, h2, h3, h4, h5⟩ := h
  exact ⟨vf, vr, vm, us, e, h1.below hb, h2.below hb, owns_below h3 hb, h4.below hb, h5⟩
theorem OwnPool.row {base : Nat} {w : World} {v : Value} {F : List ByteArray} {R : List Int} {M : List (List Int)} (h : OwnPool base w v F R M) : PoolRow w v F R M := by
  obtain ⟨vf, vr, vm, us, e, h1, h2, h3, h4, _⟩ := h
  exact ⟨vf, vr, vm, e, h1.row, h2.row, us, RowAt.of_owns h3, h4.1, fun i u xs hu hx => (h4.2.1 i u xs hu hx).row⟩

/-! pages of zeros -/
def zeroB (s : ByteArray) : Bool := s.data.toList.all (fun c => c == 0)
end Go.Proofs.Ytbnngjhnkegliaa
namespace Go.Proofs.Ytbnngjhnkegliaa
open Go.RowKit

/-- How often each of n frames occurs among pages. -/
def cntRow (n : Nat) (P : List Int) : List Int := (List.range n).map (fun f : Nat => ((P.count (f : Int) : Nat) : Int))
theorem cntRow_len (n : Nat) (P : List Int) : (cntRow n P).length = n := by simp [cntRow]
theorem cntRow_at {n f : Nat} (P : List Int) (h : f < n) : (cntRow n P)[f]? = some ((P.count (f : Int) : Nat) : Int) := by
  unfold cntRow
  rw [List.getElem?_map, List.getElem?_range h]
  rfl
theorem cntRow_nil (n : Nat) : cntRow n [] = List.replicate n 0 := by
  apply List.ext_getElem?
  intro i
  by_cases h : i < n
  · rw [cntRow_at [] h, List.getElem?_replicate, if_pos h]; rfl
  · rw [List.getElem?_eq_none (by rw [cntRow_len]; omega), List.getElem?_eq_none (by rw [List.length_replicate]; omega)]
theorem cntRow_neg (n : Nat) (P : List Int) : cntRow n (P ++ [-1]) = cntRow n P := by
  unfold cntRow
  apply List.map_congr_left
  intro f _
  rw [List.count_append, List.count_singleton, if_neg (by rw [beq_iff_eq]; omega), Nat.add_zero]
theorem cntRow_inc {n f : Nat} (P : List Int) (h : f < n) : cntRow n (P ++ [(f : Int)]) = (cntRow n P).set f (((P.count (f : Int) : Nat) : Int) + 1) := by
  apply List.ext_getElem?
  intro i
  rw [List.getElem?_set, cntRow_len]
  by_cases hi : i < n
  · rw [cntRow_at _ hi, List.count_append, List.count_singleton]
    by_cases e : f = i
    · subst e
      rw [if_pos rfl, if_pos h, if_pos (by rw [beq_iff_eq])]
      rfl
    · rw [if_neg e, if_neg (by rw [beq_iff_eq]; omega), cntRow_at _ hi, Nat.add_zero]
  · rw [List.getElem?_eq_none (by rw [cntRow_len]; omega), if_neg (by omega), List.getElem?_eq_none (by rw [cntRow_len]; omega)]
theorem count_le_len (P : List Int) (f : Int) : P.count f ≤ P.length := List.count_le_length
def pageOk (n : Nat) (f : Int) : Bool := decide (-1 ≤ f ∧ f < n)
def rowOk (n : Nat) (l : List Int) : Bool := decide (1 ≤ l.length ∧ l.length ≤ 32) && l.all (pageOk n)
def mapOk (n : Nat) (M : List (List Int)) : Bool := M.all (rowOk n)
def frameOk (F : List ByteArray) (R : List Int) (P : List Int) (f : Nat) : Bool :=
  match F[f]?, R[f]? with
  | some s, some r => decide (r = ((P.count (f : Int) : Nat) : Int)) && (decide (P.count (f : Int) = 0) == decide (s.size = 0)) && (decide (s.size = 0) || (decide (s.size = 128) && !zeroB s))
  | _, _ => false
def framesOk (F : List ByteArray) (R : List Int) (P : List Int) : Nat → Bool
  | 0 => true
  | k + 1 => framesOk F R P k && frameOk F R P k
def poolHead (F : List ByteArray) (R : List Int) (M : List (List Int)) : Bool := decide (1 ≤ F.length ∧ F.length ≤ 96 ∧ R.length = F.length ∧ M.length ≤ 8)
def poolB (F : List ByteArray) (R : List Int) (M : List (List Int)) : Bool := poolHead F R M && (mapOk F.length M && framesOk F R M.flatten F.length)
theorem framesOk_false {F : List ByteArray} {R P : List Int} {k n : Nat} (h : frameOk F R P k = false) (hk : k < n) : framesOk F R P n = false := by
  induction n with
  | zero => omega
  | succ n ih =>
    unfold framesOk
    by_cases e : k = n
    · subst e; rw [h, Bool.and_false]
    · rw [ih (by omega), Bool.false_and]
theorem mapOk_false {n k : Nat} {M : List (List Int)} {l : List Int} (h : M[k]? = some l) (hl : rowOk n l = false) : mapOk n M = false := by
  unfold mapOk
  rw [List.all_eq_false]
  exact ⟨l, List.mem_of_getElem? h, by rw [hl]; decide⟩
theorem rowOk_len {n : Nat} {l : List Int} (h : ¬ (1 ≤ l.length ∧ l.length ≤ 32)) : rowOk n l = false := by
  unfold rowOk
  rw [decide_eq_false h, Bool.false_and]
theorem rowOk_at {n k : Nat} {l : List Int} {f : Int} (h : l[k]? = some f) (hf : pageOk n f = false) : rowOk n l = false := by
  unfold rowOk
  have : l.all (pageOk n) = false := by
    rw [List.all_eq_false]
    exact ⟨f, List.mem_of_getElem? h, by rw [hf]; decide⟩
  rw [this, Bool.and_false]
/-- The first k lists of a map are well formed. -/
def mapUp (n : Nat) (M : List (List Int)) (k : Nat) : Bool := mapOk n (M.take k)
theorem mapUp_succ {n k : Nat} {M : List (List Int)} {l : List Int} (h : M[k]? = some l) (h1 : mapUp n M k = true) (h2 : rowOk n l = true) : mapUp n M (k + 1) = true := by
  unfold mapUp mapOk at *
  rw [List.take_add_one, h, List.all_append, h1]
  simpa using h2
theorem flat_succ {M : List (List Int)} {k : Nat} {l : List Int} (h : M[k]? = some l) : (M.take (k + 1)).flatten = (M.take k).flatten ++ l := by
  rw [List.take_add_one, h, List.flatten_append]
  simp
theorem take_succ' {l : List Int} {k : Nat} {f : Int} (h : l[k]? = some f) : l.take (k + 1) = l.take k ++ [f] := by
  rw [List.take_add_one, h]
  rfl
theorem rowUp_all {n : Nat} {l : List Int} (h1 : 1 ≤ l.length ∧ l.length ≤ 32) (h2 : (l.take l.length).all (pageOk n) = true) : rowOk n l = true := by
  unfold rowOk
  rw [decide_eq_true h1]
  rw [List.take_length] at h2
  rw [h2]
  rfl
theorem rowUp_succ {n k : Nat} {l : List Int} {f : Int} (h : l[k]? = some f) (h1 : (l.take k).all (pageOk n) = true) (hf : pageOk n f = true) : (l.take (k + 1)).all (pageOk n) = true := by
  rw [take_succ' h, List.all_append, h1]
  simpa using hf
end Go.Proofs.Ytbnngjhnkegliaa
namespace Go.Proofs.Ytbnngjhnkegliaa
open Go.RowKit

structure Pl where
  F : List ByteArray
  R : List Int
  M : List (List Int)
/-- The pages of a guest. -/
def Pl.pages (P : Pl) (g : Nat) : List Int := (P.M[g]?).getD []
/-- The frame of a page. -/
def Pl.fr (P : Pl) (g p : Nat) : Int := ((P.pages g)[p]?).getD (-1)
def Pl.ref (P : Pl) (f : Nat) : Int := (P.R[f]?).getD 0
def Pl.txt (P : Pl) (f : Nat) : ByteArray := (P.F[f]?).getD ⟨#[]⟩
def Pl.ok (P : Pl) : Bool := poolB P.F P.R P.M
def Pl.is (P : Pl) (g p : Int) : Bool := decide (0 ≤ g ∧ g < P.M.length ∧ 0 ≤ p ∧ p < (P.pages g.toNat).length)
def Pl.has (P : Pl) (g p : Int) : Bool := P.ok && P.is g p
def Pl.setF (P : Pl) (f : Nat) (s : ByteArray) : Pl := ⟨P.F.set f s, P.R, P.M⟩
def Pl.setR (P : Pl) (f : Nat) (x : Int) : Pl := ⟨P.F, P.R.set f x, P.M⟩
def Pl.setM (P : Pl) (g p : Nat) (x : Int) : Pl := ⟨P.F, P.R, P.M.set g ((P.pages g).set p x)⟩
/-- A page's frame taken away. -/
def Pl.giveUp (P : Pl) (g p : Nat) : Pl :=
  if P.fr g p < 0 then P
  else if P.ref (P.fr g p).toNat - 1 = 0 then (((P.setM g p (-1)).setR (P.fr g p).toNat (P.ref (P.fr g p).toNat - 1)).setF (P.fr g p).toNat ⟨#[]⟩)
  else ((P.setM g p (-1)).setR (P.fr g p).toNat (P.ref (P.fr g p).toNat - 1))
/-- A page given a frame that is free. -/
def Pl.take (P : Pl) (g p i : Nat) (d : ByteArray) : Pl := (((P.giveUp g p).setM g p i).setR i 1).setF i d
/-- A page given a frame that others have. -/
def Pl.join (P : Pl) (g p i : Nat) : Pl := ((P.giveUp g p).setM g p i).setR i ((P.giveUp g p).ref i + 1)
/-- The first place of a word. -/
def firstOf (L : List ByteArray) (s : ByteArray) : Option Nat := L.findIdx? (fun t => decide (t = s))
/-- All that a pool holds are the machine's own numbers. -/
def Pl.fit (P : Pl) : Prop := (∀ x ∈ P.R, -9223372036854775808 ≤ x ∧ x ≤ 9223372036854775807) ∧ (∀ l ∈ P.M, ∀ x ∈ l, -9223372036854775808 ≤ x ∧ x ≤ 9223372036854775807)
def Pl.small (P : Pl) : Prop := P.F.length ≤ 1000000 ∧ P.R.length ≤ 1000000 ∧ P.M.length ≤ 1000000 ∧ ∀ l ∈ P.M, l.length ≤ 1000000
def PlRow (w : World) (v : Value) (P : Pl) : Prop := PoolRow w v P.F P.R P.M
theorem PlRow.parts {w : World} {vf vr vm : Value} {P : Pl} (h : PlRow w (.agg #[vf, vr, vm]) P) : StrRow w vf P.F ∧ NumRow w vr P.R ∧ MapRow w vm P.M := by
  obtain ⟨vf', vr', vm', e, h1, h2, h3⟩ := h
  injection e with e
  injection e with e
  injection e with e1 e
  injection e with e2 e
  injection e with e3
  subst e1 e2 e3
  exact ⟨h1, h2, h3⟩
theorem PlRow.below {w w' : World} {v : Value} {P : Pl} (h : PlRow w v P) (hb : Below w.heap.size w w') : PlRow w' v P := PoolRow.below h hb
theorem HasBlock.all {w : World} {b : Nat} {cs : Array Value} {T : TypeId} (h : HasBlock w b cs T) : (∀ j, w.cell? ⟨b, j, none⟩ = cs[j]?) ∧ (∀ j, w.frozen? ⟨b, j, none⟩ = false) ∧ b < w.heap.size := ⟨h.cell, h.free, h.lt⟩
theorem HasBlock.put3_0 {w : World} {b : Nat} {T : TypeId} {x0 x1 x2 : Value} (h : HasBlock w b #[x0, x1, x2] T) (v : Value) : HasBlock (w.setCell ⟨b, 0, none⟩ v) b #[v, x1, x2] T := by simpa using h.set_at 0 v
theorem HasBlock.put3_1 {w : World} {b : Nat} {T : TypeId} {x0 x1 x2 : Value} (h : HasBlock w b #[x0, x1, x2] T) (v : Value) : HasBlock (w.setCell ⟨b, 1, none⟩ v) b #[x0, v, x2] T := by simpa using h.set_at 1 v
theorem HasBlock.put3_2 {w : World} {b : Nat} {T : TypeId} {x0 x1 x2 : Value} (h : HasBlock w b #[x0, x1, x2] T) (v : Value) : HasBlock (w.setCell ⟨b, 2, none⟩ v) b #[x0, x1, v] T := by simpa using h.set_at 2 v
theorem Below.next {B : Nat} {w0 w w' : World} (h : Below B w0 w) (hb : Below w.heap.size w w') (hz : B ≤ w.heap.size) : Below B w0 w' := h.trans (hb.mono hz)

/-! rows of the call's own -/
theorem own_ne_type {w : World} {base base' : Nat} {e e' : TypeId} {size size' n n' : Nat} {v v' : Value} {xs xs' : List Value} (h : w.ownsRow base e size v n xs) (h' : w.ownsRow base' e' size' v' n' xs') (hne : e ≠ e') {k : Nat} (hk : v.ownBlock = some k) : v'.ownBlock ≠ some k := by
  intro hk'
  rcases h.2 with ⟨rfl, _⟩ | ⟨g, cap, cur, rfl, _, hg, _⟩
  · cases hk
  · rcases h'.2 with ⟨rfl, _⟩ | ⟨g', cap', cur', rfl, _, hg', _⟩
    · cases hk'
    · injection hk with hk
      injection hk' with hk'
      subst hk
      subst hk'
      rw [hg'] at hg
      injection hg with hg
      injection hg with _ hg
      exact hne hg.symm
theorem owns_setne {w : World} {base : Nat} {e : TypeId} {size n : Nat} {v : Value} {xs : List Value} (h : w.ownsRow base e size v n xs) {b j : Nat} (hne : v.ownBlock ≠ some b) (x : Value) : (w.setCell ⟨b, j, none⟩ x).ownsRow base e size v n xs := by
  obtain ⟨h1, h2⟩ := h
  refine ⟨h1, ?_⟩
  rcases h2 with h2 | ⟨g, cap, cur, rfl, e2, e3, h3⟩
  · exact .inl h2
  · exact .inr ⟨g, cap, cur, rfl, e2, (Below.heap_setCell w _ x g (fun e => hne (by rw [e]; rfl))).trans e3, h3⟩
theorem OwnEnc.setoff {α : Type} {enc : α → Value} {e : TypeId} {base : Nat} {w : World} {v : Value} {xs : List α} (h : OwnEnc enc e base w v xs) {b j : Nat} (hne : v.ownBlock ≠ some b) (x : Value) : OwnEnc enc e base (w.setCell ⟨b, j, none⟩ x) v xs := owns_setne h hne x
theorem owns_setlow {w : World} {base : Nat} {e : TypeId} {size n : Nat} {v : Value} {xs : List Value} (h : w.ownsRow base e size v n xs) {b j : Nat} (hb : b < base) (x : Value) : (w.setCell ⟨b, j, none⟩ x).ownsRow base e size v n xs := owns_setne h (fun e => by have := (h.lt b e).1; omega) x
theorem OwnEnc.setlow {α : Type} {enc : α → Value} {e : TypeId} {base : Nat} {w : World} {v : Value} {xs : List α} (h : OwnEnc enc e base w v xs) {b j : Nat} (hb : b < base) (x : Value) : OwnEnc enc e base (w.setCell ⟨b, j, none⟩ x) v xs := owns_setlow h hb x
/-- A pool's rows, each told, in memory of the call's own. -/
structure OwnP (base : Nat) (w : World) (vf vr vm : Value) (us : List Value) (P : Pl) : Prop where
  f : OwnStr base w vf P.F
  r : OwnNum base w vr P.R
  m : w.ownsRow base 22 1 vm P.M.length us
  u : OwnRows base w us P.M
  ap : ∀ (i : Nat) (u : Value), us[i]? = some u → Apart vr u
theorem OwnRows.lower {base base' : Nat} {w : World} {us : List Value} {M : List (List Int)} (h : OwnRows base w us M) (hb : base' ≤ base) : OwnRows base' w us M :=
  ⟨h.1, fun i u xs hu hx => (h.2.1 i u xs hu hx).lower hb, h.2.2⟩
theorem OwnP.lower {base base' : Nat} {w : World} {vf vr vm : Value} {us : List Value} {P : Pl} (h : OwnP base w vf vr vm us P) (hb : base' ≤ base) : OwnP base' w vf vr vm us P :=
  ⟨h.f.lower hb, h.r.lower hb, owns_lower h.m hb, h.u.lower hb, h.ap⟩
theorem OwnP.below {base : Nat} {w w' : World} {vf vr vm : Value} {us : List Value} {P : Pl} (h : OwnP base w vf vr vm us P) (hb : Below w.heap.size w w') : OwnP base w' vf vr vm us P :=
  ⟨h.f.below hb, h.r.below hb, owns_below h.m hb, h.u.below hb, h.ap⟩
theorem OwnP.row {base : Nat} {w : World} {vf vr vm : Value} {us : List Value} {P : Pl} (h : OwnP base w vf vr vm us P) : PlRow w (.agg #[vf, vr, vm]) P :=
  ⟨vf, vr, vm, rfl, h.f.row, h.r.row, us, RowAt.of_owns h.m, h.u.1, fun i u xs hu hx => (h.u.2.1 i u xs hu hx).row⟩
/-- A store that hits none of the rows. -/
theorem OwnP.setlow {base : Nat} {w : World} {vf vr vm : Value} {us : List Value} {P : Pl} (h : OwnP base w vf vr vm us P) {b j : Nat} (hb : b < base) (x : Value) : OwnP base (w.setCell ⟨b, j, none⟩ x) vf vr vm us P := by
  have hn : ∀ {e : TypeId} {size n : Nat} {v : Value} {xs : List Value}, w.ownsRow base e size v n xs → v.ownBlock ≠ some b := fun h e => by have := (h.lt b e).1; omega
  refine ⟨h.f.setoff (hn h.f) x, h.r.setoff (hn h.r) x, owns_setne h.m (hn h.m) x, ⟨h.u.1, fun i u xs hu hx => ?_, h.u.2.2⟩, h.ap⟩
  have := h.u.2.1 i u xs hu hx
  exact this.setoff (hn this) x
theorem OwnP.alloc {base : Nat} {w : World} {vf vr vm : Value} {us : List Value} {P : Pl} (h : OwnP base w vf vr vm us P) (o : Obj) : OwnP base (w.alloc o) vf vr vm us P := h.below ((Below.refl _ w).alloc (Nat.le_refl _) o)
theorem OwnP.drew {base : Nat} {w : World} {vf vr vm : Value} {us : List Value} {P : Pl} (h : OwnP base w vf vr vm us P) : OwnP base w.drew vf vr vm us P := h.below (Below.drew (Below.refl _ _))
theorem OwnP.putF {base gf n k : Nat} {w : World} {vr vm : Value} {us : List Value} {P : Pl} (h : OwnP base w (.slice (some ⟨gf, 0, none⟩) n k) vr vm us P) (j : Nat) (s : ByteArray) : OwnP base (w.setCell ⟨gf, j, none⟩ (.string s)) (.slice (some ⟨gf, 0, none⟩) n k) vr vm us (P.setF j s) := by
  refine ⟨h.f.put j s, h.r.setoff (own_ne_type h.f h.r (by decide) rfl) _, owns_setne h.m (own_ne_type h.f h.m (by decide) rfl) _, ⟨h.u.1, fun i u xs hu hx => ?_, h.u.2.2⟩, h.ap⟩
  have := h.u.2.1 i u xs hu hx
  exact this.setoff (own_ne_type h.f this (by decide) rfl) _
theorem OwnP.putR {base gr n k : Nat} {w : World} {vf vm : Value} {us : List Value} {P : Pl} (h : OwnP base w vf (.slice (some ⟨gr, 0, none⟩) n k) vm us P) (j : Nat) (x : Int) : OwnP base (w.setCell ⟨gr, j, none⟩ (.int .i64 x)) vf (.slice (some ⟨gr, 0, none⟩) n k) vm us (P.setR j x) := by
  refine ⟨h.f.setoff (own_ne_type h.r h.f (by decide) rfl) _, h.r.put j x, owns_setne h.m (own_ne_type h.r h.m (by decide) rfl) _, ⟨h.u.1, fun i u xs hu hx => ?_, h.u.2.2⟩, h.ap⟩
  have := h.u.2.1 i u xs hu hx
  exact this.setoff (h.ap i u hu gr rfl) _
theorem OwnP.putM {base g bu n k : Nat} {w : World} {vf vr vm : Value} {us : List Value} {P : Pl} (h : OwnP base w vf vr vm us P) (hu : us[g]? = some (.slice (some ⟨bu, 0, none⟩) n k)) (p : Nat) (x : Int) : OwnP base (w.setCell ⟨bu, p, none⟩ (.int .i64 x)) vf vr vm us (P.setM g p x) := by
  have hgl : g < P.M.length := by rw [← h.u.1]; exact lt_of_get hu
  obtain ⟨l, hl⟩ := get_lt hgl
  have hlp : P.pages g = l := by unfold Pl.pages; rw [hl]; rfl
  have ho := h.u.2.1 g _ l hu hl
  refine ⟨h.f.setoff (own_ne_type ho h.f (by decide) rfl) _, h.r.setoff (fun e => h.ap g _ hu bu e rfl) _, ?_, ⟨?_, fun i u xs hu' hx => ?_, h.u.2.2⟩, h.ap⟩
  · have := owns_setne h.m (own_ne_type ho h.m (by decide) rfl) (j := p) (.int .i64 x)
    unfold Pl.setM
    rwa [List.length_set]
  · unfold Pl.setM
    rw [List.length_set]
    exact h.u.1
  · unfold Pl.setM at hx
    rw [List.getElem?_set, hlp] at hx
    by_cases e : g = i
    · subst e
      rw [if_pos rfl, if_pos hgl] at hx
      injection hx with hx
      subst hx
      rw [hu] at hu'
      injection hu' with hu'
      subst hu'
      exact ho.put p x
    · rw [if_neg e] at hx
      exact (h.u.2.1 i u xs hu' hx).setoff (h.u.2.2 g i _ u e hu hu' bu rfl) _
/-! what a call that changes rows of the caller's leaves as it was -/
/-- Of the old blocks, those from 'base' on and below 'top' may be changed, no others. -/
structure Between (base top : Nat) (w w' : World) : Prop where
  os : w'.os = w.os
  tape : w'.tape = w.tape
  output : w'.output = w.output
  size : w.heap.size ≤ w'.heap.size
  block : ∀ k, k < w.heap.size → (k < base ∨ top ≤ k) → w'.heap[k]? = w.heap[k]?
theorem Between.refl (base top : Nat) (w : World) : Between base top w w := ⟨rfl, rfl, rfl, Nat.le_refl _, fun _ _ _ => rfl⟩
theorem Between.alloc {base top : Nat} {w w' : World} (h : Between base top w w') (o : Obj) : Between base top w (w'.alloc o) :=
  ⟨h.os, h.tape, h.output, Nat.le_trans h.size (by rw [World.size_alloc]; omega), fun k hk hh => (Below.heap_alloc w' o k (Nat.lt_of_lt_of_le hk h.size)).trans (h.block k hk hh)⟩
theorem Between.setCell {base top : Nat} {w w' : World} (h : Between base top w w') {b j : Nat} (h1 : base ≤ b) (h2 : b < top) (v : Value) : Between base top w (w'.setCell ⟨b, j, none⟩ v) :=
  ⟨h.os, h.tape, h.output, by rw [World.size_setCell]; exact h.size, fun k hk hh => (Below.heap_setCell w' _ v k (fun e => by dsimp only at e; omega)).trans (h.block k hk hh)⟩
theorem Between.next {base top : Nat} {w w' w2 : World} (h : Between base top w w') (hb : Below w'.heap.size w' w2) : Between base top w w2 :=
  ⟨hb.os.trans h.os, hb.tape.trans h.tape, hb.output.trans h.output, Nat.le_trans h.size hb.size, fun k hk hh => (hb.block k (Nat.lt_of_lt_of_le hk h.size)).trans (h.block k hk hh)⟩
theorem Between.below {base top : Nat} {w w' : World} (h : Between base top w w') (hb : base ≤ w.heap.size) : Below base w w' := ⟨h.os, h.tape, h.output, h.size, fun k hk => h.block k (by omega) (.inl hk)⟩
theorem HasBlock.btw {w w' : World} {b base top : Nat} {cs : Array Value} {T : TypeId} (h : HasBlock w b cs T) (hb : Between base top w w') (hh : b < base ∨ top ≤ b) : HasBlock w' b cs T := (hb.block b h.lt hh).trans h
/-- Where the rows lie. -/
structure LtP (top : Nat) (vf vr : Value) (us : List Value) : Prop where
  f : ∀ k, vf.ownBlock = some k → k < top
  r : ∀ k, vr.ownBlock = some k → k < top
  u : ∀ (i : Nat) (u : Value), us[i]? = some u → ∀ k, u.ownBlock = some k → k < top
theorem OwnP.lt {base : Nat} {w : World} {vf vr vm : Value} {us : List Value} {P : Pl} (h : OwnP base w vf vr vm us P) : LtP w.heap.size vf vr us :=
  ⟨fun k hk => (World.ownsRow.lt h.f.raw k hk).2, fun k hk => (World.ownsRow.lt h.r.raw k hk).2, fun i u hu k hk => by
    obtain ⟨xs, hx⟩ := get_lt (xs := P.M) (k := i) (by rw [← h.u.1]; exact lt_of_get hu)
    exact (World.ownsRow.lt (h.u.2.1 i u xs hu hx).raw k hk).2⟩
/-! places -/
theorem OwnP.page {base : Nat} {w : World} {vf vr vm : Value} {us : List Value} {P : Pl} (h : OwnP base w vf vr vm us P) {g p : Nat} {l : List Int} {f : Int} (hl : P.M[g]? = some l) (hp : l[p]? = some f) :
    ∃ bm km bu ku, vm = .slice (some ⟨bm, 0, none⟩) P.M.length km ∧ us[g]? = some (.slice (some ⟨bu, 0, none⟩) l.length ku) ∧ w.cell? ⟨bm, g, none⟩ = some (.slice (some ⟨bu, 0, none⟩) l.length ku) ∧ w.cell? ⟨bu, p, none⟩ = some (.int .i64 f) ∧ w.frozen? ⟨bu, p, none⟩ = false ∧
      base ≤ bm ∧ bm < w.heap.size ∧ base ≤ bu ∧ bu < w.heap.size ∧ bm ≠ bu := by
  have hgl := lt_of_get hl
  have hpl := lt_of_get hp
  obtain ⟨u, hu⟩ := get_lt (xs := us) (k := g) (by rw [h.u.1]; exact hgl)
  have ho := h.u.2.1 g u l hu hl
  have hm := h.m
  rcases hm.2 with ⟨rfl, h0⟩ | ⟨bm, km, cur, rfl, q1, q2, _⟩
  · omega
  · obtain ⟨uo, uc, rfl, _⟩ := ho.form
    obtain ⟨bu, rfl, r1, r2⟩ := ho.addr rfl (by omega)
    obtain ⟨s1, s2⟩ := ho.at hp
    refine ⟨bm, km, bu, uc, rfl, hu, ?_, s1, s2, q1, (Array.getElem?_eq_some_iff.1 q2).1, r1, r2, fun e => own_ne_type hm ho (by decide) (k := bm) rfl (by rw [e]; rfl)⟩
    have := World.ownsRow.cellAt hm g (by omega)
    rw [this]
    exact hu
/-- A guest's row in a pool that is read. -/
theorem PlRow.guest {w : World} {vf vr : Value} {om : Option Addr} {m km g : Nat} {P : Pl} {l : List Int} (h : PlRow w (.agg #[vf, vr, .slice om m km]) P) (hl : P.M[g]? = some l) :
    ∃ mb moff uo uc, om = some ⟨mb, moff, none⟩ ∧ mb < w.heap.size ∧ w.cell? ⟨mb, moff + g, none⟩ = some (.slice uo l.length uc) ∧ l.length ≤ uc ∧ uc ≤ 9223372036854775807 ∧ NumRow w (.slice uo l.length uc) l := by
  obtain ⟨_, _, us, h3, h4, h5⟩ := h.parts
  obtain ⟨om', km', e0, _, _, h3⟩ := h3
  injection e0 with e0 e9 e1
  subst e0
  obtain ⟨u, hu⟩ := get_lt (xs := us) (k := g) (by rw [h4]; exact lt_of_get hl)
  have hrow := h5 g u l hu hl
  obtain ⟨uo, uc, rfl, d1, d2, _⟩ := hrow.out
  unfold maxLen at d2
  obtain ⟨mb, moff, rfl, hmb, hmc⟩ := h3.resolve_left (by intro e; rw [e] at hu; simp at hu)
  exact ⟨mb, moff, uo, uc, rfl, hmb, hmc g _ hu, d1, d2, hrow⟩
theorem EncRow.elem {α : Type} {enc : α → Value} {w : World} {ao : Option Addr} {n ca : Nat} {xs : List α} (h : EncRow enc w (.slice ao n ca) xs) {i : Nat} {x : α} (hx : xs[i]? = some x) : ∃ b off, ao = some ⟨b, off, none⟩ ∧ b < w.heap.size ∧ w.cell? ⟨b, off + i, none⟩ = some (enc x) := by
  obtain ⟨ao', cap, hv, _, _, h3⟩ := h.out
  injection hv with e1
  subst e1
  obtain ⟨b, off, e, hlt, hc⟩ := h3.resolve_left (by have := lt_of_get hx; omega)
  exact ⟨b, off, e, hlt, hc i x hx⟩
theorem OwnP.f_ne {base gf g bu n k n2 k2 : Nat} {w : World} {vr vm : Value} {us : List Value} {P : Pl} (h : OwnP base w (.slice (some ⟨gf, 0, none⟩) n k) vr vm us P) (hu : us[g]? = some (.slice (some ⟨bu, 0, none⟩) n2 k2)) : gf ≠ bu := by
  obtain ⟨l, hl⟩ := get_lt (xs := P.M) (k := g) (by rw [← h.u.1]; exact lt_of_get hu)
  exact fun e => own_ne_type h.f (h.u.2.1 g _ l hu hl) (by decide) (k := gf) rfl (by rw [e]; rfl)
theorem OwnP.r_ne {base gr g bu n k n2 k2 : Nat} {w : World} {vf vm : Value} {us : List Value} {P : Pl} (h : OwnP base w vf (.slice (some ⟨gr, 0, none⟩) n k) vm us P) (hu : us[g]? = some (.slice (some ⟨bu, 0, none⟩) n2 k2)) : gr ≠ bu := fun e => h.ap g _ hu gr rfl (by rw [e]; rfl)
theorem OwnP.fr_ne {base gf gr n k n2 k2 : Nat} {w : World} {vm : Value} {us : List Value} {P : Pl} (h : OwnP base w (.slice (some ⟨gf, 0, none⟩) n k) (.slice (some ⟨gr, 0, none⟩) n2 k2) vm us P) : gf ≠ gr := fun e => own_ne_type h.f h.r (by decide) (k := gf) rfl (by rw [e]; rfl)
theorem Pl.fr_eq {P : Pl} {g p : Nat} {l : List Int} {f : Int} (hl : P.M[g]? = some l) (hp : l[p]? = some f) : P.fr g p = f := by
  unfold Pl.fr Pl.pages
  rw [hl, Option.getD_some, hp]
  rfl
theorem Pl.is_at {P : Pl} {g p : Nat} (h : P.is g p = true) : ∃ l f, P.M[g]? = some l ∧ l[p]? = some f := by
  unfold Pl.is at h
  rw [decide_eq_true_eq] at h
  obtain ⟨_, h1, _, h2⟩ := h
  rw [Int.toNat_natCast] at h2
  obtain ⟨l, hl⟩ := get_lt (xs := P.M) (k := g) (by omega)
  have : P.pages g = l := by unfold Pl.pages; rw [hl]; rfl
  rw [this] at h2
  obtain ⟨f, hf⟩ := get_lt (xs := l) (k := p) (by omega)
  exact ⟨l, f, hl, hf⟩
end Go.Proofs.Ytbnngjhnkegliaa
namespace Go.Proofs.Ytbnngjhnkegliaa
open Go.RowKit

theorem OwnEnc.kept {α : Type} {enc : α → Value} {e : TypeId} {base : Nat} {w w' : World} {v : Value} {xs : List α} (h : OwnEnc enc e base w v xs) {row : Option Nat} (hg : w.grownBy w' row) (hne : ∀ k, v.ownBlock = some k → row ≠ some k) : OwnEnc enc e base w' v xs := by
  refine World.ownsRow.kept h hg ?_
  cases hv : v.ownBlock with
  | none => exact .inl rfl
  | some k => exact .inr (fun e => hne k hv e.symm)
theorem apart_lt {v u : Value} {B : Nat} (h1 : ∀ k, v.ownBlock = some k → k < B) (h2 : ∀ k, u.ownBlock = some k → B ≤ k) : Apart v u := by
  intro k hk hk'
  have := h1 k hk
  have := h2 k hk'
  omega
/-- A row more in the map. -/
theorem OwnP.push {base : Nat} {w w' : World} {vf vr vm vm' u : Value} {us : List Value} {P : Pl} {l : List Int} (h : OwnP base w vf vr vm us P) (ho : OwnNum base w u l) (hr : Apart vr u) (hu : ∀ (i : Nat) (u' : Value), us[i]? = some u' → Apart u' u)
    (hown : w'.ownsRow base 22 1 vm' (P.M.length + 1) (us ++ [u])) (hg : w.grownBy w' vm.ownBlock) : OwnP base w' vf vr vm' (us ++ [u]) ⟨P.F, P.R, P.M ++ [l]⟩ := by
  have hk : ∀ {α : Type} {enc : α → Value} {e : TypeId} {v : Value} {xs : List α}, OwnEnc enc e base w v xs → e ≠ 22 → OwnEnc enc e base w' v xs := fun h1 hne => h1.kept hg (fun k hk => own_ne_type h1 h.m hne hk)
  refine ⟨hk h.f (by decide), hk h.r (by decide), ?_, ?_, ?_⟩
  · rw [List.length_append]; exact hown
  · refine OwnRows.snoc ⟨h.u.1, fun i u' xs hu' hx => hk (h.u.2.1 i u' xs hu' hx) (by decide), h.u.2.2⟩ (hk ho (by decide)) hu
  · intro i u' hu'
    rw [List.getElem?_append] at hu'
    split at hu'
    · exact h.ap i u' hu'
    · have h0 : i - us.length = 0 := by have := lt_of_get hu'; simp at this; omega
      rw [h0] at hu'
      simp at hu'
      subst hu'
      exact hr
theorem OwnP.under {base B : Nat} {w w' : World} {vf vr vm : Value} {us : List Value} {P : Pl} (h : OwnP base w vf vr vm us P) (hb : Below B w w') (hB : w.heap.size ≤ B) : OwnP base w' vf vr vm us P := h.below (hb.mono hB)
/-- A pool in memory of the call's own is handed back. -/
def RetPool (P : Pl) (w : World) (e : Ending) (w' : World) : Prop := ∃ (of or' om : Option Addr) (kf kr km : Nat) (us : List Value), e = .returned (.agg #[.slice of P.F.length kf, .slice or' P.R.length kr, .slice om P.M.length km]) ∧ OwnP w.heap.size w' (.slice of P.F.length kf) (.slice or' P.R.length kr) (.slice om P.M.length km) us P ∧ Below w.heap.size w w'
/-- .. and whether it went well. -/
def RetPool2 (P : Pl) (ok : Bool) (w : World) (e : Ending) (w' : World) : Prop := ∃ (of or' om : Option Addr) (kf kr km : Nat) (us : List Value), e = .returned (.tuple #[.agg #[.slice of P.F.length kf, .slice or' P.R.length kr, .slice om P.M.length km], .bool ok]) ∧ OwnP 0 w' (.slice of P.F.length kf) (.slice or' P.R.length kr) (.slice om P.M.length km) us P ∧ Below w.heap.size w w'
/-- The same, the rows in memory that the call has made. -/
def RetPoolB (P : Pl) (ok : Bool) (w : World) (e : Ending) (w' : World) : Prop := ∃ (of or' om : Option Addr) (kf kr km : Nat) (us : List Value), e = .returned (.tuple #[.agg #[.slice of P.F.length kf, .slice or' P.R.length kr, .slice om P.M.length km], .bool ok]) ∧ OwnP w.heap.size w' (.slice of P.F.length kf) (.slice or' P.R.length kr) (.slice om P.M.length km) us P ∧ Below w.heap.size w w'
/-- The same, the rows perhaps the caller's. -/
def RetRowP (P : Pl) (ok : Bool) (w : World) (e : Ending) (w' : World) : Prop := ∃ (of or' om : Option Addr) (kf kr km : Nat), e = .returned (.tuple #[.agg #[.slice of P.F.length kf, .slice or' P.R.length kr, .slice om P.M.length km], .bool ok]) ∧ PlRow w' (.agg #[.slice of P.F.length kf, .slice or' P.R.length kr, .slice om P.M.length km]) P ∧ Below w.heap.size w w'
theorem one_slice (a : Option Addr) (n k : Nat) : ∀ u ∈ [Value.slice a n k], u.oneCell' = true := by
  intro u hu
  simp at hu
  subst hu
  rfl
theorem step_append_own {P : Program} {ops : Array Oper} {w : World} {o : Oper} {a : Act} {K : Act → World → Prop} {Q : Exit → Act → World → Prop} {E : Prop} (hgd : o.guard = none) (s x : Operand) (t : TypeId)
    (ho : o.op = .call { callee := .builtin .append, args := #[s, x], argTypes := #[t, t] })
    (base : Nat) (e : TypeId) (i : TypeInfo) (z : Value) (size bytes : Nat) (ht : P.underlying t = some (.slice e)) (hi : P.info? e = some i) (hz : i.zero = some z)
    (hsize : i.size = size) (hby : i.bytes = bytes) (hzs : z.cells.size = size) (hsz : 0 < size)
    (v : Value) (n : Nat) (xs : List Value) (hs : a.eval s = v) (hown : w.ownsRow base e size v n xs)
    (ad : Addr) (m c : Nat) (news : List Value) (hx : a.eval x = .slice (some ad) m c) (hl : news.length = m * size) (hnews : ∀ j u, news[j]? = some u → w.cell? (ad.add j) = some u) (h1 : ∀ u ∈ news, u.oneCell' = true)
    (h63 : n + m ≤ maxLen) (hbytes : (n + m) * bytes ≤ 140737488355328) (hbase : base ≤ w.heap.size)
    (h : ∀ v' w', w'.ownsRow base e size v' (n + m) (xs ++ news) → w.grownBy w' v.ownBlock → (v' = .slice none 0 0 ↔ v = .slice none 0 0 ∧ m = 0) → K (a.put o.dst v') w') : if Region.wanted o (yielded ops a.tmps) = true then Oper.wp P o a w K Q else E := by
  have hw : Region.wanted o (yielded ops a.tmps) = true := by simp [Region.wanted, hgd]
  rw [if_pos hw]
  exact wp_append_own w s x t ho base e i z size bytes ht hi hz hsize hby hzs hsz v n xs hs hown ad m c news hx hl hnews h1 h63 hbytes hbase h
theorem below_grown {B : Nat} {w W w2 : World} {base : Nat} {e : TypeId} {size n : Nat} {v : Value} {xs : List Value} (hB : Below B w W) (hown : W.ownsRow base e size v n xs) (hg : W.grownBy w2 v.ownBlock) (hb : B ≤ base) (hs : B ≤ W.heap.size) : Below B w w2 := hB.grown hg hs (fun k hk => Nat.le_trans hb (hown.lt k hk).1)
theorem HasBlock.under {w w' : World} {b base : Nat} {cs : Array Value} {T : TypeId} (h : HasBlock w b cs T) (hb : Below base w w') (hlt : b < base) : HasBlock w' b cs T := (hb.block b hlt).trans h
theorem OwnEnc.formN {α : Type} {enc : α → Value} {e : TypeId} {base n : Nat} {w : World} {v : Value} {xs : List α} (h : OwnEnc enc e base w v xs) (hn : xs.length = n) : ∃ (ao : Option Addr) (cap : Nat), v = .slice ao n cap ∧ n ≤ cap ∧ cap ≤ 9223372036854775807 := by
  subst hn
  exact h.form
theorem own_form' {w : World} {base : Nat} {e : TypeId} {size n : Nat} {v : Value} {xs : List Value} (h : w.ownsRow base e size v n xs) : ∃ (o : Option Addr) (cap : Nat), v = .slice o n cap ∧ n ≤ cap ∧ cap ≤ 9223372036854775807 := by
  rcases h.2 with ⟨rfl, h0⟩ | ⟨g, cap, cur, rfl, _, _, hn, hm, _⟩
  · subst h0
    exact ⟨none, 0, rfl, Nat.le_refl _, by omega⟩
  · exact ⟨_, cap, rfl, hn, by unfold maxLen at hm; omega⟩
theorem own_off {base B : Nat} {e : TypeId} {size n : Nat} {w : World} {v : Value} {xs : List Value} {cs : Array Value} {T : TypeId} (h : w.ownsRow base e size v n xs) (hB : HasBlock w B cs T) (hne : T ≠ e) : v.ownBlock ≠ some B := by
  intro hv
  rcases h.2 with ⟨rfl, _⟩ | ⟨g, cap, cur, rfl, _, hg, _⟩
  · cases hv
  · injection hv with hv
    subst hv
    unfold HasBlock at hB
    rw [hB] at hg
    injection hg with hg
    injection hg with _ hg
    exact hne hg
/-- A store into a box, that is no row. -/
theorem OwnP.setbox {base B j : Nat} {w : World} {vf vr vm : Value} {us : List Value} {P : Pl} {cs : Array Value} {T : TypeId} (h : OwnP base w vf vr vm us P) (hB : HasBlock w B cs T) (h1 : T ≠ 9) (h2 : T ≠ 3) (h3 : T ≠ 22) (x : Value) : OwnP base (w.setCell ⟨B, j, none⟩ x) vf vr vm us P :=
  ⟨h.f.setoff (own_off h.f hB h1) x, h.r.setoff (own_off h.r hB h2) x, owns_setne h.m (own_off h.m hB h3) x, ⟨h.u.1, fun i u xs hu hx => by
    have := h.u.2.1 i u xs hu hx
    exact this.setoff (own_off this hB h2) x, h.u.2.2⟩, h.ap⟩
theorem own_nil {base : Nat} {w : World} {e : TypeId} {size : Nat} : w.ownsRow base e size (.slice none 0 0) 0 [] := World.ownsRow_nil _ _ _ _
theorem ret_pool {P : Pl} {w w' : World} {of or' om : Option Addr} {kf kr km n r m : Nat} {us : List Value} (hn : P.F.length = n) (hr : P.R.length = r) (hm : P.M.length = m) (h : OwnP w.heap.size w' (.slice of n kf) (.slice or' r kr) (.slice om m km) us P) (hb : Below w.heap.size w w') : RetPool P w (.returned (.agg #[.slice of n kf, .slice or' r kr, .slice om m km])) w' := by
  subst hn hr hm
  exact ⟨_, _, _, _, _, _, _, rfl, h, hb⟩
theorem ret_pool2 {P : Pl} {ok : Bool} {base : Nat} {w w' : World} {of or' om : Option Addr} {kf kr km : Nat} {us : List Value} (h : OwnP base w' (.slice of P.F.length kf) (.slice or' P.R.length kr) (.slice om P.M.length km) us P) (hb : Below w.heap.size w w') : RetPool2 P ok w (.returned (.tuple #[.agg #[.slice of P.F.length kf, .slice or' P.R.length kr, .slice om P.M.length km], .bool ok])) w' := ⟨_, _, _, _, _, _, _, rfl, h.lower (Nat.zero_le _), hb⟩
theorem RetPoolB.two {P : Pl} {ok : Bool} {w w' : World} {e : Ending} (h : RetPoolB P ok w e w') : RetPool2 P ok w e w' := by
  obtain ⟨of, or', om, kf, kr, km, us, he, h1, hb⟩ := h
  exact ⟨of, or', om, kf, kr, km, us, he, h1.lower (Nat.zero_le _), hb⟩
theorem RetPoolB.row {P : Pl} {ok : Bool} {w w' : World} {e : Ending} (h : RetPoolB P ok w e w') : RetRowP P ok w e w' := by
  obtain ⟨of, or', om, kf, kr, km, us, he, h1, hb⟩ := h
  exact ⟨of, or', om, kf, kr, km, he, h1.row, hb⟩
theorem RetPool2.row {P : Pl} {ok : Bool} {w w' : World} {e : Ending} (h : RetPool2 P ok w e w') : RetRowP P ok w e w' := by
  obtain ⟨of, or', om, kf, kr, km, us, he, h1, hb⟩ := h
  exact ⟨of, or', om, kf, kr, km, he, h1.row, hb⟩
theorem PlRow.form {w : World} {v : Value} {P : Pl} (h : PlRow w v P) : ∃ (of or' om : Option Addr) (kf kr km : Nat), v = .agg #[.slice of P.F.length kf, .slice or' P.R.length kr, .slice om P.M.length km] ∧ P.F.length ≤ kf ∧ kf ≤ 9223372036854775807 ∧ P.R.length ≤ kr ∧ kr ≤ 9223372036854775807 ∧ P.M.length ≤ km ∧ km ≤ 9223372036854775807 := by
  obtain ⟨vf, vr, vm, rfl, h1, h2, us, h3, h4, h5⟩ := h
  obtain ⟨of, kf, rfl, f1, f2, _⟩ := h1.out
  obtain ⟨or', kr, rfl, r1, r2, _⟩ := h2.out
  obtain ⟨om, km, rfl, m1, m2, _⟩ := h3
  unfold maxLen at f2 r2 m2
  exact ⟨of, or', om, kf, kr, km, rfl, f1, f2, r1, r2, m1, m2⟩
end Go.Proofs.Ytbnngjhnkegliaa
namespace Go.Proofs.Ytbnngjhnkegliaa
open Go.RowKit

set_option maxHeartbeats 2000000 in
theorem pclone_any (v : Value) (P : Pl) (w : World) (h : PlRow w v P) (hs : P.small) : Calls Try.prog 50 #[v] w (RetPool P w) := by
  obtain ⟨of, or', om, kf, kr, km, rfl, kf1, kf2, kr1, kr2, km1, km2⟩ := h.form
  obtain ⟨n, hn⟩ : ∃ n, P.F.length = n := ⟨_, rfl⟩
  obtain ⟨r, hr⟩ : ∃ n, P.R.length = n := ⟨_, rfl⟩
  obtain ⟨m, hm⟩ : ∃ n, P.M.length = n := ⟨_, rfl⟩
  rw [hn] at h kf1 ⊢
  rw [hr] at h kr1 ⊢
  rw [hm] at h km1 ⊢
  have HN := Lib.hid hn; clear hn
  have HR := Lib.hid hr; clear hr
  have HM := Lib.hid hm; clear hm
  obtain ⟨s1, s2, s3, s4⟩ := hs
  rw [HN.out] at s1
  rw [HR.out] at s2
  rw [HM.out] at s3
  obtain ⟨h1, h2, us, h3, h4, h5⟩ := h.parts
  obtain ⟨om', km', e0, _, _, h3⟩ := h3
  injection e0 with e0 e9 e1
  clear e9
  subst e0 e1
  rw [HM.out] at h4
  have HF := Lib.hid h1; clear h1
  have HI := Lib.hid h2; clear h2
  have H4 := Lib.hid h4; clear h4
  have H5 := Lib.hid h5; clear h5
  have H3 := Lib.hid h3; clear h3
  have H := Lib.hid s4; clear s4 h
  have D1 := ((HasBlock.made w #[.slice of n kf, .slice or' r kr, .slice om m km] 27).alloc (.cells #[.slice none 0 0, .slice none 0 0, .slice none 0 0] 27)).alloc (.cells #[.slice none 0 0, .slice none 0 0, .slice none 0 0] 27)
  have D2 := (HasBlock.made (w.alloc (.cells #[.slice of n kf, .slice or' r kr, .slice om m km] 27)) #[.slice none 0 0, .slice none 0 0, .slice none 0 0] 27).alloc (.cells #[.slice none 0 0, .slice none 0 0, .slice none 0 0] 27)
  have D3 := HasBlock.made ((w.alloc (.cells #[.slice of n kf, .slice or' r kr, .slice om m km] 27)).alloc (.cells #[.slice none 0 0, .slice none 0 0, .slice none 0 0] 27)) #[.slice none 0 0, .slice none 0 0, .slice none 0 0] 27
  have hbw : Below w.heap.size w (((w.alloc (.cells #[.slice of n kf, .slice or' r kr, .slice om m km] 27)).alloc (.cells #[.slice none 0 0, .slice none 0 0, .slice none 0 0] 27)).alloc (.cells #[.slice none 0 0, .slice none 0 0, .slice none 0 0] 27)) := (by repeat (first | with_reducible exact Below.refl _ _ | with_reducible refine Below.drew ?_ | (with_reducible refine Below.alloc ?_ (by first | exact Nat.le_refl _ | omega | (dsimp only; omega) | (simp only [sizes]; omega)) _) | (with_reducible refine Below.setCell ?_ (by first | exact Nat.le_refl _ | omega | (dsimp only; omega) | (simp only [sizes]; omega)) _) | (refine Below.trans ?_ (Below.mono (by with_reducible assumption) (by first | exact Nat.le_refl _ | omega | (dsimp only; omega) | (simp only [sizes]; omega))))))
  simp only [sizes] at D2 D3
  have hz : w.heap.size + 1 + 1 + 1 ≤ (((w.alloc (.cells #[.slice of n kf, .slice or' r kr, .slice om m km] 27)).alloc (.cells #[.slice none 0 0, .slice none 0 0, .slice none 0 0] 27)).alloc (.cells #[.slice none 0 0, .slice none 0 0, .slice none 0 0] 27)).heap.size := by simp only [sizes]; omega
  go_enter Try.func50, Try.ntmps50
  go_wp2_with fail
  with_reducible refine (clone_str _ P.F _ (HF.out.below hbw) (by rw [HN.out]; omega)).mono ?_
  rintro e w1 ⟨v1, rfl, o1, hb1⟩
  simp only [sizes] at o1
  replace D1 := D1.below hb1
  replace D2 := D2.below hb1
  replace D3 := D3.below hb1
  replace hbw := hbw.trans (hb1.mono hbw.size)
  replace hz := Nat.le_trans hz hb1.size
  clear hb1
  obtain ⟨of1, kf1', rfl, _, _⟩ := o1.form
  rw [HN.out] at o1 ⊢
  obtain ⟨D1_c, D1_f, D1_z⟩ := D1.all
  obtain ⟨D2_c, D2_f, D2_z⟩ := D2.all
  obtain ⟨D3_c, D3_f, D3_z⟩ := D3.all
  go_wp2_with fail
  clear D1_c D1_f D1_z
  clear D2_c D2_f D2_z
  clear D3_c D3_f D3_z
  replace D3 := D3.put3_0 (.slice of1 n kf1')
  replace D1 := D1.set_ne (b' := w.heap.size + 1 + 1) (j := 0) (by omega) (.slice of1 n kf1')
  replace D2 := D2.set_ne (b' := w.heap.size + 1 + 1) (j := 0) (by omega) (.slice of1 n kf1')
  replace o1 := o1.setlow (b := w.heap.size + 1 + 1) (j := 0) (by omega) (.slice of1 n kf1')
  replace hbw := hbw.setCell (p := ⟨w.heap.size + 1 + 1, 0, none⟩) (by dsimp only; omega) (.slice of1 n kf1')
  generalize hW : World.setCell w1 ⟨w.heap.size + 1 + 1, 0, none⟩ (.slice of1 n kf1') = w2 at D1 D2 D3 o1 hbw ⊢
  replace hz := Nat.le_trans hz (Nat.le_of_eq ((World.size_setCell w1 ⟨w.heap.size + 1 + 1, 0, none⟩ (.slice of1 n kf1')).symm.trans (congrArg (fun x : World => x.heap.size) hW)))
  clear hW
  with_reducible refine (clone_num _ P.R _ (HI.out.below hbw) (by rw [HR.out]; omega)).mono ?_
  rintro e w3 ⟨v3, rfl, o3, hb3⟩
  replace o3 := o3.lower (base' := w.heap.size + 1 + 1 + 1) hz
  replace D1 := D1.below hb3
  replace D2 := D2.below hb3
  replace D3 := D3.below hb3
  replace o1 := o1.below hb3
  replace hbw := hbw.trans (hb3.mono hbw.size)
  replace hz := Nat.le_trans hz hb3.size
  clear hb3
  obtain ⟨or1, kr1', rfl, _, _⟩ := o3.form
  rw [HR.out] at o3 ⊢
  obtain ⟨D1_c, D1_f, D1_z⟩ := D1.all
  obtain ⟨D2_c, D2_f, D2_z⟩ := D2.all
  obtain ⟨D3_c, D3_f, D3_z⟩ := D3.all
  go_wp2_with fail
  clear D1_c D1_f D1_z
  clear D2_c D2_f D2_z
  clear D3_c D3_f D3_z
  replace D3 := D3.put3_1 (.slice or1 r kr1')
  replace D1 := D1.set_ne (b' := w.heap.size + 1 + 1) (j := 1) (by omega) (.slice or1 r kr1')
  replace D2 := D2.set_ne (b' := w.heap.size + 1 + 1) (j := 1) (by omega) (.slice or1 r kr1')
  replace o1 := o1.setlow (b := w.heap.size + 1 + 1) (j := 1) (by omega) (.slice or1 r kr1')
  replace o3 := o3.setlow (b := w.heap.size + 1 + 1) (j := 1) (by omega) (.slice or1 r kr1')
  replace hbw := hbw.setCell (p := ⟨w.heap.size + 1 + 1, 1, none⟩) (by dsimp only; omega) (.slice or1 r kr1')
  generalize hW : World.setCell w3 ⟨w.heap.size + 1 + 1, 1, none⟩ (.slice or1 r kr1') = w4 at D1 D2 D3 o1 o3 hbw ⊢
  replace hz := Nat.le_trans hz (Nat.le_of_eq ((World.size_setCell w3 ⟨w.heap.size + 1 + 1, 1, none⟩ (.slice or1 r kr1')).symm.trans (congrArg (fun x : World => x.heap.size) hW)))
  clear hW
  have hap := apart_lt (v := .slice or1 r kr1') (B := w4.heap.size) (fun k hk => (World.ownsRow.lt o3.raw k hk).2) (u := .slice none 0 0) (fun k hk => by cases hk)
  have HO : OwnP (w.heap.size + 1 + 1 + 1) w4 (.slice of1 n kf1') (.slice or1 r kr1') (.slice none 0 0) [] ⟨P.F, P.R, P.M.take 0⟩ := ⟨o1, o3, own_nil, OwnRows.nil _ _, fun i u hu => by simp at hu⟩
  clear hap o1 o3
  go_loopw [17] (fun iv wr => ∃ (i : Nat) (o : Option Addr) (cp : Nat) (us' : List Value), i ≤ m ∧ iv = .int .i64 i ∧ i ≤ cp ∧ cp ≤ 9223372036854775807 ∧ HasBlock wr w.heap.size #[.slice of n kf, .slice or' r kr, .slice om m km] 27 ∧ HasBlock wr (w.heap.size + 1) #[.slice none 0 0, .slice none 0 0, .slice none 0 0] 27 ∧ HasBlock wr (w.heap.size + 1 + 1) #[.slice of1 n kf1', .slice or1 r kr1', .slice o i cp] 27 ∧ OwnP (w.heap.size + 1 + 1 + 1) wr (.slice of1 n kf1') (.slice or1 r kr1') (.slice o i cp) us' ⟨P.F, P.R, P.M.take i⟩ ∧ Below w.heap.size w wr ∧ w.heap.size + 1 + 1 + 1 ≤ wr.heap.size) (fun iv _ => m - (intOf iv).toNat)
  case atStart => exact ⟨0, none, 0, [], Nat.zero_le _, rfl, Nat.le_refl _, by omega, D1, D2, D3, HO, hbw, hz⟩
  case round =>
    clear D1 D2 D3 HO hbw hz
    obtain ⟨i, o, cp, us', hi, rfl, hc1, hc2, D1, D2, D3, HO, hbw, hz⟩ := hrel
    by_cases hlt : i < m
    · obtain ⟨l, hl⟩ := get_lt (xs := P.M) (k := i) (by rw [HM.out]; exact hlt)
      obtain ⟨u, hu⟩ := get_lt (xs := us) (k := i) (by rw [H4.out]; exact hlt)
      have hrow := H5.out i u l hu hl
      have hll := H.out l (List.mem_of_getElem? hl)
      obtain ⟨mb, moff, rfl, hmb, hmc⟩ := H3.out.resolve_left (by intro e; rw [e] at hu; simp at hu)
      have cm := (hbw.cell (p := ⟨mb, moff + i, none⟩) hmb).trans (hmc i _ hu)
      obtain ⟨uo, uc, rfl, d1, d2, _⟩ := hrow.out
      have HROW := Lib.hid hrow
      obtain ⟨q, hq⟩ : ∃ q, l.length = q := ⟨_, rfl⟩
      rw [hq] at hu cm HROW hll
      have HQ := Lib.hid hq; clear hq
      have HL := Lib.hid hl; clear hl hu hmc hrow d1 d2
      obtain ⟨i0, hi0, iz0, iz1, iz2⟩ := info_parts info_ints
      obtain ⟨D1_c, D1_f, D1_z⟩ := D1.all
      obtain ⟨D2_c, D2_f, D2_z⟩ := D2.all
      obtain ⟨D3_c, D3_f, D3_z⟩ := D3.all
      go_wp2_with fail
      have htl : (P.M.take i).length = i := by rw [List.length_take, HM.out]; omega
      have HTL := Lib.hid htl; clear htl
      have HOM : Hid (wr.ownsRow (w.heap.size + 1 + 1 + 1) 22 1 (.slice o i cp) i us') := by
        have h := HO.m
        rw [HTL.out] at h
        exact h
      go_region_law (go_loud (first
        | (refine step_append_own rfl (.tmp 22) (.tmp 25) 25 rfl (w.heap.size + 1 + 1 + 1) 22 i0 (.slice none 0 0) 1 24 Try.underlying25 hi0 iz0 iz1 iz2 rfl (by decide) (.slice o i cp) i us' rfl (HOM5.out.alloc _) ⟨_, 0, none⟩ 1 1 [.slice uo5 q uk5] rfl rfl (cells_made _ [.slice uo5 q uk5] _ _ rfl) (one_slice _ _ _) (by unfold maxLen; omega) (by omega) (by simp only [sizes]; omega) ?_
           intro v6 w6 hown6 hgrow6 _
           obtain ⟨o6, c6, rfl, hc61, hc62⟩ := own_form' hown6
           have hbg := below_grown (w := w5) (B := w.heap.size + 1 + 1 + 1) ((Below.refl _ _).alloc (by omega) (.cells #[.slice uo5 q uk5] 22)) (HOM5.out.alloc _) hgrow6 (Nat.le_refl _) (by simp only [sizes]; omega)
           have HO6 := (HO5.alloc (.cells #[.slice uo5 q uk5] 22)).push (l := l) (O5.alloc _) hr5 hu5 (by rw [HTL.out]; exact hown6) hgrow6
           have F1 := E1.under hbg (by omega)
           have F2 := E2.under hbg (by omega)
           have F3 := E3.under hbg (by omega)
           have hbw6 : Below w.heap.size w w6 := hbw5.trans (hbg.mono (by omega))
           have hz6 : w.heap.size + 1 + 1 + 1 ≤ w6.heap.size := Nat.le_trans hz5 hbg.size
           clear hbg
           obtain ⟨F3_c, F3_f, F3_z⟩ := F3.all)
        | (go_simp; go_at_call 44
           with_reducible refine (clone_num _ l _ (HROW.out.below ((hbw.drew))) (by rw [HQ.out]; omega)).mono ?_
           rintro _ w5 ⟨v5, rfl, o5, hb5⟩
           obtain ⟨uo5, uk5, rfl, _, _⟩ := o5.formN HQ.out
           have HB5 : Below wr.heap.size wr w5 := (Below.drew (Below.refl _ wr)).trans hb5
           clear hb5
           have E1 := D1.below HB5
           have E2 := D2.below HB5
           have E3 := D3.below HB5
           have HO5 := HO.below HB5
           have hz5 : w.heap.size + 1 + 1 + 1 ≤ w5.heap.size := Nat.le_trans hz HB5.size
           have hbw5 : Below w.heap.size w w5 := hbw.trans (HB5.mono hbw.size)
           have HOM5 : Hid (w5.ownsRow (w.heap.size + 1 + 1 + 1) 22 1 (.slice o i cp) i us') := Lib.hid (owns_below HOM.out HB5)
           have hr5 : Apart (.slice or1 r kr1') (.slice uo5 q uk5) := apart_lt (B := wr.heap.size) (fun k hk => (World.ownsRow.lt HO.r.raw k hk).2) (fun k hk => (World.ownsRow.lt o5.raw k hk).1)
           have hu5 : ∀ (j : Nat) (u' : Value), us'[j]? = some u' → Apart u' (.slice uo5 q uk5) := fun j u' hj => apart_lt (B := wr.heap.size) (fun k hk => by
             obtain ⟨xs, hxs⟩ := get_lt (xs := P.M.take i) (k := j) (by rw [← HO.u.1]; exact lt_of_get hj)
             exact (World.ownsRow.lt (HO.u.2.1 j u' xs hj hxs).raw k hk).2) (fun k hk => (World.ownsRow.lt o5.raw k hk).1)
           have O5 := OwnEnc.lower (base' := w.heap.size + 1 + 1 + 1) o5 hz
           clear o5
           obtain ⟨E3_c, E3_f, E3_z⟩ := E3.all)))
      all_goals
        go_wp2_with fail
        go_roundw
        case rel =>
          refine ⟨i + 1, o6, c6, us' ++ [.slice uo5 q uk5], by omega, by go_num, hc61, hc62, F1.set_ne (by omega) _, F2.set_ne (by omega) _, F3.put3_2 _, ?_, hbw6.setCell (by dsimp only; omega) _, by rw [World.size_setCell]; exact hz6⟩
          have h := HO6.setlow (b := w.heap.size + 1 + 1) (j := 2) (by omega) (.slice o6 (i + 1) c6)
          rw [List.take_add_one, HL.out]
          exact h
        case measure => simp [intOf]; omega
    · obtain rfl : i = m := by omega
      have hall : P.M.take i = P.M := by rw [← HM.out]; exact List.take_length
      rw [hall] at HO
      clear hall
      obtain ⟨D1_c, D1_f, D1_z⟩ := D1.all
      obtain ⟨D2_c, D2_f, D2_z⟩ := D2.all
      obtain ⟨D3_c, D3_f, D3_z⟩ := D3.all
      go_wp2_with fail
      refine bodyPost_ret (v := .agg #[.slice of1 n kf1', .slice or1 r kr1', .slice o i cp]) (by simp [results, Try.results50, go_sem, D2_c]) rfl ?_
      have HOE := ((HO.setlow (b := w.heap.size + 1) (j := 0) (by omega) (.slice of1 n kf1')).setlow (b := w.heap.size + 1) (j := 1) (by omega) (.slice or1 r kr1')).setlow (b := w.heap.size + 1) (j := 2) (by omega) (.slice o i cp)
      have hbe := ((hbw.setCell (p := ⟨w.heap.size + 1, 0, none⟩) (by dsimp only; omega) (.slice of1 n kf1')).setCell (p := ⟨w.heap.size + 1, 1, none⟩) (by dsimp only; omega) (.slice or1 r kr1')).setCell (p := ⟨w.heap.size + 1, 2, none⟩) (by dsimp only; omega) (.slice o i cp)
      have h2 := HN.out
      have h3 := HR.out
      have h4' := HM.out
      exact ret_pool h2 h3 h4' (HOE.lower (by omega)) hbe
end Go.Proofs.Ytbnngjhnkegliaa
namespace Go.Proofs.Ytbnngjhnkegliaa
open Go.RowKit

/-- Nothing handed back; the pool's rows are changed, nothing else. -/
def RetGive (base top : Nat) (vf vr vm : Value) (us : List Value) (P : Pl) (w : World) (e : Ending) (w' : World) : Prop := e = .returned (.tuple #[]) ∧ OwnP base w' vf vr vm us P ∧ Between base top w w'
set_option maxHeartbeats 2000000 in
theorem give_any (base top : Nat) (vf vr vm : Value) (us : List Value) (P : Pl) (g p : Nat) (w : World) (h : OwnP base w vf vr vm us P) (hlt : LtP top vf vr us) (his : P.is g p = true) (hf : P.fr g p < P.F.length) (hRF : P.R.length = P.F.length) (hr : -1000000 ≤ P.ref (P.fr g p).toNat ∧ P.ref (P.fr g p).toNat ≤ 1000000) : Calls Try.prog 53 #[.agg #[vf, vr, vm], .int .i64 g, .int .i64 p] w (RetGive base top vf vr vm us (P.giveUp g p) w) := by
  obtain ⟨l, f, hl, hpl⟩ := Pl.is_at his
  have hfr := Pl.fr_eq hl hpl
  have hll := lt_of_get hl
  have hpp := lt_of_get hpl
  obtain ⟨bm, km, bu, ku, rfl, hus, c1, c2, c3, k1, k2, k3, k4, k5⟩ := h.page hl hpl
  obtain ⟨of, kf, rfl, kf1, kf2⟩ := h.f.form
  obtain ⟨or', kr, rfl, kr1, kr2⟩ := h.r.form
  have H := h.alloc (.cells #[.slice of P.F.length kf, .slice or' P.R.length kr, .slice (some ⟨bm, 0, none⟩) P.M.length km] 27)
  have hbw : Between base top w (w.alloc (.cells #[.slice of P.F.length kf, .slice or' P.R.length kr, .slice (some ⟨bm, 0, none⟩) P.M.length km] 27)) := (Between.refl _ _ _).alloc _
  have lu := hlt.u g _ hus bu rfl
  rw [hfr] at hf hr
  have hgive : P.giveUp g p = if f < 0 then P else if P.ref f.toNat - 1 = 0 then (((P.setM g p (-1)).setR f.toNat (P.ref f.toNat - 1)).setF f.toNat ⟨#[]⟩) else ((P.setM g p (-1)).setR f.toNat (P.ref f.toNat - 1)) := by unfold Pl.giveUp; rw [hfr]
  have hrl := Lib.hid hRF
  have hfF : f < 0 ∨ f.toNat < P.F.length := by omega
  have hfR : f < 0 ∨ f.toNat < P.R.length := by rw [hRF]; exact hfF
  have n1 : w.heap.size ≠ bm := Nat.ne_of_gt k2
  have n2 : w.heap.size ≠ bu := Nat.ne_of_gt k4
  have HG := Lib.hid hgive; clear hgive hfr hRF
  have HL := Lib.hid hl; clear hl
  have HP := Lib.hid hpl; clear hpl
  have HU := Lib.hid hus; clear hus
  have gi : (g : Int) < (P.M.length : Int) := by omega
  have pi : (p : Int) < (l.length : Int) := by omega
  by_cases hneg : f < 0
  · clear hfF hfR
    go_enter Try.func53, Try.ntmps53
    go_wp2_with fail
    refine bodyPost_ret (results_none rfl _ _ _) rfl ?_
    exact ⟨rfl, by rw [HG.out, if_pos hneg]; exact H, hbw⟩
  · obtain ⟨j, rfl⟩ : ∃ j : Nat, f = j := ⟨f.toNat, by omega⟩
    rw [Int.toNat_natCast] at *
    have hjF : j < P.F.length := hfF.resolve_left hneg
    have hjR : j < P.R.length := hfR.resolve_left hneg
    obtain ⟨gf, rfl, f1, f2⟩ := h.f.addr rfl (by omega)
    obtain ⟨gr, rfl, r1, r2⟩ := h.r.addr rfl (by omega)
    have lf := hlt.f gf rfl
    have lr := hlt.r gr rfl
    obtain ⟨s, hs⟩ := get_lt hjF
    obtain ⟨x, hx⟩ := get_lt hjR
    obtain ⟨sf1, sf2⟩ := h.f.at hs
    obtain ⟨sr1, sr2⟩ := h.r.at hx
    have hrx : P.ref j = x := by unfold Pl.ref; rw [hx]; rfl
    rw [hrx] at hr HG
    have n3 : gr ≠ bu := fun e => h.ap g _ HU.out gr rfl (by rw [e]; rfl)
    have n4 : gr ≠ bm := fun e => own_ne_type h.r h.m (by decide) (k := gr) rfl (by rw [e]; rfl)
    have n5 : gf ≠ bu := fun e => own_ne_type h.f (h.u.2.1 g _ l HU.out HL.out) (by decide) (k := gf) rfl (by rw [e]; rfl)
    have n6 : gf ≠ gr := fun e => own_ne_type h.f h.r (by decide) (k := gf) rfl (by rw [e]; rfl)
    have n7 : w.heap.size ≠ gr := Nat.ne_of_gt r2
    have HXS := Lib.hid hs
    have HXR := Lib.hid hx
    clear hs hx hrx hfF hfR hneg
    by_cases hx0 : x - 1 = 0
    · have e1 : (x - 1 == 0) = true := by rw [beq_iff_eq]; exact hx0
      rw [if_neg (by omega), if_pos hx0] at HG
      clear hx0
      go_enter Try.func53, Try.ntmps53
      go_wp2_with fail
      go_end0
      exact ⟨rfl, by rw [HG.out]; exact (((h.putM HU.out p (-1)).putR j (x - 1)).putF j _).alloc _, ((((Between.refl _ _ _).setCell k3 lu _).setCell r1 lr _).setCell f1 lf _).alloc _⟩
    · have e1 : (x - 1 == 0) = false := by rw [beq_eq_false_iff_ne]; exact hx0
      rw [if_neg (by omega), if_neg hx0] at HG
      clear hx0
      go_enter Try.func53, Try.ntmps53
      go_wp2_with fail
      go_end0
      exact ⟨rfl, by rw [HG.out]; exact ((h.putM HU.out p (-1)).putR j (x - 1)).alloc _, (((Between.refl _ _ _).setCell k3 lu _).setCell r1 lr _).alloc _⟩
end Go.Proofs.Ytbnngjhnkegliaa
