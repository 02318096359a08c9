/-
  A pool in plain words: what its functions compute; its rows in memory of a call's own, and what a store does to them. Nothing of the program is walked.
-/
import Derived.Test.YtjoopjgpjkmmhaaPoolModel
namespace Go.Proofs.Ytjoopjgpjkmmhaa
open Go.RowKit

structure Pl where
  F : List ByteArray
  R : List Int
  M : List (List Int)
/-- The pages of a guest. -/
def Pl.pages (P : Pl) (g : Nat) : List Int := (P.M[g]?).getD []
/-- The frame of a page. -/
def Pl.fr (P : Pl) (g p : Nat) : Int := ((P.pages g)[p]?).getD (-1)
def Pl.ref (P : Pl) (f : Nat) : Int := (P.R[f]?).getD 0
def Pl.txt (P : Pl) (f : Nat) : ByteArray := (P.F[f]?).getD ⟨#[]⟩
def Pl.ok (P : Pl) : Bool := poolB P.F P.R P.M
def Pl.is (P : Pl) (g p : Int) : Bool := decide (0 ≤ g ∧ g < P.M.length ∧ 0 ≤ p ∧ p < (P.pages g.toNat).length)
def Pl.has (P : Pl) (g p : Int) : Bool := P.ok && P.is g p
def Pl.setF (P : Pl) (f : Nat) (s : ByteArray) : Pl := ⟨P.F.set f s, P.R, P.M⟩
def Pl.setR (P : Pl) (f : Nat) (x : Int) : Pl := ⟨P.F, P.R.set f x, P.M⟩
def Pl.setM (P : Pl) (g p : Nat) (x : Int) : Pl := ⟨P.F, P.R, P.M.set g ((P.pages g).set p x)⟩
/-- A page's frame taken away. -/
def Pl.giveUp (P : Pl) (g p : Nat) : Pl :=
  if P.fr g p < 0 then P
  else if P.ref (P.fr g p).toNat - 1 = 0 then (((P.setM g p (-1)).setR (P.fr g p).toNat (P.ref (P.fr g p).toNat - 1)).setF (P.fr g p).toNat ⟨#[]⟩)
  else ((P.setM g p (-1)).setR (P.fr g p).toNat (P.ref (P.fr g p).toNat - 1))
/-- A page given a frame that is free. -/
def Pl.take (P : Pl) (g p i : Nat) (d : ByteArray) : Pl := (((P.giveUp g p).setM g p i).setR i 1).setF i d
/-- A page given a frame that others have. -/
def Pl.join (P : Pl) (g p i : Nat) : Pl := ((P.giveUp g p).setM g p i).setR i ((P.giveUp g p).ref i + 1)
/-- The first place of a word. -/
def firstOf (L : List ByteArray) (s : ByteArray) : Option Nat := L.findIdx? (fun t => decide (t = s))
/-- All that a pool holds are the machine's own numbers. -/
def Pl.fit (P : Pl) : Prop := (∀ x ∈ P.R, -9223372036854775808 ≤ x ∧ x ≤ 9223372036854775807) ∧ (∀ l ∈ P.M, ∀ x ∈ l, -9223372036854775808 ≤ x ∧ x ≤ 9223372036854775807)
def Pl.small (P : Pl) : Prop := P.F.length ≤ 1000000 ∧ P.R.length ≤ 1000000 ∧ P.M.length ≤ 1000000 ∧ ∀ l ∈ P.M, l.length ≤ 1000000
def PlRow (w : World) (v : Value) (P : Pl) : Prop := PoolRow w v P.F P.R P.M
theorem PlRow.parts {w : World} {vf vr vm : Value} {P : Pl} (h : PlRow w (.agg #[vf, vr, vm]) P) : StrRow w vf P.F ∧ NumRow w vr P.R ∧ MapRow w vm P.M := by
  obtain ⟨vf', vr', vm', e, h1, h2, h3⟩ := h
  injection e with e
  injection e with e
  injection e with e1 e
  injection e with e2 e
  injection e with e3
  subst e1 e2 e3
  exact ⟨h1, h2, h3⟩
theorem PlRow.below {w w' : World} {v : Value} {P : Pl} (h : PlRow w v P) (hb : Below w.heap.size w w') : PlRow w' v P := PoolRow.below h hb
theorem HasBlock.all {w : World} {b : Nat} {cs : Array Value} {T : TypeId} (h : HasBlock w b cs T) : (∀ j, w.cell? ⟨b, j, none⟩ = cs[j]?) ∧ (∀ j, w.frozen? ⟨b, j, none⟩ = false) ∧ b < w.heap.size := ⟨h.cell, h.free, h.lt⟩
theorem HasBlock.put3_0 {w : World} {b : Nat} {T : TypeId} {x0 x1 x2 : Value} (h : HasBlock w b #[x0, x1, x2] T) (v : Value) : HasBlock (w.setCell ⟨b, 0, none⟩ v) b #[v, x1, x2] T := by simpa using h.set_at 0 v
theorem HasBlock.put3_1 {w : World} {b : Nat} {T : TypeId} {x0 x1 x2 : Value} (h : HasBlock w b #[x0, x1, x2] T) (v : Value) : HasBlock (w.setCell ⟨b, 1, none⟩ v) b #[x0, v, x2] T := by simpa using h.set_at 1 v
theorem HasBlock.put3_2 {w : World} {b : Nat} {T : TypeId} {x0 x1 x2 : Value} (h : HasBlock w b #[x0, x1, x2] T) (v : Value) : HasBlock (w.setCell ⟨b, 2, none⟩ v) b #[x0, x1, v] T := by simpa using h.set_at 2 v
theorem Below.next {B : Nat} {w0 w w' : World} (h : Below B w0 w) (hb : Below w.heap.size w w') (hz : B ≤ w.heap.size) : Below B w0 w' := h.trans (hb.mono hz)

/-! rows of the call's own -/
theorem own_ne_type {w : World} {base base' : Nat} {e e' : TypeId} {size size' n n' : Nat} {v v' : Value} {xs xs' : List Value} (h : w.ownsRow base e size v n xs) (h' : w.ownsRow base' e' size' v' n' xs') (hne : e ≠ e') {k : Nat} (hk : v.ownBlock = some k) : v'.ownBlock ≠ some k := by
  intro hk'
  rcases h.2 with ⟨rfl, _⟩ | ⟨g, cap, cur, rfl, _, hg, _⟩
  · cases hk
  · rcases h'.2 with ⟨rfl, _⟩ | ⟨g', cap', cur', rfl, _, hg', _⟩
    · cases hk'
    · injection hk with hk
      injection hk' with hk'
      subst hk
      subst hk'
      rw [hg'] at hg
      injection hg with hg
      injection hg with _ hg
      exact hne hg.symm
theorem owns_setne {w : World} {base : Nat} {e : TypeId} {size n : Nat} {v : Value} {xs : List Value} (h : w.ownsRow base e size v n xs) {b j : Nat} (hne : v.ownBlock ≠ some b) (x : Value) : (w.setCell ⟨b, j, none⟩ x).ownsRow base e size v n xs := by
  obtain ⟨h1, h2⟩ := h
  refine ⟨h1, ?_⟩
  rcases h2 with h2 | ⟨g, cap, cur, rfl, e2, e3, h3⟩
  · exact .inl h2
  · exact .inr ⟨g, cap, cur, rfl, e2, (Below.heap_setCell w _ x g (fun e => hne (by rw [e]; rfl))).trans e3, h3⟩
theorem OwnEnc.setoff {α : Type} {enc : α → Value} {e : TypeId} {base : Nat} {w : World} {v : Value} {xs : List α} (h : OwnEnc enc e base w v xs) {b j : Nat} (hne : v.ownBlock ≠ some b) (x : Value) : OwnEnc enc e base (w.setCell ⟨b, j, none⟩ x) v xs := owns_setne h hne x
theorem owns_setlow {w : World} {base : Nat} {e : TypeId} {size n : Nat} {v : Value} {xs : List Value} (h : w.ownsRow base e size v n xs) {b j : Nat} (hb : b < base) (x : Value) : (w.setCell ⟨b, j, none⟩ x).ownsRow base e size v n xs := owns_setne h (fun e => by have := (h.lt b e).1; omega) x
theorem OwnEnc.setlow {α : Type} {enc : α → Value} {e : TypeId} {base : Nat} {w : World} {v : Value} {xs : List α} (h : OwnEnc enc e base w v xs) {b j : Nat} (hb : b < base) (x : Value) : OwnEnc enc e base (w.setCell ⟨b, j, none⟩ x) v xs := owns_setlow h hb x
/-- A pool's rows, each told, in memory of the call's own. -/
structure OwnP (base : Nat) (w : World) (vf vr vm : Value) (us : List Value) (P : Pl) : Prop where
  f : OwnStr base w vf P.F
  r : OwnNum base w vr P.R
  m : w.ownsRow base 23 1 vm P.M.length us
  u : OwnRows base w us P.M
  ap : ∀ (i : Nat) (u : Value), us[i]? = some u → Apart vr u
theorem OwnRows.lower {base base' : Nat} {w : World} {us : List Value} {M : List (List Int)} (h : OwnRows base w us M) (hb : base' ≤ base) : OwnRows base' w us M :=
  ⟨h.1, fun i u xs hu hx => (h.2.1 i u xs hu hx).lower hb, h.2.2⟩
theorem OwnP.lower {base base' : Nat} {w : World} {vf vr vm : Value} {us : List Value} {P : Pl} (h : OwnP base w vf vr vm us P) (hb : base' ≤ base) : OwnP base' w vf vr vm us P :=
  ⟨h.f.lower hb, h.r.lower hb, owns_lower h.m hb, h.u.lower hb, h.ap⟩
theorem OwnP.below {base : Nat} {w w' : World} {vf vr vm : Value} {us : List Value} {P : Pl} (h : OwnP base w vf vr vm us P) (hb : Below w.heap.size w w') : OwnP base w' vf vr vm us P :=
  ⟨h.f.below hb, h.r.below hb, owns_below h.m hb, h.u.below hb, h.ap⟩
theorem OwnP.row {base : Nat} {w : World} {vf vr vm : Value} {us : List Value} {P : Pl} (h : OwnP base w vf vr vm us P) : PlRow w (.agg #[vf, vr, vm]) P :=
  ⟨vf, vr, vm, rfl, h.f.row, h.r.row, us, RowAt.of_owns h.m, h.u.1, fun i u xs hu hx => (h.u.2.1 i u xs hu hx).row⟩
/-- A store that hits none of the rows. -/
theorem OwnP.setlow {base : Nat} {w : World} {vf vr vm : Value} {us : List Value} {P : Pl} (h : OwnP base w vf vr vm us P) {b j : Nat} (hb : b < base) (x : Value) : OwnP base (w.setCell ⟨b, j, none⟩ x) vf vr vm us P := by
  have hn : ∀ {e : TypeId} {size n : Nat} {v : Value} {xs : List Value}, w.ownsRow base e size v n xs → v.ownBlock ≠ some b := fun h e => by have := (h.lt b e).1; omega
  refine ⟨h.f.setoff (hn h.f) x, h.r.setoff (hn h.r) x, owns_setne h.m (hn h.m) x, ⟨h.u.1, fun i u xs hu hx => ?_, h.u.2.2⟩, h.ap⟩
  have := h.u.2.1 i u xs hu hx
  exact this.setoff (hn this) x
theorem OwnP.alloc {base : Nat} {w : World} {vf vr vm : Value} {us : List Value} {P : Pl} (h : OwnP base w vf vr vm us P) (o : Obj) : OwnP base (w.alloc o) vf vr vm us P := h.below ((Below.refl _ w).alloc (Nat.le_refl _) o)
theorem OwnP.drew {base : Nat} {w : World} {vf vr vm : Value} {us : List Value} {P : Pl} (h : OwnP base w vf vr vm us P) : OwnP base w.drew vf vr vm us P := h.below (Below.drew (Below.refl _ _))
theorem OwnP.putF {base gf n k : Nat} {w : World} {vr vm : Value} {us : List Value} {P : Pl} (h : OwnP base w (.slice (some ⟨gf, 0, none⟩) n k) vr vm us P) (j : Nat) (s : ByteArray) : OwnP base (w.setCell ⟨gf, j, none⟩ (.string s)) (.slice (some ⟨gf, 0, none⟩) n k) vr vm us (P.setF j s) := by
  refine ⟨h.f.put j s, h.r.setoff (own_ne_type h.f h.r (by decide) rfl) _, owns_setne h.m (own_ne_type h.f h.m (by decide) rfl) _, ⟨h.u.1, fun i u xs hu hx => ?_, h.u.2.2⟩, h.ap⟩
  have := h.u.2.1 i u xs hu hx
  exact this.setoff (own_ne_type h.f this (by decide) rfl) _
theorem OwnP.putR {base gr n k : Nat} {w : World} {vf vm : Value} {us : List Value} {P : Pl} (h : OwnP base w vf (.slice (some ⟨gr, 0, none⟩) n k) vm us P) (j : Nat) (x : Int) : OwnP base (w.setCell ⟨gr, j, none⟩ (.int .i64 x)) vf (.slice (some ⟨gr, 0, none⟩) n k) vm us (P.setR j x) := by
  refine ⟨h.f.setoff (own_ne_type h.r h.f (by decide) rfl) _, h.r.put j x, owns_setne h.m (own_ne_type h.r h.m (by decide) rfl) _, ⟨h.u.1, fun i u xs hu hx => ?_, h.u.2.2⟩, h.ap⟩
  have := h.u.2.1 i u xs hu hx
  exact this.setoff (h.ap i u hu gr rfl) _
theorem OwnP.putM {base g bu n k : Nat} {w : World} {vf vr vm : Value} {us : List Value} {P : Pl} (h : OwnP base w vf vr vm us P) (hu : us[g]? = some (.slice (some ⟨bu, 0, none⟩) n k)) (p : Nat) (x : Int) : OwnP base (w.setCell ⟨bu, p, none⟩ (.int .i64 x)) vf vr vm us (P.setM g p x) := by
  have hgl : g < P.M.length := by rw [← h.u.1]; exact lt_of_get hu
  obtain ⟨l, hl⟩ := get_lt hgl
  have hlp : P.pages g = l := by unfold Pl.pages; rw [hl]; rfl
  have ho := h.u.2.1 g _ l hu hl
  refine ⟨h.f.setoff (own_ne_type ho h.f (by decide) rfl) _, h.r.setoff (fun e => h.ap g _ hu bu e rfl) _, ?_, ⟨?_, fun i u xs hu' hx => ?_, h.u.2.2⟩, h.ap⟩
  · have := owns_setne h.m (own_ne_type ho h.m (by decide) rfl) (j := p) (.int .i64 x)
    unfold Pl.setM
    rwa [List.length_set]
  · unfold Pl.setM
    rw [List.length_set]
    exact h.u.1
  · unfold Pl.setM at hx
    rw [List.getElem?_set, hlp] at hx
    by_cases e : g = i
    · subst e
      rw [if_pos rfl, if_pos hgl] at hx
      injection hx with hx
      subst hx
      rw [hu] at hu'
      injection hu' with hu'
      subst hu'
      exact ho.put p x
    · rw [if_neg e] at hx
      exact (h.u.2.1 i u xs hu' hx).setoff (h.u.2.2 g i _ u e hu hu' bu rfl) _
/-! what a call that changes rows of the caller's leaves as it was -/
/-- Of the old blocks, those from 'base' on and below 'top' may be changed, no others. -/
structure Between (base top : Nat) (w w' : World) : Prop where
  os : w'.os = w.os
  tape : w'.tape = w.tape
  output : w'.output = w.output
  size : w.heap.size ≤ w'.heap.size
  block : ∀ k, k < w.heap.size → (k < base ∨ top ≤ k) → w'.heap[k]? = w.heap[k]?
theorem Between.refl (base top : Nat) (w : World) : Between base top w w := ⟨rfl, rfl, rfl, Nat.le_refl _, fun _ _ _ => rfl⟩
theorem Between.alloc {base top : Nat} {w w' : World} (h : Between base top w w') (o : Obj) : Between base top w (w'.alloc o) :=
  ⟨h.os, h.tape, h.output, Nat.le_trans h.size (by rw [World.size_alloc]; omega), fun k hk hh => (Below.heap_alloc w' o k (Nat.lt_of_lt_of_le hk h.size)).trans (h.block k hk hh)⟩
theorem Between.setCell {base top : Nat} {w w' : World} (h : Between base top w w') {b j : Nat} (h1 : base ≤ b) (h2 : b < top) (v : Value) : Between base top w (w'.setCell ⟨b, j, none⟩ v) :=
  ⟨h.os, h.tape, h.output, by rw [World.size_setCell]; exact h.size, fun k hk hh => (Below.heap_setCell w' _ v k (fun e => by dsimp only at e; omega)).trans (h.block k hk hh)⟩
theorem Between.next {base top : Nat} {w w' w2 : World} (h : Between base top w w') (hb : Below w'.heap.size w' w2) : Between base top w w2 :=
  ⟨hb.os.trans h.os, hb.tape.trans h.tape, hb.output.trans h.output, Nat.le_trans h.size hb.size, fun k hk hh => (hb.block k (Nat.lt_of_lt_of_le hk h.size)).trans (h.block k hk hh)⟩
theorem Between.below {base top : Nat} {w w' : World} (h : Between base top w w') (hb : base ≤ w.heap.size) : Below base w w' := ⟨h.os, h.tape, h.output, h.size, fun k hk => h.block k (by omega) (.inl hk)⟩
theorem HasBlock.btw {w w' : World} {b base top : Nat} {cs : Array Value} {T : TypeId} (h : HasBlock w b cs T) (hb : Between base top w w') (hh : b < base ∨ top ≤ b) : HasBlock w' b cs T := (hb.block b h.lt hh).trans h
/-- Where the rows lie. -/
structure LtP (top : Nat) (vf vr : Value) (us : List Value) : Prop where
  f : ∀ k, vf.ownBlock = some k → k < top
  r : ∀ k, vr.ownBlock = some k → k < top
  u : ∀ (i : Nat) (u : Value), us[i]? = some u → ∀ k, u.ownBlock = some k → k < top
theorem OwnP.lt {base : Nat} {w : World} {vf vr vm : Value} {us : List Value} {P : Pl} (h : OwnP base w vf vr vm us P) : LtP w.heap.size vf vr us :=
  ⟨fun k hk => (World.ownsRow.lt h.f.raw k hk).2, fun k hk => (World.ownsRow.lt h.r.raw k hk).2, fun i u hu k hk => by
    obtain ⟨xs, hx⟩ := get_lt (xs := P.M) (k := i) (by rw [← h.u.1]; exact lt_of_get hu)
    exact (World.ownsRow.lt (h.u.2.1 i u xs hu hx).raw k hk).2⟩
/-! places -/
theorem OwnP.page {base : Nat} {w : World} {vf vr vm : Value} {us : List Value} {P : Pl} (h : OwnP base w vf vr vm us P) {g p : Nat} {l : List Int} {f : Int} (hl : P.M[g]? = some l) (hp : l[p]? = some f) :
    ∃ bm km bu ku, vm = .slice (some ⟨bm, 0, none⟩) P.M.length km ∧ us[g]? = some (.slice (some ⟨bu, 0, none⟩) l.length ku) ∧ w.cell? ⟨bm, g, none⟩ = some (.slice (some ⟨bu, 0, none⟩) l.length ku) ∧ w.cell? ⟨bu, p, none⟩ = some (.int .i64 f) ∧ w.frozen? ⟨bu, p, none⟩ = false ∧
      base ≤ bm ∧ bm < w.heap.size ∧ base ≤ bu ∧ bu < w.heap.size ∧ bm ≠ bu := by
  have hgl := lt_of_get hl
  have hpl := lt_of_get hp
  obtain ⟨u, hu⟩ := get_lt (xs := us) (k := g) (by rw [h.u.1]; exact hgl)
  have ho := h.u.2.1 g u l hu hl
  have hm := h.m
  rcases hm.2 with ⟨rfl, h0⟩ | ⟨bm, km, cur, rfl, q1, q2, _⟩
  · omega
  · obtain ⟨uo, uc, rfl, _⟩ := ho.form
    obtain ⟨bu, rfl, r1, r2⟩ := ho.addr rfl (by omega)
    obtain ⟨s1, s2⟩ := ho.at hp
    refine ⟨bm, km, bu, uc, rfl, hu, ?_, s1, s2, q1, (Array.getElem?_eq_some_iff.1 q2).1, r1, r2, fun e => own_ne_type hm ho (by decide) (k := bm) rfl (by rw [e]; rfl)⟩
    have := World.ownsRow.cellAt hm g (by omega)
    rw [this]
    exact hu
/-- A guest's row in a pool that is read. -/
theorem PlRow.guest {w : World} {vf vr : Value} {om : Option Addr} {m km g : Nat} {P : Pl} {l : List Int} (h : PlRow w (.agg #[vf, vr, .slice om m km]) P) (hl : P.M[g]? = some l) :
    ∃ mb moff uo uc, om = some ⟨mb, moff, none⟩ ∧ mb < w.heap.size ∧ w.cell? ⟨mb, moff + g, none⟩ = some (.slice uo l.length uc) ∧ l.length ≤ uc ∧ uc ≤ 9223372036854775807 ∧ NumRow w (.slice uo l.length uc) l := by
  obtain ⟨_, _, us, h3, h4, h5⟩ := h.parts
  obtain ⟨om', km', e0, _, _, h3⟩ := h3
  injection e0 with e0 e9 e1
  subst e0
  obtain ⟨u, hu⟩ := get_lt (xs := us) (k := g) (by rw [h4]; exact lt_of_get hl)
  have hrow := h5 g u l hu hl
  obtain ⟨uo, uc, rfl, d1, d2, _⟩ := hrow.out
  unfold maxLen at d2
  obtain ⟨mb, moff, rfl, hmb, hmc⟩ := h3.resolve_left (by intro e; rw [e] at hu; simp at hu)
  exact ⟨mb, moff, uo, uc, rfl, hmb, hmc g _ hu, d1, d2, hrow⟩
theorem EncRow.elem {α : Type} {enc : α → Value} {w : World} {ao : Option Addr} {n ca : Nat} {xs : List α} (h : EncRow enc w (.slice ao n ca) xs) {i : Nat} {x : α} (hx : xs[i]? = some x) : ∃ b off, ao = some ⟨b, off, none⟩ ∧ b < w.heap.size ∧ w.cell? ⟨b, off + i, none⟩ = some (enc x) := by
  obtain ⟨ao', cap, hv, _, _, h3⟩ := h.out
  injection hv with e1
  subst e1
  obtain ⟨b, off, e, hlt, hc⟩ := h3.resolve_left (by have := lt_of_get hx; omega)
  exact ⟨b, off, e, hlt, hc i x hx⟩
theorem OwnP.f_ne {base gf g bu n k n2 k2 : Nat} {w : World} {vr vm : Value} {us : List Value} {P : Pl} (h : OwnP base w (.slice (some ⟨gf, 0, none⟩) n k) vr vm us P) (hu : us[g]? = some (.slice (some ⟨bu, 0, none⟩) n2 k2)) : gf ≠ bu := by
  obtain ⟨l, hl⟩ := get_lt (xs := P.M) (k := g) (by rw [← h.u.1]; exact lt_of_get hu)
  exact fun e => own_ne_type h.f (h.u.2.1 g _ l hu hl) (by decide) (k := gf) rfl (by rw [e]; rfl)
theorem OwnP.r_ne {base gr g bu n k n2 k2 : Nat} {w : World} {vf vm : Value} {us : List Value} {P : Pl} (h : OwnP base w vf (.slice (some ⟨gr, 0, none⟩) n k) vm us P) (hu : us[g]? = some (.slice (some ⟨bu, 0, none⟩) n2 k2)) : gr ≠ bu := fun e => h.ap g _ hu gr rfl (by rw [e]; rfl)
theorem OwnP.fr_ne {base gf gr n k n2 k2 : Nat} {w : World} {vm : Value} {us : List Value} {P : Pl} (h : OwnP base w (.slice (some ⟨gf, 0, none⟩) n k) (.slice (some ⟨gr, 0, none⟩) n2 k2) vm us P) : gf ≠ gr := fun e => own_ne_type h.f h.r (by decide) (k := gf) rfl (by rw [e]; rfl)
theorem Pl.fr_eq {P : Pl} {g p : Nat} {l : List Int} {f : Int} (hl : P.M[g]? = some l) (hp : l[p]? = some f) : P.fr g p = f := by
  unfold Pl.fr Pl.pages
  rw [hl, Option.getD_some, hp]
  rfl
theorem Pl.is_at {P : Pl} {g p : Nat} (h : P.is g p = true) : ∃ l f, P.M[g]? = some l ∧ l[p]? = some f := by
  unfold Pl.is at h
  rw [decide_eq_true_eq] at h
  obtain ⟨_, h1, _, h2⟩ := h
  rw [Int.toNat_natCast] at h2
  obtain ⟨l, hl⟩ := get_lt (xs := P.M) (k := g) (by omega)
  have : P.pages g = l := by unfold Pl.pages; rw [hl]; rfl
  rw [this] at h2
  obtain ⟨f, hf⟩ := get_lt (xs := l) (k := p) (by omega)
  exact ⟨l, f, hl, hf⟩
end Go.Proofs.Ytjoopjgpjkmmhaa
