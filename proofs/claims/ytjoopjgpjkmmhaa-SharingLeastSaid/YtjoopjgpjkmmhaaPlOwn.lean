/-
  A pool whose map grows by a row; the words for a pool that a call hands back. Nothing of the program is walked.
-/
import Derived.Test.YtjoopjgpjkmmhaaPl
namespace Go.Proofs.Ytjoopjgpjkmmhaa
open Go.RowKit

theorem OwnEnc.kept {α : Type} {enc : α → Value} {e : TypeId} {base : Nat} {w w' : World} {v : Value} {xs : List α} (h : OwnEnc enc e base w v xs) {row : Option Nat} (hg : w.grownBy w' row) (hne : ∀ k, v.ownBlock = some k → row ≠ some k) : OwnEnc enc e base w' v xs := by
  refine World.ownsRow.kept h hg ?_
  cases hv : v.ownBlock with
  | none => exact .inl rfl
  | some k => exact .inr (fun e => hne k hv e.symm)
theorem apart_lt {v u : Value} {B : Nat} (h1 : ∀ k, v.ownBlock = some k → k < B) (h2 : ∀ k, u.ownBlock = some k → B ≤ k) : Apart v u := by
  intro k hk hk'
  have := h1 k hk
  have := h2 k hk'
  omega
/-- A row more in the map. -/
theorem OwnP.push {base : Nat} {w w' : World} {vf vr vm vm' u : Value} {us : List Value} {P : Pl} {l : List Int} (h : OwnP base w vf vr vm us P) (ho : OwnNum base w u l) (hr : Apart vr u) (hu : ∀ (i : Nat) (u' : Value), us[i]? = some u' → Apart u' u)
    (hown : w'.ownsRow base 23 1 vm' (P.M.length + 1) (us ++ [u])) (hg : w.grownBy w' vm.ownBlock) : OwnP base w' vf vr vm' (us ++ [u]) ⟨P.F, P.R, P.M ++ [l]⟩ := by
  have hk : ∀ {α : Type} {enc : α → Value} {e : TypeId} {v : Value} {xs : List α}, OwnEnc enc e base w v xs → e ≠ 23 → OwnEnc enc e base w' v xs := fun h1 hne => h1.kept hg (fun k hk => own_ne_type h1 h.m hne hk)
  refine ⟨hk h.f (by decide), hk h.r (by decide), ?_, ?_, ?_⟩
  · rw [List.length_append]; exact hown
  · refine OwnRows.snoc ⟨h.u.1, fun i u' xs hu' hx => hk (h.u.2.1 i u' xs hu' hx) (by decide), h.u.2.2⟩ (hk ho (by decide)) hu
  · intro i u' hu'
    rw [List.getElem?_append] at hu'
    split at hu'
    · exact h.ap i u' hu'
    · have h0 : i - us.length = 0 := by have := lt_of_get hu'; simp at this; omega
      rw [h0] at hu'
      simp at hu'
      subst hu'
      exact hr
theorem OwnP.under {base B : Nat} {w w' : World} {vf vr vm : Value} {us : List Value} {P : Pl} (h : OwnP base w vf vr vm us P) (hb : Below B w w') (hB : w.heap.size ≤ B) : OwnP base w' vf vr vm us P := h.below (hb.mono hB)
/-- A pool in memory of the call's own is handed back. -/
def RetPool (P : Pl) (w : World) (e : Ending) (w' : World) : Prop := ∃ (of or' om : Option Addr) (kf kr km : Nat) (us : List Value), e = .returned (.agg #[.slice of P.F.length kf, .slice or' P.R.length kr, .slice om P.M.length km]) ∧ OwnP w.heap.size w' (.slice of P.F.length kf) (.slice or' P.R.length kr) (.slice om P.M.length km) us P ∧ Below w.heap.size w w'
/-- .. and whether it went well. -/
def RetPool2 (P : Pl) (ok : Bool) (w : World) (e : Ending) (w' : World) : Prop := ∃ (of or' om : Option Addr) (kf kr km : Nat) (us : List Value), e = .returned (.tuple #[.agg #[.slice of P.F.length kf, .slice or' P.R.length kr, .slice om P.M.length km], .bool ok]) ∧ OwnP 0 w' (.slice of P.F.length kf) (.slice or' P.R.length kr) (.slice om P.M.length km) us P ∧ Below w.heap.size w w'
/-- The same, the rows in memory that the call has made. -/
def RetPoolB (P : Pl) (ok : Bool) (w : World) (e : Ending) (w' : World) : Prop := ∃ (of or' om : Option Addr) (kf kr km : Nat) (us : List Value), e = .returned (.tuple #[.agg #[.slice of P.F.length kf, .slice or' P.R.length kr, .slice om P.M.length km], .bool ok]) ∧ OwnP w.heap.size w' (.slice of P.F.length kf) (.slice or' P.R.length kr) (.slice om P.M.length km) us P ∧ Below w.heap.size w w'
/-- The same, the rows perhaps the caller's. -/
def RetRowP (P : Pl) (ok : Bool) (w : World) (e : Ending) (w' : World) : Prop := ∃ (of or' om : Option Addr) (kf kr km : Nat), e = .returned (.tuple #[.agg #[.slice of P.F.length kf, .slice or' P.R.length kr, .slice om P.M.length km], .bool ok]) ∧ PlRow w' (.agg #[.slice of P.F.length kf, .slice or' P.R.length kr, .slice om P.M.length km]) P ∧ Below w.heap.size w w'
theorem one_slice (a : Option Addr) (n k : Nat) : ∀ u ∈ [Value.slice a n k], u.oneCell' = true := by
  intro u hu
  simp at hu
  subst hu
  rfl
theorem step_append_own {P : Program} {ops : Array Oper} {w : World} {o : Oper} {a : Act} {K : Act → World → Prop} {Q : Exit → Act → World → Prop} {E : Prop} (hgd : o.guard = none) (s x : Operand) (t : TypeId)
    (ho : o.op = .call { callee := .builtin .append, args := #[s, x], argTypes := #[t, t] })
    (base : Nat) (e : TypeId) (i : TypeInfo) (z : Value) (size bytes : Nat) (ht : P.underlying t = some (.slice e)) (hi : P.info? e = some i) (hz : i.zero = some z)
    (hsize : i.size = size) (hby : i.bytes = bytes) (hzs : z.cells.size = size) (hsz : 0 < size)
    (v : Value) (n : Nat) (xs : List Value) (hs : a.eval s = v) (hown : w.ownsRow base e size v n xs)
    (ad : Addr) (m c : Nat) (news : List Value) (hx : a.eval x = .slice (some ad) m c) (hl : news.length = m * size) (hnews : ∀ j u, news[j]? = some u → w.cell? (ad.add j) = some u) (h1 : ∀ u ∈ news, u.oneCell' = true)
    (h63 : n + m ≤ maxLen) (hbytes : (n + m) * bytes ≤ 140737488355328) (hbase : base ≤ w.heap.size)
    (h : ∀ v' w', w'.ownsRow base e size v' (n + m) (xs ++ news) → w.grownBy w' v.ownBlock → (v' = .slice none 0 0 ↔ v = .slice none 0 0 ∧ m = 0) → K (a.put o.dst v') w') : if Region.wanted o (yielded ops a.tmps) = true then Oper.wp P o a w K Q else E := by
  have hw : Region.wanted o (yielded ops a.tmps) = true := by simp [Region.wanted, hgd]
  rw [if_pos hw]
  exact wp_append_own w s x t ho base e i z size bytes ht hi hz hsize hby hzs hsz v n xs hs hown ad m c news hx hl hnews h1 h63 hbytes hbase h
theorem below_grown {B : Nat} {w W w2 : World} {base : Nat} {e : TypeId} {size n : Nat} {v : Value} {xs : List Value} (hB : Below B w W) (hown : W.ownsRow base e size v n xs) (hg : W.grownBy w2 v.ownBlock) (hb : B ≤ base) (hs : B ≤ W.heap.size) : Below B w w2 := hB.grown hg hs (fun k hk => Nat.le_trans hb (hown.lt k hk).1)
theorem HasBlock.under {w w' : World} {b base : Nat} {cs : Array Value} {T : TypeId} (h : HasBlock w b cs T) (hb : Below base w w') (hlt : b < base) : HasBlock w' b cs T := (hb.block b hlt).trans h
theorem OwnEnc.formN {α : Type} {enc : α → Value} {e : TypeId} {base n : Nat} {w : World} {v : Value} {xs : List α} (h : OwnEnc enc e base w v xs) (hn : xs.length = n) : ∃ (ao : Option Addr) (cap : Nat), v = .slice ao n cap ∧ n ≤ cap ∧ cap ≤ 9223372036854775807 := by
  subst hn
  exact h.form
theorem own_form' {w : World} {base : Nat} {e : TypeId} {size n : Nat} {v : Value} {xs : List Value} (h : w.ownsRow base e size v n xs) : ∃ (o : Option Addr) (cap : Nat), v = .slice o n cap ∧ n ≤ cap ∧ cap ≤ 9223372036854775807 := by
  rcases h.2 with ⟨rfl, h0⟩ | ⟨g, cap, cur, rfl, _, _, hn, hm, _⟩
  · subst h0
    exact ⟨none, 0, rfl, Nat.le_refl _, by omega⟩
  · exact ⟨_, cap, rfl, hn, by unfold maxLen at hm; omega⟩
theorem own_off {base B : Nat} {e : TypeId} {size n : Nat} {w : World} {v : Value} {xs : List Value} {cs : Array Value} {T : TypeId} (h : w.ownsRow base e size v n xs) (hB : HasBlock w B cs T) (hne : T ≠ e) : v.ownBlock ≠ some B := by
  intro hv
  rcases h.2 with ⟨rfl, _⟩ | ⟨g, cap, cur, rfl, _, hg, _⟩
  · cases hv
  · injection hv with hv
    subst hv
    unfold HasBlock at hB
    rw [hB] at hg
    injection hg with hg
    injection hg with _ hg
    exact hne hg
/-- A store into a box, that is no row. -/
theorem OwnP.setbox {base B j : Nat} {w : World} {vf vr vm : Value} {us : List Value} {P : Pl} {cs : Array Value} {T : TypeId} (h : OwnP base w vf vr vm us P) (hB : HasBlock w B cs T) (h1 : T ≠ 9) (h2 : T ≠ 3) (h3 : T ≠ 23) (x : Value) : OwnP base (w.setCell ⟨B, j, none⟩ x) vf vr vm us P :=
  ⟨h.f.setoff (own_off h.f hB h1) x, h.r.setoff (own_off h.r hB h2) x, owns_setne h.m (own_off h.m hB h3) x, ⟨h.u.1, fun i u xs hu hx => by
    have := h.u.2.1 i u xs hu hx
    exact this.setoff (own_off this hB h2) x, h.u.2.2⟩, h.ap⟩
theorem own_nil {base : Nat} {w : World} {e : TypeId} {size : Nat} : w.ownsRow base e size (.slice none 0 0) 0 [] := World.ownsRow_nil _ _ _ _
theorem ret_pool {P : Pl} {w w' : World} {of or' om : Option Addr} {kf kr km n r m : Nat} {us : List Value} (hn : P.F.length = n) (hr : P.R.length = r) (hm : P.M.length = m) (h : OwnP w.heap.size w' (.slice of n kf) (.slice or' r kr) (.slice om m km) us P) (hb : Below w.heap.size w w') : RetPool P w (.returned (.agg #[.slice of n kf, .slice or' r kr, .slice om m km])) w' := by
  subst hn hr hm
  exact ⟨_, _, _, _, _, _, _, rfl, h, hb⟩
theorem ret_pool2 {P : Pl} {ok : Bool} {base : Nat} {w w' : World} {of or' om : Option Addr} {kf kr km : Nat} {us : List Value} (h : OwnP base w' (.slice of P.F.length kf) (.slice or' P.R.length kr) (.slice om P.M.length km) us P) (hb : Below w.heap.size w w') : RetPool2 P ok w (.returned (.tuple #[.agg #[.slice of P.F.length kf, .slice or' P.R.length kr, .slice om P.M.length km], .bool ok])) w' := ⟨_, _, _, _, _, _, _, rfl, h.lower (Nat.zero_le _), hb⟩
theorem RetPoolB.two {P : Pl} {ok : Bool} {w w' : World} {e : Ending} (h : RetPoolB P ok w e w') : RetPool2 P ok w e w' := by
  obtain ⟨of, or', om, kf, kr, km, us, he, h1, hb⟩ := h
  exact ⟨of, or', om, kf, kr, km, us, he, h1.lower (Nat.zero_le _), hb⟩
theorem RetPoolB.row {P : Pl} {ok : Bool} {w w' : World} {e : Ending} (h : RetPoolB P ok w e w') : RetRowP P ok w e w' := by
  obtain ⟨of, or', om, kf, kr, km, us, he, h1, hb⟩ := h
  exact ⟨of, or', om, kf, kr, km, he, h1.row, hb⟩
theorem RetPool2.row {P : Pl} {ok : Bool} {w w' : World} {e : Ending} (h : RetPool2 P ok w e w') : RetRowP P ok w e w' := by
  obtain ⟨of, or', om, kf, kr, km, us, he, h1, hb⟩ := h
  exact ⟨of, or', om, kf, kr, km, he, h1.row, hb⟩
theorem PlRow.form {w : World} {v : Value} {P : Pl} (h : PlRow w v P) : ∃ (of or' om : Option Addr) (kf kr km : Nat), v = .agg #[.slice of P.F.length kf, .slice or' P.R.length kr, .slice om P.M.length km] ∧ P.F.length ≤ kf ∧ kf ≤ 9223372036854775807 ∧ P.R.length ≤ kr ∧ kr ≤ 9223372036854775807 ∧ P.M.length ≤ km ∧ km ≤ 9223372036854775807 := by
  obtain ⟨vf, vr, vm, rfl, h1, h2, us, h3, h4, h5⟩ := h
  obtain ⟨of, kf, rfl, f1, f2, _⟩ := h1.out
  obtain ⟨or', kr, rfl, r1, r2, _⟩ := h2.out
  obtain ⟨om, km, rfl, m1, m2, _⟩ := h3
  unfold maxLen at f2 r2 m2
  exact ⟨of, or', om, kf, kr, km, rfl, f1, f2, r1, r2, m1, m2⟩
end Go.Proofs.Ytjoopjgpjkmmhaa
