/-
  A mirror's functions, walked: clone, Done, Switch, Write, Copy, Begin.
-/
import Derived.Test.YtfomfokgibijjaaMirRef
namespace Go.Proofs.Ytfomfokgibijjaa
open Go.RowKit

/-- A mirror in memory of the call's own. -/
def OwnMir (base : Nat) (w : World) (S T : List ByteArray) (c : Int) (v : Value) : Prop := ∃ vs vt, v = .agg #[vs, vt, .int .i64 c] ∧ OwnStr base w vs S ∧ OwnStr base w vt T ∧ ∀ k k', vs.ownBlock = some k → vt.ownBlock = some k' → k < k'
def RetMir (S T : List ByteArray) (c : Int) (w : World) (e : Ending) (w' : World) : Prop := ∃ v, e = .returned v ∧ OwnMir w.heap.size w' S T c v ∧ Below w.heap.size w w'
theorem OwnEnc.of {α : Type} {enc : α → Value} {e : TypeId} {base : Nat} {w : World} {v : Value} {xs : List α} (h : w.ownsRow base e 1 v xs.length (xs.map enc)) : OwnEnc enc e base w v xs := h
theorem OwnEnc.formN {α : Type} {enc : α → Value} {e : TypeId} {base n : Nat} {w : World} {v : Value} {xs : List α} (h : OwnEnc enc e base w v xs) (hn : xs.length = n) : ∃ (ao : Option Addr) (cap : Nat), v = .slice ao n cap ∧ n ≤ cap ∧ cap ≤ 9223372036854775807 := by
  subst hn
  exact h.form
theorem owns_apart {w1 w2 : World} {base base2 : Nat} {e e2 : TypeId} {size size2 n n2 : Nat} {v v2 : Value} {xs xs2 : List Value} (h1 : w1.ownsRow base e size v n xs) (h2 : w2.ownsRow base2 e2 size2 v2 n2 xs2) (hb : w1.heap.size ≤ base2) : ∀ k k', v.ownBlock = some k → v2.ownBlock = some k' → k < k' := by
  intro k k' e e'
  have a := (h1.lt k e).2
  have b := (h2.lt k' e').1
  omega
theorem HasBlock.under {w w' : World} {b base : Nat} {cs : Array Value} {T : TypeId} (h : HasBlock w b cs T) (hb : Below base w w') (hlt : b < base) : HasBlock w' b cs T := (hb.block b hlt).trans h
theorem owns_set_ne {w : World} {base : Nat} {e : TypeId} {size n : Nat} {v : Value} {xs : List Value} (h : w.ownsRow base e size v n xs) {b j : Nat} (hne : v.ownBlock ≠ some b) (x : Value) : (w.setCell ⟨b, j, none⟩ x).ownsRow base e size v n xs := by
  obtain ⟨h1, h2⟩ := h
  refine ⟨h1, ?_⟩
  rcases h2 with h2 | ⟨g, cap, cur, rfl, e2, e3, h3⟩
  · exact .inl h2
  · exact .inr ⟨g, cap, cur, rfl, e2, (Below.heap_setCell w _ x g (fun e => hne (by rw [e]; rfl))).trans e3, h3⟩
theorem own_ne {g b n cap : Nat} (h : g ≠ b) : (Value.slice (some ⟨g, 0, none⟩) n cap).ownBlock ≠ some b := by
  intro e
  injection e with e
  exact h e
theorem own_gt {w : World} {base b : Nat} {e : TypeId} {size n : Nat} {v : Value} {xs : List Value} (h : w.ownsRow base e size v n xs) (hb : b < base) : v.ownBlock ≠ some b := fun e => by have := (h.lt b e).1; omega
set_option maxHeartbeats 1000000 in
theorem mclone_any (vs vt : Value) (S T : List ByteArray) (c : Int) (w : World) (ha : StrRow w vs S) (hb : StrRow w vt T) (h1 : S.length ≤ 1000000) (h2 : T.length ≤ 1000000) : Calls Try.prog 26 #[.agg #[vs, vt, .int .i64 c]] w (RetMir S T c w) := by
  have HA := Lib.hid ha
  have HB := Lib.hid hb
  obtain ⟨ao, ca, rfl, a1, a2, a3⟩ := ha.out
  obtain ⟨bo, cb, rfl, b1, b2, b3⟩ := hb.out
  clear ha hb a3 b3
  go_enter Try.func26, Try.ntmps26
  go_wp2_with fail
  refine (clone_str _ S _ (HA.out.below (by repeat (first | with_reducible exact Below.refl _ _ | with_reducible refine Below.drew ?_ | (with_reducible refine Below.alloc ?_ (by first | exact Nat.le_refl _ | omega | (simp only [sizes]; omega)) _) | (with_reducible refine Below.setCell ?_ (by first | exact Nat.le_refl _ | omega | (simp only [sizes]; omega)) _) | (refine Below.trans ?_ (Below.mono (by with_reducible assumption) (by first | exact Nat.le_refl _ | omega | (simp only [sizes]; omega))))))) (by omega)).mono ?_
  rintro e w1 ⟨v1, rfl, ho1, hb1⟩
  have D1 := ((HasBlock.made w #[.slice ao S.length ca, .slice bo T.length cb, .int .i64 c] 24).alloc (.cells #[.slice none 0 0, .slice none 0 0, .int .i64 0] 24)).below hb1
  have D2 := (HasBlock.made (w.alloc (.cells #[.slice ao S.length ca, .slice bo T.length cb, .int .i64 c] 24)) #[.slice none 0 0, .slice none 0 0, .int .i64 0] 24).below hb1
  have hbw1 : Below w.heap.size w w1 := (by repeat (first | with_reducible exact Below.refl _ _ | with_reducible refine Below.drew ?_ | (with_reducible refine Below.alloc ?_ (by first | exact Nat.le_refl _ | omega | (dsimp only; omega) | (simp only [sizes]; omega)) _) | (with_reducible refine Below.setCell ?_ (by first | exact Nat.le_refl _ | omega | (dsimp only; omega) | (simp only [sizes]; omega)) _) | (refine Below.trans ?_ (Below.mono (by with_reducible assumption) (by first | exact Nat.le_refl _ | omega | (dsimp only; omega) | (simp only [sizes]; omega))))))
  have hz1 := hb1.size
  simp only [sizes] at D2 hz1 ho1
  clear hb1
  obtain ⟨o1, k1, rfl, _, _⟩ := ho1.form
  have HO1 := Lib.hid ho1; clear ho1
  have x0 := (D1.cell 0).trans rfl
  have x1 := (D1.cell 1).trans rfl
  have x2 := (D1.cell 2).trans rfl
  have xf := D1.free
  have xz := D1.lt
  have y0 := (D2.cell 0).trans rfl
  have y1 := (D2.cell 1).trans rfl
  have y2 := (D2.cell 2).trans rfl
  have yf := D2.free
  have yz := D2.lt
  go_wp2_with fail
  have E1 := D1.set_at 0 (.slice o1 S.length k1)
  have E2 := D2.set_ne (b' := w.heap.size) (j := 0) (by omega) (.slice o1 S.length k1)
  have ho2 := owns_set_ne (b := w.heap.size) (j := 0) HO1.out (own_gt HO1.out (by omega)) (.slice o1 S.length k1)
  have hbw2 : Below w.heap.size w (w1.setCell ⟨w.heap.size, 0, none⟩ (.slice o1 S.length k1)) := (by repeat (first | with_reducible exact Below.refl _ _ | with_reducible refine Below.drew ?_ | (with_reducible refine Below.alloc ?_ (by first | exact Nat.le_refl _ | omega | (dsimp only; omega) | (simp only [sizes]; omega)) _) | (with_reducible refine Below.setCell ?_ (by first | exact Nat.le_refl _ | omega | (dsimp only; omega) | (simp only [sizes]; omega)) _) | (refine Below.trans ?_ (Below.mono (by with_reducible assumption) (by first | exact Nat.le_refl _ | omega | (dsimp only; omega) | (simp only [sizes]; omega))))))
  clear x0 x1 x2 xf xz
  clear y0 y1 y2 yf yz
  clear D1 D2 HO1 hbw1
  generalize hW : w1.setCell ⟨w.heap.size, 0, none⟩ (.slice o1 S.length k1) = w2 at E1 E2 ho2 hbw2 ⊢
  have hz2 : w.heap.size + 1 + 1 ≤ w2.heap.size := by rw [← hW, World.size_setCell]; exact hz1
  clear hW hz1
  refine (clone_str _ T _ (HB.out.below hbw2) (by omega)).mono ?_
  rintro e w3 ⟨v3, rfl, ho3, hb3⟩
  have D1 := E1.below hb3
  have D2 := E2.below hb3
  have ho4 := owns_below ho2 hb3
  have hap := owns_apart ho2 ho3 (Nat.le_refl _)
  have hbw3 : Below w.heap.size w w3 := (by repeat (first | with_reducible exact Below.refl _ _ | with_reducible refine Below.drew ?_ | (with_reducible refine Below.alloc ?_ (by first | exact Nat.le_refl _ | omega | (dsimp only; omega) | (simp only [sizes]; omega)) _) | (with_reducible refine Below.setCell ?_ (by first | exact Nat.le_refl _ | omega | (dsimp only; omega) | (simp only [sizes]; omega)) _) | (refine Below.trans ?_ (Below.mono (by with_reducible assumption) (by first | exact Nat.le_refl _ | omega | (dsimp only; omega) | (simp only [sizes]; omega))))))
  have hz3 := hb3.size
  clear hb3 hbw2 E1 E2 ho2
  obtain ⟨o3, k3, rfl, _, _⟩ := ho3.form
  have HO3 := Lib.hid (OwnEnc.lower (base' := w.heap.size + 1 + 1) ho3 hz2); clear ho3
  have HO4 := Lib.hid ho4; clear ho4
  have HAP := Lib.hid hap; clear hap
  have x0 := (D1.cell 0).trans rfl
  have x1 := (D1.cell 1).trans rfl
  have x2 := (D1.cell 2).trans rfl
  have xf := D1.free
  have xz := D1.lt
  have y0 := (D2.cell 0).trans rfl
  have y1 := (D2.cell 1).trans rfl
  have y2 := (D2.cell 2).trans rfl
  have yf := D2.free
  have yz := D2.lt
  go_wp2_with fail
  refine bodyPost_ret (v := .agg #[.slice o1 S.length k1, .slice o3 T.length k3, .int .i64 c]) (by simp [results, Try.results26, go_sem, y0, y1, y2]) rfl ?_
  refine ⟨_, rfl, ⟨_, _, rfl, ?_, ?_, HAP.out⟩, (by repeat (first | with_reducible exact Below.refl _ _ | with_reducible refine Below.drew ?_ | (with_reducible refine Below.alloc ?_ (by first | exact Nat.le_refl _ | omega | (dsimp only; omega) | (simp only [sizes]; omega)) _) | (with_reducible refine Below.setCell ?_ (by first | exact Nat.le_refl _ | omega | (dsimp only; omega) | (simp only [sizes]; omega)) _) | (refine Below.trans ?_ (Below.mono (by with_reducible assumption) (by first | exact Nat.le_refl _ | omega | (dsimp only; omega) | (simp only [sizes]; omega))))))⟩
  · refine OwnEnc.lower (base := w.heap.size + 1 + 1) ?_ (by omega)
    exact (by have h4 := OwnEnc.raw (HO4).out; refine OwnEnc.of ?_; repeat (first | with_reducible exact h4 | (with_reducible refine World.ownsRow.alloc ?_ _) | (with_reducible refine owns_set_ne ?_ (own_gt h4 (by omega)) _)))
  · refine OwnEnc.lower (base := w.heap.size + 1 + 1) ?_ (by omega)
    exact (by have h4 := OwnEnc.raw (HO3).out; refine OwnEnc.of ?_; repeat (first | with_reducible exact h4 | (with_reducible refine World.ownsRow.alloc ?_ _) | (with_reducible refine owns_set_ne ?_ (own_gt h4 (by omega)) _)))

/-- A mirror that is read. -/
def MirRow (w : World) (S T : List ByteArray) (c : Int) (v : Value) : Prop := ∃ vs vt, v = .agg #[vs, vt, .int .i64 c] ∧ StrRow w vs S ∧ StrRow w vt T
theorem MirRow.below {w w' : World} {S T : List ByteArray} {c : Int} {v : Value} (h : MirRow w S T c v) (hb : Below w.heap.size w w') : MirRow w' S T c v := by
  obtain ⟨vs, vt, e, h1, h2⟩ := h
  exact ⟨vs, vt, e, h1.below hb, h2.below hb⟩
theorem OwnMir.row {base : Nat} {w : World} {S T : List ByteArray} {c : Int} {v : Value} (h : OwnMir base w S T c v) : MirRow w S T c v := by
  obtain ⟨vs, vt, e, h1, h2, _⟩ := h
  exact ⟨vs, vt, e, h1.row, h2.row⟩
def RetRow (S T : List ByteArray) (c : Int) (w : World) (e : Ending) (w' : World) : Prop := ∃ v, e = .returned v ∧ MirRow w' S T c v ∧ Below w.heap.size w w'
def RetRow2 (S T : List ByteArray) (c : Int) (ok : Bool) (w : World) (e : Ending) (w' : World) : Prop := ∃ v, e = .returned (.tuple #[v, .bool ok]) ∧ MirRow w' S T c v ∧ Below w.heap.size w w'
/-- The same, in memory of the call's own. -/
def RetOwnM (S T : List ByteArray) (c : Int) (w : World) (e : Ending) (w' : World) : Prop := ∃ vs vt, e = .returned (.agg #[vs, vt, .int .i64 c]) ∧ OwnStr w.heap.size w' vs S ∧ OwnStr w.heap.size w' vt T ∧ Below w.heap.size w w'
def RetOwnM2 (S T : List ByteArray) (c : Int) (ok : Bool) (w : World) (e : Ending) (w' : World) : Prop := ∃ vs vt, e = .returned (.tuple #[.agg #[vs, vt, .int .i64 c], .bool ok]) ∧ OwnStr w.heap.size w' vs S ∧ OwnStr w.heap.size w' vt T ∧ Below w.heap.size w w'
theorem retOwn {S T : List ByteArray} {c : Int} {w w' : World} {vs vt : Value} (h1 : OwnStr w.heap.size w' vs S) (h2 : OwnStr w.heap.size w' vt T) (hb : Below w.heap.size w w') : RetOwnM S T c w (.returned (.agg #[vs, vt, .int .i64 c])) w' := ⟨vs, vt, rfl, h1, h2, hb⟩
theorem retOwn2 {S T : List ByteArray} {c : Int} {ok : Bool} {w w' : World} {vs vt : Value} (h1 : OwnStr w.heap.size w' vs S) (h2 : OwnStr w.heap.size w' vt T) (hb : Below w.heap.size w w') : RetOwnM2 S T c ok w (.returned (.tuple #[.agg #[vs, vt, .int .i64 c], .bool ok])) w' := ⟨vs, vt, rfl, h1, h2, hb⟩
theorem RetOwnM.row {S T : List ByteArray} {c : Int} {w w' : World} {e : Ending} (h : RetOwnM S T c w e w') : RetRow S T c w e w' := by
  obtain ⟨vs, vt, he, h1, h2, hb⟩ := h
  exact ⟨_, he, ⟨vs, vt, rfl, h1.row, h2.row⟩, hb⟩
theorem RetOwnM2.row {S T : List ByteArray} {c : Int} {ok : Bool} {w w' : World} {e : Ending} (h : RetOwnM2 S T c ok w e w') : RetRow2 S T c ok w e w' := by
  obtain ⟨vs, vt, he, h1, h2, hb⟩ := h
  exact ⟨_, he, ⟨vs, vt, rfl, h1.row, h2.row⟩, hb⟩
def doneB (S T : List ByteArray) (c : Int) : Bool := validB S T c && decide (c = S.length)
set_option maxHeartbeats 1000000 in
theorem done_any (vs vt : Value) (S T : List ByteArray) (c : Int) (w : World) (ha : StrRow w vs S) (hb : StrRow w vt T) (hc : -9223372036854775808 ≤ c ∧ c ≤ 9223372036854775807) : Calls Try.prog 19 #[.agg #[vs, vt, .int .i64 c]] w (Ret w (.bool (doneB S T c))) := by
  have V := fun w ha hb => valid_any vs vt S T c w ha hb hc
  have HA := Lib.hid ha
  have HB := Lib.hid hb
  obtain ⟨ao, ca, rfl, a1, a2, a3⟩ := ha.out
  obtain ⟨bo, cb, rfl, b1, b2, b3⟩ := hb.out
  clear ha hb a3 b3
  unfold doneB
  cases hv : validB S T c
  · rw [hv] at V
    have HV := Lib.hid V; clear V hv
    go_enter Try.func19, Try.ntmps19
    go_wp2_with fail
    refine (HV.out _ (HA.out.below (by repeat (first | with_reducible exact Below.refl _ _ | with_reducible refine Below.drew ?_ | (with_reducible refine Below.alloc ?_ (by first | exact Nat.le_refl _ | omega | (simp only [sizes]; omega)) _) | (with_reducible refine Below.setCell ?_ (by first | exact Nat.le_refl _ | omega | (simp only [sizes]; omega)) _) | (refine Below.trans ?_ (Below.mono (by with_reducible assumption) (by first | exact Nat.le_refl _ | omega | (simp only [sizes]; omega))))))) (HB.out.below (by repeat (first | with_reducible exact Below.refl _ _ | with_reducible refine Below.drew ?_ | (with_reducible refine Below.alloc ?_ (by first | exact Nat.le_refl _ | omega | (simp only [sizes]; omega)) _) | (with_reducible refine Below.setCell ?_ (by first | exact Nat.le_refl _ | omega | (simp only [sizes]; omega)) _) | (refine Below.trans ?_ (Below.mono (by with_reducible assumption) (by first | exact Nat.le_refl _ | omega | (simp only [sizes]; omega)))))))).mono ?_
    rintro e w1 ⟨rfl, hb1⟩
    obtain ⟨hc1, hf1⟩ := bcell hb1
    have hz1 := bsize hb1
    try simp only [sizes1] at hz1
    try simp only [sizes] at hc1 hf1
    go_wp2_with fail
    go_ret
    exact Ret.mk (by repeat (first | with_reducible exact Below.refl _ _ | with_reducible refine Below.drew ?_ | (with_reducible refine Below.alloc ?_ (by first | exact Nat.le_refl _ | omega | (simp only [sizes]; omega)) _) | (with_reducible refine Below.setCell ?_ (by first | exact Nat.le_refl _ | omega | (simp only [sizes]; omega)) _) | (refine Below.trans ?_ (Below.mono (by with_reducible assumption) (by first | exact Nat.le_refl _ | omega | (simp only [sizes]; omega))))))
  · rw [hv] at V
    have HV := Lib.hid V; clear V hv
    obtain ⟨n, hn⟩ : ∃ n, S.length = n := ⟨_, rfl⟩
    rw [hn] at HV HA ⊢
    rw [hn] at a1
    clear hn
    go_enter Try.func19, Try.ntmps19
    go_wp2_with fail
    refine (HV.out _ (HA.out.below (by repeat (first | with_reducible exact Below.refl _ _ | with_reducible refine Below.drew ?_ | (with_reducible refine Below.alloc ?_ (by first | exact Nat.le_refl _ | omega | (simp only [sizes]; omega)) _) | (with_reducible refine Below.setCell ?_ (by first | exact Nat.le_refl _ | omega | (simp only [sizes]; omega)) _) | (refine Below.trans ?_ (Below.mono (by with_reducible assumption) (by first | exact Nat.le_refl _ | omega | (simp only [sizes]; omega))))))) (HB.out.below (by repeat (first | with_reducible exact Below.refl _ _ | with_reducible refine Below.drew ?_ | (with_reducible refine Below.alloc ?_ (by first | exact Nat.le_refl _ | omega | (simp only [sizes]; omega)) _) | (with_reducible refine Below.setCell ?_ (by first | exact Nat.le_refl _ | omega | (simp only [sizes]; omega)) _) | (refine Below.trans ?_ (Below.mono (by with_reducible assumption) (by first | exact Nat.le_refl _ | omega | (simp only [sizes]; omega)))))))).mono ?_
    rintro e w1 ⟨rfl, hb1⟩
    obtain ⟨hc1, hf1⟩ := bcell hb1
    have hz1 := bsize hb1
    try simp only [sizes1] at hz1
    try simp only [sizes] at hc1 hf1
    have D1 := (HasBlock.made w #[.slice ao n ca, .slice bo T.length cb, .int .i64 c] 24).below hb1
    have x0 := (D1.cell 0).trans rfl
    have x1 := (D1.cell 1).trans rfl
    have x2 := (D1.cell 2).trans rfl
    have xf := D1.free
    have xz := D1.lt
    clear hc1 hf1
    go_wp2_with fail
    go_ret
    exact Ret.mk' (congrArg Value.bool (by first | rfl | (rw [Bool.eq_iff_iff]; simp))) (by repeat (first | with_reducible exact Below.refl _ _ | with_reducible refine Below.drew ?_ | (with_reducible refine Below.alloc ?_ (by first | exact Nat.le_refl _ | omega | (simp only [sizes]; omega)) _) | (with_reducible refine Below.setCell ?_ (by first | exact Nat.le_refl _ | omega | (simp only [sizes]; omega)) _) | (refine Below.trans ?_ (Below.mono (by with_reducible assumption) (by first | exact Nat.le_refl _ | omega | (simp only [sizes]; omega))))))
set_option maxHeartbeats 1000000 in
theorem rdone_any (vs vt : Value) (S T : List ByteArray) (c : Int) (w : World) (ha : StrRow w vs S) (hb : StrRow w vt T) (hc : -9223372036854775808 ≤ c ∧ c ≤ 9223372036854775807) : Calls Try.prog 13 #[.agg #[vs, vt, .int .i64 c]] w (Ret w (.bool (doneB S T c))) := by
  have V := fun w ha hb => rvalid_any vs vt S T c w ha hb hc
  have HA := Lib.hid ha
  have HB := Lib.hid hb
  obtain ⟨ao, ca, rfl, a1, a2, a3⟩ := ha.out
  obtain ⟨bo, cb, rfl, b1, b2, b3⟩ := hb.out
  clear ha hb a3 b3
  unfold doneB
  cases hv : validB S T c
  · rw [hv] at V
    have HV := Lib.hid V; clear V hv
    go_enter Try.func13, Try.ntmps13
    go_wp2_with fail
    refine (HV.out _ (HA.out.below (by repeat (first | with_reducible exact Below.refl _ _ | with_reducible refine Below.drew ?_ | (with_reducible refine Below.alloc ?_ (by first | exact Nat.le_refl _ | omega | (simp only [sizes]; omega)) _) | (with_reducible refine Below.setCell ?_ (by first | exact Nat.le_refl _ | omega | (simp only [sizes]; omega)) _) | (refine Below.trans ?_ (Below.mono (by with_reducible assumption) (by first | exact Nat.le_refl _ | omega | (simp only [sizes]; omega))))))) (HB.out.below (by repeat (first | with_reducible exact Below.refl _ _ | with_reducible refine Below.drew ?_ | (with_reducible refine Below.alloc ?_ (by first | exact Nat.le_refl _ | omega | (simp only [sizes]; omega)) _) | (with_reducible refine Below.setCell ?_ (by first | exact Nat.le_refl _ | omega | (simp only [sizes]; omega)) _) | (refine Below.trans ?_ (Below.mono (by with_reducible assumption) (by first | exact Nat.le_refl _ | omega | (simp only [sizes]; omega)))))))).mono ?_
    rintro e w1 ⟨rfl, hb1⟩
    obtain ⟨hc1, hf1⟩ := bcell hb1
    have hz1 := bsize hb1
    try simp only [sizes1] at hz1
    try simp only [sizes] at hc1 hf1
    go_wp2_with fail
    go_ret
    exact Ret.mk (by repeat (first | with_reducible exact Below.refl _ _ | with_reducible refine Below.drew ?_ | (with_reducible refine Below.alloc ?_ (by first | exact Nat.le_refl _ | omega | (simp only [sizes]; omega)) _) | (with_reducible refine Below.setCell ?_ (by first | exact Nat.le_refl _ | omega | (simp only [sizes]; omega)) _) | (refine Below.trans ?_ (Below.mono (by with_reducible assumption) (by first | exact Nat.le_refl _ | omega | (simp only [sizes]; omega))))))
  · rw [hv] at V
    have HV := Lib.hid V; clear V hv
    obtain ⟨n, hn⟩ : ∃ n, S.length = n := ⟨_, rfl⟩
    rw [hn] at HV HA ⊢
    rw [hn] at a1
    clear hn
    go_enter Try.func13, Try.ntmps13
    go_wp2_with fail
    refine (HV.out _ (HA.out.below (by repeat (first | with_reducible exact Below.refl _ _ | with_reducible refine Below.drew ?_ | (with_reducible refine Below.alloc ?_ (by first | exact Nat.le_refl _ | omega | (simp only [sizes]; omega)) _) | (with_reducible refine Below.setCell ?_ (by first | exact Nat.le_refl _ | omega | (simp only [sizes]; omega)) _) | (refine Below.trans ?_ (Below.mono (by with_reducible assumption) (by first | exact Nat.le_refl _ | omega | (simp only [sizes]; omega))))))) (HB.out.below (by repeat (first | with_reducible exact Below.refl _ _ | with_reducible refine Below.drew ?_ | (with_reducible refine Below.alloc ?_ (by first | exact Nat.le_refl _ | omega | (simp only [sizes]; omega)) _) | (with_reducible refine Below.setCell ?_ (by first | exact Nat.le_refl _ | omega | (simp only [sizes]; omega)) _) | (refine Below.trans ?_ (Below.mono (by with_reducible assumption) (by first | exact Nat.le_refl _ | omega | (simp only [sizes]; omega)))))))).mono ?_
    rintro e w1 ⟨rfl, hb1⟩
    obtain ⟨hc1, hf1⟩ := bcell hb1
    have hz1 := bsize hb1
    try simp only [sizes1] at hz1
    try simp only [sizes] at hc1 hf1
    have D1 := (HasBlock.made w #[.slice ao n ca, .slice bo T.length cb, .int .i64 c] 24).below hb1
    have x0 := (D1.cell 0).trans rfl
    have x1 := (D1.cell 1).trans rfl
    have x2 := (D1.cell 2).trans rfl
    have xf := D1.free
    have xz := D1.lt
    clear hc1 hf1
    go_wp2_with fail
    go_ret
    exact Ret.mk' (congrArg Value.bool (by first | rfl | (rw [Bool.eq_iff_iff]; simp))) (by repeat (first | with_reducible exact Below.refl _ _ | with_reducible refine Below.drew ?_ | (with_reducible refine Below.alloc ?_ (by first | exact Nat.le_refl _ | omega | (simp only [sizes]; omega)) _) | (with_reducible refine Below.setCell ?_ (by first | exact Nat.le_refl _ | omega | (simp only [sizes]; omega)) _) | (refine Below.trans ?_ (Below.mono (by with_reducible assumption) (by first | exact Nat.le_refl _ | omega | (simp only [sizes]; omega))))))
theorem validB_len {S T : List ByteArray} {c : Int} (h : validB S T c = true) : 1 ≤ S.length ∧ S.length ≤ 64 ∧ T.length = S.length ∧ 0 ≤ c ∧ c ≤ S.length := by
  unfold validB headB at h
  rw [Bool.and_eq_true, decide_eq_true_eq] at h
  exact h.1
theorem doneB_len {S T : List ByteArray} {c : Int} (h : doneB S T c = true) : 1 ≤ S.length ∧ S.length ≤ 64 ∧ T.length = S.length := by
  unfold doneB at h
  rw [Bool.and_eq_true] at h
  have := validB_len h.1
  exact ⟨this.1, this.2.1, this.2.2.1⟩
def RetSwitch (T : List ByteArray) (ok : Bool) (w : World) (e : Ending) (w' : World) : Prop := ∃ v, e = .returned (.tuple #[v, .bool ok]) ∧ StrRow w' v (if ok then T else []) ∧ Below w.heap.size w w'
set_option maxHeartbeats 1000000 in
theorem switch_any (vs vt : Value) (S T : List ByteArray) (c : Int) (w : World) (ha : StrRow w vs S) (hb : StrRow w vt T) (hc : -9223372036854775808 ≤ c ∧ c ≤ 9223372036854775807) : Calls Try.prog 12 #[.agg #[vs, vt, .int .i64 c]] w (RetSwitch T (doneB S T c) w) := by
  have V := fun w ha hb => done_any vs vt S T c w ha hb hc
  have hl := fun h => doneB_len (S := S) (T := T) (c := c) h
  have HA := Lib.hid ha
  have HB := Lib.hid hb
  obtain ⟨ao, ca, rfl, a1, a2, a3⟩ := ha.out
  obtain ⟨bo, cb, rfl, b1, b2, b3⟩ := hb.out
  clear ha hb a3 b3
  cases hv : doneB S T c
  · rw [hv] at V
    have HV := Lib.hid V; clear V hv hl
    go_enter Try.func12, Try.ntmps12
    go_wp2_with fail
    refine (HV.out _ (HA.out.below (by repeat (first | with_reducible exact Below.refl _ _ | with_reducible refine Below.drew ?_ | (with_reducible refine Below.alloc ?_ (by first | exact Nat.le_refl _ | omega | (simp only [sizes]; omega)) _) | (with_reducible refine Below.setCell ?_ (by first | exact Nat.le_refl _ | omega | (simp only [sizes]; omega)) _) | (refine Below.trans ?_ (Below.mono (by with_reducible assumption) (by first | exact Nat.le_refl _ | omega | (simp only [sizes]; omega))))))) (HB.out.below (by repeat (first | with_reducible exact Below.refl _ _ | with_reducible refine Below.drew ?_ | (with_reducible refine Below.alloc ?_ (by first | exact Nat.le_refl _ | omega | (simp only [sizes]; omega)) _) | (with_reducible refine Below.setCell ?_ (by first | exact Nat.le_refl _ | omega | (simp only [sizes]; omega)) _) | (refine Below.trans ?_ (Below.mono (by with_reducible assumption) (by first | exact Nat.le_refl _ | omega | (simp only [sizes]; omega)))))))).mono ?_
    rintro e w1 ⟨rfl, hb1⟩
    obtain ⟨hc1, hf1⟩ := bcell hb1
    have hz1 := bsize hb1
    try simp only [sizes1] at hz1
    try simp only [sizes] at hc1 hf1
    go_wp2_with fail
    go_ret2
    exact ⟨_, rfl, RowAt.nil _, (by repeat (first | with_reducible exact Below.refl _ _ | with_reducible refine Below.drew ?_ | (with_reducible refine Below.alloc ?_ (by first | exact Nat.le_refl _ | omega | (simp only [sizes]; omega)) _) | (with_reducible refine Below.setCell ?_ (by first | exact Nat.le_refl _ | omega | (simp only [sizes]; omega)) _) | (refine Below.trans ?_ (Below.mono (by with_reducible assumption) (by first | exact Nat.le_refl _ | omega | (simp only [sizes]; omega))))))⟩
  · rw [hv] at V
    have hl2 : T.length ≤ 64 := by have := hl hv; omega
    have HV := Lib.hid V; clear V hv hl
    go_enter Try.func12, Try.ntmps12
    go_wp2_with fail
    refine (HV.out _ (HA.out.below (by repeat (first | with_reducible exact Below.refl _ _ | with_reducible refine Below.drew ?_ | (with_reducible refine Below.alloc ?_ (by first | exact Nat.le_refl _ | omega | (simp only [sizes]; omega)) _) | (with_reducible refine Below.setCell ?_ (by first | exact Nat.le_refl _ | omega | (simp only [sizes]; omega)) _) | (refine Below.trans ?_ (Below.mono (by with_reducible assumption) (by first | exact Nat.le_refl _ | omega | (simp only [sizes]; omega))))))) (HB.out.below (by repeat (first | with_reducible exact Below.refl _ _ | with_reducible refine Below.drew ?_ | (with_reducible refine Below.alloc ?_ (by first | exact Nat.le_refl _ | omega | (simp only [sizes]; omega)) _) | (with_reducible refine Below.setCell ?_ (by first | exact Nat.le_refl _ | omega | (simp only [sizes]; omega)) _) | (refine Below.trans ?_ (Below.mono (by with_reducible assumption) (by first | exact Nat.le_refl _ | omega | (simp only [sizes]; omega)))))))).mono ?_
    rintro e w1 ⟨rfl, hb1⟩
    obtain ⟨hc1, hf1⟩ := bcell hb1
    have hz1 := bsize hb1
    try simp only [sizes1] at hz1
    try simp only [sizes] at hc1 hf1
    have D1 := (HasBlock.made w #[.slice ao S.length ca, .slice bo T.length cb, .int .i64 c] 24).below hb1
    have x0 := (D1.cell 0).trans rfl
    have x1 := (D1.cell 1).trans rfl
    have x2 := (D1.cell 2).trans rfl
    have xf := D1.free
    have xz := D1.lt
    clear hc1 hf1
    have hbw1 : Below w.heap.size w w1 := (by repeat (first | with_reducible exact Below.refl _ _ | with_reducible refine Below.drew ?_ | (with_reducible refine Below.alloc ?_ (by first | exact Nat.le_refl _ | omega | (simp only [sizes]; omega)) _) | (with_reducible refine Below.setCell ?_ (by first | exact Nat.le_refl _ | omega | (simp only [sizes]; omega)) _) | (refine Below.trans ?_ (Below.mono (by with_reducible assumption) (by first | exact Nat.le_refl _ | omega | (simp only [sizes]; omega))))))
    go_wp2_with fail
    refine (clone_str _ T _ (HB.out.below hbw1) (by omega)).mono ?_
    rintro e w2 ⟨v2, rfl, ho2, hb2⟩
    have hbw2 : Below w.heap.size w w2 := hbw1.trans (hb2.mono hbw1.size)
    have HR2 := Lib.hid ho2.row
    obtain ⟨o2, k2, rfl, _, _⟩ := ho2.form
    clear ho2 hb2 hbw1
    go_wp2_with fail
    go_ret2
    exact ⟨_, rfl, HR2.out, hbw2⟩
end Go.Proofs.Ytfomfokgibijjaa
