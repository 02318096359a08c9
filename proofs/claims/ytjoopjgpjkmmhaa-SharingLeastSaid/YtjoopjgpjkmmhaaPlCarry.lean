/-
  Boxes and pools through stores; the pools of the laws. Nothing of the program is walked.
-/
import Derived.Test.YtjoopjgpjkmmhaaPlKeep3
import Derived.Test.YtjoopjgpjkmmhaaPlCount
import Derived.Test.YtjoopjgpjkmmhaaPlText
namespace Go.Proofs.Ytjoopjgpjkmmhaa
open Go.RowKit

theorem Below.alloc' {B : Nat} {a w : World} (h : Below B a w) (hB : B ≤ a.heap.size) (o : Obj) : Below B a (w.alloc o) := h.alloc (Nat.le_trans hB h.size) o
theorem HasBlock.made' {w : World} {cs : Array Value} {T : TypeId} {b : Nat} (hb : b = w.heap.size) : HasBlock (w.alloc (.cells cs T)) b cs T := by subst hb; exact HasBlock.made w cs T
theorem HasBlock.fill3 {w : World} {b : Nat} {T : TypeId} {y0 y1 y2 : Value} (h : HasBlock w b #[.slice none 0 0, .slice none 0 0, .slice none 0 0] T) : HasBlock (((w.setCell ⟨b, 0, none⟩ y0).setCell ⟨b, 1, none⟩ y1).setCell ⟨b, 2, none⟩ y2) b #[y0, y1, y2] T := ((h.put3_0 y0).put3_1 y1).put3_2 y2
theorem HasBlock.fill {w : World} {b : Nat} {T : TypeId} {x0 x1 x2 : Value} (h : HasBlock w b #[x0, x1, x2] T) (y0 y1 y2 : Value) : HasBlock (((w.setCell ⟨b, 0, none⟩ y0).setCell ⟨b, 1, none⟩ y1).setCell ⟨b, 2, none⟩ y2) b #[y0, y1, y2] T := ((h.put3_0 y0).put3_1 y1).put3_2 y2
theorem HasBlock.fill_ne {w : World} {b b' : Nat} {cs : Array Value} {T : TypeId} (h : HasBlock w b cs T) (hne : b ≠ b') (y0 y1 y2 : Value) : HasBlock (((w.setCell ⟨b', 0, none⟩ y0).setCell ⟨b', 1, none⟩ y1).setCell ⟨b', 2, none⟩ y2) b cs T := ((h.set_ne hne y0).set_ne hne y1).set_ne hne y2
theorem OwnP.fill {base B : Nat} {w : World} {vf vr vm : Value} {us : List Value} {P : Pl} {x0 x1 x2 : Value} {T : TypeId} (h : OwnP base w vf vr vm us P) (hB : HasBlock w B #[x0, x1, x2] T) (h1 : T ≠ 9) (h2 : T ≠ 3) (h3 : T ≠ 23) (y0 y1 y2 : Value) : OwnP base (((w.setCell ⟨B, 0, none⟩ y0).setCell ⟨B, 1, none⟩ y1).setCell ⟨B, 2, none⟩ y2) vf vr vm us P :=
  ((h.setbox hB h1 h2 h3 y0).setbox (hB.put3_0 y0) h1 h2 h3 y1).setbox ((hB.put3_0 y0).put3_1 y1) h1 h2 h3 y2
theorem Pl.Ok.hok {P : Pl} (H : P.Ok) : P.ok = true := Pl.ok_iff.2 H
theorem Pl.Shared.trans {P Q S : Pl} (h : P.Shared Q) (h' : Q.Shared S) : P.Shared S := ⟨h'.ok, h.al.trans h'.al, fun a b hab => (h'.text a b ((h.al.at a b).2 hab)).trans (h.text a b hab)⟩
end Go.Proofs.Ytjoopjgpjkmmhaa
