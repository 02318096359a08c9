/-
  A pool copied, in the reference: walked.
-/
import Derived.Test.YtjoopjgpjkmmhaaPlWrite
import Derived.Deep.RegionHeld3
namespace Go.Proofs.Ytjoopjgpjkmmhaa
open Go.RowKit

theorem Below.alloc' {B : Nat} {a w : World} (h : Below B a w) (hB : B ≤ a.heap.size) (o : Obj) : Below B a (w.alloc o) := h.alloc (Nat.le_trans hB h.size) o
theorem own_empty {w : World} {base g : Nat} {e : TypeId} {size : Nat} (h : HasBlock w g #[] e) (hb : base ≤ g) : w.ownsRow base e size (.slice (some ⟨g, 0, none⟩) 0 0) 0 [] :=
  ⟨by simp, .inr ⟨g, 0, #[], rfl, hb, h, Nat.le_refl _, Nat.zero_le _, by simp, by simp⟩⟩
theorem HasBlock.made' {w : World} {cs : Array Value} {T : TypeId} {b : Nat} (hb : b = w.heap.size) : HasBlock (w.alloc (.cells cs T)) b cs T := by subst hb; exact HasBlock.made w cs T
theorem map_one {α : Type} {enc : α → Value} (h : ∀ x, (enc x).oneCell' = true) (xs : List α) : ∀ u ∈ xs.map enc, u.oneCell' = true := by
  intro u hu
  rw [List.mem_map] at hu
  obtain ⟨x, _, rfl⟩ := hu
  exact h x
theorem own_over {base B : Nat} {e : TypeId} {size n : Nat} {w : World} {v : Value} {xs : List Value} (h : w.ownsRow base e size v n xs) (hB : w.heap.size ≤ B) : v.ownBlock ≠ some B := fun e => by
  have := (h.lt B e).2
  omega
theorem OwnEnc.drew {α : Type} {enc : α → Value} {e : TypeId} {base : Nat} {w : World} {v : Value} {xs : List α} (h : OwnEnc enc e base w v xs) : OwnEnc enc e base w.drew v xs := h.below (Below.drew (Below.refl _ _))
theorem HasBlock.fill3 {w : World} {b : Nat} {T : TypeId} {y0 y1 y2 : Value} (h : HasBlock w b #[.slice none 0 0, .slice none 0 0, .slice none 0 0] T) : HasBlock (((w.setCell ⟨b, 0, none⟩ y0).setCell ⟨b, 1, none⟩ y1).setCell ⟨b, 2, none⟩ y2) b #[y0, y1, y2] T := ((h.put3_0 y0).put3_1 y1).put3_2 y2
theorem HasBlock.grow {w w2 : World} {g b : Nat} {cs : Array Value} {T e : TypeId} (hg : w.grownBy w2 (Value.slice (some ⟨g, 0, none⟩) 0 0).ownBlock) (hE : HasBlock w g #[] e) (h : HasBlock w b cs T) (hne : T ≠ e) : HasBlock w2 b cs T := by
  refine (hg.block b h.lt (fun e' => ?_)).trans h
  injection e' with e'
  subst e'
  unfold HasBlock at h hE
  rw [hE] at h
  injection h with h
  injection h with _ h
  exact hne h.symm
theorem OwnEnc.grow {α : Type} {enc : α → Value} {e e' : TypeId} {base g : Nat} {w w2 : World} {v : Value} {xs : List α} (hg : w.grownBy w2 (Value.slice (some ⟨g, 0, none⟩) 0 0).ownBlock) (hE : HasBlock w g #[] e') (h : OwnEnc enc e base w v xs) (hne : e' ≠ e) : OwnEnc enc e base w2 v xs := by
  refine h.kept hg (fun k hk e'' => ?_)
  injection e'' with e''
  subst e''
  exact own_off h hE hne hk
theorem Below.grow {base : Nat} {a w w2 : World} {g : Nat} (h : Below base a w) (hg : w.grownBy w2 (Value.slice (some ⟨g, 0, none⟩) 0 0).ownBlock) (hb : base ≤ w.heap.size) (hgb : base ≤ g) : Below base a w2 := h.grown hg hb (fun k hk => by have e : g = k := Option.some.inj hk; omega)
theorem grow_cell {w w2 : World} {g : Nat} (hg : w.grownBy w2 (Value.slice (some ⟨g, 0, none⟩) 0 0).ownBlock) : (∀ b o, b < w.heap.size → b ≠ g → w2.cell? ⟨b, o, none⟩ = w.cell? ⟨b, o, none⟩) ∧ (∀ b o, b < w.heap.size → b ≠ g → w2.frozen? ⟨b, o, none⟩ = w.frozen? ⟨b, o, none⟩) := by
  have h : ∀ b, b < w.heap.size → b ≠ g → w2.heap[b]? = w.heap[b]? := fun b hb hne => hg.block b hb (fun e => hne (Option.some.inj e))
  exact ⟨fun b o hb hne => World.cell?_of_block (a := ⟨b, o, none⟩) (h b hb hne), fun b o hb hne => World.frozen?_of_block (a := ⟨b, o, none⟩) (h b hb hne)⟩
/-- What the pool's literal leaves. -/
def OwnAt (w0 : World) (n r : Nat) (P : Pl) (bx : Array Value) (v : Value) (wx : World) : Prop := ∃ (B kf kr : Nat) (of or' : Option Addr), v = .pointer (some ⟨B, 0, none⟩) ∧ w0.heap.size + 1 < B ∧ HasBlock wx B #[.slice of n kf, .slice or' r kr, .slice none 0 0] 26 ∧ OwnStr (w0.heap.size + 1 + 1) wx (.slice of n kf) P.F ∧ OwnNum (w0.heap.size + 1 + 1) wx (.slice or' r kr) P.R ∧
  HasBlock wx w0.heap.size bx 26 ∧ HasBlock wx (w0.heap.size + 1) #[.slice none 0 0, .slice none 0 0, .slice none 0 0] 26 ∧ Below w0.heap.size w0 wx
set_option maxRecDepth 100000 in
set_option maxHeartbeats 8000000 in
theorem rown_any (v : Value) (P : Pl) (w : World) (h : PlRow w v P) (H : P.Ok) : Calls Try.prog 39 #[v] w (RetPool P w) := by
  obtain ⟨of, or', om, kf, kr, km, rfl, kf1, kf2, kr1, kr2, km1, km2⟩ := h.form
  obtain ⟨n, hn⟩ : ∃ n, P.F.length = n := ⟨_, rfl⟩
  obtain ⟨r, hr⟩ : ∃ n, P.R.length = n := ⟨_, rfl⟩
  obtain ⟨m, hm⟩ : ∃ n, P.M.length = n := ⟨_, rfl⟩
  rw [hn] at h kf1 ⊢
  rw [hr] at h kr1 ⊢
  rw [hm] at h km1 ⊢
  have HN := Lib.hid hn; clear hn
  have HR := Lib.hid hr; clear hr
  have HM := Lib.hid hm; clear hm
  have hn1 := H.n1
  have hn2 := H.n2
  have hr1 := H.r
  have hm8 := H.m
  rw [HN.out] at hn1 hn2 hr1
  rw [HR.out] at hr1
  have hrn : 1 ≤ r ∧ r ≤ 96 := by omega
  rw [HM.out] at hm8
  clear hr1
  obtain ⟨s0, hs0⟩ := get_lt (xs := P.F) (k := 0) (by rw [HN.out]; omega)
  obtain ⟨x0, hx0⟩ := get_lt (xs := P.R) (k := 0) (by rw [HR.out]; omega)
  obtain ⟨fb, foff, rfl, hfb, _⟩ := h.parts.1.elem hs0
  obtain ⟨rb, roff, rfl, hrb, _⟩ := h.parts.2.1.elem hx0
  clear hs0 hx0
  have hP := h.parts
  have HF := Lib.hid hP.1
  have HI := Lib.hid hP.2.1
  have HMR := Lib.hid hP.2.2
  clear hP
  obtain ⟨i0, hi0, iz0, iz1, iz2⟩ := info_parts info_str
  obtain ⟨j0, hj0, jz0, jz1, jz2⟩ := info_parts info_int
  have D1 := (HasBlock.made w #[.slice (some ⟨fb, foff, none⟩) n kf, .slice (some ⟨rb, roff, none⟩) r kr, .slice om m km] 26).alloc (.cells #[.slice none 0 0, .slice none 0 0, .slice none 0 0] 26)
  have D2 := HasBlock.made (w.alloc (.cells #[.slice (some ⟨fb, foff, none⟩) n kf, .slice (some ⟨rb, roff, none⟩) r kr, .slice om m km] 26)) #[.slice none 0 0, .slice none 0 0, .slice none 0 0] 26
  have hbw : Below w.heap.size w ((w.alloc (.cells #[.slice (some ⟨fb, foff, none⟩) n kf, .slice (some ⟨rb, roff, none⟩) r kr, .slice om m km] 26)).alloc (.cells #[.slice none 0 0, .slice none 0 0, .slice none 0 0] 26)) := (by repeat (first | with_reducible exact Below.refl _ _ | with_reducible refine Below.drew ?_ | (with_reducible refine Below.alloc ?_ (by first | exact Nat.le_refl _ | omega | (dsimp only; omega) | (simp only [sizes]; omega)) _) | (with_reducible refine Below.setCell ?_ (by first | exact Nat.le_refl _ | omega | (dsimp only; omega) | (simp only [sizes]; omega)) _) | (refine Below.trans ?_ (Below.mono (by with_reducible assumption) (by first | exact Nat.le_refl _ | omega | (dsimp only; omega) | (simp only [sizes]; omega))))))
  have hz : w.heap.size + 1 + 1 ≤ ((w.alloc (.cells #[.slice (some ⟨fb, foff, none⟩) n kf, .slice (some ⟨rb, roff, none⟩) r kr, .slice om m km] 26)).alloc (.cells #[.slice none 0 0, .slice none 0 0, .slice none 0 0] 26)).heap.size := by simp only [sizes]; omega
  simp only [sizes] at D2
  clear h
  go_enter Try.func39, Try.ntmps39
  go_upto_region 1 with (fail)
  generalize hW : (w.alloc (.cells #[.slice (some ⟨fb, foff, none⟩) n kf, .slice (some ⟨rb, roff, none⟩) r kr, .slice om m km] 26)).alloc (.cells #[.slice none 0 0, .slice none 0 0, .slice none 0 0] 26) = w1 at D1 D2 hbw hz ⊢
  clear hW
  go_cut [3] from 5 to 13 (fun v wx => OwnAt w n r P #[.slice (some ⟨fb, foff, none⟩) n kf, .slice (some ⟨rb, roff, none⟩) r kr, .slice om m km] v wx)
  case first =>
    obtain ⟨D1_c, D1_f, D1_z⟩ := D1.all
    obtain ⟨D2_c, D2_f, D2_z⟩ := D2.all
    have hy1 : w1.heap.size + 1 ≠ w1.heap.size := by omega
    have hy2 : w1.heap.size + 1 + 1 ≠ w1.heap.size := by omega
    have hy3 : w1.heap.size + 1 + 1 ≠ w1.heap.size + 1 := by omega
    have hy4 : w1.heap.size ≠ w1.heap.size + 1 := by omega
    have hy5 : w1.heap.size ≠ w1.heap.size + 1 + 1 := by omega
    have hy6 : w1.heap.size + 1 ≠ w1.heap.size + 1 + 1 := by omega
    have hrule : ∀ w' : World, Below w1.heap.size w1 w' → ∀ b o, b < w1.heap.size → w'.cell? ⟨b, o, none⟩ = w1.cell? ⟨b, o, none⟩ := fun w' h b o hlt => h.cell (p := ⟨b, o, none⟩) hlt
    go_region_held3 (fun w' => Below w1.heap.size w1 w') (repeat (first | with_reducible assumption | with_reducible exact Below.refl _ _ | (with_reducible refine Below.drew ?_) | (with_reducible refine Below.alloc' ?_ (Nat.le_refl _) _) | (with_reducible refine Below.setCell ?_ (by first | exact rfl | exact Nat.le_refl _ | omega | (dsimp only; omega) | (simp only [sizes]; done) | (simp only [sizes]; omega)) _) | (refine Below.trans ?_ (by with_reducible assumption)))) ((first
      |
       (refine step_append_own rfl (.tmp 5) (.tmp 7) 22 rfl w1.heap.size 9 i0 (.string ⟨#[]⟩) 1 16 Try.underlying22 hi0 iz0 iz1 iz2 rfl (by decide) _ 0 [] rfl (own_empty ?_ (by first | exact rfl | exact Nat.le_refl _ | omega | (dsimp only; omega) | (simp only [sizes]; done) | (simp only [sizes]; omega))) ⟨fb, foff, none⟩ n kf (P.F.map Value.string) rfl ?_ ?_ (map_one (fun _ => rfl) _) ?_ ?_ (by first | exact rfl | exact Nat.le_refl _ | omega | (dsimp only; omega) | (simp only [sizes]; done) | (simp only [sizes]; omega)) ?_
        · (repeat' (first | with_reducible assumption | (with_reducible refine HasBlock.drew ?_) | (with_reducible refine HasBlock.made' (by first | exact rfl | exact Nat.le_refl _ | omega | (dsimp only; omega) | (simp only [sizes]; done) | (simp only [sizes]; omega))) | (with_reducible refine HasBlock.alloc ?_ _) | (with_reducible refine HasBlock.fill3 ?_) | (with_reducible refine HasBlock.set_ne ?_ (by first | exact rfl | exact Nat.le_refl _ | omega | (dsimp only; omega) | (simp only [sizes]; done) | (simp only [sizes]; omega)) _) | (with_reducible refine HasBlock.grow (e := 9) hgrow8 ?_ ?_ (by decide)) | (with_reducible refine HasBlock.grow (e := 3) hgrow9 ?_ ?_ (by decide))))
        · rw [List.length_map, HN.out, Nat.mul_one]
        · exact fun j u hj => EncRow.cells' (HF.out.below (hbw.trans (Below.mono (by (repeat (first | with_reducible assumption | with_reducible exact Below.refl _ _ | (with_reducible refine Below.drew ?_) | (with_reducible refine Below.alloc' ?_ (Nat.le_refl _) _) | (with_reducible refine Below.setCell ?_ (by first | exact rfl | exact Nat.le_refl _ | omega | (dsimp only; omega) | (simp only [sizes]; done) | (simp only [sizes]; omega)) _) | (refine Below.trans ?_ (by with_reducible assumption))))) hbw.size))) j u hj
        · unfold maxLen; omega
        · omega
        intro v8 w8 hown8 hgrow8 _
        have hb8 : Below w1.heap.size w1 w8 := Below.grow (by (repeat (first | with_reducible assumption | with_reducible exact Below.refl _ _ | (with_reducible refine Below.drew ?_) | (with_reducible refine Below.alloc' ?_ (Nat.le_refl _) _) | (with_reducible refine Below.setCell ?_ (by first | exact rfl | exact Nat.le_refl _ | omega | (dsimp only; omega) | (simp only [sizes]; done) | (simp only [sizes]; omega)) _) | (refine Below.trans ?_ (by with_reducible assumption))))) hgrow8 (by first | exact rfl | exact Nat.le_refl _ | omega | (dsimp only; omega) | (simp only [sizes]; done) | (simp only [sizes]; omega)) (by first | exact rfl | exact Nat.le_refl _ | omega | (dsimp only; omega) | (simp only [sizes]; done) | (simp only [sizes]; omega))
        obtain ⟨o8, c8, rfl, _, _⟩ := own_form' hown8
        have O8 : OwnStr w1.heap.size w8 _ P.F := (show World.ownsRow _ _ _ _ _ _ _ from (by rw [HN.out]; simpa using hown8))
        have hz8 := hgrow8.size
        (try simp only [sizes1] at hz8)
        (try have hv8c : w1.heap.size < w8.heap.size + 1 := by omega)
        (try have hv8d : w1.heap.size + 1 < w8.heap.size + 1 := by omega)
        (try have hv8e : w1.heap.size + 1 + 1 < w8.heap.size := by omega)
        (try have hv8f : w1.heap.size + 1 + 1 < w8.heap.size + 1 := by omega)
        (try have hx8d : w1.heap.size ≠ w8.heap.size := by omega)
        (try have hx8e : w1.heap.size + 1 ≠ w8.heap.size := by omega)
        (try have hx8f : w1.heap.size + 1 + 1 ≠ w8.heap.size := by omega)
        (try have hv8a : w1.heap.size < w8.heap.size := by omega)
        (try have hv8b : w1.heap.size + 1 < w8.heap.size := by omega)
        (try have hx8a : w8.heap.size ≠ w1.heap.size := by omega)
        (try have hx8b : w8.heap.size ≠ w1.heap.size + 1 := by omega)
        (try have hx8c : w8.heap.size ≠ w1.heap.size + 1 + 1 := by omega)
        obtain ⟨hc8, hf8⟩ := grow_cell hgrow8
        (try simp only [sizes.1] at hc8 hf8)
        clear hown8)
      |
       (refine step_append_own rfl (.tmp 9) (.tmp 11) 23 rfl w1.heap.size 3 j0 (.int .i64 0) 1 8 Try.underlying23 hj0 jz0 jz1 jz2 rfl (by decide) _ 0 [] rfl (own_empty ?_ (by first | exact rfl | exact Nat.le_refl _ | omega | (dsimp only; omega) | (simp only [sizes]; done) | (simp only [sizes]; omega))) ⟨rb, roff, none⟩ r kr (P.R.map (Value.int .i64)) rfl ?_ ?_ (map_one (fun _ => rfl) _) ?_ ?_ (by first | exact rfl | exact Nat.le_refl _ | omega | (dsimp only; omega) | (simp only [sizes]; done) | (simp only [sizes]; omega)) ?_
        · (repeat' (first | with_reducible assumption | (with_reducible refine HasBlock.drew ?_) | (with_reducible refine HasBlock.made' (by first | exact rfl | exact Nat.le_refl _ | omega | (dsimp only; omega) | (simp only [sizes]; done) | (simp only [sizes]; omega))) | (with_reducible refine HasBlock.alloc ?_ _) | (with_reducible refine HasBlock.fill3 ?_) | (with_reducible refine HasBlock.set_ne ?_ (by first | exact rfl | exact Nat.le_refl _ | omega | (dsimp only; omega) | (simp only [sizes]; done) | (simp only [sizes]; omega)) _) | (with_reducible refine HasBlock.grow (e := 9) hgrow8 ?_ ?_ (by decide)) | (with_reducible refine HasBlock.grow (e := 3) hgrow9 ?_ ?_ (by decide))))
        · rw [List.length_map, HR.out, Nat.mul_one]
        · exact fun j u hj => EncRow.cells' (HI.out.below (hbw.trans (Below.mono (by (repeat (first | with_reducible assumption | with_reducible exact Below.refl _ _ | (with_reducible refine Below.drew ?_) | (with_reducible refine Below.alloc' ?_ (Nat.le_refl _) _) | (with_reducible refine Below.setCell ?_ (by first | exact rfl | exact Nat.le_refl _ | omega | (dsimp only; omega) | (simp only [sizes]; done) | (simp only [sizes]; omega)) _) | (refine Below.trans ?_ (by with_reducible assumption))))) hbw.size))) j u hj
        · unfold maxLen; omega
        · omega
        intro v9 w9 hown9 hgrow9 _
        have hb9 : Below w1.heap.size w1 w9 := Below.grow (by (repeat (first | with_reducible assumption | with_reducible exact Below.refl _ _ | (with_reducible refine Below.drew ?_) | (with_reducible refine Below.alloc' ?_ (Nat.le_refl _) _) | (with_reducible refine Below.setCell ?_ (by first | exact rfl | exact Nat.le_refl _ | omega | (dsimp only; omega) | (simp only [sizes]; done) | (simp only [sizes]; omega)) _) | (refine Below.trans ?_ (by with_reducible assumption))))) hgrow9 (by first | exact rfl | exact Nat.le_refl _ | omega | (dsimp only; omega) | (simp only [sizes]; done) | (simp only [sizes]; omega)) (by first | exact rfl | exact Nat.le_refl _ | omega | (dsimp only; omega) | (simp only [sizes]; done) | (simp only [sizes]; omega))
        obtain ⟨o9, c9, rfl, _, _⟩ := own_form' hown9
        have O9 : OwnNum w1.heap.size w9 _ P.R := (show World.ownsRow _ _ _ _ _ _ _ from (by rw [HR.out]; simpa using hown9))
        have hz9 := hgrow9.size
        (try simp only [sizes1] at hz9)
        (try have hv9c : w1.heap.size < w9.heap.size + 1 := by omega)
        (try have hv9d : w1.heap.size + 1 < w9.heap.size + 1 := by omega)
        (try have hv9e : w1.heap.size + 1 + 1 < w9.heap.size := by omega)
        (try have hv9f : w1.heap.size + 1 + 1 < w9.heap.size + 1 := by omega)
        (try have hx9d : w1.heap.size ≠ w9.heap.size := by omega)
        (try have hx9e : w1.heap.size + 1 ≠ w9.heap.size := by omega)
        (try have hx9f : w1.heap.size + 1 + 1 ≠ w9.heap.size := by omega)
        (try have hv9a : w1.heap.size < w9.heap.size := by omega)
        (try have hv9b : w1.heap.size + 1 < w9.heap.size := by omega)
        (try have hx9a : w9.heap.size ≠ w1.heap.size := by omega)
        (try have hx9b : w9.heap.size ≠ w1.heap.size + 1 := by omega)
        (try have hx9c : w9.heap.size ≠ w1.heap.size + 1 + 1 := by omega)
        obtain ⟨hc9, hf9⟩ := grow_cell hgrow9
        (try simp only [sizes.1] at hc9 hf9)
        clear hown9)))
    all_goals
      go_wp2_with fail
      go_meet
      refine ⟨_, c8, c9, o8, o9, rfl, (by first | exact rfl | exact Nat.le_refl _ | omega | (dsimp only; omega) | (simp only [sizes]; done) | (simp only [sizes]; omega)), ?h3, ?h4, ?h5, ?h6, ?h7, ?h8⟩
      case h3 => (repeat' (first | with_reducible assumption | (with_reducible refine HasBlock.drew ?_) | (with_reducible refine HasBlock.made' (by first | exact rfl | exact Nat.le_refl _ | omega | (dsimp only; omega) | (simp only [sizes]; done) | (simp only [sizes]; omega))) | (with_reducible refine HasBlock.alloc ?_ _) | (with_reducible refine HasBlock.fill3 ?_) | (with_reducible refine HasBlock.set_ne ?_ (by first | exact rfl | exact Nat.le_refl _ | omega | (dsimp only; omega) | (simp only [sizes]; done) | (simp only [sizes]; omega)) _) | (with_reducible refine HasBlock.grow (e := 9) hgrow8 ?_ ?_ (by decide)) | (with_reducible refine HasBlock.grow (e := 3) hgrow9 ?_ ?_ (by decide))))
      case h4 => (refine OwnEnc.lower (base := w1.heap.size) ?_ hz; repeat' (first | with_reducible assumption | (with_reducible refine OwnEnc.drew ?_) | (with_reducible refine OwnEnc.alloc ?_ _) | (with_reducible refine OwnEnc.setoff ?_ ?_ _) | (with_reducible refine own_over (OwnEnc.raw O8) (by first | exact rfl | exact Nat.le_refl _ | omega | (dsimp only; omega) | (simp only [sizes]; done) | (simp only [sizes]; omega))) | (with_reducible refine own_off (cs := #[.slice none 0 0, .slice none 0 0, .slice none 0 0]) (T := 26) (OwnEnc.raw O8) ?_ (by decide)) | (with_reducible refine OwnEnc.grow (e' := 9) hgrow8 ?_ ?_ (by decide)) | (with_reducible refine OwnEnc.grow (e' := 3) hgrow9 ?_ ?_ (by decide)) | (with_reducible refine HasBlock.drew ?_) | (with_reducible refine HasBlock.made' (by first | exact rfl | exact Nat.le_refl _ | omega | (dsimp only; omega) | (simp only [sizes]; done) | (simp only [sizes]; omega))) | (with_reducible refine HasBlock.alloc ?_ _) | (with_reducible refine HasBlock.grow (e := 9) hgrow8 ?_ ?_ (by decide)) | (with_reducible refine HasBlock.grow (e := 3) hgrow9 ?_ ?_ (by decide))))
      case h5 => (refine OwnEnc.lower (base := w1.heap.size) ?_ hz; repeat' (first | with_reducible assumption | (with_reducible refine OwnEnc.drew ?_) | (with_reducible refine OwnEnc.alloc ?_ _) | (with_reducible refine OwnEnc.setoff ?_ ?_ _) | (with_reducible refine own_over (OwnEnc.raw O9) (by first | exact rfl | exact Nat.le_refl _ | omega | (dsimp only; omega) | (simp only [sizes]; done) | (simp only [sizes]; omega))) | (with_reducible refine own_off (cs := #[.slice none 0 0, .slice none 0 0, .slice none 0 0]) (T := 26) (OwnEnc.raw O9) ?_ (by decide)) | (with_reducible refine OwnEnc.grow (e' := 9) hgrow8 ?_ ?_ (by decide)) | (with_reducible refine OwnEnc.grow (e' := 3) hgrow9 ?_ ?_ (by decide)) | (with_reducible refine HasBlock.drew ?_) | (with_reducible refine HasBlock.made' (by first | exact rfl | exact Nat.le_refl _ | omega | (dsimp only; omega) | (simp only [sizes]; done) | (simp only [sizes]; omega))) | (with_reducible refine HasBlock.alloc ?_ _) | (with_reducible refine HasBlock.grow (e := 9) hgrow8 ?_ ?_ (by decide)) | (with_reducible refine HasBlock.grow (e := 3) hgrow9 ?_ ?_ (by decide))))
      case h6 => (repeat' (first | with_reducible assumption | (with_reducible refine HasBlock.drew ?_) | (with_reducible refine HasBlock.made' (by first | exact rfl | exact Nat.le_refl _ | omega | (dsimp only; omega) | (simp only [sizes]; done) | (simp only [sizes]; omega))) | (with_reducible refine HasBlock.alloc ?_ _) | (with_reducible refine HasBlock.fill3 ?_) | (with_reducible refine HasBlock.set_ne ?_ (by first | exact rfl | exact Nat.le_refl _ | omega | (dsimp only; omega) | (simp only [sizes]; done) | (simp only [sizes]; omega)) _) | (with_reducible refine HasBlock.grow (e := 9) hgrow8 ?_ ?_ (by decide)) | (with_reducible refine HasBlock.grow (e := 3) hgrow9 ?_ ?_ (by decide))))
      case h7 => (repeat' (first | with_reducible assumption | (with_reducible refine HasBlock.drew ?_) | (with_reducible refine HasBlock.made' (by first | exact rfl | exact Nat.le_refl _ | omega | (dsimp only; omega) | (simp only [sizes]; done) | (simp only [sizes]; omega))) | (with_reducible refine HasBlock.alloc ?_ _) | (with_reducible refine HasBlock.fill3 ?_) | (with_reducible refine HasBlock.set_ne ?_ (by first | exact rfl | exact Nat.le_refl _ | omega | (dsimp only; omega) | (simp only [sizes]; done) | (simp only [sizes]; omega)) _) | (with_reducible refine HasBlock.grow (e := 9) hgrow8 ?_ ?_ (by decide)) | (with_reducible refine HasBlock.grow (e := 3) hgrow9 ?_ ?_ (by decide))))
      case h8 => exact hbw.trans (Below.mono (by (repeat (first | with_reducible assumption | with_reducible exact Below.refl _ _ | (with_reducible refine Below.drew ?_) | (with_reducible refine Below.alloc' ?_ (Nat.le_refl _) _) | (with_reducible refine Below.setCell ?_ (by first | exact rfl | exact Nat.le_refl _ | omega | (dsimp only; omega) | (simp only [sizes]; done) | (simp only [sizes]; omega)) _) | (refine Below.trans ?_ (by with_reducible assumption))))) hbw.size)
  case rest =>
    clear D1 D2 hbw hz HF HI hi0 iz0 iz1 iz2 hj0 jz0 jz1 jz2
    obtain ⟨B, kf1', kr1', of1, or1, rfl, hB, D3, o1, o2, D1, D2, hbw⟩ := hcut
    have HO : OwnP (w.heap.size + 1 + 1) wc (.slice of1 n kf1') (.slice or1 r kr1') (.slice none 0 0) [] ⟨P.F, P.R, P.M.take 0⟩ := ⟨o1, o2, own_nil, OwnRows.nil _ _, fun i u hu => by simp at hu⟩
    clear o1 o2
    obtain ⟨D1_c, D1_f, D1_z⟩ := D1.all
    obtain ⟨D2_c, D2_f, D2_z⟩ := D2.all
    obtain ⟨D3_c, D3_f, D3_z⟩ := D3.all
    go_wp2_with fail
    clear D1_c D1_f D1_z
    clear D2_c D2_f D2_z
    clear D3_c D3_f D3_z
    have hz := D3.lt
    go_loopw [4] (fun iv wr => ∃ (i : Nat) (o : Option Addr) (cp : Nat) (us' : List Value), i ≤ m ∧ iv = .int .i64 i ∧ i ≤ cp ∧ cp ≤ 9223372036854775807 ∧ HasBlock wr w.heap.size #[.slice (some ⟨fb, foff, none⟩) n kf, .slice (some ⟨rb, roff, none⟩) r kr, .slice om m km] 26 ∧ HasBlock wr (w.heap.size + 1) #[.slice none 0 0, .slice none 0 0, .slice none 0 0] 26 ∧ HasBlock wr B #[.slice of1 n kf1', .slice or1 r kr1', .slice o i cp] 26 ∧ OwnP (w.heap.size + 1 + 1) wr (.slice of1 n kf1') (.slice or1 r kr1') (.slice o i cp) us' ⟨P.F, P.R, P.M.take i⟩ ∧ Below w.heap.size w wr ∧ B < wr.heap.size) (fun iv _ => m - (intOf iv).toNat)
    case atStart => exact ⟨0, none, 0, [], Nat.zero_le _, rfl, Nat.le_refl _, by omega, D1, D2, D3, HO, hbw, hz⟩
    case round =>
      clear D1 D2 D3 HO hbw hz
      obtain ⟨i, o, cp, us', hi, rfl, hc1, hc2, D1, D2, D3, HO, hbw, hz⟩ := hrel
      by_cases hlt : i < m
      · obtain ⟨l, hl⟩ := get_lt (xs := P.M) (k := i) (by rw [HM.out]; exact hlt)
        have hll := H.l l (mem_at hl)
        have hpr : PlRow w (.agg #[.slice none 0 0, .slice none 0 0, .slice om m km]) ⟨[], [], P.M⟩ := ⟨_, _, _, rfl, RowAt.nil _, RowAt.nil _, HMR.out⟩
        obtain ⟨mb, moff, uo, uc, rfl, hmb, cm, u1, u2, hr⟩ := hpr.guest hl
        clear hpr
        replace cm := (hbw.cell (p := ⟨mb, moff + i, none⟩) hmb).trans cm
        obtain ⟨x0, hx0⟩ := get_lt (xs := l) (k := 0) (by omega)
        obtain ⟨lb, loff, rfl, hlb, _⟩ := hr.elem hx0
        clear hx0
        obtain ⟨q, hq⟩ : ∃ q, l.length = q := ⟨_, rfl⟩
        rw [hq] at cm u1 hr hll
        have HRW := Lib.hid (hr.below hbw); clear hr
        have hwz := hbw.size
        have hmb3 : mb < wr.heap.size := by omega
        have HQ := Lib.hid hq; clear hq
        have HL := Lib.hid hl; clear hl
        obtain ⟨i0, hi0, iz0, iz1, iz2⟩ := info_parts info_ints
        obtain ⟨j0, hj0, jz0, jz1, jz2⟩ := info_parts info_int
        have htl : (P.M.take i).length = i := by rw [List.length_take, HM.out]; omega
        have HTL := Lib.hid htl; clear htl
        have HOM : Hid (wr.ownsRow (w.heap.size + 1 + 1) 23 1 (.slice o i cp) i us') := by
          have h := HO.m
          rw [HTL.out] at h
          exact h
        have gi : (i : Int) < (m : Int) := by omega
        have gi0 : (0 : Int) ≤ (i : Int) := by omega
        obtain ⟨D1_c, D1_f, D1_z⟩ := D1.all
        obtain ⟨D2_c, D2_f, D2_z⟩ := D2.all
        obtain ⟨D3_c, D3_f, D3_z⟩ := D3.all
        go_wp2_with fail
        go_region_law ((first
          |
           (refine step_append_own rfl (.tmp 23) (.tmp 28) 23 rfl wr.heap.size 3 j0 (.int .i64 0) 1 8 Try.underlying23 hj0 jz0 jz1 jz2 rfl (by decide) _ 0 [] rfl (own_empty (g := wr.heap.size) ?_ (by first | exact rfl | exact Nat.le_refl _ | omega | (dsimp only; omega) | (simp only [sizes]; done) | (simp only [sizes]; omega))) ⟨lb, loff, none⟩ q uc (l.map (Value.int .i64)) rfl ?_ ?_ (map_one (fun _ => rfl) _) ?_ ?_ (by first | exact rfl | exact Nat.le_refl _ | omega | (dsimp only; omega) | (simp only [sizes]; done) | (simp only [sizes]; omega)) ?_
            · first | exact HasBlock.made wr #[] 3 | exact (HasBlock.made wr #[] 3).drew | exact HasBlock.made wr.drew #[] 3
            · rw [List.length_map, HQ.out, Nat.mul_one]
            · exact fun j u hj => EncRow.cells' (HRW.out.below (by (repeat (first | with_reducible exact Below.refl _ _ | (with_reducible refine Below.drew ?_) | (with_reducible refine Below.alloc' ?_ (Nat.le_refl _) _))))) j u hj
            · unfold maxLen; omega
            · omega
            intro v5 w5 hown5 hgrow5 _
            have HB5 : Below wr.heap.size wr w5 := Below.grow (by (repeat (first | with_reducible exact Below.refl _ _ | (with_reducible refine Below.drew ?_) | (with_reducible refine Below.alloc' ?_ (Nat.le_refl _) _)))) hgrow5 (by first | exact rfl | exact Nat.le_refl _ | omega | (dsimp only; omega) | (simp only [sizes]; done) | (simp only [sizes]; omega)) (by first | exact rfl | exact Nat.le_refl _ | omega | (dsimp only; omega) | (simp only [sizes]; done) | (simp only [sizes]; omega))
            obtain ⟨uo5, uk5, rfl, _, _⟩ := own_form' hown5
            have o5 : OwnNum wr.heap.size w5 (.slice uo5 q uk5) l := (show World.ownsRow _ _ _ _ _ _ _ from (by rw [HQ.out]; simpa using hown5))
            clear hown5
            have HB5' : Below (w.heap.size + 1) wr w5 := HB5.mono (by omega)
            have E1 := D1.below HB5
            have E2 := D2.below HB5
            have E3 := D3.below HB5
            have HO5 := HO.below HB5
            have hz5 := HB5.size
            have hbw5 : Below w.heap.size w w5 := hbw.trans (HB5.mono hbw.size)
            have HOM5 : Hid (w5.ownsRow (w.heap.size + 1 + 1) 23 1 (.slice o i cp) i us') := Lib.hid (owns_below HOM.out HB5)
            have hr5 : Apart (.slice or1 r kr1') (.slice uo5 q uk5) := apart_lt (B := wr.heap.size) (fun k hk => (World.ownsRow.lt HO.r.raw k hk).2) (fun k hk => (World.ownsRow.lt o5.raw k hk).1)
            have hu5 : ∀ (j : Nat) (u' : Value), us'[j]? = some u' → Apart u' (.slice uo5 q uk5) := fun j u' hj => apart_lt (B := wr.heap.size) (fun k hk => HO.lt.u j u' hj k hk) (fun k hk => (World.ownsRow.lt o5.raw k hk).1)
            have O5 := OwnEnc.lower (base' := w.heap.size + 1 + 1) o5 (by omega)
            clear o5
            obtain ⟨E3_c, E3_f, E3_z⟩ := E3.all)
          |
           (refine step_append_own rfl (.tmp 22) (.tmp 30) 24 rfl (w.heap.size + 1 + 1) 23 i0 (.slice none 0 0) 1 24 Try.underlying24 hi0 iz0 iz1 iz2 rfl (by decide) (.slice o i cp) i us' rfl (HOM5.out.alloc _) ⟨_, 0, none⟩ 1 1 [.slice uo5 q uk5] rfl rfl (cells_made _ [.slice uo5 q uk5] _ _ rfl) (one_slice _ _ _) (by unfold maxLen; omega) (by omega) (by simp only [sizes]; omega) ?_
            intro v6 w6 hown6 hgrow6 _
            obtain ⟨o6, c6, rfl, hc61, hc62⟩ := own_form' hown6
            have HO6 := (HO5.alloc (.cells #[.slice uo5 q uk5] 23)).push (l := l) (O5.alloc _) hr5 hu5 (by rw [HTL.out]; exact hown6) hgrow6
            have F1 := (E1.alloc (.cells #[.slice uo5 q uk5] 23)).append (HOM5.out.alloc _) hgrow6 (by omega)
            have F2 := (E2.alloc (.cells #[.slice uo5 q uk5] 23)).append (HOM5.out.alloc _) hgrow6 (by omega)
            have F3 : HasBlock w6 B #[.slice of1 n kf1', .slice or1 r kr1', .slice o i cp] 26 := (hgrow6.block B (E3.alloc _).lt (fun e => own_off HOM5.out E3 (by decide) e.symm)).trans (E3.alloc _)
            have hbw6 : Below w.heap.size w w6 := below_grown (hbw5.alloc (by omega) _) (HOM5.out.alloc _) hgrow6 (by omega) (by simp only [sizes]; omega)
            have hz6 : wr.heap.size ≤ w6.heap.size := by have := hgrow6.size; simp only [sizes] at this; omega
            have hb6 : Below (w.heap.size + 1) wr w6 := below_grown ((Below.mono HB5 (by omega)).alloc (by omega) _) (HOM5.out.alloc _) hgrow6 (by omega) (by simp only [sizes]; omega)
            obtain ⟨F3_c, F3_f, F3_z⟩ := F3.all)))
        all_goals
          go_wp2_with fail
          go_roundw
          case rel =>
            refine ⟨i + 1, o6, c6, us' ++ [.slice uo5 q uk5], by omega, by go_num, hc61, hc62, F1.set_ne (by omega) _, F2.set_ne (by omega) _, F3.put3_2 _, ?_, hbw6.setCell (by dsimp only; omega) _, by rw [World.size_setCell]; omega⟩
            have h := HO6.setbox (j := 2) F3 (by decide) (by decide) (by decide) (.slice o6 (i + 1) c6)
            rw [List.take_add_one, HL.out]
            exact h
          case measure => simp [intOf]; omega
      · obtain rfl : i = m := by omega
        have hall : P.M.take i = P.M := by rw [← HM.out]; exact List.take_length
        rw [hall] at HO
        clear hall
        obtain ⟨D1_c, D1_f, D1_z⟩ := D1.all
        obtain ⟨D2_c, D2_f, D2_z⟩ := D2.all
        obtain ⟨D3_c, D3_f, D3_z⟩ := D3.all
        go_wp2_with fail
        refine bodyPost_ret (v := .agg #[.slice of1 n kf1', .slice or1 r kr1', .slice o i cp]) (by simp [results, Try.results39, go_sem, D2_c]) rfl ?_
        have HOE := ((HO.setlow (b := w.heap.size + 1) (j := 0) (by omega) (.slice of1 n kf1')).setlow (b := w.heap.size + 1) (j := 1) (by omega) (.slice or1 r kr1')).setlow (b := w.heap.size + 1) (j := 2) (by omega) (.slice o i cp)
        have hbe := ((hbw.setCell (p := ⟨w.heap.size + 1, 0, none⟩) (by dsimp only; omega) (.slice of1 n kf1')).setCell (p := ⟨w.heap.size + 1, 1, none⟩) (by dsimp only; omega) (.slice or1 r kr1')).setCell (p := ⟨w.heap.size + 1, 2, none⟩) (by dsimp only; omega) (.slice o i cp)
        exact ret_pool HN.out HR.out HM.out (HOE.lower (by omega)) hbe
end Go.Proofs.Ytjoopjgpjkmmhaa
