/-
  A mirror begun: the program's, walked.
-/
import Derived.Test.YtfomfokgibijjaaMirSame
import Derived.Test.YtfomfokgibijjaaRegions
import Derived.Test.YtfomfokgibijjaaShelf
import Derived.Deep.RegionWith
namespace Go.Proofs.Ytfomfokgibijjaa
open Go.RowKit

def zeros128 : ByteArray := ⟨(List.replicate 128 0).toArray⟩
theorem zeros128_size : zeros128.size = 128 := by decide +kernel
theorem rep_any (w : World) : Calls Try.prog 25 #[.string ⟨#[0]⟩, .int .i64 128] w (Ret w (.string zeros128)) := by
  have h := Try.strings_Repeat ⟨#[0]⟩ 128 w (by omega) (by decide)
  rw [show (⟨(Lib.repeatL (⟨#[0]⟩ : ByteArray).data.toList 128).toArray⟩ : ByteArray) = zeros128 by decide +kernel] at h
  exact h
def begB (S : List ByteArray) : Bool := validB S (List.replicate S.length zeros128) 0
def begS (S : List ByteArray) : List ByteArray := if begB S then S else []
def begT (S : List ByteArray) : List ByteArray := if begB S then List.replicate S.length zeros128 else []
theorem HasBlock.ne_own {w : World} {b g : Nat} {cs : Array Value} {T : TypeId} {base : Nat} {e : TypeId} {size n m k : Nat} {xs : List Value} (h : HasBlock w b cs T) (ho : w.ownsRow base e size (.slice (some ⟨g, 0, none⟩) m k) n xs) (hne : T ≠ e) : b ≠ g := by
  rintro rfl
  rcases ho.2 with ⟨hv, _⟩ | ⟨g', cap, cur, hv, _, hg, _⟩
  · cases hv
  · injection hv with e1
    injection e1 with e1
    injection e1 with e1
    subst e1
    unfold HasBlock at h
    rw [h] at hg
    injection hg with hg
    injection hg with _ hg
    exact hne hg
theorem makes_str (n : Nat) (hn : n ≤ 1000000) (w : World) : (Instr.makeSlice 22 (.int .i64 (n : Int)) (.int .i64 (n : Int))).run Try.prog w = .ok (.slice (some ⟨w.heap.size, 0, none⟩) n n) (w.alloc (.cells ((List.replicate n (⟨#[]⟩ : ByteArray)).map Value.string).toArray 9)) := by
  rw [List.map_replicate]
  exact run_make_one (P := Try.prog) 22 9 (.string ⟨#[]⟩) 16 Try.underlying22 info_str rfl n (by omega) (by omega) w
theorem own_made (w : World) (base n : Nat) (xs : List ByteArray) (hx : xs.length = n) (hn : n ≤ 1000000) (hb : base ≤ w.heap.size) : OwnStr base (w.alloc (.cells (xs.map Value.string).toArray 9)) (.slice (some ⟨w.heap.size, 0, none⟩) n n) xs := by
  unfold OwnStr OwnEnc
  rw [hx]
  refine ⟨by rw [List.length_map, hx, Nat.mul_one], .inr ⟨w.heap.size, n, (xs.map Value.string).toArray, rfl, hb, heap_alloc_new w _, Nat.le_refl _, by unfold maxLen; omega, by simp [hx], ?_⟩⟩
  rw [Nat.mul_one]
  show (xs.map Value.string).take n = _
  exact List.take_of_length_le (by rw [List.length_map, hx]; exact Nat.le_refl _)
theorem OwnEnc.setne {α : Type} {enc : α → Value} {e : TypeId} {base : Nat} {w : World} {v : Value} {xs : List α} (h : OwnEnc enc e base w v xs) {b j : Nat} (hne : v.ownBlock ≠ some b) (x : Value) : OwnEnc enc e base (w.setCell ⟨b, j, none⟩ x) v xs := owns_set_ne h hne x
theorem OwnEnc.drew {α : Type} {enc : α → Value} {e : TypeId} {base : Nat} {w : World} {v : Value} {xs : List α} (h : OwnEnc enc e base w v xs) : OwnEnc enc e base w.drew v xs := h
theorem own_made' {w : World} {base g n : Nat} {xs : List ByteArray} (hx : xs.length = n) (hn : n ≤ 1000000) (hg : g = w.heap.size) (hb : base ≤ w.heap.size) : OwnStr base (w.alloc (.cells (xs.map Value.string).toArray 9)) (.slice (some ⟨g, 0, none⟩) n n) xs := by
  subst hg
  exact own_made w base n xs hx hn hb
theorem own_mk {w : World} {base g n : Nat} (hn : n ≤ 1000000) (hg : g = w.heap.size) (hb : base ≤ w.heap.size) : OwnStr base (w.alloc (.cells (Array.replicate n (.string ⟨#[]⟩)) 9)) (.slice (some ⟨g, 0, none⟩) n n) (List.replicate n ⟨#[]⟩) := by
  have h := own_made' (w := w) (base := base) (g := g) (n := n) (xs := List.replicate n ⟨#[]⟩) List.length_replicate hn hg hb
  rw [List.map_replicate] at h
  simpa using h
theorem HasBlock.made' {w : World} {b : Nat} {cs : Array Value} {T : TypeId} (hb : b = w.heap.size) : HasBlock (w.alloc (.cells cs T)) b cs T := by
  subst hb
  exact HasBlock.made w cs T
theorem HasBlock.store3 {w : World} {b : Nat} {T : TypeId} {x0 x1 x2 y0 y1 y2 : Value} (h : HasBlock w b #[x0, x1, x2] T) : HasBlock (((w.setCell ⟨b, 0, none⟩ y0).setCell ⟨b, 1, none⟩ y1).setCell ⟨b, 2, none⟩ y2) b #[y0, y1, y2] T := by
  simpa using ((h.set_at 0 y0).set_at 1 y1).set_at 2 y2
/-- What the mirror's literal leaves. -/
def BegAt (w0 : World) (n : Nat) (S : List ByteArray) (v : Value) (wx : World) : Prop := ∃ (B g k : Nat) (o : Option Addr), v = .pointer (some ⟨B, 0, none⟩) ∧ w0.heap.size < B ∧ w0.heap.size < g ∧ HasBlock wx B #[.slice o n k, .slice (some ⟨g, 0, none⟩) n n, .int .i64 0] 24 ∧ OwnStr (w0.heap.size + 1) wx (.slice o n k) S ∧ OwnStr (w0.heap.size + 1) wx (.slice (some ⟨g, 0, none⟩) n n) (List.replicate n ⟨#[]⟩) ∧ (∀ q, (Value.slice o n k).ownBlock = some q → q ≠ g) ∧ n ≤ k ∧ k ≤ 9223372036854775807 ∧ HasBlock wx w0.heap.size #[.slice none 0 0, .slice none 0 0, .int .i64 0] 24 ∧ Below w0.heap.size w0 wx
set_option maxHeartbeats 4000000 in
theorem begin_own (va : Value) (S : List ByteArray) (w : World) (ha : StrRow w va S) (hs : S.length ≤ 1000000) : Calls Try.prog 8 #[va] w (RetOwnM2 (begS S) (begT S) 0 (begB S) w) := by
  have HA := Lib.hid ha
  obtain ⟨ao, ca, rfl, a1, a2, a3⟩ := ha.out
  clear ha a3
  obtain ⟨n, hn⟩ : ∃ n, S.length = n := ⟨_, rfl⟩
  rw [hn] at a1 HA hs ⊢
  have HN := Lib.hid hn; clear hn
  have D0 := HasBlock.made w #[.slice none 0 0, .slice none 0 0, .int .i64 0] 24
  by_cases h64 : 64 < n
  · have hv : begB S = false := by
      cases hb : begB S
      · rfl
      · have := validB_len hb
        rw [HN.out] at this
        omega
    have HF := Lib.hid hv; clear hv
    have x0 := (D0.cell 0).trans rfl
    have x1 := (D0.cell 1).trans rfl
    have x2 := (D0.cell 2).trans rfl
    have xf := D0.free
    have xz := D0.lt
    go_enter Try.func8, Try.ntmps8
    go_wp2_with fail
    refine bodyPost_ret (v := .tuple #[.agg #[.slice none 0 0, .slice none 0 0, .int .i64 0], .bool false]) (by simp [results, Try.results8, go_sem, x0, x1, x2]) rfl ?_
    rw [show RetOwnM2 (begS S) (begT S) 0 (begB S) w = RetOwnM2 [] [] 0 false w by simp [begS, begT, HF.out]]
    exact retOwn2 (World.ownsRow_nil _ _ _ _) (World.ownsRow_nil _ _ _ _) (by repeat (first | with_reducible exact Below.refl _ _ | with_reducible refine Below.drew ?_ | (with_reducible refine Below.alloc ?_ (by first | exact Nat.le_refl _ | omega | (dsimp only; omega) | (simp only [sizes]; omega)) _) | (with_reducible refine Below.setCell ?_ (by first | exact Nat.le_refl _ | omega | (dsimp only; omega) | (simp only [sizes]; omega)) _) | (refine Below.trans ?_ (Below.mono (by with_reducible assumption) (by first | exact Nat.le_refl _ | omega | (dsimp only; omega) | (simp only [sizes]; omega))))))
  have hmk := makes_str n hs
  go_enter Try.func8, Try.ntmps8
  go_upto_region 3 with (fail)
  go_cut [4] from 10 to 15 (fun v wx => BegAt w n S v wx)
  case first =>
    go_region_with (go_at_call 24; refine (clone_str _ S _ (HA.out.below (by repeat (first | with_reducible exact Below.refl _ _ | with_reducible refine Below.drew ?_ | (with_reducible refine Below.alloc ?_ (by first | exact Nat.le_refl _ | omega | (dsimp only; omega) | (simp only [sizes]; omega)) _) | (with_reducible refine Below.setCell ?_ (by first | exact Nat.le_refl _ | omega | (dsimp only; omega) | (simp only [sizes]; omega)) _) | (refine Below.trans ?_ (Below.mono (by with_reducible assumption) (by first | exact Nat.le_refl _ | omega | (dsimp only; omega) | (simp only [sizes]; omega))))))) (by rw [HN.out]; omega)).mono ?_; rintro e w1 ⟨v1, rfl, ho1, hb1⟩; obtain ⟨o1, k1, rfl, hk1, hk2⟩ := ho1.formN HN.out; have HO1 := Lib.hid ho1; clear ho1; obtain ⟨hc1, hf1⟩ := bcell hb1; have hz1 := bsize hb1; (try simp only [sizes1] at hz1); try simp only [sizes] at hc1 hf1)
    all_goals
      go_wp2_with fail
      go_meet
      have hO := HO1.out
      simp only [sizes] at hO
      first | (refine ⟨_, w.heap.size + 1, k1, o1, rfl, ?h1, ?h2, ?h3, ?h4, ?h5, (fun q hq => ?h6), hk1, hk2, ?h7, ?h8⟩; (case h1 => (first | omega | (simp only [sizes]; omega))); (case h2 => (first | omega | (simp only [sizes]; omega))); (case h3 => (repeat (first | with_reducible assumption | (with_reducible refine HasBlock.drew ?_) | (with_reducible refine HasBlock.made' (by first | exact rfl | omega | (simp only [sizes]; done) | (simp only [sizes]; omega))) | (with_reducible refine HasBlock.alloc ?_ _) | (with_reducible refine HasBlock.store3 (x0 := .slice none 0 0) (x1 := .slice none 0 0) (x2 := .int .i64 0) ?_) | (with_reducible refine HasBlock.set_ne ?_ (by first | exact rfl | omega | (simp only [sizes]; done) | (simp only [sizes]; omega)) _) | (with_reducible refine HasBlock.below ?_ hb1)))); (case h4 => (first | (refine OwnEnc.lower (base := w.heap.size + 1) ?_ (by omega); (repeat (first | with_reducible assumption | (with_reducible refine OwnEnc.drew ?_) | (with_reducible refine own_mk hs (by first | exact rfl | omega | (simp only [sizes]; done) | (simp only [sizes]; omega)) (by first | exact rfl | omega | (simp only [sizes]; done) | (simp only [sizes]; omega))) | (with_reducible refine OwnEnc.alloc ?_ _) | (with_reducible refine OwnEnc.setne ?_ (own_ne (by first | exact rfl | omega | (simp only [sizes]; done) | (simp only [sizes]; omega))) _) | (with_reducible refine OwnEnc.setne ?_ (own_gt (OwnEnc.raw hO) (by first | exact rfl | omega | (simp only [sizes]; done) | (simp only [sizes]; omega))) _) | (with_reducible refine OwnEnc.below ?_ hb1))); done) | (refine OwnEnc.lower (base := w.heap.size + 1 + 1) ?_ (by omega); (repeat (first | with_reducible assumption | (with_reducible refine OwnEnc.drew ?_) | (with_reducible refine own_mk hs (by first | exact rfl | omega | (simp only [sizes]; done) | (simp only [sizes]; omega)) (by first | exact rfl | omega | (simp only [sizes]; done) | (simp only [sizes]; omega))) | (with_reducible refine OwnEnc.alloc ?_ _) | (with_reducible refine OwnEnc.setne ?_ (own_ne (by first | exact rfl | omega | (simp only [sizes]; done) | (simp only [sizes]; omega))) _) | (with_reducible refine OwnEnc.setne ?_ (own_gt (OwnEnc.raw hO) (by first | exact rfl | omega | (simp only [sizes]; done) | (simp only [sizes]; omega))) _) | (with_reducible refine OwnEnc.below ?_ hb1))); done) | (refine OwnEnc.lower (base := w.heap.size + 1 + 1 + 1) ?_ (by omega); (repeat (first | with_reducible assumption | (with_reducible refine OwnEnc.drew ?_) | (with_reducible refine own_mk hs (by first | exact rfl | omega | (simp only [sizes]; done) | (simp only [sizes]; omega)) (by first | exact rfl | omega | (simp only [sizes]; done) | (simp only [sizes]; omega))) | (with_reducible refine OwnEnc.alloc ?_ _) | (with_reducible refine OwnEnc.setne ?_ (own_ne (by first | exact rfl | omega | (simp only [sizes]; done) | (simp only [sizes]; omega))) _) | (with_reducible refine OwnEnc.setne ?_ (own_gt (OwnEnc.raw hO) (by first | exact rfl | omega | (simp only [sizes]; done) | (simp only [sizes]; omega))) _) | (with_reducible refine OwnEnc.below ?_ hb1))); done))); (case h5 => (repeat (first | with_reducible assumption | (with_reducible refine OwnEnc.drew ?_) | (with_reducible refine own_mk hs (by first | exact rfl | omega | (simp only [sizes]; done) | (simp only [sizes]; omega)) (by first | exact rfl | omega | (simp only [sizes]; done) | (simp only [sizes]; omega))) | (with_reducible refine OwnEnc.alloc ?_ _) | (with_reducible refine OwnEnc.setne ?_ (own_ne (by first | exact rfl | omega | (simp only [sizes]; done) | (simp only [sizes]; omega))) _) | (with_reducible refine OwnEnc.setne ?_ (own_gt (OwnEnc.raw hO) (by first | exact rfl | omega | (simp only [sizes]; done) | (simp only [sizes]; omega))) _) | (with_reducible refine OwnEnc.below ?_ hb1)))); (case h6 => (have := World.ownsRow.lt (OwnEnc.raw hO) q hq; omega)); (case h7 => (repeat (first | with_reducible assumption | (with_reducible refine HasBlock.drew ?_) | (with_reducible refine HasBlock.made' (by first | exact rfl | omega | (simp only [sizes]; done) | (simp only [sizes]; omega))) | (with_reducible refine HasBlock.alloc ?_ _) | (with_reducible refine HasBlock.store3 (x0 := .slice none 0 0) (x1 := .slice none 0 0) (x2 := .int .i64 0) ?_) | (with_reducible refine HasBlock.set_ne ?_ (by first | exact rfl | omega | (simp only [sizes]; done) | (simp only [sizes]; omega)) _) | (with_reducible refine HasBlock.below ?_ hb1)))); (case h8 => exact (by repeat (first | with_reducible exact Below.refl _ _ | with_reducible refine Below.drew ?_ | (with_reducible refine Below.alloc ?_ (by first | exact Nat.le_refl _ | omega | (dsimp only; omega) | (simp only [sizes]; omega)) _) | (with_reducible refine Below.setCell ?_ (by first | exact Nat.le_refl _ | omega | (dsimp only; omega) | (simp only [sizes]; omega)) _) | (refine Below.trans ?_ (Below.mono (by with_reducible assumption) (by first | exact Nat.le_refl _ | omega | (dsimp only; omega) | (simp only [sizes]; omega)))))))) | (refine ⟨_, w.heap.size + 1 + 1, k1, o1, rfl, ?h1, ?h2, ?h3, ?h4, ?h5, (fun q hq => ?h6), hk1, hk2, ?h7, ?h8⟩; (case h1 => (first | omega | (simp only [sizes]; omega))); (case h2 => (first | omega | (simp only [sizes]; omega))); (case h3 => (repeat (first | with_reducible assumption | (with_reducible refine HasBlock.drew ?_) | (with_reducible refine HasBlock.made' (by first | exact rfl | omega | (simp only [sizes]; done) | (simp only [sizes]; omega))) | (with_reducible refine HasBlock.alloc ?_ _) | (with_reducible refine HasBlock.store3 (x0 := .slice none 0 0) (x1 := .slice none 0 0) (x2 := .int .i64 0) ?_) | (with_reducible refine HasBlock.set_ne ?_ (by first | exact rfl | omega | (simp only [sizes]; done) | (simp only [sizes]; omega)) _) | (with_reducible refine HasBlock.below ?_ hb1)))); (case h4 => (first | (refine OwnEnc.lower (base := w.heap.size + 1) ?_ (by omega); (repeat (first | with_reducible assumption | (with_reducible refine OwnEnc.drew ?_) | (with_reducible refine own_mk hs (by first | exact rfl | omega | (simp only [sizes]; done) | (simp only [sizes]; omega)) (by first | exact rfl | omega | (simp only [sizes]; done) | (simp only [sizes]; omega))) | (with_reducible refine OwnEnc.alloc ?_ _) | (with_reducible refine OwnEnc.setne ?_ (own_ne (by first | exact rfl | omega | (simp only [sizes]; done) | (simp only [sizes]; omega))) _) | (with_reducible refine OwnEnc.setne ?_ (own_gt (OwnEnc.raw hO) (by first | exact rfl | omega | (simp only [sizes]; done) | (simp only [sizes]; omega))) _) | (with_reducible refine OwnEnc.below ?_ hb1))); done) | (refine OwnEnc.lower (base := w.heap.size + 1 + 1) ?_ (by omega); (repeat (first | with_reducible assumption | (with_reducible refine OwnEnc.drew ?_) | (with_reducible refine own_mk hs (by first | exact rfl | omega | (simp only [sizes]; done) | (simp only [sizes]; omega)) (by first | exact rfl | omega | (simp only [sizes]; done) | (simp only [sizes]; omega))) | (with_reducible refine OwnEnc.alloc ?_ _) | (with_reducible refine OwnEnc.setne ?_ (own_ne (by first | exact rfl | omega | (simp only [sizes]; done) | (simp only [sizes]; omega))) _) | (with_reducible refine OwnEnc.setne ?_ (own_gt (OwnEnc.raw hO) (by first | exact rfl | omega | (simp only [sizes]; done) | (simp only [sizes]; omega))) _) | (with_reducible refine OwnEnc.below ?_ hb1))); done) | (refine OwnEnc.lower (base := w.heap.size + 1 + 1 + 1) ?_ (by omega); (repeat (first | with_reducible assumption | (with_reducible refine OwnEnc.drew ?_) | (with_reducible refine own_mk hs (by first | exact rfl | omega | (simp only [sizes]; done) | (simp only [sizes]; omega)) (by first | exact rfl | omega | (simp only [sizes]; done) | (simp only [sizes]; omega))) | (with_reducible refine OwnEnc.alloc ?_ _) | (with_reducible refine OwnEnc.setne ?_ (own_ne (by first | exact rfl | omega | (simp only [sizes]; done) | (simp only [sizes]; omega))) _) | (with_reducible refine OwnEnc.setne ?_ (own_gt (OwnEnc.raw hO) (by first | exact rfl | omega | (simp only [sizes]; done) | (simp only [sizes]; omega))) _) | (with_reducible refine OwnEnc.below ?_ hb1))); done))); (case h5 => (repeat (first | with_reducible assumption | (with_reducible refine OwnEnc.drew ?_) | (with_reducible refine own_mk hs (by first | exact rfl | omega | (simp only [sizes]; done) | (simp only [sizes]; omega)) (by first | exact rfl | omega | (simp only [sizes]; done) | (simp only [sizes]; omega))) | (with_reducible refine OwnEnc.alloc ?_ _) | (with_reducible refine OwnEnc.setne ?_ (own_ne (by first | exact rfl | omega | (simp only [sizes]; done) | (simp only [sizes]; omega))) _) | (with_reducible refine OwnEnc.setne ?_ (own_gt (OwnEnc.raw hO) (by first | exact rfl | omega | (simp only [sizes]; done) | (simp only [sizes]; omega))) _) | (with_reducible refine OwnEnc.below ?_ hb1)))); (case h6 => (have := World.ownsRow.lt (OwnEnc.raw hO) q hq; omega)); (case h7 => (repeat (first | with_reducible assumption | (with_reducible refine HasBlock.drew ?_) | (with_reducible refine HasBlock.made' (by first | exact rfl | omega | (simp only [sizes]; done) | (simp only [sizes]; omega))) | (with_reducible refine HasBlock.alloc ?_ _) | (with_reducible refine HasBlock.store3 (x0 := .slice none 0 0) (x1 := .slice none 0 0) (x2 := .int .i64 0) ?_) | (with_reducible refine HasBlock.set_ne ?_ (by first | exact rfl | omega | (simp only [sizes]; done) | (simp only [sizes]; omega)) _) | (with_reducible refine HasBlock.below ?_ hb1)))); (case h8 => exact (by repeat (first | with_reducible exact Below.refl _ _ | with_reducible refine Below.drew ?_ | (with_reducible refine Below.alloc ?_ (by first | exact Nat.le_refl _ | omega | (dsimp only; omega) | (simp only [sizes]; omega)) _) | (with_reducible refine Below.setCell ?_ (by first | exact Nat.le_refl _ | omega | (dsimp only; omega) | (simp only [sizes]; omega)) _) | (refine Below.trans ?_ (Below.mono (by with_reducible assumption) (by first | exact Nat.le_refl _ | omega | (dsimp only; omega) | (simp only [sizes]; omega)))))))) | (refine ⟨_, w1.heap.size, k1, o1, rfl, ?h1, ?h2, ?h3, ?h4, ?h5, (fun q hq => ?h6), hk1, hk2, ?h7, ?h8⟩; (case h1 => (first | omega | (simp only [sizes]; omega))); (case h2 => (first | omega | (simp only [sizes]; omega))); (case h3 => (repeat (first | with_reducible assumption | (with_reducible refine HasBlock.drew ?_) | (with_reducible refine HasBlock.made' (by first | exact rfl | omega | (simp only [sizes]; done) | (simp only [sizes]; omega))) | (with_reducible refine HasBlock.alloc ?_ _) | (with_reducible refine HasBlock.store3 (x0 := .slice none 0 0) (x1 := .slice none 0 0) (x2 := .int .i64 0) ?_) | (with_reducible refine HasBlock.set_ne ?_ (by first | exact rfl | omega | (simp only [sizes]; done) | (simp only [sizes]; omega)) _) | (with_reducible refine HasBlock.below ?_ hb1)))); (case h4 => (first | (refine OwnEnc.lower (base := w.heap.size + 1) ?_ (by omega); (repeat (first | with_reducible assumption | (with_reducible refine OwnEnc.drew ?_) | (with_reducible refine own_mk hs (by first | exact rfl | omega | (simp only [sizes]; done) | (simp only [sizes]; omega)) (by first | exact rfl | omega | (simp only [sizes]; done) | (simp only [sizes]; omega))) | (with_reducible refine OwnEnc.alloc ?_ _) | (with_reducible refine OwnEnc.setne ?_ (own_ne (by first | exact rfl | omega | (simp only [sizes]; done) | (simp only [sizes]; omega))) _) | (with_reducible refine OwnEnc.setne ?_ (own_gt (OwnEnc.raw hO) (by first | exact rfl | omega | (simp only [sizes]; done) | (simp only [sizes]; omega))) _) | (with_reducible refine OwnEnc.below ?_ hb1))); done) | (refine OwnEnc.lower (base := w.heap.size + 1 + 1) ?_ (by omega); (repeat (first | with_reducible assumption | (with_reducible refine OwnEnc.drew ?_) | (with_reducible refine own_mk hs (by first | exact rfl | omega | (simp only [sizes]; done) | (simp only [sizes]; omega)) (by first | exact rfl | omega | (simp only [sizes]; done) | (simp only [sizes]; omega))) | (with_reducible refine OwnEnc.alloc ?_ _) | (with_reducible refine OwnEnc.setne ?_ (own_ne (by first | exact rfl | omega | (simp only [sizes]; done) | (simp only [sizes]; omega))) _) | (with_reducible refine OwnEnc.setne ?_ (own_gt (OwnEnc.raw hO) (by first | exact rfl | omega | (simp only [sizes]; done) | (simp only [sizes]; omega))) _) | (with_reducible refine OwnEnc.below ?_ hb1))); done) | (refine OwnEnc.lower (base := w.heap.size + 1 + 1 + 1) ?_ (by omega); (repeat (first | with_reducible assumption | (with_reducible refine OwnEnc.drew ?_) | (with_reducible refine own_mk hs (by first | exact rfl | omega | (simp only [sizes]; done) | (simp only [sizes]; omega)) (by first | exact rfl | omega | (simp only [sizes]; done) | (simp only [sizes]; omega))) | (with_reducible refine OwnEnc.alloc ?_ _) | (with_reducible refine OwnEnc.setne ?_ (own_ne (by first | exact rfl | omega | (simp only [sizes]; done) | (simp only [sizes]; omega))) _) | (with_reducible refine OwnEnc.setne ?_ (own_gt (OwnEnc.raw hO) (by first | exact rfl | omega | (simp only [sizes]; done) | (simp only [sizes]; omega))) _) | (with_reducible refine OwnEnc.below ?_ hb1))); done))); (case h5 => (repeat (first | with_reducible assumption | (with_reducible refine OwnEnc.drew ?_) | (with_reducible refine own_mk hs (by first | exact rfl | omega | (simp only [sizes]; done) | (simp only [sizes]; omega)) (by first | exact rfl | omega | (simp only [sizes]; done) | (simp only [sizes]; omega))) | (with_reducible refine OwnEnc.alloc ?_ _) | (with_reducible refine OwnEnc.setne ?_ (own_ne (by first | exact rfl | omega | (simp only [sizes]; done) | (simp only [sizes]; omega))) _) | (with_reducible refine OwnEnc.setne ?_ (own_gt (OwnEnc.raw hO) (by first | exact rfl | omega | (simp only [sizes]; done) | (simp only [sizes]; omega))) _) | (with_reducible refine OwnEnc.below ?_ hb1)))); (case h6 => (have := World.ownsRow.lt (OwnEnc.raw hO) q hq; omega)); (case h7 => (repeat (first | with_reducible assumption | (with_reducible refine HasBlock.drew ?_) | (with_reducible refine HasBlock.made' (by first | exact rfl | omega | (simp only [sizes]; done) | (simp only [sizes]; omega))) | (with_reducible refine HasBlock.alloc ?_ _) | (with_reducible refine HasBlock.store3 (x0 := .slice none 0 0) (x1 := .slice none 0 0) (x2 := .int .i64 0) ?_) | (with_reducible refine HasBlock.set_ne ?_ (by first | exact rfl | omega | (simp only [sizes]; done) | (simp only [sizes]; omega)) _) | (with_reducible refine HasBlock.below ?_ hb1)))); (case h8 => exact (by repeat (first | with_reducible exact Below.refl _ _ | with_reducible refine Below.drew ?_ | (with_reducible refine Below.alloc ?_ (by first | exact Nat.le_refl _ | omega | (dsimp only; omega) | (simp only [sizes]; omega)) _) | (with_reducible refine Below.setCell ?_ (by first | exact Nat.le_refl _ | omega | (dsimp only; omega) | (simp only [sizes]; omega)) _) | (refine Below.trans ?_ (Below.mono (by with_reducible assumption) (by first | exact Nat.le_refl _ | omega | (dsimp only; omega) | (simp only [sizes]; omega)))))))) | (refine ⟨_, w1.heap.size + 1, k1, o1, rfl, ?h1, ?h2, ?h3, ?h4, ?h5, (fun q hq => ?h6), hk1, hk2, ?h7, ?h8⟩; (case h1 => (first | omega | (simp only [sizes]; omega))); (case h2 => (first | omega | (simp only [sizes]; omega))); (case h3 => (repeat (first | with_reducible assumption | (with_reducible refine HasBlock.drew ?_) | (with_reducible refine HasBlock.made' (by first | exact rfl | omega | (simp only [sizes]; done) | (simp only [sizes]; omega))) | (with_reducible refine HasBlock.alloc ?_ _) | (with_reducible refine HasBlock.store3 (x0 := .slice none 0 0) (x1 := .slice none 0 0) (x2 := .int .i64 0) ?_) | (with_reducible refine HasBlock.set_ne ?_ (by first | exact rfl | omega | (simp only [sizes]; done) | (simp only [sizes]; omega)) _) | (with_reducible refine HasBlock.below ?_ hb1)))); (case h4 => (first | (refine OwnEnc.lower (base := w.heap.size + 1) ?_ (by omega); (repeat (first | with_reducible assumption | (with_reducible refine OwnEnc.drew ?_) | (with_reducible refine own_mk hs (by first | exact rfl | omega | (simp only [sizes]; done) | (simp only [sizes]; omega)) (by first | exact rfl | omega | (simp only [sizes]; done) | (simp only [sizes]; omega))) | (with_reducible refine OwnEnc.alloc ?_ _) | (with_reducible refine OwnEnc.setne ?_ (own_ne (by first | exact rfl | omega | (simp only [sizes]; done) | (simp only [sizes]; omega))) _) | (with_reducible refine OwnEnc.setne ?_ (own_gt (OwnEnc.raw hO) (by first | exact rfl | omega | (simp only [sizes]; done) | (simp only [sizes]; omega))) _) | (with_reducible refine OwnEnc.below ?_ hb1))); done) | (refine OwnEnc.lower (base := w.heap.size + 1 + 1) ?_ (by omega); (repeat (first | with_reducible assumption | (with_reducible refine OwnEnc.drew ?_) | (with_reducible refine own_mk hs (by first | exact rfl | omega | (simp only [sizes]; done) | (simp only [sizes]; omega)) (by first | exact rfl | omega | (simp only [sizes]; done) | (simp only [sizes]; omega))) | (with_reducible refine OwnEnc.alloc ?_ _) | (with_reducible refine OwnEnc.setne ?_ (own_ne (by first | exact rfl | omega | (simp only [sizes]; done) | (simp only [sizes]; omega))) _) | (with_reducible refine OwnEnc.setne ?_ (own_gt (OwnEnc.raw hO) (by first | exact rfl | omega | (simp only [sizes]; done) | (simp only [sizes]; omega))) _) | (with_reducible refine OwnEnc.below ?_ hb1))); done) | (refine OwnEnc.lower (base := w.heap.size + 1 + 1 + 1) ?_ (by omega); (repeat (first | with_reducible assumption | (with_reducible refine OwnEnc.drew ?_) | (with_reducible refine own_mk hs (by first | exact rfl | omega | (simp only [sizes]; done) | (simp only [sizes]; omega)) (by first | exact rfl | omega | (simp only [sizes]; done) | (simp only [sizes]; omega))) | (with_reducible refine OwnEnc.alloc ?_ _) | (with_reducible refine OwnEnc.setne ?_ (own_ne (by first | exact rfl | omega | (simp only [sizes]; done) | (simp only [sizes]; omega))) _) | (with_reducible refine OwnEnc.setne ?_ (own_gt (OwnEnc.raw hO) (by first | exact rfl | omega | (simp only [sizes]; done) | (simp only [sizes]; omega))) _) | (with_reducible refine OwnEnc.below ?_ hb1))); done))); (case h5 => (repeat (first | with_reducible assumption | (with_reducible refine OwnEnc.drew ?_) | (with_reducible refine own_mk hs (by first | exact rfl | omega | (simp only [sizes]; done) | (simp only [sizes]; omega)) (by first | exact rfl | omega | (simp only [sizes]; done) | (simp only [sizes]; omega))) | (with_reducible refine OwnEnc.alloc ?_ _) | (with_reducible refine OwnEnc.setne ?_ (own_ne (by first | exact rfl | omega | (simp only [sizes]; done) | (simp only [sizes]; omega))) _) | (with_reducible refine OwnEnc.setne ?_ (own_gt (OwnEnc.raw hO) (by first | exact rfl | omega | (simp only [sizes]; done) | (simp only [sizes]; omega))) _) | (with_reducible refine OwnEnc.below ?_ hb1)))); (case h6 => (have := World.ownsRow.lt (OwnEnc.raw hO) q hq; omega)); (case h7 => (repeat (first | with_reducible assumption | (with_reducible refine HasBlock.drew ?_) | (with_reducible refine HasBlock.made' (by first | exact rfl | omega | (simp only [sizes]; done) | (simp only [sizes]; omega))) | (with_reducible refine HasBlock.alloc ?_ _) | (with_reducible refine HasBlock.store3 (x0 := .slice none 0 0) (x1 := .slice none 0 0) (x2 := .int .i64 0) ?_) | (with_reducible refine HasBlock.set_ne ?_ (by first | exact rfl | omega | (simp only [sizes]; done) | (simp only [sizes]; omega)) _) | (with_reducible refine HasBlock.below ?_ hb1)))); (case h8 => exact (by repeat (first | with_reducible exact Below.refl _ _ | with_reducible refine Below.drew ?_ | (with_reducible refine Below.alloc ?_ (by first | exact Nat.le_refl _ | omega | (dsimp only; omega) | (simp only [sizes]; omega)) _) | (with_reducible refine Below.setCell ?_ (by first | exact Nat.le_refl _ | omega | (dsimp only; omega) | (simp only [sizes]; omega)) _) | (refine Below.trans ?_ (Below.mono (by with_reducible assumption) (by first | exact Nat.le_refl _ | omega | (dsimp only; omega) | (simp only [sizes]; omega))))))))
  case rest =>
    obtain ⟨B, g, k1, o1, rfl, hB, hg, D1, p1, p2, hap, hk1, hk2, D2, hbw⟩ := hcut
    clear hmk D0
    have hne := D1.ne_own p2.raw (by decide)
    have hap2 : (Value.slice o1 n k1).ownBlock ≠ some g := fun e => hap g e rfl
    have HP1 := Lib.hid p1
    have HP2 := Lib.hid p2
    clear p1 p2 hap
    obtain ⟨z, hz⟩ : ∃ z, zeros128 = z := ⟨_, rfl⟩
    have RP := rep_any
    rw [hz] at RP
    have HR := Lib.hid RP; clear RP
    have hbe : begB S = validB S (List.replicate n z) 0 ∧ begT S = if begB S then List.replicate n z else [] := by
      unfold begT begB
      rw [HN.out, hz]
      exact ⟨rfl, rfl⟩
    have HBE := Lib.hid hbe; clear hbe hz
    have hnp : n ≤ 64 := by omega
    have x0 := (D1.cell 0).trans rfl
    have x1 := (D1.cell 1).trans rfl
    have x2 := (D1.cell 2).trans rfl
    have xf := D1.free
    have xz := D1.lt
    have y0 := (D2.cell 0).trans rfl
    have y1 := (D2.cell 1).trans rfl
    have y2 := (D2.cell 2).trans rfl
    have yf := D2.free
    have yz := D2.lt
    go_wp2_with fail
    go_loopw [19] (fun i wr => ∃ (k : Nat) (X : List ByteArray), k ≤ n ∧ i = .int .i64 k ∧ Hid (X.length = n) ∧ Hid (∀ j, j < k → X[j]? = some z) ∧ HasBlock wr B #[.slice o1 n k1, .slice (some ⟨g, 0, none⟩) n n, .int .i64 0] 24 ∧ HasBlock wr w.heap.size #[.slice none 0 0, .slice none 0 0, .int .i64 0] 24 ∧ OwnStr (w.heap.size + 1) wr (.slice o1 n k1) S ∧ OwnStr (w.heap.size + 1) wr (.slice (some ⟨g, 0, none⟩) n n) X ∧ Below w.heap.size w wr) (fun i _ => n - (intOf i).toNat)
    case atStart => exact ⟨0, _, Nat.zero_le _, rfl, List.length_replicate, fun j hj => absurd hj (by omega), D1, D2, HP1.out, HP2.out, hbw⟩
    case round =>
      obtain ⟨k, X, hk, rfl, HX, HXJ, E1, E2, q1, q2, hbr⟩ := hrel
      clear x0 x1 x2 xf xz
      clear y0 y1 y2 yf yz
      clear D1 D2 HP1 HP2 hbw
      have Q1 := Lib.hid q1; clear q1
      have Q2 := Lib.hid q2; clear q2
      have hz0 := hbr.size
      have x0 := (E1.cell 0).trans rfl
      have x1 := (E1.cell 1).trans rfl
      have x2 := (E1.cell 2).trans rfl
      have xf := E1.free
      have xz := E1.lt
      have y0 := (E2.cell 0).trans rfl
      have y1 := (E2.cell 1).trans rfl
      have y2 := (E2.cell 2).trans rfl
      have yf := E2.free
      have yz := E2.lt
      by_cases hlt : k < n
      · obtain ⟨u, hu⟩ := get_lt (xs := X) (k := k) (by rw [HX.out]; exact hlt)
        obtain ⟨t1, t2⟩ := Q2.out.at hu
        have hgw := (World.ownsRow.lt Q2.out.raw g rfl).2
        clear hu
        go_wp2_with fail
        refine wp_region_tail_below 4 (by kernel_rfl) (by kernel_rfl) ?_
        simp only [List.take_succ_cons, List.take_zero, List.drop_succ_cons, List.drop_zero]
        repeat (go_big_quiet_step (first | fail | (go_at_call 25; exact quiet_ret (HR.out _))))
        refine wpQuiet_nil ?_
        intro w3 hw3
        have hb3 := below_of_regrown hw3
        clear hw3
        obtain ⟨hc3, hf3⟩ := bcell hb3
        have hz3 := bsize hb3
        try simp only [sizes1] at hz3
        try simp only [sizes] at hc3 hf3
        have F1 := E1.below hb3
        have F2 := E2.below hb3
        have P1 := Q1.out.below hb3
        have P2 := Q2.out.below hb3
        have u1 := (hb3.cell (p := ⟨g, k, none⟩) hgw).trans t1
        have u2 := (hb3.frozen (p := ⟨g, k, none⟩) hgw).trans t2
        have hbw3 : Below w.heap.size w w3 := hbr.trans (hb3.mono hbr.size)
        have hgw3 := (World.ownsRow.lt P2.raw g rfl).2
        clear x0 x1 x2 xf xz
        clear y0 y1 y2 yf yz
        clear hc3 hf3 t1 t2 E1 E2 hbr Q1 Q2 hb3
        have Q1 := Lib.hid P1; clear P1
        have Q2 := Lib.hid P2; clear P2
        go_wp2_with fail
        go_roundw
        case rel =>
          refine ⟨k + 1, X.set k z, by omega, by go_num, (List.length_set ..).trans HX.out, ?_, F1.set_ne hne _, F2.set_ne (by omega) _, Q1.out.setne hap2 _, Q2.out.put k z, (by repeat (first | with_reducible exact Below.refl _ _ | with_reducible refine Below.drew ?_ | (with_reducible refine Below.alloc ?_ (by first | exact Nat.le_refl _ | omega | (dsimp only; omega) | (simp only [sizes]; omega)) _) | (with_reducible refine Below.setCell ?_ (by first | exact Nat.le_refl _ | omega | (dsimp only; omega) | (simp only [sizes]; omega)) _) | (refine Below.trans ?_ (Below.mono (by with_reducible assumption) (by first | exact Nat.le_refl _ | omega | (dsimp only; omega) | (simp only [sizes]; omega))))))⟩
          intro j hj
          rw [List.getElem?_set]
          by_cases e : k = j
          · subst e; rw [if_pos rfl, if_pos (by rw [HX.out]; exact hlt)]
          · rw [if_neg e]; exact HXJ.out j (by omega)
        case measure => simp [intOf]; omega
      · obtain rfl : k = n := by omega
        have hX : X = List.replicate k z := by
          apply List.ext_getElem?
          intro j
          rw [List.getElem?_replicate]
          by_cases hj : j < k
          · rw [if_pos hj]; exact HXJ.out j hj
          · rw [if_neg hj, List.getElem?_eq_none (by rw [HX.out]; omega)]
        subst hX
        have V := fun w ha hb => valid_any (.slice o1 k k1) (.slice (some ⟨g, 0, none⟩) k k) S (List.replicate k z) 0 w ha hb (by omega)
        rw [← HBE.out.1] at V
        cases hv : begB S
        · rw [hv] at V
          have HV := Lib.hid V; clear V
          have HF := Lib.hid hv; clear hv
          go_wp2_with fail
          with_reducible refine (HV.out _ Q1.out.row Q2.out.row).mono ?_
          rintro e w5 ⟨rfl, hb5⟩
          obtain ⟨hc5, hf5⟩ := bcell hb5
          have hz5 := bsize hb5
          try simp only [sizes1] at hz5
          try simp only [sizes] at hc5 hf5
          have F2 := E2.below hb5
          clear y0 y1 y2 yf yz
          clear hc5 hf5
          have y0 := (F2.cell 0).trans rfl
          have y1 := (F2.cell 1).trans rfl
          have y2 := (F2.cell 2).trans rfl
          have yf := F2.free
          have yz := F2.lt
          have hbw5 : Below w.heap.size w w5 := hbr.trans (hb5.mono hbr.size)
          go_wp2_with fail
          refine bodyPost_ret (v := .tuple #[.agg #[.slice none 0 0, .slice none 0 0, .int .i64 0], .bool false]) (by simp [results, Try.results8, go_sem, y0, y1, y2]) rfl ?_
          rw [show RetOwnM2 (begS S) (begT S) 0 (begB S) w = RetOwnM2 [] [] 0 false w by simp [begS, begT, HF.out]]
          exact retOwn2 (World.ownsRow_nil _ _ _ _) (World.ownsRow_nil _ _ _ _) (by repeat (first | with_reducible exact Below.refl _ _ | with_reducible refine Below.drew ?_ | (with_reducible refine Below.alloc ?_ (by first | exact Nat.le_refl _ | omega | (dsimp only; omega) | (simp only [sizes]; omega)) _) | (with_reducible refine Below.setCell ?_ (by first | exact Nat.le_refl _ | omega | (dsimp only; omega) | (simp only [sizes]; omega)) _) | (refine Below.trans ?_ (Below.mono (by with_reducible assumption) (by first | exact Nat.le_refl _ | omega | (dsimp only; omega) | (simp only [sizes]; omega))))))
        · rw [hv] at V
          have HV := Lib.hid V; clear V
          have HF := Lib.hid hv; clear hv
          go_wp2_with fail
          with_reducible refine (HV.out _ Q1.out.row Q2.out.row).mono ?_
          rintro e w5 ⟨rfl, hb5⟩
          obtain ⟨hc5, hf5⟩ := bcell hb5
          have hz5 := bsize hb5
          try simp only [sizes1] at hz5
          try simp only [sizes] at hc5 hf5
          have F1 := E1.below hb5
          have F2 := E2.below hb5
          clear x0 x1 x2 xf xz
          clear y0 y1 y2 yf yz
          clear hc5 hf5
          have x0 := (F1.cell 0).trans rfl
          have x1 := (F1.cell 1).trans rfl
          have x2 := (F1.cell 2).trans rfl
          have xf := F1.free
          have xz := F1.lt
          have y0 := (F2.cell 0).trans rfl
          have y1 := (F2.cell 1).trans rfl
          have y2 := (F2.cell 2).trans rfl
          have yf := F2.free
          have yz := F2.lt
          have hbw5 : Below w.heap.size w w5 := hbr.trans (hb5.mono hbr.size)
          have P1 := Lib.hid (Q1.out.below hb5)
          have P2 := Lib.hid (Q2.out.below hb5)
          go_wp2_with fail
          refine bodyPost_ret (v := .tuple #[.agg #[.slice o1 k k1, .slice (some ⟨g, 0, none⟩) k k, .int .i64 0], .bool true]) (by simp [results, Try.results8, go_sem, y0, y1, y2]) rfl ?_
          rw [show RetOwnM2 (begS S) (begT S) 0 (begB S) w = RetOwnM2 S (List.replicate k z) 0 true w by rw [HBE.out.2, HF.out, begS, HF.out]; rfl]
          exact retOwn2 (OwnEnc.lower (base := w.heap.size + 1) (by have h4 := OwnEnc.raw (P1.out); refine OwnEnc.of ?_; repeat (first | with_reducible exact h4 | (with_reducible refine World.ownsRow.alloc ?_ _) | (with_reducible refine owns_set_ne ?_ (own_gt h4 (by omega)) _) | (with_reducible refine owns_set_ne ?_ (own_ne (by omega)) _))) (by omega)) (OwnEnc.lower (base := w.heap.size + 1) (by have h4 := OwnEnc.raw (P2.out); refine OwnEnc.of ?_; repeat (first | with_reducible exact h4 | (with_reducible refine World.ownsRow.alloc ?_ _) | (with_reducible refine owns_set_ne ?_ (own_gt h4 (by omega)) _) | (with_reducible refine owns_set_ne ?_ (own_ne (by omega)) _))) (by omega)) (by repeat (first | with_reducible exact Below.refl _ _ | with_reducible refine Below.drew ?_ | (with_reducible refine Below.alloc ?_ (by first | exact Nat.le_refl _ | omega | (dsimp only; omega) | (simp only [sizes]; omega)) _) | (with_reducible refine Below.setCell ?_ (by first | exact Nat.le_refl _ | omega | (dsimp only; omega) | (simp only [sizes]; omega)) _) | (refine Below.trans ?_ (Below.mono (by with_reducible assumption) (by first | exact Nat.le_refl _ | omega | (dsimp only; omega) | (simp only [sizes]; omega))))))
theorem begin_any (va : Value) (S : List ByteArray) (w : World) (ha : StrRow w va S) (hs : S.length ≤ 1000000) : Calls Try.prog 8 #[va] w (RetRow2 (begS S) (begT S) 0 (begB S) w) := (begin_own va S w ha hs).mono fun _ _ h => h.row
end Go.Proofs.Ytfomfokgibijjaa
