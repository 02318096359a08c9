/-
  PROVED: 'BalloonTellsSaid': for every balloon, number, pages, port, value and choice, BalloonTells hands back true and leaves all memory as it was. Conditions: none.
-/
import Derived.Test.YtalfiiodioihdaaBalTells
import Derived.Test.YtalfiiodioihdaaOpen
namespace Go.Proofs.Ytalfiiodioihdaa
open Go.ChangeShapes Go.WideShapes Go.ChangeAt Go.RowKit

theorem balloon_cells {H : Type} {enc : TypeId × Value → H} {w : World} {base : Nat} {sp : Nat → Bool} {held : Bool} {fuel : Nat} {cs : List Value} {x : DataW H × List MemPlace}
    (h : DataW.trod enc Try.prog w base sp held fuel 25 cs = some x) (hl : cs.length = 2) : ∃ T G : Nat, cs = [.int .u32 T, .int .u32 G] ∧ T < 4294967296 ∧ G < 4294967296 := by
  obtain ⟨n, hf⟩ := open_cells Try.underlying25 (by kernel_rfl) h hl
  obtain ⟨c0, y0, e0, t0⟩ := hf 0 _ rfl
  obtain ⟨c1, y1, e1, t1⟩ := hf 1 _ rfl
  obtain ⟨i0, hi0, _, w0⟩ := DataW.trod_int Try.underlying22 t0
  obtain ⟨i1, hi1, _, w1⟩ := DataW.trod_int Try.underlying22 t1
  have b0 := bounds_u32 w0
  have b1 := bounds_u32 w1
  refine ⟨i0.toNat, i1.toNat, ?_, by omega, by omega⟩
  match cs, hl with
  | [a0, a1], _ =>
    simp only [List.getElem?_cons_zero, List.getElem?_cons_succ, Option.some.injEq, List.cons.injEq, and_true] at e0 e1 hi0 hi1
    rw [e0, e1, hi0, hi1, Int.toNat_of_nonneg (by omega), Int.toNat_of_nonneg (by omega)]
theorem balloon_arg {H : Type} {enc : TypeId × Value → H} {w : World} {r : Reach} {b0 base : Nat} {sp : Nat → Bool} {held : Bool} {v : Value} {d : DataW H} {p : List MemPlace} (hv : Value.okWide Try.prog w r b0 25 v) (h : DataW.Trod enc Try.prog w base sp held 25 v d p) : ∃ T G : Nat, v = .agg #[.int .u32 T, .int .u32 G] ∧ T < 4294967296 ∧ G < 4294967296 := by
  obtain ⟨cs, rfl, hsz⟩ := okWide_struct Try.underlying25 hv
  obtain ⟨l⟩ := cs
  obtain ⟨fuel, hf⟩ := h
  obtain ⟨T, G, hc, hT, hG⟩ := balloon_cells hf (hsz.trans (by kernel_rfl))
  exact ⟨T, G, congrArg (fun z : List Value => Value.agg z.toArray) hc, hT, hG⟩

theorem balloonTells_contract {H : Type} {enc : TypeId × Value → H} (W : World) (base : Nat) (args : Array Value) (ds gs : List (DataW H)) (before : List MemPlace)
    (hval0 : ∀ (j : Nat) t v, Try.f5.params[j]? = some t → args[j]? = some v → Value.okWide Try.prog W .any base t v)
    (hW : DataW.Whole enc Try.prog Try.f5.params.toList Rows.balloonTellsSpec.vars false W args.toList ds gs before) :
    Calls Try.prog 5 args W fun e W' => ∃ v, e = .returned v ∧ Rows.balloonTellsSpec.post enc Try.prog Try.f5 false true false false W args v W' := by
  have hW0 := hW
  obtain ⟨p, q, hA0, hV, _, _, _⟩ := hW
  have hA : DataW.TrodAll enc Try.prog W 0 (fun _ => true) true Try.f5.params.toList args.toList ds p := hA0
  clear hA0
  rw [Try.params5] at hA hval0
  obtain ⟨v0, vs0, d0, ds0, p0, q0, hargs0, rfl, _, h0, r0⟩ := trodAll_cons hA
  obtain ⟨v1, vs1, d1, ds1, p1, q1, hargs1, rfl, _, h1, r1⟩ := trodAll_cons r0
  obtain ⟨v2, vs2, d2, ds2, p2, q2, hargs2, rfl, _, h2, r2⟩ := trodAll_cons r1
  obtain ⟨v3, vs3, d3, ds3, p3, q3, hargs3, rfl, _, h3, r3⟩ := trodAll_cons r2
  obtain ⟨v4, vs4, d4, ds4, p4, q4, hargs4, rfl, _, h4, r4⟩ := trodAll_cons r3
  obtain ⟨v5, vs5, d5, ds5, p5, q5, hargs5, rfl, _, h5, r5⟩ := trodAll_cons r4
  obtain ⟨hnil, rfl, _⟩ := trodAll_nil r5
  obtain rfl : args = #[v0, v1, v2, v3, v4, v5] := by cases args; simp_all
  obtain ⟨T, G, rfl, hT, hG⟩ := balloon_arg (hval0 0 _ v0 rfl rfl) h0
  obtain ⟨n, rfl, _, _, _⟩ := open_int Try.underlying3 (hval0 1 _ v1 rfl rfl) h1
  obtain ⟨pages, rfl, _, _, wp⟩ := open_int Try.underlying3 (hval0 2 _ v2 rfl rfl) h2
  obtain ⟨port, rfl, _, _, wq⟩ := open_int Try.underlying3 (hval0 3 _ v3 rfl rfl) h3
  obtain ⟨V, rfl, _, _, wV⟩ := open_int Try.underlying22 (hval0 4 _ v4 rfl rfl) h4
  obtain ⟨b, rfl, _, _⟩ := open_bool Try.underlying4 (hval0 5 _ v5 rfl rfl) h5
  have bV := bounds_u32 wV
  obtain ⟨v, rfl⟩ : ∃ v : Nat, V = v := ⟨V.toNat, by omega⟩
  refine Calls.mono (R := Ret W (.bool true)) ?_ (fun e W' ⟨he, hb⟩ => ⟨_, he, law_post rfl hW0 hb (of_decide_eq_true (by kernel_rfl)) 4 rfl Try.underlying4 (fun _ => rfl)⟩)
  exact tells_any T G v n pages port b W hG hT (by omega) (bounds_i64 wp) (bounds_i64 wq)

set_option maxRecDepth 100000 in
theorem balloonTells_lifted (os : Os) (started : os.Started) (H : Type) (enc : TypeId × Value → H) :
    ReturnsInHanded {} Try.checked os 5 .any (Rows.balloonTellsSpec.pre6 enc Try.prog Try.f5 Rows.balloonTellsRow.domain false) (Rows.balloonTellsSpec.post enc Try.prog Try.f5 false true false false) := by
  refine returnsInHanded_of_change (C := Try.checked) Try.own started (by kernel_rfl) Try.func5
    (ChangeSpec.witness6 (enc := enc) (C := Try.checked) false ⟨#[], #[.agg #[.int .u32 0, .int .u32 0], .int .i64 0, .int .i64 0, .int .i64 0, .int .u32 0, .bool false], []⟩ 8 (by kernel_rfl) (by kernel_rfl) (by kernel_rfl) (by kernel_rfl)) ?_
  intro W base args ds gs before hval0 hW _ _
  exact balloonTells_contract W base args ds gs before hval0 hW

theorem balloonTells_holds : Rows.BalloonTellsSaid :=
  OpenClaim.holds_of_wide 5 Try.f5 rfl rfl rfl rfl rfl rfl rfl ⟨rfl, rfl, rfl, rfl, rfl⟩ rfl rfl rfl rfl rfl (by kernel_rfl) Try.func5 (by kernel_rfl)
    (of_decide_eq_true (by kernel_rfl)) (by unfold Func.isWrapper; first | (rw [if_pos (by decide +kernel)]; kernel_rfl) | (rw [if_neg (by decide +kernel)]; exact ⟨rfl, rfl⟩))
    (fun os started H enc _ => balloonTells_lifted os started H enc)
end Go.Proofs.Ytalfiiodioihdaa
