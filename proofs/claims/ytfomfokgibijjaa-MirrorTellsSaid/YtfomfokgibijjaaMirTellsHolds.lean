/-
  PROVED: 'MirrorTellsSaid': for every mirror, number, block and data, MirrorTells hands back true and leaves all memory as it was. Conditions: none.
-/
import Derived.Test.YtfomfokgibijjaaMirTells
import Derived.Test.YtfomfokgibijjaaOpen
namespace Go.Proofs.Ytfomfokgibijjaa
open Go.ChangeShapes Go.WideShapes Go.ChangeAt Go.RowKit Go.ChangeMaps

theorem flat_one {α : Type} (f : α → Value) (xs : List α) : xs.flatMap (fun x => [f x]) = xs.map f := by
  induction xs with
  | nil => rfl
  | cons x xs ih => rw [List.flatMap_cons, ih]; rfl
theorem strs_cells {H : Type} {enc : TypeId × Value → H} {w : World} {base : Nat} {sp : Nat → Bool} {held : Bool} {fuel : Nat} {c : Value} {x : DataW H × List MemPlace}
    (h : DataW.trod enc Try.prog w base sp held fuel 22 [c] = some x) : ∃ ss : List ByteArray, StrRow w c ss := by
  obtain ⟨v, xs, hcs, hrow⟩ := open_rowOf (R := fun _ cs (s : ByteArray) => cs = [.string s]) (size := 1) Try.underlying22 (by kernel_rfl) (by decide) (fun n cs y hy _ => by
    obtain ⟨s, hs, _⟩ := DataW.trod_string Try.underlying9 hy
    exact ⟨s, hs⟩) h
  injection hcs with hcs
  subst hcs
  have hr := rowAt_of_rowOf (f := fun s => [Value.string s]) (by decide) (fun _ => rfl) hrow
  rw [flat_one] at hr
  exact ⟨xs, hr⟩
theorem mirror_cells {H : Type} {enc : TypeId × Value → H} {w : World} {base : Nat} {sp : Nat → Bool} {held : Bool} {fuel : Nat} {cs : List Value} {x : DataW H × List MemPlace}
    (h : DataW.trod enc Try.prog w base sp held fuel 24 cs = some x) (hl : cs.length = 3) : ∃ (S T : List ByteArray) (vs vt : Value) (c : Int), cs = [vs, vt, .int .i64 c] ∧ StrRow w vs S ∧ StrRow w vt T ∧ -9223372036854775808 ≤ c ∧ c ≤ 9223372036854775807 := by
  obtain ⟨n, hf⟩ := open_cells Try.underlying24 (by kernel_rfl) h hl
  obtain ⟨c0, y0, e0, t0⟩ := hf 0 _ rfl
  obtain ⟨c1, y1, e1, t1⟩ := hf 1 _ rfl
  obtain ⟨c2, y2, e2, t2⟩ := hf 2 _ rfl
  obtain ⟨S, hS⟩ := strs_cells t0
  obtain ⟨T, hT⟩ := strs_cells t1
  obtain ⟨i2, hi2, _, w2⟩ := DataW.trod_int Try.underlying3 t2
  have b2 := bounds_i64 w2
  refine ⟨S, T, c0, c1, i2, ?_, hS, hT, b2⟩
  match cs, hl with
  | [a0, a1, a2], _ =>
    simp only [List.getElem?_cons_zero, List.getElem?_cons_succ, Option.some.injEq, List.cons.injEq, and_true] at e0 e1 e2 hi2
    rw [e0, e1, e2, hi2]
theorem mirror_arg {H : Type} {enc : TypeId × Value → H} {w : World} {r : Reach} {b0 base : Nat} {sp : Nat → Bool} {held : Bool} {v : Value} {d : DataW H} {p : List MemPlace} (hv : Value.okWide Try.prog w r b0 24 v) (h : DataW.Trod enc Try.prog w base sp held 24 v d p) : ∃ (S T : List ByteArray) (vs vt : Value) (c : Int), v = .agg #[vs, vt, .int .i64 c] ∧ StrRow w vs S ∧ StrRow w vt T ∧ -9223372036854775808 ≤ c ∧ c ≤ 9223372036854775807 := by
  obtain ⟨cs, rfl, hsz⟩ := okWide_struct Try.underlying24 hv
  obtain ⟨l⟩ := cs
  obtain ⟨fuel, hf⟩ := h
  obtain ⟨S, T, vs, vt, c, hc, hS, hT, hb⟩ := mirror_cells hf (hsz.trans (by kernel_rfl))
  exact ⟨S, T, vs, vt, c, congrArg (fun z : List Value => Value.agg z.toArray) hc, hS, hT, hb⟩

theorem mirrorTells_contract {H : Type} {enc : TypeId × Value → H} (W : World) (base : Nat) (args : Array Value) (ds gs : List (DataW H)) (before : List MemPlace)
    (hval0 : ∀ (j : Nat) t v, Try.f3.params[j]? = some t → args[j]? = some v → Value.okWide Try.prog W .any base t v)
    (hW : DataW.Whole enc Try.prog Try.f3.params.toList Rows.mirrorTellsSpec.vars false W args.toList ds gs before) :
    Calls Try.prog 3 args W fun e W' => ∃ v, e = .returned v ∧ Rows.mirrorTellsSpec.post enc Try.prog Try.f3 false true false false W args v W' := by
  have hW0 := hW
  obtain ⟨p, q, hA0, hV, _, _, _⟩ := hW
  have hA : DataW.TrodAll enc Try.prog W 0 (fun _ => true) true Try.f3.params.toList args.toList ds p := hA0
  clear hA0
  rw [Try.params3] at hA hval0
  obtain ⟨v0, vs0, d0, ds0, p0, q0, hargs0, rfl, _, h0, r0⟩ := trodAll_cons hA
  obtain ⟨v1, vs1, d1, ds1, p1, q1, hargs1, rfl, _, h1, r1⟩ := trodAll_cons r0
  obtain ⟨v2, vs2, d2, ds2, p2, q2, hargs2, rfl, _, h2, r2⟩ := trodAll_cons r1
  obtain ⟨v3, vs3, d3, ds3, p3, q3, hargs3, rfl, _, h3, r3⟩ := trodAll_cons r2
  obtain ⟨hnil, rfl, _⟩ := trodAll_nil r3
  obtain rfl : args = #[v0, v1, v2, v3] := by cases args; simp_all
  obtain ⟨S, T, vs, vt, c, rfl, hS, hT, hc⟩ := mirror_arg (hval0 0 _ v0 rfl rfl) h0
  obtain ⟨n, rfl, _, _, wn⟩ := open_int Try.underlying3 (hval0 1 _ v1 rfl rfl) h1
  obtain ⟨b, rfl, _, _, _⟩ := open_int Try.underlying3 (hval0 2 _ v2 rfl rfl) h2
  obtain ⟨s, rfl, _, _, hs⟩ := open_string Try.underlying9 (hval0 3 _ v3 rfl rfl) h3
  refine Calls.mono (R := Ret W (.bool true)) ?_ (fun e W' ⟨he, hb⟩ => ⟨_, he, law_post rfl hW0 hb (of_decide_eq_true (by kernel_rfl)) 4 rfl Try.underlying4 (fun _ => rfl)⟩)
  exact tells_any vs vt S T c n b s W hS hT hc (bounds_i64 wn) (by unfold maxLen at hs; omega)

set_option maxRecDepth 100000 in
theorem mirrorTells_lifted (os : Os) (started : os.Started) (H : Type) (enc : TypeId × Value → H) :
    ReturnsInHanded {} Try.checked os 3 .any (Rows.mirrorTellsSpec.pre6 enc Try.prog Try.f3 Rows.mirrorTellsRow.domain false) (Rows.mirrorTellsSpec.post enc Try.prog Try.f3 false true false false) := by
  refine returnsInHanded_of_change (C := Try.checked) Try.own started (by kernel_rfl) Try.func3
    (ChangeSpec.witness6 (enc := enc) (C := Try.checked) false ⟨#[], #[.agg #[.slice none 0 0, .slice none 0 0, .int .i64 0], .int .i64 0, .int .i64 0, .string ⟨#[]⟩], []⟩ 8 (by kernel_rfl) (by kernel_rfl) (by kernel_rfl) (by kernel_rfl)) ?_
  intro W base args ds gs before hval0 hW _ _
  exact mirrorTells_contract W base args ds gs before hval0 hW

theorem mirrorTells_holds : Rows.MirrorTellsSaid :=
  OpenClaim.holds_of_wide 3 Try.f3 rfl rfl rfl rfl rfl rfl rfl ⟨rfl, rfl, rfl, rfl, rfl⟩ rfl rfl rfl rfl rfl (by kernel_rfl) Try.func3 (by kernel_rfl)
    (of_decide_eq_true (by kernel_rfl)) (by unfold Func.isWrapper; first | (rw [if_pos (by decide +kernel)]; kernel_rfl) | (rw [if_neg (by decide +kernel)]; exact ⟨rfl, rfl⟩))
    (fun os started H enc _ => mirrorTells_lifted os started H enc)
end Go.Proofs.Ytfomfokgibijjaa
