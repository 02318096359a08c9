/-
  PROVED: 'TaxTellsSaid': for every two claims, list of claims and numbers, TaxTells hands back true and leaves all memory as it was. Conditions: none.
-/
import Derived.Test.YtclnjjppcdgkiaaTaxLawTells
import Derived.Test.YtclnjjppcdgkiaaOpen
namespace Go.Proofs.Ytclnjjppcdgkiaa
open Go.ChangeShapes Go.WideShapes Go.ChangeAt Go.RowKit

theorem claim_cells {H : Type} {enc : TypeId × Value → H} {w : World} {base : Nat} {sp : Nat → Bool} {held : Bool} {fuel : Nat} {cs : List Value} {x : DataW H × List MemPlace}
    (h : DataW.trod enc Try.prog w base sp held fuel 23 cs = some x) (hl : cs.length = 5) : ∃ c : Clm, cs = clmCells c := by
  obtain ⟨n, hf⟩ := open_cells Try.underlying23 (by kernel_rfl) h hl
  obtain ⟨c0, y0, e0, t0⟩ := hf 0 _ rfl
  obtain ⟨c1, y1, e1, t1⟩ := hf 1 _ rfl
  obtain ⟨c2, y2, e2, t2⟩ := hf 2 _ rfl
  obtain ⟨c3, y3, e3, t3⟩ := hf 3 _ rfl
  obtain ⟨c4, y4, e4, t4⟩ := hf 4 _ rfl
  obtain ⟨i0, hi0, _⟩ := DataW.trod_int Try.underlying3 t0
  obtain ⟨i1, hi1, _⟩ := DataW.trod_int Try.underlying3 t1
  obtain ⟨i2, hi2, _⟩ := DataW.trod_int Try.underlying3 t2
  obtain ⟨i3, hi3, _⟩ := DataW.trod_int Try.underlying3 t3
  obtain ⟨i4, hi4, _⟩ := DataW.trod_int Try.underlying3 t4
  refine ⟨⟨i0, i1, i2, i3, i4⟩, ?_⟩
  match cs, hl with
  | [a0, a1, a2, a3, a4], _ =>
    simp only [List.getElem?_cons_zero, List.getElem?_cons_succ, Option.some.injEq, List.cons.injEq, and_true] at e0 e1 e2 e3 e4 hi0 hi1 hi2 hi3 hi4
    rw [e0, e1, e2, e3, e4, hi0, hi1, hi2, hi3, hi4]
    rfl
theorem claim_arg {H : Type} {enc : TypeId × Value → H} {w : World} {r : Reach} {b0 base : Nat} {sp : Nat → Bool} {held : Bool} {v : Value} {d : DataW H} {p : List MemPlace} (hv : Value.okWide Try.prog w r b0 23 v) (h : DataW.Trod enc Try.prog w base sp held 23 v d p) : ∃ c : Clm, v = .agg (clmCells c).toArray := by
  obtain ⟨cs, rfl, hsz⟩ := okWide_struct Try.underlying23 hv
  obtain ⟨l⟩ := cs
  obtain ⟨fuel, hf⟩ := h
  obtain ⟨c, hc⟩ := claim_cells hf (hsz.trans (by kernel_rfl))
  exact ⟨c, congrArg (fun z : List Value => Value.agg z.toArray) hc⟩
theorem claims_arg {H : Type} {enc : TypeId × Value → H} {w : World} {r : Reach} {b0 base : Nat} {sp : Nat → Bool} {held : Bool} {v : Value} {d : DataW H} {p : List MemPlace} (hv : Value.okWide Try.prog w r b0 24 v) (h : DataW.Trod enc Try.prog w base sp held 24 v d p) : ∃ cs : List Clm, ClmRow w v cs := by
  obtain ⟨a0, len, cap, rfl⟩ := okWide_slice Try.underlying24 hv
  obtain ⟨fuel, hf⟩ := h
  obtain ⟨v, xs, hcs, hrow⟩ := open_rowOf (R := fun _ cs (c : Clm) => cs = clmCells c) (size := 5) Try.underlying24 (by kernel_rfl) (by decide) (fun n cs y hy hl => claim_cells hy hl) hf
  obtain rfl : Value.slice a0 len cap = v := by simpa [Value.cells] using hcs
  exact ⟨xs, rowAt_of_rowOf (by decide) (fun _ => rfl) hrow⟩

set_option maxRecDepth 100000 in
theorem taxTells_contract {H : Type} {enc : TypeId × Value → H} (W : World) (base : Nat) (args : Array Value) (ds gs : List (DataW H)) (before : List MemPlace)
    (hval0 : ∀ (j : Nat) t v, Try.f3.params[j]? = some t → args[j]? = some v → Value.okWide Try.prog W .any base t v)
    (hW : DataW.Whole enc Try.prog Try.f3.params.toList Rows.taxTellsSpec.vars false W args.toList ds gs before) :
    Calls Try.prog 3 args W fun e W' => ∃ v, e = .returned v ∧ Rows.taxTellsSpec.post enc Try.prog Try.f3 false true false false W args v W' := by
  have hW0 := hW
  obtain ⟨p, q, hA0, hV, _, _, _⟩ := hW
  have hA : DataW.TrodAll enc Try.prog W 0 (fun _ => true) true Try.f3.params.toList args.toList ds p := hA0
  clear hA0
  rw [Try.params3] at hA hval0
  obtain ⟨v0, vs0, d0, ds0, p0, q0, hargs0, rfl, _, h0, r0⟩ := trodAll_cons hA
  obtain ⟨v1, vs1, d1, ds1, p1, q1, hargs1, rfl, _, h1, r1⟩ := trodAll_cons r0
  obtain ⟨v2, vs2, d2, ds2, p2, q2, hargs2, rfl, _, h2, r2⟩ := trodAll_cons r1
  obtain ⟨v3, vs3, d3, ds3, p3, q3, hargs3, rfl, _, h3, r3⟩ := trodAll_cons r2
  obtain ⟨v4, vs4, d4, ds4, p4, q4, hargs4, rfl, _, h4, r4⟩ := trodAll_cons r3
  obtain ⟨v5, vs5, d5, ds5, p5, q5, hargs5, rfl, _, h5, r5⟩ := trodAll_cons r4
  obtain ⟨v6, vs6, d6, ds6, p6, q6, hargs6, rfl, _, h6, r6⟩ := trodAll_cons r5
  obtain ⟨v7, vs7, d7, ds7, p7, q7, hargs7, rfl, _, h7, r7⟩ := trodAll_cons r6
  obtain ⟨v8, vs8, d8, ds8, p8, q8, hargs8, rfl, _, h8, r8⟩ := trodAll_cons r7
  obtain ⟨hnil, rfl, _⟩ := trodAll_nil r8
  obtain rfl : args = #[v0, v1, v2, v3, v4, v5, v6, v7, v8] := by cases args; simp_all
  obtain ⟨⟨r, l, s, p, a⟩, rfl⟩ := claim_arg (hval0 0 _ v0 rfl rfl) h0
  obtain ⟨⟨r', l', s', p', a'⟩, rfl⟩ := claim_arg (hval0 1 _ v1 rfl rfl) h1
  obtain ⟨cs, hrow⟩ := claims_arg (hval0 2 _ v2 rfl rfl) h2
  obtain ⟨t, rfl, _, _, _⟩ := open_int Try.underlying3 (hval0 3 _ v3 rfl rfl) h3
  obtain ⟨sd, rfl, _, _, wS⟩ := open_int Try.underlying25 (hval0 4 _ v4 rfl rfl) h4
  obtain ⟨pages, rfl, _, _, _⟩ := open_int Try.underlying3 (hval0 5 _ v5 rfl rfl) h5
  obtain ⟨n, rfl, _, _, _⟩ := open_int Try.underlying3 (hval0 6 _ v6 rfl rfl) h6
  obtain ⟨old, rfl, _, _, _⟩ := open_int Try.underlying3 (hval0 7 _ v7 rfl rfl) h7
  obtain ⟨total, rfl, _, _, _⟩ := open_int Try.underlying3 (hval0 8 _ v8 rfl rfl) h8
  have bs := bounds_u64 wS
  refine Calls.mono (R := Ret W (.bool true)) ?_ (fun e W' ⟨he, hb⟩ => ⟨_, he, law_post rfl hW0 hb (of_decide_eq_true (by kernel_rfl)) 4 rfl Try.underlying4 (fun _ => rfl)⟩)
  by_cases h : cs.length ≤ 20
  · exact tells_in r l s p a r' l' s' p' a' t sd pages n old total _ cs W hrow h ⟨by omega, by omega⟩
  · exact tells_out r l s p a r' l' s' p' a' t sd pages n old total _ cs W hrow (by omega)

set_option maxRecDepth 100000 in
theorem taxTells_lifted (os : Os) (started : os.Started) (H : Type) (enc : TypeId × Value → H) :
    ReturnsInHanded {} Try.checked os 3 .any (Rows.taxTellsSpec.pre6 enc Try.prog Try.f3 Rows.taxTellsRow.domain false) (Rows.taxTellsSpec.post enc Try.prog Try.f3 false true false false) := by
  refine returnsInHanded_of_change (C := Try.checked) Try.own started (by kernel_rfl) Try.func3
    (ChangeSpec.witness6 (enc := enc) (C := Try.checked) false ⟨#[], #[.agg #[.int .i64 0, .int .i64 0, .int .i64 0, .int .i64 0, .int .i64 0], .agg #[.int .i64 0, .int .i64 0, .int .i64 0, .int .i64 0, .int .i64 0], .slice none 0 0, .int .i64 0, .int .u64 0, .int .i64 0, .int .i64 0, .int .i64 0, .int .i64 0], []⟩ 8 (by kernel_rfl) (by kernel_rfl) (by kernel_rfl) (by kernel_rfl)) ?_
  intro W base args ds gs before hval0 hW _ _
  exact taxTells_contract W base args ds gs before hval0 hW

theorem taxTells_holds : Rows.TaxTellsSaid :=
  OpenClaim.holds_of_wide 3 Try.f3 rfl rfl rfl rfl rfl rfl rfl ⟨rfl, rfl, rfl, rfl, rfl⟩ rfl rfl rfl rfl rfl (by kernel_rfl) Try.func3 (by kernel_rfl)
    (of_decide_eq_true (by kernel_rfl)) (by unfold Func.isWrapper; first | (rw [if_pos (by decide +kernel)]; kernel_rfl) | (rw [if_neg (by decide +kernel)]; exact ⟨rfl, rfl⟩))
    (fun os started H enc _ => taxTells_lifted os started H enc)
end Go.Proofs.Ytclnjjppcdgkiaa
