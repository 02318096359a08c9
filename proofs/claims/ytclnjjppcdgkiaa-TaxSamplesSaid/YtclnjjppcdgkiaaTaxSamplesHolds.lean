/-
  PROVED: 'TaxSamplesSaid': for every seed and all four numbers, TaxSamples hands back true and leaves all memory as it was. Conditions: none.
-/
import Derived.Test.YtclnjjppcdgkiaaTaxLawSamples
import Derived.Test.YtclnjjppcdgkiaaLawRows
namespace Go.Proofs.Ytclnjjppcdgkiaa
open Go.ChangeShapes Go.WideShapes Go.ChangeAt Go.RowKit

theorem taxSamples_contract {H : Type} {enc : TypeId × Value → H} (W : World) (base : Nat) (args : Array Value) (ds gs : List (DataW H)) (before : List MemPlace)
    (hval0 : ∀ (j : Nat) t v, Try.f9.params[j]? = some t → args[j]? = some v → Value.okWide Try.prog W .any base t v)
    (hW : DataW.Whole enc Try.prog Try.f9.params.toList Rows.taxSamplesSpec.vars false W args.toList ds gs before) :
    Calls Try.prog 9 args W fun e W' => ∃ v, e = .returned v ∧ Rows.taxSamplesSpec.post enc Try.prog Try.f9 false true false false W args v W' := by
  have hW0 := hW
  obtain ⟨p, q, hA0, hV, _, _, _⟩ := hW
  have hA : DataW.TrodAll enc Try.prog W 0 (fun _ => true) true Try.f9.params.toList args.toList ds p := hA0
  clear hA0
  rw [Try.params9] at hA hval0
  obtain ⟨v0, vs0, d0, ds0, p0, q0, hargs0, rfl, _, h0, r0⟩ := trodAll_cons hA
  obtain ⟨v1, vs1, d1, ds1, p1, q1, hargs1, rfl, _, h1, r1⟩ := trodAll_cons r0
  obtain ⟨v2, vs2, d2, ds2, p2, q2, hargs2, rfl, _, h2, r2⟩ := trodAll_cons r1
  obtain ⟨v3, vs3, d3, ds3, p3, q3, hargs3, rfl, _, h3, r3⟩ := trodAll_cons r2
  obtain ⟨v4, vs4, d4, ds4, p4, q4, hargs4, rfl, _, h4, r4⟩ := trodAll_cons r3
  obtain ⟨hnil, rfl, _⟩ := trodAll_nil r4
  obtain rfl : args = #[v0, v1, v2, v3, v4] := by cases args; simp_all
  obtain ⟨sd, rfl, _, _, wS⟩ := open_int Try.underlying25 (hval0 0 _ v0 rfl rfl) h0
  obtain ⟨pages, rfl, _, _, _⟩ := open_int Try.underlying3 (hval0 1 _ v1 rfl rfl) h1
  obtain ⟨n, rfl, _, _, _⟩ := open_int Try.underlying3 (hval0 2 _ v2 rfl rfl) h2
  obtain ⟨old, rfl, _, _, _⟩ := open_int Try.underlying3 (hval0 3 _ v3 rfl rfl) h3
  obtain ⟨used, rfl, _, _, wU⟩ := open_int Try.underlying3 (hval0 4 _ v4 rfl rfl) h4
  have bs := bounds_u64 wS
  refine Calls.mono (R := Ret W (.bool true)) ?_ (fun e W' ⟨he, hb⟩ => ⟨_, he, law_post rfl hW0 hb (of_decide_eq_true (by kernel_rfl)) 4 rfl Try.underlying4 (fun _ => rfl)⟩)
  by_cases h : pages < 1 ∨ 32 < pages ∨ n < 1 ∨ 60 < n ∨ old < 0 ∨ 1000 < old
  · exact samples_bad sd pages n old used W h
  · exact samples_good sd pages n old used W ⟨by omega, by omega⟩ (by omega) (by omega) (by omega) (by omega) (by omega) (by omega) (bounds_i64 wU)

set_option maxRecDepth 100000 in
theorem taxSamples_lifted (os : Os) (started : os.Started) (H : Type) (enc : TypeId × Value → H) :
    ReturnsInHanded {} Try.checked os 9 .any (Rows.taxSamplesSpec.pre6 enc Try.prog Try.f9 Rows.taxSamplesRow.domain false) (Rows.taxSamplesSpec.post enc Try.prog Try.f9 false true false false) := by
  refine returnsInHanded_of_change (C := Try.checked) Try.own started (by kernel_rfl) Try.func9
    (ChangeSpec.witness6 (enc := enc) (C := Try.checked) false ⟨#[], #[.int .u64 0, .int .i64 0, .int .i64 0, .int .i64 0, .int .i64 0], []⟩ 8 (by kernel_rfl) (by kernel_rfl) (by kernel_rfl) (by kernel_rfl)) ?_
  intro W base args ds gs before hval0 hW _ _
  exact taxSamples_contract W base args ds gs before hval0 hW

theorem taxSamples_holds : Rows.TaxSamplesSaid :=
  OpenClaim.holds_of_wide 9 Try.f9 rfl rfl rfl rfl rfl rfl rfl ⟨rfl, rfl, rfl, rfl, rfl⟩ rfl rfl rfl rfl rfl (by kernel_rfl) Try.func9 (by kernel_rfl)
    (of_decide_eq_true (by kernel_rfl)) (by unfold Func.isWrapper; first | (rw [if_pos (by decide +kernel)]; kernel_rfl) | (rw [if_neg (by decide +kernel)]; exact ⟨rfl, rfl⟩))
    (fun os started H enc _ => taxSamples_lifted os started H enc)
end Go.Proofs.Ytclnjjppcdgkiaa
