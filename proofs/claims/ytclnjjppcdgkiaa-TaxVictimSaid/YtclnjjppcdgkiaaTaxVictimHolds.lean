/-
  PROVED: 'TaxVictimSaid': for every list of numbers and every tax, TaxVictim hands back true and leaves all memory as it was. Conditions: none.
-/
import Derived.Test.YtclnjjppcdgkiaaTaxLawVictim
import Derived.Test.YtclnjjppcdgkiaaLawRows
namespace Go.Proofs.Ytclnjjppcdgkiaa
open Go.ChangeShapes Go.WideShapes Go.ChangeAt Go.RowKit

theorem taxVictim_contract {H : Type} {enc : TypeId × Value → H} (W : World) (base : Nat) (args : Array Value) (ds gs : List (DataW H)) (before : List MemPlace)
    (hval0 : ∀ (j : Nat) t v, Try.f7.params[j]? = some t → args[j]? = some v → Value.okWide Try.prog W .any base t v)
    (hW : DataW.Whole enc Try.prog Try.f7.params.toList Rows.taxVictimSpec.vars false W args.toList ds gs before) :
    Calls Try.prog 7 args W fun e W' => ∃ v, e = .returned v ∧ Rows.taxVictimSpec.post enc Try.prog Try.f7 false true false false W args v W' := by
  have hW0 := hW
  obtain ⟨p, q, hA0, hV, _, _, _⟩ := hW
  have hA : DataW.TrodAll enc Try.prog W 0 (fun _ => true) true Try.f7.params.toList args.toList ds p := hA0
  clear hA0
  rw [Try.params7] at hA hval0
  obtain ⟨v0, vs0, d0, ds0, p0, q0, hargs0, rfl, _, h0, r0⟩ := trodAll_cons hA
  obtain ⟨v1, vs1, d1, ds1, p1, q1, hargs1, rfl, _, h1, r1⟩ := trodAll_cons r0
  obtain ⟨hnil, rfl, _⟩ := trodAll_nil r1
  obtain rfl : args = #[v0, v1] := by cases args; simp_all
  obtain ⟨ao, xs, cap, rfl, hrow, hl, _⟩ := open_intRow Try.underlying29 Try.underlying3 (by kernel_rfl) (hval0 0 _ v0 rfl rfl) h0
  obtain ⟨t, rfl, _, _, wt⟩ := open_int Try.underlying3 (hval0 1 _ v1 rfl rfl) h1
  refine Calls.mono (R := Ret W (.bool true)) ?_ (fun e W' ⟨he, hb⟩ => ⟨_, he, law_post rfl hW0 hb (of_decide_eq_true (by kernel_rfl)) 4 rfl Try.underlying4 (fun _ => rfl)⟩)
  by_cases h : xs.length ≤ 8
  · exact victim_law_in _ xs t W hrow h (bounds_i64 wt)
  · exact victim_law_out ao xs.length cap t W (by omega) hl

set_option maxRecDepth 100000 in
theorem taxVictim_lifted (os : Os) (started : os.Started) (H : Type) (enc : TypeId × Value → H) :
    ReturnsInHanded {} Try.checked os 7 .any (Rows.taxVictimSpec.pre6 enc Try.prog Try.f7 Rows.taxVictimRow.domain false) (Rows.taxVictimSpec.post enc Try.prog Try.f7 false true false false) := by
  refine returnsInHanded_of_change (C := Try.checked) Try.own started (by kernel_rfl) Try.func7
    (ChangeSpec.witness6 (enc := enc) (C := Try.checked) false ⟨#[], #[.slice none 0 0, .int .i64 0], []⟩ 8 (by kernel_rfl) (by kernel_rfl) (by kernel_rfl) (by kernel_rfl)) ?_
  intro W base args ds gs before hval0 hW _ _
  exact taxVictim_contract W base args ds gs before hval0 hW

theorem taxVictim_holds : Rows.TaxVictimSaid :=
  OpenClaim.holds_of_wide 7 Try.f7 rfl rfl rfl rfl rfl rfl rfl ⟨rfl, rfl, rfl, rfl, rfl⟩ rfl rfl rfl rfl rfl (by kernel_rfl) Try.func7 (by kernel_rfl)
    (of_decide_eq_true (by kernel_rfl)) (by unfold Func.isWrapper; first | (rw [if_pos (by decide +kernel)]; kernel_rfl) | (rw [if_neg (by decide +kernel)]; exact ⟨rfl, rfl⟩))
    (fun os started H enc _ => taxVictim_lifted os started H enc)
end Go.Proofs.Ytclnjjppcdgkiaa
