/-
  PROVED: 'SharingSavesSaid': for every list of operations and numbers, SharingSaves hands back true and leaves all memory as it was. Conditions: none.
-/
import Derived.Test.YtjoopjgpjkmmhaaPlLawSaves
import Derived.Test.YtjoopjgpjkmmhaaLawRows
namespace Go.Proofs.Ytjoopjgpjkmmhaa
open Go.ChangeShapes Go.WideShapes Go.ChangeAt Go.RowKit Go.ChangeMaps

theorem sharingSaves_contract {H : Type} {enc : TypeId × Value → H} (W : World) (base : Nat) (args : Array Value) (ds gs : List (DataW H)) (before : List MemPlace)
    (hval0 : ∀ (j : Nat) t v, Try.f7.params[j]? = some t → args[j]? = some v → Value.okWide Try.prog W .any base t v)
    (hW : DataW.Whole enc Try.prog Try.f7.params.toList Rows.sharingSavesSpec.vars false W args.toList ds gs before) :
    Calls Try.prog 7 args W fun e W' => ∃ v, e = .returned v ∧ Rows.sharingSavesSpec.post enc Try.prog Try.f7 false true false false W args v W' := by
  have hW0 := hW
  obtain ⟨p, q, hA0, hV, _, _, _⟩ := hW
  have hA : DataW.TrodAll enc Try.prog W 0 (fun _ => true) true Try.f7.params.toList args.toList ds p := hA0
  clear hA0
  rw [Try.params7] at hA hval0
  obtain ⟨v0, vs0, d0, ds0, p0, q0, hargs0, rfl, _, h0, r0⟩ := trodAll_cons hA
  obtain ⟨v1, vs1, d1, ds1, p1, q1, hargs1, rfl, _, h1, r1⟩ := trodAll_cons r0
  obtain ⟨v2, vs2, d2, ds2, p2, q2, hargs2, rfl, _, h2, r2⟩ := trodAll_cons r1
  obtain ⟨v3, vs3, d3, ds3, p3, q3, hargs3, rfl, _, h3, r3⟩ := trodAll_cons r2
  obtain ⟨hnil, rfl, _⟩ := trodAll_nil r3
  obtain rfl : args = #[v0, v1, v2, v3] := by cases args; simp_all
  obtain ⟨ao, xs, cap, rfl, ha, hx, hwf⟩ := open_intRow Try.underlying23 Try.underlying3 (by kernel_rfl) (hval0 0 _ v0 rfl rfl) h0
  obtain ⟨g, rfl, _, _, wg⟩ := open_int Try.underlying3 (hval0 1 _ v1 rfl rfl) h1
  obtain ⟨p, rfl, _, _, wp⟩ := open_int Try.underlying3 (hval0 2 _ v2 rfl rfl) h2
  obtain ⟨q, rfl, _, _, wq⟩ := open_int Try.underlying3 (hval0 3 _ v3 rfl rfl) h3
  refine Calls.mono (R := Ret W (.bool true)) ?_ (fun e W' ⟨he, hb⟩ => ⟨_, he, law_post rfl hW0 hb (of_decide_eq_true (by kernel_rfl)) 4 rfl Try.underlying4 (fun _ => rfl)⟩)
  by_cases h : 40 < xs.length
  · exact saves_out g p q ao xs.length cap W h hx
  · exact saves_in g p q _ xs W ha (fun x hx => bounds_i64 (hwf x hx)) (by omega) (bounds_i64 wg) (bounds_i64 wp) (bounds_i64 wq)

set_option maxRecDepth 100000 in
theorem sharingSaves_lifted (os : Os) (started : os.Started) (H : Type) (enc : TypeId × Value → H) :
    ReturnsInHanded {} Try.checked os 7 .any (Rows.sharingSavesSpec.pre6 enc Try.prog Try.f7 Rows.sharingSavesRow.domain false) (Rows.sharingSavesSpec.post enc Try.prog Try.f7 false true false false) := by
  refine returnsInHanded_of_change (C := Try.checked) Try.own started (by kernel_rfl) Try.func7
    (ChangeSpec.witness6 (enc := enc) (C := Try.checked) false ⟨#[], #[.slice none 0 0, .int .i64 0, .int .i64 0, .int .i64 0], []⟩ 8 (by kernel_rfl) (by kernel_rfl) (by kernel_rfl) (by kernel_rfl)) ?_
  intro W base args ds gs before hval0 hW _ _
  exact sharingSaves_contract W base args ds gs before hval0 hW

theorem sharingSaves_holds : Rows.SharingSavesSaid :=
  OpenClaim.holds_of_wide 7 Try.f7 rfl rfl rfl rfl rfl rfl rfl ⟨rfl, rfl, rfl, rfl, rfl⟩ rfl rfl rfl rfl rfl (by kernel_rfl) Try.func7 (by kernel_rfl)
    (of_decide_eq_true (by kernel_rfl)) (by unfold Func.isWrapper; first | (rw [if_pos (by decide +kernel)]; kernel_rfl) | (rw [if_neg (by decide +kernel)]; exact ⟨rfl, rfl⟩))
    (fun os started H enc _ => sharingSaves_lifted os started H enc)
end Go.Proofs.Ytjoopjgpjkmmhaa
