/-
  PROVED: 'SharingLeastSaid': for every two lists, SharingLeast hands back true and leaves all memory as it was. Conditions: none.
-/
import Derived.Test.YtjoopjgpjkmmhaaPlLawLeast
import Derived.Test.YtjoopjgpjkmmhaaLawRows
namespace Go.Proofs.Ytjoopjgpjkmmhaa
open Go.ChangeShapes Go.WideShapes Go.ChangeAt Go.RowKit Go.ChangeMaps

theorem sharingLeast_contract {H : Type} {enc : TypeId × Value → H} (W : World) (base : Nat) (args : Array Value) (ds gs : List (DataW H)) (before : List MemPlace)
    (hval0 : ∀ (j : Nat) t v, Try.f6.params[j]? = some t → args[j]? = some v → Value.okWide Try.prog W .any base t v)
    (hW : DataW.Whole enc Try.prog Try.f6.params.toList Rows.sharingLeastSpec.vars false W args.toList ds gs before) :
    Calls Try.prog 6 args W fun e W' => ∃ v, e = .returned v ∧ Rows.sharingLeastSpec.post enc Try.prog Try.f6 false true false false W args v W' := by
  have hW0 := hW
  obtain ⟨p, q, hA0, hV, _, _, _⟩ := hW
  have hA : DataW.TrodAll enc Try.prog W 0 (fun _ => true) true Try.f6.params.toList args.toList ds p := hA0
  clear hA0
  rw [Try.params6] at hA hval0
  obtain ⟨v0, vs0, d0, ds0, p0, q0, hargs0, rfl, _, h0, r0⟩ := trodAll_cons hA
  obtain ⟨v1, vs1, d1, ds1, p1, q1, hargs1, rfl, _, h1, r1⟩ := trodAll_cons r0
  obtain ⟨hnil, rfl, _⟩ := trodAll_nil r1
  obtain rfl : args = #[v0, v1] := by cases args; simp_all
  obtain ⟨ao, xs, cap, rfl, ha, hx, hwf⟩ := open_intRow Try.underlying23 Try.underlying3 (by kernel_rfl) (hval0 0 _ v0 rfl rfl) h0
  obtain ⟨bo, ys, cbp, rfl, hb, hy, hwg⟩ := open_intRow Try.underlying23 Try.underlying3 (by kernel_rfl) (hval0 1 _ v1 rfl rfl) h1
  refine Calls.mono (R := Ret W (.bool true)) ?_ (fun e W' ⟨he, hb⟩ => ⟨_, he, law_post rfl hW0 hb (of_decide_eq_true (by kernel_rfl)) 4 rfl Try.underlying4 (fun _ => rfl)⟩)
  by_cases h : 40 < xs.length ∨ 16 < ys.length
  · exact leastP_out ao bo xs.length cap ys.length cbp W h hx hy
  · exact leastP_in _ _ xs ys W ha (fun x hx => bounds_i64 (hwf x hx)) (by omega) hb (fun x hx => bounds_i64 (hwg x hx)) (by omega)

set_option maxRecDepth 100000 in
theorem sharingLeast_lifted (os : Os) (started : os.Started) (H : Type) (enc : TypeId × Value → H) :
    ReturnsInHanded {} Try.checked os 6 .any (Rows.sharingLeastSpec.pre6 enc Try.prog Try.f6 Rows.sharingLeastRow.domain false) (Rows.sharingLeastSpec.post enc Try.prog Try.f6 false true false false) := by
  refine returnsInHanded_of_change (C := Try.checked) Try.own started (by kernel_rfl) Try.func6
    (ChangeSpec.witness6 (enc := enc) (C := Try.checked) false ⟨#[], #[.slice none 0 0, .slice none 0 0], []⟩ 8 (by kernel_rfl) (by kernel_rfl) (by kernel_rfl) (by kernel_rfl)) ?_
  intro W base args ds gs before hval0 hW _ _
  exact sharingLeast_contract W base args ds gs before hval0 hW

theorem sharingLeast_holds : Rows.SharingLeastSaid :=
  OpenClaim.holds_of_wide 6 Try.f6 rfl rfl rfl rfl rfl rfl rfl ⟨rfl, rfl, rfl, rfl, rfl⟩ rfl rfl rfl rfl rfl (by kernel_rfl) Try.func6 (by kernel_rfl)
    (of_decide_eq_true (by kernel_rfl)) (by unfold Func.isWrapper; first | (rw [if_pos (by decide +kernel)]; kernel_rfl) | (rw [if_neg (by decide +kernel)]; exact ⟨rfl, rfl⟩))
    (fun os started H enc _ => sharingLeast_lifted os started H enc)
end Go.Proofs.Ytjoopjgpjkmmhaa
