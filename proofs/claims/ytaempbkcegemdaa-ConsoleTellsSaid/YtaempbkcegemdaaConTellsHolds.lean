/-
  PROVED: 'ConsoleTellsSaid': for every console, byte, port and flag, ConsoleTells hands back true and leaves all memory as it was. Conditions: none.
-/
import Derived.Test.YtaempbkcegemdaaConTells
import Derived.Test.YtaempbkcegemdaaLaw
namespace Go.Proofs.Ytaempbkcegemdaa
open Go.ChangeShapes Go.WideShapes Go.ChangeAt Go.RowKit

theorem consoleTells_contract {H : Type} {enc : TypeId × Value → H} (W : World) (base : Nat) (args : Array Value) (ds gs : List (DataW H)) (before : List MemPlace)
    (hval0 : ∀ (j : Nat) t v, Try.f4.params[j]? = some t → args[j]? = some v → Value.okWide Try.prog W .any base t v)
    (hW : DataW.Whole enc Try.prog Try.f4.params.toList Rows.consoleTellsSpec.vars false W args.toList ds gs before) :
    Calls Try.prog 4 args W fun e W' => ∃ v, e = .returned v ∧ Rows.consoleTellsSpec.post enc Try.prog Try.f4 false true false false W args v W' := by
  have hW0 := hW
  obtain ⟨p, q, hA0, hV, _, _, _⟩ := hW
  have hA : DataW.TrodAll enc Try.prog W 0 (fun _ => true) true Try.f4.params.toList args.toList ds p := hA0
  clear hA0
  rw [Try.params4] at hA hval0
  obtain ⟨v0, vs0, d0, ds0, p0, q0, hargs0, rfl, _, h0, r0⟩ := trodAll_cons hA
  obtain ⟨v1, vs1, d1, ds1, p1, q1, hargs1, rfl, _, h1, r1⟩ := trodAll_cons r0
  obtain ⟨v2, vs2, d2, ds2, p2, q2, hargs2, rfl, _, h2, r2⟩ := trodAll_cons r1
  obtain ⟨v3, vs3, d3, ds3, p3, q3, hargs3, rfl, _, h3, r3⟩ := trodAll_cons r2
  obtain ⟨hnil, rfl, _⟩ := trodAll_nil r3
  obtain rfl : args = #[v0, v1, v2, v3] := by cases args; simp_all
  obtain ⟨cs, n, rfl, hl, hf⟩ := open_agg Try.underlying24 (by kernel_rfl) (by kernel_rfl) (hval0 0 _ v0 rfl rfl) h0
  obtain ⟨c, y, hc, hy⟩ := hf 0 _ rfl
  obtain ⟨s, hs, _, _⟩ := DataW.trod_string Try.underlying9 hy
  obtain ⟨b, rfl, _, _⟩ := open_int Try.underlying5 (hval0 1 _ v1 rfl rfl) h1
  obtain ⟨a, rfl, _, _, wa⟩ := open_int Try.underlying3 (hval0 2 _ v2 rfl rfl) h2
  obtain ⟨x, rfl, _, _⟩ := open_bool Try.underlying4 (hval0 3 _ v3 rfl rfl) h3
  obtain rfl : cs = [.string s] := by
    match cs, hl, hc, hs with
    | [u], _, hc, hs => simp at hc hs; rw [hc, hs]
  refine Calls.mono (R := Ret W (.bool true)) ?_ (fun e W' ⟨he, hb⟩ => ⟨_, he, law_post rfl hW0 hb (of_decide_eq_true (by kernel_rfl)) 4 rfl Try.underlying4 (fun _ => rfl)⟩)
  exact tells_any s b a x W (bounds_i64 wa)

set_option maxRecDepth 100000 in
theorem consoleTells_lifted (os : Os) (started : os.Started) (H : Type) (enc : TypeId × Value → H) :
    ReturnsInHanded {} Try.checked os 4 .any (Rows.consoleTellsSpec.pre6 enc Try.prog Try.f4 Rows.consoleTellsRow.domain false) (Rows.consoleTellsSpec.post enc Try.prog Try.f4 false true false false) := by
  refine returnsInHanded_of_change (C := Try.checked) Try.own started (by kernel_rfl) Try.func4
    (ChangeSpec.witness6 (enc := enc) (C := Try.checked) false ⟨#[], #[.agg #[.string ⟨#[]⟩], .int .u8 0, .int .i64 0, .bool false], []⟩ 8 (by kernel_rfl) (by kernel_rfl) (by kernel_rfl) (by kernel_rfl)) ?_
  intro W base args ds gs before hval0 hW _ _
  exact consoleTells_contract W base args ds gs before hval0 hW

theorem consoleTells_holds : Rows.ConsoleTellsSaid :=
  OpenClaim.holds_of_wide 4 Try.f4 rfl rfl rfl rfl rfl rfl rfl ⟨rfl, rfl, rfl, rfl, rfl⟩ rfl rfl rfl rfl rfl (by kernel_rfl) Try.func4 (by kernel_rfl)
    (of_decide_eq_true (by kernel_rfl)) (by unfold Func.isWrapper; first | (rw [if_pos (by decide +kernel)]; kernel_rfl) | (rw [if_neg (by decide +kernel)]; exact ⟨rfl, rfl⟩))
    (fun os started H enc _ => consoleTells_lifted os started H enc)
end Go.Proofs.Ytaempbkcegemdaa
