/-
  PROVED: 'SharingReachedSaid': for every number of frames, list of operations and numbers, SharingReached hands back true and leaves all memory as it was. Conditions: none.
-/
import Derived.Test.YtjoopjgpjkmmhaaPlReached
import Derived.Test.YtjoopjgpjkmmhaaLawRows
namespace Go.Proofs.Ytjoopjgpjkmmhaa
open Go.ChangeShapes Go.WideShapes Go.ChangeAt Go.RowKit Go.ChangeMaps

theorem sharingReached_contract {H : Type} {enc : TypeId × Value → H} (W : World) (base : Nat) (args : Array Value) (ds gs : List (DataW H)) (before : List MemPlace)
    (hval0 : ∀ (j : Nat) t v, Try.f4.params[j]? = some t → args[j]? = some v → Value.okWide Try.prog W .any base t v)
    (hW : DataW.Whole enc Try.prog Try.f4.params.toList Rows.sharingReachedSpec.vars false W args.toList ds gs before) :
    Calls Try.prog 4 args W fun e W' => ∃ v, e = .returned v ∧ Rows.sharingReachedSpec.post enc Try.prog Try.f4 false true false false W args v W' := by
  have hW0 := hW
  obtain ⟨p, q, hA0, hV, _, _, _⟩ := hW
  have hA : DataW.TrodAll enc Try.prog W 0 (fun _ => true) true Try.f4.params.toList args.toList ds p := hA0
  clear hA0
  rw [Try.params4] at hA hval0
  obtain ⟨v0, vs0, d0, ds0, p0, q0, hargs0, rfl, _, h0, r0⟩ := trodAll_cons hA
  obtain ⟨v1, vs1, d1, ds1, p1, q1, hargs1, rfl, _, h1, r1⟩ := trodAll_cons r0
  obtain ⟨v2, vs2, d2, ds2, p2, q2, hargs2, rfl, _, h2, r2⟩ := trodAll_cons r1
  obtain ⟨v3, vs3, d3, ds3, p3, q3, hargs3, rfl, _, h3, r3⟩ := trodAll_cons r2
  obtain ⟨v4, vs4, d4, ds4, p4, q4, hargs4, rfl, _, h4, r4⟩ := trodAll_cons r3
  obtain ⟨hnil, rfl, _⟩ := trodAll_nil r4
  obtain rfl : args = #[v0, v1, v2, v3, v4] := by cases args; simp_all
  obtain ⟨n, rfl, _, _, _⟩ := open_int Try.underlying3 (hval0 0 _ v0 rfl rfl) h0
  obtain ⟨ao, xs, cap, rfl, ha, hx, hwf⟩ := open_intRow Try.underlying23 Try.underlying3 (by kernel_rfl) (hval0 1 _ v1 rfl rfl) h1
  obtain ⟨a, rfl, _, _, wa⟩ := open_int Try.underlying3 (hval0 2 _ v2 rfl rfl) h2
  obtain ⟨b, rfl, _, _, wb⟩ := open_int Try.underlying3 (hval0 3 _ v3 rfl rfl) h3
  obtain ⟨c, rfl, _, _, wc⟩ := open_int Try.underlying3 (hval0 4 _ v4 rfl rfl) h4
  refine Calls.mono (R := Ret W (.bool true)) ?_ (fun e W' ⟨he, hb⟩ => ⟨_, he, law_post rfl hW0 hb (of_decide_eq_true (by kernel_rfl)) 4 rfl Try.underlying4 (fun _ => rfl)⟩)
  by_cases h : n < 1 ∨ 12 < n ∨ 40 < xs.length
  · exact reached_out n a b c ao xs.length cap W h hx
  · obtain ⟨k, rfl⟩ : ∃ k : Nat, n = k := ⟨n.toNat, by omega⟩
    exact reached_in k a b c _ xs W (by omega) (by omega) ha (fun x hx => bounds_i64 (hwf x hx)) (by omega) (bounds_i64 wa) (bounds_i64 wb) (bounds_i64 wc)

set_option maxRecDepth 100000 in
theorem sharingReached_lifted (os : Os) (started : os.Started) (H : Type) (enc : TypeId × Value → H) :
    ReturnsInHanded {} Try.checked os 4 .any (Rows.sharingReachedSpec.pre6 enc Try.prog Try.f4 Rows.sharingReachedRow.domain false) (Rows.sharingReachedSpec.post enc Try.prog Try.f4 false true false false) := by
  refine returnsInHanded_of_change (C := Try.checked) Try.own started (by kernel_rfl) Try.func4
    (ChangeSpec.witness6 (enc := enc) (C := Try.checked) false ⟨#[], #[.int .i64 0, .slice none 0 0, .int .i64 0, .int .i64 0, .int .i64 0], []⟩ 8 (by kernel_rfl) (by kernel_rfl) (by kernel_rfl) (by kernel_rfl)) ?_
  intro W base args ds gs before hval0 hW _ _
  exact sharingReached_contract W base args ds gs before hval0 hW

theorem sharingReached_holds : Rows.SharingReachedSaid :=
  OpenClaim.holds_of_wide 4 Try.f4 rfl rfl rfl rfl rfl rfl rfl ⟨rfl, rfl, rfl, rfl, rfl⟩ rfl rfl rfl rfl rfl (by kernel_rfl) Try.func4 (by kernel_rfl)
    (of_decide_eq_true (by kernel_rfl)) (by unfold Func.isWrapper; first | (rw [if_pos (by decide +kernel)]; kernel_rfl) | (rw [if_neg (by decide +kernel)]; exact ⟨rfl, rfl⟩))
    (fun os started H enc _ => sharingReached_lifted os started H enc)
end Go.Proofs.Ytjoopjgpjkmmhaa
