/-
  PROVED: 'ConsoleQueuesSaid': for every list of numbers, ConsoleQueues hands back true and leaves all memory as it was. Conditions: none.
-/
import Derived.Test.YtaempbkcegemdaaConQueues
import Derived.Test.YtaempbkcegemdaaLaw
namespace Go.Proofs.Ytaempbkcegemdaa
open Go.ChangeShapes Go.WideShapes Go.ChangeAt Go.RowKit

theorem consoleQueues_contract {H : Type} {enc : TypeId × Value → H} (W : World) (base : Nat) (args : Array Value) (ds gs : List (DataW H)) (before : List MemPlace)
    (hval0 : ∀ (j : Nat) t v, Try.f5.params[j]? = some t → args[j]? = some v → Value.okWide Try.prog W .any base t v)
    (hW : DataW.Whole enc Try.prog Try.f5.params.toList Rows.consoleQueuesSpec.vars false W args.toList ds gs before) :
    Calls Try.prog 5 args W fun e W' => ∃ v, e = .returned v ∧ Rows.consoleQueuesSpec.post enc Try.prog Try.f5 false true false false W args v W' := by
  have hW0 := hW
  obtain ⟨p, q, hA0, hV, _, _, _⟩ := hW
  have hA : DataW.TrodAll enc Try.prog W 0 (fun _ => true) true Try.f5.params.toList args.toList ds p := hA0
  clear hA0
  rw [Try.params5] at hA hval0
  obtain ⟨v0, vs0, d0, ds0, p0, q0, hargs0, rfl, _, h0, r0⟩ := trodAll_cons hA
  obtain ⟨hnil, rfl, _⟩ := trodAll_nil r0
  obtain rfl : args = #[v0] := by cases args; simp_all
  obtain ⟨a0, len, cap, rfl⟩ := okWide_slice Try.underlying34 (hval0 0 _ v0 rfl rfl)
  obtain ⟨fuel, hf⟩ := h0
  refine Calls.mono (R := Ret W (.bool true)) ?_ (fun e W' ⟨he, hb⟩ => ⟨_, he, law_post rfl hW0 hb (of_decide_eq_true (by kernel_rfl)) 4 rfl Try.underlying4 (fun _ => rfl)⟩)
  rcases open_ints Try.underlying34 Try.underlying3 (by kernel_rfl) hf with ⟨hcs, hx⟩ | ⟨a, len', cap', zs, hcs, _, hl, hm, hz, hx, hcell, hwz⟩
  · simp [Value.cells] at hcs
    obtain ⟨rfl, rfl, rfl⟩ := hcs
    exact queues_nil _ _ W
  · simp [Value.cells] at hcs
    obtain ⟨rfl, rfl, rfl⟩ := hcs
    by_cases h : len ≤ 100
    · by_cases h0 : len = 0
      · subst h0
        exact queues_nil _ _ W
      · obtain ⟨b, off, rfl, hc⟩ := ints_at hcell (by simp at hz; omega)
        exact queues_in b off len cap zs W h (World.block_lt_of_cell? W _ (hc 0 (by simp at hz; omega))) (fun i hi => hc i (by simp at hz; omega))
    · exact queues_out _ len cap W (by omega) (by unfold maxLen at hm; omega)

set_option maxRecDepth 100000 in
theorem consoleQueues_lifted (os : Os) (started : os.Started) (H : Type) (enc : TypeId × Value → H) :
    ReturnsInHanded {} Try.checked os 5 .any (Rows.consoleQueuesSpec.pre6 enc Try.prog Try.f5 Rows.consoleQueuesRow.domain false) (Rows.consoleQueuesSpec.post enc Try.prog Try.f5 false true false false) := by
  refine returnsInHanded_of_change (C := Try.checked) Try.own started (by kernel_rfl) Try.func5
    (ChangeSpec.witness6 (enc := enc) (C := Try.checked) false ⟨#[], #[.slice none 0 0], []⟩ 8 (by kernel_rfl) (by kernel_rfl) (by kernel_rfl) (by kernel_rfl)) ?_
  intro W base args ds gs before hval0 hW _ _
  exact consoleQueues_contract W base args ds gs before hval0 hW

theorem consoleQueues_holds : Rows.ConsoleQueuesSaid :=
  OpenClaim.holds_of_wide 5 Try.f5 rfl rfl rfl rfl rfl rfl rfl ⟨rfl, rfl, rfl, rfl, rfl⟩ rfl rfl rfl rfl rfl (by kernel_rfl) Try.func5 (by kernel_rfl)
    (of_decide_eq_true (by kernel_rfl)) (by unfold Func.isWrapper; first | (rw [if_pos (by decide +kernel)]; kernel_rfl) | (rw [if_neg (by decide +kernel)]; exact ⟨rfl, rfl⟩))
    (fun os started H enc _ => consoleQueues_lifted os started H enc)
end Go.Proofs.Ytaempbkcegemdaa
