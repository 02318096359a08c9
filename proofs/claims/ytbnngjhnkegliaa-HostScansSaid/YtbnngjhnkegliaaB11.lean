/-
  Texts joined for the hand-in, in build order: LawRows. No law is proved here.
-/
import Derived.Test.YtbnngjhnkegliaaB10
import Derived.Test.YtbnngjhnkegliaaB1
namespace Go.Proofs.Ytbnngjhnkegliaa
open Go.ChangeShapes Go.WideShapes Go.ChangeAt Go.RowKit

theorem open_intRow {H : Type} {enc : TypeId × Value → H} {P : Program} {W : World} {r : Reach} {b0 : Nat} {base : Nat} {held : Bool} {t e : TypeId} {v : Value} {d : DataW H} {p : List MemPlace} (ht : P.underlying t = some (.slice e)) (he : P.underlying e = some (.int .i64)) (hc : P.cellsOf e = 1)
    (hv : Value.okWide P W r b0 t v) (h : DataW.Trod enc P W base (fun _ => true) held t v d p) :
    ∃ (ao : Option Addr) (xs : List Int) (cap : Nat), v = .slice ao xs.length cap ∧ IntRow W v xs ∧ xs.length ≤ 9223372036854775807 ∧ (∀ x ∈ xs, (Lit.int .i64 x).wf = true) := by
  obtain ⟨a0, len, cap, rfl⟩ := okWide_slice ht hv
  obtain ⟨fuel, hf⟩ := h
  rcases open_ints ht he hc hf with ⟨hcs, hx⟩ | ⟨a, len', cap', zs, hcs, _, hl, hm, hz, hx, hcell, hwz⟩
  · simp [Value.cells] at hcs
    obtain ⟨rfl, rfl, rfl⟩ := hcs
    exact ⟨none, [], 0, rfl, IntRow.nil W, by simp, by simp⟩
  · simp [Value.cells] at hcs
    obtain ⟨rfl, rfl, rfl⟩ := hcs
    simp only [if_true] at hz
    have hlen : (zs.take len).length = len := by rw [List.length_take, hz]; omega
    refine ⟨some a, zs.take len, cap, by rw [hlen], ?_, by rw [hlen]; unfold maxLen at hm; omega, fun x hx => hwz x (List.mem_of_mem_take hx)⟩
    unfold IntRow
    rw [hlen]
    refine ⟨some a, cap, rfl, hl, hm, ?_⟩
    by_cases h0 : len = 0
    · left; subst h0; simp
    · right
      obtain ⟨b, off, rfl, hcc⟩ := ints_at hcell (by omega)
      refine ⟨b, off, rfl, World.block_lt_of_cell? W _ (hcc 0 (by omega)), fun i u hu => ?_⟩
      rw [List.getElem?_map] at hu
      cases hi : (zs.take len)[i]? with
      | none => rw [hi] at hu; simp at hu
      | some x =>
        rw [hi] at hu
        simp at hu
        subst hu
        rw [List.getElem?_take] at hi
        split at hi
        · have := hcc i (by omega)
          rw [this, List.getD_eq_getElem?_getD, hi]; rfl
        · simp at hi
end Go.Proofs.Ytbnngjhnkegliaa
