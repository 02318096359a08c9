/-
  A pool's rows in memory; pages of zeros.
-/
import Derived.Test.YtjoopjgpjkmmhaaStr
import Derived.Test.YtjoopjgpjkmmhaaRegions
import Derived.Deep.RegionWith
import Derived.Deep.RegionLaw
import Derived.Deep.Cut
import Derived.Deep.CutRange
namespace Go.Proofs.Ytjoopjgpjkmmhaa
open Go.RowKit

theorem info_int : (Try.prog.info? 3).map (fun i => (i.zero, i.size, i.bytes)) = some (some (.int .i64 0), 1, 8) := by kernel_rfl
theorem info_ints : (Try.prog.info? 23).map (fun i => (i.zero, i.size, i.bytes)) = some (some (.slice none 0 0), 1, 24) := by kernel_rfl
abbrev NumRow := EncRow (Value.int .i64)
abbrev OwnNum := OwnEnc (Value.int .i64) 3
set_option maxHeartbeats 1000000 in
theorem clone_num (va : Value) (xs : List Int) (w : World) (ha : EncRow (Value.int .i64) w va xs) (hn : xs.length ≤ 1099511627776) : Calls Try.prog 50 #[va] w (RetOwn (Value.int .i64) 3 w xs) := by
  obtain ⟨ao, cap, rfl, h1, h2, h3⟩ := ha.out
  obtain ⟨n, hn'⟩ : ∃ n, xs.length = n := ⟨_, rfl⟩
  have hrow : RowAt w (.slice ao n cap) n (xs.map (Value.int .i64)) := by rw [← hn']; exact ha
  rw [hn'] at hn ⊢
  have HN := Lib.hid hn'; clear hn' h1 h2 ha
  have q22 : ∀ (w : World) (a : Option Addr) (n c n' c' : Nat), (binOp .eql 23 (.slice a n c) (.slice none n' c')).run Try.prog w = .ok (.bool a.isNone) w := fun w a n c n' c' => Lib.run_eql_slice_nil w _ _ a n c n' c' Try.underlying23
  cases ao with
  | none =>
    have h0 : xs = [] := by
      rcases h3 with h3 | ⟨b, off, hb, _⟩
      · exact List.eq_nil_of_length_eq_zero h3
      · cases hb
    subst h0
    clear h3 hrow HN
    go_enter Try.func50, Try.ntmps50
    go_wp2_with fail
    go_ret
    exact ⟨_, rfl, World.ownsRow_nil _ _ _ _, (by repeat (first | with_reducible exact Below.refl _ _ | with_reducible refine Below.drew ?_ | (with_reducible refine Below.alloc ?_ (by first | exact Nat.le_refl _ | omega | (simp only [sizes]; omega)) _) | (with_reducible refine Below.setCell ?_ (by first | exact Nat.le_refl _ | omega | (simp only [sizes]; omega)) _) | (refine Below.trans ?_ (Below.mono (by with_reducible assumption) (by first | exact Nat.le_refl _ | omega | (simp only [sizes]; omega))))))⟩
  | some a =>
    clear h3
    have HR := Lib.hid hrow; clear hrow
    obtain ⟨i0, hi, iz0, iz1, iz2⟩ := info_parts info_int
    go_enter Try.func50, Try.ntmps50
    go_wp2_with (at_builtin; refine wpList_append_own _ rfl _ _ 23 rfl w.heap.size 3 i0 (.int .i64 0) 1 8 Try.underlying23 hi iz0 iz1 iz2 rfl (by decide) _ _ _ rfl (World.ownsRow_made w #[] 0 (Nat.le_refl _) (Nat.zero_le _) (by simp)) a n cap (xs.map (Value.int .i64)) rfl ?qc1 ?qc2 ?qc3 ?qc4 ?qc5 ?qc6 ?_)
    case qc1 => rw [List.length_map, HN.out, Nat.mul_one]
    case qc2 => exact fun j u hj => Lib.cell?_alloc_some _ (HR.out.cells j u hj)
    case qc3 => intro u hu; rw [List.mem_map] at hu; obtain ⟨x, _, rfl⟩ := hu; rfl
    case qc4 => unfold maxLen; omega
    case qc5 => omega
    case qc6 => simp
    intro v' w1 hown hgrow _
    have HO := Lib.hid hown; clear hown
    go_wp2_with fail
    go_ret
    refine ⟨v', rfl, ?_, ?_⟩
    · unfold OwnEnc; rw [HN.out]; simpa using HO.out
    · exact ((Below.refl _ w).alloc (Nat.le_refl _) _).grown hgrow (by simp) (by intro k hk; simp [Value.ownBlock] at hk; omega)

/-- A slice of slices of numbers, read. -/
def MapRow (w : World) (v : Value) (M : List (List Int)) : Prop := ∃ us : List Value, RowAt w v M.length us ∧ us.length = M.length ∧ ∀ (i : Nat) (u : Value) (xs : List Int), us[i]? = some u → M[i]? = some xs → NumRow w u xs
theorem MapRow.below {w w' : World} {v : Value} {M : List (List Int)} (h : MapRow w v M) (hb : Below w.heap.size w w') : MapRow w' v M := by
  obtain ⟨us, h1, h2, h3⟩ := h
  exact ⟨us, h1.below hb, h2, fun i u xs hu hx => (h3 i u xs hu hx).below hb⟩
/-- A pool, read. -/
def PoolRow (w : World) (v : Value) (F : List ByteArray) (R : List Int) (M : List (List Int)) : Prop := ∃ vf vr vm, v = .agg #[vf, vr, vm] ∧ StrRow w vf F ∧ NumRow w vr R ∧ MapRow w vm M
theorem PoolRow.below {w w' : World} {v : Value} {F : List ByteArray} {R : List Int} {M : List (List Int)} (h : PoolRow w v F R M) (hb : Below w.heap.size w w') : PoolRow w' v F R M := by
  obtain ⟨vf, vr, vm, e, h1, h2, h3⟩ := h
  exact ⟨vf, vr, vm, e, h1.below hb, h2.below hb, h3.below hb⟩
/-- Two slices that share no block. -/
def Apart (v v' : Value) : Prop := ∀ k, v.ownBlock = some k → v'.ownBlock ≠ some k
/-- Rows of the call's own, the i-th holding the i-th list; no two share a block. -/
def OwnRows (base : Nat) (w : World) (us : List Value) (M : List (List Int)) : Prop := us.length = M.length ∧ (∀ (i : Nat) (u : Value) (xs : List Int), us[i]? = some u → M[i]? = some xs → OwnNum base w u xs) ∧ ∀ (i j : Nat) (u u' : Value), i ≠ j → us[i]? = some u → us[j]? = some u' → Apart u u'
theorem OwnRows.nil (base : Nat) (w : World) : OwnRows base w [] [] := ⟨rfl, fun i u xs h => by simp at h, fun i j u u' _ h => by simp at h⟩
theorem OwnRows.below {base : Nat} {w w' : World} {us : List Value} {M : List (List Int)} (h : OwnRows base w us M) (hb : Below w.heap.size w w') : OwnRows base w' us M :=
  ⟨h.1, fun i u xs hu hx => (h.2.1 i u xs hu hx).below hb, h.2.2⟩
theorem OwnRows.snoc {base : Nat} {w : World} {us : List Value} {M : List (List Int)} {u : Value} {xs : List Int} (h : OwnRows base w us M) (hu : OwnNum base w u xs) (ha : ∀ (i : Nat) (u' : Value), us[i]? = some u' → Apart u' u) : OwnRows base w (us ++ [u]) (M ++ [xs]) := by
  obtain ⟨h1, h2, h3⟩ := h
  refine ⟨by simp [h1], fun i v ys hv hy => ?_, fun i j v v' hij hv hv' => ?_⟩
  · rw [List.getElem?_append] at hv hy
    rw [← h1] at hy
    split at hv
    · rename_i hlt
      rw [if_pos hlt] at hy
      exact h2 i v ys hv hy
    · rename_i hge
      rw [if_neg hge] at hy
      obtain h0 : i - us.length = 0 := by have := lt_of_get hv; simp at this; omega
      rw [h0] at hv hy
      simp at hv hy
      subst hv hy
      exact hu
  · rw [List.getElem?_append] at hv hv'
    split at hv
    · split at hv'
      · exact h3 i j v v' hij hv hv'
      · have h0 : j - us.length = 0 := by have := lt_of_get hv'; simp at this; omega
        rw [h0] at hv'
        simp at hv'
        subst hv'
        exact ha i v hv
    · have h0 : i - us.length = 0 := by have := lt_of_get hv; simp at this; omega
      rw [h0] at hv
      simp at hv
      subst hv
      split at hv'
      · intro k hk hk'
        exact ha j v' hv' k hk' hk
      · have h0' : j - us.length = 0 := by have := lt_of_get hv'; simp at this; omega
        omega
/-- A pool in memory of the call's own. -/
def OwnPool (base : Nat) (w : World) (v : Value) (F : List ByteArray) (R : List Int) (M : List (List Int)) : Prop := ∃ (vf vr vm : Value) (us : List Value), v = .agg #[vf, vr, vm] ∧ OwnStr base w vf F ∧ OwnNum base w vr R ∧ w.ownsRow base 23 1 vm M.length us ∧ OwnRows base w us M ∧ ∀ (i : Nat) (u : Value), us[i]? = some u → Apart vr u
theorem OwnPool.below {base : Nat} {w w' : World} {v : Value} {F : List ByteArray} {R : List Int} {M : List (List Int)} (h : OwnPool base w v F R M) (hb : Below w.heap.size w w') : OwnPool base w' v F R M := by
  obtain ⟨vf, vr, vm, us, e, h1, h2, h3, h4, h5⟩ := h
  exact ⟨vf, vr, vm, us, e, h1.below hb, h2.below hb, owns_below h3 hb, h4.below hb, h5⟩
theorem OwnPool.row {base : Nat} {w : World} {v : Value} {F : List ByteArray} {R : List Int} {M : List (List Int)} (h : OwnPool base w v F R M) : PoolRow w v F R M := by
  obtain ⟨vf, vr, vm, us, e, h1, h2, h3, h4, _⟩ := h
  exact ⟨vf, vr, vm, e, h1.row, h2.row, us, RowAt.of_owns h3, h4.1, fun i u xs hu hx => (h4.2.1 i u xs hu hx).row⟩

/-! pages of zeros -/
def zeroB (s : ByteArray) : Bool := s.data.toList.all (fun c => c == 0)
end Go.Proofs.Ytjoopjgpjkmmhaa
