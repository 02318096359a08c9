/-
  Slices of claims; two slices of numbers held against each other.
-/
import Derived.Test.YtclnjjppcdgkiaaTax
import Derived.Test.YtclnjjppcdgkiaaRowsAt
namespace Go.Proofs.Ytclnjjppcdgkiaa
open Go.RowKit

def clmCells (c : Clm) : List Value := [.int .i64 c.r, .int .i64 c.l, .int .i64 c.s, .int .i64 c.p, .int .i64 c.a]
def ClmRow (w : World) (v : Value) (cs : List Clm) : Prop := RowAt w v cs.length (cs.flatMap clmCells)
theorem flat_at {α : Type} (f : α → List Value) (n : Nat) (hf : ∀ x, (f x).length = n) : ∀ (xs : List α) (k : Nat) (x : α), xs[k]? = some x → ∀ j, j < n → (xs.flatMap f)[k * n + j]? = (f x)[j]?
  | [], k, x, h, _, _ => by simp at h
  | y :: xs, 0, x, h, j, hj => by
    simp at h
    subst h
    rw [List.flatMap_cons, Nat.zero_mul, Nat.zero_add, List.getElem?_append_left (by rw [hf]; exact hj)]
  | y :: xs, k + 1, x, h, j, hj => by
    simp at h
    rw [List.flatMap_cons, List.getElem?_append_right (by rw [hf, Nat.add_mul]; omega), hf, show (k + 1) * n + j - n = k * n + j from by rw [Nat.add_mul]; omega]
    exact flat_at f n hf xs k x h j hj
theorem ClmRow.below {w w' : World} {v : Value} {cs : List Clm} (h : ClmRow w v cs) (hb : Below w.heap.size w w') : ClmRow w' v cs := RowAt.below h hb
theorem ClmRow.below' {w w' : World} {v : Value} {cs : List Clm} (h : ClmRow w v cs) (hb : Below w.heap.size w w') : ClmRow w' v cs := RowAt.below h hb
def ClmAt (w : World) (b o : Nat) (c : Clm) : Prop :=
  w.cell? ⟨b, o, none⟩ = some (.int .i64 c.r) ∧ w.cell? ⟨b, o + 1, none⟩ = some (.int .i64 c.l) ∧ w.cell? ⟨b, o + 2, none⟩ = some (.int .i64 c.s) ∧ w.cell? ⟨b, o + 3, none⟩ = some (.int .i64 c.p) ∧ w.cell? ⟨b, o + 4, none⟩ = some (.int .i64 c.a)
theorem ClmRow.out {w : World} {v : Value} {cs : List Clm} (h : ClmRow w v cs) : ∃ (ao : Option Addr) (cap : Nat), v = .slice ao cs.length cap ∧ cs.length ≤ cap ∧ cap ≤ maxLen ∧
    (cs.length = 0 ∨ ∃ b off, ao = some ⟨b, off, none⟩ ∧ b < w.heap.size ∧ ∀ (i : Nat) (c : Clm), cs[i]? = some c → ClmAt w b (off + i * 5) c) := by
  obtain ⟨ao, cap, hv, h1, h2, h3⟩ := h
  refine ⟨ao, cap, hv, h1, h2, ?_⟩
  rcases h3 with h3 | ⟨b, off, ha, hlt, hc⟩
  · left
    cases cs with
    | nil => rfl
    | cons c cs => simp [clmCells] at h3
  · refine .inr ⟨b, off, ha, hlt, fun i c hx => ?_⟩
    have hh := flat_at clmCells 5 (fun _ => rfl) cs i c hx
    refine ⟨?_, ?_, ?_, ?_, ?_⟩
    · exact hc _ _ ((hh 0 (by omega)).trans rfl)
    · exact hc _ _ ((hh 1 (by omega)).trans rfl)
    · exact hc _ _ ((hh 2 (by omega)).trans rfl)
    · exact hc _ _ ((hh 3 (by omega)).trans rfl)
    · exact hc _ _ ((hh 4 (by omega)).trans rfl)

def SameI (xs ys : List Int) (k : Nat) : Prop := ∀ i, i < k → xs[i]? = ys[i]?
theorem SameI.eq {xs ys : List Int} (h : SameI xs ys xs.length) (hl : xs.length = ys.length) : xs = ys := by
  apply List.ext_getElem?
  intro i
  by_cases hi : i < xs.length
  · exact h i hi
  · rw [List.getElem?_eq_none (by omega), List.getElem?_eq_none (by omega)]
theorem SameI.step {xs ys : List Int} {k : Nat} {x : Int} (h : SameI xs ys k) (hx : xs[k]? = some x) (hy : ys[k]? = some x) : SameI xs ys (k + 1) := by
  intro i hi
  by_cases e : i = k
  · rw [e, hx, hy]
  · exact h i (by omega)

set_option maxHeartbeats 1000000 in
theorem sameInts_any (va vb : Value) (xs ys : List Int) (w : World) (ha : IntRow w va xs) (hb : IntRow w vb ys) : Calls Try.prog 25 #[va, vb] w (Ret w (.bool (decide (xs = ys)))) := by
  obtain ⟨ao, ca, rfl, a1, a2, a3⟩ := ha.out
  obtain ⟨bo, cb, rfl, b1, b2, b3⟩ := hb.out
  clear ha hb
  unfold maxLen at a2 b2
  by_cases hl : xs.length = ys.length
  · obtain ⟨n, hn⟩ : ∃ n, ys.length = n := ⟨_, rfl⟩
    rw [hn] at hl b1 b3 ⊢
    rw [hl] at a1 a3 ⊢
    have HN := Lib.hid hn; clear hn
    have HL := Lib.hid hl; clear hl
    go_enter Try.func25, Try.ntmps25
    go_wp2_with fail
    go_loopw [5] (fun i wr => ∃ k : Nat, k ≤ n ∧ i = .int .i64 k ∧ SameI xs ys k ∧ Below w.heap.size w wr) (fun i _ => n - (intOf i).toNat)
    case atStart => exact ⟨0, Nat.zero_le _, rfl, fun i hi => absurd hi (Nat.not_lt_zero _), (by repeat (first | with_reducible exact Below.refl _ _ | with_reducible refine Below.drew ?_ | (with_reducible refine Below.alloc ?_ (by first | exact Nat.le_refl _ | omega | (simp only [sizes]; omega)) _) | (with_reducible refine Below.setCell ?_ (by first | exact Nat.le_refl _ | omega | (simp only [sizes]; omega)) _) | (refine Below.trans ?_ (Below.mono (by with_reducible assumption) (by first | exact Nat.le_refl _ | omega | (simp only [sizes]; omega))))))⟩
    case round =>
      obtain ⟨k, hk, rfl, hsame, hbw⟩ := hrel
      by_cases hlt : k < n
      · obtain ⟨x, hx⟩ := get_lt (xs := xs) (k := k) (by rw [HL.out]; exact hlt)
        obtain ⟨y, hy⟩ := get_lt (xs := ys) (k := k) (by rw [HN.out]; exact hlt)
        obtain ⟨b, off, rfl, hbs, hbc⟩ := a3.resolve_left (by omega)
        obtain ⟨b', off', rfl, hbs', hbc'⟩ := b3.resolve_left (by omega)
        have hc := (hbw.cell (p := ⟨b, off + k, none⟩) hbs).trans (hbc k x hx)
        have hc' := (hbw.cell (p := ⟨b', off' + k, none⟩) hbs').trans (hbc' k y hy)
        have hs1 := hbw.size
        have hs2 : b < wr.heap.size := by omega
        have hs3 : b' < wr.heap.size := by omega
        clear hbc hbc' a3 b3
        have HX := Lib.hid hx; clear hx
        have HY := Lib.hid hy; clear hy
        by_cases hxy : (x == y) = true
        · have hxy' : (x != y) = false := by simp only [bne, hxy, Bool.not_true]
          go_wp2_with fail
          refine wp_region_quiet_below (by kernel_rfl) (by kernel_rfl) ?_
          repeat (go_big_quiet_step (first | fail | fail))
          refine wpQuiet_nil ?_
          intro w1 hw1
          have hb1 := below_of_regrown hw1
          clear hw1
          obtain ⟨hc1, hf1⟩ := bcell hb1
          have hz1 := bsize hb1
          try simp only [sizes1] at hz1
          try simp only [sizes] at hc1 hf1
          go_wp2_with fail
          go_roundw
          case rel => exact ⟨k + 1, by omega, by go_num, hsame.step HX.out (by rw [HY.out, beq_iff_eq.1 hxy]), (by repeat (first | with_reducible exact Below.refl _ _ | with_reducible refine Below.drew ?_ | (with_reducible refine Below.alloc ?_ (by first | exact Nat.le_refl _ | omega | (simp only [sizes]; omega)) _) | (with_reducible refine Below.setCell ?_ (by first | exact Nat.le_refl _ | omega | (simp only [sizes]; omega)) _) | (refine Below.trans ?_ (Below.mono (by with_reducible assumption) (by first | exact Nat.le_refl _ | omega | (simp only [sizes]; omega))))))⟩
          case measure => simp [intOf]; omega
        · have hxy1 : (x == y) = false := by simpa using hxy
          have hxy' : (x != y) = true := by simp only [bne, hxy1, Bool.not_false]
          go_wp2_with fail
          refine wp_region_quiet_below (by kernel_rfl) (by kernel_rfl) ?_
          repeat (go_big_quiet_step (first | fail | fail))
          refine wpQuiet_nil ?_
          intro w1 hw1
          have hb1 := below_of_regrown hw1
          clear hw1
          obtain ⟨hc1, hf1⟩ := bcell hb1
          have hz1 := bsize hb1
          try simp only [sizes1] at hz1
          try simp only [sizes] at hc1 hf1
          go_wp2_with fail
          go_ret
          exact Ret.mk' (congrArg Value.bool (by
            symm
            apply decide_eq_false
            rintro rfl
            have e1 := HX.out
            rw [HY.out] at e1
            simp at e1
            simp [e1] at hxy1)) (by repeat (first | with_reducible exact Below.refl _ _ | with_reducible refine Below.drew ?_ | (with_reducible refine Below.alloc ?_ (by first | exact Nat.le_refl _ | omega | (simp only [sizes]; omega)) _) | (with_reducible refine Below.setCell ?_ (by first | exact Nat.le_refl _ | omega | (simp only [sizes]; omega)) _) | (refine Below.trans ?_ (Below.mono (by with_reducible assumption) (by first | exact Nat.le_refl _ | omega | (simp only [sizes]; omega))))))
      · obtain rfl : k = n := by omega
        go_wp2_with fail
        go_ret
        exact Ret.mk' (congrArg Value.bool (by
          symm
          apply decide_eq_true
          refine SameI.eq ?_ (HL.out.trans HN.out.symm)
          rw [HL.out]; exact hsame)) (by repeat (first | with_reducible exact Below.refl _ _ | with_reducible refine Below.drew ?_ | (with_reducible refine Below.alloc ?_ (by first | exact Nat.le_refl _ | omega | (simp only [sizes]; omega)) _) | (with_reducible refine Below.setCell ?_ (by first | exact Nat.le_refl _ | omega | (simp only [sizes]; omega)) _) | (refine Below.trans ?_ (Below.mono (by with_reducible assumption) (by first | exact Nat.le_refl _ | omega | (simp only [sizes]; omega))))))
  · have hne : ((xs.length : Int) != ys.length) = true := by rw [bne_iff_ne]; omega
    have hne2 : ((xs.length : Int) == ys.length) = false := by rw [beq_eq_false_iff_ne]; omega
    go_enter Try.func25, Try.ntmps25
    go_wp2_with fail
    go_ret
    exact Ret.mk' (congrArg Value.bool (by
      symm
      apply decide_eq_false
      intro e
      exact hl (by rw [e]))) (by repeat (first | with_reducible exact Below.refl _ _ | with_reducible refine Below.drew ?_ | (with_reducible refine Below.alloc ?_ (by first | exact Nat.le_refl _ | omega | (simp only [sizes]; omega)) _) | (with_reducible refine Below.setCell ?_ (by first | exact Nat.le_refl _ | omega | (simp only [sizes]; omega)) _) | (refine Below.trans ?_ (Below.mono (by with_reducible assumption) (by first | exact Nat.le_refl _ | omega | (simp only [sizes]; omega))))))
end Go.Proofs.Ytclnjjppcdgkiaa
