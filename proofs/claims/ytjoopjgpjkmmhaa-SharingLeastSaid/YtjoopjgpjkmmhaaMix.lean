/-
  The pseudo-random step, the number made of two numbers, the remainder, walked.
-/
import Derived.Test.YtjoopjgpjkmmhaaBase
namespace Go.Proofs.Ytjoopjgpjkmmhaa
open Go.RowKit

def nextS (s : Int) : Int := IntKind.u64.wrap (s + 11400714819323198485)
def nextZ1 (s : Int) : Int := IntKind.u64.wrap (bits .xor .u64 (nextS s) (nextS s / 1073741824) * 13787848793156543929)
def nextZ2 (s : Int) : Int := IntKind.u64.wrap (bits .xor .u64 (nextZ1 s) (nextZ1 s / 134217728) * 10723151780598845931)
def nextV (s : Int) : Int := bits .xor .u64 (nextZ2 s) (nextZ2 s / 2147483648)
theorem wrap_u64_bd (x : Int) : 0 ≤ IntKind.u64.wrap x ∧ IntKind.u64.wrap x < 18446744073709551616 := by
  rw [IntKind.wrap_u64]; omega
theorem bits_u64_bd (o : BinOp) (x y : Int) : 0 ≤ bits o .u64 x y ∧ bits o .u64 x y < 18446744073709551616 := by
  unfold bits
  exact wrap_u64_bd _
theorem nextV_bd (s : Int) : 0 ≤ nextV s ∧ nextV s < 18446744073709551616 := bits_u64_bd _ _ _
theorem nextS_bd (s : Int) : 0 ≤ nextS s ∧ nextS s < 18446744073709551616 := wrap_u64_bd _
set_option maxHeartbeats 1000000 in
theorem vmfleetref1_Next_any (s : Int) (w : World) (_hs : 0 ≤ s ∧ s < 18446744073709551616) : Calls Try.prog 58 #[.int .u64 s] w (Ret w (.tuple #[.int .u64 (nextV s), .int .u64 (nextS s)])) := by
  go_enter Try.func58, Try.ntmps58
  go_wp2
  go_ret2
  exact Ret.mk' (by unfold nextV nextZ2 nextZ1 nextS; rfl) (by repeat (first | with_reducible exact Below.refl _ _ | with_reducible refine Below.drew ?_ | (with_reducible refine Below.alloc ?_ (by first | exact Nat.le_refl _ | omega | (simp only [sizes]; omega)) _) | (with_reducible refine Below.setCell ?_ (by first | exact Nat.le_refl _ | omega | (simp only [sizes]; omega)) _) | (refine Below.trans ?_ (Below.mono (by with_reducible assumption) (by first | exact Nat.le_refl _ | omega | (simp only [sizes]; omega))))))
theorem tmod_neg (n k : Int) (hk : 1 ≤ k) (h : n.tmod k < 0) : n.tmod k + k = n % k ∧ - k < n.tmod k := by
  have h1 := Int.tmod_eq_emod (a := n) (b := k)
  have h2 := Int.emod_nonneg n (show k ≠ 0 by omega)
  have h3 := Int.emod_lt_of_pos n (show 0 < k by omega)
  split at h1 <;> omega
theorem tmod_pos (n k : Int) (hk : 1 ≤ k) (h : 0 ≤ n.tmod k) : n.tmod k = n % k := by
  have h1 := Int.tmod_eq_emod (a := n) (b := k)
  have h2 := Int.emod_nonneg n (show k ≠ 0 by omega)
  have h3 := Int.emod_lt_of_pos n (show 0 < k by omega)
  split at h1 <;> omega
set_option maxHeartbeats 1000000 in
theorem round_any (n k : Int) (w : World) (_hn : -9223372036854775808 ≤ n ∧ n ≤ 9223372036854775807) (hk : 1 ≤ k) (hk' : k ≤ 1000000) : Calls Try.prog 13 #[.int .i64 n, .int .i64 k] w (Ret w (.int .i64 (n % k))) := by
  have hk0 : (k == 0) = false := by rw [beq_eq_false_iff_ne]; omega
  by_cases h : n.tmod k < 0
  · obtain ⟨h1, h2⟩ := tmod_neg n k hk h
    have H := Lib.hid h1; clear h1
    have h3 : -1000000 ≤ n.tmod k := by omega
    go_enter Try.func13, Try.ntmps13
    go_wp2
    go_ret
    exact Ret.mk' (by rw [H.out]; rfl) (by repeat (first | with_reducible exact Below.refl _ _ | with_reducible refine Below.drew ?_ | (with_reducible refine Below.alloc ?_ (by first | exact Nat.le_refl _ | omega | (simp only [sizes]; omega)) _) | (with_reducible refine Below.setCell ?_ (by first | exact Nat.le_refl _ | omega | (simp only [sizes]; omega)) _) | (refine Below.trans ?_ (Below.mono (by with_reducible assumption) (by first | exact Nat.le_refl _ | omega | (simp only [sizes]; omega))))))
  · have H := Lib.hid (tmod_pos n k hk (by omega))
    have h3 : 0 ≤ n.tmod k := by omega
    clear h
    go_enter Try.func13, Try.ntmps13
    go_wp2
    go_ret
    exact Ret.mk' (by rw [H.out]; rfl) (by repeat (first | with_reducible exact Below.refl _ _ | with_reducible refine Below.drew ?_ | (with_reducible refine Below.alloc ?_ (by first | exact Nat.le_refl _ | omega | (simp only [sizes]; omega)) _) | (with_reducible refine Below.setCell ?_ (by first | exact Nat.le_refl _ | omega | (simp only [sizes]; omega)) _) | (refine Below.trans ?_ (Below.mono (by with_reducible assumption) (by first | exact Nat.le_refl _ | omega | (simp only [sizes]; omega))))))
def mixI (n k : Int) : Int := nextV (bits .xor .u64 (IntKind.u64.wrap n) (IntKind.u64.wrap (IntKind.u64.wrap k * 11400714819323198485))) / 2
theorem mixI_bd (n k : Int) : 0 ≤ mixI n k ∧ mixI n k < 9223372036854775808 := by
  have := nextV_bd (bits .xor .u64 (IntKind.u64.wrap n) (IntKind.u64.wrap (IntKind.u64.wrap k * 11400714819323198485)))
  unfold mixI; omega
set_option maxHeartbeats 1000000 in
theorem mix_any (n k : Int) (w : World) : Calls Try.prog 48 #[.int .i64 n, .int .i64 k] w (Ret w (.int .i64 (mixI n k))) := by
  have hb := nextV_bd (bits .xor .u64 (IntKind.u64.wrap n) (IntKind.u64.wrap (IntKind.u64.wrap k * 11400714819323198485)))
  have hm : mixI n k = nextV (bits .xor .u64 (IntKind.u64.wrap n) (IntKind.u64.wrap (IntKind.u64.wrap k * 11400714819323198485))) / 2 := rfl
  have HM := Lib.hid hm; clear hm
  go_enter Try.func48, Try.ntmps48
  go_wp2_with fail
  refine (vmfleetref1_Next_any _ _ (bits_u64_bd _ _ _)).mono ?_
  rintro e w1 ⟨rfl, hb1⟩
  obtain ⟨hc1, hf1⟩ := bcell hb1
  have hz1 := bsize hb1
  try simp only [sizes1] at hz1
  try simp only [sizes] at hc1 hf1
  generalize hv : nextV (bits .xor .u64 (IntKind.u64.wrap n) (IntKind.u64.wrap (IntKind.u64.wrap k * 11400714819323198485))) = v at hb ⊢
  have HV := Lib.hid hv; clear hv
  go_wp2
  go_ret
  exact Ret.mk' (by rw [HM.out, HV.out]; rfl) (by repeat (first | with_reducible exact Below.refl _ _ | with_reducible refine Below.drew ?_ | (with_reducible refine Below.alloc ?_ (by first | exact Nat.le_refl _ | omega | (simp only [sizes]; omega)) _) | (with_reducible refine Below.setCell ?_ (by first | exact Nat.le_refl _ | omega | (simp only [sizes]; omega)) _) | (refine Below.trans ?_ (Below.mono (by with_reducible assumption) (by first | exact Nat.le_refl _ | omega | (simp only [sizes]; omega))))))
end Go.Proofs.Ytjoopjgpjkmmhaa
