/-
  The pseudo-random step, the number made of two numbers, the remainder, walked.
-/
import Derived.Test.YtclnjjppcdgkiaaTax
namespace Go.Proofs.Ytclnjjppcdgkiaa
open Go.RowKit

def nextS (s : Int) : Int := IntKind.u64.wrap (s + 11400714819323198485)
def nextZ1 (s : Int) : Int := IntKind.u64.wrap (bits .xor .u64 (nextS s) (nextS s / 1073741824) * 13787848793156543929)
def nextZ2 (s : Int) : Int := IntKind.u64.wrap (bits .xor .u64 (nextZ1 s) (nextZ1 s / 134217728) * 10723151780598845931)
def nextV (s : Int) : Int := bits .xor .u64 (nextZ2 s) (nextZ2 s / 2147483648)
theorem wrap_u64_bd (x : Int) : 0 ≤ IntKind.u64.wrap x ∧ IntKind.u64.wrap x < 18446744073709551616 := by
  rw [IntKind.wrap_u64]; omega
theorem bits_u64_bd (o : BinOp) (x y : Int) : 0 ≤ bits o .u64 x y ∧ bits o .u64 x y < 18446744073709551616 := by
  unfold bits
  exact wrap_u64_bd _
theorem nextV_bd (s : Int) : 0 ≤ nextV s ∧ nextV s < 18446744073709551616 := bits_u64_bd _ _ _
theorem nextS_bd (s : Int) : 0 ≤ nextS s ∧ nextS s < 18446744073709551616 := wrap_u64_bd _
set_option maxHeartbeats 1000000 in
theorem bits_Next_any (s : Int) (w : World) (_hs : 0 ≤ s ∧ s < 18446744073709551616) : Calls Try.prog 33 #[.int .u64 s] w (Ret w (.tuple #[.int .u64 (nextV s), .int .u64 (nextS s)])) := by
  go_enter Try.func33, Try.ntmps33
  go_wp2
  go_ret2
  exact Ret.mk' (by unfold nextV nextZ2 nextZ1 nextS; rfl) (by repeat (first | with_reducible exact Below.refl _ _ | with_reducible refine Below.drew ?_ | (with_reducible refine Below.alloc ?_ (by first | exact Nat.le_refl _ | omega | (simp only [sizes]; omega)) _) | (with_reducible refine Below.setCell ?_ (by first | exact Nat.le_refl _ | omega | (simp only [sizes]; omega)) _) | (refine Below.trans ?_ (Below.mono (by with_reducible assumption) (by first | exact Nat.le_refl _ | omega | (simp only [sizes]; omega))))))
set_option maxHeartbeats 1000000 in
theorem vmfleetref1_Next_any (s : Int) (w : World) (_hs : 0 ≤ s ∧ s < 18446744073709551616) : Calls Try.prog 34 #[.int .u64 s] w (Ret w (.tuple #[.int .u64 (nextV s), .int .u64 (nextS s)])) := by
  go_enter Try.func34, Try.ntmps34
  go_wp2
  go_ret2
  exact Ret.mk' (by unfold nextV nextZ2 nextZ1 nextS; rfl) (by repeat (first | with_reducible exact Below.refl _ _ | with_reducible refine Below.drew ?_ | (with_reducible refine Below.alloc ?_ (by first | exact Nat.le_refl _ | omega | (simp only [sizes]; omega)) _) | (with_reducible refine Below.setCell ?_ (by first | exact Nat.le_refl _ | omega | (simp only [sizes]; omega)) _) | (refine Below.trans ?_ (Below.mono (by with_reducible assumption) (by first | exact Nat.le_refl _ | omega | (simp only [sizes]; omega))))))
theorem tmod_neg (n k : Int) (hk : 1 ≤ k) (h : n.tmod k < 0) : n.tmod k + k = n % k ∧ - k < n.tmod k := by
  have h1 := Int.tmod_eq_emod (a := n) (b := k)
  have h2 := Int.emod_nonneg n (show k ≠ 0 by omega)
  have h3 := Int.emod_lt_of_pos n (show 0 < k by omega)
  split at h1 <;> omega
theorem tmod_pos (n k : Int) (hk : 1 ≤ k) (h : 0 ≤ n.tmod k) : n.tmod k = n % k := by
  have h1 := Int.tmod_eq_emod (a := n) (b := k)
  have h2 := Int.emod_nonneg n (show k ≠ 0 by omega)
  have h3 := Int.emod_lt_of_pos n (show 0 < k by omega)
  split at h1 <;> omega
set_option maxHeartbeats 1000000 in
theorem round_any (n k : Int) (w : World) (_hn : -9223372036854775808 ≤ n ∧ n ≤ 9223372036854775807) (hk : 1 ≤ k) (hk' : k ≤ 1000000) : Calls Try.prog 29 #[.int .i64 n, .int .i64 k] w (Ret w (.int .i64 (n % k))) := by
  have hk0 : (k == 0) = false := by rw [beq_eq_false_iff_ne]; omega
  by_cases h : n.tmod k < 0
  · obtain ⟨h1, h2⟩ := tmod_neg n k hk h
    have H := Lib.hid h1; clear h1
    have h3 : -1000000 ≤ n.tmod k := by omega
    go_enter Try.func29, Try.ntmps29
    go_wp2
    go_ret
    exact Ret.mk' (by rw [H.out]; rfl) (by repeat (first | with_reducible exact Below.refl _ _ | with_reducible refine Below.drew ?_ | (with_reducible refine Below.alloc ?_ (by first | exact Nat.le_refl _ | omega | (simp only [sizes]; omega)) _) | (with_reducible refine Below.setCell ?_ (by first | exact Nat.le_refl _ | omega | (simp only [sizes]; omega)) _) | (refine Below.trans ?_ (Below.mono (by with_reducible assumption) (by first | exact Nat.le_refl _ | omega | (simp only [sizes]; omega))))))
  · have H := Lib.hid (tmod_pos n k hk (by omega))
    have h3 : 0 ≤ n.tmod k := by omega
    clear h
    go_enter Try.func29, Try.ntmps29
    go_wp2
    go_ret
    exact Ret.mk' (by rw [H.out]; rfl) (by repeat (first | with_reducible exact Below.refl _ _ | with_reducible refine Below.drew ?_ | (with_reducible refine Below.alloc ?_ (by first | exact Nat.le_refl _ | omega | (simp only [sizes]; omega)) _) | (with_reducible refine Below.setCell ?_ (by first | exact Nat.le_refl _ | omega | (simp only [sizes]; omega)) _) | (refine Below.trans ?_ (Below.mono (by with_reducible assumption) (by first | exact Nat.le_refl _ | omega | (simp only [sizes]; omega))))))

def mix31 (n : Int) : Int := nextV (bits .xor .u64 (IntKind.u64.wrap n) (IntKind.u64.wrap 353422159399019153035)) / 2
theorem mix31_bd (n : Int) : 0 ≤ mix31 n ∧ mix31 n < 9223372036854775808 := by
  have := nextV_bd (bits .xor .u64 (IntKind.u64.wrap n) (IntKind.u64.wrap 353422159399019153035))
  unfold mix31; omega
set_option maxHeartbeats 1000000 in
theorem mix_any (n : Int) (w : World) : Calls Try.prog 36 #[.int .i64 n, .int .i64 31] w (Ret w (.int .i64 (mix31 n))) := by
  have hb := nextV_bd (bits .xor .u64 (IntKind.u64.wrap n) (IntKind.u64.wrap 353422159399019153035))
  go_enter Try.func36, Try.ntmps36
  go_wp2_with fail
  refine (vmfleetref1_Next_any _ _ (bits_u64_bd _ _ _)).mono ?_
  rintro e w1 ⟨rfl, hb1⟩
  obtain ⟨hc1, hf1⟩ := bcell hb1
  have hz1 := bsize hb1
  try simp only [sizes1] at hz1
  try simp only [sizes] at hc1 hf1
  generalize hv : nextV (bits .xor .u64 (IntKind.u64.wrap n) (IntKind.u64.wrap 353422159399019153035)) = v at hb ⊢
  have HV := Lib.hid hv; clear hv
  go_wp2
  go_ret
  exact Ret.mk' (by unfold mix31; rw [HV.out]; rfl) (by repeat (first | with_reducible exact Below.refl _ _ | with_reducible refine Below.drew ?_ | (with_reducible refine Below.alloc ?_ (by first | exact Nat.le_refl _ | omega | (simp only [sizes]; omega)) _) | (with_reducible refine Below.setCell ?_ (by first | exact Nat.le_refl _ | omega | (simp only [sizes]; omega)) _) | (refine Below.trans ?_ (Below.mono (by with_reducible assumption) (by first | exact Nat.le_refl _ | omega | (simp only [sizes]; omega))))))

theorem and_i64_bd (x c : Int) (h0 : 0 ≤ x) (h1 : x < 9223372036854775808) (hc0 : 0 ≤ c) (hc : c < 9223372036854775808) : 0 ≤ bits .and .i64 x c ∧ bits .and .i64 x c ≤ c := by
  obtain ⟨c, rfl⟩ : ∃ m : Nat, c = m := ⟨c.toNat, by omega⟩
  obtain ⟨m, rfl⟩ : ∃ m : Nat, x = m := ⟨x.toNat, by omega⟩
  have hx : m &&& c ≤ c := Nat.and_le_right
  have e : bits .and .i64 (m : Int) (c : Int) = ((m &&& c : Nat) : Int) := by
    show IntKind.i64.wrap ((BitVec.ofInt 64 (m : Int) &&& BitVec.ofInt 64 (c : Int)).toNat : Int) = _
    have e1 : (BitVec.ofInt 64 (m : Int)).toNat = m := by rw [BitVec.ofInt_natCast, BitVec.toNat_ofNat]; exact Nat.mod_eq_of_lt (by omega)
    have e2 : (BitVec.ofInt 64 (c : Int)).toNat = c := by rw [BitVec.ofInt_natCast, BitVec.toNat_ofNat]; exact Nat.mod_eq_of_lt (by omega)
    rw [BitVec.toNat_and, e1, e2, IntKind.wrap_i64]
    omega
  rw [e]
  omega

def claimV (v : Int) : Clm :=
  { r := 1 + bits .and .i64 v 7, s := 1 + bits .and .i64 (v / 8) 255, p := bits .and .i64 (v / 2048) 31, a := bits .and .i64 (v / 65536) 1023 * 1000 / 1023,
    l := 1 + bits .and .i64 v 7 + bits .and .i64 (v / 67108864) 31 }
def claimI (n : Int) : Clm := claimV (mix31 n)
theorem claimV_valid (v : Int) (h0 : 0 ≤ v) (h1 : v < 9223372036854775808) : validB (claimV v) = true ∧ (claimV v).l ≤ 39 ∧ (claimV v).p ≤ 31 ∧ (claimV v).s ≤ 256 ∧ (claimV v).r ≤ 8 := by
  have b1 := and_i64_bd v 7 h0 h1 (by omega) (by omega)
  have b2 := and_i64_bd (v / 8) 255 (by omega) (by omega) (by omega) (by omega)
  have b3 := and_i64_bd (v / 2048) 31 (by omega) (by omega) (by omega) (by omega)
  have b4 := and_i64_bd (v / 65536) 1023 (by omega) (by omega) (by omega) (by omega)
  have b5 := and_i64_bd (v / 67108864) 31 (by omega) (by omega) (by omega) (by omega)
  rw [validB_iff]
  unfold claimV
  dsimp only
  omega
theorem claimI_valid (n : Int) : validB (claimI n) = true := (claimV_valid _ (mix31_bd n).1 (mix31_bd n).2).1

set_option maxHeartbeats 1000000 in
theorem claim_any (n : Int) (w : World) : Calls Try.prog 30 #[.int .i64 n] w (Ret w (.agg #[.int .i64 (claimI n).r, .int .i64 (claimI n).l, .int .i64 (claimI n).s, .int .i64 (claimI n).p, .int .i64 (claimI n).a])) := by
  obtain ⟨v, hv⟩ : ∃ v, mix31 n = v := ⟨_, rfl⟩
  have hb := mix31_bd n
  have hm := mix_any n
  unfold claimI
  rw [hv] at hb hm ⊢
  have HM := Lib.hid hm; clear hm hv
  have b1 := and_i64_bd v 7 hb.1 hb.2 (by omega) (by omega)
  have b2 := and_i64_bd (v / 8) 255 (by omega) (by omega) (by omega) (by omega)
  have b3 := and_i64_bd (v / 2048) 31 (by omega) (by omega) (by omega) (by omega)
  have b4 := and_i64_bd (v / 65536) 1023 (by omega) (by omega) (by omega) (by omega)
  have b5 := and_i64_bd (v / 67108864) 31 (by omega) (by omega) (by omega) (by omega)
  go_enter Try.func30, Try.ntmps30
  go_wp2_with fail
  refine (HM.out _).mono ?_
  rintro e w1 ⟨rfl, hb1⟩
  obtain ⟨hc1, hf1⟩ := bcell hb1
  have hz1 := bsize hb1
  try simp only [sizes1] at hz1
  try simp only [sizes] at hc1 hf1
  have hB1 : w.heap.size < w1.heap.size := by omega
  go_wp2
  exact bodyPost_ret (v := .agg #[.int .i64 (claimV v).r, .int .i64 (claimV v).l, .int .i64 (claimV v).s, .int .i64 (claimV v).p, .int .i64 (claimV v).a]) (by simp [results, Try.results30, go_sem, hB1, hc1, claimV]) rfl (Ret.mk (by repeat (first | with_reducible exact Below.refl _ _ | with_reducible refine Below.drew ?_ | (with_reducible refine Below.alloc ?_ (by first | exact Nat.le_refl _ | omega | (simp only [sizes]; omega)) _) | (with_reducible refine Below.setCell ?_ (by first | exact Nat.le_refl _ | omega | (simp only [sizes]; omega)) _) | (refine Below.trans ?_ (Below.mono (by with_reducible assumption) (by first | exact Nat.le_refl _ | omega | (simp only [sizes]; omega)))))))
end Go.Proofs.Ytclnjjppcdgkiaa
