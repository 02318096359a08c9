/-
  Pages' contents; a page of zeros, in the reference: walked.
-/
import Derived.Test.YtjoopjgpjkmmhaaPlZeros
import Derived.Test.YtjoopjgpjkmmhaaPl
import Derived.Test.YtjoopjgpjkmmhaaData
namespace Go.Proofs.Ytjoopjgpjkmmhaa
open Go.RowKit

theorem zeros_made (w : World) : (Instr.makeSlice 49 (.int .i64 128) (.int .i64 128)).run Try.prog w = .ok (.slice (some ⟨w.heap.size, 0, none⟩) 128 128) (w.alloc (.cells ((List.replicate 128 (0 : Int)).map (Value.int .u8)).toArray 5)) := by
  rw [List.map_replicate]
  exact run_make_one (P := Try.prog) 49 5 (.int .u8 0) 1 Try.underlying49 (by kernel_rfl) rfl 128 (by omega) (by omega) w
theorem bytes_conv {w : World} {g : Nat} {xs : List Int} (hx : xs.length = 128) (h : HasBlock w g (xs.map (Value.int .u8)).toArray 5) : (convert 49 9 (.slice (some ⟨g, 0, none⟩) 128 128)).run Try.prog w = .ok (.string (strOfNums xs)) w := by
  have ho : w.ownsRow g 5 1 (.slice (some ⟨g, 0, none⟩) 128 128) 128 (xs.map (Value.int .u8)) :=
    ⟨by rw [List.length_map, hx], .inr ⟨g, 128, _, rfl, Nat.le_refl _, h, Nat.le_refl _, by unfold maxLen; omega, by rw [List.size_toArray, List.length_map, hx], List.take_of_length_le (by rw [List.length_map, hx]; omega)⟩⟩
  obtain ⟨g', cap, e, _, _, hc⟩ := bytes_string ho (by omega) hx
  exact hc
theorem zeros_str : strOfNums (List.replicate 128 0) = zeros128 := by decide +kernel
set_option maxHeartbeats 1000000 in
theorem blank_any (w : World) : Calls Try.prog 41 #[] w (Ret w (.string zeros128)) := by
  have MK := zeros_made
  have CV : ∀ w g, HasBlock w g ((List.replicate 128 (0 : Int)).map (Value.int .u8)).toArray 5 → _ := fun w g h => bytes_conv (List.length_replicate ..) h
  rw [zeros_str] at CV
  obtain ⟨Z, hZ⟩ : ∃ Z, ((List.replicate 128 (0 : Int)).map (Value.int .u8)).toArray = Z := ⟨_, rfl⟩
  obtain ⟨z, hz⟩ : ∃ z, zeros128 = z := ⟨_, rfl⟩
  rw [hZ] at MK CV
  rw [hz] at CV ⊢
  have hcv := CV (w.alloc (.cells Z 5)) w.heap.size (HasBlock.made w Z 5)
  clear hz hZ CV
  go_enter Try.func41, Try.ntmps41
  go_wp2_with fail
  go_ret
  exact Ret.mk (by repeat (first | with_reducible exact Below.refl _ _ | with_reducible refine Below.drew ?_ | (with_reducible refine Below.alloc ?_ (by first | exact Nat.le_refl _ | omega | (dsimp only; omega) | (simp only [sizes]; omega)) _) | (with_reducible refine Below.setCell ?_ (by first | exact Nat.le_refl _ | omega | (dsimp only; omega) | (simp only [sizes]; omega)) _) | (refine Below.trans ?_ (Below.mono (by with_reducible assumption) (by first | exact Nat.le_refl _ | omega | (dsimp only; omega) | (simp only [sizes]; omega))))))
theorem zeroB_at {s : ByteArray} {k : Nat} (hk : k < s.size) (h : s[k] ≠ 0) : zeroB s = false := by
  unfold zeroB
  rw [List.all_eq_false]
  exact ⟨s[k], by simp [ByteArray.getElem_eq_getElem_data], by simpa using h⟩
theorem zero_take {s : ByteArray} {k : Nat} (hk : k < s.size) (h0 : (s.data.toList.take k).all (fun c => c == 0) = true) (h : s[k] = 0) : (s.data.toList.take (k + 1)).all (fun c => c == 0) = true := by
  rw [List.take_add_one, List.all_append, h0, Bool.true_and]
  have : s.data.toList[k]? = some s[k] := by
    rw [Array.getElem?_toList, Array.getElem?_eq_getElem (by exact hk)]; rfl
  rw [this, h]
  rfl
set_option maxHeartbeats 1000000 in
theorem zero_any (s : ByteArray) (w : World) (hs : s.size ≤ 9223372036854775807) : Calls Try.prog 42 #[.string s] w (Ret w (.bool (zeroB s))) := by
  go_enter Try.func42, Try.ntmps42
  go_wp2_with fail
  go_loop [3] (fun i => ∃ k : Nat, k ≤ s.size ∧ i = .int .i64 k ∧ Hid ((s.data.toList.take k).all (fun c => c == 0) = true)) (fun i => s.size - (intOf i).toNat)
  case atStart => exact ⟨0, Nat.zero_le _, rfl, rfl⟩
  case round =>
    obtain ⟨k, hk, rfl, hA⟩ := hrel
    by_cases hlt : k < s.size
    · by_cases h0 : s[k] = 0
      · have hup := zero_take hlt hA.out h0
        have HUP := Lib.hid hup; clear hup
        have e0 : s[k].toNat = 0 := by rw [h0]; rfl
        have e1 : ((s[k].toNat : Int) != 0) = false := by rw [bne_eq_false_iff_eq]; omega
        have e2 : (s[k].toNat != 0) = false := by rw [bne_eq_false_iff_eq]; omega
        have e3 : (s[k] != 0) = false := by rw [bne_eq_false_iff_eq]; exact h0
        clear h0 e0
        go_wp2_with fail
        go_round
        case rel => exact ⟨k + 1, by omega, by go_num, HUP.out⟩
        case measure => simp [intOf]; omega
      · have hno := zeroB_at hlt h0
        have HNO := Lib.hid hno; clear hno
        have e0 : s[k].toNat ≠ 0 := fun e => h0 (UInt8.toNat_inj.1 e)
        have e1 : ((s[k].toNat : Int) != 0) = true := by rw [bne_iff_ne]; omega
        have e2 : (s[k].toNat != 0) = true := by rw [bne_iff_ne]; omega
        have e3 : (s[k] != 0) = true := by rw [bne_iff_ne]; exact h0
        clear h0 e0
        go_wp2_with fail
        go_ret
        exact Ret.mk' (by rw [HNO.out]; rfl) (by repeat (first | with_reducible exact Below.refl _ _ | with_reducible refine Below.drew ?_ | (with_reducible refine Below.alloc ?_ (by first | exact Nat.le_refl _ | omega | (dsimp only; omega) | (simp only [sizes]; omega)) _) | (with_reducible refine Below.setCell ?_ (by first | exact Nat.le_refl _ | omega | (dsimp only; omega) | (simp only [sizes]; omega)) _) | (refine Below.trans ?_ (Below.mono (by with_reducible assumption) (by first | exact Nat.le_refl _ | omega | (dsimp only; omega) | (simp only [sizes]; omega))))))
    · obtain rfl : k = s.size := by omega
      have hyes : zeroB s = true := by
        have h := hA.out
        rw [List.take_of_length_le (by rw [Array.length_toList]; exact Nat.le_refl _)] at h
        exact h
      have HY := Lib.hid hyes; clear hyes
      go_wp2_with fail
      go_ret
      exact Ret.mk' (by rw [HY.out]; rfl) (by repeat (first | with_reducible exact Below.refl _ _ | with_reducible refine Below.drew ?_ | (with_reducible refine Below.alloc ?_ (by first | exact Nat.le_refl _ | omega | (dsimp only; omega) | (simp only [sizes]; omega)) _) | (with_reducible refine Below.setCell ?_ (by first | exact Nat.le_refl _ | omega | (dsimp only; omega) | (simp only [sizes]; omega)) _) | (refine Below.trans ?_ (Below.mono (by with_reducible assumption) (by first | exact Nat.le_refl _ | omega | (dsimp only; omega) | (simp only [sizes]; omega))))))
end Go.Proofs.Ytjoopjgpjkmmhaa
