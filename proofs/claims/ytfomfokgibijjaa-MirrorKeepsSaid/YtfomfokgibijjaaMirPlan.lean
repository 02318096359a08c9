/-
  Bytes made of a number; a disk of four blocks: walked.
-/
import Derived.Test.YtfomfokgibijjaaMix
import Derived.Test.YtfomfokgibijjaaStr
import Derived.Laws.BytesArg
namespace Go.Proofs.Ytfomfokgibijjaa
open Go.RowKit

theorem info_byte : (Try.prog.info? 5).map (fun i => (i.zero, i.size, i.bytes)) = some (some (.int .u8 0), 1, 1) := by kernel_rfl
def dataI (n : Int) (k : Nat) : List Int := (List.range k).map (fun i : Nat => mixI n ((i : Int) / 9) % 256)
theorem dataI_len (n : Int) (k : Nat) : (dataI n k).length = k := by simp [dataI]
theorem dataI_succ (n : Int) (k : Nat) : dataI n (k + 1) = dataI n k ++ [mixI n ((k : Int) / 9) % 256] := by
  unfold dataI
  rw [List.range_succ, List.map_append]
  rfl
def dataS (n : Int) (k : Nat) : ByteArray := strOfNums (dataI n k)
theorem dataS_size (n : Int) (k : Nat) : (dataS n k).size = k := by rw [dataS, strOfNums_size, dataI_len]
theorem bytes_string {w : World} {base n : Nat} {v : Value} {xs : List Int} (h : w.ownsRow base 5 1 v n (xs.map (Value.int .u8))) (hn : 0 < n) (hx : xs.length = n) : ∃ g cap, v = .slice (some ⟨g, 0, none⟩) n cap ∧ n ≤ cap ∧ cap ≤ maxLen ∧ (convert 44 9 v).run Try.prog w = .ok (.string (strOfNums xs)) w := by
  rcases h.2 with ⟨_, hbad⟩ | ⟨g, cap, cur, rfl, hb, hg, h1, h2, h3, h4⟩
  · omega
  · refine ⟨g, cap, rfl, h1, h2, ?_⟩
    refine run_convert_bytes_arg w 44 5 Try.underlying44 Try.underlying5 g 0 n cap xs hx (fun i hi => ?_) 9 Try.underlying9
    rw [Nat.zero_add]
    have := h.cellAt i (by omega)
    rw [this, List.getElem?_map, List.getD_eq_getElem?_getD, List.getElem?_eq_getElem (by omega)]
    rfl
theorem one_u8 (x : Int) : ∀ u ∈ [Value.int .u8 x], u.oneCell' = true := by
  intro u hu
  simp at hu
  subst hu
  rfl
set_option maxHeartbeats 1000000 in
theorem data_any (n : Int) (K : Nat) (w : World) (h0 : 0 < K) (hK : K ≤ 100000) : Calls Try.prog 23 #[.int .i64 n, .int .i64 K] w (Ret w (.string (dataS n K))) := by
  obtain ⟨i0, hi, iz0, iz1, iz2⟩ := info_parts info_byte
  go_enter Try.func23, Try.ntmps23
  go_wp2_with fail
  go_loopw [5, 6] (fun v i wr => ∃ k : Nat, k ≤ K ∧ i = .int .i64 k ∧ wr.ownsRow w.heap.size 5 1 v k ((dataI n k).map (Value.int .u8)) ∧ Below w.heap.size w wr) (fun _ i _ => K - (intOf i).toNat)
  case atStart => exact ⟨0, by omega, rfl, World.ownsRow_nil _ _ _ _, (by repeat (first | with_reducible exact Below.refl _ _ | with_reducible refine Below.drew ?_ | (with_reducible refine Below.alloc ?_ (by first | exact Nat.le_refl _ | omega | (simp only [sizes]; omega)) _) | (with_reducible refine Below.setCell ?_ (by first | exact Nat.le_refl _ | omega | (simp only [sizes]; omega)) _) | (refine Below.trans ?_ (Below.mono (by with_reducible assumption) (by first | exact Nat.le_refl _ | omega | (simp only [sizes]; omega))))))⟩
  case round =>
    obtain ⟨k, hk, rfl, hown, hbw⟩ := hrel
    have hbs0 := hbw.size
    by_cases hlt : k < K
    · have HO := Lib.hid hown; clear hown
      have hm := mixI_bd n ((k : Int) / 9)
      have M := fun w => mix_any n ((k : Int) / 9) w
      have hsu := dataI_succ n k
      obtain ⟨x, hx⟩ : ∃ x, mixI n ((k : Int) / 9) = x := ⟨_, rfl⟩
      rw [hx] at hm M hsu
      have HM := Lib.hid M; clear M hx
      have HSU := Lib.hid hsu; clear hsu
      go_wp2_with fail
      with_reducible refine (HM.out _).mono ?_
      rintro e w1 ⟨rfl, hb1⟩
      obtain ⟨hc1, hf1⟩ := bcell hb1
      have hz1 := bsize hb1
      try simp only [sizes1] at hz1
      try simp only [sizes] at hc1 hf1
      have hbw1 : Below w.heap.size w w1 := hbw.trans (hb1.mono hbw.size)
      have HO1 := Lib.hid (owns_below HO.out hb1)
      clear hb1 hc1 hf1 HO hbw
      go_wp2_with (at_builtin; refine wpList_append_own _ rfl (.tmp 12) (.tmp 18) 44 rfl w.heap.size 5 i0 (.int .u8 0) 1 1 Try.underlying44 hi iz0 iz1 iz2 rfl (by decide) _ k ((dataI n k).map (Value.int .u8)) rfl (HO1.out.alloc _) ⟨w1.heap.size, 0, none⟩ 1 1 [.int .u8 (x % 256)] rfl rfl (cells_made _ [.int .u8 (x % 256)] _ _ (by first | rfl | simp only [sizes])) (one_u8 _) (by unfold maxLen; omega) (by omega) (by first | exact Nat.le_refl _ | omega | (simp only [sizes]; omega)) ?_; intro v3 w3 hown3 hgrow3 _; have hb3 := below_append (by repeat (first | with_reducible exact Below.refl _ _ | with_reducible refine Below.drew ?_ | (with_reducible refine Below.alloc ?_ (by first | exact Nat.le_refl _ | omega | (simp only [sizes]; omega)) _) | (with_reducible refine Below.setCell ?_ (by first | exact Nat.le_refl _ | omega | (simp only [sizes]; omega)) _) | (refine Below.trans ?_ (Below.mono (by with_reducible assumption) (by first | exact Nat.le_refl _ | omega | (simp only [sizes]; omega)))))) (HO1.out.alloc _) hgrow3; have hz3 := hb3.size)
      have hown4 : w3.ownsRow w.heap.size 5 1 v3 (k + 1) ((dataI n (k + 1)).map (Value.int .u8)) := by
        rw [HSU.out, List.map_append]
        exact hown3
      clear hown3
      go_wp2_with fail
      go_roundw
      case rel => exact ⟨k + 1, by omega, by go_num, hown4, hb3⟩
      case measure => simp [intOf]; omega
    · obtain rfl : k = K := by omega
      obtain ⟨g, cap, rfl, h1, h2, hcv⟩ := bytes_string hown h0 (dataI_len n k)
      have hd : strOfNums (dataI n k) = dataS n k := rfl
      rw [hd] at hcv
      clear hown hd
      go_wp2_with fail
      go_ret
      exact Ret.mk (by repeat (first | with_reducible exact Below.refl _ _ | with_reducible refine Below.drew ?_ | (with_reducible refine Below.alloc ?_ (by first | exact Nat.le_refl _ | omega | (simp only [sizes]; omega)) _) | (with_reducible refine Below.setCell ?_ (by first | exact Nat.le_refl _ | omega | (simp only [sizes]; omega)) _) | (refine Below.trans ?_ (Below.mono (by with_reducible assumption) (by first | exact Nat.le_refl _ | omega | (simp only [sizes]; omega))))))
theorem one_str (x : ByteArray) : ∀ u ∈ [Value.string x], u.oneCell' = true := by
  intro u hu
  simp at hu
  subst hu
  rfl
def blocksL (n : Int) (k : Nat) : List ByteArray := (List.range k).map (fun i : Nat => dataS (wrap64 (n + (i : Int))) 128)
theorem blocksL_succ (n : Int) (k : Nat) : blocksL n (k + 1) = blocksL n k ++ [dataS (wrap64 (n + (k : Int))) 128] := by
  unfold blocksL
  rw [List.range_succ, List.map_append]
  rfl
theorem blocksL_len (n : Int) (k : Nat) : (blocksL n k).length = k := by simp [blocksL]
set_option maxHeartbeats 1000000 in
theorem blocks_any (n : Int) (w : World) : Calls Try.prog 21 #[.int .i64 n] w (RetOwn Value.string 9 w (blocksL n 4)) := by
  obtain ⟨i0, hi, iz0, iz1, iz2⟩ := info_parts info_str
  go_enter Try.func21, Try.ntmps21
  go_wp2_with fail
  go_loopw [3, 4] (fun v i wr => ∃ k : Nat, k ≤ 4 ∧ i = .int .i64 k ∧ wr.ownsRow w.heap.size 9 1 v k ((blocksL n k).map Value.string) ∧ Below w.heap.size w wr) (fun _ i _ => 4 - (intOf i).toNat)
  case atStart => exact ⟨0, by omega, rfl, World.ownsRow_nil _ _ _ _, (by repeat (first | with_reducible exact Below.refl _ _ | with_reducible refine Below.drew ?_ | (with_reducible refine Below.alloc ?_ (by first | exact Nat.le_refl _ | omega | (simp only [sizes]; omega)) _) | (with_reducible refine Below.setCell ?_ (by first | exact Nat.le_refl _ | omega | (simp only [sizes]; omega)) _) | (refine Below.trans ?_ (Below.mono (by with_reducible assumption) (by first | exact Nat.le_refl _ | omega | (simp only [sizes]; omega))))))⟩
  case round =>
    obtain ⟨k, hk, rfl, hown, hbw⟩ := hrel
    have hbs0 := hbw.size
    by_cases hlt : k < 4
    · have HO := Lib.hid hown; clear hown
      have M : ∀ w, Calls Try.prog 23 #[.int .i64 (wrap64 (n + (k : Int))), .int .i64 128] w (Ret w (.string (dataS (wrap64 (n + (k : Int))) 128))) := fun w => data_any (wrap64 (n + (k : Int))) 128 w (by omega) (by omega)
      have hsu := blocksL_succ n k
      obtain ⟨x, hx⟩ : ∃ x, dataS (wrap64 (n + (k : Int))) 128 = x := ⟨_, rfl⟩
      rw [hx] at hsu
      rw [hx] at M
      have HM := Lib.hid M; clear M hx
      have HSU := Lib.hid hsu; clear hsu
      go_wp2_with fail
      with_reducible refine (HM.out _).mono ?_
      rintro e w1 ⟨rfl, hb1⟩
      obtain ⟨hc1, hf1⟩ := bcell hb1
      have hz1 := bsize hb1
      try simp only [sizes1] at hz1
      try simp only [sizes] at hc1 hf1
      have hbw1 : Below w.heap.size w w1 := hbw.trans (hb1.mono hbw.size)
      have HO1 := Lib.hid (owns_below HO.out hb1)
      clear hb1 hc1 hf1 HO hbw
      go_wp2_with (at_builtin; refine wpList_append_own _ rfl (.tmp 9) (.tmp 14) 22 rfl w.heap.size 9 i0 (.string ⟨#[]⟩) 1 16 Try.underlying22 hi iz0 iz1 iz2 rfl (by decide) _ k ((blocksL n k).map Value.string) rfl (HO1.out.alloc _) ⟨w1.heap.size, 0, none⟩ 1 1 [.string x] rfl rfl (cells_made _ [.string x] _ _ (by first | rfl | simp only [sizes])) (one_str _) (by unfold maxLen; omega) (by omega) (by first | exact Nat.le_refl _ | omega | (simp only [sizes]; omega)) ?_; intro v3 w3 hown3 hgrow3 _; have hb3 := below_append (by repeat (first | with_reducible exact Below.refl _ _ | with_reducible refine Below.drew ?_ | (with_reducible refine Below.alloc ?_ (by first | exact Nat.le_refl _ | omega | (simp only [sizes]; omega)) _) | (with_reducible refine Below.setCell ?_ (by first | exact Nat.le_refl _ | omega | (simp only [sizes]; omega)) _) | (refine Below.trans ?_ (Below.mono (by with_reducible assumption) (by first | exact Nat.le_refl _ | omega | (simp only [sizes]; omega)))))) (HO1.out.alloc _) hgrow3; have hz3 := hb3.size)
      have hown4 : w3.ownsRow w.heap.size 9 1 v3 (k + 1) ((blocksL n (k + 1)).map Value.string) := by
        rw [HSU.out, List.map_append]
        exact hown3
      clear hown3
      go_wp2_with fail
      go_roundw
      case rel => exact ⟨k + 1, by omega, by go_num, hown4, hb3⟩
      case measure => simp [intOf]; omega
    · obtain rfl : k = 4 := by omega
      have HO := Lib.hid hown; clear hown
      go_wp2_with fail
      go_ret
      exact ⟨_, rfl, (by unfold OwnEnc; rw [blocksL_len]; exact HO.out), (by repeat (first | with_reducible exact Below.refl _ _ | with_reducible refine Below.drew ?_ | (with_reducible refine Below.alloc ?_ (by first | exact Nat.le_refl _ | omega | (simp only [sizes]; omega)) _) | (with_reducible refine Below.setCell ?_ (by first | exact Nat.le_refl _ | omega | (simp only [sizes]; omega)) _) | (refine Below.trans ?_ (Below.mono (by with_reducible assumption) (by first | exact Nat.le_refl _ | omega | (simp only [sizes]; omega))))))⟩
end Go.Proofs.Ytfomfokgibijjaa
