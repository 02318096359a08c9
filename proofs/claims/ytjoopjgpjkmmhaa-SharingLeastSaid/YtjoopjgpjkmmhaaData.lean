/-
  Bytes made of a number, walked.
-/
import Derived.Test.YtjoopjgpjkmmhaaMix
import Derived.Test.YtjoopjgpjkmmhaaStr
import Derived.Laws.BytesArg
namespace Go.Proofs.Ytjoopjgpjkmmhaa
open Go.RowKit

theorem info_byte : (Try.prog.info? 5).map (fun i => (i.zero, i.size, i.bytes)) = some (some (.int .u8 0), 1, 1) := by kernel_rfl
def dataI (n : Int) (k : Nat) : List Int := (List.range k).map (fun i : Nat => mixI n ((i : Int) / 9) % 256)
theorem dataI_len (n : Int) (k : Nat) : (dataI n k).length = k := by simp [dataI]
theorem dataI_succ (n : Int) (k : Nat) : dataI n (k + 1) = dataI n k ++ [mixI n ((k : Int) / 9) % 256] := by
  unfold dataI
  rw [List.range_succ, List.map_append]
  rfl
def dataS (n : Int) (k : Nat) : ByteArray := strOfNums (dataI n k)
theorem dataS_size (n : Int) (k : Nat) : (dataS n k).size = k := by rw [dataS, strOfNums_size, dataI_len]
theorem bytes_string {w : World} {base n : Nat} {v : Value} {xs : List Int} (h : w.ownsRow base 5 1 v n (xs.map (Value.int .u8))) (hn : 0 < n) (hx : xs.length = n) : ∃ g cap, v = .slice (some ⟨g, 0, none⟩) n cap ∧ n ≤ cap ∧ cap ≤ maxLen ∧ (convert 49 9 v).run Try.prog w = .ok (.string (strOfNums xs)) w := by
  rcases h.2 with ⟨_, hbad⟩ | ⟨g, cap, cur, rfl, hb, hg, h1, h2, h3, h4⟩
  · omega
  · refine ⟨g, cap, rfl, h1, h2, ?_⟩
    refine run_convert_bytes_arg w 49 5 Try.underlying49 Try.underlying5 g 0 n cap xs hx (fun i hi => ?_) 9 Try.underlying9
    rw [Nat.zero_add]
    have := h.cellAt i (by omega)
    rw [this, List.getElem?_map, List.getD_eq_getElem?_getD, List.getElem?_eq_getElem (by omega)]
    rfl
theorem one_u8 (x : Int) : ∀ u ∈ [Value.int .u8 x], u.oneCell' = true := by
  intro u hu
  simp at hu
  subst hu
  rfl
set_option maxHeartbeats 1000000 in
theorem data_any (n : Int) (K : Nat) (w : World) (h0 : 0 < K) (hK : K ≤ 100000) : Calls Try.prog 31 #[.int .i64 n, .int .i64 K] w (Ret w (.string (dataS n K))) := by
  obtain ⟨i0, hi, iz0, iz1, iz2⟩ := info_parts info_byte
  go_enter Try.func31, Try.ntmps31
  go_wp2_with fail
  go_loopw [5, 6] (fun v i wr => ∃ k : Nat, k ≤ K ∧ i = .int .i64 k ∧ wr.ownsRow w.heap.size 5 1 v k ((dataI n k).map (Value.int .u8)) ∧ Below w.heap.size w wr) (fun _ i _ => K - (intOf i).toNat)
  case atStart => exact ⟨0, by omega, rfl, World.ownsRow_nil _ _ _ _, (by repeat (first | with_reducible exact Below.refl _ _ | with_reducible refine Below.drew ?_ | (with_reducible refine Below.alloc ?_ (by first | exact Nat.le_refl _ | omega | (simp only [sizes]; omega)) _) | (with_reducible refine Below.setCell ?_ (by first | exact Nat.le_refl _ | omega | (simp only [sizes]; omega)) _) | (refine Below.trans ?_ (Below.mono (by with_reducible assumption) (by first | exact Nat.le_refl _ | omega | (simp only [sizes]; omega))))))⟩
  case round =>
    obtain ⟨k, hk, rfl, hown, hbw⟩ := hrel
    have hbs0 := hbw.size
    by_cases hlt : k < K
    · have HO := Lib.hid hown; clear hown
      have hm := mixI_bd n ((k : Int) / 9)
      have M := fun w => mix_any n ((k : Int) / 9) w
      have hsu := dataI_succ n k
      obtain ⟨x, hx⟩ : ∃ x, mixI n ((k : Int) / 9) = x := ⟨_, rfl⟩
      rw [hx] at hm M hsu
      have HM := Lib.hid M; clear M hx
      have HSU := Lib.hid hsu; clear hsu
      go_wp2_with fail
      with_reducible refine (HM.out _).mono ?_
      rintro e w1 ⟨rfl, hb1⟩
      obtain ⟨hc1, hf1⟩ := bcell hb1
      have hz1 := bsize hb1
      try simp only [sizes1] at hz1
      try simp only [sizes] at hc1 hf1
      have hbw1 : Below w.heap.size w w1 := hbw.trans (hb1.mono hbw.size)
      have HO1 := Lib.hid (owns_below HO.out hb1)
      clear hb1 hc1 hf1 HO hbw
      go_wp2_with (at_builtin; refine wpList_append_own _ rfl (.tmp 12) (.tmp 18) 49 rfl w.heap.size 5 i0 (.int .u8 0) 1 1 Try.underlying49 hi iz0 iz1 iz2 rfl (by decide) _ k ((dataI n k).map (Value.int .u8)) rfl (HO1.out.alloc _) ⟨w1.heap.size, 0, none⟩ 1 1 [.int .u8 (x % 256)] rfl rfl (cells_made _ [.int .u8 (x % 256)] _ _ (by first | rfl | simp only [sizes])) (one_u8 _) (by unfold maxLen; omega) (by omega) (by first | exact Nat.le_refl _ | omega | (simp only [sizes]; omega)) ?_; intro v3 w3 hown3 hgrow3 _; have hb3 := below_append (by repeat (first | with_reducible exact Below.refl _ _ | with_reducible refine Below.drew ?_ | (with_reducible refine Below.alloc ?_ (by first | exact Nat.le_refl _ | omega | (simp only [sizes]; omega)) _) | (with_reducible refine Below.setCell ?_ (by first | exact Nat.le_refl _ | omega | (simp only [sizes]; omega)) _) | (refine Below.trans ?_ (Below.mono (by with_reducible assumption) (by first | exact Nat.le_refl _ | omega | (simp only [sizes]; omega)))))) (HO1.out.alloc _) hgrow3; have hz3 := hb3.size)
      have hown4 : w3.ownsRow w.heap.size 5 1 v3 (k + 1) ((dataI n (k + 1)).map (Value.int .u8)) := by
        rw [HSU.out, List.map_append]
        exact hown3
      clear hown3
      go_wp2_with fail
      go_roundw
      case rel => exact ⟨k + 1, by omega, by go_num, hown4, hb3⟩
      case measure => simp [intOf]; omega
    · obtain rfl : k = K := by omega
      obtain ⟨g, cap, rfl, h1, h2, hcv⟩ := bytes_string hown h0 (dataI_len n k)
      have hd : strOfNums (dataI n k) = dataS n k := rfl
      rw [hd] at hcv
      clear hown hd
      go_wp2_with fail
      go_ret
      exact Ret.mk (by repeat (first | with_reducible exact Below.refl _ _ | with_reducible refine Below.drew ?_ | (with_reducible refine Below.alloc ?_ (by first | exact Nat.le_refl _ | omega | (simp only [sizes]; omega)) _) | (with_reducible refine Below.setCell ?_ (by first | exact Nat.le_refl _ | omega | (simp only [sizes]; omega)) _) | (refine Below.trans ?_ (Below.mono (by with_reducible assumption) (by first | exact Nat.le_refl _ | omega | (simp only [sizes]; omega))))))
end Go.Proofs.Ytjoopjgpjkmmhaa
