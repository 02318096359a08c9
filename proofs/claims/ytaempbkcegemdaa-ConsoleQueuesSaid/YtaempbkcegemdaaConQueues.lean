/-
  The law 'the keys that were read, followed by the keys that are left, are the keys that were accepted, in order', walked.
-/
import Derived.Test.YtaempbkcegemdaaConAwake
import Derived.Lib.QuietBelow
import Derived.Lib.Strings
namespace Go.Proofs.Ytaempbkcegemdaa
open Go.RowKit

theorem queues_out (ao : Option Addr) (len cap : Nat) (w : World) (h : 100 < len) (hl : len ≤ 9223372036854775807) : Calls Try.prog 5 #[.slice ao len cap] w (Ret w (.bool true)) := by
  go_enter Try.func5, Try.ntmps5
  go_wp2_with fail
  refine (awake_any _).mono ?_
  rintro e w1 ⟨rfl, hb1⟩
  go_wp2_with fail
  go_ret
  exact Ret.mk (by repeat (first | exact Below.refl _ _ | with_reducible refine Below.drew ?_ | (with_reducible refine Below.alloc ?_ (by first | exact Nat.le_refl _ | omega | (simp only [World.size_alloc, World.size_setCell, World.size_drew]; omega)) _) | (with_reducible refine Below.setCell ?_ (by first | exact Nat.le_refl _ | omega | (simp only [World.size_alloc, World.size_setCell, World.size_drew]; omega)) _) | (refine Below.trans ?_ (Below.mono (by assumption) (by first | exact Nat.le_refl _ | omega | (simp only [World.size_alloc, World.size_setCell, World.size_drew]; omega))))))

theorem ba_ext {a b : ByteArray} (h : a.data.toList = b.data.toList) : a = b := by
  obtain ⟨⟨x⟩⟩ := a
  obtain ⟨⟨y⟩⟩ := b
  simp at h
  rw [h]
theorem byteStr_data (n : Int) : (byteStr n).data.toList = [UInt8.ofNat n.toNat] := rfl
theorem extract_tail (n : Int) (S : ByteArray) : (byteStr n ++ S).extract 1 (byteStr n ++ S).size = S := by
  apply ba_ext
  rw [Lib.extract_data, ByteArray.data_append, Array.toList_append, byteStr_data, ByteArray.size_append, byteStr_size, Nat.add_sub_cancel_left]
  show List.take S.size S.data.toList = _
  exact List.take_of_length_le (by rw [Array.length_toList]; exact Nat.le_refl _)
theorem uncons (S : ByteArray) (h : 0 < S.size) : ∃ (n : Nat) (S' : ByteArray), n ≤ 255 ∧ S = byteStr n ++ S' := by
  obtain ⟨⟨l⟩⟩ := S
  match l, h with
  | c :: l, _ =>
    refine ⟨c.toNat, ⟨⟨l⟩⟩, by have := c.toNat_lt; omega, ba_ext ?_⟩
    rw [ByteArray.data_append, Array.toList_append, byteStr_data]
    simp
theorem head_of (n : Nat) (S : ByteArray) (h : n ≤ 255) : ((byteStr n ++ S).data[0]?.getD 0).toNat = n := by
  rw [← Array.getElem?_toList, ByteArray.data_append, Array.toList_append, byteStr_data]
  simp [UInt8.toNat_ofNat']
  omega

set_option maxHeartbeats 2000000 in
theorem queues_in (b off len cap : Nat) (zs : List Int) (w : World) (h : len ≤ 100) (hb : b < w.heap.size) (hc : ∀ i, i < len → w.cell? ⟨b, off + i, none⟩ = some (.int .i64 (zs.getD i 0))) :
    Calls Try.prog 5 #[.slice (some ⟨b, off, none⟩) len cap] w (Ret w (.bool true)) := by
  go_enter Try.func5, Try.ntmps5
  go_wp2_with fail
  go_loopw [4, 5, 6] (fun t r i wr => ∃ k : Nat, k ≤ len ∧ i = .int .i64 k ∧ (∃ (T R S : ByteArray), t = .string T ∧ r = .string R ∧ R ++ S = T ∧ S.size ≤ 16 ∧ T.size ≤ k ∧ wr.cell? ⟨w.heap.size, 0, none⟩ = some (.string S)) ∧ wr.frozen? ⟨w.heap.size, 0, none⟩ = false ∧ w.heap.size < wr.heap.size ∧ Below w.heap.size w wr) (fun _ _ i _ => len - (intOf i).toNat)
  case atStart => exact ⟨0, Nat.zero_le _, rfl, ⟨_, _, ⟨#[]⟩, rfl, rfl, rfl, by decide, Nat.le_refl _, by simp [go_sem]⟩, by simp [go_sem], by simp, (by repeat (first | exact Below.refl _ _ | with_reducible refine Below.drew ?_ | (with_reducible refine Below.alloc ?_ (by first | exact Nat.le_refl _ | omega | (simp only [World.size_alloc, World.size_setCell, World.size_drew]; omega)) _) | (with_reducible refine Below.setCell ?_ (by first | exact Nat.le_refl _ | omega | (simp only [World.size_alloc, World.size_setCell, World.size_drew]; omega)) _) | (refine Below.trans ?_ (Below.mono (by assumption) (by first | exact Nat.le_refl _ | omega | (simp only [World.size_alloc, World.size_setCell, World.size_drew]; omega))))))⟩
  case round =>
    obtain ⟨k, hk, rfl, ⟨T, R, S, rfl, rfl, hT, hS, hTk, hcell⟩, hfr, hsz, hbw⟩ := hrel
    have HT := Lib.hid hT; clear hT
    by_cases hlt : k < len
    · have hz : wr.cell? ⟨b, off + k, none⟩ = some (.int .i64 (zs.getD k 0)) := (hbw.cell (p := ⟨b, off + k, none⟩) hb).trans (hc k hlt)
      clear hc
      generalize zs.getD k 0 = z at hz
      by_cases hodd : (bits .and .i64 z 1 == 0) = true
      · generalize hbv : bits .and .i64 (z / 2) 255 % 256 = bv
        have HBV := Lib.hid hbv
        by_cases hfull : S.size < 16
        · have hsum : T.size ≤ R.size + S.size ∧ R.size + S.size ≤ T.size := by rw [← HT.out, ByteArray.size_append]; omega
          have hdec : decide ((T.size : Int) - R.size < 16) = true := decide_eq_true (by omega)
          have hcv := run_one_byte bv
          have hbz := byteStr_size bv
          go_wp2_with fail
          refine (console_Type_room S bv _ hfull).mono ?_
          rintro e w1 ⟨rfl, hb1⟩
          obtain ⟨hc1, hf1⟩ := bcell hb1
          have hz1 := bsize hb1
          try simp only [World.size_alloc, World.size_setCell, World.size_drew, Nat.add_one_le_iff] at hz1
          try simp only [World.size_alloc, World.size_setCell, World.size_drew] at hc1 hf1
          have hB1 : w.heap.size < w1.heap.size := by omega
          go_wp2_with fail
          go_roundw
          case rel => exact ⟨k + 1, by omega, by go_num, ⟨T ++ byteStr bv, R, S ++ byteStr bv, rfl, rfl, by rw [← ByteArray.append_assoc, HT.out], by rw [ByteArray.size_append, byteStr_size]; omega, by rw [ByteArray.size_append, byteStr_size]; omega, by simp [go_sem, hB1, hc1 _ _ hsz, hcell]⟩, by simp [go_sem, hB1, hf1 _ _ hsz, hfr], (by first | exact Nat.le_refl _ | omega | (simp only [World.size_alloc, World.size_setCell, World.size_drew]; omega)), (by repeat (first | exact Below.refl _ _ | with_reducible refine Below.drew ?_ | (with_reducible refine Below.alloc ?_ (by first | exact Nat.le_refl _ | omega | (simp only [World.size_alloc, World.size_setCell, World.size_drew]; omega)) _) | (with_reducible refine Below.setCell ?_ (by first | exact Nat.le_refl _ | omega | (simp only [World.size_alloc, World.size_setCell, World.size_drew]; omega)) _) | (refine Below.trans ?_ (Below.mono (by assumption) (by first | exact Nat.le_refl _ | omega | (simp only [World.size_alloc, World.size_setCell, World.size_drew]; omega))))))⟩
          case measure => simp [intOf]; omega
        · have hsum : T.size ≤ R.size + S.size ∧ R.size + S.size ≤ T.size := by rw [← HT.out, ByteArray.size_append]; omega
          have hdec : decide ((T.size : Int) - R.size < 16) = false := decide_eq_false (by omega)
          go_wp2_with fail
          refine (console_Type_full S bv _ (by omega)).mono ?_
          rintro e w1 ⟨rfl, hb1⟩
          obtain ⟨hc1, hf1⟩ := bcell hb1
          have hz1 := bsize hb1
          try simp only [World.size_alloc, World.size_setCell, World.size_drew, Nat.add_one_le_iff] at hz1
          try simp only [World.size_alloc, World.size_setCell, World.size_drew] at hc1 hf1
          have hB1 : w.heap.size < w1.heap.size := by omega
          go_wp2_with fail
          go_roundw
          case rel => exact ⟨k + 1, by omega, by go_num, ⟨T, R, S, rfl, rfl, HT.out, hS, by omega, by simp [go_sem, hB1, hc1 _ _ hsz, hcell]⟩, by simp [go_sem, hB1, hf1 _ _ hsz, hfr], (by first | exact Nat.le_refl _ | omega | (simp only [World.size_alloc, World.size_setCell, World.size_drew]; omega)), (by repeat (first | exact Below.refl _ _ | with_reducible refine Below.drew ?_ | (with_reducible refine Below.alloc ?_ (by first | exact Nat.le_refl _ | omega | (simp only [World.size_alloc, World.size_setCell, World.size_drew]; omega)) _) | (with_reducible refine Below.setCell ?_ (by first | exact Nat.le_refl _ | omega | (simp only [World.size_alloc, World.size_setCell, World.size_drew]; omega)) _) | (refine Below.trans ?_ (Below.mono (by assumption) (by first | exact Nat.le_refl _ | omega | (simp only [World.size_alloc, World.size_setCell, World.size_drew]; omega))))))⟩
          case measure => simp [intOf]; omega
      · have hodd' : (bits .and .i64 z 1 == 0) = false := by simpa using hodd
        clear hodd
        by_cases hemp : S.size = 0
        · have hsum : T.size ≤ R.size ∧ R.size ≤ T.size := by rw [← HT.out, ByteArray.size_append]; omega
          have HE := Lib.hid hemp; clear hemp
          go_wp2_with fail
          refine (console_In_key0 S _ (by rw [isEmpty_iff]; exact decide_eq_true HE.out) (by rw [beq_iff_eq]; rw [HE.out]; rfl)).mono ?_
          rintro e w1 ⟨rfl, hb1⟩
          obtain ⟨hc1, hf1⟩ := bcell hb1
          have hz1 := bsize hb1
          try simp only [World.size_alloc, World.size_setCell, World.size_drew, Nat.add_one_le_iff] at hz1
          try simp only [World.size_alloc, World.size_setCell, World.size_drew] at hc1 hf1
          have hB1 : w.heap.size < w1.heap.size := by omega
          go_wp2_with fail
          go_roundw
          case rel => exact ⟨k + 1, by omega, by go_num, ⟨T, R, S, rfl, rfl, HT.out, hS, by omega, by simp [go_sem, hB1, hc1 _ _ hsz, hcell]⟩, by simp [go_sem, hB1, hf1 _ _ hsz, hfr], (by first | exact Nat.le_refl _ | omega | (simp only [World.size_alloc, World.size_setCell, World.size_drew]; omega)), (by repeat (first | exact Below.refl _ _ | with_reducible refine Below.drew ?_ | (with_reducible refine Below.alloc ?_ (by first | exact Nat.le_refl _ | omega | (simp only [World.size_alloc, World.size_setCell, World.size_drew]; omega)) _) | (with_reducible refine Below.setCell ?_ (by first | exact Nat.le_refl _ | omega | (simp only [World.size_alloc, World.size_setCell, World.size_drew]; omega)) _) | (refine Below.trans ?_ (Below.mono (by assumption) (by first | exact Nat.le_refl _ | omega | (simp only [World.size_alloc, World.size_setCell, World.size_drew]; omega))))))⟩
          case measure => simp [intOf]; omega
        · obtain ⟨n, S', hn, HS⟩ := uncons S (by omega)
          have hsum : T.size ≤ R.size + S.size ∧ R.size + S.size ≤ T.size := by rw [← HT.out, ByteArray.size_append]; omega
          have hcv := run_one_byte (n : Int)
          have hbz := byteStr_size (n : Int)
          have hin : ∀ W : World, Calls Try.prog 8 #[.agg #[.string S], .int .i64 0] W (Ret W (.tuple #[.agg #[.string S'], .int .u32 n])) := by
            intro W
            have := console_In_key1 S W (by rw [isEmpty_iff]; exact decide_eq_false hemp) (by rw [beq_eq_false_iff_ne]; omega) (by omega)
            rw [HS, extract_tail, head_of n S' hn, ← HS] at this
            exact this
          have HIN := Lib.hid hin; clear hin
          have HS' := Lib.hid HS; clear HS
          go_wp2_with fail
          refine (HIN.out _).mono ?_
          rintro e w1 ⟨rfl, hb1⟩
          obtain ⟨hc1, hf1⟩ := bcell hb1
          have hz1 := bsize hb1
          try simp only [World.size_alloc, World.size_setCell, World.size_drew, Nat.add_one_le_iff] at hz1
          try simp only [World.size_alloc, World.size_setCell, World.size_drew] at hc1 hf1
          have hB1 : w.heap.size < w1.heap.size := by omega
          go_wp2_with fail
          go_roundw
          case rel => exact ⟨k + 1, by omega, by go_num, ⟨T, R ++ byteStr n, S', rfl, rfl, by rw [ByteArray.append_assoc, ← HS'.out, HT.out], by have := HS'.out; rw [this, ByteArray.size_append, byteStr_size] at hS; omega, by omega, by simp [go_sem, hB1, hc1 _ _ hsz, hcell]⟩, by simp [go_sem, hB1, hf1 _ _ hsz, hfr], (by first | exact Nat.le_refl _ | omega | (simp only [World.size_alloc, World.size_setCell, World.size_drew]; omega)), (by repeat (first | exact Below.refl _ _ | with_reducible refine Below.drew ?_ | (with_reducible refine Below.alloc ?_ (by first | exact Nat.le_refl _ | omega | (simp only [World.size_alloc, World.size_setCell, World.size_drew]; omega)) _) | (with_reducible refine Below.setCell ?_ (by first | exact Nat.le_refl _ | omega | (simp only [World.size_alloc, World.size_setCell, World.size_drew]; omega)) _) | (refine Below.trans ?_ (Below.mono (by assumption) (by first | exact Nat.le_refl _ | omega | (simp only [World.size_alloc, World.size_setCell, World.size_drew]; omega))))))⟩
          case measure => simp [intOf]; omega
    · obtain rfl : k = len := by omega
      have hRS : R.size + S.size ≤ 100 := by have := HT.out; rw [← this, ByteArray.size_append] at hTk; omega
      have heq : ((R ++ S).toList == T.toList) = true := by rw [HT.out]; simp
      go_wp2_with fail
      refine (console_May_any S _).mono ?_
      rw [decide_eq_true hS]
      rintro e w1 ⟨rfl, hb1⟩
      have hz1 := bsize hb1
      go_wp2_with fail
      refine (awake_any _).mono ?_
      rintro e w2 ⟨rfl, hb2⟩
      have hz2 := bsize hb2
      go_wp2_with fail
      go_ret
      exact Ret.mk (by repeat (first | exact Below.refl _ _ | with_reducible refine Below.drew ?_ | (with_reducible refine Below.alloc ?_ (by first | exact Nat.le_refl _ | omega | (simp only [World.size_alloc, World.size_setCell, World.size_drew]; omega)) _) | (with_reducible refine Below.setCell ?_ (by first | exact Nat.le_refl _ | omega | (simp only [World.size_alloc, World.size_setCell, World.size_drew]; omega)) _) | (refine Below.trans ?_ (Below.mono (by assumption) (by first | exact Nat.le_refl _ | omega | (simp only [World.size_alloc, World.size_setCell, World.size_drew]; omega))))))

set_option maxHeartbeats 1000000 in
theorem queues_nil (ao : Option Addr) (cap : Nat) (w : World) : Calls Try.prog 5 #[.slice ao 0 cap] w (Ret w (.bool true)) := by
  have hee : ((⟨#[]⟩ : ByteArray) ++ ⟨#[]⟩).toList = [] := by rw [ByteArray.toList_eq, ByteArray.data_append]; rfl
  go_enter Try.func5, Try.ntmps5
  go_wp2_with fail
  refine wp_loop_rounds 1 ?_
  rw [rounds_succ]
  go_wp2_with fail
  refine (console_May_any ⟨#[]⟩ _).mono ?_
  rw [decide_eq_true (by decide)]
  rintro e w1 ⟨rfl, hb1⟩
  have hz1 := bsize hb1
  simp only [World.size_alloc] at hz1
  go_wp2_with fail
  refine (awake_any _).mono ?_
  rintro e w2 ⟨rfl, hb2⟩
  have hz2 := bsize hb2
  go_wp2_with fail
  go_ret
  exact Ret.mk (by repeat (first | exact Below.refl _ _ | with_reducible refine Below.drew ?_ | (with_reducible refine Below.alloc ?_ (by first | exact Nat.le_refl _ | omega | (simp only [World.size_alloc, World.size_setCell, World.size_drew]; omega)) _) | (with_reducible refine Below.setCell ?_ (by first | exact Nat.le_refl _ | omega | (simp only [World.size_alloc, World.size_setCell, World.size_drew]; omega)) _) | (refine Below.trans ?_ (Below.mono (by assumption) (by first | exact Nat.le_refl _ | omega | (simp only [World.size_alloc, World.size_setCell, World.size_drew]; omega))))))
end Go.Proofs.Ytaempbkcegemdaa
