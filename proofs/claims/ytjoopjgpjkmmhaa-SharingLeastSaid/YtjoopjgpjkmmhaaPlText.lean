/-
  The content of pages, made of a number: walked; what is known of it.
-/
import Derived.Test.YtjoopjgpjkmmhaaPlPage
namespace Go.Proofs.Ytjoopjgpjkmmhaa
open Go.RowKit

/-- The bytes of a page that compresses well, when i of them are made. -/
def pgI (k : Int) (i : Nat) : List Int := (List.range 128).map (fun j : Nat => if j < i then k * (1 + (j : Int) / 64) else 0)
theorem pgI_len (k : Int) (i : Nat) : (pgI k i).length = 128 := by simp [pgI]
theorem pgI_zero (k : Int) : pgI k 0 = List.replicate 128 0 := by
  unfold pgI
  rw [List.eq_replicate_iff]
  refine ⟨by simp, fun x hx => ?_⟩
  rw [List.mem_map] at hx
  obtain ⟨j, _, rfl⟩ := hx
  rw [if_neg (Nat.not_lt_zero _)]
theorem pgI_at {k : Int} {i j : Nat} (h : j < 128) : (pgI k i)[j]? = some (if j < i then k * (1 + (j : Int) / 64) else 0) := by
  unfold pgI
  rw [List.getElem?_map, List.getElem?_range h]
  rfl
theorem pgI_succ {k : Int} {i : Nat} : pgI k (i + 1) = (pgI k i).set i (k * (1 + (i : Int) / 64)) := by
  apply List.ext_getElem?
  intro j
  by_cases hj : j < 128
  · rw [pgI_at hj, List.getElem?_set, pgI_len]
    by_cases e : i = j
    · subst e
      rw [if_pos rfl, if_pos hj, if_pos (by omega)]
    · rw [if_neg e, pgI_at hj]
      by_cases h : j < i
      · rw [if_pos h, if_pos (by omega)]
      · rw [if_neg h, if_neg (by omega)]
  · rw [List.getElem?_eq_none (by rw [pgI_len]; omega), List.getElem?_eq_none (by rw [List.length_set, pgI_len]; omega)]
def pageS (n : Int) : ByteArray := if n % 7 = 0 then zeros128 else if 5 ≤ n % 7 then dataS n 128 else strOfNums (pgI (n % 7) 128)
theorem pageS_size (n : Int) : (pageS n).size = 128 := by
  unfold pageS
  split
  · exact zeros128_size
  · split
    · exact dataS_size n 128
    · rw [strOfNums_size, pgI_len]
theorem pageS_zero : pageS 0 = zeros128 := by unfold pageS; rw [if_pos (by decide)]
set_option maxRecDepth 100000 in
set_option maxHeartbeats 4000000 in
theorem page_any (n : Int) (w : World) (hn : -9223372036854775808 ≤ n ∧ n ≤ 9223372036854775807) : Calls Try.prog 12 #[.int .i64 n] w (Ret w (.string (pageS n))) := by
  have R := fun w => round_any n 7 w hn (by omega) (by omega)
  have b1 := Int.emod_nonneg n (show (7 : Int) ≠ 0 by omega)
  have b2 := Int.emod_lt_of_pos n (show (0 : Int) < 7 by omega)
  by_cases h0 : n % 7 = 0
  · have hp : pageS n = zeros128 := by unfold pageS; rw [if_pos h0]
    rw [h0] at R
    have HR := Lib.hid R
    have HP := Lib.hid hp
    have MK := zeros_made
    have CV : ∀ w g, HasBlock w g ((List.replicate 128 (0 : Int)).map (Value.int .u8)).toArray 5 → _ := fun w g h => bytes_conv (List.length_replicate ..) h
    rw [zeros_str, ← hp] at CV
    have HCV := Lib.hid CV
    obtain ⟨Z, hZ⟩ : ∃ Z, ((List.replicate 128 (0 : Int)).map (Value.int .u8)).toArray = Z := ⟨_, rfl⟩
    rw [hZ] at MK HCV
    clear hp R CV h0 hn hZ b1 b2
    go_enter Try.func12, Try.ntmps12
    go_wp2_with fail
    with_reducible refine (HR.out _).mono ?_
    rintro e w1 ⟨rfl, hb1⟩
    have hcv := HCV.out (w1.alloc (.cells Z 5)) w1.heap.size (HasBlock.made w1 Z 5)
    go_wp2_with fail
    go_ret
    exact Ret.mk (hb1.alloc hb1.size _)
  by_cases h5 : 5 ≤ n % 7
  · have hp : pageS n = dataS n 128 := by unfold pageS; rw [if_neg h0, if_pos h5]
    have DT : ∀ w, Calls Try.prog 31 #[.int .i64 n, .int .i64 128] w (Ret w (.string (pageS n))) := fun w => by rw [hp]; exact data_any n 128 w (by omega) (by omega)
    have HDT := Lib.hid DT
    have MK := zeros_made
    obtain ⟨Z, hZ⟩ : ∃ Z, ((List.replicate 128 (0 : Int)).map (Value.int .u8)).toArray = Z := ⟨_, rfl⟩
    rw [hZ] at MK
    obtain ⟨k, hk⟩ : ∃ k, n % 7 = k := ⟨_, rfl⟩
    rw [hk] at R h0 h5 b1 b2
    have HR := Lib.hid R
    have e0 : (k == 0) = false := by rw [beq_eq_false_iff_ne]; exact h0
    clear hp DT R hZ hk hn h0
    go_enter Try.func12, Try.ntmps12
    go_wp2_with fail
    with_reducible refine (HR.out _).mono ?_
    rintro e w1 ⟨rfl, hb1⟩
    go_wp2_with fail
    with_reducible refine (HDT.out _).mono ?_
    rintro e w2 ⟨rfl, hb2⟩
    go_wp2_with fail
    go_ret
    exact Ret.mk ((hb1.alloc hb1.size _).trans (hb2.mono (by simp only [sizes]; have := hb1.size; omega)))
  obtain ⟨k, hk⟩ : ∃ k, n % 7 = k := ⟨_, rfl⟩
  rw [hk] at R h0 h5 b1 b2
  have HR := Lib.hid R
  clear R hn
  rcases (show k = 1 ∨ k = 2 ∨ k = 3 ∨ k = 4 by omega) with rfl | rfl | rfl | rfl
  · clear h0 h5 b1 b2
    have hl0 := pgI_len 1 0
    have CV : ∀ w g i, HasBlock w g ((pgI 1 i).map (Value.int .u8)).toArray 5 → (convert 49 9 (.slice (some ⟨g, 0, none⟩) 128 128)).run Try.prog w = .ok (.string (strOfNums (pgI 1 i))) w := fun w g i h => bytes_conv (pgI_len 1 i) h
    have HCV := Lib.hid CV; clear CV
    have mk := zeros_made
    rw [← pgI_zero 1] at mk
    have hp : pageS n = strOfNums (pgI 1 128) := by unfold pageS; rw [hk, if_neg (by omega), if_neg (by omega)]
    have HP := Lib.hid hp; clear hp
    have HPG : Hid (∀ i, pgI 1 (i + 1) = (pgI 1 i).set i (1 * (1 + (i : Int) / 64))) := fun i => pgI_succ
    obtain ⟨pg, hpg⟩ : ∃ f : Nat → List Int, (fun i => pgI 1 i) = f := ⟨_, rfl⟩
    have hpgi : ∀ i, pgI 1 i = pg i := fun i => by rw [← hpg]
    have HPGI := Lib.hid hpgi
    rw [hpgi] at mk
    clear hpg hpgi hl0
    go_enter Try.func12, Try.ntmps12
    go_wp2_with fail
    with_reducible refine (HR.out _).mono ?_
    rintro e w1 ⟨rfl, hb1⟩
    go_wp2_with fail
    have hg0 := HasBlock.made w1 ((pg 0).map (Value.int .u8)).toArray 5
    have hbw0 : Below w.heap.size w (w1.alloc (.cells ((pg 0).map (Value.int .u8)).toArray 5)) := (hb1.alloc hb1.size _)
    have hzB := hb1.size
    obtain ⟨B, hB⟩ : ∃ B, w1.heap.size = B := ⟨_, rfl⟩
    rw [hB] at hg0 hzB ⊢
    generalize hW : w1.alloc (.cells ((pg 0).map (Value.int .u8)).toArray 5) = w2 at hg0 hbw0 ⊢
    clear hW mk hb1 hB
    go_loopw [5] (fun iv wr => ∃ i : Nat, i ≤ 128 ∧ iv = .int .i64 i ∧ HasBlock wr B ((pg i).map (Value.int .u8)).toArray 5 ∧ Below w.heap.size w wr) (fun iv _ => 128 - (intOf iv).toNat)
    case atStart => exact ⟨0, Nat.zero_le _, rfl, hg0, hbw0⟩
    case round =>
      clear hg0 hbw0
      obtain ⟨i, hi, rfl, hg, hbw⟩ := hrel
      by_cases hlt : i < 128
      · have hc := hg.cell i
        rw [List.getElem?_toArray, List.getElem?_map, ← HPGI.out i, pgI_at hlt, if_neg (Nat.lt_irrefl _)] at hc
        have hc : wr.cell? ⟨B, i, none⟩ = some (.int .u8 0) := hc
        have hfz := hg.free i
        have hd1 : 0 ≤ (i : Int) / 64 ∧ (i : Int) / 64 ≤ 1 := by omega
        go_wp2_with fail
        go_roundw
        case rel =>
          refine ⟨i + 1, by omega, by go_num, ?_, hbw.setCell (by dsimp only; omega) _⟩
          have h := hg.set_at i (.int .u8 (1 * (1 + (i : Int) / 64)))
          rw [List.setIfInBounds_toArray, ← List.map_set, ← HPGI.out i, ← HPG.out i, HPGI.out] at h
          first | exact h | simpa using h
        case measure => simp [intOf]; omega
      · obtain rfl : i = 128 := by omega
        have hcv := HCV.out wr B 128 (by rw [HPGI.out]; exact hg)
        rw [← HP.out] at hcv
        go_wp2_with fail
        go_ret
        exact Ret.mk hbw
  · clear h0 h5 b1 b2
    have hl0 := pgI_len 2 0
    have CV : ∀ w g i, HasBlock w g ((pgI 2 i).map (Value.int .u8)).toArray 5 → (convert 49 9 (.slice (some ⟨g, 0, none⟩) 128 128)).run Try.prog w = .ok (.string (strOfNums (pgI 2 i))) w := fun w g i h => bytes_conv (pgI_len 2 i) h
    have HCV := Lib.hid CV; clear CV
    have mk := zeros_made
    rw [← pgI_zero 2] at mk
    have hp : pageS n = strOfNums (pgI 2 128) := by unfold pageS; rw [hk, if_neg (by omega), if_neg (by omega)]
    have HP := Lib.hid hp; clear hp
    have HPG : Hid (∀ i, pgI 2 (i + 1) = (pgI 2 i).set i (2 * (1 + (i : Int) / 64))) := fun i => pgI_succ
    obtain ⟨pg, hpg⟩ : ∃ f : Nat → List Int, (fun i => pgI 2 i) = f := ⟨_, rfl⟩
    have hpgi : ∀ i, pgI 2 i = pg i := fun i => by rw [← hpg]
    have HPGI := Lib.hid hpgi
    rw [hpgi] at mk
    clear hpg hpgi hl0
    go_enter Try.func12, Try.ntmps12
    go_wp2_with fail
    with_reducible refine (HR.out _).mono ?_
    rintro e w1 ⟨rfl, hb1⟩
    go_wp2_with fail
    have hg0 := HasBlock.made w1 ((pg 0).map (Value.int .u8)).toArray 5
    have hbw0 : Below w.heap.size w (w1.alloc (.cells ((pg 0).map (Value.int .u8)).toArray 5)) := (hb1.alloc hb1.size _)
    have hzB := hb1.size
    obtain ⟨B, hB⟩ : ∃ B, w1.heap.size = B := ⟨_, rfl⟩
    rw [hB] at hg0 hzB ⊢
    generalize hW : w1.alloc (.cells ((pg 0).map (Value.int .u8)).toArray 5) = w2 at hg0 hbw0 ⊢
    clear hW mk hb1 hB
    go_loopw [5] (fun iv wr => ∃ i : Nat, i ≤ 128 ∧ iv = .int .i64 i ∧ HasBlock wr B ((pg i).map (Value.int .u8)).toArray 5 ∧ Below w.heap.size w wr) (fun iv _ => 128 - (intOf iv).toNat)
    case atStart => exact ⟨0, Nat.zero_le _, rfl, hg0, hbw0⟩
    case round =>
      clear hg0 hbw0
      obtain ⟨i, hi, rfl, hg, hbw⟩ := hrel
      by_cases hlt : i < 128
      · have hc := hg.cell i
        rw [List.getElem?_toArray, List.getElem?_map, ← HPGI.out i, pgI_at hlt, if_neg (Nat.lt_irrefl _)] at hc
        have hc : wr.cell? ⟨B, i, none⟩ = some (.int .u8 0) := hc
        have hfz := hg.free i
        have hd1 : 0 ≤ (i : Int) / 64 ∧ (i : Int) / 64 ≤ 1 := by omega
        go_wp2_with fail
        go_roundw
        case rel =>
          refine ⟨i + 1, by omega, by go_num, ?_, hbw.setCell (by dsimp only; omega) _⟩
          have h := hg.set_at i (.int .u8 (2 * (1 + (i : Int) / 64)))
          rw [List.setIfInBounds_toArray, ← List.map_set, ← HPGI.out i, ← HPG.out i, HPGI.out] at h
          first | exact h | simpa using h
        case measure => simp [intOf]; omega
      · obtain rfl : i = 128 := by omega
        have hcv := HCV.out wr B 128 (by rw [HPGI.out]; exact hg)
        rw [← HP.out] at hcv
        go_wp2_with fail
        go_ret
        exact Ret.mk hbw
  · clear h0 h5 b1 b2
    have hl0 := pgI_len 3 0
    have CV : ∀ w g i, HasBlock w g ((pgI 3 i).map (Value.int .u8)).toArray 5 → (convert 49 9 (.slice (some ⟨g, 0, none⟩) 128 128)).run Try.prog w = .ok (.string (strOfNums (pgI 3 i))) w := fun w g i h => bytes_conv (pgI_len 3 i) h
    have HCV := Lib.hid CV; clear CV
    have mk := zeros_made
    rw [← pgI_zero 3] at mk
    have hp : pageS n = strOfNums (pgI 3 128) := by unfold pageS; rw [hk, if_neg (by omega), if_neg (by omega)]
    have HP := Lib.hid hp; clear hp
    have HPG : Hid (∀ i, pgI 3 (i + 1) = (pgI 3 i).set i (3 * (1 + (i : Int) / 64))) := fun i => pgI_succ
    obtain ⟨pg, hpg⟩ : ∃ f : Nat → List Int, (fun i => pgI 3 i) = f := ⟨_, rfl⟩
    have hpgi : ∀ i, pgI 3 i = pg i := fun i => by rw [← hpg]
    have HPGI := Lib.hid hpgi
    rw [hpgi] at mk
    clear hpg hpgi hl0
    go_enter Try.func12, Try.ntmps12
    go_wp2_with fail
    with_reducible refine (HR.out _).mono ?_
    rintro e w1 ⟨rfl, hb1⟩
    go_wp2_with fail
    have hg0 := HasBlock.made w1 ((pg 0).map (Value.int .u8)).toArray 5
    have hbw0 : Below w.heap.size w (w1.alloc (.cells ((pg 0).map (Value.int .u8)).toArray 5)) := (hb1.alloc hb1.size _)
    have hzB := hb1.size
    obtain ⟨B, hB⟩ : ∃ B, w1.heap.size = B := ⟨_, rfl⟩
    rw [hB] at hg0 hzB ⊢
    generalize hW : w1.alloc (.cells ((pg 0).map (Value.int .u8)).toArray 5) = w2 at hg0 hbw0 ⊢
    clear hW mk hb1 hB
    go_loopw [5] (fun iv wr => ∃ i : Nat, i ≤ 128 ∧ iv = .int .i64 i ∧ HasBlock wr B ((pg i).map (Value.int .u8)).toArray 5 ∧ Below w.heap.size w wr) (fun iv _ => 128 - (intOf iv).toNat)
    case atStart => exact ⟨0, Nat.zero_le _, rfl, hg0, hbw0⟩
    case round =>
      clear hg0 hbw0
      obtain ⟨i, hi, rfl, hg, hbw⟩ := hrel
      by_cases hlt : i < 128
      · have hc := hg.cell i
        rw [List.getElem?_toArray, List.getElem?_map, ← HPGI.out i, pgI_at hlt, if_neg (Nat.lt_irrefl _)] at hc
        have hc : wr.cell? ⟨B, i, none⟩ = some (.int .u8 0) := hc
        have hfz := hg.free i
        have hd1 : 0 ≤ (i : Int) / 64 ∧ (i : Int) / 64 ≤ 1 := by omega
        go_wp2_with fail
        go_roundw
        case rel =>
          refine ⟨i + 1, by omega, by go_num, ?_, hbw.setCell (by dsimp only; omega) _⟩
          have h := hg.set_at i (.int .u8 (3 * (1 + (i : Int) / 64)))
          rw [List.setIfInBounds_toArray, ← List.map_set, ← HPGI.out i, ← HPG.out i, HPGI.out] at h
          first | exact h | simpa using h
        case measure => simp [intOf]; omega
      · obtain rfl : i = 128 := by omega
        have hcv := HCV.out wr B 128 (by rw [HPGI.out]; exact hg)
        rw [← HP.out] at hcv
        go_wp2_with fail
        go_ret
        exact Ret.mk hbw
  · clear h0 h5 b1 b2
    have hl0 := pgI_len 4 0
    have CV : ∀ w g i, HasBlock w g ((pgI 4 i).map (Value.int .u8)).toArray 5 → (convert 49 9 (.slice (some ⟨g, 0, none⟩) 128 128)).run Try.prog w = .ok (.string (strOfNums (pgI 4 i))) w := fun w g i h => bytes_conv (pgI_len 4 i) h
    have HCV := Lib.hid CV; clear CV
    have mk := zeros_made
    rw [← pgI_zero 4] at mk
    have hp : pageS n = strOfNums (pgI 4 128) := by unfold pageS; rw [hk, if_neg (by omega), if_neg (by omega)]
    have HP := Lib.hid hp; clear hp
    have HPG : Hid (∀ i, pgI 4 (i + 1) = (pgI 4 i).set i (4 * (1 + (i : Int) / 64))) := fun i => pgI_succ
    obtain ⟨pg, hpg⟩ : ∃ f : Nat → List Int, (fun i => pgI 4 i) = f := ⟨_, rfl⟩
    have hpgi : ∀ i, pgI 4 i = pg i := fun i => by rw [← hpg]
    have HPGI := Lib.hid hpgi
    rw [hpgi] at mk
    clear hpg hpgi hl0
    go_enter Try.func12, Try.ntmps12
    go_wp2_with fail
    with_reducible refine (HR.out _).mono ?_
    rintro e w1 ⟨rfl, hb1⟩
    go_wp2_with fail
    have hg0 := HasBlock.made w1 ((pg 0).map (Value.int .u8)).toArray 5
    have hbw0 : Below w.heap.size w (w1.alloc (.cells ((pg 0).map (Value.int .u8)).toArray 5)) := (hb1.alloc hb1.size _)
    have hzB := hb1.size
    obtain ⟨B, hB⟩ : ∃ B, w1.heap.size = B := ⟨_, rfl⟩
    rw [hB] at hg0 hzB ⊢
    generalize hW : w1.alloc (.cells ((pg 0).map (Value.int .u8)).toArray 5) = w2 at hg0 hbw0 ⊢
    clear hW mk hb1 hB
    go_loopw [5] (fun iv wr => ∃ i : Nat, i ≤ 128 ∧ iv = .int .i64 i ∧ HasBlock wr B ((pg i).map (Value.int .u8)).toArray 5 ∧ Below w.heap.size w wr) (fun iv _ => 128 - (intOf iv).toNat)
    case atStart => exact ⟨0, Nat.zero_le _, rfl, hg0, hbw0⟩
    case round =>
      clear hg0 hbw0
      obtain ⟨i, hi, rfl, hg, hbw⟩ := hrel
      by_cases hlt : i < 128
      · have hc := hg.cell i
        rw [List.getElem?_toArray, List.getElem?_map, ← HPGI.out i, pgI_at hlt, if_neg (Nat.lt_irrefl _)] at hc
        have hc : wr.cell? ⟨B, i, none⟩ = some (.int .u8 0) := hc
        have hfz := hg.free i
        have hd1 : 0 ≤ (i : Int) / 64 ∧ (i : Int) / 64 ≤ 1 := by omega
        go_wp2_with fail
        go_roundw
        case rel =>
          refine ⟨i + 1, by omega, by go_num, ?_, hbw.setCell (by dsimp only; omega) _⟩
          have h := hg.set_at i (.int .u8 (4 * (1 + (i : Int) / 64)))
          rw [List.setIfInBounds_toArray, ← List.map_set, ← HPGI.out i, ← HPG.out i, HPGI.out] at h
          first | exact h | simpa using h
        case measure => simp [intOf]; omega
      · obtain rfl : i = 128 := by omega
        have hcv := HCV.out wr B 128 (by rw [HPGI.out]; exact hg)
        rw [← HP.out] at hcv
        go_wp2_with fail
        go_ret
        exact Ret.mk hbw
end Go.Proofs.Ytjoopjgpjkmmhaa
