/-
  Samples: idletax.Sample, walked.
-/
import Derived.Test.YtclnjjppcdgkiaaTaxTargets
import Derived.Test.YtclnjjppcdgkiaaTaxDraw
namespace Go.Proofs.Ytclnjjppcdgkiaa
open Go.RowKit

def boolArr (d : List Bool) : Array Value := (d.map Value.bool).toArray
theorem boolArr_at {d : List Bool} {i : Nat} (h : i < d.length) : (boolArr d)[i]? = some (.bool (hitD d i)) := by
  unfold boolArr hitD
  rw [List.getElem?_toArray, List.getElem?_map, List.getElem?_eq_getElem h]
  rfl
theorem boolArr_set (d : List Bool) (i : Nat) (x : Bool) : (boolArr d).setIfInBounds i (.bool x) = boolArr (d.set i x) := by
  unfold boolArr
  rw [List.map_set]
  simp
theorem info_bool : (Try.prog.info? 4).map (fun i => (i.zero, i.size, i.bytes)) = some (some (.bool false), 1, 1) := by kernel_rfl
theorem make_bools (n : Nat) (hn : n ≤ 1000) (w : World) : (Instr.makeSlice 49 (.int .i64 (n : Int)) (.int .i64 (n : Int))).run Try.prog w = .ok (.slice (some ⟨w.heap.size, 0, none⟩) n n) (w.alloc (.cells (boolArr (List.replicate n false)) 4)) := by
  rw [run_make_one 49 4 (.bool false) 1 Try.underlying49 info_bool rfl n (by omega) (by omega) w]
  unfold boolArr
  rw [List.map_replicate]

def RetSam (w : World) (xs : List Int) (s : Int) (e : Ending) (w' : World) : Prop := ∃ v, e = .returned (.tuple #[v, .int .u64 s]) ∧ IntRow w' v xs ∧ Below w.heap.size w w'
def badSam (pages n : Int) : Bool := decide (pages < 1 ∨ 32 < pages ∨ n < 1)
def sampleL (seed pages n : Int) : List Int := if badSam pages n = true then [] else (samF pages.toNat seed (min n pages).toNat).out
def sampleS (seed pages n : Int) : Int := if badSam pages n = true then seed else (samF pages.toNat seed (min n pages).toNat).seed

theorem sample_out (seed pages n : Int) (w : World) (h : pages < 1 ∨ 32 < pages ∨ n < 1) : Calls Try.prog 15 #[.int .u64 seed, .int .i64 pages, .int .i64 n] w (RetSam w [] seed) := by
  by_cases h1 : pages < 1
  · go_enter Try.func15, Try.ntmps15
    go_wp2_with fail
    go_ret2
    exact ⟨_, rfl, IntRow.nil _, (by repeat (first | with_reducible exact Below.refl _ _ | with_reducible refine Below.drew ?_ | (with_reducible refine Below.alloc ?_ (by first | exact Nat.le_refl _ | omega | (simp only [sizes]; omega)) _) | (with_reducible refine Below.setCell ?_ (by first | exact Nat.le_refl _ | omega | (simp only [sizes]; omega)) _) | (refine Below.trans ?_ (Below.mono (by with_reducible assumption) (by first | exact Nat.le_refl _ | omega | (simp only [sizes]; omega))))))⟩
  · by_cases h2 : 32 < pages
    · go_enter Try.func15, Try.ntmps15
      go_wp2_with fail
      go_ret2
      exact ⟨_, rfl, IntRow.nil _, (by repeat (first | with_reducible exact Below.refl _ _ | with_reducible refine Below.drew ?_ | (with_reducible refine Below.alloc ?_ (by first | exact Nat.le_refl _ | omega | (simp only [sizes]; omega)) _) | (with_reducible refine Below.setCell ?_ (by first | exact Nat.le_refl _ | omega | (simp only [sizes]; omega)) _) | (refine Below.trans ?_ (Below.mono (by with_reducible assumption) (by first | exact Nat.le_refl _ | omega | (simp only [sizes]; omega))))))⟩
    · have h3 : n < 1 := by omega
      go_enter Try.func15, Try.ntmps15
      go_wp2_with fail
      go_ret2
      exact ⟨_, rfl, IntRow.nil _, (by repeat (first | with_reducible exact Below.refl _ _ | with_reducible refine Below.drew ?_ | (with_reducible refine Below.alloc ?_ (by first | exact Nat.le_refl _ | omega | (simp only [sizes]; omega)) _) | (with_reducible refine Below.setCell ?_ (by first | exact Nat.le_refl _ | omega | (simp only [sizes]; omega)) _) | (refine Below.trans ?_ (Below.mono (by with_reducible assumption) (by first | exact Nat.le_refl _ | omega | (simp only [sizes]; omega))))))⟩

set_option maxHeartbeats 4000000 in
theorem sample_few (seed : Int) (pages m : Nat) (w : World) (hs : 0 ≤ seed ∧ seed < 18446744073709551616) (hp : 1 ≤ pages) (hp' : pages ≤ 32) (hn : 1 ≤ m) (hm : m ≤ pages) :
    Calls Try.prog 15 #[.int .u64 seed, .int .i64 pages, .int .i64 m] w (RetSam w (samF pages seed m).out (samF pages seed m).seed) := by
  have hok := fun k => samOk pages seed hs k
  have hmk := make_bools pages (by omega)
  have HOK := Lib.hid hok; clear hok hs
  obtain ⟨i0, hi, iz0, iz1, iz2⟩ := info_parts info_int
  go_enter Try.func15, Try.ntmps15
  go_wp2_with fail
  go_loopw [0, 9, 28] (fun sd v i wr => ∃ (k : Nat) (q : Sam), k ≤ m ∧ i = .int .i64 k ∧ Hid (q = samF pages seed k) ∧ sd = .int .u64 q.seed ∧ HasBlock wr w.heap.size (boolArr q.d) 4 ∧ wr.ownsRow (w.heap.size + 1) 3 1 v k (q.out.map (Value.int .i64)) ∧ Below w.heap.size w wr) (fun _ _ i _ => m - (intOf i).toNat)
  case atStart => exact ⟨0, _, Nat.zero_le _, rfl, rfl, rfl, HasBlock.made _ _ _, World.ownsRow_nil _ _ _ _, (by repeat (first | with_reducible exact Below.refl _ _ | with_reducible refine Below.drew ?_ | (with_reducible refine Below.alloc ?_ (by first | exact Nat.le_refl _ | omega | (simp only [sizes]; omega)) _) | (with_reducible refine Below.setCell ?_ (by first | exact Nat.le_refl _ | omega | (simp only [sizes]; omega)) _) | (refine Below.trans ?_ (Below.mono (by with_reducible assumption) (by first | exact Nat.le_refl _ | omega | (simp only [sizes]; omega))))))⟩
  case round =>
    obtain ⟨k, q, hk, rfl, HQ, rfl, hblk, hown, hbw⟩ := hrel
    have hbs0 := hbw.size
    have hlt0 := hblk.lt
    by_cases hlt : k < m
    · have hokk := HOK.out k (by omega)
      rw [← HQ.out] at hokk
      have HKK := Lib.hid hokk; clear hokk
      have HO := Lib.hid hown; clear hown
      have HBL := Lib.hid hblk; clear hblk
      go_wp2_with fail
      refine (bits_Next_any q.seed _ HKK.out.seed).mono ?_
      rintro e w1 ⟨rfl, hb1⟩
      obtain ⟨hc1, hf1⟩ := bcell hb1
      have hz1 := bsize hb1
      try simp only [sizes1] at hz1
      try simp only [sizes] at hc1 hf1
      have hvb := nextV_bd q.seed
      obtain ⟨x, hx⟩ : ∃ x, nextV q.seed = x := ⟨_, rfl⟩
      rw [hx] at hvb ⊢
      have HX := Lib.hid hx; clear hx
      have hm1 := Int.emod_lt_of_pos x (show (0 : Int) < pages by omega)
      have hm2 := Int.emod_nonneg x (show (pages : Int) ≠ 0 by omega)
      have hpz : ((pages : Int) == 0) = false := by rw [beq_eq_false_iff_ne]; omega
      go_wp2_with fail
      obtain ⟨y, hy⟩ : ∃ y : Nat, x % pages = y := ⟨(x % pages).toNat, by omega⟩
      rw [hy] at hm1 hm2 ⊢
      have hy2 : y < pages := by omega
      have HY := Lib.hid hy; clear hy hvb
      have hB1 := HBL.out.below hb1
      have hfree := free_of HKK.out.len (by rw [HKK.out.cnt]; omega)
      have HFR := Lib.hid hfree; clear hfree
      have hsz1 : w.heap.size < w1.heap.size := by omega
      clear hc1 hf1
      go_loop [11] (fun i => ∃ j : Nat, j < pages ∧ i = .int .i64 j ∧ Hid (probe q.d pages j = probe q.d pages y)) (fun i => gap q.d pages (intOf i).toNat)
      case atStart => exact ⟨y, hy2, rfl, rfl⟩
      case round =>
        obtain ⟨j, hj, rfl, HJ⟩ := hrel
        have hcj : w1.cell? ⟨w.heap.size, j, none⟩ = some (.bool (hitD q.d j)) := (hB1.cell j).trans (boolArr_at (by rw [HKK.out.len]; exact hj))
        cases hh : hitD q.d j
        · rw [hh] at hcj
          have HH := Lib.hid hh; clear hh
          have hfz := hB1.free
          go_wp2_with (at_builtin; go_must (refine wpList_append_own _ rfl (.tmp 51) (.tmp 53) 29 rfl (w.heap.size + 1) 3 i0 (.int .i64 0) 1 8 Try.underlying29 hi iz0 iz1 iz2 rfl (by decide) _ k (q.out.map (Value.int .i64)) rfl ((ownsRow_setCell_below (owns_below HO.out hb1) (a := ⟨w.heap.size, j, none⟩) (Nat.lt_succ_self _) (.bool true)).alloc _) ⟨w1.heap.size, 0, none⟩ 1 1 [Value.int .i64 j] rfl rfl (cells_made _ [Value.int .i64 j] _ _ (by first | rfl | simp only [sizes])) (one_int _) (by unfold maxLen; omega) (by omega) (by first | exact Nat.le_refl _ | omega | (simp only [sizes]; omega)) ?_; intro v2 w2 hown2 hgrow2 _; have hb2 : Below w.heap.size w w2 := below_append' (by repeat (first | with_reducible exact Below.refl _ _ | with_reducible refine Below.drew ?_ | (with_reducible refine Below.alloc ?_ (by first | exact Nat.le_refl _ | omega | (simp only [sizes]; omega)) _) | (with_reducible refine Below.setCell ?_ (by first | exact Nat.le_refl _ | omega | (simp only [sizes]; omega)) _) | (refine Below.trans ?_ (Below.mono (by with_reducible assumption) (by first | exact Nat.le_refl _ | omega | (simp only [sizes]; omega)))))) ((ownsRow_setCell_below (owns_below HO.out hb1) (a := ⟨w.heap.size, j, none⟩) (Nat.lt_succ_self _) (.bool true)).alloc _) hgrow2 (by omega); have hz2 := hb2.size))
          go_wp2_with fail
          have hpz := probe_zero (pages := pages) hj HH.out
          have hq2 : samStep pages q = ⟨nextS q.seed, q.d.set j true, q.out ++ [(j : Int)]⟩ := by
            unfold samStep
            rw [HX.out, HY.out, Int.toNat_natCast, ← HJ.out, hpz]
          have HQ2 := Lib.hid hq2; clear hq2 hpz
          go_roundw
          case rel =>
            refine ⟨k + 1, ⟨nextS q.seed, q.d.set j true, q.out ++ [(j : Int)]⟩, by omega, by go_num, ?_, rfl, ?_, ?_, hb2⟩
            · exact HQ2.out.symm.trans (congrArg (samStep pages) HQ.out)
            · show HasBlock _ _ (boolArr (q.d.set j true)) _
              rw [← boolArr_set]
              exact HasBlock.append ((hB1.set_at j (.bool true)).alloc _) ((ownsRow_setCell_below (owns_below HO.out hb1) (a := ⟨w.heap.size, j, none⟩) (Nat.lt_succ_self _) (.bool true)).alloc _) hgrow2 (Nat.lt_succ_self _)
            · show World.ownsRow _ _ _ _ _ _ ((q.out ++ [(j : Int)]).map (Value.int .i64))
              rw [map_snoc]
              exact hown2
          case measure => simp [intOf]; omega
        · rw [hh] at hcj
          have HH := Lib.hid hh; clear hh
          go_wp2_with fail
          have hx := HFR.out
          have hst := probe_step (pages := pages) hj HH.out hx
          have hgs := gap_step (pages := pages) hj HH.out hx
          go_round
          case rel => exact ⟨(j + 1) % pages, Nat.mod_lt _ (by omega), by rw [emod_succ], by unfold Hid; rw [hst]; exact HJ.out⟩
          case measure =>
            rw [emod_succ]
            simp only [intOf, Int.toNat_natCast]
            omega
    · obtain rfl : k = m := by omega
      have HO := Lib.hid hown; clear hown hblk
      go_wp2_with fail
      go_ret2
      have := intRow_of HO.out
      rw [← HQ.out]
      exact ⟨_, rfl, this.2, (by repeat (first | with_reducible exact Below.refl _ _ | with_reducible refine Below.drew ?_ | (with_reducible refine Below.alloc ?_ (by first | exact Nat.le_refl _ | omega | (simp only [sizes]; omega)) _) | (with_reducible refine Below.setCell ?_ (by first | exact Nat.le_refl _ | omega | (simp only [sizes]; omega)) _) | (refine Below.trans ?_ (Below.mono (by with_reducible assumption) (by first | exact Nat.le_refl _ | omega | (simp only [sizes]; omega))))))⟩
set_option maxHeartbeats 4000000 in
theorem sample_many (seed n : Int) (pages : Nat) (w : World) (hs : 0 ≤ seed ∧ seed < 18446744073709551616) (hp : 1 ≤ pages) (hp' : pages ≤ 32) (hn : pages < n) :
    Calls Try.prog 15 #[.int .u64 seed, .int .i64 pages, .int .i64 n] w (RetSam w (samF pages seed pages).out (samF pages seed pages).seed) := by
  have hok := fun k => samOk pages seed hs k
  have hmk := make_bools pages (by omega)
  have HOK := Lib.hid hok; clear hok hs
  obtain ⟨i0, hi, iz0, iz1, iz2⟩ := info_parts info_int
  go_enter Try.func15, Try.ntmps15
  go_wp2_with fail
  go_loopw [0, 9, 28] (fun sd v i wr => ∃ (k : Nat) (q : Sam), k ≤ pages ∧ i = .int .i64 k ∧ Hid (q = samF pages seed k) ∧ sd = .int .u64 q.seed ∧ HasBlock wr w.heap.size (boolArr q.d) 4 ∧ wr.ownsRow (w.heap.size + 1) 3 1 v k (q.out.map (Value.int .i64)) ∧ Below w.heap.size w wr) (fun _ _ i _ => pages - (intOf i).toNat)
  case atStart => exact ⟨0, _, Nat.zero_le _, rfl, rfl, rfl, HasBlock.made _ _ _, World.ownsRow_nil _ _ _ _, (by repeat (first | with_reducible exact Below.refl _ _ | with_reducible refine Below.drew ?_ | (with_reducible refine Below.alloc ?_ (by first | exact Nat.le_refl _ | omega | (simp only [sizes]; omega)) _) | (with_reducible refine Below.setCell ?_ (by first | exact Nat.le_refl _ | omega | (simp only [sizes]; omega)) _) | (refine Below.trans ?_ (Below.mono (by with_reducible assumption) (by first | exact Nat.le_refl _ | omega | (simp only [sizes]; omega))))))⟩
  case round =>
    obtain ⟨k, q, hk, rfl, HQ, rfl, hblk, hown, hbw⟩ := hrel
    have hbs0 := hbw.size
    have hlt0 := hblk.lt
    by_cases hlt : k < pages
    · have hokk := HOK.out k (by omega)
      rw [← HQ.out] at hokk
      have HKK := Lib.hid hokk; clear hokk
      have HO := Lib.hid hown; clear hown
      have HBL := Lib.hid hblk; clear hblk
      go_wp2_with fail
      refine (bits_Next_any q.seed _ HKK.out.seed).mono ?_
      rintro e w1 ⟨rfl, hb1⟩
      obtain ⟨hc1, hf1⟩ := bcell hb1
      have hz1 := bsize hb1
      try simp only [sizes1] at hz1
      try simp only [sizes] at hc1 hf1
      have hvb := nextV_bd q.seed
      obtain ⟨x, hx⟩ : ∃ x, nextV q.seed = x := ⟨_, rfl⟩
      rw [hx] at hvb ⊢
      have HX := Lib.hid hx; clear hx
      have hm1 := Int.emod_lt_of_pos x (show (0 : Int) < pages by omega)
      have hm2 := Int.emod_nonneg x (show (pages : Int) ≠ 0 by omega)
      have hpz : ((pages : Int) == 0) = false := by rw [beq_eq_false_iff_ne]; omega
      go_wp2_with fail
      obtain ⟨y, hy⟩ : ∃ y : Nat, x % pages = y := ⟨(x % pages).toNat, by omega⟩
      rw [hy] at hm1 hm2 ⊢
      have hy2 : y < pages := by omega
      have HY := Lib.hid hy; clear hy hvb
      have hB1 := HBL.out.below hb1
      have hfree := free_of HKK.out.len (by rw [HKK.out.cnt]; omega)
      have HFR := Lib.hid hfree; clear hfree
      have hsz1 : w.heap.size < w1.heap.size := by omega
      clear hc1 hf1
      go_loop [11] (fun i => ∃ j : Nat, j < pages ∧ i = .int .i64 j ∧ Hid (probe q.d pages j = probe q.d pages y)) (fun i => gap q.d pages (intOf i).toNat)
      case atStart => exact ⟨y, hy2, rfl, rfl⟩
      case round =>
        obtain ⟨j, hj, rfl, HJ⟩ := hrel
        have hcj : w1.cell? ⟨w.heap.size, j, none⟩ = some (.bool (hitD q.d j)) := (hB1.cell j).trans (boolArr_at (by rw [HKK.out.len]; exact hj))
        cases hh : hitD q.d j
        · rw [hh] at hcj
          have HH := Lib.hid hh; clear hh
          have hfz := hB1.free
          go_wp2_with (at_builtin; go_must (refine wpList_append_own _ rfl (.tmp 51) (.tmp 53) 29 rfl (w.heap.size + 1) 3 i0 (.int .i64 0) 1 8 Try.underlying29 hi iz0 iz1 iz2 rfl (by decide) _ k (q.out.map (Value.int .i64)) rfl ((ownsRow_setCell_below (owns_below HO.out hb1) (a := ⟨w.heap.size, j, none⟩) (Nat.lt_succ_self _) (.bool true)).alloc _) ⟨w1.heap.size, 0, none⟩ 1 1 [Value.int .i64 j] rfl rfl (cells_made _ [Value.int .i64 j] _ _ (by first | rfl | simp only [sizes])) (one_int _) (by unfold maxLen; omega) (by omega) (by first | exact Nat.le_refl _ | omega | (simp only [sizes]; omega)) ?_; intro v2 w2 hown2 hgrow2 _; have hb2 : Below w.heap.size w w2 := below_append' (by repeat (first | with_reducible exact Below.refl _ _ | with_reducible refine Below.drew ?_ | (with_reducible refine Below.alloc ?_ (by first | exact Nat.le_refl _ | omega | (simp only [sizes]; omega)) _) | (with_reducible refine Below.setCell ?_ (by first | exact Nat.le_refl _ | omega | (simp only [sizes]; omega)) _) | (refine Below.trans ?_ (Below.mono (by with_reducible assumption) (by first | exact Nat.le_refl _ | omega | (simp only [sizes]; omega)))))) ((ownsRow_setCell_below (owns_below HO.out hb1) (a := ⟨w.heap.size, j, none⟩) (Nat.lt_succ_self _) (.bool true)).alloc _) hgrow2 (by omega); have hz2 := hb2.size))
          go_wp2_with fail
          have hpz := probe_zero (pages := pages) hj HH.out
          have hq2 : samStep pages q = ⟨nextS q.seed, q.d.set j true, q.out ++ [(j : Int)]⟩ := by
            unfold samStep
            rw [HX.out, HY.out, Int.toNat_natCast, ← HJ.out, hpz]
          have HQ2 := Lib.hid hq2; clear hq2 hpz
          go_roundw
          case rel =>
            refine ⟨k + 1, ⟨nextS q.seed, q.d.set j true, q.out ++ [(j : Int)]⟩, by omega, by go_num, ?_, rfl, ?_, ?_, hb2⟩
            · exact HQ2.out.symm.trans (congrArg (samStep pages) HQ.out)
            · show HasBlock _ _ (boolArr (q.d.set j true)) _
              rw [← boolArr_set]
              exact HasBlock.append ((hB1.set_at j (.bool true)).alloc _) ((ownsRow_setCell_below (owns_below HO.out hb1) (a := ⟨w.heap.size, j, none⟩) (Nat.lt_succ_self _) (.bool true)).alloc _) hgrow2 (Nat.lt_succ_self _)
            · show World.ownsRow _ _ _ _ _ _ ((q.out ++ [(j : Int)]).map (Value.int .i64))
              rw [map_snoc]
              exact hown2
          case measure => simp [intOf]; omega
        · rw [hh] at hcj
          have HH := Lib.hid hh; clear hh
          go_wp2_with fail
          have hx := HFR.out
          have hst := probe_step (pages := pages) hj HH.out hx
          have hgs := gap_step (pages := pages) hj HH.out hx
          go_round
          case rel => exact ⟨(j + 1) % pages, Nat.mod_lt _ (by omega), by rw [emod_succ], by unfold Hid; rw [hst]; exact HJ.out⟩
          case measure =>
            rw [emod_succ]
            simp only [intOf, Int.toNat_natCast]
            omega
    · obtain rfl : k = pages := by omega
      have HO := Lib.hid hown; clear hown hblk
      go_wp2_with fail
      go_ret2
      have := intRow_of HO.out
      rw [← HQ.out]
      exact ⟨_, rfl, this.2, (by repeat (first | with_reducible exact Below.refl _ _ | with_reducible refine Below.drew ?_ | (with_reducible refine Below.alloc ?_ (by first | exact Nat.le_refl _ | omega | (simp only [sizes]; omega)) _) | (with_reducible refine Below.setCell ?_ (by first | exact Nat.le_refl _ | omega | (simp only [sizes]; omega)) _) | (refine Below.trans ?_ (Below.mono (by with_reducible assumption) (by first | exact Nat.le_refl _ | omega | (simp only [sizes]; omega))))))⟩
theorem idletax_Sample_any (seed pages n : Int) (w : World) (hs : 0 ≤ seed ∧ seed < 18446744073709551616) :
    Calls Try.prog 15 #[.int .u64 seed, .int .i64 pages, .int .i64 n] w (RetSam w (sampleL seed pages n) (sampleS seed pages n)) := by
  unfold sampleL sampleS
  by_cases h : pages < 1 ∨ 32 < pages ∨ n < 1
  · have hb : badSam pages n = true := decide_eq_true h
    rw [if_pos hb, if_pos hb]
    exact sample_out seed pages n w h
  · rw [if_neg (by rw [badSam, decide_eq_false h]; simp), if_neg (by rw [badSam, decide_eq_false h]; simp)]
    obtain ⟨p, rfl⟩ : ∃ p : Nat, pages = p := ⟨pages.toNat, by omega⟩
    rw [Int.toNat_natCast]
    by_cases hm : n ≤ p
    · obtain ⟨m, rfl⟩ : ∃ m : Nat, n = m := ⟨n.toNat, by omega⟩
      rw [Int.min_eq_left hm, Int.toNat_natCast]
      exact sample_few seed p m w hs (by omega) (by omega) (by omega) (by omega)
    · rw [Int.min_eq_right (by omega), Int.toNat_natCast]
      exact sample_many seed n p w hs (by omega) (by omega) (by omega)

def estimateI (old used n : Int) : Int :=
  if n < 1 ∨ 32 < n ∨ used < 0 ∨ n < used ∨ old < 0 ∨ 1000 < old then old else if old < used * 1000 / n then used * 1000 / n else (3 * old + used * 1000 / n) / 4
set_option maxHeartbeats 1000000 in
theorem idletax_Estimate_bad (old used n : Int) (w : World) (h : n < 1 ∨ 32 < n ∨ used < 0 ∨ n < used ∨ old < 0 ∨ 1000 < old) : Calls Try.prog 26 #[.int .i64 old, .int .i64 used, .int .i64 n] w (Ret w (.int .i64 old)) := by
  have pick : n < 1 ∨ (1 ≤ n ∧ 32 < n) ∨ (1 ≤ n ∧ n ≤ 32 ∧ used < 0) ∨ (1 ≤ n ∧ n ≤ 32 ∧ 0 ≤ used ∧ n < used) ∨ (1 ≤ n ∧ n ≤ 32 ∧ 0 ≤ used ∧ used ≤ n ∧ old < 0) ∨ (1 ≤ n ∧ n ≤ 32 ∧ 0 ≤ used ∧ used ≤ n ∧ 1000 < old) := by omega
  clear h
  rcases pick with h | ⟨_, h⟩ | ⟨_, _, h⟩ | ⟨_, _, _, h⟩ | ⟨_, _, _, _, h⟩ | ⟨_, _, _, _, h⟩
  all_goals
    go_enter Try.func26, Try.ntmps26
    go_wp2
    go_ret
    exact Ret.mk (by repeat (first | with_reducible exact Below.refl _ _ | with_reducible refine Below.drew ?_ | (with_reducible refine Below.alloc ?_ (by first | exact Nat.le_refl _ | omega | (simp only [sizes]; omega)) _) | (with_reducible refine Below.setCell ?_ (by first | exact Nat.le_refl _ | omega | (simp only [sizes]; omega)) _) | (refine Below.trans ?_ (Below.mono (by with_reducible assumption) (by first | exact Nat.le_refl _ | omega | (simp only [sizes]; omega))))))
set_option maxHeartbeats 1000000 in
theorem idletax_Estimate_good (old used n : Int) (w : World) (h1 : 1 ≤ n) (h2 : n ≤ 32) (h3 : 0 ≤ used) (h4 : used ≤ n) (h5 : 0 ≤ old) (h6 : old ≤ 1000) :
    Calls Try.prog 26 #[.int .i64 old, .int .i64 used, .int .i64 n] w (Ret w (.int .i64 (if old < used * 1000 / n then used * 1000 / n else (3 * old + used * 1000 / n) / 4))) := by
  have q1 : 0 ≤ used * 1000 / n := Int.ediv_nonneg (by omega) (by omega)
  have q2 : used * 1000 / n ≤ 1000 := Int.ediv_le_of_le_mul (by omega) (by omega)
  have hn : (n == 0) = false := by rw [beq_eq_false_iff_ne]; omega
  by_cases hc : old < used * 1000 / n
  · rw [if_pos hc]
    go_enter Try.func26, Try.ntmps26
    go_wp2
    go_ret
    exact Ret.mk (by repeat (first | with_reducible exact Below.refl _ _ | with_reducible refine Below.drew ?_ | (with_reducible refine Below.alloc ?_ (by first | exact Nat.le_refl _ | omega | (simp only [sizes]; omega)) _) | (with_reducible refine Below.setCell ?_ (by first | exact Nat.le_refl _ | omega | (simp only [sizes]; omega)) _) | (refine Below.trans ?_ (Below.mono (by with_reducible assumption) (by first | exact Nat.le_refl _ | omega | (simp only [sizes]; omega))))))
  · rw [if_neg hc]
    go_enter Try.func26, Try.ntmps26
    go_wp2
    go_ret
    exact Ret.mk (by repeat (first | with_reducible exact Below.refl _ _ | with_reducible refine Below.drew ?_ | (with_reducible refine Below.alloc ?_ (by first | exact Nat.le_refl _ | omega | (simp only [sizes]; omega)) _) | (with_reducible refine Below.setCell ?_ (by first | exact Nat.le_refl _ | omega | (simp only [sizes]; omega)) _) | (refine Below.trans ?_ (Below.mono (by with_reducible assumption) (by first | exact Nat.le_refl _ | omega | (simp only [sizes]; omega))))))
theorem idletax_Estimate_any (old used n : Int) (w : World) : Calls Try.prog 26 #[.int .i64 old, .int .i64 used, .int .i64 n] w (Ret w (.int .i64 (estimateI old used n))) := by
  unfold estimateI
  by_cases h : n < 1 ∨ 32 < n ∨ used < 0 ∨ n < used ∨ old < 0 ∨ 1000 < old
  · rw [if_pos h]; exact idletax_Estimate_bad old used n w h
  · rw [if_neg h]; exact idletax_Estimate_good old used n w (by omega) (by omega) (by omega) (by omega) (by omega) (by omega)
set_option maxHeartbeats 1000000 in
theorem vmfleetref35_Estimate_bad (old used n : Int) (w : World) (h : n < 1 ∨ 32 < n ∨ used < 0 ∨ n < used ∨ old < 0 ∨ 1000 < old) : Calls Try.prog 27 #[.int .i64 old, .int .i64 used, .int .i64 n] w (Ret w (.int .i64 old)) := by
  have pick : n < 1 ∨ (1 ≤ n ∧ 32 < n) ∨ (1 ≤ n ∧ n ≤ 32 ∧ used < 0) ∨ (1 ≤ n ∧ n ≤ 32 ∧ 0 ≤ used ∧ n < used) ∨ (1 ≤ n ∧ n ≤ 32 ∧ 0 ≤ used ∧ used ≤ n ∧ old < 0) ∨ (1 ≤ n ∧ n ≤ 32 ∧ 0 ≤ used ∧ used ≤ n ∧ 1000 < old) := by omega
  clear h
  rcases pick with h | ⟨_, h⟩ | ⟨_, _, h⟩ | ⟨_, _, _, h⟩ | ⟨_, _, _, _, h⟩ | ⟨_, _, _, _, h⟩
  all_goals
    go_enter Try.func27, Try.ntmps27
    go_wp2
    go_ret
    exact Ret.mk (by repeat (first | with_reducible exact Below.refl _ _ | with_reducible refine Below.drew ?_ | (with_reducible refine Below.alloc ?_ (by first | exact Nat.le_refl _ | omega | (simp only [sizes]; omega)) _) | (with_reducible refine Below.setCell ?_ (by first | exact Nat.le_refl _ | omega | (simp only [sizes]; omega)) _) | (refine Below.trans ?_ (Below.mono (by with_reducible assumption) (by first | exact Nat.le_refl _ | omega | (simp only [sizes]; omega))))))
set_option maxHeartbeats 1000000 in
theorem vmfleetref35_Estimate_good (old used n : Int) (w : World) (h1 : 1 ≤ n) (h2 : n ≤ 32) (h3 : 0 ≤ used) (h4 : used ≤ n) (h5 : 0 ≤ old) (h6 : old ≤ 1000) :
    Calls Try.prog 27 #[.int .i64 old, .int .i64 used, .int .i64 n] w (Ret w (.int .i64 (if old < used * 1000 / n then used * 1000 / n else (3 * old + used * 1000 / n) / 4))) := by
  have q1 : 0 ≤ used * 1000 / n := Int.ediv_nonneg (by omega) (by omega)
  have q2 : used * 1000 / n ≤ 1000 := Int.ediv_le_of_le_mul (by omega) (by omega)
  have hn : (n == 0) = false := by rw [beq_eq_false_iff_ne]; omega
  by_cases hc : old < used * 1000 / n
  · rw [if_pos hc]
    go_enter Try.func27, Try.ntmps27
    go_wp2
    go_ret
    exact Ret.mk (by repeat (first | with_reducible exact Below.refl _ _ | with_reducible refine Below.drew ?_ | (with_reducible refine Below.alloc ?_ (by first | exact Nat.le_refl _ | omega | (simp only [sizes]; omega)) _) | (with_reducible refine Below.setCell ?_ (by first | exact Nat.le_refl _ | omega | (simp only [sizes]; omega)) _) | (refine Below.trans ?_ (Below.mono (by with_reducible assumption) (by first | exact Nat.le_refl _ | omega | (simp only [sizes]; omega))))))
  · rw [if_neg hc]
    go_enter Try.func27, Try.ntmps27
    go_wp2
    go_ret
    exact Ret.mk (by repeat (first | with_reducible exact Below.refl _ _ | with_reducible refine Below.drew ?_ | (with_reducible refine Below.alloc ?_ (by first | exact Nat.le_refl _ | omega | (simp only [sizes]; omega)) _) | (with_reducible refine Below.setCell ?_ (by first | exact Nat.le_refl _ | omega | (simp only [sizes]; omega)) _) | (refine Below.trans ?_ (Below.mono (by with_reducible assumption) (by first | exact Nat.le_refl _ | omega | (simp only [sizes]; omega))))))
theorem vmfleetref35_Estimate_any (old used n : Int) (w : World) : Calls Try.prog 27 #[.int .i64 old, .int .i64 used, .int .i64 n] w (Ret w (.int .i64 (estimateI old used n))) := by
  unfold estimateI
  by_cases h : n < 1 ∨ 32 < n ∨ used < 0 ∨ n < used ∨ old < 0 ∨ 1000 < old
  · rw [if_pos h]; exact vmfleetref35_Estimate_bad old used n w h
  · rw [if_neg h]; exact vmfleetref35_Estimate_good old used n w (by omega) (by omega) (by omega) (by omega) (by omega) (by omega)
end Go.Proofs.Ytclnjjppcdgkiaa
