/-
  Samples: the reference, walked.
-/
import Derived.Test.YtclnjjppcdgkiaaTaxSample
import Derived.Test.YtclnjjppcdgkiaaTaxRefTargets
namespace Go.Proofs.Ytclnjjppcdgkiaa
open Go.RowKit

def padB (d : List Bool) : List Bool := d ++ List.replicate (32 - d.length) false
theorem padB_set {d : List Bool} {i : Nat} (h : i < d.length) (x : Bool) : (padB d).set i x = padB (d.set i x) := by
  unfold padB
  rw [List.length_set, List.set_append_left _ _ h]
theorem padB_hit {d : List Bool} {i : Nat} (h : i < d.length) : hitD (padB d) i = hitD d i := by
  unfold hitD padB
  rw [List.getElem?_append_left h]
theorem padB_len {d : List Bool} (h : d.length ≤ 32) : (padB d).length = 32 := by
  unfold padB
  rw [List.length_append, List.length_replicate]; omega
theorem padB_none {n : Nat} (h : n ≤ 32) : padB (List.replicate n false) = List.replicate 32 false := by
  unfold padB
  rw [List.length_replicate, List.replicate_append_replicate]
  congr 1; omega

theorem rsample_out (seed pages n : Int) (w : World) (h : pages < 1 ∨ 32 < pages ∨ n < 1) : Calls Try.prog 16 #[.int .u64 seed, .int .i64 pages, .int .i64 n] w (RetSam w [] seed) := by
  by_cases h1 : pages < 1
  · go_enter Try.func16, Try.ntmps16
    go_wp2_with fail
    go_ret2
    exact ⟨_, rfl, IntRow.nil _, (by repeat (first | with_reducible exact Below.refl _ _ | with_reducible refine Below.drew ?_ | (with_reducible refine Below.alloc ?_ (by first | exact Nat.le_refl _ | omega | (simp only [sizes]; omega)) _) | (with_reducible refine Below.setCell ?_ (by first | exact Nat.le_refl _ | omega | (simp only [sizes]; omega)) _) | (refine Below.trans ?_ (Below.mono (by with_reducible assumption) (by first | exact Nat.le_refl _ | omega | (simp only [sizes]; omega))))))⟩
  · by_cases h2 : 32 < pages
    · go_enter Try.func16, Try.ntmps16
      go_wp2_with fail
      go_ret2
      exact ⟨_, rfl, IntRow.nil _, (by repeat (first | with_reducible exact Below.refl _ _ | with_reducible refine Below.drew ?_ | (with_reducible refine Below.alloc ?_ (by first | exact Nat.le_refl _ | omega | (simp only [sizes]; omega)) _) | (with_reducible refine Below.setCell ?_ (by first | exact Nat.le_refl _ | omega | (simp only [sizes]; omega)) _) | (refine Below.trans ?_ (Below.mono (by with_reducible assumption) (by first | exact Nat.le_refl _ | omega | (simp only [sizes]; omega))))))⟩
    · have h3 : n < 1 := by omega
      go_enter Try.func16, Try.ntmps16
      go_wp2_with fail
      go_ret2
      exact ⟨_, rfl, IntRow.nil _, (by repeat (first | with_reducible exact Below.refl _ _ | with_reducible refine Below.drew ?_ | (with_reducible refine Below.alloc ?_ (by first | exact Nat.le_refl _ | omega | (simp only [sizes]; omega)) _) | (with_reducible refine Below.setCell ?_ (by first | exact Nat.le_refl _ | omega | (simp only [sizes]; omega)) _) | (refine Below.trans ?_ (Below.mono (by with_reducible assumption) (by first | exact Nat.le_refl _ | omega | (simp only [sizes]; omega))))))⟩

def lenOf : Value → Nat
  | .slice _ n _ => n
  | _ => 0
set_option maxRecDepth 100000 in
set_option maxHeartbeats 4000000 in
theorem rsample_few (seed : Int) (pages m : Nat) (w : World) (hs : 0 ≤ seed ∧ seed < 18446744073709551616) (hp : 1 ≤ pages) (hp' : pages ≤ 32) (hn : 1 ≤ m) (hm : m ≤ pages) :
    Calls Try.prog 16 #[.int .u64 seed, .int .i64 pages, .int .i64 m] w (RetSam w (samF pages seed m).out (samF pages seed m).seed) := by
  have hok := fun k => samOk pages seed hs k
  have HOK := Lib.hid hok; clear hok hs
  obtain ⟨i0, hi, iz0, iz1, iz2⟩ := info_parts info_int
  go_enter Try.func16, Try.ntmps16
  go_wp2_with fail
  go_loopw [0, 8] (fun sd v wr => ∃ (k : Nat) (q : Sam), k ≤ m ∧ Hid (q = samF pages seed k) ∧ sd = .int .u64 q.seed ∧ HasBlock wr w.heap.size (boolArr (padB q.d)) 52 ∧ wr.ownsRow (w.heap.size + 1) 3 1 v k (q.out.map (Value.int .i64)) ∧ Below w.heap.size w wr) (fun _ v _ => m - lenOf v)
  case atStart => exact ⟨0, _, Nat.zero_le _, rfl, rfl, (by have := HasBlock.made w (boolArr (List.replicate 32 false)) 52; show HasBlock _ _ (boolArr (padB (List.replicate pages false))) _; rw [padB_none (by omega)]; exact this), World.ownsRow_nil _ _ _ _, (by repeat (first | with_reducible exact Below.refl _ _ | with_reducible refine Below.drew ?_ | (with_reducible refine Below.alloc ?_ (by first | exact Nat.le_refl _ | omega | (simp only [sizes]; omega)) _) | (with_reducible refine Below.setCell ?_ (by first | exact Nat.le_refl _ | omega | (simp only [sizes]; omega)) _) | (refine Below.trans ?_ (Below.mono (by with_reducible assumption) (by first | exact Nat.le_refl _ | omega | (simp only [sizes]; omega))))))⟩
  case round =>
    obtain ⟨k, q, hk, HQ, rfl, hblk, hown, hbw⟩ := hrel
    have hbs0 := hbw.size
    have hlt0 := hblk.lt
    obtain ⟨vo, vc, rfl, o1, o2, o3⟩ := RowAt.of_owns hown
    unfold maxLen at o2
    clear o3
    by_cases hlt : k < m
    · have hokk := HOK.out k (by omega)
      rw [← HQ.out] at hokk
      have HKK := Lib.hid hokk; clear hokk
      have HO := Lib.hid hown; clear hown
      have HBL := Lib.hid hblk; clear hblk
      have hkp : k < pages := by omega
      go_wp2_with fail
      refine (vmfleetref1_Next_any q.seed _ HKK.out.seed).mono ?_
      rintro e w1 ⟨rfl, hb1⟩
      obtain ⟨hc1, hf1⟩ := bcell hb1
      have hz1 := bsize hb1
      try simp only [sizes1] at hz1
      try simp only [sizes] at hc1 hf1
      have hvb := nextV_bd q.seed
      obtain ⟨x, hx⟩ : ∃ x, nextV q.seed = x := ⟨_, rfl⟩
      rw [hx] at hvb ⊢
      have HX := Lib.hid hx; clear hx
      have hm1 := Int.emod_lt_of_pos x (show (0 : Int) < pages by omega)
      have hm2 := Int.emod_nonneg x (show (pages : Int) ≠ 0 by omega)
      have hpz : ((pages : Int) == 0) = false := by rw [beq_eq_false_iff_ne]; omega
      go_wp2_with fail
      obtain ⟨y, hy⟩ : ∃ y : Nat, x % pages = y := ⟨(x % pages).toNat, by omega⟩
      rw [hy] at hm1 hm2 ⊢
      have hy2 : y < pages := by omega
      have HY := Lib.hid hy; clear hy hvb
      have hB1 := HBL.out.below hb1
      have hfree := free_of HKK.out.len (by rw [HKK.out.cnt]; omega)
      have HFR := Lib.hid hfree; clear hfree
      have hsz1 : w.heap.size < w1.heap.size := by omega
      clear hc1 hf1
      go_loop [12] (fun i => ∃ j : Nat, j < pages ∧ i = .int .i64 j ∧ Hid (probe q.d pages j = probe q.d pages y)) (fun i => gap q.d pages (intOf i).toNat)
      case atStart => exact ⟨y, hy2, rfl, rfl⟩
      case round =>
        obtain ⟨j, hj, rfl, HJ⟩ := hrel
        have hj32 : j < 32 := by omega
        have hcj : w1.cell? ⟨w.heap.size, j, none⟩ = some (.bool (hitD q.d j)) := (hB1.cell j).trans ((boolArr_at (by rw [padB_len (by rw [HKK.out.len]; omega)]; exact hj32)).trans (by rw [padB_hit (by rw [HKK.out.len]; exact hj)]))
        cases hh : hitD q.d j
        · rw [hh] at hcj
          have HH := Lib.hid hh; clear hh
          have hfz := hB1.free
          go_wp2_with (at_builtin; go_must (refine wpList_append_own _ rfl (.tmp 54) (.tmp 56) 29 rfl (w.heap.size + 1) 3 i0 (.int .i64 0) 1 8 Try.underlying29 hi iz0 iz1 iz2 rfl (by decide) _ k (q.out.map (Value.int .i64)) rfl ((ownsRow_setCell_below (owns_below HO.out hb1) (a := ⟨w.heap.size, j, none⟩) (Nat.lt_succ_self _) (.bool true)).alloc _) ⟨w1.heap.size, 0, none⟩ 1 1 [Value.int .i64 j] rfl rfl (cells_made _ [Value.int .i64 j] _ _ (by first | rfl | simp only [sizes])) (one_int _) (by unfold maxLen; omega) (by omega) (by first | exact Nat.le_refl _ | omega | (simp only [sizes]; omega)) ?_; intro v2 w2 hown2 hgrow2 _; have hb2 : Below w.heap.size w w2 := below_append' (by repeat (first | with_reducible exact Below.refl _ _ | with_reducible refine Below.drew ?_ | (with_reducible refine Below.alloc ?_ (by first | exact Nat.le_refl _ | omega | (simp only [sizes]; omega)) _) | (with_reducible refine Below.setCell ?_ (by first | exact Nat.le_refl _ | omega | (simp only [sizes]; omega)) _) | (refine Below.trans ?_ (Below.mono (by with_reducible assumption) (by first | exact Nat.le_refl _ | omega | (simp only [sizes]; omega)))))) ((ownsRow_setCell_below (owns_below HO.out hb1) (a := ⟨w.heap.size, j, none⟩) (Nat.lt_succ_self _) (.bool true)).alloc _) hgrow2 (by omega); have hz2 := hb2.size))
          go_wp2_with fail
          have hpz := probe_zero (pages := pages) hj HH.out
          have hq2 : samStep pages q = ⟨nextS q.seed, q.d.set j true, q.out ++ [(j : Int)]⟩ := by
            unfold samStep
            rw [HX.out, HY.out, Int.toNat_natCast, ← HJ.out, hpz]
          have HQ2 := Lib.hid hq2; clear hq2 hpz
          have HOWN2 := Lib.hid hown2
          go_roundw
          case rel =>
            refine ⟨k + 1, ⟨nextS q.seed, q.d.set j true, q.out ++ [(j : Int)]⟩, by omega, ?_, rfl, ?_, ?_, hb2⟩
            · exact HQ2.out.symm.trans (congrArg (samStep pages) HQ.out)
            · show HasBlock _ _ (boolArr (padB (q.d.set j true))) _
              rw [← padB_set (by rw [HKK.out.len]; exact hj), ← boolArr_set]
              exact HasBlock.append ((hB1.set_at j (.bool true)).alloc _) ((ownsRow_setCell_below (owns_below HO.out hb1) (a := ⟨w.heap.size, j, none⟩) (Nat.lt_succ_self _) (.bool true)).alloc _) hgrow2 (Nat.lt_succ_self _)
            · show World.ownsRow _ _ _ _ _ _ ((q.out ++ [(j : Int)]).map (Value.int .i64))
              rw [map_snoc]
              exact hown2
          case measure =>
            obtain ⟨ao2, ca2, e2, _⟩ := RowAt.of_owns HOWN2.out
            rw [e2]
            simp [lenOf]; omega
        · rw [hh] at hcj
          have HH := Lib.hid hh; clear hh
          go_wp2_with fail
          have hx := HFR.out
          have hst := probe_step (pages := pages) hj HH.out hx
          have hgs := gap_step (pages := pages) hj HH.out hx
          go_round
          case rel => exact ⟨(j + 1) % pages, Nat.mod_lt _ (by omega), by rw [emod_succ], by unfold Hid; rw [hst]; exact HJ.out⟩
          case measure =>
            rw [emod_succ]
            simp only [intOf, Int.toNat_natCast]
            omega
    · obtain rfl : k = m := by omega
      have HO := Lib.hid hown; clear hown hblk
      go_wp2_with fail
      go_ret2
      have := intRow_of HO.out
      rw [← HQ.out]
      exact ⟨_, rfl, this.2, (by repeat (first | with_reducible exact Below.refl _ _ | with_reducible refine Below.drew ?_ | (with_reducible refine Below.alloc ?_ (by first | exact Nat.le_refl _ | omega | (simp only [sizes]; omega)) _) | (with_reducible refine Below.setCell ?_ (by first | exact Nat.le_refl _ | omega | (simp only [sizes]; omega)) _) | (refine Below.trans ?_ (Below.mono (by with_reducible assumption) (by first | exact Nat.le_refl _ | omega | (simp only [sizes]; omega))))))⟩
set_option maxRecDepth 100000 in
set_option maxHeartbeats 4000000 in
theorem rsample_many (seed n : Int) (pages : Nat) (w : World) (hs : 0 ≤ seed ∧ seed < 18446744073709551616) (hp : 1 ≤ pages) (hp' : pages ≤ 32) (hn : pages < n) :
    Calls Try.prog 16 #[.int .u64 seed, .int .i64 pages, .int .i64 n] w (RetSam w (samF pages seed pages).out (samF pages seed pages).seed) := by
  have hok := fun k => samOk pages seed hs k
  have HOK := Lib.hid hok; clear hok hs
  obtain ⟨i0, hi, iz0, iz1, iz2⟩ := info_parts info_int
  go_enter Try.func16, Try.ntmps16
  go_wp2_with fail
  go_loopw [0, 8] (fun sd v wr => ∃ (k : Nat) (q : Sam), k ≤ pages ∧ Hid (q = samF pages seed k) ∧ sd = .int .u64 q.seed ∧ HasBlock wr w.heap.size (boolArr (padB q.d)) 52 ∧ wr.ownsRow (w.heap.size + 1) 3 1 v k (q.out.map (Value.int .i64)) ∧ Below w.heap.size w wr) (fun _ v _ => pages - lenOf v)
  case atStart => exact ⟨0, _, Nat.zero_le _, rfl, rfl, (by have := HasBlock.made w (boolArr (List.replicate 32 false)) 52; show HasBlock _ _ (boolArr (padB (List.replicate pages false))) _; rw [padB_none (by omega)]; exact this), World.ownsRow_nil _ _ _ _, (by repeat (first | with_reducible exact Below.refl _ _ | with_reducible refine Below.drew ?_ | (with_reducible refine Below.alloc ?_ (by first | exact Nat.le_refl _ | omega | (simp only [sizes]; omega)) _) | (with_reducible refine Below.setCell ?_ (by first | exact Nat.le_refl _ | omega | (simp only [sizes]; omega)) _) | (refine Below.trans ?_ (Below.mono (by with_reducible assumption) (by first | exact Nat.le_refl _ | omega | (simp only [sizes]; omega))))))⟩
  case round =>
    obtain ⟨k, q, hk, HQ, rfl, hblk, hown, hbw⟩ := hrel
    have hbs0 := hbw.size
    have hlt0 := hblk.lt
    obtain ⟨vo, vc, rfl, o1, o2, o3⟩ := RowAt.of_owns hown
    unfold maxLen at o2
    clear o3
    by_cases hlt : k < pages
    · have hokk := HOK.out k (by omega)
      rw [← HQ.out] at hokk
      have HKK := Lib.hid hokk; clear hokk
      have HO := Lib.hid hown; clear hown
      have HBL := Lib.hid hblk; clear hblk
      have hkp : k < pages := by omega
      go_wp2_with fail
      refine (vmfleetref1_Next_any q.seed _ HKK.out.seed).mono ?_
      rintro e w1 ⟨rfl, hb1⟩
      obtain ⟨hc1, hf1⟩ := bcell hb1
      have hz1 := bsize hb1
      try simp only [sizes1] at hz1
      try simp only [sizes] at hc1 hf1
      have hvb := nextV_bd q.seed
      obtain ⟨x, hx⟩ : ∃ x, nextV q.seed = x := ⟨_, rfl⟩
      rw [hx] at hvb ⊢
      have HX := Lib.hid hx; clear hx
      have hm1 := Int.emod_lt_of_pos x (show (0 : Int) < pages by omega)
      have hm2 := Int.emod_nonneg x (show (pages : Int) ≠ 0 by omega)
      have hpz : ((pages : Int) == 0) = false := by rw [beq_eq_false_iff_ne]; omega
      go_wp2_with fail
      obtain ⟨y, hy⟩ : ∃ y : Nat, x % pages = y := ⟨(x % pages).toNat, by omega⟩
      rw [hy] at hm1 hm2 ⊢
      have hy2 : y < pages := by omega
      have HY := Lib.hid hy; clear hy hvb
      have hB1 := HBL.out.below hb1
      have hfree := free_of HKK.out.len (by rw [HKK.out.cnt]; omega)
      have HFR := Lib.hid hfree; clear hfree
      have hsz1 : w.heap.size < w1.heap.size := by omega
      clear hc1 hf1
      go_loop [12] (fun i => ∃ j : Nat, j < pages ∧ i = .int .i64 j ∧ Hid (probe q.d pages j = probe q.d pages y)) (fun i => gap q.d pages (intOf i).toNat)
      case atStart => exact ⟨y, hy2, rfl, rfl⟩
      case round =>
        obtain ⟨j, hj, rfl, HJ⟩ := hrel
        have hj32 : j < 32 := by omega
        have hcj : w1.cell? ⟨w.heap.size, j, none⟩ = some (.bool (hitD q.d j)) := (hB1.cell j).trans ((boolArr_at (by rw [padB_len (by rw [HKK.out.len]; omega)]; exact hj32)).trans (by rw [padB_hit (by rw [HKK.out.len]; exact hj)]))
        cases hh : hitD q.d j
        · rw [hh] at hcj
          have HH := Lib.hid hh; clear hh
          have hfz := hB1.free
          go_wp2_with (at_builtin; go_must (refine wpList_append_own _ rfl (.tmp 54) (.tmp 56) 29 rfl (w.heap.size + 1) 3 i0 (.int .i64 0) 1 8 Try.underlying29 hi iz0 iz1 iz2 rfl (by decide) _ k (q.out.map (Value.int .i64)) rfl ((ownsRow_setCell_below (owns_below HO.out hb1) (a := ⟨w.heap.size, j, none⟩) (Nat.lt_succ_self _) (.bool true)).alloc _) ⟨w1.heap.size, 0, none⟩ 1 1 [Value.int .i64 j] rfl rfl (cells_made _ [Value.int .i64 j] _ _ (by first | rfl | simp only [sizes])) (one_int _) (by unfold maxLen; omega) (by omega) (by first | exact Nat.le_refl _ | omega | (simp only [sizes]; omega)) ?_; intro v2 w2 hown2 hgrow2 _; have hb2 : Below w.heap.size w w2 := below_append' (by repeat (first | with_reducible exact Below.refl _ _ | with_reducible refine Below.drew ?_ | (with_reducible refine Below.alloc ?_ (by first | exact Nat.le_refl _ | omega | (simp only [sizes]; omega)) _) | (with_reducible refine Below.setCell ?_ (by first | exact Nat.le_refl _ | omega | (simp only [sizes]; omega)) _) | (refine Below.trans ?_ (Below.mono (by with_reducible assumption) (by first | exact Nat.le_refl _ | omega | (simp only [sizes]; omega)))))) ((ownsRow_setCell_below (owns_below HO.out hb1) (a := ⟨w.heap.size, j, none⟩) (Nat.lt_succ_self _) (.bool true)).alloc _) hgrow2 (by omega); have hz2 := hb2.size))
          go_wp2_with fail
          have hpz := probe_zero (pages := pages) hj HH.out
          have hq2 : samStep pages q = ⟨nextS q.seed, q.d.set j true, q.out ++ [(j : Int)]⟩ := by
            unfold samStep
            rw [HX.out, HY.out, Int.toNat_natCast, ← HJ.out, hpz]
          have HQ2 := Lib.hid hq2; clear hq2 hpz
          have HOWN2 := Lib.hid hown2
          go_roundw
          case rel =>
            refine ⟨k + 1, ⟨nextS q.seed, q.d.set j true, q.out ++ [(j : Int)]⟩, by omega, ?_, rfl, ?_, ?_, hb2⟩
            · exact HQ2.out.symm.trans (congrArg (samStep pages) HQ.out)
            · show HasBlock _ _ (boolArr (padB (q.d.set j true))) _
              rw [← padB_set (by rw [HKK.out.len]; exact hj), ← boolArr_set]
              exact HasBlock.append ((hB1.set_at j (.bool true)).alloc _) ((ownsRow_setCell_below (owns_below HO.out hb1) (a := ⟨w.heap.size, j, none⟩) (Nat.lt_succ_self _) (.bool true)).alloc _) hgrow2 (Nat.lt_succ_self _)
            · show World.ownsRow _ _ _ _ _ _ ((q.out ++ [(j : Int)]).map (Value.int .i64))
              rw [map_snoc]
              exact hown2
          case measure =>
            obtain ⟨ao2, ca2, e2, _⟩ := RowAt.of_owns HOWN2.out
            rw [e2]
            simp [lenOf]; omega
        · rw [hh] at hcj
          have HH := Lib.hid hh; clear hh
          go_wp2_with fail
          have hx := HFR.out
          have hst := probe_step (pages := pages) hj HH.out hx
          have hgs := gap_step (pages := pages) hj HH.out hx
          go_round
          case rel => exact ⟨(j + 1) % pages, Nat.mod_lt _ (by omega), by rw [emod_succ], by unfold Hid; rw [hst]; exact HJ.out⟩
          case measure =>
            rw [emod_succ]
            simp only [intOf, Int.toNat_natCast]
            omega
    · obtain rfl : k = pages := by omega
      have HO := Lib.hid hown; clear hown hblk
      go_wp2_with fail
      go_ret2
      have := intRow_of HO.out
      rw [← HQ.out]
      exact ⟨_, rfl, this.2, (by repeat (first | with_reducible exact Below.refl _ _ | with_reducible refine Below.drew ?_ | (with_reducible refine Below.alloc ?_ (by first | exact Nat.le_refl _ | omega | (simp only [sizes]; omega)) _) | (with_reducible refine Below.setCell ?_ (by first | exact Nat.le_refl _ | omega | (simp only [sizes]; omega)) _) | (refine Below.trans ?_ (Below.mono (by with_reducible assumption) (by first | exact Nat.le_refl _ | omega | (simp only [sizes]; omega))))))⟩
theorem vmfleetref35_Sample_any (seed pages n : Int) (w : World) (hs : 0 ≤ seed ∧ seed < 18446744073709551616) :
    Calls Try.prog 16 #[.int .u64 seed, .int .i64 pages, .int .i64 n] w (RetSam w (sampleL seed pages n) (sampleS seed pages n)) := by
  unfold sampleL sampleS
  by_cases h : pages < 1 ∨ 32 < pages ∨ n < 1
  · have hb : badSam pages n = true := decide_eq_true h
    rw [if_pos hb, if_pos hb]
    exact rsample_out seed pages n w h
  · rw [if_neg (by rw [badSam, decide_eq_false h]; simp), if_neg (by rw [badSam, decide_eq_false h]; simp)]
    obtain ⟨p, rfl⟩ : ∃ p : Nat, pages = p := ⟨pages.toNat, by omega⟩
    rw [Int.toNat_natCast]
    by_cases hm : n ≤ p
    · obtain ⟨m, rfl⟩ : ∃ m : Nat, n = m := ⟨n.toNat, by omega⟩
      rw [Int.min_eq_left hm, Int.toNat_natCast]
      exact rsample_few seed p m w hs (by omega) (by omega) (by omega) (by omega)
    · rw [Int.min_eq_right (by omega), Int.toNat_natCast]
      exact rsample_many seed n p w hs (by omega) (by omega) (by omega)
end Go.Proofs.Ytclnjjppcdgkiaa
