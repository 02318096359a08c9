/-
  A pool of free frames; a row of pages without frames: walked.
-/
import Derived.Test.YtjoopjgpjkmmhaaPlOwn
import Derived.Test.YtjoopjgpjkmmhaaShelf
import Derived.Laws.CopyOwn
import Derived.IntWalk
import Derived.Deep.Cut
import Derived.Deep.CutRange
namespace Go.Proofs.Ytjoopjgpjkmmhaa
open Go.RowKit

theorem size_int : (Try.prog.info? 3).map (·.size) = some 1 := by kernel_rfl
/-- k of K numbers are -1, the others 0. -/
def repI (k K : Nat) : List Int := List.replicate k (-1) ++ List.replicate (K - k) 0
theorem repI_len {k K : Nat} (h : k ≤ K) : (repI k K).length = K := by unfold repI; rw [List.length_append, List.length_replicate, List.length_replicate]; omega
theorem repI_all (K : Nat) : repI K K = List.replicate K (-1) := by unfold repI; rw [Nat.sub_self]; simp
theorem rep_splice {k c K : Nat} (h : k + c ≤ K) : splice ((repI k K).map (Value.int .i64)) k ((List.replicate c (-1 : Int)).map (Value.int .i64)) = (repI (k + c) K).map (Value.int .i64) := by
  unfold splice
  rw [List.length_map, List.length_replicate, ← List.map_take, ← List.map_drop, ← List.map_append, ← List.map_append]
  congr 1
  unfold repI
  rw [List.take_append, List.drop_append, List.length_replicate, Nat.sub_self, List.take_zero, List.append_nil, List.take_of_length_le (by simp), List.drop_of_length_le (by simp), List.nil_append, List.drop_replicate,
    ← List.append_assoc, List.replicate_append_replicate, show K - k - (k + c - k) = K - (k + c) by omega]
theorem makes_rep (K : Nat) (hn : K ≤ 1000000) (w : World) : (Instr.makeSlice 23 (.int .i64 (K : Int)) (.int .i64 (K : Int))).run Try.prog w = .ok (.slice (some ⟨w.heap.size, 0, none⟩) K K) (w.alloc (.cells ((repI 0 K).map (Value.int .i64)).toArray 3)) := by
  unfold repI
  rw [List.replicate_zero, List.nil_append, Nat.sub_zero, List.map_replicate]
  exact run_make_one (P := Try.prog) 23 3 (.int .i64 0) 8 Try.underlying23 info_int rfl K (by omega) (by omega) w
set_option maxHeartbeats 2000000 in
theorem repeat_any (b : Nat) (K : Nat) (w : World) (h1 : 1 ≤ K) (h2 : K ≤ 32) (hc : w.cell? ⟨b, 0, none⟩ = some (.int .i64 (-1))) (hb : b < w.heap.size) : Calls Try.prog 38 #[.slice (some ⟨b, 0, none⟩) 1 1, .int .i64 K] w (RetOwn (Value.int .i64) 3 w (List.replicate K (-1))) := by
  have hmk := makes_rep K (by omega)
  have MU : ∀ w, Calls Try.prog 52 #[.int .u64 1, .int .u64 K] w fun e w' => e = .returned (.tuple #[.int .u64 0, .int .u64 K]) ∧ w' = w := fun w => by
    have h := Try.bits_Mul 1 K (by omega) (by omega) w
    rw [Nat.one_mul, Nat.div_eq_of_lt (by omega), Nat.mod_eq_of_lt (by omega)] at h
    exact h
  have HMU := Lib.hid MU; clear MU
  have d0 : decide ((K : Int) < 0) = false := decide_eq_false (by omega)
  have d1 : decide ((9223372036854775807 : Int) < (K : Int)) = false := decide_eq_false (by omega)
  have hl0 := repI_len (k := 0) (K := K) (by omega)
  have hs0 : splice ((repI 0 K).map (Value.int .i64)) 0 [Value.int .i64 (-1)] = (repI 1 K).map (Value.int .i64) := rep_splice (k := 0) (c := 1) (by omega)
  obtain ⟨Z, hZ⟩ : ∃ Z, (repI 0 K).map (Value.int .i64) = Z := ⟨_, rfl⟩
  have hzl : Z.length = K := by rw [← hZ, List.length_map]; exact hl0
  rw [hZ] at hmk hs0
  have HS0 := Lib.hid hs0; clear hs0 hZ hl0
  have HZL := Lib.hid hzl; clear hzl
  go_enter Try.func38, Try.ntmps38
  go_wp2_with fail
  with_reducible refine (HMU.out _).mono ?_
  rintro e w1 ⟨rfl, rfl⟩
  go_wp2_with (refine wpList_copy_splice rfl (.tmp 31) (.tmp 32) 23 23 rfl 3 Try.underlying23 size_int _ _ _ _ _ _ rfl rfl w1.heap.size 0 Z 3 (heap_alloc_new _ _) [.int .i64 (-1)] ?q1 ?q2 ?q3 ?q4 w1.heap.size w1 ?q5 (Nat.le_refl _) ?_)
  case q1 => show 1 = Nat.min 1 K; exact (Nat.min_eq_left h1).symm
  case q2 =>
    intro j v hv
    try rw [add_of_none, Nat.zero_add]
    try rw [World.cell?_alloc_lt hb]
    match j with
    | 0 => injection hv with hv; rw [← hv]; exact hc
    | j + 1 => simp at hv
  case q3 => show 0 + 1 ≤ Z.length; rw [HZL.out]; omega
  case q4 => intro u hu; simp at hu; subst hu; rfl
  case q5 => exact (Below.refl _ _).alloc (Nat.le_refl _) _
  intro w2 hg2 hb2
  have hg3 : HasBlock w2 w1.heap.size ((repI 1 K).map (Value.int .i64)).toArray 3 := by
    have h := hg2.out
    rw [HS0.out] at h
    exact h
  clear hg2 hmk HS0 HZL
  have hz2 : w1.heap.size < w2.heap.size := hg3.lt
  obtain ⟨B, hB⟩ : ∃ B, w1.heap.size = B := ⟨_, rfl⟩
  rw [hB] at hg3 hz2 hb2 ⊢
  go_wp2_with fail
  go_loopw [8] (fun nv wr => ∃ k : Nat, 1 ≤ k ∧ k ≤ K ∧ nv = .int .i64 k ∧ HasBlock wr B ((repI k K).map (Value.int .i64)).toArray 3 ∧ Below B w1 wr) (fun nv _ => K - (intOf nv).toNat)
  case atStart => exact ⟨1, Nat.le_refl _, h1, rfl, hg3, hb2⟩
  case round =>
    clear hg3 hb2 hz2
    obtain ⟨k, hk1, hk2, rfl, hg, hbw⟩ := hrel
    by_cases hlt : k < K
    · obtain ⟨c, hcm⟩ : ∃ c, min k (K - k) = c := ⟨_, rfl⟩
      have hc1 : 0 < c ∧ k + c ≤ K ∧ c ≤ k := by omega
      have hmin : Nat.min k (K - k) = c := hcm
      have hsp := rep_splice (k := k) (c := c) (K := K) hc1.2.1
      have hdg := hg
      have hlz : ((repI k K).map (Value.int .i64)).length = K := by rw [List.length_map]; exact repI_len hk2
      have hll : ((List.replicate c (-1 : Int)).map (Value.int .i64)).length = c := by rw [List.length_map, List.length_replicate]
      have hsrc : ∀ i v, ((List.replicate c (-1 : Int)).map (Value.int .i64))[i]? = some v → wr.cell? ⟨B, i, none⟩ = some v := by
        intro i v hv
        have hi := lt_of_get hv
        rw [hll] at hi
        rw [hg.cell, List.getElem?_toArray, List.getElem?_map]
        rw [List.getElem?_map, List.getElem?_replicate, if_pos hi] at hv
        unfold repI
        rw [List.getElem?_append_left (by rw [List.length_replicate]; omega), List.getElem?_replicate, if_pos (by omega)]
        exact hv
      have hone : ∀ u ∈ (List.replicate c (-1 : Int)).map (Value.int .i64), u.oneCell' = true := by
        intro u hu
        rw [List.mem_map] at hu
        obtain ⟨x, _, rfl⟩ := hu
        rfl
      obtain ⟨Z, hZ⟩ : ∃ Z, (repI k K).map (Value.int .i64) = Z := ⟨_, rfl⟩
      obtain ⟨C, hC⟩ : ∃ C, (List.replicate c (-1 : Int)).map (Value.int .i64) = C := ⟨_, rfl⟩
      rw [hZ] at hg hlz hsp hdg
      rw [hC] at hll hsrc hone hsp
      have HG := Lib.hid hg; clear hg
      have HLZ := Lib.hid hlz; clear hlz
      have HSP := Lib.hid hsp; clear hsp
      have HLL := Lib.hid hll; clear hll
      have HSRC := Lib.hid hsrc; clear hsrc
      have HONE := Lib.hid hone; clear hone
      have HMIN := Lib.hid hmin; clear hmin hcm hZ hC hdg
      have i1 : (0 : Int) ≤ (k : Int) := by omega
      have i2 : (k : Int) ≤ (K : Int) := by omega
      have i3 : ¬ K = k := by omega
      have i4 : IntKind.i64.wrap ((k : Int) + (c : Int)) = (k : Int) + (c : Int) := IntWalk.i64_in _ (by omega)
      go_wp2_with fail
      have hgd : (wr.drew).heap[B]? = some (.cells Z.toArray 3 (0, 0)) := HG.out
      have HGD := Lib.hid hgd; clear hgd
      go_region_law (go_loud (
        refine step_copy_splice rfl (.tmp 41) (.tmp 44) 23 23 rfl 3 Try.underlying23 size_int (some ⟨B, k, none⟩) (some ⟨B, 0, none⟩) (K - k) (K - k) k K ?_ ?_ B k Z 3 HGD.out C ?_ ?_ ?_ HONE.out B wr ?_ (Nat.le_refl _) ?_
        · go_simp
        · go_simp
        · rw [HLL.out]; exact HMIN.out.symm
        · exact (fun h => ⟨rfl, _, rfl, fun i v hv => by rw [add_of_none, Nat.zero_add]; exact HSRC.out i v hv⟩)
        · rw [HLL.out, HLZ.out]; exact hc1.2.1
        · exact (Below.drew (Below.refl _ _))
        intro w4 hg4 hb4))
      all_goals
        rw [HLL.out, i4]
        go_simp
        go_wp2_with fail
        go_roundw
        case rel =>
          refine ⟨k + c, by omega, hc1.2.1, by go_num, ?_, hbw.trans hb4⟩
          have h := hg4.out
          rw [HSP.out] at h
          exact h
        case measure => simp [intOf]; omega
    · obtain rfl : k = K := by omega
      rw [repI_all] at hg
      go_wp2_with fail
      go_ret
      have hlen : (List.replicate k (-1 : Int)).length = k := List.length_replicate ..
      refine ⟨_, rfl, ?_, by rw [hB]; exact hbw⟩
      rw [hB]
      unfold OwnEnc
      rw [hlen]
      refine ⟨by rw [List.length_map, hlen, Nat.mul_one], .inr ⟨B, k, _, rfl, Nat.le_refl _, hg, Nat.le_refl _, by unfold maxLen; omega, by simp, ?_⟩⟩
      rw [Nat.mul_one]
      show ((List.replicate k (-1 : Int)).map (Value.int .i64)).take k = _
      exact List.take_of_length_le (by rw [List.length_map, hlen]; exact Nat.le_refl _)
/-! a pool of free frames -/
def freshF (n : Nat) : List ByteArray := List.replicate n ⟨#[]⟩
def freshR (n : Nat) : List Int := List.replicate n 0
def newOk (n : Int) : Bool := decide (1 ≤ n ∧ n ≤ 96)
def newPl (n : Int) : Pl := if newOk n then ⟨freshF n.toNat, freshR n.toNat, []⟩ else ⟨[], [], []⟩
def cellsF (n : Nat) : Array Value := ((freshF n).map Value.string).toArray
def cellsR (n : Nat) : Array Value := ((freshR n).map (Value.int .i64)).toArray
theorem makes_F (n : Nat) (hn : n ≤ 1000000) (w : World) : (Instr.makeSlice 22 (.int .i64 (n : Int)) (.int .i64 (n : Int))).run Try.prog w = .ok (.slice (some ⟨w.heap.size, 0, none⟩) n n) (w.alloc (.cells (cellsF n) 9)) := by
  unfold cellsF freshF
  rw [List.map_replicate]
  exact run_make_one (P := Try.prog) 22 9 (.string ⟨#[]⟩) 16 Try.underlying22 info_str rfl n (by omega) (by omega) w
theorem makes_R (n : Nat) (hn : n ≤ 1000000) (w : World) : (Instr.makeSlice 23 (.int .i64 (n : Int)) (.int .i64 (n : Int))).run Try.prog w = .ok (.slice (some ⟨w.heap.size, 0, none⟩) n n) (w.alloc (.cells (cellsR n) 3)) := by
  unfold cellsR freshR
  rw [List.map_replicate]
  exact run_make_one (P := Try.prog) 23 3 (.int .i64 0) 8 Try.underlying23 info_int rfl n (by omega) (by omega) w
theorem own_enc {α : Type} {enc : α → Value} {e : TypeId} {w : World} {base g n : Nat} {xs : List α} (h : HasBlock w g ((xs.map enc).toArray) e) (hx : xs.length = n) (hn : n ≤ 1000000) (hb : base ≤ g) : OwnEnc enc e base w (.slice (some ⟨g, 0, none⟩) n n) xs := by
  unfold OwnEnc
  rw [hx]
  refine ⟨by rw [List.length_map, hx, Nat.mul_one], .inr ⟨g, n, (xs.map enc).toArray, rfl, hb, h, Nat.le_refl _, by unfold maxLen; omega, by simp [hx], ?_⟩⟩
  rw [Nat.mul_one]
  show (xs.map enc).take n = _
  exact List.take_of_length_le (by rw [List.length_map, hx]; exact Nat.le_refl _)
theorem new_row {w w' : World} {gf gr n : Nat} (hF : HasBlock w' gf (cellsF n) 9) (hR : HasBlock w' gr (cellsR n) 3) (hn : n ≤ 96) (h1 : 1 ≤ n) (hb : Below w.heap.size w w') (hgf : w.heap.size ≤ gf := by omega) (hgr : w.heap.size ≤ gr := by omega) : RetPoolB (newPl n) (newOk n) w (.returned (.tuple #[.agg #[.slice (some ⟨gf, 0, none⟩) n n, .slice (some ⟨gr, 0, none⟩) n n, .slice none 0 0], .bool true])) w' := by
  have hok : newOk n = true := decide_eq_true ⟨by omega, by omega⟩
  have hp : newPl n = ⟨freshF n, freshR n, []⟩ := by unfold newPl; rw [if_pos hok, Int.toNat_natCast]
  have h2 : (freshF n).length = n := List.length_replicate ..
  have h3 : (freshR n).length = n := List.length_replicate ..
  have oF : OwnStr w.heap.size w' (.slice (some ⟨gf, 0, none⟩) n n) (freshF n) := own_enc hF h2 (by omega) hgf
  have oR : OwnNum w.heap.size w' (.slice (some ⟨gr, 0, none⟩) n n) (freshR n) := own_enc hR h3 (by omega) hgr
  have hrow : OwnP w.heap.size w' (.slice (some ⟨gf, 0, none⟩) n n) (.slice (some ⟨gr, 0, none⟩) n n) (.slice none 0 0) [] ⟨freshF n, freshR n, []⟩ := ⟨oF, oR, own_nil, OwnRows.nil _ _, fun i u hu => by simp at hu⟩
  rw [hp, hok]
  refine ⟨some ⟨gf, 0, none⟩, some ⟨gr, 0, none⟩, none, n, n, 0, [], ?_, ?_, hb⟩
  · simp only [h2, h3]; rfl
  · simp only [h2, h3]; exact hrow
theorem new_none {n : Int} {w w' : World} (h : newOk n = false) (hb : Below w.heap.size w w') : RetPoolB (newPl n) (newOk n) w (.returned (.tuple #[.agg #[.slice none 0 0, .slice none 0 0, .slice none 0 0], .bool false])) w' := by
  have hp : newPl n = ⟨[], [], []⟩ := by unfold newPl; rw [h]; rfl
  rw [hp, h]
  exact ⟨none, none, none, 0, 0, 0, [], rfl, ⟨own_nil, own_nil, own_nil, OwnRows.nil _ _, fun i u hu => by simp at hu⟩, hb⟩
set_option maxHeartbeats 2000000 in
theorem pnew_any_own (n : Int) (w : World) : Calls Try.prog 20 #[.int .i64 n] w (RetPoolB (newPl n) (newOk n) w) := by
  by_cases h1 : 1 ≤ n
  rotate_left
  · have hno : newOk n = false := decide_eq_false (fun h => h1 h.1)
    have HNO := Lib.hid hno; clear hno
    go_enter Try.func20, Try.ntmps20
    go_wp2_with fail
    refine bodyPost_ret (v := .tuple #[.agg #[.slice none 0 0, .slice none 0 0, .slice none 0 0], .bool false]) (by simp [results, Try.results20, go_sem]) rfl ?_
    exact new_none HNO.out (by repeat (first | with_reducible exact Below.refl _ _ | with_reducible refine Below.drew ?_ | (with_reducible refine Below.alloc ?_ (by first | exact Nat.le_refl _ | omega | (dsimp only; omega) | (simp only [sizes]; omega)) _) | (with_reducible refine Below.setCell ?_ (by first | exact Nat.le_refl _ | omega | (dsimp only; omega) | (simp only [sizes]; omega)) _) | (refine Below.trans ?_ (Below.mono (by with_reducible assumption) (by first | exact Nat.le_refl _ | omega | (dsimp only; omega) | (simp only [sizes]; omega))))))
  by_cases h2 : n ≤ 96
  rotate_left
  · have hno : newOk n = false := decide_eq_false (fun h => h2 h.2)
    have HNO := Lib.hid hno; clear hno
    go_enter Try.func20, Try.ntmps20
    go_wp2_with fail
    refine bodyPost_ret (v := .tuple #[.agg #[.slice none 0 0, .slice none 0 0, .slice none 0 0], .bool false]) (by simp [results, Try.results20, go_sem]) rfl ?_
    exact new_none HNO.out (by repeat (first | with_reducible exact Below.refl _ _ | with_reducible refine Below.drew ?_ | (with_reducible refine Below.alloc ?_ (by first | exact Nat.le_refl _ | omega | (dsimp only; omega) | (simp only [sizes]; omega)) _) | (with_reducible refine Below.setCell ?_ (by first | exact Nat.le_refl _ | omega | (dsimp only; omega) | (simp only [sizes]; omega)) _) | (refine Below.trans ?_ (Below.mono (by with_reducible assumption) (by first | exact Nat.le_refl _ | omega | (dsimp only; omega) | (simp only [sizes]; omega))))))
  obtain ⟨k, rfl⟩ : ∃ k : Nat, n = k := ⟨n.toNat, by omega⟩
  have mF := makes_F k (by omega)
  have mR := makes_R k (by omega)
  have hmF : ∀ W : World, HasBlock (W.alloc (.cells (cellsF k) 9)) W.heap.size (cellsF k) 9 := fun W => HasBlock.made W _ _
  have hmR : ∀ W : World, HasBlock (W.alloc (.cells (cellsR k) 3)) W.heap.size (cellsR k) 3 := fun W => HasBlock.made W _ _
  have HMF := Lib.hid hmF; clear hmF
  have HMR := Lib.hid hmR; clear hmR
  obtain ⟨CF, hCF⟩ : ∃ c, cellsF k = c := ⟨_, rfl⟩
  obtain ⟨CR, hCR⟩ : ∃ c, cellsR k = c := ⟨_, rfl⟩
  rw [hCF] at mF HMF
  rw [hCR] at mR HMR
  have HCF := Lib.hid hCF; clear hCF
  have HCR := Lib.hid hCR; clear hCR
  go_enter Try.func20, Try.ntmps20
  go_wp2_with fail
  go_region
  all_goals go_wp2_with fail
  · have q1 := (((HMF.out (w.alloc (.cells #[.slice (some ⟨w.heap.size + 1, 0, none⟩) k k, .slice (some ⟨w.heap.size + 1 + 1, 0, none⟩) k k, .slice none 0 0] 26))).alloc (.cells CR 3))).drew
    have q2 := (HMR.out ((w.alloc (.cells #[.slice (some ⟨w.heap.size + 1, 0, none⟩) k k, .slice (some ⟨w.heap.size + 1 + 1, 0, none⟩) k k, .slice none 0 0] 26)).alloc (.cells CF 9))).drew
    simp only [sizes] at q1 q2
    refine bodyPost_ret (v := .tuple #[.agg #[.slice (some ⟨w.heap.size + 1, 0, none⟩) k k, .slice (some ⟨w.heap.size + 1 + 1, 0, none⟩) k k, .slice none 0 0], .bool true]) (by simp [results, Try.results20, go_sem]) rfl ?_
    rw [← HCF.out, ← HCR.out] at q1 q2
    rw [← HCF.out, ← HCR.out]
    exact new_row q1 q2 (by omega) (by omega) (by repeat (first | with_reducible exact Below.refl _ _ | with_reducible refine Below.drew ?_ | (with_reducible refine Below.alloc ?_ (by first | exact Nat.le_refl _ | omega | (dsimp only; omega) | (simp only [sizes]; omega)) _) | (with_reducible refine Below.setCell ?_ (by first | exact Nat.le_refl _ | omega | (dsimp only; omega) | (simp only [sizes]; omega)) _) | (refine Below.trans ?_ (Below.mono (by with_reducible assumption) (by first | exact Nat.le_refl _ | omega | (dsimp only; omega) | (simp only [sizes]; omega))))))
  · have q1 := (((HMR.out (w.alloc (.cells #[.slice (some ⟨w.heap.size + 1 + 1, 0, none⟩) k k, .slice (some ⟨w.heap.size + 1, 0, none⟩) k k, .slice none 0 0] 26))).alloc (.cells CF 9))).drew
    have q2 := (HMF.out ((w.alloc (.cells #[.slice (some ⟨w.heap.size + 1 + 1, 0, none⟩) k k, .slice (some ⟨w.heap.size + 1, 0, none⟩) k k, .slice none 0 0] 26)).alloc (.cells CR 3))).drew
    simp only [sizes] at q1 q2
    refine bodyPost_ret (v := .tuple #[.agg #[.slice (some ⟨w.heap.size + 1 + 1, 0, none⟩) k k, .slice (some ⟨w.heap.size + 1, 0, none⟩) k k, .slice none 0 0], .bool true]) (by simp [results, Try.results20, go_sem]) rfl ?_
    rw [← HCF.out, ← HCR.out] at q1 q2
    rw [← HCF.out, ← HCR.out]
    exact new_row q2 q1 (by omega) (by omega) (by repeat (first | with_reducible exact Below.refl _ _ | with_reducible refine Below.drew ?_ | (with_reducible refine Below.alloc ?_ (by first | exact Nat.le_refl _ | omega | (dsimp only; omega) | (simp only [sizes]; omega)) _) | (with_reducible refine Below.setCell ?_ (by first | exact Nat.le_refl _ | omega | (dsimp only; omega) | (simp only [sizes]; omega)) _) | (refine Below.trans ?_ (Below.mono (by with_reducible assumption) (by first | exact Nat.le_refl _ | omega | (dsimp only; omega) | (simp only [sizes]; omega))))))
theorem pnew_any (n : Int) (w : World) : Calls Try.prog 20 #[.int .i64 n] w (RetPool2 (newPl n) (newOk n) w) := (pnew_any_own n w).mono fun _ _ h => h.two
set_option maxHeartbeats 2000000 in
theorem rnew_any_own (n : Int) (w : World) : Calls Try.prog 22 #[.int .i64 n] w (RetPoolB (newPl n) (newOk n) w) := by
  by_cases h1 : 1 ≤ n
  rotate_left
  · have hno : newOk n = false := decide_eq_false (fun h => h1 h.1)
    have HNO := Lib.hid hno; clear hno
    go_enter Try.func22, Try.ntmps22
    go_wp2_with fail
    refine bodyPost_ret (v := .tuple #[.agg #[.slice none 0 0, .slice none 0 0, .slice none 0 0], .bool false]) (by simp [results, Try.results22, go_sem]) rfl ?_
    exact new_none HNO.out (by repeat (first | with_reducible exact Below.refl _ _ | with_reducible refine Below.drew ?_ | (with_reducible refine Below.alloc ?_ (by first | exact Nat.le_refl _ | omega | (dsimp only; omega) | (simp only [sizes]; omega)) _) | (with_reducible refine Below.setCell ?_ (by first | exact Nat.le_refl _ | omega | (dsimp only; omega) | (simp only [sizes]; omega)) _) | (refine Below.trans ?_ (Below.mono (by with_reducible assumption) (by first | exact Nat.le_refl _ | omega | (dsimp only; omega) | (simp only [sizes]; omega))))))
  by_cases h2 : n ≤ 96
  rotate_left
  · have hno : newOk n = false := decide_eq_false (fun h => h2 h.2)
    have HNO := Lib.hid hno; clear hno
    go_enter Try.func22, Try.ntmps22
    go_wp2_with fail
    refine bodyPost_ret (v := .tuple #[.agg #[.slice none 0 0, .slice none 0 0, .slice none 0 0], .bool false]) (by simp [results, Try.results22, go_sem]) rfl ?_
    exact new_none HNO.out (by repeat (first | with_reducible exact Below.refl _ _ | with_reducible refine Below.drew ?_ | (with_reducible refine Below.alloc ?_ (by first | exact Nat.le_refl _ | omega | (dsimp only; omega) | (simp only [sizes]; omega)) _) | (with_reducible refine Below.setCell ?_ (by first | exact Nat.le_refl _ | omega | (dsimp only; omega) | (simp only [sizes]; omega)) _) | (refine Below.trans ?_ (Below.mono (by with_reducible assumption) (by first | exact Nat.le_refl _ | omega | (dsimp only; omega) | (simp only [sizes]; omega))))))
  obtain ⟨k, rfl⟩ : ∃ k : Nat, n = k := ⟨n.toNat, by omega⟩
  have mF := makes_F k (by omega)
  have mR := makes_R k (by omega)
  have hmF : ∀ W : World, HasBlock (W.alloc (.cells (cellsF k) 9)) W.heap.size (cellsF k) 9 := fun W => HasBlock.made W _ _
  have hmR : ∀ W : World, HasBlock (W.alloc (.cells (cellsR k) 3)) W.heap.size (cellsR k) 3 := fun W => HasBlock.made W _ _
  have HMF := Lib.hid hmF; clear hmF
  have HMR := Lib.hid hmR; clear hmR
  obtain ⟨CF, hCF⟩ : ∃ c, cellsF k = c := ⟨_, rfl⟩
  obtain ⟨CR, hCR⟩ : ∃ c, cellsR k = c := ⟨_, rfl⟩
  rw [hCF] at mF HMF
  rw [hCR] at mR HMR
  have HCF := Lib.hid hCF; clear hCF
  have HCR := Lib.hid hCR; clear hCR
  go_enter Try.func22, Try.ntmps22
  go_wp2_with fail
  go_region
  all_goals go_wp2_with fail
  · have q1 := (((HMF.out (w.alloc (.cells #[.slice (some ⟨w.heap.size + 1, 0, none⟩) k k, .slice (some ⟨w.heap.size + 1 + 1, 0, none⟩) k k, .slice none 0 0] 26))).alloc (.cells CR 3))).drew
    have q2 := (HMR.out ((w.alloc (.cells #[.slice (some ⟨w.heap.size + 1, 0, none⟩) k k, .slice (some ⟨w.heap.size + 1 + 1, 0, none⟩) k k, .slice none 0 0] 26)).alloc (.cells CF 9))).drew
    simp only [sizes] at q1 q2
    refine bodyPost_ret (v := .tuple #[.agg #[.slice (some ⟨w.heap.size + 1, 0, none⟩) k k, .slice (some ⟨w.heap.size + 1 + 1, 0, none⟩) k k, .slice none 0 0], .bool true]) (by simp [results, Try.results22, go_sem]) rfl ?_
    rw [← HCF.out, ← HCR.out] at q1 q2
    rw [← HCF.out, ← HCR.out]
    exact new_row q1 q2 (by omega) (by omega) (by repeat (first | with_reducible exact Below.refl _ _ | with_reducible refine Below.drew ?_ | (with_reducible refine Below.alloc ?_ (by first | exact Nat.le_refl _ | omega | (dsimp only; omega) | (simp only [sizes]; omega)) _) | (with_reducible refine Below.setCell ?_ (by first | exact Nat.le_refl _ | omega | (dsimp only; omega) | (simp only [sizes]; omega)) _) | (refine Below.trans ?_ (Below.mono (by with_reducible assumption) (by first | exact Nat.le_refl _ | omega | (dsimp only; omega) | (simp only [sizes]; omega))))))
  · have q1 := (((HMR.out (w.alloc (.cells #[.slice (some ⟨w.heap.size + 1 + 1, 0, none⟩) k k, .slice (some ⟨w.heap.size + 1, 0, none⟩) k k, .slice none 0 0] 26))).alloc (.cells CF 9))).drew
    have q2 := (HMF.out ((w.alloc (.cells #[.slice (some ⟨w.heap.size + 1 + 1, 0, none⟩) k k, .slice (some ⟨w.heap.size + 1, 0, none⟩) k k, .slice none 0 0] 26)).alloc (.cells CR 3))).drew
    simp only [sizes] at q1 q2
    refine bodyPost_ret (v := .tuple #[.agg #[.slice (some ⟨w.heap.size + 1 + 1, 0, none⟩) k k, .slice (some ⟨w.heap.size + 1, 0, none⟩) k k, .slice none 0 0], .bool true]) (by simp [results, Try.results22, go_sem]) rfl ?_
    rw [← HCF.out, ← HCR.out] at q1 q2
    rw [← HCF.out, ← HCR.out]
    exact new_row q2 q1 (by omega) (by omega) (by repeat (first | with_reducible exact Below.refl _ _ | with_reducible refine Below.drew ?_ | (with_reducible refine Below.alloc ?_ (by first | exact Nat.le_refl _ | omega | (dsimp only; omega) | (simp only [sizes]; omega)) _) | (with_reducible refine Below.setCell ?_ (by first | exact Nat.le_refl _ | omega | (dsimp only; omega) | (simp only [sizes]; omega)) _) | (refine Below.trans ?_ (Below.mono (by with_reducible assumption) (by first | exact Nat.le_refl _ | omega | (dsimp only; omega) | (simp only [sizes]; omega))))))
theorem rnew_any (n : Int) (w : World) : Calls Try.prog 22 #[.int .i64 n] w (RetPool2 (newPl n) (newOk n) w) := (rnew_any_own n w).mono fun _ _ h => h.two
end Go.Proofs.Ytjoopjgpjkmmhaa
