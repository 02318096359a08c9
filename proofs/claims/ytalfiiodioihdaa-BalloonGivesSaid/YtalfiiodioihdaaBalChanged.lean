/-
  The pages that differ, walked.
-/
import Derived.Test.YtalfiiodioihdaaBalPage
namespace Go.Proofs.Ytalfiiodioihdaa
open Go.RowKit

def SameI (xs ys : List Int) (k : Nat) : Prop := ∀ i, i < k → xs[i]? = ys[i]?
theorem SameI.eq {xs ys : List Int} (h : SameI xs ys xs.length) (hl : xs.length = ys.length) : xs = ys := by
  apply List.ext_getElem?
  intro i
  by_cases hi : i < xs.length
  · exact h i hi
  · rw [List.getElem?_eq_none (by omega), List.getElem?_eq_none (by omega)]
theorem SameI.step {xs ys : List Int} {k : Nat} {x : Int} (h : SameI xs ys k) (hx : xs[k]? = some x) (hy : ys[k]? = some x) : SameI xs ys (k + 1) := by
  intro i hi
  by_cases e : i = k
  · rw [e, hx, hy]
  · exact h i (by omega)
set_option maxHeartbeats 1000000 in
theorem sameWords_any (va vb : Value) (xs ys : List Int) (w : World) (ha : MemRow w va xs) (hb : MemRow w vb ys) (hl : xs.length = ys.length) (hn : xs.length ≤ 1024) : Calls Try.prog 18 #[va, vb] w (Ret w (.bool (decide (xs = ys)))) := by
  obtain ⟨b, off, cap, rfl, h1, h2, h0, h3, h4⟩ := ha
  obtain ⟨b', off', cap', rfl, h1', h2', _, h3', h4'⟩ := hb
  obtain ⟨n, hn'⟩ : ∃ n, xs.length = n := ⟨_, rfl⟩
  rw [← hl] at h1' ⊢
  rw [hn'] at h0 h1 h1' hn hl ⊢
  have HL := Lib.hid hl; clear hl
  have HN := Lib.hid hn'; clear hn'
  have H4 := Lib.hid h4; clear h4
  have H4' := Lib.hid h4'; clear h4'
  clear h2 h2'
  go_enter Try.func18, Try.ntmps18
  go_wp2_with fail
  go_loopw [5] (fun i wr => ∃ k : Nat, k ≤ n ∧ i = .int .i64 k ∧ SameI xs ys k ∧ Below w.heap.size w wr) (fun i _ => n - (intOf i).toNat)
  case atStart => exact ⟨0, Nat.zero_le _, rfl, fun i hi => absurd hi (Nat.not_lt_zero _), (by repeat (first | with_reducible exact Below.refl _ _ | with_reducible refine Below.drew ?_ | (with_reducible refine Below.alloc ?_ (by first | exact Nat.le_refl _ | omega | (simp only [sizes]; omega)) _) | (with_reducible refine Below.setCell ?_ (by first | exact Nat.le_refl _ | omega | (simp only [sizes]; omega)) _) | (refine Below.trans ?_ (Below.mono (by with_reducible assumption) (by first | exact Nat.le_refl _ | omega | (simp only [sizes]; omega))))))⟩
  case round =>
    obtain ⟨k, hk, rfl, hsame, hbw⟩ := hrel
    by_cases hlt : k < n
    · obtain ⟨x, hx⟩ := get_lt (xs := xs) (k := k) (by rw [HN.out]; exact hlt)
      obtain ⟨y, hy⟩ := get_lt (xs := ys) (k := k) (by rw [← HL.out]; exact hlt)
      have hc := (hbw.cell (p := ⟨b, off + k, none⟩) h3).trans (H4.out k x hx)
      have hc' := (hbw.cell (p := ⟨b', off' + k, none⟩) h3').trans (H4'.out k y hy)
      have hs1 := hbw.size
      have hs2 : b < wr.heap.size := by omega
      have hs3 : b' < wr.heap.size := by omega
      have HX := Lib.hid hx; clear hx
      have HY := Lib.hid hy; clear hy
      by_cases hxy : (x == y) = true
      · have hxy' : (x != y) = false := by simp only [bne, hxy, Bool.not_true]
        go_wp2_with fail
        refine wp_region_quiet_below (by kernel_rfl) (by kernel_rfl) ?_
        repeat (go_big_quiet_step (first | fail | fail))
        refine wpQuiet_nil ?_
        intro w1 hw1
        have hb1 := below_of_regrown hw1
        clear hw1
        obtain ⟨hc1, hf1⟩ := bcell hb1
        have hz1 := bsize hb1
        try simp only [sizes1] at hz1
        try simp only [sizes] at hc1 hf1
        go_wp2_with fail
        go_roundw
        case rel => exact ⟨k + 1, by omega, by go_num, hsame.step HX.out (by rw [HY.out, beq_iff_eq.1 hxy]), (by repeat (first | with_reducible exact Below.refl _ _ | with_reducible refine Below.drew ?_ | (with_reducible refine Below.alloc ?_ (by first | exact Nat.le_refl _ | omega | (simp only [sizes]; omega)) _) | (with_reducible refine Below.setCell ?_ (by first | exact Nat.le_refl _ | omega | (simp only [sizes]; omega)) _) | (refine Below.trans ?_ (Below.mono (by with_reducible assumption) (by first | exact Nat.le_refl _ | omega | (simp only [sizes]; omega))))))⟩
        case measure => simp [intOf]; omega
      · have hxy1 : (x == y) = false := by simpa using hxy
        have hxy' : (x != y) = true := by simp only [bne, hxy1, Bool.not_false]
        go_wp2_with fail
        refine wp_region_quiet_below (by kernel_rfl) (by kernel_rfl) ?_
        repeat (go_big_quiet_step (first | fail | fail))
        refine wpQuiet_nil ?_
        intro w1 hw1
        have hb1 := below_of_regrown hw1
        clear hw1
        obtain ⟨hc1, hf1⟩ := bcell hb1
        have hz1 := bsize hb1
        try simp only [sizes1] at hz1
        try simp only [sizes] at hc1 hf1
        go_wp2_with fail
        go_ret
        exact Ret.mk' (congrArg Value.bool (by
          symm
          apply decide_eq_false
          rintro rfl
          have e1 := HX.out
          rw [HY.out] at e1
          simp at e1
          simp [e1] at hxy1)) (by repeat (first | with_reducible exact Below.refl _ _ | with_reducible refine Below.drew ?_ | (with_reducible refine Below.alloc ?_ (by first | exact Nat.le_refl _ | omega | (simp only [sizes]; omega)) _) | (with_reducible refine Below.setCell ?_ (by first | exact Nat.le_refl _ | omega | (simp only [sizes]; omega)) _) | (refine Below.trans ?_ (Below.mono (by with_reducible assumption) (by first | exact Nat.le_refl _ | omega | (simp only [sizes]; omega))))))
    · obtain rfl : k = n := by omega
      go_wp2_with fail
      go_ret
      exact Ret.mk' (congrArg Value.bool (by
        symm
        apply decide_eq_true
        refine SameI.eq ?_ (HN.out.trans HL.out)
        rw [HN.out]; exact hsame)) (by repeat (first | with_reducible exact Below.refl _ _ | with_reducible refine Below.drew ?_ | (with_reducible refine Below.alloc ?_ (by first | exact Nat.le_refl _ | omega | (simp only [sizes]; omega)) _) | (with_reducible refine Below.setCell ?_ (by first | exact Nat.le_refl _ | omega | (simp only [sizes]; omega)) _) | (refine Below.trans ?_ (Below.mono (by with_reducible assumption) (by first | exact Nat.le_refl _ | omega | (simp only [sizes]; omega))))))

def pageOf (xs : List Int) (k : Nat) : List Int := (xs.drop (k * 32)).take 32
def chL (xs ys : List Int) : Nat → List Int
  | 0 => []
  | k + 1 => if pageOf xs k = pageOf ys k then chL xs ys k else chL xs ys k ++ [(k : Int)]
theorem pageOf_len {xs : List Int} {k : Nat} (h : k * 32 + 32 ≤ xs.length) : (pageOf xs k).length = 32 := by
  unfold pageOf
  rw [List.length_take, List.length_drop]; omega
theorem MemRow.page {w : World} {b off cap n : Nat} {xs : List Int} {k : Nat} (hn : xs.length = n) (h : MemRow w (.slice (some ⟨b, off, none⟩) n cap) xs) (hk : k * 32 + 32 ≤ n) : MemRow w (.slice (some ⟨b, off + k * 32, none⟩) 32 (cap - k * 32)) (pageOf xs k) := by
  obtain ⟨b', off', cap', hv, h1, h2, h0, h3, h4⟩ := h
  injection hv with e1 e2 e3
  injection e1 with e1
  injection e1 with e4 e5
  subst e4 e5 e3
  have hl := pageOf_len (xs := xs) (k := k) (by omega)
  refine ⟨b, off + k * 32, cap - k * 32, by rw [hl], by omega, by omega, by omega, h3, fun i x hx => ?_⟩
  unfold pageOf at hx
  have hi := lt_of_get hx
  rw [List.getElem?_take] at hx
  split at hx
  · rw [List.getElem?_drop] at hx
    rw [Nat.add_assoc]
    exact h4 _ x hx
  · cases hx
theorem one_int (x : Int) : ∀ u ∈ [Value.int .i64 x], u.oneCell' = true := by
  intro u hu
  rw [List.mem_singleton] at hu
  rw [hu]
  rfl
theorem chL_le (xs ys : List Int) (k : Nat) : (chL xs ys k).length ≤ k := by
  induction k with
  | zero => exact Nat.le_refl _
  | succ k ih =>
    unfold chL
    split
    · omega
    · rw [List.length_append, List.length_singleton]; omega
theorem chL_same {xs ys : List Int} {k : Nat} (h : decide (pageOf xs k = pageOf ys k) = true) : chL xs ys (k + 1) = chL xs ys k := by
  rw [chL, if_pos (of_decide_eq_true h)]
theorem chL_diff {xs ys : List Int} {k : Nat} (h : decide (pageOf xs k = pageOf ys k) = false) : chL xs ys (k + 1) = chL xs ys k ++ [(k : Int)] := by
  rw [chL, if_neg (of_decide_eq_false h)]
set_option maxHeartbeats 2000000 in
theorem changed_any (va vb : Value) (xs ys : List Int) (w : World) (ha : MemRow w va xs) (hb : MemRow w vb ys) (hl : ys.length = xs.length) (hn : xs.length ≤ 1024) (hm : xs.length % 32 = 0) : Calls Try.prog 13 #[va, vb] w (fun e w' => ∃ v, e = .returned v ∧ IntRow w' v (chL xs ys (xs.length / 32)) ∧ Below w.heap.size w w') := by
  have hra := ha
  have hrb := hb
  obtain ⟨b, off, cap, rfl, h1, h2, h0, h3, h4⟩ := ha
  obtain ⟨b', off', cap', rfl, h1', h2', _, h3', h4'⟩ := hb
  rw [hl] at h1' hrb ⊢
  clear h4 h4' h2 h2'
  obtain ⟨n, hn'⟩ : ∃ n, xs.length = n := ⟨_, rfl⟩
  rw [hn'] at h0 h1 h1' hn hl hm hra hrb ⊢
  have HL := Lib.hid hl; clear hl
  have HN := Lib.hid hn'; clear hn'
  have HA := Lib.hid hra; clear hra
  have HB := Lib.hid hrb; clear hrb
  have P := fun w => rpages_any (some ⟨b, off, none⟩) n cap w (by omega)
  have hq : pagesN n = n / 32 := by unfold pagesN; rw [if_pos ⟨hm, hn⟩]
  rw [hq] at P
  obtain ⟨q, hqq⟩ : ∃ q, n / 32 = q := ⟨_, rfl⟩
  rw [hqq] at P ⊢
  have hq2 : q * 32 = n := by omega
  have HQ2 := Lib.hid hq2
  have hq3 : q ≤ 32 := by omega
  have HP := Lib.hid P; clear P hq hqq hm hq2
  obtain ⟨i0, hi, iz0, iz1, iz2⟩ := info_parts info_int
  go_enter Try.func13, Try.ntmps13
  go_wp2_with fail
  go_loopw [5, 6] (fun v i wr => ∃ k : Nat, k ≤ q ∧ i = .int .i64 k ∧ wr.ownsRow w.heap.size 3 1 v (chL xs ys k).length ((chL xs ys k).map (Value.int .i64)) ∧ Below w.heap.size w wr) (fun _ i _ => q - (intOf i).toNat)
  case atStart => exact ⟨0, Nat.zero_le _, rfl, World.ownsRow_nil _ _ _ _, (by repeat (first | with_reducible exact Below.refl _ _ | with_reducible refine Below.drew ?_ | (with_reducible refine Below.alloc ?_ (by first | exact Nat.le_refl _ | omega | (simp only [sizes]; omega)) _) | (with_reducible refine Below.setCell ?_ (by first | exact Nat.le_refl _ | omega | (simp only [sizes]; omega)) _) | (refine Below.trans ?_ (Below.mono (by with_reducible assumption) (by first | exact Nat.le_refl _ | omega | (simp only [sizes]; omega))))))⟩
  case round =>
    obtain ⟨k, hk, rfl, hown, hbw⟩ := hrel
    have hbs0 := hbw.size
    have HO := Lib.hid hown; clear hown
    by_cases hlt : k < q
    · have hfit : k * 32 + 32 ≤ n := by have := HQ2.out; omega
      have S := fun wx hbx => sameWords_any _ _ _ _ wx (MemRow.page HN.out (HA.out.below hbx) hfit) (MemRow.page HL.out (HB.out.below hbx) hfit) (by rw [pageOf_len (by rw [HN.out]; exact hfit), pageOf_len (by rw [HL.out]; exact hfit)]) (by rw [pageOf_len (by rw [HN.out]; exact hfit)]; omega)
      have e32 : (k + 1) * 32 - k * 32 = 32 := by omega
      have hcl := chL_le xs ys k
      obtain ⟨dd, hdd⟩ : ∃ d, decide (pageOf xs k = pageOf ys k) = d := ⟨_, rfl⟩
      rw [hdd] at S
      have HS := Lib.hid S; clear S
      have HD := Lib.hid hdd; clear hdd
      obtain ⟨L, hL⟩ : ∃ L, (chL xs ys k).length = L := ⟨_, rfl⟩
      rw [hL] at HO hcl
      have HLL := Lib.hid hL; clear hL
      cases dd
      · go_wp2_with fail
        refine (HP.out _).mono ?_
        rintro e w1 ⟨rfl, hb1⟩
        obtain ⟨hc1, hf1⟩ := bcell hb1
        have hz1 := bsize hb1
        try simp only [sizes1] at hz1
        try simp only [sizes] at hc1 hf1
        have hbw1 : Below w.heap.size w w1 := hbw.trans (hb1.mono hbw.size)
        have HO1 := Lib.hid (owns_below HO.out hb1)
        clear hb1 hbw hc1 hf1
        go_wp2_with fail
        refine wp_region_quiet_below (by kernel_rfl) (by kernel_rfl) ?_
        repeat (go_big_quiet_step (first | fail | (go_at_call 18; exact quiet_ret (HS.out _ (hbw1.trans ((below_regrown _ _ _).mono hbw1.size))))))
        refine wpQuiet_nil ?_
        intro w2 hw2
        have hb2 := below_of_regrown hw2
        clear hw2
        obtain ⟨hc2, hf2⟩ := bcell hb2
        have hz2 := bsize hb2
        try simp only [sizes1] at hz2
        try simp only [sizes] at hc2 hf2
        have HO2 := Lib.hid (owns_below HO1.out hb2)
        have hbw2 : Below w.heap.size w w2 := hbw1.trans (hb2.mono hbw1.size)
        clear hb2 hbw1 hc2 hf2 e32 HO1
        have hs2 := hbw2.size
        go_wp2_with (at_builtin; refine wpList_append_own _ rfl (.tmp 34) (.tmp 36) 30 rfl w.heap.size 3 i0 (.int .i64 0) 1 8 Try.underlying30 hi iz0 iz1 iz2 rfl (by decide) _ L ((chL xs ys k).map (Value.int .i64)) rfl (HO2.out.alloc _) ⟨w2.heap.size, 0, none⟩ 1 1 [Value.int .i64 k] rfl rfl (cells_made _ [Value.int .i64 k] _ _ (by first | rfl | simp only [sizes])) (one_int _) (by unfold maxLen; omega) (by omega) (by first | exact Nat.le_refl _ | omega | (simp only [sizes]; omega)) ?_; intro v3 w3 hown3 hgrow3 _; have hb3 := below_append (by repeat (first | with_reducible exact Below.refl _ _ | with_reducible refine Below.drew ?_ | (with_reducible refine Below.alloc ?_ (by first | exact Nat.le_refl _ | omega | (simp only [sizes]; omega)) _) | (with_reducible refine Below.setCell ?_ (by first | exact Nat.le_refl _ | omega | (simp only [sizes]; omega)) _) | (refine Below.trans ?_ (Below.mono (by with_reducible assumption) (by first | exact Nat.le_refl _ | omega | (simp only [sizes]; omega)))))) (HO2.out.alloc _) hgrow3; have hz3 := hb3.size)
        go_wp2_with fail
        go_roundw
        case rel =>
          refine ⟨k + 1, by omega, by go_num, ?_, hb3⟩
          rw [chL_diff HD.out, List.length_append, List.map_append, HLL.out]
          exact hown3
        case measure => simp [intOf]; omega
      · go_wp2_with fail
        refine (HP.out _).mono ?_
        rintro e w1 ⟨rfl, hb1⟩
        obtain ⟨hc1, hf1⟩ := bcell hb1
        have hz1 := bsize hb1
        try simp only [sizes1] at hz1
        try simp only [sizes] at hc1 hf1
        have hbw1 : Below w.heap.size w w1 := hbw.trans (hb1.mono hbw.size)
        have HO1 := Lib.hid (owns_below HO.out hb1)
        clear hb1 hbw hc1 hf1
        go_wp2_with fail
        refine wp_region_quiet_below (by kernel_rfl) (by kernel_rfl) ?_
        repeat (go_big_quiet_step (first | fail | (go_at_call 18; exact quiet_ret (HS.out _ (hbw1.trans ((below_regrown _ _ _).mono hbw1.size))))))
        refine wpQuiet_nil ?_
        intro w2 hw2
        have hb2 := below_of_regrown hw2
        clear hw2
        obtain ⟨hc2, hf2⟩ := bcell hb2
        have hz2 := bsize hb2
        try simp only [sizes1] at hz2
        try simp only [sizes] at hc2 hf2
        have HO2 := Lib.hid (owns_below HO1.out hb2)
        have hbw2 : Below w.heap.size w w2 := hbw1.trans (hb2.mono hbw1.size)
        clear hb2 hbw1 hc2 hf2 e32 HO1
        have hs2 := hbw2.size
        go_wp2_with fail
        go_roundw
        case rel =>
          refine ⟨k + 1, by omega, by go_num, ?_, hbw2⟩
          rw [chL_same HD.out, HLL.out]
          exact HO2.out
        case measure => simp [intOf]; omega
    · obtain rfl : k = q := by omega
      go_wp2_with fail
      refine (HP.out _).mono ?_
      rintro e w1 ⟨rfl, hb1⟩
      obtain ⟨hc1, hf1⟩ := bcell hb1
      have hz1 := bsize hb1
      try simp only [sizes1] at hz1
      try simp only [sizes] at hc1 hf1
      clear hc1 hf1
      go_wp2_with fail
      go_ret
      exact ⟨_, rfl, RowAt.of_owns (owns_below HO.out hb1), (by repeat (first | with_reducible exact Below.refl _ _ | with_reducible refine Below.drew ?_ | (with_reducible refine Below.alloc ?_ (by first | exact Nat.le_refl _ | omega | (simp only [sizes]; omega)) _) | (with_reducible refine Below.setCell ?_ (by first | exact Nat.le_refl _ | omega | (simp only [sizes]; omega)) _) | (refine Below.trans ?_ (Below.mono (by with_reducible assumption) (by first | exact Nat.le_refl _ | omega | (simp only [sizes]; omega))))))⟩
end Go.Proofs.Ytalfiiodioihdaa
