/-
  The law on what all functions return, walked.
-/
import Derived.Test.YtfomfokgibijjaaMirAwake
import Derived.Deep.Cut
import Derived.Deep.RegionHeld3
import Derived.Deep.CutRange
namespace Go.Proofs.Ytfomfokgibijjaa
open Go.RowKit

theorem mirRow {w : World} {S T : List ByteArray} {c : Int} {vs vt : Value} (h1 : StrRow w vs S) (h2 : StrRow w vt T) : MirRow w S T c (.agg #[vs, vt, .int .i64 c]) := ⟨vs, vt, rfl, h1, h2⟩
theorem Below.step {w0 w w' : World} (h : Below w0.heap.size w0 w) (hb : Below w.heap.size w w') : Below w0.heap.size w0 w' := h.trans (hb.mono h.size)
set_option maxRecDepth 100000 in
set_option maxHeartbeats 8000000 in
theorem tells_any (vs vt : Value) (S T : List ByteArray) (c q b : Int) (d : ByteArray) (w : World) (ha : StrRow w vs S) (hb : StrRow w vt T) (hc : -9223372036854775808 ≤ c ∧ c ≤ 9223372036854775807) (hq : -9223372036854775808 ≤ q ∧ q ≤ 9223372036854775807) (hd : d.size ≤ 9223372036854775807) : Calls Try.prog 3 #[.agg #[vs, vt, .int .i64 c], .int .i64 q, .int .i64 b, .string d] w (Ret w (.bool true)) := by
  have HA := Lib.hid ha
  have HB := Lib.hid hb
  obtain ⟨ao, ca, rfl, a1, a2, a3⟩ := ha.out
  obtain ⟨bo, cb, rfl, b1, b2, b3⟩ := hb.out
  clear ha hb a3 b3
  obtain ⟨n, hn⟩ : ∃ n, S.length = n := ⟨_, rfl⟩
  obtain ⟨m, hm⟩ : ∃ n, T.length = n := ⟨_, rfl⟩
  rw [hn] at a1 HA ⊢
  rw [hm] at b1 HB ⊢
  have HN := Lib.hid hn; clear hn
  have HM := Lib.hid hm; clear hm
  have BG := fun w h hs => begin_any (.slice ao n ca) S w h hs
  have RBG := fun w h hs => rbegin_any (.slice ao n ca) S w h hs
  have WR := fun w h1 h2 hs ht => write_any (.slice ao n ca) (.slice bo m cb) S T c b d w h1 h2 hc hs ht
  have RWR := fun w h1 h2 => rwrite_any (.slice ao n ca) (.slice bo m cb) S T c b d w h1 h2 hc
  have SW := fun w h1 h2 => switch_any (.slice ao n ca) (.slice bo m cb) S T c w h1 h2 hc
  have DN := fun w h1 h2 => done_any (.slice ao n ca) (.slice bo m cb) S T c w h1 h2 hc
  have RDN := fun w h1 h2 => rdone_any (.slice ao n ca) (.slice bo m cb) S T c w h1 h2 hc
  have VA := fun w h1 h2 => valid_any (.slice ao n ca) (.slice bo m cb) S T c w h1 h2 hc
  have RVA := fun w h1 h2 => rvalid_any (.slice ao n ca) (.slice bo m cb) S T c w h1 h2 hc
  have CP := fun w h1 h2 hs ht => copy_mir (.slice ao n ca) (.slice bo m cb) S T c q w h1 h2 hc hs ht hq
  have RCP := fun w h1 h2 => rcopy_any (.slice ao n ca) (.slice bo m cb) S T c q w h1 h2 hc hq
  obtain ⟨A1, hA1⟩ : ∃ x, begS S = x := ⟨_, rfl⟩
  obtain ⟨A2, hA2⟩ : ∃ x, begT S = x := ⟨_, rfl⟩
  obtain ⟨bk, hbk⟩ : ∃ x, begB S = x := ⟨_, rfl⟩
  obtain ⟨W1, hW1⟩ : ∃ x, wS S T c b d = x := ⟨_, rfl⟩
  obtain ⟨W2, hW2⟩ : ∃ x, wT S T c b d = x := ⟨_, rfl⟩
  obtain ⟨gw, hgw⟩ : ∃ x, goodW S T c b d = x := ⟨_, rfl⟩
  obtain ⟨dn, hdn⟩ : ∃ x, doneB S T c = x := ⟨_, rfl⟩
  obtain ⟨vb, hvb⟩ : ∃ x, validB S T c = x := ⟨_, rfl⟩
  obtain ⟨C1, hC1⟩ : ∃ x, cpT S T c q = x := ⟨_, rfl⟩
  obtain ⟨cc, hcc⟩ : ∃ x, cpC S T c q = x := ⟨_, rfl⟩
  rw [hA1, hA2, hbk] at BG RBG
  rw [hW1, hW2, hgw] at WR RWR
  rw [hdn] at SW DN RDN
  rw [hvb] at VA RVA
  rw [hC1, hcc] at CP RCP
  clear hA1 hA2 hbk hW1 hW2 hgw hdn hvb hC1 hcc
  have HBG := Lib.hid BG; clear BG
  have HRBG := Lib.hid RBG; clear RBG
  have HWR := Lib.hid WR; clear WR
  have HRWR := Lib.hid RWR; clear RWR
  have HSW := Lib.hid SW; clear SW
  have HDN := Lib.hid DN; clear DN
  have HRDN := Lib.hid RDN; clear RDN
  have HVA := Lib.hid VA; clear VA
  have HRVA := Lib.hid RVA; clear RVA
  have HCP := Lib.hid CP; clear CP
  have HRCP := Lib.hid RCP; clear RCP
  have hb0 : Below w.heap.size w (w.alloc (.cells #[.slice ao n ca, .slice bo m cb, .int .i64 c] 24)) := (by repeat (first | with_reducible exact Below.refl _ _ | with_reducible refine Below.drew ?_ | (with_reducible refine Below.alloc ?_ (by first | exact Nat.le_refl _ | omega | (simp only [sizes]; omega)) _) | (with_reducible refine Below.setCell ?_ (by first | exact Nat.le_refl _ | omega | (simp only [sizes]; omega)) _) | (refine Below.trans ?_ (Below.mono (by with_reducible assumption) (by first | exact Nat.le_refl _ | omega | (simp only [sizes]; omega))))))
  have D0 := HasBlock.made w #[.slice ao n ca, .slice bo m cb, .int .i64 c] 24
  go_enter Try.func3, Try.ntmps3
  go_wp2_with fail
  refine (light_any _ S _ (HA.out.below hb0)).mono ?_
  rintro e w1 ⟨l1, rfl, hl1, hb1⟩
  have D1 := D0.below hb1
  have hbw1 := hb0.trans (hb1.mono hb0.size)
  clear hb1 hb0 D0
  have x0 := (D1.cell 0).trans rfl
  have x1 := (D1.cell 1).trans rfl
  have x2 := (D1.cell 2).trans rfl
  have xf := D1.free
  have xz := D1.lt
  cases l1
  · go_wp2_with fail
    refine (awake_any _).mono ?_
    rintro e w9 ⟨rfl, hb9⟩
    go_wp2_with fail
    go_ret
    exact Ret.mk (by repeat (first | with_reducible exact Below.refl _ _ | with_reducible refine Below.drew ?_ | (with_reducible refine Below.alloc ?_ (by first | exact Nat.le_refl _ | omega | (dsimp only; omega) | (simp only [sizes]; omega)) _) | (with_reducible refine Below.setCell ?_ (by first | exact Nat.le_refl _ | omega | (dsimp only; omega) | (simp only [sizes]; omega)) _) | (refine Below.trans ?_ (Below.mono (by with_reducible assumption) (by first | exact Nat.le_refl _ | omega | (dsimp only; omega) | (simp only [sizes]; omega))))))
  have hs := hl1 rfl
  rw [HN.out] at hs
  clear hl1
  go_wp2_with fail
  refine (light_any _ T _ (HB.out.below hbw1)).mono ?_
  rintro e w2 ⟨l2, rfl, hl2, hb2⟩
  have D2 := D1.below hb2
  have hbw2 := hbw1.trans (hb2.mono hbw1.size)
  clear hb2 hbw1 D1
  clear x0 x1 x2 xf xz
  have x0 := (D2.cell 0).trans rfl
  have x1 := (D2.cell 1).trans rfl
  have x2 := (D2.cell 2).trans rfl
  have xf := D2.free
  have xz := D2.lt
  cases l2
  · go_wp2_with fail
    refine (awake_any _).mono ?_
    rintro e w9 ⟨rfl, hb9⟩
    go_wp2_with fail
    go_ret
    exact Ret.mk (by repeat (first | with_reducible exact Below.refl _ _ | with_reducible refine Below.drew ?_ | (with_reducible refine Below.alloc ?_ (by first | exact Nat.le_refl _ | omega | (dsimp only; omega) | (simp only [sizes]; omega)) _) | (with_reducible refine Below.setCell ?_ (by first | exact Nat.le_refl _ | omega | (dsimp only; omega) | (simp only [sizes]; omega)) _) | (refine Below.trans ?_ (Below.mono (by with_reducible assumption) (by first | exact Nat.le_refl _ | omega | (dsimp only; omega) | (simp only [sizes]; omega))))))
  have ht := hl2 rfl
  rw [HM.out] at ht
  clear hl2
  by_cases h300 : 300 < d.size
  · go_wp2_with fail
    refine (awake_any _).mono ?_
    rintro e w9 ⟨rfl, hb9⟩
    go_wp2_with fail
    go_ret
    exact Ret.mk (by repeat (first | with_reducible exact Below.refl _ _ | with_reducible refine Below.drew ?_ | (with_reducible refine Below.alloc ?_ (by first | exact Nat.le_refl _ | omega | (dsimp only; omega) | (simp only [sizes]; omega)) _) | (with_reducible refine Below.setCell ?_ (by first | exact Nat.le_refl _ | omega | (dsimp only; omega) | (simp only [sizes]; omega)) _) | (refine Below.trans ?_ (Below.mono (by with_reducible assumption) (by first | exact Nat.le_refl _ | omega | (dsimp only; omega) | (simp only [sizes]; omega))))))
  have D := D2; clear D2
  go_wp2_with fail
  with_reducible refine (HBG.out _ (HA.out.below hbw2) (by rw [HN.out]; omega)).mono ?_
  rintro e w3 ⟨v3, rfl, hr3, hb3⟩
  obtain ⟨po, pp, pk, pl, rfl, r1, r2⟩ := hr3.form
  clear hr3 x0 x1 x2 xf xz
  replace D := D.below hb3
  have hbw3 := hbw2.trans (hb3.mono hbw2.size)
  clear hbw2 hb3
  have x0 := (D.cell 0).trans rfl
  have x1 := (D.cell 1).trans rfl
  have x2 := (D.cell 2).trans rfl
  have xf := D.free
  have xz := D.lt
  go_wp2_with fail
  clear x0 x1 x2 xf xz
  have hb4 : Below w3.heap.size w3 (w3.alloc (.cells #[.slice po A1.length pk, .slice pp A2.length pl, .int .i64 0] 24)) := (Below.refl _ _).alloc (Nat.le_refl _) _
  have Dp := HasBlock.made w3 #[.slice po A1.length pk, .slice pp A2.length pl, .int .i64 0] 24
  replace D := D.below hb4
  have pr1 := r1.below hb4
  have pr2 := r2.below hb4
  clear r1 r2
  have hbw4 := hbw3.trans (hb4.mono hbw3.size)
  have hz3 := hbw3.size
  clear hbw3 hb4
  obtain ⟨Bp, hB⟩ : ∃ B, w3.heap.size = B := ⟨_, rfl⟩
  rw [hB] at Dp hz3 ⊢
  generalize hW : w3.alloc (.cells #[.slice po A1.length pk, .slice pp A2.length pl, .int .i64 0] 24) = w4 at D Dp pr1 pr2 hbw4 ⊢
  clear hW hB
  have x0 := (D.cell 0).trans rfl
  have x1 := (D.cell 1).trans rfl
  have x2 := (D.cell 2).trans rfl
  have xf := D.free
  have xz := D.lt
  go_wp2_with fail
  with_reducible refine (HRBG.out _ (HA.out.below hbw4) (by rw [HN.out]; omega)).mono ?_
  rintro e w5 ⟨v5, rfl, hr5, hb5⟩
  obtain ⟨ro, rp, rk, rl, rfl, r1, r2⟩ := hr5.form
  clear hr5 x0 x1 x2 xf xz
  replace D := D.below hb5
  replace Dp := Dp.below hb5
  replace pr1 := pr1.below hb5
  replace pr2 := pr2.below hb5
  have hbw5 := hbw4.trans (hb5.mono hbw4.size)
  clear hbw4 hb5
  have x0 := (D.cell 0).trans rfl
  have x1 := (D.cell 1).trans rfl
  have x2 := (D.cell 2).trans rfl
  have xf := D.free
  have xz := D.lt
  go_wp2_with fail
  clear x0 x1 x2 xf xz
  have hb6 : Below w5.heap.size w5 (w5.alloc (.cells #[.slice ro A1.length rk, .slice rp A2.length rl, .int .i64 0] 24)) := (Below.refl _ _).alloc (Nat.le_refl _) _
  have Dr := HasBlock.made w5 #[.slice ro A1.length rk, .slice rp A2.length rl, .int .i64 0] 24
  replace D := D.below hb6
  have rr1 := r1.below hb6
  have rr2 := r2.below hb6
  clear r1 r2
  replace Dp := Dp.below hb6
  replace pr1 := pr1.below hb6
  replace pr2 := pr2.below hb6
  have hbw6 := hbw5.trans (hb6.mono hbw5.size)
  have hz5 := hbw5.size
  clear hbw5 hb6
  obtain ⟨Br, hB⟩ : ∃ B, w5.heap.size = B := ⟨_, rfl⟩
  rw [hB] at Dr hz5 ⊢
  generalize hW : w5.alloc (.cells #[.slice ro A1.length rk, .slice rp A2.length rl, .int .i64 0] 24) = w6 at D Dp Dr pr1 pr2 rr1 rr2 hbw6 ⊢
  clear hW hB
  have x0 := (D.cell 0).trans rfl
  have x1 := (D.cell 1).trans rfl
  have x2 := (D.cell 2).trans rfl
  have xf := D.free
  have xz := D.lt
  go_wp2_with fail
  with_reducible refine (HWR.out _ (HA.out.below hbw6) (HB.out.below hbw6) (by rw [HN.out]; omega) (by rw [HM.out]; omega)).mono ?_
  rintro e w7 ⟨v7, rfl, hr7, hb7⟩
  obtain ⟨xo, xp, xk, xl, rfl, r1, r2⟩ := hr7.form
  clear hr7 x0 x1 x2 xf xz
  replace D := D.below hb7
  replace Dp := Dp.below hb7
  replace pr1 := pr1.below hb7
  replace pr2 := pr2.below hb7
  replace Dr := Dr.below hb7
  replace rr1 := rr1.below hb7
  replace rr2 := rr2.below hb7
  have hbw7 := hbw6.trans (hb7.mono hbw6.size)
  clear hbw6 hb7
  have x0 := (D.cell 0).trans rfl
  have x1 := (D.cell 1).trans rfl
  have x2 := (D.cell 2).trans rfl
  have xf := D.free
  have xz := D.lt
  go_wp2_with fail
  clear x0 x1 x2 xf xz
  have hb8 : Below w7.heap.size w7 (w7.alloc (.cells #[.slice xo W1.length xk, .slice xp W2.length xl, .int .i64 c] 24)) := (Below.refl _ _).alloc (Nat.le_refl _) _
  have Dx := HasBlock.made w7 #[.slice xo W1.length xk, .slice xp W2.length xl, .int .i64 c] 24
  replace D := D.below hb8
  have xr1 := r1.below hb8
  have xr2 := r2.below hb8
  clear r1 r2
  replace Dp := Dp.below hb8
  replace pr1 := pr1.below hb8
  replace pr2 := pr2.below hb8
  replace Dr := Dr.below hb8
  replace rr1 := rr1.below hb8
  replace rr2 := rr2.below hb8
  have hbw8 := hbw7.trans (hb8.mono hbw7.size)
  have hz7 := hbw7.size
  clear hbw7 hb8
  obtain ⟨Bx, hB⟩ : ∃ B, w7.heap.size = B := ⟨_, rfl⟩
  rw [hB] at Dx hz7 ⊢
  generalize hW : w7.alloc (.cells #[.slice xo W1.length xk, .slice xp W2.length xl, .int .i64 c] 24) = w8 at D Dp Dr Dx pr1 pr2 rr1 rr2 xr1 xr2 hbw8 ⊢
  clear hW hB
  have x0 := (D.cell 0).trans rfl
  have x1 := (D.cell 1).trans rfl
  have x2 := (D.cell 2).trans rfl
  have xf := D.free
  have xz := D.lt
  go_wp2_with fail
  with_reducible refine (HRWR.out _ (HA.out.below hbw8) (HB.out.below hbw8)).mono ?_
  rintro e w9 ⟨v9, rfl, hr9, hb9⟩
  obtain ⟨yo, yp, yk, yl, rfl, r1, r2⟩ := hr9.form
  clear hr9 x0 x1 x2 xf xz
  replace D := D.below hb9
  replace Dp := Dp.below hb9
  replace pr1 := pr1.below hb9
  replace pr2 := pr2.below hb9
  replace Dr := Dr.below hb9
  replace rr1 := rr1.below hb9
  replace rr2 := rr2.below hb9
  replace Dx := Dx.below hb9
  replace xr1 := xr1.below hb9
  replace xr2 := xr2.below hb9
  have hbw9 := hbw8.trans (hb9.mono hbw8.size)
  clear hbw8 hb9
  have x0 := (D.cell 0).trans rfl
  have x1 := (D.cell 1).trans rfl
  have x2 := (D.cell 2).trans rfl
  have xf := D.free
  have xz := D.lt
  go_wp2_with fail
  clear x0 x1 x2 xf xz
  have hb10 : Below w9.heap.size w9 (w9.alloc (.cells #[.slice yo W1.length yk, .slice yp W2.length yl, .int .i64 c] 24)) := (Below.refl _ _).alloc (Nat.le_refl _) _
  have Dy := HasBlock.made w9 #[.slice yo W1.length yk, .slice yp W2.length yl, .int .i64 c] 24
  replace D := D.below hb10
  have yr1 := r1.below hb10
  have yr2 := r2.below hb10
  clear r1 r2
  replace Dp := Dp.below hb10
  replace pr1 := pr1.below hb10
  replace pr2 := pr2.below hb10
  replace Dr := Dr.below hb10
  replace rr1 := rr1.below hb10
  replace rr2 := rr2.below hb10
  replace Dx := Dx.below hb10
  replace xr1 := xr1.below hb10
  replace xr2 := xr2.below hb10
  have hbw10 := hbw9.trans (hb10.mono hbw9.size)
  have hz9 := hbw9.size
  clear hbw9 hb10
  obtain ⟨By, hB⟩ : ∃ B, w9.heap.size = B := ⟨_, rfl⟩
  rw [hB] at Dy hz9 ⊢
  generalize hW : w9.alloc (.cells #[.slice yo W1.length yk, .slice yp W2.length yl, .int .i64 c] 24) = w10 at D Dp Dr Dx Dy pr1 pr2 rr1 rr2 xr1 xr2 yr1 yr2 hbw10 ⊢
  clear hW hB
  have x0 := (D.cell 0).trans rfl
  have x1 := (D.cell 1).trans rfl
  have x2 := (D.cell 2).trans rfl
  have xf := D.free
  have xz := D.lt
  with_reducible refine (HSW.out _ (HA.out.below hbw10) (HB.out.below hbw10)).mono ?_
  rintro e w11 ⟨v11, rfl, hl, hb11⟩
  obtain ⟨lo, lk, rfl, _⟩ := hl.out
  replace D := D.below hb11
  replace Dp := Dp.below hb11
  replace pr1 := pr1.below hb11
  replace pr2 := pr2.below hb11
  replace Dr := Dr.below hb11
  replace rr1 := rr1.below hb11
  replace rr2 := rr2.below hb11
  replace Dx := Dx.below hb11
  replace xr1 := xr1.below hb11
  replace xr2 := xr2.below hb11
  replace Dy := Dy.below hb11
  replace yr1 := yr1.below hb11
  replace yr2 := yr2.below hb11
  have hbw11 := hbw10.trans (hb11.mono hbw10.size)
  have hz11 := hb11.size
  clear hbw10 hb11 x0 x1 x2 xf xz
  cases dn
  all_goals
    have x0 := (D.cell 0).trans rfl
    have x1 := (D.cell 1).trans rfl
    have x2 := (D.cell 2).trans rfl
    have xf := D.free
    have xz := D.lt
    go_wp2_with fail
    refine wp_region_quiet_below (by kernel_rfl) (by kernel_rfl) ?_
    repeat (go_big_quiet_step (first | fail | (go_at_call 13; exact quiet_ret (HRDN.out _ (HA.out.below (hbw11.trans ((below_regrown _ _ _).mono hbw11.size))) (HB.out.below (hbw11.trans ((below_regrown _ _ _).mono hbw11.size)))))))
    refine wpQuiet_nil ?_
    intro w12 hw12
    have hb12 := below_of_regrown hw12
    clear hw12
    obtain ⟨hc12, hf12⟩ := bcell hb12
    have hz12 := bsize hb12
    try simp only [sizes1] at hz12
    try simp only [sizes] at hc12 hf12
    replace D := D.below hb12
    replace Dp := Dp.below hb12
    replace pr1 := pr1.below hb12
    replace pr2 := pr2.below hb12
    replace Dr := Dr.below hb12
    replace rr1 := rr1.below hb12
    replace rr2 := rr2.below hb12
    replace Dx := Dx.below hb12
    replace xr1 := xr1.below hb12
    replace xr2 := xr2.below hb12
    replace Dy := Dy.below hb12
    replace yr1 := yr1.below hb12
    replace yr2 := yr2.below hb12
    replace hl := hl.below hb12
    have hbw12 := hbw11.trans (hb12.mono hbw11.size)
    clear hbw11 hb12 x0 x1 x2 xf xz hc12 hf12 hz12
    have x0 := (D.cell 0).trans rfl
    have x1 := (D.cell 1).trans rfl
    have x2 := (D.cell 2).trans rfl
    have xf := D.free
    have xz := D.lt
    go_upto_region 11 with (fail)
    clear x0 x1 x2 xf xz
    have hz12 := hbw12.size
    have x0 := (D.cell 0).trans rfl
    have x1 := (D.cell 1).trans rfl
    have x2 := (D.cell 2).trans rfl
    have xf := D.free
    have xz := D.lt
    have p0 := (Dp.cell 0).trans rfl
    have p1 := (Dp.cell 1).trans rfl
    have p2 := (Dp.cell 2).trans rfl
    have pf := Dp.free
    have pz := Dp.lt
    have r0 := (Dr.cell 0).trans rfl
    have r1 := (Dr.cell 1).trans rfl
    have r2 := (Dr.cell 2).trans rfl
    have rf := Dr.free
    have rz := Dr.lt
    have s0 := (Dx.cell 0).trans rfl
    have s1 := (Dx.cell 1).trans rfl
    have s2 := (Dx.cell 2).trans rfl
    have sf := Dx.free
    have sz := Dx.lt
    have t0 := (Dy.cell 0).trans rfl
    have t1 := (Dy.cell 1).trans rfl
    have t2 := (Dy.cell 2).trans rfl
    have tf := Dy.free
    have tz := Dy.lt
    have hrule : ∀ w' : World, Below w12.heap.size w12 w' → ∀ b o, b < w12.heap.size → w'.cell? ⟨b, o, none⟩ = w12.cell? ⟨b, o, none⟩ := fun w' h b o hlt => h.cell (p := ⟨b, o, none⟩) hlt
  · go_region_held3 (fun w' => Below w12.heap.size w12 w') (first | exact Below.refl _ _ | exact Below.drew (Below.refl _ _) | with_reducible assumption | (refine Below.step ?_ (by with_reducible assumption); first | with_reducible assumption | exact Below.drew (Below.refl _ _))) ((first | (go_at_call 14; refine (HVA.out _ (HA.out.below (Below.step hbw12 (by first | with_reducible assumption | exact Below.drew (Below.refl _ _) | exact Below.refl _ _))) (HB.out.below (Below.step hbw12 (by first | with_reducible assumption | exact Below.drew (Below.refl _ _) | exact Below.refl _ _)))).mono ?_; rintro e w9 ⟨rfl, hb9⟩) | (go_at_call 15; refine (HRVA.out _ (HA.out.below (Below.step hbw12 (by first | with_reducible assumption | exact Below.drew (Below.refl _ _) | exact Below.refl _ _))) (HB.out.below (Below.step hbw12 (by first | with_reducible assumption | exact Below.drew (Below.refl _ _) | exact Below.refl _ _)))).mono ?_; rintro e w9 ⟨rfl, hb9⟩) | (go_at_call 19; refine (HDN.out _ (HA.out.below (Below.step hbw12 (by first | with_reducible assumption | exact Below.drew (Below.refl _ _) | exact Below.refl _ _))) (HB.out.below (Below.step hbw12 (by first | with_reducible assumption | exact Below.drew (Below.refl _ _) | exact Below.refl _ _)))).mono ?_; rintro e w9 ⟨rfl, hb9⟩) | (go_at_call 17; refine (HCP.out _ (HA.out.below (Below.step hbw12 (by first | with_reducible assumption | exact Below.drew (Below.refl _ _) | exact Below.refl _ _))) (HB.out.below (Below.step hbw12 (by first | with_reducible assumption | exact Below.drew (Below.refl _ _) | exact Below.refl _ _))) (by rw [HN.out]; omega) (by rw [HM.out]; omega)).mono ?_; rintro e wC ⟨vC, rfl, hrC, hb9⟩) | (go_at_call 18; refine (HRCP.out _ (HA.out.below (Below.step hbw12 (by first | with_reducible assumption | exact Below.drew (Below.refl _ _) | exact Below.refl _ _))) (HB.out.below (Below.step hbw12 (by first | with_reducible assumption | exact Below.drew (Below.refl _ _) | exact Below.refl _ _)))).mono ?_; rintro e wR ⟨vR, rfl, hrR, hb9⟩) | (go_at_call 16; (first | (with_reducible refine (same_mir _ _ A1 A2 0 _ (mirRow (pr1.below (by first | with_reducible assumption | exact Below.drew (Below.refl _ _) | exact Below.refl _ _)) (pr2.below (by first | with_reducible assumption | exact Below.drew (Below.refl _ _) | exact Below.refl _ _))) (mirRow (rr1.below (by first | with_reducible assumption | exact Below.drew (Below.refl _ _) | exact Below.refl _ _)) (rr2.below (by first | with_reducible assumption | exact Below.drew (Below.refl _ _) | exact Below.refl _ _)))).mono ?_) | (with_reducible refine (same_mir _ _ W1 W2 c _ (mirRow (xr1.below (by first | with_reducible assumption | exact Below.drew (Below.refl _ _) | exact Below.refl _ _)) (xr2.below (by first | with_reducible assumption | exact Below.drew (Below.refl _ _) | exact Below.refl _ _))) (mirRow (yr1.below (by first | with_reducible assumption | exact Below.drew (Below.refl _ _) | exact Below.refl _ _)) (yr2.below (by first | with_reducible assumption | exact Below.drew (Below.refl _ _) | exact Below.refl _ _)))).mono ?_) | (with_reducible refine (same_mir vC vR S C1 cc _ (hrC.below (by with_reducible assumption)) hrR).mono ?_)); rintro e w9 ⟨rfl, hb9⟩) | (go_at_call 20; refine (same_row _ _ _ _ (hl.below (by first | with_reducible assumption | exact Below.drew (Below.refl _ _) | exact Below.refl _ _)) (RowAt.nil _)).mono ?_; rintro e w9 ⟨rfl, hb9⟩) | (go_at_call 7; refine (awake_any _).mono ?_; rintro e w9 ⟨rfl, hb9⟩)))
    all_goals
      go_wp2_with fail
      go_ret
      exact Ret.mk (Below.step hbw12 (by first | with_reducible assumption | exact Below.drew (Below.refl _ _) | exact Below.refl _ _))
  · go_region_held3 (fun w' => Below w12.heap.size w12 w') (first | exact Below.refl _ _ | exact Below.drew (Below.refl _ _) | with_reducible assumption | (refine Below.step ?_ (by with_reducible assumption); first | with_reducible assumption | exact Below.drew (Below.refl _ _))) ((first | (go_at_call 14; refine (HVA.out _ (HA.out.below (Below.step hbw12 (by first | with_reducible assumption | exact Below.drew (Below.refl _ _) | exact Below.refl _ _))) (HB.out.below (Below.step hbw12 (by first | with_reducible assumption | exact Below.drew (Below.refl _ _) | exact Below.refl _ _)))).mono ?_; rintro e w9 ⟨rfl, hb9⟩) | (go_at_call 15; refine (HRVA.out _ (HA.out.below (Below.step hbw12 (by first | with_reducible assumption | exact Below.drew (Below.refl _ _) | exact Below.refl _ _))) (HB.out.below (Below.step hbw12 (by first | with_reducible assumption | exact Below.drew (Below.refl _ _) | exact Below.refl _ _)))).mono ?_; rintro e w9 ⟨rfl, hb9⟩) | (go_at_call 19; refine (HDN.out _ (HA.out.below (Below.step hbw12 (by first | with_reducible assumption | exact Below.drew (Below.refl _ _) | exact Below.refl _ _))) (HB.out.below (Below.step hbw12 (by first | with_reducible assumption | exact Below.drew (Below.refl _ _) | exact Below.refl _ _)))).mono ?_; rintro e w9 ⟨rfl, hb9⟩) | (go_at_call 17; refine (HCP.out _ (HA.out.below (Below.step hbw12 (by first | with_reducible assumption | exact Below.drew (Below.refl _ _) | exact Below.refl _ _))) (HB.out.below (Below.step hbw12 (by first | with_reducible assumption | exact Below.drew (Below.refl _ _) | exact Below.refl _ _))) (by rw [HN.out]; omega) (by rw [HM.out]; omega)).mono ?_; rintro e wC ⟨vC, rfl, hrC, hb9⟩) | (go_at_call 18; refine (HRCP.out _ (HA.out.below (Below.step hbw12 (by first | with_reducible assumption | exact Below.drew (Below.refl _ _) | exact Below.refl _ _))) (HB.out.below (Below.step hbw12 (by first | with_reducible assumption | exact Below.drew (Below.refl _ _) | exact Below.refl _ _)))).mono ?_; rintro e wR ⟨vR, rfl, hrR, hb9⟩) | (go_at_call 16; (first | (with_reducible refine (same_mir _ _ A1 A2 0 _ (mirRow (pr1.below (by first | with_reducible assumption | exact Below.drew (Below.refl _ _) | exact Below.refl _ _)) (pr2.below (by first | with_reducible assumption | exact Below.drew (Below.refl _ _) | exact Below.refl _ _))) (mirRow (rr1.below (by first | with_reducible assumption | exact Below.drew (Below.refl _ _) | exact Below.refl _ _)) (rr2.below (by first | with_reducible assumption | exact Below.drew (Below.refl _ _) | exact Below.refl _ _)))).mono ?_) | (with_reducible refine (same_mir _ _ W1 W2 c _ (mirRow (xr1.below (by first | with_reducible assumption | exact Below.drew (Below.refl _ _) | exact Below.refl _ _)) (xr2.below (by first | with_reducible assumption | exact Below.drew (Below.refl _ _) | exact Below.refl _ _))) (mirRow (yr1.below (by first | with_reducible assumption | exact Below.drew (Below.refl _ _) | exact Below.refl _ _)) (yr2.below (by first | with_reducible assumption | exact Below.drew (Below.refl _ _) | exact Below.refl _ _)))).mono ?_) | (with_reducible refine (same_mir vC vR S C1 cc _ (hrC.below (by with_reducible assumption)) hrR).mono ?_)); rintro e w9 ⟨rfl, hb9⟩) | (go_at_call 20; refine (same_row _ _ _ _ (hl.below (by first | with_reducible assumption | exact Below.drew (Below.refl _ _) | exact Below.refl _ _)) (HB.out.below (Below.step hbw12 (by first | with_reducible assumption | exact Below.drew (Below.refl _ _) | exact Below.refl _ _)))).mono ?_; rintro e w9 ⟨rfl, hb9⟩) | (go_at_call 7; refine (awake_any _).mono ?_; rintro e w9 ⟨rfl, hb9⟩)))
    all_goals
      go_wp2_with fail
      go_ret
      exact Ret.mk (Below.step hbw12 (by first | with_reducible assumption | exact Below.drew (Below.refl _ _) | exact Below.refl _ _))
end Go.Proofs.Ytfomfokgibijjaa
