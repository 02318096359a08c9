/-
  All functions of a pool against the reference's: walked.
-/
import Derived.Test.YtjoopjgpjkmmhaaPlRefAdd
import Derived.Test.YtjoopjgpjkmmhaaPlSame
import Derived.Test.YtjoopjgpjkmmhaaPlCarry
import Derived.Test.YtjoopjgpjkmmhaaPlLight
import Derived.Test.YtjoopjgpjkmmhaaPlAwake
namespace Go.Proofs.Ytjoopjgpjkmmhaa
open Go.RowKit

set_option maxRecDepth 100000 in
set_option maxHeartbeats 8000000 in
theorem tells_any (v : Value) (P : Pl) (fr pg g p : Int) (d : ByteArray) (w : World) (h : PlRow w v P) (hf : P.fit) (hs : P.small) (hd : d.size ≤ 9223372036854775807) : Calls Try.prog 10 #[v, .int .i64 fr, .int .i64 pg, .int .i64 g, .int .i64 p, .string d] w (Ret w (.bool true)) := by
  obtain ⟨of, or', om, kf, kr, km, rfl, kf1, kf2, kr1, kr2, km1, km2⟩ := h.form
  obtain ⟨n, hn⟩ : ∃ n, P.F.length = n := ⟨_, rfl⟩
  obtain ⟨r, hr⟩ : ∃ n, P.R.length = n := ⟨_, rfl⟩
  obtain ⟨m, hm⟩ : ∃ n, P.M.length = n := ⟨_, rfl⟩
  rw [hn] at h kf1 ⊢
  rw [hr] at h kr1 ⊢
  rw [hm] at h km1 ⊢
  have HN := Lib.hid hn; clear hn
  have HR := Lib.hid hr; clear hr
  have HM := Lib.hid hm; clear hm
  have C1 := fun w => (pnew_any fr w).mono fun _ _ h => h.row
  have C2 := fun w => (rnew_any fr w).mono fun _ _ h => h.row
  have C3 := fun w h => (padd_any (.agg #[.slice of n kf, .slice or' r kr, .slice om m km]) P pg w h hf hs).mono fun _ _ h => h.row
  have C4 := fun w h => radd_any (.agg #[.slice of n kf, .slice or' r kr, .slice om m km]) P pg w h hf
  have C5 := fun w h => pread_any (.agg #[.slice of n kf, .slice or' r kr, .slice om m km]) P g p w h hf
  have C6 := fun w h => rread_any (.agg #[.slice of n kf, .slice or' r kr, .slice om m km]) P g p w h hf
  have C7 := fun w h => (pwrite_any (.agg #[.slice of n kf, .slice or' r kr, .slice om m km]) P g p d w h hf hs).mono fun _ _ h => h.row
  have C8 := fun w h => rwrite_any (.agg #[.slice of n kf, .slice or' r kr, .slice om m km]) P g p d w h hf hd
  have C9 := fun w h => (pshare_any (.agg #[.slice of n kf, .slice or' r kr, .slice om m km]) P g p w h hf hs).mono fun _ _ h => h.row
  have C10 := fun w h => rshare_any (.agg #[.slice of n kf, .slice or' r kr, .slice om m km]) P g p w h hf
  have C11 := fun w h => valid_pl (.agg #[.slice of n kf, .slice or' r kr, .slice om m km]) P w h hf
  have C12 := fun w h => rvalid_pl (.agg #[.slice of n kf, .slice or' r kr, .slice om m km]) P w h hf
  have C13 := fun w h => pfree_any (.agg #[.slice of n kf, .slice or' r kr, .slice om m km]) P w h hf
  have C14 := fun w h => rfreeF_any (.agg #[.slice of n kf, .slice or' r kr, .slice om m km]) P w h hf
  have C15 := fun w h => pcharge_any (.agg #[.slice of n kf, .slice or' r kr, .slice om m km]) P g w h hf
  have C16 := fun w h => rChargeP_any (.agg #[.slice of n kf, .slice or' r kr, .slice om m km]) P g w h hf
  clear hf hs hd
  obtain ⟨Q1, hq1⟩ : ∃ Q, newPl fr = Q := ⟨_, rfl⟩
  obtain ⟨Q2, hq2⟩ : ∃ Q, P.add pg = Q := ⟨_, rfl⟩
  obtain ⟨Q3, hq3⟩ : ∃ Q, P.wr g p d = Q := ⟨_, rfl⟩
  obtain ⟨Q4, hq4⟩ : ∃ Q, P.sh g p = Q := ⟨_, rfl⟩
  obtain ⟨t1, ht1⟩ : ∃ b, newOk fr = b := ⟨_, rfl⟩
  obtain ⟨t2, ht2⟩ : ∃ b, P.goodA pg = b := ⟨_, rfl⟩
  obtain ⟨t3, ht3⟩ : ∃ b, P.wok g p d = b := ⟨_, rfl⟩
  obtain ⟨t4, ht4⟩ : ∃ b, P.sok g p = b := ⟨_, rfl⟩
  obtain ⟨t5, ht5⟩ : ∃ b, P.has g p = b := ⟨_, rfl⟩
  obtain ⟨t6, ht6⟩ : ∃ b, P.ok = b := ⟨_, rfl⟩
  obtain ⟨s, hs⟩ : ∃ s, P.read g p = s := ⟨_, rfl⟩
  obtain ⟨x1, hx1⟩ : ∃ x, P.free = x := ⟨_, rfl⟩
  obtain ⟨x2, hx2⟩ : ∃ x, P.charge g = x := ⟨_, rfl⟩
  rw [hq1, ht1] at C1 C2
  rw [hq2, ht2] at C3 C4
  rw [hs, ht5] at C5 C6
  rw [hq3, ht3] at C7 C8
  rw [hq4, ht4] at C9 C10
  rw [ht6] at C11 C12
  rw [hx1] at C13 C14
  rw [hx2] at C15 C16
  clear hq1 hq2 hq3 hq4 ht1 ht2 ht3 ht4 ht5 ht6 hs hx1 hx2
  have H1 := Lib.hid C1; clear C1
  have H2 := Lib.hid C2; clear C2
  have H3 := Lib.hid C3; clear C3
  have H4 := Lib.hid C4; clear C4
  have H5 := Lib.hid C5; clear C5
  have H6 := Lib.hid C6; clear C6
  have H7 := Lib.hid C7; clear C7
  have H8 := Lib.hid C8; clear C8
  have H9 := Lib.hid C9; clear C9
  have H10 := Lib.hid C10; clear C10
  have H11 := Lib.hid C11; clear C11
  have H12 := Lib.hid C12; clear C12
  have H13 := Lib.hid C13; clear C13
  have H14 := Lib.hid C14; clear C14
  have H15 := Lib.hid C15; clear C15
  have H16 := Lib.hid C16; clear C16
  have e1 : (s.toList == s.toList) = true := by simp
  have e2 : (t1 == t1) = true := by simp
  have e3 : (t2 == t2) = true := by simp
  have e4 : (t3 == t3) = true := by simp
  have e5 : (t4 == t4) = true := by simp
  have e6 : (t5 == t5) = true := by simp
  have e7 : (t6 != t6) = false := by simp
  have e8 : (x1 != x1) = false := by simp
  have e9 : (x2 != x2) = false := by simp
  have e10 : ((x1 : Int) != (x1 : Int)) = false := by simp
  have e11 : ((x2 : Int) != (x2 : Int)) = false := by simp
  have D0 := HasBlock.made w #[.slice of n kf, .slice or' r kr, .slice om m km] 26
  have hbw : Below w.heap.size w (w.alloc (.cells #[.slice of n kf, .slice or' r kr, .slice om m km] 26)) := (Below.refl _ _).alloc (Nat.le_refl _) _
  replace h := h.below hbw
  go_enter Try.func10, Try.ntmps10
  go_wp2_with fail
  generalize hW : w.alloc (.cells #[.slice of n kf, .slice or' r kr, .slice om m km] 26) = w1 at D0 h hbw ⊢
  clear hW
  have hwB : w.heap.size ≤ w.heap.size := Nat.le_refl _
  obtain ⟨B0, hB0⟩ : ∃ B, w.heap.size = B := ⟨_, rfl⟩
  rw [hB0] at D0 ⊢
  with_reducible refine (H1.out _).mono ?_
  rintro e w2 ⟨of1, or1, om1, kf1, kr1, km1, rfl, O1, hbk⟩
  replace D0 := D0.below hbk
  replace h := h.below hbk
  replace hbw := hbw.trans (hbk.mono hbw.size)
  clear hbk
  obtain ⟨n1, hgn⟩ : ∃ n, (Pl.F Q1).length = n := ⟨_, rfl⟩
  obtain ⟨r1, hgr⟩ : ∃ n, (Pl.R Q1).length = n := ⟨_, rfl⟩
  obtain ⟨m1, hgm⟩ : ∃ n, (Pl.M Q1).length = n := ⟨_, rfl⟩
  rw [hgn, hgr, hgm] at O1 ⊢
  clear hgn hgr hgm
  obtain ⟨D0_c, D0_f, D0_z⟩ := D0.all
  go_wp2_with fail
  clear D0_c D0_f D0_z
  have hw1 := hbw.size
  have lD0x1 := D0.lt
  have hbx : Below w2.heap.size w2 (w2.alloc (.cells #[.slice of1 n1 kf1, .slice or1 r1 kr1, .slice om1 m1 km1] 26)) := (Below.refl _ _).alloc (Nat.le_refl _) _
  replace D0 := D0.below hbx
  replace h := h.below hbx
  replace O1 := O1.below hbx
  have D1 := HasBlock.made w2 #[.slice of1 n1 kf1, .slice or1 r1 kr1, .slice om1 m1 km1] 26
  replace hbw := hbw.trans (hbx.mono hbw.size)
  clear hbx
  obtain ⟨B1, hB⟩ : ∃ B, w2.heap.size = B := ⟨_, rfl⟩
  rw [hB] at D1 hw1 ⊢
  rw [hB] at lD0x1
  generalize hW : w2.alloc (.cells #[.slice of1 n1 kf1, .slice or1 r1 kr1, .slice om1 m1 km1] 26) = w3 at D0 D1 h O1 hbw ⊢
  clear hW hB
  with_reducible refine (H2.out _).mono ?_
  rintro e w4 ⟨of2, or2, om2, kf2, kr2, km2, rfl, O2, hbk⟩
  replace D0 := D0.below hbk
  replace D1 := D1.below hbk
  replace h := h.below hbk
  replace O1 := O1.below hbk
  replace hbw := hbw.trans (hbk.mono hbw.size)
  clear hbk
  obtain ⟨n2, hgn⟩ : ∃ n, (Pl.F Q1).length = n := ⟨_, rfl⟩
  obtain ⟨r2, hgr⟩ : ∃ n, (Pl.R Q1).length = n := ⟨_, rfl⟩
  obtain ⟨m2, hgm⟩ : ∃ n, (Pl.M Q1).length = n := ⟨_, rfl⟩
  rw [hgn, hgr, hgm] at O2 ⊢
  clear hgn hgr hgm
  obtain ⟨D0_c, D0_f, D0_z⟩ := D0.all
  obtain ⟨D1_c, D1_f, D1_z⟩ := D1.all
  go_wp2_with fail
  clear D0_c D0_f D0_z
  clear D1_c D1_f D1_z
  have hw2 := hbw.size
  have lD0x2 := D0.lt
  have lD1x2 := D1.lt
  have hbx : Below w4.heap.size w4 (w4.alloc (.cells #[.slice of2 n2 kf2, .slice or2 r2 kr2, .slice om2 m2 km2] 26)) := (Below.refl _ _).alloc (Nat.le_refl _) _
  replace D0 := D0.below hbx
  replace D1 := D1.below hbx
  replace h := h.below hbx
  replace O1 := O1.below hbx
  replace O2 := O2.below hbx
  have D2 := HasBlock.made w4 #[.slice of2 n2 kf2, .slice or2 r2 kr2, .slice om2 m2 km2] 26
  replace hbw := hbw.trans (hbx.mono hbw.size)
  clear hbx
  obtain ⟨B2, hB⟩ : ∃ B, w4.heap.size = B := ⟨_, rfl⟩
  rw [hB] at D2 hw2 ⊢
  rw [hB] at lD0x2
  rw [hB] at lD1x2
  generalize hW : w4.alloc (.cells #[.slice of2 n2 kf2, .slice or2 r2 kr2, .slice om2 m2 km2] 26) = w5 at D0 D1 D2 h O1 O2 hbw ⊢
  clear hW hB
  with_reducible refine (H3.out _ h).mono ?_
  rintro e w6 ⟨of3, or3, om3, kf3, kr3, km3, rfl, O3, hbk⟩
  replace D0 := D0.below hbk
  replace D1 := D1.below hbk
  replace D2 := D2.below hbk
  replace h := h.below hbk
  replace O1 := O1.below hbk
  replace O2 := O2.below hbk
  replace hbw := hbw.trans (hbk.mono hbw.size)
  clear hbk
  obtain ⟨n3, hgn⟩ : ∃ n, (Pl.F Q2).length = n := ⟨_, rfl⟩
  obtain ⟨r3, hgr⟩ : ∃ n, (Pl.R Q2).length = n := ⟨_, rfl⟩
  obtain ⟨m3, hgm⟩ : ∃ n, (Pl.M Q2).length = n := ⟨_, rfl⟩
  rw [hgn, hgr, hgm] at O3 ⊢
  clear hgn hgr hgm
  obtain ⟨D0_c, D0_f, D0_z⟩ := D0.all
  obtain ⟨D1_c, D1_f, D1_z⟩ := D1.all
  obtain ⟨D2_c, D2_f, D2_z⟩ := D2.all
  go_wp2_with fail
  clear D0_c D0_f D0_z
  clear D1_c D1_f D1_z
  clear D2_c D2_f D2_z
  have hw3 := hbw.size
  have lD0x3 := D0.lt
  have lD1x3 := D1.lt
  have lD2x3 := D2.lt
  have hbx : Below w6.heap.size w6 (w6.alloc (.cells #[.slice of3 n3 kf3, .slice or3 r3 kr3, .slice om3 m3 km3] 26)) := (Below.refl _ _).alloc (Nat.le_refl _) _
  replace D0 := D0.below hbx
  replace D1 := D1.below hbx
  replace D2 := D2.below hbx
  replace h := h.below hbx
  replace O1 := O1.below hbx
  replace O2 := O2.below hbx
  replace O3 := O3.below hbx
  have D3 := HasBlock.made w6 #[.slice of3 n3 kf3, .slice or3 r3 kr3, .slice om3 m3 km3] 26
  replace hbw := hbw.trans (hbx.mono hbw.size)
  clear hbx
  obtain ⟨B3, hB⟩ : ∃ B, w6.heap.size = B := ⟨_, rfl⟩
  rw [hB] at D3 hw3 ⊢
  rw [hB] at lD0x3
  rw [hB] at lD1x3
  rw [hB] at lD2x3
  generalize hW : w6.alloc (.cells #[.slice of3 n3 kf3, .slice or3 r3 kr3, .slice om3 m3 km3] 26) = w7 at D0 D1 D2 D3 h O1 O2 O3 hbw ⊢
  clear hW hB
  with_reducible refine (H4.out _ h).mono ?_
  rintro e w8 ⟨of4, or4, om4, kf4, kr4, km4, rfl, O4, hbk⟩
  replace D0 := D0.below hbk
  replace D1 := D1.below hbk
  replace D2 := D2.below hbk
  replace D3 := D3.below hbk
  replace h := h.below hbk
  replace O1 := O1.below hbk
  replace O2 := O2.below hbk
  replace O3 := O3.below hbk
  replace hbw := hbw.trans (hbk.mono hbw.size)
  clear hbk
  obtain ⟨n4, hgn⟩ : ∃ n, (Pl.F Q2).length = n := ⟨_, rfl⟩
  obtain ⟨r4, hgr⟩ : ∃ n, (Pl.R Q2).length = n := ⟨_, rfl⟩
  obtain ⟨m4, hgm⟩ : ∃ n, (Pl.M Q2).length = n := ⟨_, rfl⟩
  rw [hgn, hgr, hgm] at O4 ⊢
  clear hgn hgr hgm
  obtain ⟨D0_c, D0_f, D0_z⟩ := D0.all
  obtain ⟨D1_c, D1_f, D1_z⟩ := D1.all
  obtain ⟨D2_c, D2_f, D2_z⟩ := D2.all
  obtain ⟨D3_c, D3_f, D3_z⟩ := D3.all
  go_wp2_with fail
  clear D0_c D0_f D0_z
  clear D1_c D1_f D1_z
  clear D2_c D2_f D2_z
  clear D3_c D3_f D3_z
  have hw4 := hbw.size
  have lD0x4 := D0.lt
  have lD1x4 := D1.lt
  have lD2x4 := D2.lt
  have lD3x4 := D3.lt
  have hbx : Below w8.heap.size w8 (w8.alloc (.cells #[.slice of4 n4 kf4, .slice or4 r4 kr4, .slice om4 m4 km4] 26)) := (Below.refl _ _).alloc (Nat.le_refl _) _
  replace D0 := D0.below hbx
  replace D1 := D1.below hbx
  replace D2 := D2.below hbx
  replace D3 := D3.below hbx
  replace h := h.below hbx
  replace O1 := O1.below hbx
  replace O2 := O2.below hbx
  replace O3 := O3.below hbx
  replace O4 := O4.below hbx
  have D4 := HasBlock.made w8 #[.slice of4 n4 kf4, .slice or4 r4 kr4, .slice om4 m4 km4] 26
  replace hbw := hbw.trans (hbx.mono hbw.size)
  clear hbx
  obtain ⟨B4, hB⟩ : ∃ B, w8.heap.size = B := ⟨_, rfl⟩
  rw [hB] at D4 hw4 ⊢
  rw [hB] at lD0x4
  rw [hB] at lD1x4
  rw [hB] at lD2x4
  rw [hB] at lD3x4
  generalize hW : w8.alloc (.cells #[.slice of4 n4 kf4, .slice or4 r4 kr4, .slice om4 m4 km4] 26) = w9 at D0 D1 D2 D3 D4 h O1 O2 O3 O4 hbw ⊢
  clear hW hB
  with_reducible refine (H5.out _ h).mono ?_
  rintro e w10 ⟨rfl, hbk⟩
  replace D0 := D0.below hbk
  replace D1 := D1.below hbk
  replace D2 := D2.below hbk
  replace D3 := D3.below hbk
  replace D4 := D4.below hbk
  replace h := h.below hbk
  replace O1 := O1.below hbk
  replace O2 := O2.below hbk
  replace O3 := O3.below hbk
  replace O4 := O4.below hbk
  replace hbw := hbw.trans (hbk.mono hbw.size)
  clear hbk
  obtain ⟨D0_c, D0_f, D0_z⟩ := D0.all
  obtain ⟨D1_c, D1_f, D1_z⟩ := D1.all
  obtain ⟨D2_c, D2_f, D2_z⟩ := D2.all
  obtain ⟨D3_c, D3_f, D3_z⟩ := D3.all
  obtain ⟨D4_c, D4_f, D4_z⟩ := D4.all
  go_wp2_with fail
  clear D0_c D0_f D0_z
  clear D1_c D1_f D1_z
  clear D2_c D2_f D2_z
  clear D3_c D3_f D3_z
  clear D4_c D4_f D4_z
  with_reducible refine (H6.out _ h).mono ?_
  rintro e w11 ⟨rfl, hbk⟩
  replace D0 := D0.below hbk
  replace D1 := D1.below hbk
  replace D2 := D2.below hbk
  replace D3 := D3.below hbk
  replace D4 := D4.below hbk
  replace h := h.below hbk
  replace O1 := O1.below hbk
  replace O2 := O2.below hbk
  replace O3 := O3.below hbk
  replace O4 := O4.below hbk
  replace hbw := hbw.trans (hbk.mono hbw.size)
  clear hbk
  obtain ⟨D0_c, D0_f, D0_z⟩ := D0.all
  obtain ⟨D1_c, D1_f, D1_z⟩ := D1.all
  obtain ⟨D2_c, D2_f, D2_z⟩ := D2.all
  obtain ⟨D3_c, D3_f, D3_z⟩ := D3.all
  obtain ⟨D4_c, D4_f, D4_z⟩ := D4.all
  go_wp2_with fail
  clear D0_c D0_f D0_z
  clear D1_c D1_f D1_z
  clear D2_c D2_f D2_z
  clear D3_c D3_f D3_z
  clear D4_c D4_f D4_z
  with_reducible refine (H7.out _ h).mono ?_
  rintro e w12 ⟨of5, or5, om5, kf5, kr5, km5, rfl, O5, hbk⟩
  replace D0 := D0.below hbk
  replace D1 := D1.below hbk
  replace D2 := D2.below hbk
  replace D3 := D3.below hbk
  replace D4 := D4.below hbk
  replace h := h.below hbk
  replace O1 := O1.below hbk
  replace O2 := O2.below hbk
  replace O3 := O3.below hbk
  replace O4 := O4.below hbk
  replace hbw := hbw.trans (hbk.mono hbw.size)
  clear hbk
  obtain ⟨n5, hgn⟩ : ∃ n, (Pl.F Q3).length = n := ⟨_, rfl⟩
  obtain ⟨r5, hgr⟩ : ∃ n, (Pl.R Q3).length = n := ⟨_, rfl⟩
  obtain ⟨m5, hgm⟩ : ∃ n, (Pl.M Q3).length = n := ⟨_, rfl⟩
  rw [hgn, hgr, hgm] at O5 ⊢
  clear hgn hgr hgm
  obtain ⟨D0_c, D0_f, D0_z⟩ := D0.all
  obtain ⟨D1_c, D1_f, D1_z⟩ := D1.all
  obtain ⟨D2_c, D2_f, D2_z⟩ := D2.all
  obtain ⟨D3_c, D3_f, D3_z⟩ := D3.all
  obtain ⟨D4_c, D4_f, D4_z⟩ := D4.all
  go_wp2_with fail
  clear D0_c D0_f D0_z
  clear D1_c D1_f D1_z
  clear D2_c D2_f D2_z
  clear D3_c D3_f D3_z
  clear D4_c D4_f D4_z
  have hw5 := hbw.size
  have lD0x5 := D0.lt
  have lD1x5 := D1.lt
  have lD2x5 := D2.lt
  have lD3x5 := D3.lt
  have lD4x5 := D4.lt
  have hbx : Below w12.heap.size w12 (w12.alloc (.cells #[.slice of5 n5 kf5, .slice or5 r5 kr5, .slice om5 m5 km5] 26)) := (Below.refl _ _).alloc (Nat.le_refl _) _
  replace D0 := D0.below hbx
  replace D1 := D1.below hbx
  replace D2 := D2.below hbx
  replace D3 := D3.below hbx
  replace D4 := D4.below hbx
  replace h := h.below hbx
  replace O1 := O1.below hbx
  replace O2 := O2.below hbx
  replace O3 := O3.below hbx
  replace O4 := O4.below hbx
  replace O5 := O5.below hbx
  have D5 := HasBlock.made w12 #[.slice of5 n5 kf5, .slice or5 r5 kr5, .slice om5 m5 km5] 26
  replace hbw := hbw.trans (hbx.mono hbw.size)
  clear hbx
  obtain ⟨B5, hB⟩ : ∃ B, w12.heap.size = B := ⟨_, rfl⟩
  rw [hB] at D5 hw5 ⊢
  rw [hB] at lD0x5
  rw [hB] at lD1x5
  rw [hB] at lD2x5
  rw [hB] at lD3x5
  rw [hB] at lD4x5
  generalize hW : w12.alloc (.cells #[.slice of5 n5 kf5, .slice or5 r5 kr5, .slice om5 m5 km5] 26) = w13 at D0 D1 D2 D3 D4 D5 h O1 O2 O3 O4 O5 hbw ⊢
  clear hW hB
  with_reducible refine (H8.out _ h).mono ?_
  rintro e w14 ⟨of6, or6, om6, kf6, kr6, km6, rfl, O6, hbk⟩
  replace D0 := D0.below hbk
  replace D1 := D1.below hbk
  replace D2 := D2.below hbk
  replace D3 := D3.below hbk
  replace D4 := D4.below hbk
  replace D5 := D5.below hbk
  replace h := h.below hbk
  replace O1 := O1.below hbk
  replace O2 := O2.below hbk
  replace O3 := O3.below hbk
  replace O4 := O4.below hbk
  replace O5 := O5.below hbk
  replace hbw := hbw.trans (hbk.mono hbw.size)
  clear hbk
  obtain ⟨n6, hgn⟩ : ∃ n, (Pl.F Q3).length = n := ⟨_, rfl⟩
  obtain ⟨r6, hgr⟩ : ∃ n, (Pl.R Q3).length = n := ⟨_, rfl⟩
  obtain ⟨m6, hgm⟩ : ∃ n, (Pl.M Q3).length = n := ⟨_, rfl⟩
  rw [hgn, hgr, hgm] at O6 ⊢
  clear hgn hgr hgm
  obtain ⟨D0_c, D0_f, D0_z⟩ := D0.all
  obtain ⟨D1_c, D1_f, D1_z⟩ := D1.all
  obtain ⟨D2_c, D2_f, D2_z⟩ := D2.all
  obtain ⟨D3_c, D3_f, D3_z⟩ := D3.all
  obtain ⟨D4_c, D4_f, D4_z⟩ := D4.all
  obtain ⟨D5_c, D5_f, D5_z⟩ := D5.all
  go_wp2_with fail
  clear D0_c D0_f D0_z
  clear D1_c D1_f D1_z
  clear D2_c D2_f D2_z
  clear D3_c D3_f D3_z
  clear D4_c D4_f D4_z
  clear D5_c D5_f D5_z
  have hw6 := hbw.size
  have lD0x6 := D0.lt
  have lD1x6 := D1.lt
  have lD2x6 := D2.lt
  have lD3x6 := D3.lt
  have lD4x6 := D4.lt
  have lD5x6 := D5.lt
  have hbx : Below w14.heap.size w14 (w14.alloc (.cells #[.slice of6 n6 kf6, .slice or6 r6 kr6, .slice om6 m6 km6] 26)) := (Below.refl _ _).alloc (Nat.le_refl _) _
  replace D0 := D0.below hbx
  replace D1 := D1.below hbx
  replace D2 := D2.below hbx
  replace D3 := D3.below hbx
  replace D4 := D4.below hbx
  replace D5 := D5.below hbx
  replace h := h.below hbx
  replace O1 := O1.below hbx
  replace O2 := O2.below hbx
  replace O3 := O3.below hbx
  replace O4 := O4.below hbx
  replace O5 := O5.below hbx
  replace O6 := O6.below hbx
  have D6 := HasBlock.made w14 #[.slice of6 n6 kf6, .slice or6 r6 kr6, .slice om6 m6 km6] 26
  replace hbw := hbw.trans (hbx.mono hbw.size)
  clear hbx
  obtain ⟨B6, hB⟩ : ∃ B, w14.heap.size = B := ⟨_, rfl⟩
  rw [hB] at D6 hw6 ⊢
  rw [hB] at lD0x6
  rw [hB] at lD1x6
  rw [hB] at lD2x6
  rw [hB] at lD3x6
  rw [hB] at lD4x6
  rw [hB] at lD5x6
  generalize hW : w14.alloc (.cells #[.slice of6 n6 kf6, .slice or6 r6 kr6, .slice om6 m6 km6] 26) = w15 at D0 D1 D2 D3 D4 D5 D6 h O1 O2 O3 O4 O5 O6 hbw ⊢
  clear hW hB
  with_reducible refine (H9.out _ h).mono ?_
  rintro e w16 ⟨of7, or7, om7, kf7, kr7, km7, rfl, O7, hbk⟩
  replace D0 := D0.below hbk
  replace D1 := D1.below hbk
  replace D2 := D2.below hbk
  replace D3 := D3.below hbk
  replace D4 := D4.below hbk
  replace D5 := D5.below hbk
  replace D6 := D6.below hbk
  replace h := h.below hbk
  replace O1 := O1.below hbk
  replace O2 := O2.below hbk
  replace O3 := O3.below hbk
  replace O4 := O4.below hbk
  replace O5 := O5.below hbk
  replace O6 := O6.below hbk
  replace hbw := hbw.trans (hbk.mono hbw.size)
  clear hbk
  obtain ⟨n7, hgn⟩ : ∃ n, (Pl.F Q4).length = n := ⟨_, rfl⟩
  obtain ⟨r7, hgr⟩ : ∃ n, (Pl.R Q4).length = n := ⟨_, rfl⟩
  obtain ⟨m7, hgm⟩ : ∃ n, (Pl.M Q4).length = n := ⟨_, rfl⟩
  rw [hgn, hgr, hgm] at O7 ⊢
  clear hgn hgr hgm
  obtain ⟨D0_c, D0_f, D0_z⟩ := D0.all
  obtain ⟨D1_c, D1_f, D1_z⟩ := D1.all
  obtain ⟨D2_c, D2_f, D2_z⟩ := D2.all
  obtain ⟨D3_c, D3_f, D3_z⟩ := D3.all
  obtain ⟨D4_c, D4_f, D4_z⟩ := D4.all
  obtain ⟨D5_c, D5_f, D5_z⟩ := D5.all
  obtain ⟨D6_c, D6_f, D6_z⟩ := D6.all
  go_wp2_with fail
  clear D0_c D0_f D0_z
  clear D1_c D1_f D1_z
  clear D2_c D2_f D2_z
  clear D3_c D3_f D3_z
  clear D4_c D4_f D4_z
  clear D5_c D5_f D5_z
  clear D6_c D6_f D6_z
  have hw7 := hbw.size
  have lD0x7 := D0.lt
  have lD1x7 := D1.lt
  have lD2x7 := D2.lt
  have lD3x7 := D3.lt
  have lD4x7 := D4.lt
  have lD5x7 := D5.lt
  have lD6x7 := D6.lt
  have hbx : Below w16.heap.size w16 (w16.alloc (.cells #[.slice of7 n7 kf7, .slice or7 r7 kr7, .slice om7 m7 km7] 26)) := (Below.refl _ _).alloc (Nat.le_refl _) _
  replace D0 := D0.below hbx
  replace D1 := D1.below hbx
  replace D2 := D2.below hbx
  replace D3 := D3.below hbx
  replace D4 := D4.below hbx
  replace D5 := D5.below hbx
  replace D6 := D6.below hbx
  replace h := h.below hbx
  replace O1 := O1.below hbx
  replace O2 := O2.below hbx
  replace O3 := O3.below hbx
  replace O4 := O4.below hbx
  replace O5 := O5.below hbx
  replace O6 := O6.below hbx
  replace O7 := O7.below hbx
  have D7 := HasBlock.made w16 #[.slice of7 n7 kf7, .slice or7 r7 kr7, .slice om7 m7 km7] 26
  replace hbw := hbw.trans (hbx.mono hbw.size)
  clear hbx
  obtain ⟨B7, hB⟩ : ∃ B, w16.heap.size = B := ⟨_, rfl⟩
  rw [hB] at D7 hw7 ⊢
  rw [hB] at lD0x7
  rw [hB] at lD1x7
  rw [hB] at lD2x7
  rw [hB] at lD3x7
  rw [hB] at lD4x7
  rw [hB] at lD5x7
  rw [hB] at lD6x7
  generalize hW : w16.alloc (.cells #[.slice of7 n7 kf7, .slice or7 r7 kr7, .slice om7 m7 km7] 26) = w17 at D0 D1 D2 D3 D4 D5 D6 D7 h O1 O2 O3 O4 O5 O6 O7 hbw ⊢
  clear hW hB
  with_reducible refine (H10.out _ h).mono ?_
  rintro e w18 ⟨of8, or8, om8, kf8, kr8, km8, rfl, O8, hbk⟩
  replace D0 := D0.below hbk
  replace D1 := D1.below hbk
  replace D2 := D2.below hbk
  replace D3 := D3.below hbk
  replace D4 := D4.below hbk
  replace D5 := D5.below hbk
  replace D6 := D6.below hbk
  replace D7 := D7.below hbk
  replace h := h.below hbk
  replace O1 := O1.below hbk
  replace O2 := O2.below hbk
  replace O3 := O3.below hbk
  replace O4 := O4.below hbk
  replace O5 := O5.below hbk
  replace O6 := O6.below hbk
  replace O7 := O7.below hbk
  replace hbw := hbw.trans (hbk.mono hbw.size)
  clear hbk
  obtain ⟨n8, hgn⟩ : ∃ n, (Pl.F Q4).length = n := ⟨_, rfl⟩
  obtain ⟨r8, hgr⟩ : ∃ n, (Pl.R Q4).length = n := ⟨_, rfl⟩
  obtain ⟨m8, hgm⟩ : ∃ n, (Pl.M Q4).length = n := ⟨_, rfl⟩
  rw [hgn, hgr, hgm] at O8 ⊢
  clear hgn hgr hgm
  obtain ⟨D0_c, D0_f, D0_z⟩ := D0.all
  obtain ⟨D1_c, D1_f, D1_z⟩ := D1.all
  obtain ⟨D2_c, D2_f, D2_z⟩ := D2.all
  obtain ⟨D3_c, D3_f, D3_z⟩ := D3.all
  obtain ⟨D4_c, D4_f, D4_z⟩ := D4.all
  obtain ⟨D5_c, D5_f, D5_z⟩ := D5.all
  obtain ⟨D6_c, D6_f, D6_z⟩ := D6.all
  obtain ⟨D7_c, D7_f, D7_z⟩ := D7.all
  go_wp2_with fail
  clear D0_c D0_f D0_z
  clear D1_c D1_f D1_z
  clear D2_c D2_f D2_z
  clear D3_c D3_f D3_z
  clear D4_c D4_f D4_z
  clear D5_c D5_f D5_z
  clear D6_c D6_f D6_z
  clear D7_c D7_f D7_z
  have hw8 := hbw.size
  have lD0x8 := D0.lt
  have lD1x8 := D1.lt
  have lD2x8 := D2.lt
  have lD3x8 := D3.lt
  have lD4x8 := D4.lt
  have lD5x8 := D5.lt
  have lD6x8 := D6.lt
  have lD7x8 := D7.lt
  have hbx : Below w18.heap.size w18 (w18.alloc (.cells #[.slice of8 n8 kf8, .slice or8 r8 kr8, .slice om8 m8 km8] 26)) := (Below.refl _ _).alloc (Nat.le_refl _) _
  replace D0 := D0.below hbx
  replace D1 := D1.below hbx
  replace D2 := D2.below hbx
  replace D3 := D3.below hbx
  replace D4 := D4.below hbx
  replace D5 := D5.below hbx
  replace D6 := D6.below hbx
  replace D7 := D7.below hbx
  replace h := h.below hbx
  replace O1 := O1.below hbx
  replace O2 := O2.below hbx
  replace O3 := O3.below hbx
  replace O4 := O4.below hbx
  replace O5 := O5.below hbx
  replace O6 := O6.below hbx
  replace O7 := O7.below hbx
  replace O8 := O8.below hbx
  have D8 := HasBlock.made w18 #[.slice of8 n8 kf8, .slice or8 r8 kr8, .slice om8 m8 km8] 26
  replace hbw := hbw.trans (hbx.mono hbw.size)
  clear hbx
  obtain ⟨B8, hB⟩ : ∃ B, w18.heap.size = B := ⟨_, rfl⟩
  rw [hB] at D8 hw8 ⊢
  rw [hB] at lD0x8
  rw [hB] at lD1x8
  rw [hB] at lD2x8
  rw [hB] at lD3x8
  rw [hB] at lD4x8
  rw [hB] at lD5x8
  rw [hB] at lD6x8
  rw [hB] at lD7x8
  generalize hW : w18.alloc (.cells #[.slice of8 n8 kf8, .slice or8 r8 kr8, .slice om8 m8 km8] 26) = w19 at D0 D1 D2 D3 D4 D5 D6 D7 D8 h O1 O2 O3 O4 O5 O6 O7 O8 hbw ⊢
  clear hW hB
  obtain ⟨D0_c, D0_f, D0_z⟩ := D0.all
  obtain ⟨D1_c, D1_f, D1_z⟩ := D1.all
  obtain ⟨D2_c, D2_f, D2_z⟩ := D2.all
  obtain ⟨D3_c, D3_f, D3_z⟩ := D3.all
  obtain ⟨D4_c, D4_f, D4_z⟩ := D4.all
  obtain ⟨D5_c, D5_f, D5_z⟩ := D5.all
  obtain ⟨D6_c, D6_f, D6_z⟩ := D6.all
  obtain ⟨D7_c, D7_f, D7_z⟩ := D7.all
  obtain ⟨D8_c, D8_f, D8_z⟩ := D8.all
  refine wp_region_quiet_below (by kernel_rfl) (by kernel_rfl) ?_
  repeat (go_big_quiet_step (first | fail | (first | (go_at_call 16; exact quiet_ret (H11.out _ (h.below (below_regrown _ _ _)))) | (go_at_call 27; exact quiet_ret (H12.out _ (h.below (below_regrown _ _ _)))) | (go_at_call 18; exact quiet_ret (H13.out _ (h.below (below_regrown _ _ _)))) | (go_at_call 28; exact quiet_ret (H14.out _ (h.below (below_regrown _ _ _)))) | (go_at_call 19; exact quiet_ret (H15.out _ (h.below (below_regrown _ _ _)))) | (go_at_call 29; exact quiet_ret (H16.out _ (h.below (below_regrown _ _ _)))))))
  refine wpQuiet_nil ?_
  intro w20 hw20
  have hb20 := below_of_regrown hw20
  clear hw20
  obtain ⟨hc20, hf20⟩ := bcell hb20
  have hz20 := bsize hb20
  try simp only [sizes1] at hz20
  try simp only [sizes] at hc20 hf20
  clear hc20 hf20 hz20
  clear D0_c D0_f D0_z
  clear D1_c D1_f D1_z
  clear D2_c D2_f D2_z
  clear D3_c D3_f D3_z
  clear D4_c D4_f D4_z
  clear D5_c D5_f D5_z
  clear D6_c D6_f D6_z
  clear D7_c D7_f D7_z
  clear D8_c D8_f D8_z
  replace D0 := D0.below hb20
  replace D1 := D1.below hb20
  replace D2 := D2.below hb20
  replace D3 := D3.below hb20
  replace D4 := D4.below hb20
  replace D5 := D5.below hb20
  replace D6 := D6.below hb20
  replace D7 := D7.below hb20
  replace D8 := D8.below hb20
  replace h := h.below hb20
  replace O1 := O1.below hb20
  replace O2 := O2.below hb20
  replace O3 := O3.below hb20
  replace O4 := O4.below hb20
  replace O5 := O5.below hb20
  replace O6 := O6.below hb20
  replace O7 := O7.below hb20
  replace O8 := O8.below hb20
  replace hbw := hbw.trans (hb20.mono hbw.size)
  clear hb20
  obtain ⟨D0_c, D0_f, D0_z⟩ := D0.all
  obtain ⟨D1_c, D1_f, D1_z⟩ := D1.all
  obtain ⟨D2_c, D2_f, D2_z⟩ := D2.all
  obtain ⟨D3_c, D3_f, D3_z⟩ := D3.all
  obtain ⟨D4_c, D4_f, D4_z⟩ := D4.all
  obtain ⟨D5_c, D5_f, D5_z⟩ := D5.all
  obtain ⟨D6_c, D6_f, D6_z⟩ := D6.all
  obtain ⟨D7_c, D7_f, D7_z⟩ := D7.all
  obtain ⟨D8_c, D8_f, D8_z⟩ := D8.all
  go_wp2_with fail
  clear D0_c D0_f D0_z
  clear D1_c D1_f D1_z
  clear D2_c D2_f D2_z
  clear D3_c D3_f D3_z
  clear D4_c D4_f D4_z
  clear D5_c D5_f D5_z
  clear D6_c D6_f D6_z
  clear D7_c D7_f D7_z
  clear D8_c D8_f D8_z
  with_reducible refine (psame_any _ _ Q1 _ O1 O2).mono ?_
  rintro e w21 ⟨rfl, hbk⟩
  replace D0 := D0.below hbk
  replace D1 := D1.below hbk
  replace D2 := D2.below hbk
  replace D3 := D3.below hbk
  replace D4 := D4.below hbk
  replace D5 := D5.below hbk
  replace D6 := D6.below hbk
  replace D7 := D7.below hbk
  replace D8 := D8.below hbk
  replace h := h.below hbk
  replace O1 := O1.below hbk
  replace O2 := O2.below hbk
  replace O3 := O3.below hbk
  replace O4 := O4.below hbk
  replace O5 := O5.below hbk
  replace O6 := O6.below hbk
  replace O7 := O7.below hbk
  replace O8 := O8.below hbk
  replace hbw := hbw.trans (hbk.mono hbw.size)
  clear hbk
  obtain ⟨D0_c, D0_f, D0_z⟩ := D0.all
  obtain ⟨D1_c, D1_f, D1_z⟩ := D1.all
  obtain ⟨D2_c, D2_f, D2_z⟩ := D2.all
  obtain ⟨D3_c, D3_f, D3_z⟩ := D3.all
  obtain ⟨D4_c, D4_f, D4_z⟩ := D4.all
  obtain ⟨D5_c, D5_f, D5_z⟩ := D5.all
  obtain ⟨D6_c, D6_f, D6_z⟩ := D6.all
  obtain ⟨D7_c, D7_f, D7_z⟩ := D7.all
  obtain ⟨D8_c, D8_f, D8_z⟩ := D8.all
  go_wp2_with fail
  clear D0_c D0_f D0_z
  clear D1_c D1_f D1_z
  clear D2_c D2_f D2_z
  clear D3_c D3_f D3_z
  clear D4_c D4_f D4_z
  clear D5_c D5_f D5_z
  clear D6_c D6_f D6_z
  clear D7_c D7_f D7_z
  clear D8_c D8_f D8_z
  with_reducible refine (psame_any _ _ Q2 _ O3 O4).mono ?_
  rintro e w22 ⟨rfl, hbk⟩
  replace D0 := D0.below hbk
  replace D1 := D1.below hbk
  replace D2 := D2.below hbk
  replace D3 := D3.below hbk
  replace D4 := D4.below hbk
  replace D5 := D5.below hbk
  replace D6 := D6.below hbk
  replace D7 := D7.below hbk
  replace D8 := D8.below hbk
  replace h := h.below hbk
  replace O1 := O1.below hbk
  replace O2 := O2.below hbk
  replace O3 := O3.below hbk
  replace O4 := O4.below hbk
  replace O5 := O5.below hbk
  replace O6 := O6.below hbk
  replace O7 := O7.below hbk
  replace O8 := O8.below hbk
  replace hbw := hbw.trans (hbk.mono hbw.size)
  clear hbk
  obtain ⟨D0_c, D0_f, D0_z⟩ := D0.all
  obtain ⟨D1_c, D1_f, D1_z⟩ := D1.all
  obtain ⟨D2_c, D2_f, D2_z⟩ := D2.all
  obtain ⟨D3_c, D3_f, D3_z⟩ := D3.all
  obtain ⟨D4_c, D4_f, D4_z⟩ := D4.all
  obtain ⟨D5_c, D5_f, D5_z⟩ := D5.all
  obtain ⟨D6_c, D6_f, D6_z⟩ := D6.all
  obtain ⟨D7_c, D7_f, D7_z⟩ := D7.all
  obtain ⟨D8_c, D8_f, D8_z⟩ := D8.all
  go_wp2_with fail
  clear D0_c D0_f D0_z
  clear D1_c D1_f D1_z
  clear D2_c D2_f D2_z
  clear D3_c D3_f D3_z
  clear D4_c D4_f D4_z
  clear D5_c D5_f D5_z
  clear D6_c D6_f D6_z
  clear D7_c D7_f D7_z
  clear D8_c D8_f D8_z
  with_reducible refine (psame_any _ _ Q3 _ O5 O6).mono ?_
  rintro e w23 ⟨rfl, hbk⟩
  replace D0 := D0.below hbk
  replace D1 := D1.below hbk
  replace D2 := D2.below hbk
  replace D3 := D3.below hbk
  replace D4 := D4.below hbk
  replace D5 := D5.below hbk
  replace D6 := D6.below hbk
  replace D7 := D7.below hbk
  replace D8 := D8.below hbk
  replace h := h.below hbk
  replace O1 := O1.below hbk
  replace O2 := O2.below hbk
  replace O3 := O3.below hbk
  replace O4 := O4.below hbk
  replace O5 := O5.below hbk
  replace O6 := O6.below hbk
  replace O7 := O7.below hbk
  replace O8 := O8.below hbk
  replace hbw := hbw.trans (hbk.mono hbw.size)
  clear hbk
  obtain ⟨D0_c, D0_f, D0_z⟩ := D0.all
  obtain ⟨D1_c, D1_f, D1_z⟩ := D1.all
  obtain ⟨D2_c, D2_f, D2_z⟩ := D2.all
  obtain ⟨D3_c, D3_f, D3_z⟩ := D3.all
  obtain ⟨D4_c, D4_f, D4_z⟩ := D4.all
  obtain ⟨D5_c, D5_f, D5_z⟩ := D5.all
  obtain ⟨D6_c, D6_f, D6_z⟩ := D6.all
  obtain ⟨D7_c, D7_f, D7_z⟩ := D7.all
  obtain ⟨D8_c, D8_f, D8_z⟩ := D8.all
  go_wp2_with fail
  clear D0_c D0_f D0_z
  clear D1_c D1_f D1_z
  clear D2_c D2_f D2_z
  clear D3_c D3_f D3_z
  clear D4_c D4_f D4_z
  clear D5_c D5_f D5_z
  clear D6_c D6_f D6_z
  clear D7_c D7_f D7_z
  clear D8_c D8_f D8_z
  with_reducible refine (psame_any _ _ Q4 _ O7 O8).mono ?_
  rintro e w24 ⟨rfl, hbk⟩
  replace D0 := D0.below hbk
  replace D1 := D1.below hbk
  replace D2 := D2.below hbk
  replace D3 := D3.below hbk
  replace D4 := D4.below hbk
  replace D5 := D5.below hbk
  replace D6 := D6.below hbk
  replace D7 := D7.below hbk
  replace D8 := D8.below hbk
  replace h := h.below hbk
  replace O1 := O1.below hbk
  replace O2 := O2.below hbk
  replace O3 := O3.below hbk
  replace O4 := O4.below hbk
  replace O5 := O5.below hbk
  replace O6 := O6.below hbk
  replace O7 := O7.below hbk
  replace O8 := O8.below hbk
  replace hbw := hbw.trans (hbk.mono hbw.size)
  clear hbk
  obtain ⟨D0_c, D0_f, D0_z⟩ := D0.all
  obtain ⟨D1_c, D1_f, D1_z⟩ := D1.all
  obtain ⟨D2_c, D2_f, D2_z⟩ := D2.all
  obtain ⟨D3_c, D3_f, D3_z⟩ := D3.all
  obtain ⟨D4_c, D4_f, D4_z⟩ := D4.all
  obtain ⟨D5_c, D5_f, D5_z⟩ := D5.all
  obtain ⟨D6_c, D6_f, D6_z⟩ := D6.all
  obtain ⟨D7_c, D7_f, D7_z⟩ := D7.all
  obtain ⟨D8_c, D8_f, D8_z⟩ := D8.all
  go_wp2_with fail
  clear D0_c D0_f D0_z
  clear D1_c D1_f D1_z
  clear D2_c D2_f D2_z
  clear D3_c D3_f D3_z
  clear D4_c D4_f D4_z
  clear D5_c D5_f D5_z
  clear D6_c D6_f D6_z
  clear D7_c D7_f D7_z
  clear D8_c D8_f D8_z
  go_ret
  exact Ret.mk hbw
end Go.Proofs.Ytjoopjgpjkmmhaa
