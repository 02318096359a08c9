/-
  The fixed pool of the laws, walked.
-/
import Derived.Test.YtjoopjgpjkmmhaaPlCarry
import Derived.Deep.RegionHeld3
namespace Go.Proofs.Ytjoopjgpjkmmhaa
open Go.RowKit

def s1 : ByteArray := pageS 1
def s2 : ByteArray := pageS 2
def aw0 : Pl := newPl 3
def aw1 : Pl := aw0.add 2
def aw2 : Pl := aw1.add 2
def aw3 : Pl := aw2.wr 0 0 s1
def aw4 : Pl := aw3.wr 1 1 s1
def awq : Pl := aw4.sh 1 1
def awr : Pl := awq.wr 0 0 s2
theorem aw_ok : aw0.ok = true ∧ aw1.ok = true ∧ aw2.ok = true ∧ aw3.ok = true ∧ aw4.ok = true ∧ awq.ok = true ∧ awr.ok = true := by decide +kernel
theorem aw_good : newOk 3 = true ∧ aw0.goodA 2 = true ∧ aw1.goodA 2 = true ∧ aw2.wok 0 0 s1 = true ∧ aw3.wok 1 1 s1 = true ∧ aw4.sok 1 1 = true ∧ awq.wok 0 0 s2 = true := by decide +kernel
theorem aw_read : awq.has 1 1 = true ∧ awq.read 1 1 = s1 ∧ awr.has 1 1 = true ∧ awr.read 1 1 = s1 := by decide +kernel
theorem aw_num : aw4.free = 1 ∧ awq.free = 2 ∧ awr.free = 1 ∧ awr.charge 1 = 1 := by decide +kernel
/-! each callee at its fixed arguments -/
theorem Pl.fit_ok {P : Pl} (h : P.ok = true) : P.fit := (Pl.ok_iff.1 h).fit
theorem Pl.small_ok {P : Pl} (h : P.ok = true) : P.small := (Pl.ok_iff.1 h).small
theorem aw_new (w : World) : Calls Try.prog 20 #[.int .i64 3] w (RetPool2 aw0 true w) := by
  have h := pnew_any 3 w
  rw [aw_good.1] at h
  exact h
theorem aw_add0 (v : Value) (w : World) (h : PlRow w v aw0) : Calls Try.prog 21 #[v, .int .i64 2] w (RetPool2 aw1 true w) := by
  have h := padd_any v aw0 2 w h (Pl.fit_ok aw_ok.1) (Pl.small_ok aw_ok.1)
  rw [aw_good.2.1] at h
  exact h
theorem aw_add1 (v : Value) (w : World) (h : PlRow w v aw1) : Calls Try.prog 21 #[v, .int .i64 2] w (RetPool2 aw2 true w) := by
  have h := padd_any v aw1 2 w h (Pl.fit_ok aw_ok.2.1) (Pl.small_ok aw_ok.2.1)
  rw [aw_good.2.2.1] at h
  exact h
theorem aw_write2 (v : Value) (w : World) (h : PlRow w v aw2) : Calls Try.prog 15 #[v, .int .i64 0, .int .i64 0, .string s1] w (RetPool2 aw3 true w) := by
  have h := pwrite_any v aw2 0 0 s1 w h (Pl.fit_ok aw_ok.2.2.1) (Pl.small_ok aw_ok.2.2.1)
  rw [aw_good.2.2.2.1] at h
  exact h
theorem aw_write3 (v : Value) (w : World) (h : PlRow w v aw3) : Calls Try.prog 15 #[v, .int .i64 1, .int .i64 1, .string s1] w (RetPool2 aw4 true w) := by
  have h := pwrite_any v aw3 1 1 s1 w h (Pl.fit_ok aw_ok.2.2.2.1) (Pl.small_ok aw_ok.2.2.2.1)
  rw [aw_good.2.2.2.2.1] at h
  exact h
theorem aw_share4 (v : Value) (w : World) (h : PlRow w v aw4) : Calls Try.prog 14 #[v, .int .i64 1, .int .i64 1] w (RetPool2 awq true w) := by
  have h := pshare_any v aw4 1 1 w h (Pl.fit_ok aw_ok.2.2.2.2.1) (Pl.small_ok aw_ok.2.2.2.2.1)
  rw [aw_good.2.2.2.2.2.1] at h
  exact h
theorem aw_readq (v : Value) (w : World) (h : PlRow w v awq) : Calls Try.prog 17 #[v, .int .i64 1, .int .i64 1] w (Ret w (.tuple #[.string s1, .bool true])) := by
  have h := pread_any v awq 1 1 w h (Pl.fit_ok aw_ok.2.2.2.2.2.1)
  rw [aw_read.1, aw_read.2.1] at h
  exact h
theorem aw_writeq (v : Value) (w : World) (h : PlRow w v awq) : Calls Try.prog 15 #[v, .int .i64 0, .int .i64 0, .string s2] w (RetPool2 awr true w) := by
  have h := pwrite_any v awq 0 0 s2 w h (Pl.fit_ok aw_ok.2.2.2.2.2.1) (Pl.small_ok aw_ok.2.2.2.2.2.1)
  rw [aw_good.2.2.2.2.2.2] at h
  exact h
theorem aw_readr (v : Value) (w : World) (h : PlRow w v awr) : Calls Try.prog 17 #[v, .int .i64 1, .int .i64 1] w (Ret w (.tuple #[.string s1, .bool true])) := by
  have h := pread_any v awr 1 1 w h (Pl.fit_ok aw_ok.2.2.2.2.2.2)
  rw [aw_read.2.2.1, aw_read.2.2.2] at h
  exact h
theorem aw_free4 (v : Value) (w : World) (h : PlRow w v aw4) : Calls Try.prog 18 #[v] w (Ret w (.int .i64 1)) := by
  have h := pfree_any v aw4 w h (Pl.fit_ok aw_ok.2.2.2.2.1)
  rw [aw_num.1] at h
  exact h
theorem aw_freeq (v : Value) (w : World) (h : PlRow w v awq) : Calls Try.prog 18 #[v] w (Ret w (.int .i64 2)) := by
  have h := pfree_any v awq w h (Pl.fit_ok aw_ok.2.2.2.2.2.1)
  rw [aw_num.2.1] at h
  exact h
theorem aw_freer (v : Value) (w : World) (h : PlRow w v awr) : Calls Try.prog 18 #[v] w (Ret w (.int .i64 1)) := by
  have h := pfree_any v awr w h (Pl.fit_ok aw_ok.2.2.2.2.2.2)
  rw [aw_num.2.2.1] at h
  exact h
theorem aw_charge (v : Value) (w : World) (h : PlRow w v awr) : Calls Try.prog 19 #[v, .int .i64 1] w (Ret w (.int .i64 1)) := by
  have h := pcharge_any v awr 1 w h (Pl.fit_ok aw_ok.2.2.2.2.2.2)
  rw [aw_num.2.2.2] at h
  exact h
theorem aw_page1 (w : World) : Calls Try.prog 12 #[.int .i64 1] w (Ret w (.string s1)) := page_any 1 w (by omega)
theorem aw_page2 (w : World) : Calls Try.prog 12 #[.int .i64 2] w (Ret w (.string s2)) := page_any 2 w (by omega)
/-- What the second write leaves. -/
def AwAt (w0 : World) (B0 B5 : Nat) (b0 b5 : Array Value) (vf4 vr4 vm4 vf5 vr5 vm5 : Value) (us4 us5 : List Value) (v v2 : Value) (wx : World) : Prop := ∃ (B : Nat) (of or' om : Option Addr) (n r m kf kr km : Nat) (us : List Value), v = .pointer (some ⟨B, 0, none⟩) ∧ v2 = .bool true ∧ HasBlock wx B #[.slice of n kf, .slice or' r kr, .slice om m km] 26 ∧ OwnP 0 wx (.slice of n kf) (.slice or' r kr) (.slice om m km) us awr ∧
  HasBlock wx B0 b0 26 ∧ HasBlock wx B5 b5 26 ∧ OwnP 0 wx vf4 vr4 vm4 us4 aw4 ∧ OwnP 0 wx vf5 vr5 vm5 us5 awq ∧ Below w0.heap.size w0 wx
set_option maxRecDepth 100000 in
set_option maxHeartbeats 8000000 in
theorem awake_any (w : World) : Calls Try.prog 9 #[] w (Ret w (.bool true)) := by
  have hbw : Below w.heap.size w w := Below.refl _ _
  go_enter Try.func9, Try.ntmps9
  go_wp2_with fail
  with_reducible refine (aw_new _).mono ?_
  rintro e w1 ⟨of0, or0, om0, kf0, kr0, km0, us0, rfl, O0, hb1⟩
  replace hbw := hbw.trans (hb1.mono hbw.size)
  clear hb1
  obtain ⟨n0, hgn⟩ : ∃ n, (Pl.F aw0).length = n := ⟨_, rfl⟩
  obtain ⟨r0, hgr⟩ : ∃ n, (Pl.R aw0).length = n := ⟨_, rfl⟩
  obtain ⟨m0, hgm⟩ : ∃ n, (Pl.M aw0).length = n := ⟨_, rfl⟩
  rw [hgn, hgr, hgm] at O0 ⊢
  clear hgn hgr hgm
  go_wp2_with fail
  have hw0 := hbw.size
  have hbx : Below w1.heap.size w1 (w1.alloc (.cells #[.slice of0 n0 kf0, .slice or0 r0 kr0, .slice om0 m0 km0] 26)) := (Below.refl _ _).alloc (Nat.le_refl _) _
  replace O0 := O0.below hbx
  have D0 := HasBlock.made w1 #[.slice of0 n0 kf0, .slice or0 r0 kr0, .slice om0 m0 km0] 26
  replace hbw := hbw.trans (hbx.mono hbw.size)
  clear hbx
  obtain ⟨B0, hB⟩ : ∃ B, w1.heap.size = B := ⟨_, rfl⟩
  rw [hB] at D0 hw0 ⊢
  generalize hW : w1.alloc (.cells #[.slice of0 n0 kf0, .slice or0 r0 kr0, .slice om0 m0 km0] 26) = w2 at D0 O0 hbw ⊢
  clear hW hB
  with_reducible refine (aw_add0 _ _ O0.row).mono ?_
  rintro e w3 ⟨of1, or1, om1, kf1, kr1, km1, us1, rfl, O1, hbk⟩
  replace D0 := D0.below hbk
  replace hbw := hbw.trans (hbk.mono hbw.size)
  clear hbk
  clear O0
  obtain ⟨n1, hgn⟩ : ∃ n, (Pl.F aw1).length = n := ⟨_, rfl⟩
  obtain ⟨r1, hgr⟩ : ∃ n, (Pl.R aw1).length = n := ⟨_, rfl⟩
  obtain ⟨m1, hgm⟩ : ∃ n, (Pl.M aw1).length = n := ⟨_, rfl⟩
  rw [hgn, hgr, hgm] at O1 ⊢
  clear hgn hgr hgm
  obtain ⟨D0_c, D0_f, D0_z⟩ := D0.all
  go_wp2_with fail
  clear D0_c D0_f D0_z
  replace O1 := O1.fill D0 (by decide) (by decide) (by decide) (.slice of1 n1 kf1) (.slice or1 r1 kr1) (.slice om1 m1 km1)
  replace D0 := D0.fill (.slice of1 n1 kf1) (.slice or1 r1 kr1) (.slice om1 m1 km1)
  replace hbw := ((hbw.setCell (p := ⟨B0, 0, none⟩) (by dsimp only; omega) (.slice of1 n1 kf1)).setCell (p := ⟨B0, 1, none⟩) (by dsimp only; omega) (.slice or1 r1 kr1)).setCell (p := ⟨B0, 2, none⟩) (by dsimp only; omega) (.slice om1 m1 km1)
  generalize hW : ((World.setCell w3 ⟨B0, 0, none⟩ (.slice of1 n1 kf1)).setCell ⟨B0, 1, none⟩ (.slice or1 r1 kr1)).setCell ⟨B0, 2, none⟩ (.slice om1 m1 km1) = w4 at D0 O1 hbw ⊢
  clear hW
  with_reducible refine (aw_add1 _ _ O1.row).mono ?_
  rintro e w5 ⟨of2, or2, om2, kf2, kr2, km2, us2, rfl, O2, hbk⟩
  replace D0 := D0.below hbk
  replace hbw := hbw.trans (hbk.mono hbw.size)
  clear hbk
  clear O1
  obtain ⟨n2, hgn⟩ : ∃ n, (Pl.F aw2).length = n := ⟨_, rfl⟩
  obtain ⟨r2, hgr⟩ : ∃ n, (Pl.R aw2).length = n := ⟨_, rfl⟩
  obtain ⟨m2, hgm⟩ : ∃ n, (Pl.M aw2).length = n := ⟨_, rfl⟩
  rw [hgn, hgr, hgm] at O2 ⊢
  clear hgn hgr hgm
  obtain ⟨D0_c, D0_f, D0_z⟩ := D0.all
  go_wp2_with fail
  clear D0_c D0_f D0_z
  replace O2 := O2.fill D0 (by decide) (by decide) (by decide) (.slice of2 n2 kf2) (.slice or2 r2 kr2) (.slice om2 m2 km2)
  replace D0 := D0.fill (.slice of2 n2 kf2) (.slice or2 r2 kr2) (.slice om2 m2 km2)
  replace hbw := ((hbw.setCell (p := ⟨B0, 0, none⟩) (by dsimp only; omega) (.slice of2 n2 kf2)).setCell (p := ⟨B0, 1, none⟩) (by dsimp only; omega) (.slice or2 r2 kr2)).setCell (p := ⟨B0, 2, none⟩) (by dsimp only; omega) (.slice om2 m2 km2)
  generalize hW : ((World.setCell w5 ⟨B0, 0, none⟩ (.slice of2 n2 kf2)).setCell ⟨B0, 1, none⟩ (.slice or2 r2 kr2)).setCell ⟨B0, 2, none⟩ (.slice om2 m2 km2) = w6 at D0 O2 hbw ⊢
  clear hW
  with_reducible refine (aw_page1 _).mono ?_
  rintro e w7 ⟨rfl, hbk⟩
  replace D0 := D0.below hbk
  replace O2 := O2.below hbk
  replace hbw := hbw.trans (hbk.mono hbw.size)
  clear hbk
  obtain ⟨D0_c, D0_f, D0_z⟩ := D0.all
  go_wp2_with fail
  clear D0_c D0_f D0_z
  with_reducible refine (aw_write2 _ _ O2.row).mono ?_
  rintro e w8 ⟨of3, or3, om3, kf3, kr3, km3, us3, rfl, O3, hbk⟩
  replace D0 := D0.below hbk
  replace hbw := hbw.trans (hbk.mono hbw.size)
  clear hbk
  clear O2
  obtain ⟨n3, hgn⟩ : ∃ n, (Pl.F aw3).length = n := ⟨_, rfl⟩
  obtain ⟨r3, hgr⟩ : ∃ n, (Pl.R aw3).length = n := ⟨_, rfl⟩
  obtain ⟨m3, hgm⟩ : ∃ n, (Pl.M aw3).length = n := ⟨_, rfl⟩
  rw [hgn, hgr, hgm] at O3 ⊢
  clear hgn hgr hgm
  obtain ⟨D0_c, D0_f, D0_z⟩ := D0.all
  go_wp2_with fail
  clear D0_c D0_f D0_z
  replace O3 := O3.fill D0 (by decide) (by decide) (by decide) (.slice of3 n3 kf3) (.slice or3 r3 kr3) (.slice om3 m3 km3)
  replace D0 := D0.fill (.slice of3 n3 kf3) (.slice or3 r3 kr3) (.slice om3 m3 km3)
  replace hbw := ((hbw.setCell (p := ⟨B0, 0, none⟩) (by dsimp only; omega) (.slice of3 n3 kf3)).setCell (p := ⟨B0, 1, none⟩) (by dsimp only; omega) (.slice or3 r3 kr3)).setCell (p := ⟨B0, 2, none⟩) (by dsimp only; omega) (.slice om3 m3 km3)
  generalize hW : ((World.setCell w8 ⟨B0, 0, none⟩ (.slice of3 n3 kf3)).setCell ⟨B0, 1, none⟩ (.slice or3 r3 kr3)).setCell ⟨B0, 2, none⟩ (.slice om3 m3 km3) = w9 at D0 O3 hbw ⊢
  clear hW
  with_reducible refine (aw_write3 _ _ O3.row).mono ?_
  rintro e w10 ⟨of4, or4, om4, kf4, kr4, km4, us4, rfl, O4, hbk⟩
  replace D0 := D0.below hbk
  replace hbw := hbw.trans (hbk.mono hbw.size)
  clear hbk
  clear O3
  obtain ⟨n4, hgn⟩ : ∃ n, (Pl.F aw4).length = n := ⟨_, rfl⟩
  obtain ⟨r4, hgr⟩ : ∃ n, (Pl.R aw4).length = n := ⟨_, rfl⟩
  obtain ⟨m4, hgm⟩ : ∃ n, (Pl.M aw4).length = n := ⟨_, rfl⟩
  rw [hgn, hgr, hgm] at O4 ⊢
  clear hgn hgr hgm
  obtain ⟨D0_c, D0_f, D0_z⟩ := D0.all
  go_wp2_with fail
  clear D0_c D0_f D0_z
  replace O4 := O4.fill D0 (by decide) (by decide) (by decide) (.slice of4 n4 kf4) (.slice or4 r4 kr4) (.slice om4 m4 km4)
  replace D0 := D0.fill (.slice of4 n4 kf4) (.slice or4 r4 kr4) (.slice om4 m4 km4)
  replace hbw := ((hbw.setCell (p := ⟨B0, 0, none⟩) (by dsimp only; omega) (.slice of4 n4 kf4)).setCell (p := ⟨B0, 1, none⟩) (by dsimp only; omega) (.slice or4 r4 kr4)).setCell (p := ⟨B0, 2, none⟩) (by dsimp only; omega) (.slice om4 m4 km4)
  generalize hW : ((World.setCell w10 ⟨B0, 0, none⟩ (.slice of4 n4 kf4)).setCell ⟨B0, 1, none⟩ (.slice or4 r4 kr4)).setCell ⟨B0, 2, none⟩ (.slice om4 m4 km4) = w11 at D0 O4 hbw ⊢
  clear hW
  with_reducible refine (aw_share4 _ _ O4.row).mono ?_
  rintro e w12 ⟨of5, or5, om5, kf5, kr5, km5, us5, rfl, O5, hbk⟩
  replace D0 := D0.below hbk
  replace O4 := O4.below hbk
  replace hbw := hbw.trans (hbk.mono hbw.size)
  clear hbk
  obtain ⟨n5, hgn⟩ : ∃ n, (Pl.F awq).length = n := ⟨_, rfl⟩
  obtain ⟨r5, hgr⟩ : ∃ n, (Pl.R awq).length = n := ⟨_, rfl⟩
  obtain ⟨m5, hgm⟩ : ∃ n, (Pl.M awq).length = n := ⟨_, rfl⟩
  rw [hgn, hgr, hgm] at O5 ⊢
  clear hgn hgr hgm
  obtain ⟨D0_c, D0_f, D0_z⟩ := D0.all
  go_wp2_with fail
  clear D0_c D0_f D0_z
  have hw5 := hbw.size
  have lD0x5 := D0.lt
  have hbx : Below w12.heap.size w12 (w12.alloc (.cells #[.slice of5 n5 kf5, .slice or5 r5 kr5, .slice om5 m5 km5] 26)) := (Below.refl _ _).alloc (Nat.le_refl _) _
  replace D0 := D0.below hbx
  replace O4 := O4.below hbx
  replace O5 := O5.below hbx
  have D5 := HasBlock.made w12 #[.slice of5 n5 kf5, .slice or5 r5 kr5, .slice om5 m5 km5] 26
  replace hbw := hbw.trans (hbx.mono hbw.size)
  clear hbx
  obtain ⟨B5, hB⟩ : ∃ B, w12.heap.size = B := ⟨_, rfl⟩
  rw [hB] at D5 hw5 ⊢
  rw [hB] at lD0x5
  generalize hW : w12.alloc (.cells #[.slice of5 n5 kf5, .slice or5 r5 kr5, .slice om5 m5 km5] 26) = w13 at D0 D5 O4 O5 hbw ⊢
  clear hW hB
  with_reducible refine (aw_readq _ _ O5.row).mono ?_
  rintro e w14 ⟨rfl, hbk⟩
  replace D0 := D0.below hbk
  replace D5 := D5.below hbk
  replace O4 := O4.below hbk
  replace O5 := O5.below hbk
  replace hbw := hbw.trans (hbk.mono hbw.size)
  clear hbk
  obtain ⟨D0_c, D0_f, D0_z⟩ := D0.all
  obtain ⟨D5_c, D5_f, D5_z⟩ := D5.all
  go_wp2_with fail
  clear D0_c D0_f D0_z
  clear D5_c D5_f D5_z
  go_cut [12, 13] from 54 to 58 (fun v v2 wx => AwAt w B0 B5 #[.slice of4 n4 kf4, .slice or4 r4 kr4, .slice om4 m4 km4] #[.slice of5 n5 kf5, .slice or5 r5 kr5, .slice om5 m5 km5] (.slice of4 n4 kf4) (.slice or4 r4 kr4) (.slice om4 m4 km4) (.slice of5 n5 kf5) (.slice or5 r5 kr5) (.slice om5 m5 km5) us4 us5 v v2 wx)
  case first =>
    obtain ⟨D0_c, D0_f, D0_z⟩ := D0.all
    obtain ⟨D5_c, D5_f, D5_z⟩ := D5.all
    have hrule : ∀ w' : World, Below w14.heap.size w14 w' → ∀ b o, b < w14.heap.size → w'.cell? ⟨b, o, none⟩ = w14.cell? ⟨b, o, none⟩ := fun w' h b o hlt => h.cell (p := ⟨b, o, none⟩) hlt
    go_region_held3 (fun w' => Below w14.heap.size w14 w') (repeat (first | with_reducible assumption | with_reducible exact Below.refl _ _ | (with_reducible refine Below.drew ?_) | (with_reducible refine Below.alloc' ?_ (Nat.le_refl _) _) | (with_reducible refine Below.setCell ?_ (by first | exact rfl | exact Nat.le_refl _ | omega | (dsimp only; omega) | (simp only [sizes]; done) | (simp only [sizes]; omega)) _) | (refine Below.trans ?_ (Below.mono (by with_reducible assumption) (by first | exact rfl | exact Nat.le_refl _ | omega | (dsimp only; omega) | (simp only [sizes]; done) | (simp only [sizes]; omega)))))) ((first
      |
       (go_at_call 12
        with_reducible refine (aw_page2 _).mono ?_
        rintro e w15 ⟨rfl, hb15⟩
        obtain ⟨hc15, hf15⟩ := bcell hb15
        have hzz15 := bsize hb15
        (try simp only [sizes1] at hzz15)
        (try simp only [sizes] at hc15 hf15))
      |
       (go_at_call 15
        with_reducible refine (aw_writeq _ _ (O5.row.below (by (repeat (first | with_reducible assumption | with_reducible exact Below.refl _ _ | (with_reducible refine Below.drew ?_) | (with_reducible refine Below.alloc' ?_ (Nat.le_refl _) _) | (with_reducible refine Below.setCell ?_ (by first | exact rfl | exact Nat.le_refl _ | omega | (dsimp only; omega) | (simp only [sizes]; done) | (simp only [sizes]; omega)) _) | (refine Below.trans ?_ (Below.mono (by with_reducible assumption) (by first | exact rfl | exact Nat.le_refl _ | omega | (dsimp only; omega) | (simp only [sizes]; done) | (simp only [sizes]; omega))))))))).mono ?_
        rintro e w16 ⟨of6, or6, om6, kf6, kr6, km6, us6, rfl, O6, hb16⟩
        obtain ⟨n6, hgn⟩ : ∃ n, (Pl.F awr).length = n := ⟨_, rfl⟩
        obtain ⟨r6, hgr⟩ : ∃ n, (Pl.R awr).length = n := ⟨_, rfl⟩
        obtain ⟨m6, hgm⟩ : ∃ n, (Pl.M awr).length = n := ⟨_, rfl⟩
        rw [hgn, hgr, hgm] at O6 ⊢
        clear hgn hgr hgm
        obtain ⟨hc16, hf16⟩ := bcell hb16
        have hzz16 := bsize hb16
        (try simp only [sizes1] at hzz16)
        (try simp only [sizes] at hc16 hf16))))
    all_goals
      go_wp2_with fail
      go_meet
      refine ⟨_, of6, or6, om6, n6, r6, m6, kf6, kr6, km6, us6, rfl, rfl, ?h1, ?h2, ?h3, ?h4, ?h5, ?h6, ?h7⟩
      case h1 => (repeat' (first | with_reducible assumption | (with_reducible refine HasBlock.drew ?_) | (with_reducible refine HasBlock.made' (by first | exact rfl | exact Nat.le_refl _ | omega | (dsimp only; omega) | (simp only [sizes]; done) | (simp only [sizes]; omega))) | (with_reducible refine HasBlock.alloc ?_ _) | (with_reducible refine HasBlock.fill3 ?_) | (with_reducible refine HasBlock.fill_ne ?_ (by first | exact rfl | exact Nat.le_refl _ | omega | (dsimp only; omega) | (simp only [sizes]; done) | (simp only [sizes]; omega)) _ _ _) | (with_reducible refine HasBlock.below ?_ hb16) | (with_reducible refine HasBlock.below ?_ hb15)))
      case h2 => (repeat' (first | with_reducible assumption | (with_reducible refine OwnP.drew ?_) | (with_reducible refine OwnP.alloc ?_ _) | (with_reducible refine OwnP.fill (x0 := .slice none 0 0) (x1 := .slice none 0 0) (x2 := .slice none 0 0) (T := 26) ?_ ?_ (by decide) (by decide) (by decide) _ _ _) | (with_reducible refine OwnP.below ?_ hb16) | (with_reducible refine OwnP.below ?_ hb15) | (with_reducible refine HasBlock.drew ?_) | (with_reducible refine HasBlock.made' (by first | exact rfl | exact Nat.le_refl _ | omega | (dsimp only; omega) | (simp only [sizes]; done) | (simp only [sizes]; omega))) | (with_reducible refine HasBlock.alloc ?_ _) | (with_reducible refine HasBlock.below ?_ hb16) | (with_reducible refine HasBlock.below ?_ hb15)))
      case h3 => (repeat' (first | with_reducible assumption | (with_reducible refine HasBlock.drew ?_) | (with_reducible refine HasBlock.made' (by first | exact rfl | exact Nat.le_refl _ | omega | (dsimp only; omega) | (simp only [sizes]; done) | (simp only [sizes]; omega))) | (with_reducible refine HasBlock.alloc ?_ _) | (with_reducible refine HasBlock.fill3 ?_) | (with_reducible refine HasBlock.fill_ne ?_ (by first | exact rfl | exact Nat.le_refl _ | omega | (dsimp only; omega) | (simp only [sizes]; done) | (simp only [sizes]; omega)) _ _ _) | (with_reducible refine HasBlock.below ?_ hb16) | (with_reducible refine HasBlock.below ?_ hb15)))
      case h4 => (repeat' (first | with_reducible assumption | (with_reducible refine HasBlock.drew ?_) | (with_reducible refine HasBlock.made' (by first | exact rfl | exact Nat.le_refl _ | omega | (dsimp only; omega) | (simp only [sizes]; done) | (simp only [sizes]; omega))) | (with_reducible refine HasBlock.alloc ?_ _) | (with_reducible refine HasBlock.fill3 ?_) | (with_reducible refine HasBlock.fill_ne ?_ (by first | exact rfl | exact Nat.le_refl _ | omega | (dsimp only; omega) | (simp only [sizes]; done) | (simp only [sizes]; omega)) _ _ _) | (with_reducible refine HasBlock.below ?_ hb16) | (with_reducible refine HasBlock.below ?_ hb15)))
      case h5 => (repeat' (first | with_reducible assumption | (with_reducible refine OwnP.drew ?_) | (with_reducible refine OwnP.alloc ?_ _) | (with_reducible refine OwnP.fill (x0 := .slice none 0 0) (x1 := .slice none 0 0) (x2 := .slice none 0 0) (T := 26) ?_ ?_ (by decide) (by decide) (by decide) _ _ _) | (with_reducible refine OwnP.below ?_ hb16) | (with_reducible refine OwnP.below ?_ hb15) | (with_reducible refine HasBlock.drew ?_) | (with_reducible refine HasBlock.made' (by first | exact rfl | exact Nat.le_refl _ | omega | (dsimp only; omega) | (simp only [sizes]; done) | (simp only [sizes]; omega))) | (with_reducible refine HasBlock.alloc ?_ _) | (with_reducible refine HasBlock.below ?_ hb16) | (with_reducible refine HasBlock.below ?_ hb15)))
      case h6 => (repeat' (first | with_reducible assumption | (with_reducible refine OwnP.drew ?_) | (with_reducible refine OwnP.alloc ?_ _) | (with_reducible refine OwnP.fill (x0 := .slice none 0 0) (x1 := .slice none 0 0) (x2 := .slice none 0 0) (T := 26) ?_ ?_ (by decide) (by decide) (by decide) _ _ _) | (with_reducible refine OwnP.below ?_ hb16) | (with_reducible refine OwnP.below ?_ hb15) | (with_reducible refine HasBlock.drew ?_) | (with_reducible refine HasBlock.made' (by first | exact rfl | exact Nat.le_refl _ | omega | (dsimp only; omega) | (simp only [sizes]; done) | (simp only [sizes]; omega))) | (with_reducible refine HasBlock.alloc ?_ _) | (with_reducible refine HasBlock.below ?_ hb16) | (with_reducible refine HasBlock.below ?_ hb15)))
      case h7 => exact hbw.trans (Below.mono (by (repeat (first | with_reducible assumption | with_reducible exact Below.refl _ _ | (with_reducible refine Below.drew ?_) | (with_reducible refine Below.alloc' ?_ (Nat.le_refl _) _) | (with_reducible refine Below.setCell ?_ (by first | exact rfl | exact Nat.le_refl _ | omega | (dsimp only; omega) | (simp only [sizes]; done) | (simp only [sizes]; omega)) _) | (refine Below.trans ?_ (Below.mono (by with_reducible assumption) (by first | exact rfl | exact Nat.le_refl _ | omega | (dsimp only; omega) | (simp only [sizes]; done) | (simp only [sizes]; omega))))))) hbw.size)
  case rest =>
    clear hbw D0 D5 O4 O5
    obtain ⟨B6, of6, or6, om6, n6, r6, m6, kf6, kr6, km6, us6, rfl, rfl, D6, O6, D0, D5, O4, O5, hbw⟩ := hcut
    obtain ⟨D0_c, D0_f, D0_z⟩ := D0.all
    obtain ⟨D5_c, D5_f, D5_z⟩ := D5.all
    obtain ⟨D6_c, D6_f, D6_z⟩ := D6.all
    go_wp2_with fail
    clear D0_c D0_f D0_z
    clear D5_c D5_f D5_z
    clear D6_c D6_f D6_z
    with_reducible refine (aw_readr _ _ O6.row).mono ?_
    rintro e w17 ⟨rfl, hbk⟩
    replace D0 := D0.below hbk
    replace D5 := D5.below hbk
    replace D6 := D6.below hbk
    replace O4 := O4.below hbk
    replace O5 := O5.below hbk
    replace O6 := O6.below hbk
    replace hbw := hbw.trans (hbk.mono hbw.size)
    clear hbk
    have e1 : (s1.toList == s1.toList) = true := by simp
    obtain ⟨D0_c, D0_f, D0_z⟩ := D0.all
    obtain ⟨D5_c, D5_f, D5_z⟩ := D5.all
    obtain ⟨D6_c, D6_f, D6_z⟩ := D6.all
    go_wp2_with fail
    clear D0_c D0_f D0_z
    clear D5_c D5_f D5_z
    clear D6_c D6_f D6_z
    with_reducible refine (aw_free4 _ _ O4.row).mono ?_
    rintro e w18 ⟨rfl, hbk⟩
    replace D0 := D0.below hbk
    replace D5 := D5.below hbk
    replace D6 := D6.below hbk
    replace O4 := O4.below hbk
    replace O5 := O5.below hbk
    replace O6 := O6.below hbk
    replace hbw := hbw.trans (hbk.mono hbw.size)
    clear hbk
    obtain ⟨D0_c, D0_f, D0_z⟩ := D0.all
    obtain ⟨D5_c, D5_f, D5_z⟩ := D5.all
    obtain ⟨D6_c, D6_f, D6_z⟩ := D6.all
    go_wp2_with fail
    clear D0_c D0_f D0_z
    clear D5_c D5_f D5_z
    clear D6_c D6_f D6_z
    with_reducible refine (aw_freeq _ _ O5.row).mono ?_
    rintro e w19 ⟨rfl, hbk⟩
    replace D0 := D0.below hbk
    replace D5 := D5.below hbk
    replace D6 := D6.below hbk
    replace O4 := O4.below hbk
    replace O5 := O5.below hbk
    replace O6 := O6.below hbk
    replace hbw := hbw.trans (hbk.mono hbw.size)
    clear hbk
    obtain ⟨D0_c, D0_f, D0_z⟩ := D0.all
    obtain ⟨D5_c, D5_f, D5_z⟩ := D5.all
    obtain ⟨D6_c, D6_f, D6_z⟩ := D6.all
    go_wp2_with fail
    clear D0_c D0_f D0_z
    clear D5_c D5_f D5_z
    clear D6_c D6_f D6_z
    with_reducible refine (aw_freer _ _ O6.row).mono ?_
    rintro e w20 ⟨rfl, hbk⟩
    replace D0 := D0.below hbk
    replace D5 := D5.below hbk
    replace D6 := D6.below hbk
    replace O4 := O4.below hbk
    replace O5 := O5.below hbk
    replace O6 := O6.below hbk
    replace hbw := hbw.trans (hbk.mono hbw.size)
    clear hbk
    obtain ⟨D0_c, D0_f, D0_z⟩ := D0.all
    obtain ⟨D5_c, D5_f, D5_z⟩ := D5.all
    obtain ⟨D6_c, D6_f, D6_z⟩ := D6.all
    go_wp2_with fail
    clear D0_c D0_f D0_z
    clear D5_c D5_f D5_z
    clear D6_c D6_f D6_z
    with_reducible refine (aw_charge _ _ O6.row).mono ?_
    rintro e w21 ⟨rfl, hbk⟩
    replace D0 := D0.below hbk
    replace D5 := D5.below hbk
    replace D6 := D6.below hbk
    replace O4 := O4.below hbk
    replace O5 := O5.below hbk
    replace O6 := O6.below hbk
    replace hbw := hbw.trans (hbk.mono hbw.size)
    clear hbk
    obtain ⟨D0_c, D0_f, D0_z⟩ := D0.all
    obtain ⟨D5_c, D5_f, D5_z⟩ := D5.all
    obtain ⟨D6_c, D6_f, D6_z⟩ := D6.all
    go_wp2_with fail
    clear D0_c D0_f D0_z
    clear D5_c D5_f D5_z
    clear D6_c D6_f D6_z
    go_ret
    exact Ret.mk hbw
end Go.Proofs.Ytjoopjgpjkmmhaa
