/-
  The law on what sharing saves, walked.
-/
import Derived.Test.YtjoopjgpjkmmhaaPlSaves
namespace Go.Proofs.Ytjoopjgpjkmmhaa
open Go.RowKit

theorem saves_out (g p q : Int) (ao : Option Addr) (N ca : Nat) (w : World) (h : 40 < N) (hN : N ≤ 9223372036854775807) : Calls Try.prog 7 #[.slice ao N ca, .int .i64 g, .int .i64 p, .int .i64 q] w (Ret w (.bool true)) := by
  go_enter Try.func7, Try.ntmps7
  go_wp2_with fail
  with_reducible refine (awake_any _).mono ?_
  rintro e w1 ⟨rfl, hb1⟩
  go_wp2_with fail
  go_ret
  exact Ret.mk hb1
theorem Pl.free_ok {P : Pl} (H : P.Ok) : P.free = P.freeN := by unfold Pl.free; rw [Pl.ok_iff.2 H, if_pos rfl]
theorem Shape.charge {n : Nat} {P : Pl} (h : Shape n P) {g : Nat} (hg : g < 2) : P.charge g = P.chargeN g := by
  unfold Pl.charge
  rw [show P.has (g : Int) 0 = true from Pl.at_has h.ok ((h.at' g 0).2 ⟨hg, by omega⟩), if_pos rfl, Int.toNat_natCast]
theorem freeN_le (P : Pl) : P.freeN ≤ P.F.length := List.countP_le_length
/-- A box that has just been made for a pool, and what is kept beside it. -/
def NewAt (K : World → Prop) (P : Pl) (v v2 : Value) (wx : World) : Prop := ∃ (B : Nat) (of or' om : Option Addr) (n r m kf kr km : Nat) (us : List Value), v = .pointer (some ⟨B, 0, none⟩) ∧ v2 = .bool true ∧ HasBlock wx B #[.slice of n kf, .slice or' r kr, .slice om m km] 26 ∧ OwnP 0 wx (.slice of n kf) (.slice or' r kr) (.slice om m km) us P ∧ K wx
theorem Shape.wrote {P : Pl} (h : Shape 8 P) {g p : Nat} {d : ByteArray} (hg : g < 2) (hp : p < 4) (hd : d.size = 128) : Shape 8 (P.wr g p d) ∧ (P.wr g p d).text g p = d ∧ P.freeN ≤ (P.wr g p d).freeN + 1 ∧ (P.wr g p d).freeN ≤ P.freeN + 1 ∧ (zeroB d = true → P.freeN ≤ (P.wr g p d).freeN ∧ (P.wr g p d).chargeN g ≤ P.chargeN g) := by
  have hat := (h.at' g p).2 ⟨hg, hp⟩
  obtain ⟨e1, e2⟩ := Pl.wr_eq h.ok hat hd
  have hw := h.wok hg hp hd
  rw [e2] at hw
  have L := (Pl.wr_law h.ok hat hd).1 hw
  have F := Pl.free_wr h.ok hat hd
  refine ⟨h.wr hg hp hd, ?_, ?_, ?_, ?_⟩
  · rw [e1, L.text g p hat, if_pos ⟨rfl, rfl⟩]
  · rw [e1]; exact F.1
  · rw [e1]; exact F.2.1
  · intro hz
    rw [e1]
    exact ⟨F.2.2 hz, Pl.charge_zero hat hz g⟩
set_option maxRecDepth 100000 in
set_option maxHeartbeats 8000000 in
theorem saves_in (g p q : Int) (va : Value) (ls : List Int) (w : World) (ha : NumRow w va ls) (hls : ∀ x ∈ ls, -9223372036854775808 ≤ x ∧ x ≤ 9223372036854775807) (hn40 : ls.length ≤ 40) (hg : -9223372036854775808 ≤ g ∧ g ≤ 9223372036854775807) (hp : -9223372036854775808 ≤ p ∧ p ≤ 9223372036854775807) (hq : -9223372036854775808 ≤ q ∧ q ≤ 9223372036854775807) : Calls Try.prog 7 #[va, .int .i64 g, .int .i64 p, .int .i64 q] w (Ret w (.bool true)) := by
  have FL : ∀ v w, NumRow w v ls → Calls Try.prog 11 #[.int .i64 8, v] w (RetFilled 8 w) := fun v w h => filled_any 8 v ls w (by omega) (by omega) h hls (by omega)
  have HFL := Lib.hid FL; clear FL
  obtain ⟨ao, ca, rfl, a1, a2, _⟩ := ha.out
  unfold maxLen at a2
  obtain ⟨N, hN⟩ : ∃ N, ls.length = N := ⟨_, rfl⟩
  rw [hN] at a1 ha hn40 ⊢
  clear hN hls
  have HA := Lib.hid ha; clear ha
  have R1 := fun w => round_any g 2 w hg (by omega) (by omega)
  have R2 := fun w => round_any p 4 w hp (by omega) (by omega)
  have PG := fun w => page_any q w hq
  have PZ : ∀ w, Calls Try.prog 12 #[.int .i64 0] w (Ret w (.string zeros128)) := fun w => by
    have h := page_any 0 w (by omega)
    rwa [pageS_zero] at h
  have hds := pageS_size q
  obtain ⟨d, hd⟩ : ∃ d, pageS q = d := ⟨_, rfl⟩
  obtain ⟨a, hg'⟩ : ∃ v : Nat, g % 2 = v := ⟨(g % 2).toNat, by omega⟩
  obtain ⟨c, hp'⟩ : ∃ v : Nat, p % 4 = v := ⟨(p % 4).toNat, by omega⟩
  have ha2 : a < 2 := by omega
  have hc4 : c < 4 := by omega
  rw [hd] at PG hds
  rw [hg'] at R1
  rw [hp'] at R2
  have HR1 := Lib.hid R1; clear R1
  have HR2 := Lib.hid R2; clear R2
  have HPG := Lib.hid PG; clear PG
  have HPZ := Lib.hid PZ; clear PZ
  have HDS := Lib.hid hds; clear hds hd hg' hp'
  have hbw : Below w.heap.size w w := Below.refl _ _
  go_enter Try.func7, Try.ntmps7
  go_wp2_with fail
  with_reducible refine (HFL.out _ _ HA.out).mono ?_
  rintro e w1 ⟨P, hsh, of0, or0, om0, kf0, kr0, km0, us0, rfl, O0, hbk⟩
  replace hbw := hbw.trans (hbk.mono hbw.size)
  clear hbk
  have hat := (hsh.at' a c).2 ⟨ha2, hc4⟩
  have H := hsh.ok
  have FR := fun v w h => pfree_any v P w h H.fit
  have CH := fun v w h => pcharge_any v P a w h H.fit
  rw [Pl.free_ok H] at FR
  rw [hsh.charge ha2] at CH
  have SHc := fun v w h => pshare_any v P a c w h H.fit H.small
  have hQ := hsh.sh ha2 hc4
  have FQ := fun v w h => pfree_any v (P.sh a c) w h hQ.ok.fit
  have CQ := fun v w h => pcharge_any v (P.sh a c) a w h hQ.ok.fit
  rw [Pl.free_ok hQ.ok] at FQ
  rw [hQ.charge ha2, Pl.charge_sh H hat] at CQ
  have hf1 := Pl.free_sh H hat
  have hno : P.sok a c = false → (P.sh a c).freeN = P.freeN := fun h => by rw [(Pl.sh_law H hat).2 h]
  have hx8 := freeN_le P
  rw [hsh.f] at hx8
  obtain ⟨w1', w2', w3', w4', _⟩ := hsh.wrote ha2 hc4 HDS.out
  have WR := fun v w h => pwrite_any v P a c d w h H.fit H.small
  rw [hsh.wok ha2 hc4 HDS.out] at WR
  have FW := fun v w h => pfree_any v (P.wr a c d) w h w1'.ok.fit
  rw [Pl.free_ok w1'.ok] at FW
  obtain ⟨R, hR⟩ : ∃ Q, P.wr a c d = Q := ⟨_, rfl⟩
  rw [hR] at WR FW w3' w4'
  obtain ⟨x2, hx2⟩ : ∃ x, R.freeN = x := ⟨_, rfl⟩
  rw [hx2] at FW w3' w4'
  have HWR := Lib.hid WR; clear WR
  have HFW := Lib.hid FW; clear FW
  clear w1' w2' hR hx2
  obtain ⟨z1', z2', _, _, z5'⟩ := hsh.wrote ha2 hc4 zeros128_size
  obtain ⟨z6', z7'⟩ := z5' zeros128_zero
  have WZ := fun v w h => pwrite_any v P a c zeros128 w h H.fit H.small
  rw [hsh.wok ha2 hc4 zeros128_size] at WZ
  have FZ := fun v w h => pfree_any v (P.wr a c zeros128) w h z1'.ok.fit
  rw [Pl.free_ok z1'.ok] at FZ
  have CZ := fun v w h => pcharge_any v (P.wr a c zeros128) a w h z1'.ok.fit
  rw [z1'.charge ha2] at CZ
  have RZ := fun v w h => pread_any v (P.wr a c zeros128) a c w h z1'.ok.fit
  have zat := (z1'.at' a c).2 ⟨ha2, hc4⟩
  rw [Pl.read_eq z1'.ok zat, Pl.at_has z1'.ok zat, z2'] at RZ
  obtain ⟨Z, hZ⟩ : ∃ Q, P.wr a c zeros128 = Q := ⟨_, rfl⟩
  rw [hZ] at WZ FZ CZ RZ z6' z7'
  obtain ⟨x3, hx3⟩ : ∃ x, Z.freeN = x := ⟨_, rfl⟩
  obtain ⟨y3, hy3⟩ : ∃ x, Z.chargeN a = x := ⟨_, rfl⟩
  rw [hx3] at FZ z6'
  rw [hy3] at CZ z7'
  obtain ⟨zz, hzz⟩ : ∃ z, zeros128 = z := ⟨_, rfl⟩
  rw [hzz] at WZ RZ HPZ
  have HWZ := Lib.hid WZ; clear WZ
  have HFZ := Lib.hid FZ; clear FZ
  have HCZ := Lib.hid CZ; clear CZ
  have HRZ := Lib.hid RZ; clear RZ
  clear z1' z2' z5' zat hZ hx3 hy3 hzz
  obtain ⟨Q, hq1⟩ : ∃ Q, P.sh a c = Q := ⟨_, rfl⟩
  rw [hq1] at SHc FQ CQ hf1 hno
  obtain ⟨t1, ht1⟩ : ∃ t, P.sok a c = t := ⟨_, rfl⟩
  rw [ht1] at SHc hno
  obtain ⟨x, hx⟩ : ∃ x, P.freeN = x := ⟨_, rfl⟩
  obtain ⟨x1, hx1⟩ : ∃ x, Q.freeN = x := ⟨_, rfl⟩
  obtain ⟨y, hy⟩ : ∃ y, P.chargeN a = y := ⟨_, rfl⟩
  rw [hx] at FR hf1 hno hx8 w3' w4' z6'
  rw [hx1] at FQ hf1 hno
  rw [hy] at CH CQ z7'
  have HFR := Lib.hid FR; clear FR
  have HCH := Lib.hid CH; clear CH
  have HSHc := Lib.hid SHc; clear SHc
  have HFQ := Lib.hid FQ; clear FQ
  have HCQ := Lib.hid CQ; clear CQ
  have HSP := Lib.hid hsh; clear hsh
  have HNO := Lib.hid hno; clear hno
  have HX := Lib.hid hx; clear hx
  have HY := Lib.hid hy; clear hy
  clear hq1 ht1 hx1 hQ hat H
  obtain ⟨n0, hgn⟩ : ∃ n, (Pl.F P).length = n := ⟨_, rfl⟩
  obtain ⟨r0, hgr⟩ : ∃ n, (Pl.R P).length = n := ⟨_, rfl⟩
  obtain ⟨m0, hgm⟩ : ∃ n, (Pl.M P).length = n := ⟨_, rfl⟩
  rw [hgn, hgr, hgm] at O0 ⊢
  clear hgn hgr hgm
  go_wp2_with fail
  have hw0 := hbw.size
  have hbx : Below w1.heap.size w1 (w1.alloc (.cells #[.slice of0 n0 kf0, .slice or0 r0 kr0, .slice om0 m0 km0] 26)) := (Below.refl _ _).alloc (Nat.le_refl _) _
  replace O0 := O0.below hbx
  have D0 := HasBlock.made w1 #[.slice of0 n0 kf0, .slice or0 r0 kr0, .slice om0 m0 km0] 26
  replace hbw := hbw.trans (hbx.mono hbw.size)
  clear hbx
  obtain ⟨B0, hB⟩ : ∃ B, w1.heap.size = B := ⟨_, rfl⟩
  rw [hB] at D0 hw0 ⊢
  generalize hW : w1.alloc (.cells #[.slice of0 n0 kf0, .slice or0 r0 kr0, .slice om0 m0 km0] 26) = w2 at D0 O0 hbw ⊢
  clear hW hB
  with_reducible refine (HR1.out _).mono ?_
  rintro e w3 ⟨rfl, hbk⟩
  replace D0 := D0.below hbk
  replace O0 := O0.below hbk
  replace hbw := hbw.trans (hbk.mono hbw.size)
  clear hbk
  obtain ⟨D0_c, D0_f, D0_z⟩ := D0.all
  go_wp2_with fail
  clear D0_c D0_f D0_z
  with_reducible refine (HR2.out _).mono ?_
  rintro e w4 ⟨rfl, hbk⟩
  replace D0 := D0.below hbk
  replace O0 := O0.below hbk
  replace hbw := hbw.trans (hbk.mono hbw.size)
  clear hbk
  obtain ⟨D0_c, D0_f, D0_z⟩ := D0.all
  go_wp2_with fail
  clear D0_c D0_f D0_z
  obtain ⟨D0_c, D0_f, D0_z⟩ := D0.all
  refine wp_region_quiet_below (by kernel_rfl) (by kernel_rfl) ?_
  repeat (go_big_quiet_step (first | fail | (first | (go_at_call 18; with_reducible exact quiet_ret (HFR.out _ _ (O0.row.below (below_regrown _ _ _)))) | (go_at_call 19; with_reducible exact quiet_ret (HCH.out _ _ (O0.row.below (below_regrown _ _ _)))))))
  refine wpQuiet_nil ?_
  intro w5 hw5
  have hb5 := below_of_regrown hw5
  clear hw5
  obtain ⟨hc5, hf5⟩ := bcell hb5
  have hz5 := bsize hb5
  try simp only [sizes1] at hz5
  try simp only [sizes] at hc5 hf5
  clear hc5 hf5 hz5
  clear D0_c D0_f D0_z
  replace D0 := D0.below hb5
  replace O0 := O0.below hb5
  replace hbw := hbw.trans (hb5.mono hbw.size)
  clear hb5
  obtain ⟨D0_c, D0_f, D0_z⟩ := D0.all
  go_wp2_with fail
  clear D0_c D0_f D0_z
  with_reducible refine (HSHc.out _ _ O0.row).mono ?_
  rintro e w6 ⟨of1, or1, om1, kf1, kr1, km1, us1, rfl, O1, hbk⟩
  replace D0 := D0.below hbk
  replace O0 := O0.below hbk
  replace hbw := hbw.trans (hbk.mono hbw.size)
  clear hbk
  obtain ⟨n1, hgn⟩ : ∃ n, (Pl.F Q).length = n := ⟨_, rfl⟩
  obtain ⟨r1, hgr⟩ : ∃ n, (Pl.R Q).length = n := ⟨_, rfl⟩
  obtain ⟨m1, hgm⟩ : ∃ n, (Pl.M Q).length = n := ⟨_, rfl⟩
  rw [hgn, hgr, hgm] at O1 ⊢
  clear hgn hgr hgm
  obtain ⟨D0_c, D0_f, D0_z⟩ := D0.all
  go_wp2_with fail
  clear D0_c D0_f D0_z
  have hw1 := hbw.size
  have lD0x1 := D0.lt
  have hbx : Below w6.heap.size w6 (w6.alloc (.cells #[.slice of1 n1 kf1, .slice or1 r1 kr1, .slice om1 m1 km1] 26)) := (Below.refl _ _).alloc (Nat.le_refl _) _
  replace D0 := D0.below hbx
  replace O0 := O0.below hbx
  replace O1 := O1.below hbx
  have D1 := HasBlock.made w6 #[.slice of1 n1 kf1, .slice or1 r1 kr1, .slice om1 m1 km1] 26
  replace hbw := hbw.trans (hbx.mono hbw.size)
  clear hbx
  obtain ⟨B1, hB⟩ : ∃ B, w6.heap.size = B := ⟨_, rfl⟩
  rw [hB] at D1 hw1 ⊢
  rw [hB] at lD0x1
  generalize hW : w6.alloc (.cells #[.slice of1 n1 kf1, .slice or1 r1 kr1, .slice om1 m1 km1] 26) = w7 at D0 D1 O0 O1 hbw ⊢
  clear hW hB
  with_reducible refine (HFQ.out _ _ O1.row).mono ?_
  rintro e w8 ⟨rfl, hbk⟩
  replace D0 := D0.below hbk
  replace D1 := D1.below hbk
  replace O0 := O0.below hbk
  replace O1 := O1.below hbk
  replace hbw := hbw.trans (hbk.mono hbw.size)
  clear hbk
  have ey : (y != y) = false := by simp
  have ey2 : ((y : Int) != (y : Int)) = false := by simp
  cases t1
  · obtain rfl : x = x1 := (HNO.out rfl).symm
    obtain ⟨D0_c, D0_f, D0_z⟩ := D0.all
    obtain ⟨D1_c, D1_f, D1_z⟩ := D1.all
    go_wp2_with fail
    clear D0_c D0_f D0_z
    clear D1_c D1_f D1_z
    with_reducible refine (HCQ.out _ _ O1.row).mono ?_
    rintro e w9 ⟨rfl, hb9⟩
    replace D0 := D0.below hb9
    replace O0 := O0.below hb9
    replace hbw := hbw.trans (hb9.mono hbw.size)
    clear hb9 D1 O1
    obtain ⟨D0_c, D0_f, D0_z⟩ := D0.all
    go_wp2_with fail
    clear D0_c D0_f D0_z
    go_cut [18, 19] from 78 to 85 (fun v v2 wx => NewAt (fun wx => HasBlock wx B0 #[.slice of0 n0 kf0, .slice or0 r0 kr0, .slice om0 m0 km0] 26 ∧ OwnP 0 wx (.slice of0 n0 kf0) (.slice or0 r0 kr0) (.slice om0 m0 km0) us0 P ∧ Below w.heap.size w wx) R v v2 wx)
    case first =>
      obtain ⟨D0_c, D0_f, D0_z⟩ := D0.all
      have hrule : ∀ w' : World, Below w9.heap.size w9 w' → ∀ b o, b < w9.heap.size → w'.cell? ⟨b, o, none⟩ = w9.cell? ⟨b, o, none⟩ := fun w' h b o hlt => h.cell (p := ⟨b, o, none⟩) hlt
      go_region_held3 (fun w' => Below w9.heap.size w9 w') (repeat (first | with_reducible assumption | with_reducible exact Below.refl _ _ | (with_reducible refine Below.drew ?_) | (with_reducible refine Below.alloc' ?_ (Nat.le_refl _) _) | (with_reducible refine Below.setCell ?_ (by first | exact rfl | exact Nat.le_refl _ | omega | (dsimp only; omega) | (simp only [sizes]; done) | (simp only [sizes]; omega)) _) | (refine Below.trans ?_ (Below.mono (by with_reducible assumption) (by first | exact rfl | exact Nat.le_refl _ | omega | (dsimp only; omega) | (simp only [sizes]; done) | (simp only [sizes]; omega)))))) ((first
        |
         (go_at_call 12
          with_reducible refine (HPG.out _).mono ?_
          rintro e w10 ⟨rfl, hb1⟩
          obtain ⟨hc1, hf1⟩ := bcell hb1
          have hzz1 := bsize hb1
          (try simp only [sizes1] at hzz1)
          (try simp only [sizes] at hc1 hf1))
        |
         (go_at_call 15
          with_reducible refine (HWR.out _ _ (O0.row.below (by (repeat (first | with_reducible assumption | with_reducible exact Below.refl _ _ | (with_reducible refine Below.drew ?_) | (with_reducible refine Below.alloc' ?_ (Nat.le_refl _) _) | (with_reducible refine Below.setCell ?_ (by first | exact rfl | exact Nat.le_refl _ | omega | (dsimp only; omega) | (simp only [sizes]; done) | (simp only [sizes]; omega)) _) | (refine Below.trans ?_ (Below.mono (by with_reducible assumption) (by first | exact rfl | exact Nat.le_refl _ | omega | (dsimp only; omega) | (simp only [sizes]; done) | (simp only [sizes]; omega))))))))).mono ?_
          rintro e w11 ⟨of6, or6, om6, kf6, kr6, km6, us6, rfl, O6, hbz1⟩
          obtain ⟨n6, hgn⟩ : ∃ n, (Pl.F R).length = n := ⟨_, rfl⟩
          obtain ⟨r6, hgr⟩ : ∃ n, (Pl.R R).length = n := ⟨_, rfl⟩
          obtain ⟨m6, hgm⟩ : ∃ n, (Pl.M R).length = n := ⟨_, rfl⟩
          rw [hgn, hgr, hgm] at O6 ⊢
          clear hgn hgr hgm
          obtain ⟨hc91, hf91⟩ := bcell hbz1
          have hzz91 := bsize hbz1
          (try simp only [sizes1] at hzz91)
          (try simp only [sizes] at hc91 hf91))))
      all_goals
        go_wp2_with fail
        go_meet
        refine ⟨_, of6, or6, om6, n6, r6, m6, kf6, kr6, km6, us6, rfl, rfl, ?h1, ?h2, ?h3, ?h4, ?h5⟩
        case h1 => (repeat' (first | with_reducible assumption | (with_reducible refine HasBlock.drew ?_) | (with_reducible refine HasBlock.made' (by first | exact rfl | exact Nat.le_refl _ | omega | (dsimp only; omega) | (simp only [sizes]; done) | (simp only [sizes]; omega))) | (with_reducible refine HasBlock.alloc ?_ _) | (with_reducible refine HasBlock.fill3 ?_) | (with_reducible refine HasBlock.fill_ne ?_ (by first | exact rfl | exact Nat.le_refl _ | omega | (dsimp only; omega) | (simp only [sizes]; done) | (simp only [sizes]; omega)) _ _ _) | (with_reducible refine HasBlock.below ?_ hbz1) | (with_reducible refine HasBlock.below ?_ hb1)))
        case h2 => (repeat' (first | with_reducible assumption | (with_reducible refine OwnP.drew ?_) | (with_reducible refine OwnP.alloc ?_ _) | (with_reducible refine OwnP.fill (x0 := .slice none 0 0) (x1 := .slice none 0 0) (x2 := .slice none 0 0) (T := 26) ?_ ?_ (by decide) (by decide) (by decide) _ _ _) | (with_reducible refine OwnP.below ?_ hbz1) | (with_reducible refine OwnP.below ?_ hb1) | (with_reducible refine HasBlock.drew ?_) | (with_reducible refine HasBlock.made' (by first | exact rfl | exact Nat.le_refl _ | omega | (dsimp only; omega) | (simp only [sizes]; done) | (simp only [sizes]; omega))) | (with_reducible refine HasBlock.alloc ?_ _) | (with_reducible refine HasBlock.below ?_ hbz1) | (with_reducible refine HasBlock.below ?_ hb1)))
        case h3 => (repeat' (first | with_reducible assumption | (with_reducible refine HasBlock.drew ?_) | (with_reducible refine HasBlock.made' (by first | exact rfl | exact Nat.le_refl _ | omega | (dsimp only; omega) | (simp only [sizes]; done) | (simp only [sizes]; omega))) | (with_reducible refine HasBlock.alloc ?_ _) | (with_reducible refine HasBlock.fill3 ?_) | (with_reducible refine HasBlock.fill_ne ?_ (by first | exact rfl | exact Nat.le_refl _ | omega | (dsimp only; omega) | (simp only [sizes]; done) | (simp only [sizes]; omega)) _ _ _) | (with_reducible refine HasBlock.below ?_ hbz1) | (with_reducible refine HasBlock.below ?_ hb1)))
        case h4 => (repeat' (first | with_reducible assumption | (with_reducible refine OwnP.drew ?_) | (with_reducible refine OwnP.alloc ?_ _) | (with_reducible refine OwnP.fill (x0 := .slice none 0 0) (x1 := .slice none 0 0) (x2 := .slice none 0 0) (T := 26) ?_ ?_ (by decide) (by decide) (by decide) _ _ _) | (with_reducible refine OwnP.below ?_ hbz1) | (with_reducible refine OwnP.below ?_ hb1) | (with_reducible refine HasBlock.drew ?_) | (with_reducible refine HasBlock.made' (by first | exact rfl | exact Nat.le_refl _ | omega | (dsimp only; omega) | (simp only [sizes]; done) | (simp only [sizes]; omega))) | (with_reducible refine HasBlock.alloc ?_ _) | (with_reducible refine HasBlock.below ?_ hbz1) | (with_reducible refine HasBlock.below ?_ hb1)))
        case h5 => exact hbw.trans (Below.mono (by (repeat (first | with_reducible assumption | with_reducible exact Below.refl _ _ | (with_reducible refine Below.drew ?_) | (with_reducible refine Below.alloc' ?_ (Nat.le_refl _) _) | (with_reducible refine Below.setCell ?_ (by first | exact rfl | exact Nat.le_refl _ | omega | (dsimp only; omega) | (simp only [sizes]; done) | (simp only [sizes]; omega)) _) | (refine Below.trans ?_ (Below.mono (by with_reducible assumption) (by first | exact rfl | exact Nat.le_refl _ | omega | (dsimp only; omega) | (simp only [sizes]; done) | (simp only [sizes]; omega))))))) hbw.size)
    case rest =>
      clear hbw D0 O0
      obtain ⟨B2, of2, or2, om2, n2, r2, m2, kf2, kr2, km2, us2, rfl, rfl, D2, O2, D0, O0, hbw⟩ := hcut
      obtain ⟨D0_c, D0_f, D0_z⟩ := D0.all
      obtain ⟨D2_c, D2_f, D2_z⟩ := D2.all
      go_wp2_with fail
      clear D0_c D0_f D0_z
      clear D2_c D2_f D2_z
      with_reducible refine (HFW.out _ _ O2.row).mono ?_
      rintro e w12 ⟨rfl, hb12⟩
      replace D0 := D0.below hb12
      replace O0 := O0.below hb12
      replace hbw := hbw.trans (hb12.mono hbw.size)
      clear hb12 D2 O2
      obtain ⟨D0_c, D0_f, D0_z⟩ := D0.all
      go_wp2_with fail
      clear D0_c D0_f D0_z
      go_ways
      go_cut [21, 22] from 101 to 107 (fun v v2 wx => NewAt (fun wx => HasBlock wx B0 #[.slice of0 n0 kf0, .slice or0 r0 kr0, .slice om0 m0 km0] 26 ∧ OwnP 0 wx (.slice of0 n0 kf0) (.slice or0 r0 kr0) (.slice om0 m0 km0) us0 P ∧ Below w.heap.size w wx) Z v v2 wx)
      case first =>
        obtain ⟨D0_c, D0_f, D0_z⟩ := D0.all
        have hrule : ∀ w' : World, Below w12.heap.size w12 w' → ∀ b o, b < w12.heap.size → w'.cell? ⟨b, o, none⟩ = w12.cell? ⟨b, o, none⟩ := fun w' h b o hlt => h.cell (p := ⟨b, o, none⟩) hlt
        go_region_held3 (fun w' => Below w12.heap.size w12 w') (repeat (first | with_reducible assumption | with_reducible exact Below.refl _ _ | (with_reducible refine Below.drew ?_) | (with_reducible refine Below.alloc' ?_ (Nat.le_refl _) _) | (with_reducible refine Below.setCell ?_ (by first | exact rfl | exact Nat.le_refl _ | omega | (dsimp only; omega) | (simp only [sizes]; done) | (simp only [sizes]; omega)) _) | (refine Below.trans ?_ (Below.mono (by with_reducible assumption) (by first | exact rfl | exact Nat.le_refl _ | omega | (dsimp only; omega) | (simp only [sizes]; done) | (simp only [sizes]; omega)))))) ((first
          |
           (go_at_call 12
            with_reducible refine (HPZ.out _).mono ?_
            rintro e w13 ⟨rfl, hb2⟩
            obtain ⟨hc2, hf2⟩ := bcell hb2
            have hzz2 := bsize hb2
            (try simp only [sizes1] at hzz2)
            (try simp only [sizes] at hc2 hf2))
          |
           (go_at_call 15
            with_reducible refine (HWZ.out _ _ (O0.row.below (by (repeat (first | with_reducible assumption | with_reducible exact Below.refl _ _ | (with_reducible refine Below.drew ?_) | (with_reducible refine Below.alloc' ?_ (Nat.le_refl _) _) | (with_reducible refine Below.setCell ?_ (by first | exact rfl | exact Nat.le_refl _ | omega | (dsimp only; omega) | (simp only [sizes]; done) | (simp only [sizes]; omega)) _) | (refine Below.trans ?_ (Below.mono (by with_reducible assumption) (by first | exact rfl | exact Nat.le_refl _ | omega | (dsimp only; omega) | (simp only [sizes]; done) | (simp only [sizes]; omega))))))))).mono ?_
            rintro e w14 ⟨of6, or6, om6, kf6, kr6, km6, us6, rfl, O6, hbz2⟩
            obtain ⟨n6, hgn⟩ : ∃ n, (Pl.F Z).length = n := ⟨_, rfl⟩
            obtain ⟨r6, hgr⟩ : ∃ n, (Pl.R Z).length = n := ⟨_, rfl⟩
            obtain ⟨m6, hgm⟩ : ∃ n, (Pl.M Z).length = n := ⟨_, rfl⟩
            rw [hgn, hgr, hgm] at O6 ⊢
            clear hgn hgr hgm
            obtain ⟨hc92, hf92⟩ := bcell hbz2
            have hzz92 := bsize hbz2
            (try simp only [sizes1] at hzz92)
            (try simp only [sizes] at hc92 hf92))))
        all_goals
          go_wp2_with fail
          go_meet
          refine ⟨_, of6, or6, om6, n6, r6, m6, kf6, kr6, km6, us6, rfl, rfl, ?h1, ?h2, ?h3, ?h4, ?h5⟩
          case h1 => (repeat' (first | with_reducible assumption | (with_reducible refine HasBlock.drew ?_) | (with_reducible refine HasBlock.made' (by first | exact rfl | exact Nat.le_refl _ | omega | (dsimp only; omega) | (simp only [sizes]; done) | (simp only [sizes]; omega))) | (with_reducible refine HasBlock.alloc ?_ _) | (with_reducible refine HasBlock.fill3 ?_) | (with_reducible refine HasBlock.fill_ne ?_ (by first | exact rfl | exact Nat.le_refl _ | omega | (dsimp only; omega) | (simp only [sizes]; done) | (simp only [sizes]; omega)) _ _ _) | (with_reducible refine HasBlock.below ?_ hbz2) | (with_reducible refine HasBlock.below ?_ hb2)))
          case h2 => (repeat' (first | with_reducible assumption | (with_reducible refine OwnP.drew ?_) | (with_reducible refine OwnP.alloc ?_ _) | (with_reducible refine OwnP.fill (x0 := .slice none 0 0) (x1 := .slice none 0 0) (x2 := .slice none 0 0) (T := 26) ?_ ?_ (by decide) (by decide) (by decide) _ _ _) | (with_reducible refine OwnP.below ?_ hbz2) | (with_reducible refine OwnP.below ?_ hb2) | (with_reducible refine HasBlock.drew ?_) | (with_reducible refine HasBlock.made' (by first | exact rfl | exact Nat.le_refl _ | omega | (dsimp only; omega) | (simp only [sizes]; done) | (simp only [sizes]; omega))) | (with_reducible refine HasBlock.alloc ?_ _) | (with_reducible refine HasBlock.below ?_ hbz2) | (with_reducible refine HasBlock.below ?_ hb2)))
          case h3 => (repeat' (first | with_reducible assumption | (with_reducible refine HasBlock.drew ?_) | (with_reducible refine HasBlock.made' (by first | exact rfl | exact Nat.le_refl _ | omega | (dsimp only; omega) | (simp only [sizes]; done) | (simp only [sizes]; omega))) | (with_reducible refine HasBlock.alloc ?_ _) | (with_reducible refine HasBlock.fill3 ?_) | (with_reducible refine HasBlock.fill_ne ?_ (by first | exact rfl | exact Nat.le_refl _ | omega | (dsimp only; omega) | (simp only [sizes]; done) | (simp only [sizes]; omega)) _ _ _) | (with_reducible refine HasBlock.below ?_ hbz2) | (with_reducible refine HasBlock.below ?_ hb2)))
          case h4 => (repeat' (first | with_reducible assumption | (with_reducible refine OwnP.drew ?_) | (with_reducible refine OwnP.alloc ?_ _) | (with_reducible refine OwnP.fill (x0 := .slice none 0 0) (x1 := .slice none 0 0) (x2 := .slice none 0 0) (T := 26) ?_ ?_ (by decide) (by decide) (by decide) _ _ _) | (with_reducible refine OwnP.below ?_ hbz2) | (with_reducible refine OwnP.below ?_ hb2) | (with_reducible refine HasBlock.drew ?_) | (with_reducible refine HasBlock.made' (by first | exact rfl | exact Nat.le_refl _ | omega | (dsimp only; omega) | (simp only [sizes]; done) | (simp only [sizes]; omega))) | (with_reducible refine HasBlock.alloc ?_ _) | (with_reducible refine HasBlock.below ?_ hbz2) | (with_reducible refine HasBlock.below ?_ hb2)))
          case h5 => exact hbw.trans (Below.mono (by (repeat (first | with_reducible assumption | with_reducible exact Below.refl _ _ | (with_reducible refine Below.drew ?_) | (with_reducible refine Below.alloc' ?_ (Nat.le_refl _) _) | (with_reducible refine Below.setCell ?_ (by first | exact rfl | exact Nat.le_refl _ | omega | (dsimp only; omega) | (simp only [sizes]; done) | (simp only [sizes]; omega)) _) | (refine Below.trans ?_ (Below.mono (by with_reducible assumption) (by first | exact rfl | exact Nat.le_refl _ | omega | (dsimp only; omega) | (simp only [sizes]; done) | (simp only [sizes]; omega))))))) hbw.size)
      case rest =>
        clear hbw D0 O0
        obtain ⟨B3, of3, or3, om3, n3, r3, m3, kf3, kr3, km3, us3, rfl, rfl, D3, O3, D0, O0, hbw⟩ := hcut
        obtain ⟨D0_c, D0_f, D0_z⟩ := D0.all
        obtain ⟨D3_c, D3_f, D3_z⟩ := D3.all
        go_wp2_with fail
        clear D0_c D0_f D0_z
        clear D3_c D3_f D3_z
        with_reducible refine (HRZ.out _ _ O3.row).mono ?_
        rintro e w15 ⟨rfl, hb15⟩
        replace D3 := D3.below hb15
        replace O3 := O3.below hb15
        replace hbw := hbw.trans (hb15.mono hbw.size)
        clear hb15
        have t1' : ((x3 : Int) ≥ (x : Int)) := by omega
        have t2' : ((y3 : Int) ≤ (y : Int)) := by omega
        have t3' : decide ((x3 : Int) ≥ (x : Int)) = true := by simp; omega
        have t4' : decide ((y3 : Int) ≤ (y : Int)) = true := by simp; omega
        obtain ⟨D0_c, D0_f, D0_z⟩ := D0.all
        obtain ⟨D3_c, D3_f, D3_z⟩ := D3.all
        go_wp2_with fail
        clear D0_c D0_f D0_z
        clear D3_c D3_f D3_z
        with_reducible refine (HPZ.out _).mono ?_
        rintro e w16 ⟨rfl, hb16⟩
        replace D3 := D3.below hb16
        replace O3 := O3.below hb16
        replace hbw := hbw.trans (hb16.mono hbw.size)
        clear hb16
        obtain ⟨D0_c, D0_f, D0_z⟩ := D0.all
        obtain ⟨D3_c, D3_f, D3_z⟩ := D3.all
        go_wp2_with fail
        clear D0_c D0_f D0_z
        clear D3_c D3_f D3_z
        with_reducible refine (HFZ.out _ _ O3.row).mono ?_
        rintro e w17 ⟨rfl, hb17⟩
        replace D3 := D3.below hb17
        replace O3 := O3.below hb17
        replace hbw := hbw.trans (hb17.mono hbw.size)
        clear hb17
        obtain ⟨D0_c, D0_f, D0_z⟩ := D0.all
        obtain ⟨D3_c, D3_f, D3_z⟩ := D3.all
        go_wp2_with fail
        clear D0_c D0_f D0_z
        clear D3_c D3_f D3_z
        with_reducible refine (HCZ.out _ _ O3.row).mono ?_
        rintro e w18 ⟨rfl, hb18⟩
        replace D3 := D3.below hb18
        replace O3 := O3.below hb18
        replace hbw := hbw.trans (hb18.mono hbw.size)
        clear hb18
        obtain ⟨D0_c, D0_f, D0_z⟩ := D0.all
        obtain ⟨D3_c, D3_f, D3_z⟩ := D3.all
        go_wp2_with fail
        clear D0_c D0_f D0_z
        clear D3_c D3_f D3_z
        with_reducible refine (awake_any _).mono ?_
        rintro e w19 ⟨rfl, hb19⟩
        replace D3 := D3.below hb19
        replace O3 := O3.below hb19
        replace hbw := hbw.trans (hb19.mono hbw.size)
        clear hb19
        obtain ⟨D0_c, D0_f, D0_z⟩ := D0.all
        obtain ⟨D3_c, D3_f, D3_z⟩ := D3.all
        go_wp2_with fail
        clear D0_c D0_f D0_z
        clear D3_c D3_f D3_z
        go_ret
        exact Ret.mk hbw
  · obtain ⟨D0_c, D0_f, D0_z⟩ := D0.all
    obtain ⟨D1_c, D1_f, D1_z⟩ := D1.all
    go_wp2_with fail
    clear D0_c D0_f D0_z
    clear D1_c D1_f D1_z
    with_reducible refine (HCQ.out _ _ O1.row).mono ?_
    rintro e w9 ⟨rfl, hb9⟩
    replace D0 := D0.below hb9
    replace O0 := O0.below hb9
    replace hbw := hbw.trans (hb9.mono hbw.size)
    clear hb9 D1 O1
    obtain ⟨D0_c, D0_f, D0_z⟩ := D0.all
    go_wp2_with fail
    clear D0_c D0_f D0_z
    go_cut [18, 19] from 78 to 85 (fun v v2 wx => NewAt (fun wx => HasBlock wx B0 #[.slice of0 n0 kf0, .slice or0 r0 kr0, .slice om0 m0 km0] 26 ∧ OwnP 0 wx (.slice of0 n0 kf0) (.slice or0 r0 kr0) (.slice om0 m0 km0) us0 P ∧ Below w.heap.size w wx) R v v2 wx)
    case first =>
      obtain ⟨D0_c, D0_f, D0_z⟩ := D0.all
      have hrule : ∀ w' : World, Below w9.heap.size w9 w' → ∀ b o, b < w9.heap.size → w'.cell? ⟨b, o, none⟩ = w9.cell? ⟨b, o, none⟩ := fun w' h b o hlt => h.cell (p := ⟨b, o, none⟩) hlt
      go_region_held3 (fun w' => Below w9.heap.size w9 w') (repeat (first | with_reducible assumption | with_reducible exact Below.refl _ _ | (with_reducible refine Below.drew ?_) | (with_reducible refine Below.alloc' ?_ (Nat.le_refl _) _) | (with_reducible refine Below.setCell ?_ (by first | exact rfl | exact Nat.le_refl _ | omega | (dsimp only; omega) | (simp only [sizes]; done) | (simp only [sizes]; omega)) _) | (refine Below.trans ?_ (Below.mono (by with_reducible assumption) (by first | exact rfl | exact Nat.le_refl _ | omega | (dsimp only; omega) | (simp only [sizes]; done) | (simp only [sizes]; omega)))))) ((first
        |
         (go_at_call 12
          with_reducible refine (HPG.out _).mono ?_
          rintro e w10 ⟨rfl, hb1⟩
          obtain ⟨hc1, hf1⟩ := bcell hb1
          have hzz1 := bsize hb1
          (try simp only [sizes1] at hzz1)
          (try simp only [sizes] at hc1 hf1))
        |
         (go_at_call 15
          with_reducible refine (HWR.out _ _ (O0.row.below (by (repeat (first | with_reducible assumption | with_reducible exact Below.refl _ _ | (with_reducible refine Below.drew ?_) | (with_reducible refine Below.alloc' ?_ (Nat.le_refl _) _) | (with_reducible refine Below.setCell ?_ (by first | exact rfl | exact Nat.le_refl _ | omega | (dsimp only; omega) | (simp only [sizes]; done) | (simp only [sizes]; omega)) _) | (refine Below.trans ?_ (Below.mono (by with_reducible assumption) (by first | exact rfl | exact Nat.le_refl _ | omega | (dsimp only; omega) | (simp only [sizes]; done) | (simp only [sizes]; omega))))))))).mono ?_
          rintro e w11 ⟨of6, or6, om6, kf6, kr6, km6, us6, rfl, O6, hbz1⟩
          obtain ⟨n6, hgn⟩ : ∃ n, (Pl.F R).length = n := ⟨_, rfl⟩
          obtain ⟨r6, hgr⟩ : ∃ n, (Pl.R R).length = n := ⟨_, rfl⟩
          obtain ⟨m6, hgm⟩ : ∃ n, (Pl.M R).length = n := ⟨_, rfl⟩
          rw [hgn, hgr, hgm] at O6 ⊢
          clear hgn hgr hgm
          obtain ⟨hc91, hf91⟩ := bcell hbz1
          have hzz91 := bsize hbz1
          (try simp only [sizes1] at hzz91)
          (try simp only [sizes] at hc91 hf91))))
      all_goals
        go_wp2_with fail
        go_meet
        refine ⟨_, of6, or6, om6, n6, r6, m6, kf6, kr6, km6, us6, rfl, rfl, ?h1, ?h2, ?h3, ?h4, ?h5⟩
        case h1 => (repeat' (first | with_reducible assumption | (with_reducible refine HasBlock.drew ?_) | (with_reducible refine HasBlock.made' (by first | exact rfl | exact Nat.le_refl _ | omega | (dsimp only; omega) | (simp only [sizes]; done) | (simp only [sizes]; omega))) | (with_reducible refine HasBlock.alloc ?_ _) | (with_reducible refine HasBlock.fill3 ?_) | (with_reducible refine HasBlock.fill_ne ?_ (by first | exact rfl | exact Nat.le_refl _ | omega | (dsimp only; omega) | (simp only [sizes]; done) | (simp only [sizes]; omega)) _ _ _) | (with_reducible refine HasBlock.below ?_ hbz1) | (with_reducible refine HasBlock.below ?_ hb1)))
        case h2 => (repeat' (first | with_reducible assumption | (with_reducible refine OwnP.drew ?_) | (with_reducible refine OwnP.alloc ?_ _) | (with_reducible refine OwnP.fill (x0 := .slice none 0 0) (x1 := .slice none 0 0) (x2 := .slice none 0 0) (T := 26) ?_ ?_ (by decide) (by decide) (by decide) _ _ _) | (with_reducible refine OwnP.below ?_ hbz1) | (with_reducible refine OwnP.below ?_ hb1) | (with_reducible refine HasBlock.drew ?_) | (with_reducible refine HasBlock.made' (by first | exact rfl | exact Nat.le_refl _ | omega | (dsimp only; omega) | (simp only [sizes]; done) | (simp only [sizes]; omega))) | (with_reducible refine HasBlock.alloc ?_ _) | (with_reducible refine HasBlock.below ?_ hbz1) | (with_reducible refine HasBlock.below ?_ hb1)))
        case h3 => (repeat' (first | with_reducible assumption | (with_reducible refine HasBlock.drew ?_) | (with_reducible refine HasBlock.made' (by first | exact rfl | exact Nat.le_refl _ | omega | (dsimp only; omega) | (simp only [sizes]; done) | (simp only [sizes]; omega))) | (with_reducible refine HasBlock.alloc ?_ _) | (with_reducible refine HasBlock.fill3 ?_) | (with_reducible refine HasBlock.fill_ne ?_ (by first | exact rfl | exact Nat.le_refl _ | omega | (dsimp only; omega) | (simp only [sizes]; done) | (simp only [sizes]; omega)) _ _ _) | (with_reducible refine HasBlock.below ?_ hbz1) | (with_reducible refine HasBlock.below ?_ hb1)))
        case h4 => (repeat' (first | with_reducible assumption | (with_reducible refine OwnP.drew ?_) | (with_reducible refine OwnP.alloc ?_ _) | (with_reducible refine OwnP.fill (x0 := .slice none 0 0) (x1 := .slice none 0 0) (x2 := .slice none 0 0) (T := 26) ?_ ?_ (by decide) (by decide) (by decide) _ _ _) | (with_reducible refine OwnP.below ?_ hbz1) | (with_reducible refine OwnP.below ?_ hb1) | (with_reducible refine HasBlock.drew ?_) | (with_reducible refine HasBlock.made' (by first | exact rfl | exact Nat.le_refl _ | omega | (dsimp only; omega) | (simp only [sizes]; done) | (simp only [sizes]; omega))) | (with_reducible refine HasBlock.alloc ?_ _) | (with_reducible refine HasBlock.below ?_ hbz1) | (with_reducible refine HasBlock.below ?_ hb1)))
        case h5 => exact hbw.trans (Below.mono (by (repeat (first | with_reducible assumption | with_reducible exact Below.refl _ _ | (with_reducible refine Below.drew ?_) | (with_reducible refine Below.alloc' ?_ (Nat.le_refl _) _) | (with_reducible refine Below.setCell ?_ (by first | exact rfl | exact Nat.le_refl _ | omega | (dsimp only; omega) | (simp only [sizes]; done) | (simp only [sizes]; omega)) _) | (refine Below.trans ?_ (Below.mono (by with_reducible assumption) (by first | exact rfl | exact Nat.le_refl _ | omega | (dsimp only; omega) | (simp only [sizes]; done) | (simp only [sizes]; omega))))))) hbw.size)
    case rest =>
      clear hbw D0 O0
      obtain ⟨B2, of2, or2, om2, n2, r2, m2, kf2, kr2, km2, us2, rfl, rfl, D2, O2, D0, O0, hbw⟩ := hcut
      obtain ⟨D0_c, D0_f, D0_z⟩ := D0.all
      obtain ⟨D2_c, D2_f, D2_z⟩ := D2.all
      go_wp2_with fail
      clear D0_c D0_f D0_z
      clear D2_c D2_f D2_z
      with_reducible refine (HFW.out _ _ O2.row).mono ?_
      rintro e w12 ⟨rfl, hb12⟩
      replace D0 := D0.below hb12
      replace O0 := O0.below hb12
      replace hbw := hbw.trans (hb12.mono hbw.size)
      clear hb12 D2 O2
      obtain ⟨D0_c, D0_f, D0_z⟩ := D0.all
      go_wp2_with fail
      clear D0_c D0_f D0_z
      go_ways
      go_cut [21, 22] from 101 to 107 (fun v v2 wx => NewAt (fun wx => HasBlock wx B0 #[.slice of0 n0 kf0, .slice or0 r0 kr0, .slice om0 m0 km0] 26 ∧ OwnP 0 wx (.slice of0 n0 kf0) (.slice or0 r0 kr0) (.slice om0 m0 km0) us0 P ∧ Below w.heap.size w wx) Z v v2 wx)
      case first =>
        obtain ⟨D0_c, D0_f, D0_z⟩ := D0.all
        have hrule : ∀ w' : World, Below w12.heap.size w12 w' → ∀ b o, b < w12.heap.size → w'.cell? ⟨b, o, none⟩ = w12.cell? ⟨b, o, none⟩ := fun w' h b o hlt => h.cell (p := ⟨b, o, none⟩) hlt
        go_region_held3 (fun w' => Below w12.heap.size w12 w') (repeat (first | with_reducible assumption | with_reducible exact Below.refl _ _ | (with_reducible refine Below.drew ?_) | (with_reducible refine Below.alloc' ?_ (Nat.le_refl _) _) | (with_reducible refine Below.setCell ?_ (by first | exact rfl | exact Nat.le_refl _ | omega | (dsimp only; omega) | (simp only [sizes]; done) | (simp only [sizes]; omega)) _) | (refine Below.trans ?_ (Below.mono (by with_reducible assumption) (by first | exact rfl | exact Nat.le_refl _ | omega | (dsimp only; omega) | (simp only [sizes]; done) | (simp only [sizes]; omega)))))) ((first
          |
           (go_at_call 12
            with_reducible refine (HPZ.out _).mono ?_
            rintro e w13 ⟨rfl, hb2⟩
            obtain ⟨hc2, hf2⟩ := bcell hb2
            have hzz2 := bsize hb2
            (try simp only [sizes1] at hzz2)
            (try simp only [sizes] at hc2 hf2))
          |
           (go_at_call 15
            with_reducible refine (HWZ.out _ _ (O0.row.below (by (repeat (first | with_reducible assumption | with_reducible exact Below.refl _ _ | (with_reducible refine Below.drew ?_) | (with_reducible refine Below.alloc' ?_ (Nat.le_refl _) _) | (with_reducible refine Below.setCell ?_ (by first | exact rfl | exact Nat.le_refl _ | omega | (dsimp only; omega) | (simp only [sizes]; done) | (simp only [sizes]; omega)) _) | (refine Below.trans ?_ (Below.mono (by with_reducible assumption) (by first | exact rfl | exact Nat.le_refl _ | omega | (dsimp only; omega) | (simp only [sizes]; done) | (simp only [sizes]; omega))))))))).mono ?_
            rintro e w14 ⟨of6, or6, om6, kf6, kr6, km6, us6, rfl, O6, hbz2⟩
            obtain ⟨n6, hgn⟩ : ∃ n, (Pl.F Z).length = n := ⟨_, rfl⟩
            obtain ⟨r6, hgr⟩ : ∃ n, (Pl.R Z).length = n := ⟨_, rfl⟩
            obtain ⟨m6, hgm⟩ : ∃ n, (Pl.M Z).length = n := ⟨_, rfl⟩
            rw [hgn, hgr, hgm] at O6 ⊢
            clear hgn hgr hgm
            obtain ⟨hc92, hf92⟩ := bcell hbz2
            have hzz92 := bsize hbz2
            (try simp only [sizes1] at hzz92)
            (try simp only [sizes] at hc92 hf92))))
        all_goals
          go_wp2_with fail
          go_meet
          refine ⟨_, of6, or6, om6, n6, r6, m6, kf6, kr6, km6, us6, rfl, rfl, ?h1, ?h2, ?h3, ?h4, ?h5⟩
          case h1 => (repeat' (first | with_reducible assumption | (with_reducible refine HasBlock.drew ?_) | (with_reducible refine HasBlock.made' (by first | exact rfl | exact Nat.le_refl _ | omega | (dsimp only; omega) | (simp only [sizes]; done) | (simp only [sizes]; omega))) | (with_reducible refine HasBlock.alloc ?_ _) | (with_reducible refine HasBlock.fill3 ?_) | (with_reducible refine HasBlock.fill_ne ?_ (by first | exact rfl | exact Nat.le_refl _ | omega | (dsimp only; omega) | (simp only [sizes]; done) | (simp only [sizes]; omega)) _ _ _) | (with_reducible refine HasBlock.below ?_ hbz2) | (with_reducible refine HasBlock.below ?_ hb2)))
          case h2 => (repeat' (first | with_reducible assumption | (with_reducible refine OwnP.drew ?_) | (with_reducible refine OwnP.alloc ?_ _) | (with_reducible refine OwnP.fill (x0 := .slice none 0 0) (x1 := .slice none 0 0) (x2 := .slice none 0 0) (T := 26) ?_ ?_ (by decide) (by decide) (by decide) _ _ _) | (with_reducible refine OwnP.below ?_ hbz2) | (with_reducible refine OwnP.below ?_ hb2) | (with_reducible refine HasBlock.drew ?_) | (with_reducible refine HasBlock.made' (by first | exact rfl | exact Nat.le_refl _ | omega | (dsimp only; omega) | (simp only [sizes]; done) | (simp only [sizes]; omega))) | (with_reducible refine HasBlock.alloc ?_ _) | (with_reducible refine HasBlock.below ?_ hbz2) | (with_reducible refine HasBlock.below ?_ hb2)))
          case h3 => (repeat' (first | with_reducible assumption | (with_reducible refine HasBlock.drew ?_) | (with_reducible refine HasBlock.made' (by first | exact rfl | exact Nat.le_refl _ | omega | (dsimp only; omega) | (simp only [sizes]; done) | (simp only [sizes]; omega))) | (with_reducible refine HasBlock.alloc ?_ _) | (with_reducible refine HasBlock.fill3 ?_) | (with_reducible refine HasBlock.fill_ne ?_ (by first | exact rfl | exact Nat.le_refl _ | omega | (dsimp only; omega) | (simp only [sizes]; done) | (simp only [sizes]; omega)) _ _ _) | (with_reducible refine HasBlock.below ?_ hbz2) | (with_reducible refine HasBlock.below ?_ hb2)))
          case h4 => (repeat' (first | with_reducible assumption | (with_reducible refine OwnP.drew ?_) | (with_reducible refine OwnP.alloc ?_ _) | (with_reducible refine OwnP.fill (x0 := .slice none 0 0) (x1 := .slice none 0 0) (x2 := .slice none 0 0) (T := 26) ?_ ?_ (by decide) (by decide) (by decide) _ _ _) | (with_reducible refine OwnP.below ?_ hbz2) | (with_reducible refine OwnP.below ?_ hb2) | (with_reducible refine HasBlock.drew ?_) | (with_reducible refine HasBlock.made' (by first | exact rfl | exact Nat.le_refl _ | omega | (dsimp only; omega) | (simp only [sizes]; done) | (simp only [sizes]; omega))) | (with_reducible refine HasBlock.alloc ?_ _) | (with_reducible refine HasBlock.below ?_ hbz2) | (with_reducible refine HasBlock.below ?_ hb2)))
          case h5 => exact hbw.trans (Below.mono (by (repeat (first | with_reducible assumption | with_reducible exact Below.refl _ _ | (with_reducible refine Below.drew ?_) | (with_reducible refine Below.alloc' ?_ (Nat.le_refl _) _) | (with_reducible refine Below.setCell ?_ (by first | exact rfl | exact Nat.le_refl _ | omega | (dsimp only; omega) | (simp only [sizes]; done) | (simp only [sizes]; omega)) _) | (refine Below.trans ?_ (Below.mono (by with_reducible assumption) (by first | exact rfl | exact Nat.le_refl _ | omega | (dsimp only; omega) | (simp only [sizes]; done) | (simp only [sizes]; omega))))))) hbw.size)
      case rest =>
        clear hbw D0 O0
        obtain ⟨B3, of3, or3, om3, n3, r3, m3, kf3, kr3, km3, us3, rfl, rfl, D3, O3, D0, O0, hbw⟩ := hcut
        obtain ⟨D0_c, D0_f, D0_z⟩ := D0.all
        obtain ⟨D3_c, D3_f, D3_z⟩ := D3.all
        go_wp2_with fail
        clear D0_c D0_f D0_z
        clear D3_c D3_f D3_z
        with_reducible refine (HRZ.out _ _ O3.row).mono ?_
        rintro e w15 ⟨rfl, hb15⟩
        replace D3 := D3.below hb15
        replace O3 := O3.below hb15
        replace hbw := hbw.trans (hb15.mono hbw.size)
        clear hb15
        have t1' : ((x3 : Int) ≥ (x : Int)) := by omega
        have t2' : ((y3 : Int) ≤ (y : Int)) := by omega
        have t3' : decide ((x3 : Int) ≥ (x : Int)) = true := by simp; omega
        have t4' : decide ((y3 : Int) ≤ (y : Int)) = true := by simp; omega
        obtain ⟨D0_c, D0_f, D0_z⟩ := D0.all
        obtain ⟨D3_c, D3_f, D3_z⟩ := D3.all
        go_wp2_with fail
        clear D0_c D0_f D0_z
        clear D3_c D3_f D3_z
        with_reducible refine (HPZ.out _).mono ?_
        rintro e w16 ⟨rfl, hb16⟩
        replace D3 := D3.below hb16
        replace O3 := O3.below hb16
        replace hbw := hbw.trans (hb16.mono hbw.size)
        clear hb16
        obtain ⟨D0_c, D0_f, D0_z⟩ := D0.all
        obtain ⟨D3_c, D3_f, D3_z⟩ := D3.all
        go_wp2_with fail
        clear D0_c D0_f D0_z
        clear D3_c D3_f D3_z
        with_reducible refine (HFZ.out _ _ O3.row).mono ?_
        rintro e w17 ⟨rfl, hb17⟩
        replace D3 := D3.below hb17
        replace O3 := O3.below hb17
        replace hbw := hbw.trans (hb17.mono hbw.size)
        clear hb17
        obtain ⟨D0_c, D0_f, D0_z⟩ := D0.all
        obtain ⟨D3_c, D3_f, D3_z⟩ := D3.all
        go_wp2_with fail
        clear D0_c D0_f D0_z
        clear D3_c D3_f D3_z
        with_reducible refine (HCZ.out _ _ O3.row).mono ?_
        rintro e w18 ⟨rfl, hb18⟩
        replace D3 := D3.below hb18
        replace O3 := O3.below hb18
        replace hbw := hbw.trans (hb18.mono hbw.size)
        clear hb18
        obtain ⟨D0_c, D0_f, D0_z⟩ := D0.all
        obtain ⟨D3_c, D3_f, D3_z⟩ := D3.all
        go_wp2_with fail
        clear D0_c D0_f D0_z
        clear D3_c D3_f D3_z
        with_reducible refine (awake_any _).mono ?_
        rintro e w19 ⟨rfl, hb19⟩
        replace D3 := D3.below hb19
        replace O3 := O3.below hb19
        replace hbw := hbw.trans (hb19.mono hbw.size)
        clear hb19
        obtain ⟨D0_c, D0_f, D0_z⟩ := D0.all
        obtain ⟨D3_c, D3_f, D3_z⟩ := D3.all
        go_wp2_with fail
        clear D0_c D0_f D0_z
        clear D3_c D3_f D3_z
        go_ret
        exact Ret.mk hbw
end Go.Proofs.Ytjoopjgpjkmmhaa
