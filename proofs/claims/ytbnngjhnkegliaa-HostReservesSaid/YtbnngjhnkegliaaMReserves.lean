/-
  PROVED: 'HostReservesSaid': for every number of frames, tax, list of claims, of operations and of pages, HostReserves hands back true and leaves all memory as it was. Conditions: none.
-/
import Derived.Test.YtbnngjhnkegliaaB10
import Derived.Test.YtbnngjhnkegliaaB11
namespace Go.Proofs.Ytbnngjhnkegliaa
open Go.RowKit

theorem claim_field1 (c : Clm) (w : World) : (Instr.field 35 (.agg #[.int .i64 c.r, .int .i64 c.l, .int .i64 c.s, .int .i64 c.p, .int .i64 c.a]) 1).run Try.prog w = .ok (.int .i64 c.l) w := by kernel_rfl
set_option maxRecDepth 100000 in
set_option maxHeartbeats 8000000 in
theorem limits_any (fr tx : Int) (va vb : Value) (ls os : List Int) (w : World) (ha : NumRow w va ls) (hb : NumRow w vb os) : Calls Try.prog 5 #[.int .i64 fr, .int .i64 tx, va, vb] w (Ret w (.bool true)) := by
  obtain ⟨bo, cb, rfl, b1, b2, _⟩ := hb.out
  unfold maxLen at b2
  obtain ⟨N, hN⟩ : ∃ N, os.length = N := ⟨_, rfl⟩
  rw [hN] at b1 hb ⊢
  have HN := Lib.hid hN; clear hN
  have HA := Lib.hid ha; clear ha
  have HB0 := Lib.hid hb; clear hb
  go_enter Try.func5, Try.ntmps5
  by_cases c1 : fr < 6
  · have t1 : decide (fr < 6) = true := decide_eq_true c1
    go_wp2_with fail
    with_reducible refine (awake_any _).mono ?_
    rintro e wz ⟨rfl, hbz⟩
    go_wp2_with fail
    go_ret
    exact Ret.mk hbz
  have t1 : decide (fr < 6) = false := decide_eq_false c1
  by_cases c2 : 14 < fr
  · have t2 : decide (fr > 14) = true := decide_eq_true c2
    have t2' : decide (14 < fr) = true := decide_eq_true c2
    go_wp2_with fail
    with_reducible refine (awake_any _).mono ?_
    rintro e wz ⟨rfl, hbz⟩
    go_wp2_with fail
    go_ret
    exact Ret.mk hbz
  have t2 : decide (fr > 14) = false := decide_eq_false c2
  have t2' : decide (14 < fr) = false := decide_eq_false c2
  by_cases c3 : tx < 0
  · have t3 : decide (tx < 0) = true := decide_eq_true c3
    go_wp2_with fail
    with_reducible refine (awake_any _).mono ?_
    rintro e wz ⟨rfl, hbz⟩
    go_wp2_with fail
    go_ret
    exact Ret.mk hbz
  have t3 : decide (tx < 0) = false := decide_eq_false c3
  by_cases c4 : 99 < tx
  · have t4 : decide (tx > 99) = true := decide_eq_true c4
    have t4' : decide (99 < tx) = true := decide_eq_true c4
    go_wp2_with fail
    with_reducible refine (awake_any _).mono ?_
    rintro e wz ⟨rfl, hbz⟩
    go_wp2_with fail
    go_ret
    exact Ret.mk hbz
  have t4 : decide (tx > 99) = false := decide_eq_false c4
  have t4' : decide (99 < tx) = false := decide_eq_false c4
  by_cases c5 : 60 < N
  · have t5 : decide ((N : Int) > 60) = true := decide_eq_true (by omega)
    have t5' : decide ((60 : Int) < (N : Int)) = true := decide_eq_true (by omega)
    have t5'' : decide (60 < N) = true := decide_eq_true c5
    go_wp2_with fail
    with_reducible refine (awake_any _).mono ?_
    rintro e wz ⟨rfl, hbz⟩
    go_wp2_with fail
    go_ret
    exact Ret.mk hbz
  have t5 : decide ((N : Int) > 60) = false := decide_eq_false (by omega)
  have t5' : decide ((60 : Int) < (N : Int)) = false := decide_eq_false (by omega)
  have t5'' : decide (60 < N) = false := decide_eq_false c5
  obtain ⟨n, hn⟩ : ∃ n : Nat, fr = n := ⟨fr.toNat, by omega⟩
  have hn6 : 6 ≤ n ∧ n ≤ 14 := by omega
  subst hn
  have MD := fun w h => made_any n tx va ls w hn6.1 (by omega) (by omega) h
  have hfr := madeH_fresh (n := n) (t := tx) (ls := ls) hn6.1 (by omega) (by omega) 3 (by omega)
  obtain ⟨H0, hH0⟩ : ∃ x, madeH n tx ls 3 = x := ⟨_, rfl⟩
  rw [hH0] at MD hfr
  have HMD := Lib.hid MD; clear MD hH0
  have HFR := Lib.hid hfr; clear hfr
  have hbw : Below w.heap.size w w := Below.refl _ _
  go_wp2_with fail
  with_reducible refine (HMD.out _ HA.out).mono ?_
  rintro e w1 ⟨of0, or0, om0, og0, kf0, kr0, km0, kg0, us0, gs0, rfl, O0, hb1⟩
  replace hbw := hbw.trans hb1
  clear hb1
  obtain ⟨n0, hln⟩ : ∃ n, (Pl.F (Ho.P H0)).length = n := ⟨_, rfl⟩
  obtain ⟨r0, hlr⟩ : ∃ n, (Pl.R (Ho.P H0)).length = n := ⟨_, rfl⟩
  obtain ⟨m0, hlm⟩ : ∃ n, (Pl.M (Ho.P H0)).length = n := ⟨_, rfl⟩
  obtain ⟨q0, hlq⟩ : ∃ n, (Ho.G H0).length = n := ⟨_, rfl⟩
  obtain ⟨t0, hlt0⟩ : ∃ n, Ho.t H0 = n := ⟨_, rfl⟩
  obtain ⟨d0, hld⟩ : ∃ n, Ho.d H0 = n := ⟨_, rfl⟩
  obtain ⟨s0, hls⟩ : ∃ n, Ho.n H0 = n := ⟨_, rfl⟩
  rw [hln, hlr, hlm, hlq] at O0 ⊢
  rw [hlt0, hld, hls]
  have HG0 := Lib.hid (And.intro hln (And.intro hlr (And.intro hlm (And.intro hlq (And.intro hlt0 (And.intro hld hls))))))
  clear hln hlr hlm hlq hlt0 hld hls
  go_upto_region 4 with (fail)
  have HB := HostAt.new (base' := 0) HG0.out O0 (Nat.zero_le _)
  have hz1 := hbw.size
  replace hbw := hbw.alloc hbw.size (.cells #[.slice of0 n0 kf0, .slice or0 r0 kr0, .slice om0 m0 km0, .slice og0 q0 kg0, .int .i64 t0, .int .u64 d0, .int .i64 s0] 31)
  obtain ⟨B0, hB⟩ : ∃ B, w1.heap.size = B := ⟨_, rfl⟩
  rw [hB] at HB hz1 ⊢
  generalize hW : w1.alloc (.cells #[.slice of0 n0 kf0, .slice or0 r0 kr0, .slice om0 m0 km0, .slice og0 q0 kg0, .int .i64 t0, .int .u64 d0, .int .i64 s0] 31) = w2 at HB hbw ⊢
  clear hW hB O0 HG0
  have HSH := Lib.hid HFR.out.shape; clear HFR
  go_wp2_with fail
  go_loopw [10, 11] (fun bv iv wr => ∃ (i : Nat) (H : Ho), i ≤ N ∧ bv = .bool true ∧ iv = .int .i64 i ∧ Hid (HShape n ls H) ∧ HostAt 0 B0 wr H ∧ Below w.heap.size w wr) (fun _ iv _ => N - (intOf iv).toNat)
  case atStart => exact ⟨0, H0, by omega, rfl, rfl, HSH, HB, hbw⟩
  case round =>
    clear HSH HB hbw HMD
    obtain ⟨i, H, hi, rfl, rfl, HSH, HBX, hbw⟩ := hrel
    by_cases hlt : i < N
    · obtain ⟨x, hx⟩ := get_lt (xs := os) (k := i) (by rw [HN.out]; exact hlt)
      obtain ⟨b, off, rfl, hbs, hcx⟩ := EncRow.elem (enc := Value.int .i64) HB0.out hx
      clear hx
      have cx := (hbw.cell (p := ⟨b, off + i, none⟩) hbs).trans hcx
      have hbs2 : b < wr.heap.size := by have := hbw.size; omega
      have i0 : (0 : Int) ≤ (i : Int) := by omega
      have iN : (i : Int) < (N : Int) := by omega
      have ACT := fun v w h => act_any v n ls H x w h HSH.out
      have HACT := Lib.hid ACT; clear ACT
      obtain ⟨of1, or1, om1, og1, kf1, kr1, km1, kg1, us1, gs1, D1, O1⟩ := HBX
      obtain ⟨n1, hln⟩ : ∃ n, (Pl.F (Ho.P H)).length = n := ⟨_, rfl⟩
      obtain ⟨r1, hlr⟩ : ∃ n, (Pl.R (Ho.P H)).length = n := ⟨_, rfl⟩
      obtain ⟨m1, hlm⟩ : ∃ n, (Pl.M (Ho.P H)).length = n := ⟨_, rfl⟩
      obtain ⟨q1, hlq⟩ : ∃ n, (Ho.G H).length = n := ⟨_, rfl⟩
      obtain ⟨t1, hlt1⟩ : ∃ n, Ho.t H = n := ⟨_, rfl⟩
      obtain ⟨d1, hld⟩ : ∃ n, Ho.d H = n := ⟨_, rfl⟩
      obtain ⟨s1, hls⟩ : ∃ n, Ho.n H = n := ⟨_, rfl⟩
      rw [hln, hlr, hlm, hlq] at O1 D1
      rw [hlt1, hld, hls] at D1
      have HG1 := Lib.hid (And.intro hln (And.intro hlr (And.intro hlm (And.intro hlq (And.intro hlt1 (And.intro hld hls))))))
      clear hln hlr hlm hlq hlt1 hld hls
      have HV1 : Hid (∀ w' : World, Below (wr).heap.size wr w' → HoAt w' (.agg #[.slice of1 n1 kf1, .slice or1 r1 kr1, .slice om1 m1 km1, .slice og1 q1 kg1, .int .i64 t1, .int .u64 d1, .int .i64 s1]) H) := Lib.hid (fun w' hb => by
        have := (O1.below hb).at_
        rwa [HG1.out.2.2.2.2.1, HG1.out.2.2.2.2.2.1, HG1.out.2.2.2.2.2.2] at this)
      go_wp2_with fail
      go_cut [10] from 48 to 62 (fun v wx => v = .bool true ∧ ∃ H', Hid (∃ g p s, ActTo H H' g p s) ∧ HostAt 0 B0 wx H' ∧ Below w.heap.size w wx)
      case first =>
        have D1k := D1
        obtain ⟨D1_c, D1_f, D1_z⟩ := D1.all
        have hbz := hbs2
        go_region_law (first
          | (go_simp; go_at_call 19
             with_reducible refine (HACT.out _ _ (HV1.out _ (Below.drew (Below.refl _ _)))).mono ?_
             rintro _ w16 ⟨H2, ga, pa, sa, hact, of16, or16, om16, og16, kf16, kr16, km16, kg16, us16, gs16, rfl, O16, hb16⟩
             obtain ⟨n16, hln⟩ : ∃ n, (Pl.F (Ho.P H2)).length = n := ⟨_, rfl⟩
             obtain ⟨r16, hlr⟩ : ∃ n, (Pl.R (Ho.P H2)).length = n := ⟨_, rfl⟩
             obtain ⟨m16, hlm⟩ : ∃ n, (Pl.M (Ho.P H2)).length = n := ⟨_, rfl⟩
             obtain ⟨q16, hlq⟩ : ∃ n, (Ho.G H2).length = n := ⟨_, rfl⟩
             obtain ⟨t16, hlt16⟩ : ∃ n, Ho.t H2 = n := ⟨_, rfl⟩
             obtain ⟨d16, hld⟩ : ∃ n, Ho.d H2 = n := ⟨_, rfl⟩
             obtain ⟨s16, hls⟩ : ∃ n, Ho.n H2 = n := ⟨_, rfl⟩
             rw [hln, hlr, hlm, hlq] at O16 ⊢
             rw [hlt16, hld, hls]
             have HG16 := Lib.hid (And.intro hln (And.intro hlr (And.intro hlm (And.intro hlq (And.intro hlt16 (And.intro hld hls))))))
             clear hln hlr hlm hlq hlt16 hld hls
             have HACK := Lib.hid hact
             clear hact
             have HB16 : Below wr.heap.size wr w16 := (Below.drew (Below.refl _ wr)).trans hb16
             have E0 := D1k.below HB16
             have O16z := O16.lower (base' := 0) (Nat.zero_le _)
             have hbw16 : Below w.heap.size w w16 := hbw.trans (HB16.mono hbw.size)
             have E0k := E0
             obtain ⟨E0_c, E0_f, E0_z⟩ := E0.all))
        all_goals
          go_wp2_with fail
          go_meet
          exact ⟨rfl, H2, Lib.hid ⟨_, _, _, HACK.out⟩, HostAt.fill HG16.out E0k O16z, Below.fill7 hbw16 (by omega) _ _ _ _ _ _ _⟩
      case rest =>
        clear D1 O1 HV1 HG1 hbw cx hbs2
        obtain ⟨rfl, H2, HAK, HBX, hbw⟩ := hcut
        obtain ⟨g2, p2, s2, hact⟩ := HAK.out
        have HS2 := Lib.hid (act_kept HSH.out hact).1
        clear hact HAK HACT HSH
        have HBK := HBX
        obtain ⟨of2, or2, om2, og2, kf2, kr2, km2, kg2, us2, gs2, D2, O2⟩ := HBX
        obtain ⟨n2, hln⟩ : ∃ n, (Pl.F (Ho.P H2)).length = n := ⟨_, rfl⟩
        obtain ⟨r2, hlr⟩ : ∃ n, (Pl.R (Ho.P H2)).length = n := ⟨_, rfl⟩
        obtain ⟨m2, hlm⟩ : ∃ n, (Pl.M (Ho.P H2)).length = n := ⟨_, rfl⟩
        obtain ⟨q2, hlq⟩ : ∃ n, (Ho.G H2).length = n := ⟨_, rfl⟩
        obtain ⟨t2, hlt2⟩ : ∃ n, Ho.t H2 = n := ⟨_, rfl⟩
        obtain ⟨d2, hld⟩ : ∃ n, Ho.d H2 = n := ⟨_, rfl⟩
        obtain ⟨s2, hls⟩ : ∃ n, Ho.n H2 = n := ⟨_, rfl⟩
        rw [hln, hlr, hlm, hlq] at O2 D2
        rw [hlt2, hld, hls] at D2
        have HG2 := Lib.hid (And.intro hln (And.intro hlr (And.intro hlm (And.intro hlq (And.intro hlt2 (And.intro hld hls))))))
        clear hln hlr hlm hlq hlt2 hld hls
        have HV2 : Hid (∀ w' : World, Below (wc).heap.size wc w' → HoAt w' (.agg #[.slice of2 n2 kf2, .slice or2 r2 kr2, .slice om2 m2 km2, .slice og2 q2 kg2, .int .i64 t2, .int .u64 d2, .int .i64 s2]) H2) := Lib.hid (fun w' hb => by
          have := (O2.below hb).at_
          rwa [HG2.out.2.2.2.2.1, HG2.out.2.2.2.2.2.1, HG2.out.2.2.2.2.2.2] at this)
        have hn2 : n2 = n := by rw [← HG2.out.1]; exact HS2.out.f
        have hr2 : r2 = n := by rw [← HG2.out.2.1, HS2.out.ok.p.r]; exact HS2.out.f
        rw [hn2, hr2] at D2 O2 HV2 HG2
        clear hn2 hr2
        have HRR := Lib.hid O2.row.p.parts.2.1
        have hrl := HG2.out.2.1
        have HRL := Lib.hid hrl; clear hrl
        obtain ⟨D2_c, D2_f, D2_z⟩ := D2.all
        go_wp2_with fail
        go_loop [12, 13] (fun u k => ∃ j c : Nat, j ≤ n ∧ c ≤ j ∧ k = .int .i64 j ∧ u = .int .i64 c) (fun _ k => n - (intOf k).toNat)
        case atStart => exact ⟨0, 0, by omega, by omega, rfl, rfl⟩
        case round =>
          obtain ⟨j, c, hj, hcj, rfl, rfl⟩ := hrel
          by_cases hjt : j < n
          · obtain ⟨y, hy⟩ := get_lt (xs := H2.P.R) (k := j) (by rw [HRL.out]; exact hjt)
            obtain ⟨rb, roff, rfl, hrb, hcy⟩ := EncRow.elem (enc := Value.int .i64) HRR.out hy
            clear hy
            have j0 : (0 : Int) ≤ (j : Int) := by omega
            have jn : (j : Int) < (n : Int) := by omega
            by_cases hy0 : 0 < y
            · have q1 : decide (y > 0) = true := decide_eq_true hy0
              have q2 : decide (0 < y) = true := decide_eq_true hy0
              go_wp2_with fail
              go_round
              case rel => exact ⟨j + 1, c + 1, by omega, by omega, by go_num, by go_num⟩
              case measure => simp [intOf]; omega
            · have q1 : decide (y > 0) = false := decide_eq_false hy0
              have q2 : decide (0 < y) = false := decide_eq_false hy0
              go_wp2_with fail
              go_round
              case rel => exact ⟨j + 1, c, by omega, by omega, by go_num, rfl⟩
              case measure => simp [intOf]; omega
          · obtain rfl : n = j := by omega
            have q1 : decide ((c : Int) > (n : Int)) = false := decide_eq_false (by omega)
            have q2 : decide ((n : Int) < (c : Int)) = false := decide_eq_false (by omega)
            go_wp2_with fail
            clear D2_c D2_f D2_z D2 O2 HV2 HRR HRL q1 q2
            go_loopw [14] (fun gv wr => ∃ g : Nat, g ≤ 3 ∧ gv = .int .i64 g ∧ HostAt 0 B0 wr H2 ∧ Below w.heap.size w wr) (fun gv _ => 3 - (intOf gv).toNat)
            case atStart => exact ⟨0, by omega, rfl, HBK, hbw⟩
            case round =>
              clear HBK hbw
              obtain ⟨g, hg, rfl, HBX, hbw⟩ := hrel
              have HBK := HBX
              by_cases hgt : g < 3
              · obtain ⟨of3, or3, om3, og3, kf3, kr3, km3, kg3, us3, gs3, D3, O3⟩ := HBX
                obtain ⟨n3, hln⟩ : ∃ n, (Pl.F (Ho.P H2)).length = n := ⟨_, rfl⟩
                obtain ⟨r3, hlr⟩ : ∃ n, (Pl.R (Ho.P H2)).length = n := ⟨_, rfl⟩
                obtain ⟨m3, hlm⟩ : ∃ n, (Pl.M (Ho.P H2)).length = n := ⟨_, rfl⟩
                obtain ⟨q3, hlq⟩ : ∃ n, (Ho.G H2).length = n := ⟨_, rfl⟩
                obtain ⟨t3, hlt3⟩ : ∃ n, Ho.t H2 = n := ⟨_, rfl⟩
                obtain ⟨d3, hld⟩ : ∃ n, Ho.d H2 = n := ⟨_, rfl⟩
                obtain ⟨s3, hls⟩ : ∃ n, Ho.n H2 = n := ⟨_, rfl⟩
                rw [hln, hlr, hlm, hlq] at O3 D3
                rw [hlt3, hld, hls] at D3
                have HG3 := Lib.hid (And.intro hln (And.intro hlr (And.intro hlm (And.intro hlq (And.intro hlt3 (And.intro hld hls))))))
                clear hln hlr hlm hlq hlt3 hld hls
                have HV3 : Hid (∀ w' : World, Below (wr).heap.size wr w' → HoAt w' (.agg #[.slice of3 n3 kf3, .slice or3 r3 kr3, .slice om3 m3 km3, .slice og3 q3 kg3, .int .i64 t3, .int .u64 d3, .int .i64 s3]) H2) := Lib.hid (fun w' hb => by
                  have := (O3.below hb).at_
                  rwa [HG3.out.2.2.2.2.1, HG3.out.2.2.2.2.2.1, HG3.out.2.2.2.2.2.2] at this)
                obtain ⟨X, hX⟩ := get_lt (xs := H2.G) (k := g) (by rw [HS2.out.g]; exact hgt)
                have hlm := (HS2.out.ok.gmP hX).lim
                rw [(HS2.out.cl g X hX).2] at hlm
                have RS := fun v w h => hres_ok v H2 g w h HS2.out.ok (by rw [HS2.out.g]; exact hgt)
                have AT := fun w h => at_any va ls g w h (by omega)
                have CL := fun w => claim_any (atI ls g) w
                obtain ⟨cc, hcc⟩ : ∃ c, claimI (atI ls g) = c := ⟨_, rfl⟩
                obtain ⟨ch, hch⟩ : ∃ c, H2.P.chargeN g = c := ⟨_, rfl⟩
                rw [hcc] at CL hlm
                rw [hch] at RS hlm
                have HRS := Lib.hid RS; clear RS
                have HATT := Lib.hid AT; clear AT
                have HCL := Lib.hid CL; clear CL
                clear hX hcc hch
                have q1 : decide ((ch : Int) > cc.l) = false := decide_eq_false (by omega)
                have q2 : decide (cc.l < (ch : Int)) = false := decide_eq_false (by omega)
                have g3 : (g : Int) < 3 := by omega
                have hfl := claim_field1 cc
                obtain ⟨D3_c, D3_f, D3_z⟩ := D3.all
                go_wp2_with fail
                clear D3_c D3_f D3_z
                with_reducible refine (HRS.out _ _ (HV3.out _ (Below.refl _ _))).mono ?_
                rintro e w20 ⟨rfl, hbk⟩
                replace HBK := HBK.below hbk
                replace hbw := hbw.trans (hbk.mono hbw.size)
                clear hbk D3 O3 HV3 HG3
                go_wp2_with fail
                with_reducible refine (HATT.out _ (HA.out.below hbw)).mono ?_
                rintro e w21 ⟨rfl, hbk⟩
                replace HBK := HBK.below hbk
                replace hbw := hbw.trans (hbk.mono hbw.size)
                clear hbk
                go_wp2_with fail
                with_reducible refine (HCL.out _).mono ?_
                rintro e w22 ⟨rfl, hbk⟩
                replace HBK := HBK.below hbk
                replace hbw := hbw.trans (hbk.mono hbw.size)
                clear hbk
                go_wp2_with fail
                go_roundw
                case rel => exact ⟨g + 1, by omega, by go_num, HBK, hbw⟩
                case measure => simp [intOf]; omega
              · obtain rfl : g = 3 := by omega
                go_wp2_with fail
                go_roundw
                case rel => exact ⟨i + 1, H2, by omega, rfl, by go_num, HS2, HBK, hbw⟩
                case measure => simp [intOf]; omega
    · obtain rfl : N = i := by omega
      go_wp2_with fail
      with_reducible refine (awake_any _).mono ?_
      rintro e wz ⟨rfl, hbz⟩
      replace hbw := hbw.trans (hbz.mono hbw.size)
      go_wp2_with fail
      go_ret
      exact Ret.mk hbw
end Go.Proofs.Ytbnngjhnkegliaa
namespace Go.Proofs.Ytbnngjhnkegliaa
open Go.RowKit

theorem claim_field0 (c : Clm) (w : World) : (Instr.field 35 (.agg #[.int .i64 c.r, .int .i64 c.l, .int .i64 c.s, .int .i64 c.p, .int .i64 c.a]) 0).run Try.prog w = .ok (.int .i64 c.r) w := by kernel_rfl
/-- Guest 0 within its reservation: nothing swapped, no more pages than reserved. -/
theorem Res.swapped {H : Ho} {R : Nat} (h : Res H R) {g : Gm} (hg : H.G[0]? = some g) : g.swapped = 0 := by
  unfold Gm.swapped
  rw [List.countP_eq_zero]
  intro s hs
  obtain ⟨j, hj⟩ := List.getElem?_of_mem hs
  have := h.sw j
  rw [Ho.sw_eq hg hj] at this
  unfold fullB emptyB
  rw [decide_eq_true this]
  decide
set_option maxRecDepth 100000 in
set_option maxHeartbeats 8000000 in
theorem reserves_any (fr tx : Int) (va vb vc : Value) (ls os ps : List Int) (w : World) (ha : NumRow w va ls) (hb : NumRow w vb os) (hc : NumRow w vc ps) (hps : ∀ x ∈ ps, -9223372036854775808 ≤ x ∧ x ≤ 9223372036854775807) : Calls Try.prog 3 #[.int .i64 fr, .int .i64 tx, va, vb, vc] w (Ret w (.bool true)) := by
  obtain ⟨bo, cb, rfl, b1, b2, _⟩ := hb.out
  obtain ⟨co, cc, rfl, c1, c2, _⟩ := hc.out
  unfold maxLen at b2 c2
  obtain ⟨N, hN⟩ : ∃ N, os.length = N := ⟨_, rfl⟩
  obtain ⟨M, hM⟩ : ∃ N, ps.length = N := ⟨_, rfl⟩
  rw [hN] at b1 hb ⊢
  rw [hM] at c1 hc ⊢
  have HN := Lib.hid hN; clear hN
  have HM := Lib.hid hM; clear hM
  have HA := Lib.hid ha; clear ha
  have HB0 := Lib.hid hb; clear hb
  have HC0 := Lib.hid hc; clear hc
  have HPS := Lib.hid hps; clear hps
  go_enter Try.func3, Try.ntmps3
  by_cases c1 : fr < 6
  · have t1 : decide (fr < 6) = true := decide_eq_true c1
    go_wp2_with fail
    with_reducible refine (awake_any _).mono ?_
    rintro e wz ⟨rfl, hbz⟩
    go_wp2_with fail
    go_ret
    exact Ret.mk hbz
  have t1 : decide (fr < 6) = false := decide_eq_false c1
  by_cases c2 : 14 < fr
  · have t2 : decide (fr > 14) = true := decide_eq_true c2
    have t2' : decide (14 < fr) = true := decide_eq_true c2
    go_wp2_with fail
    with_reducible refine (awake_any _).mono ?_
    rintro e wz ⟨rfl, hbz⟩
    go_wp2_with fail
    go_ret
    exact Ret.mk hbz
  have t2 : decide (fr > 14) = false := decide_eq_false c2
  have t2' : decide (14 < fr) = false := decide_eq_false c2
  by_cases c3 : tx < 0
  · have t3 : decide (tx < 0) = true := decide_eq_true c3
    go_wp2_with fail
    with_reducible refine (awake_any _).mono ?_
    rintro e wz ⟨rfl, hbz⟩
    go_wp2_with fail
    go_ret
    exact Ret.mk hbz
  have t3 : decide (tx < 0) = false := decide_eq_false c3
  by_cases c4 : 99 < tx
  · have t4 : decide (tx > 99) = true := decide_eq_true c4
    have t4' : decide (99 < tx) = true := decide_eq_true c4
    go_wp2_with fail
    with_reducible refine (awake_any _).mono ?_
    rintro e wz ⟨rfl, hbz⟩
    go_wp2_with fail
    go_ret
    exact Ret.mk hbz
  have t4 : decide (tx > 99) = false := decide_eq_false c4
  have t4' : decide (99 < tx) = false := decide_eq_false c4
  by_cases c5 : 60 < N
  · have t5 : decide ((N : Int) > 60) = true := decide_eq_true (by omega)
    have t5' : decide ((60 : Int) < (N : Int)) = true := decide_eq_true (by omega)
    have t5'' : decide (60 < N) = true := decide_eq_true c5
    go_wp2_with fail
    with_reducible refine (awake_any _).mono ?_
    rintro e wz ⟨rfl, hbz⟩
    go_wp2_with fail
    go_ret
    exact Ret.mk hbz
  have t5 : decide ((N : Int) > 60) = false := decide_eq_false (by omega)
  have t5' : decide ((60 : Int) < (N : Int)) = false := decide_eq_false (by omega)
  have t5'' : decide (60 < N) = false := decide_eq_false c5
  by_cases c6 : 60 < M
  · have t6 : decide ((M : Int) > 60) = true := decide_eq_true (by omega)
    have t6' : decide ((60 : Int) < (M : Int)) = true := decide_eq_true (by omega)
    have t6'' : decide (60 < M) = true := decide_eq_true c6
    go_wp2_with fail
    with_reducible refine (awake_any _).mono ?_
    rintro e wz ⟨rfl, hbz⟩
    go_wp2_with fail
    go_ret
    exact Ret.mk hbz
  have t6 : decide ((M : Int) > 60) = false := decide_eq_false (by omega)
  have t6' : decide ((60 : Int) < (M : Int)) = false := decide_eq_false (by omega)
  have t6'' : decide (60 < M) = false := decide_eq_false c6
  obtain ⟨n, hn⟩ : ∃ n : Nat, fr = n := ⟨fr.toNat, by omega⟩
  have hn6 : 6 ≤ n ∧ n ≤ 14 := by omega
  subst hn
  have MD := fun w h => made_any n tx va ls w hn6.1 (by omega) (by omega) h
  have hfr := madeH_fresh (n := n) (t := tx) (ls := ls) hn6.1 (by omega) (by omega) 3 (by omega)
  obtain ⟨H0, hH0⟩ : ∃ x, madeH n tx ls 3 = x := ⟨_, rfl⟩
  rw [hH0] at MD hfr
  have HMD := Lib.hid MD; clear MD hH0
  have HFR := Lib.hid hfr; clear hfr
  have hbw : Below w.heap.size w w := Below.refl _ _
  go_wp2_with fail
  with_reducible refine (HMD.out _ HA.out).mono ?_
  rintro e w1 ⟨of0, or0, om0, og0, kf0, kr0, km0, kg0, us0, gs0, rfl, O0, hb1⟩
  replace hbw := hbw.trans hb1
  clear hb1
  obtain ⟨n0, hln⟩ : ∃ n, (Pl.F (Ho.P H0)).length = n := ⟨_, rfl⟩
  obtain ⟨r0, hlr⟩ : ∃ n, (Pl.R (Ho.P H0)).length = n := ⟨_, rfl⟩
  obtain ⟨m0, hlm⟩ : ∃ n, (Pl.M (Ho.P H0)).length = n := ⟨_, rfl⟩
  obtain ⟨q0, hlq⟩ : ∃ n, (Ho.G H0).length = n := ⟨_, rfl⟩
  obtain ⟨t0, hlt0⟩ : ∃ n, Ho.t H0 = n := ⟨_, rfl⟩
  obtain ⟨d0, hld⟩ : ∃ n, Ho.d H0 = n := ⟨_, rfl⟩
  obtain ⟨s0, hls⟩ : ∃ n, Ho.n H0 = n := ⟨_, rfl⟩
  rw [hln, hlr, hlm, hlq] at O0 ⊢
  rw [hlt0, hld, hls]
  have HG0 := Lib.hid (And.intro hln (And.intro hlr (And.intro hlm (And.intro hlq (And.intro hlt0 (And.intro hld hls))))))
  clear hln hlr hlm hlq hlt0 hld hls
  go_upto_region 4 with (fail)
  have HB := HostAt.new (base' := 0) HG0.out O0 (Nat.zero_le _)
  have hz1 := hbw.size
  replace hbw := hbw.alloc hbw.size (.cells #[.slice of0 n0 kf0, .slice or0 r0 kr0, .slice om0 m0 km0, .slice og0 q0 kg0, .int .i64 t0, .int .u64 d0, .int .i64 s0] 31)
  obtain ⟨B0, hB⟩ : ∃ B, w1.heap.size = B := ⟨_, rfl⟩
  rw [hB] at HB hz1 ⊢
  generalize hW : w1.alloc (.cells #[.slice of0 n0 kf0, .slice or0 r0 kr0, .slice om0 m0 km0, .slice og0 q0 kg0, .int .i64 t0, .int .u64 d0, .int .i64 s0] 31) = w2 at HB hbw ⊢
  clear hW hB O0 HG0
  have HSH := Lib.hid HFR.out.shape
  have HRS := Lib.hid HFR.out.res
  clear HFR HMD t1 t2 t2' t3 t4 t4' t5 t5' t5'' t6 t6' t6''
  obtain ⟨c1', c2', c3', c4', c5'⟩ := claimI_ok (atI ls 0)
  have AT := fun w h => at_any va ls 0 w h (by omega)
  have CL := fun w => claim_any (atI ls 0) w
  obtain ⟨cl, hcl⟩ : ∃ c, claimI (atI ls 0) = c := ⟨_, rfl⟩
  have e0 : ((0 : Nat) : Int) = 0 := rfl
  rw [e0] at AT
  rw [hcl] at CL HRS c3' c4'
  have HATT := Lib.hid AT; clear AT
  have HCL := Lib.hid CL; clear CL
  have HCE := Lib.hid hcl; clear hcl e0 c1' c2' c5'
  have hfl := claim_field0 cl
  go_wp2_with fail
  with_reducible refine (HATT.out _ (HA.out.below hbw)).mono ?_
  rintro e w3 ⟨rfl, hbk⟩
  replace HB := HB.below hbk
  replace hbw := hbw.trans (hbk.mono hbw.size)
  clear hbk
  go_wp2_with fail
  with_reducible refine (HCL.out _).mono ?_
  rintro e w4 ⟨rfl, hbk⟩
  replace HB := HB.below hbk
  replace hbw := hbw.trans (hbk.mono hbw.size)
  clear hbk
  go_wp2_with fail
  obtain ⟨r, hr⟩ : ∃ r : Nat, cl.r = r := ⟨cl.r.toNat, by omega⟩
  have hr2 : 1 ≤ r ∧ r ≤ 2 := by omega
  rw [hr] at HRS ⊢
  rw [Int.toNat_natCast] at HRS
  clear hfl
  go_loopw [14] (fun iv wr => ∃ (i : Nat) (H : Ho), i ≤ N ∧ iv = .int .i64 i ∧ Hid (HShape n ls H) ∧ Hid (Res H r) ∧ HostAt 0 B0 wr H ∧ Below w.heap.size w wr) (fun iv _ => N - (intOf iv).toNat)
  case atStart => exact ⟨0, H0, by omega, rfl, HSH, HRS, HB, hbw⟩
  case round =>
    clear HSH HRS HB hbw
    obtain ⟨i, H, hi, rfl, HSH, HRS, HBX, hbw⟩ := hrel
    by_cases hlt : i < N
    · have iN : (i : Int) < (N : Int) := by omega
      have i0 : (0 : Int) ≤ (i : Int) := by omega
      go_upto_if 67 with (fail)
      go_cut [15, 16] from 67 to 86 (fun v v2 wx => ∃ H', Hid (HShape n ls H') ∧ Hid (Res H' r) ∧ HostAt 0 B0 wx H' ∧ Below w.heap.size w wx)
      case first =>
        by_cases hm : i < M
        · obtain ⟨y, hy⟩ := get_lt (xs := ps) (k := i) (by rw [HM.out]; exact hm)
          have hyb := HPS.out y (mem_at hy)
          obtain ⟨pb, poff, rfl, hpb, hcy⟩ := EncRow.elem (enc := Value.int .i64) HC0.out hy
          clear hy
          have cy := (hbw.cell (p := ⟨pb, poff + i, none⟩) hpb).trans hcy
          have hpb2 : pb < wr.heap.size := by have := hbw.size; omega
          have iM : (i : Int) < (M : Int) := by omega
          have RN := fun w => round_any y r w hyb (by omega) (by omega)
          obtain ⟨p, hp⟩ : ∃ p : Nat, y % (r : Int) = p := ⟨(y % (r : Int)).toNat, by have := Int.emod_nonneg y (show (r : Int) ≠ 0 by omega); omega⟩
          have hpr : p < r := by have := Int.emod_lt_of_pos y (show (0 : Int) < r by omega); omega
          rw [hp] at RN
          have PG := fun w => page_any y w hyb
          have hds := pageS_size y
          obtain ⟨d, hd⟩ : ∃ d, pageS y = d := ⟨_, rfl⟩
          rw [hd] at PG hds
          have hat := (HSH.out.at_ 0 p).2 ⟨by omega, by omega⟩
          have WR : ∀ v w, HoAt w v H → Calls Try.prog 12 #[v, .int .i64 0, .int .i64 p, .string d] w (RetWrite 0 p d H w) := fun v w h => hwrite_ok v H 0 p d w h HSH.out.ok hat hds
          have HWR := Lib.hid WR; clear WR
          have HRN := Lib.hid RN; clear RN
          have HPG := Lib.hid PG; clear PG
          have HAT := Lib.hid (And.intro hat hds)
          clear hp hd hat hds
          obtain ⟨of1, or1, om1, og1, kf1, kr1, km1, kg1, us1, gs1, D1, O1⟩ := HBX
          obtain ⟨n1, hln⟩ : ∃ n, (Pl.F (Ho.P H)).length = n := ⟨_, rfl⟩
          obtain ⟨r1, hlr⟩ : ∃ n, (Pl.R (Ho.P H)).length = n := ⟨_, rfl⟩
          obtain ⟨m1, hlm⟩ : ∃ n, (Pl.M (Ho.P H)).length = n := ⟨_, rfl⟩
          obtain ⟨q1, hlq⟩ : ∃ n, (Ho.G H).length = n := ⟨_, rfl⟩
          obtain ⟨t1, hlt1⟩ : ∃ n, Ho.t H = n := ⟨_, rfl⟩
          obtain ⟨d1, hld⟩ : ∃ n, Ho.d H = n := ⟨_, rfl⟩
          obtain ⟨s1, hls⟩ : ∃ n, Ho.n H = n := ⟨_, rfl⟩
          rw [hln, hlr, hlm, hlq] at O1 D1
          rw [hlt1, hld, hls] at D1
          have HG1 := Lib.hid (And.intro hln (And.intro hlr (And.intro hlm (And.intro hlq (And.intro hlt1 (And.intro hld hls))))))
          clear hln hlr hlm hlq hlt1 hld hls
          have HV1 : Hid (∀ w' : World, Below (wr).heap.size wr w' → HoAt w' (.agg #[.slice of1 n1 kf1, .slice or1 r1 kr1, .slice om1 m1 km1, .slice og1 q1 kg1, .int .i64 t1, .int .u64 d1, .int .i64 s1]) H) := Lib.hid (fun w' hb => by
            have := (O1.below hb).at_
            rwa [HG1.out.2.2.2.2.1, HG1.out.2.2.2.2.2.1, HG1.out.2.2.2.2.2.2] at this)
          go_wp2_with fail
          go_cut [15, 16] from 67 to 86 (fun v v2 wx => v2 = .int .i64 0 ∧ ∃ B, v = .pointer (some ⟨B, 0, none⟩) ∧ ∃ H2, Hid (WriteTo H 0 p d H2) ∧ HostAt 0 B wx H2 ∧ B0 ≠ B ∧ HasBlock wx B0 #[.slice of1 n1 kf1, .slice or1 r1 kr1, .slice om1 m1 km1, .slice og1 q1 kg1, .int .i64 t1, .int .u64 d1, .int .i64 s1] 31 ∧ Below w.heap.size w wx)
          case first =>
            have hrule : ∀ w' : World, Below wr.heap.size wr w' → ∀ b o, b < wr.heap.size → w'.cell? ⟨b, o, none⟩ = wr.cell? ⟨b, o, none⟩ := fun w' h b o hlt => h.cell (p := ⟨b, o, none⟩) hlt
            have D1k := D1
            obtain ⟨D1_c, D1_f, D1_z⟩ := D1.all
            go_region_held3 (fun w' => Below wr.heap.size wr w') (repeat (first | with_reducible assumption | with_reducible exact Below.refl _ _ | (with_reducible refine Below.drew ?_) | (with_reducible refine Below.alloc' ?_ (Nat.le_refl _) _) | (with_reducible refine Below.setCell ?_ (by first | exact rfl | exact Nat.le_refl _ | omega | (dsimp only; omega) | (simp only [sizes]; done) | (simp only [sizes]; omega)) _) | (refine Below.trans ?_ (Below.mono (by with_reducible assumption) (by first | exact rfl | exact Nat.le_refl _ | omega | (dsimp only; omega) | (simp only [sizes]; done) | (simp only [sizes]; omega)))))) ((first
              |
               (go_at_call 13
                with_reducible refine (HRN.out _).mono ?_
                rintro e w14 ⟨rfl, hb14⟩
                obtain ⟨hc14, hf14⟩ := bcell hb14
                have hzz14 := bsize hb14
                (try simp only [sizes1] at hzz14)
                (try simp only [sizes] at hc14 hf14)
                (try have hva14 : wr.heap.size < w14.heap.size := by omega)
                (try have hvc14 : w15.heap.size < w14.heap.size := by omega))
                      |
                       (go_at_call 14
                        with_reducible refine (HPG.out _).mono ?_
                        rintro e w15 ⟨rfl, hb15⟩
                        obtain ⟨hc15, hf15⟩ := bcell hb15
                        have hzz15 := bsize hb15
                        (try simp only [sizes1] at hzz15)
                        (try simp only [sizes] at hc15 hf15)
                        (try have hva15 : wr.heap.size < w15.heap.size := by omega)
                        (try have hvb15 : w14.heap.size < w15.heap.size := by omega))
              |
               (go_at_call 12
                with_reducible refine (HWR.out _ _ (HV1.out _ (by (repeat (first | with_reducible assumption | with_reducible exact Below.refl _ _ | (with_reducible refine Below.drew ?_) | (with_reducible refine Below.alloc' ?_ (Nat.le_refl _) _) | (with_reducible refine Below.setCell ?_ (by first | exact rfl | exact Nat.le_refl _ | omega | (dsimp only; omega) | (simp only [sizes]; done) | (simp only [sizes]; omega)) _) | (refine Below.trans ?_ (Below.mono (by with_reducible assumption) (by first | exact rfl | exact Nat.le_refl _ | omega | (dsimp only; omega) | (simp only [sizes]; done) | (simp only [sizes]; omega))))))))).mono ?_
                rintro e w16 ⟨H2, hwt, of16, or16, om16, og16, kf16, kr16, km16, kg16, us16, gs16, rfl, O16, hb16⟩
                obtain ⟨n16, hln⟩ : ∃ n, (Pl.F (Ho.P H2)).length = n := ⟨_, rfl⟩
                obtain ⟨r16, hlr⟩ : ∃ n, (Pl.R (Ho.P H2)).length = n := ⟨_, rfl⟩
                obtain ⟨m16, hlm⟩ : ∃ n, (Pl.M (Ho.P H2)).length = n := ⟨_, rfl⟩
                obtain ⟨q16, hlq⟩ : ∃ n, (Ho.G H2).length = n := ⟨_, rfl⟩
                obtain ⟨t16, hlt16⟩ : ∃ n, Ho.t H2 = n := ⟨_, rfl⟩
                obtain ⟨d16, hld⟩ : ∃ n, Ho.d H2 = n := ⟨_, rfl⟩
                obtain ⟨s16, hls⟩ : ∃ n, Ho.n H2 = n := ⟨_, rfl⟩
                rw [hln, hlr, hlm, hlq] at O16 ⊢
                rw [hlt16, hld, hls]
                have HG16 := Lib.hid (And.intro hln (And.intro hlr (And.intro hlm (And.intro hlq (And.intro hlt16 (And.intro hld hls))))))
                clear hln hlr hlm hlq hlt16 hld hls
                have HWT := Lib.hid hwt
                clear hwt
                obtain ⟨hc16, hf16⟩ := bcell hb16
                have hzz16 := bsize hb16
                (try simp only [sizes1] at hzz16)
                (try simp only [sizes] at hc16 hf16)
                (try have hva16 : wr.heap.size < w16.heap.size := by omega)
                (try have hvb16 : w14.heap.size < w16.heap.size := by omega)
                (try have hvc16 : w15.heap.size < w16.heap.size := by omega))))
            all_goals
              clear D1_c D1_f hc16 hf16 hrule
              go_wp2_with fail
              go_meet
              have O16z := O16.lower (base' := 0) (Nat.zero_le _)
              have l0 := D1k.lt
              clear O16
              refine ⟨rfl, _, rfl, H2, HWT, ?h0, ?hn, ?h2, ?h3⟩
              case h0 =>
                refine HostAt.mk (of := of16) (or' := or16) (om := om16) (og := og16) (kf := kf16) (kr := kr16) (km := km16) (kg := kg16) (us := us16) (gs := gs16) HG16.out.1 HG16.out.2.1 HG16.out.2.2.1 HG16.out.2.2.2.1 HG16.out.2.2.2.2.1 HG16.out.2.2.2.2.2.1 HG16.out.2.2.2.2.2.2 ?hD ?hO
                case hD => (repeat' (first | with_reducible assumption | (with_reducible refine HasBlock.fill7z (x0 := .slice none 0 0) (x1 := .slice none 0 0) (x2 := .slice none 0 0) (x3 := .slice none 0 0) (x4 := .int .i64 0) (x5 := .int .u64 0) (x6 := .int .i64 0) ?_) | (with_reducible refine HasBlock.fill7_ne ?_ (by first | with_reducible rfl | omega | (dsimp only; omega) | (simp only [sizes]; done) | (simp only [sizes]; omega)) _ _ _ _ _ _ _) | (with_reducible refine HasBlock.drew ?_) | (with_reducible refine HasBlock.made' (by first | with_reducible rfl | omega | (dsimp only; omega) | (simp only [sizes]; done) | (simp only [sizes]; omega))) | (with_reducible refine HasBlock.alloc ?_ _) | (with_reducible refine HasBlock.below ?_ (by with_reducible assumption))))
                case hO => (repeat' (first | with_reducible assumption | (with_reducible refine OwnH.fillz (x0 := .slice none 0 0) (x1 := .slice none 0 0) (x2 := .slice none 0 0) (x3 := .slice none 0 0) (x4 := .int .i64 0) (x5 := .int .u64 0) (x6 := .int .i64 0) ?_ ?_ _ _ _ _ _ _ _) | (with_reducible refine OwnH.drew ?_) | (with_reducible refine OwnH.alloc ?_ _) | (with_reducible refine OwnH.below ?_ (by with_reducible assumption)) | (with_reducible refine HasBlock.drew ?_) | (with_reducible refine HasBlock.made' (by first | with_reducible rfl | omega | (dsimp only; omega) | (simp only [sizes]; done) | (simp only [sizes]; omega))) | (with_reducible refine HasBlock.alloc ?_ _) | (with_reducible refine HasBlock.below ?_ (by with_reducible assumption))))
              case hn => omega
              case h2 => (repeat' (first | with_reducible assumption | (with_reducible refine HasBlock.fill7z (x0 := .slice none 0 0) (x1 := .slice none 0 0) (x2 := .slice none 0 0) (x3 := .slice none 0 0) (x4 := .int .i64 0) (x5 := .int .u64 0) (x6 := .int .i64 0) ?_) | (with_reducible refine HasBlock.fill7_ne ?_ (by first | with_reducible rfl | omega | (dsimp only; omega) | (simp only [sizes]; done) | (simp only [sizes]; omega)) _ _ _ _ _ _ _) | (with_reducible refine HasBlock.drew ?_) | (with_reducible refine HasBlock.made' (by first | with_reducible rfl | omega | (dsimp only; omega) | (simp only [sizes]; done) | (simp only [sizes]; omega))) | (with_reducible refine HasBlock.alloc ?_ _) | (with_reducible refine HasBlock.below ?_ (by with_reducible assumption))))
              case h3 => exact hbw.trans (Below.mono (by (repeat (first | with_reducible assumption | with_reducible exact Below.refl _ _ | (with_reducible refine Below.drew ?_) | (with_reducible refine Below.alloc' ?_ (Nat.le_refl _) _) | (with_reducible refine Below.setCell ?_ (by first | with_reducible rfl | omega | (dsimp only; omega) | (simp only [sizes]; done) | (simp only [sizes]; omega)) _) | (with_reducible refine Below.trans ?_ (Below.mono (by with_reducible assumption) (by first | with_reducible rfl | omega | (dsimp only; omega) | (simp only [sizes]; done) | (simp only [sizes]; omega))))))) hbw.size)
          case rest =>
            clear D1 O1 HV1 hbw cy hpb2
            obtain ⟨rfl, B, rfl, H2, HWT, HB2, hne, D1, hbw⟩ := hcut
            have W2 := write_keeps HSH.out.ok HAT.out.1 HAT.out.2 HWT.out
            have HS2 := Lib.hid (HSH.out.kept W2.k)
            have HR2 := Lib.hid (HRS.out.write HSH.out.ok HAT.out.1 HAT.out.2 (fun _ => hpr) HWT.out)
            clear W2 HWT HWR HRN HPG HAT
            have nB : B ≠ B0 := fun e => hne e.symm
            obtain ⟨of3, or3, om3, og3, kf3, kr3, km3, kg3, us3, gs3, D3, O3⟩ := HB2
            obtain ⟨n3, hln⟩ : ∃ n, (Pl.F (Ho.P H2)).length = n := ⟨_, rfl⟩
            obtain ⟨r3, hlr⟩ : ∃ n, (Pl.R (Ho.P H2)).length = n := ⟨_, rfl⟩
            obtain ⟨m3, hlm⟩ : ∃ n, (Pl.M (Ho.P H2)).length = n := ⟨_, rfl⟩
            obtain ⟨q3, hlq⟩ : ∃ n, (Ho.G H2).length = n := ⟨_, rfl⟩
            obtain ⟨t3, hlt3⟩ : ∃ n, Ho.t H2 = n := ⟨_, rfl⟩
            obtain ⟨d3, hld⟩ : ∃ n, Ho.d H2 = n := ⟨_, rfl⟩
            obtain ⟨s3, hls⟩ : ∃ n, Ho.n H2 = n := ⟨_, rfl⟩
            rw [hln, hlr, hlm, hlq] at O3 D3
            rw [hlt3, hld, hls] at D3
            have HG3 := Lib.hid (And.intro hln (And.intro hlr (And.intro hlm (And.intro hlq (And.intro hlt3 (And.intro hld hls))))))
            clear hln hlr hlm hlq hlt3 hld hls
            have HV3 : Hid (∀ w' : World, Below (wc).heap.size wc w' → HoAt w' (.agg #[.slice of3 n3 kf3, .slice or3 r3 kr3, .slice om3 m3 km3, .slice og3 q3 kg3, .int .i64 t3, .int .u64 d3, .int .i64 s3]) H2) := Lib.hid (fun w' hb => by
              have := (O3.below hb).at_
              rwa [HG3.out.2.2.2.2.1, HG3.out.2.2.2.2.2.1, HG3.out.2.2.2.2.2.2] at this)
            have D1k := D1
            obtain ⟨D1_c, D1_f, D1_z⟩ := D1.all
            obtain ⟨D3_c, D3_f, D3_z⟩ := D3.all
            go_wp2_with fail
            clear D1_c D1_f D1_z D3_c D3_f D3_z
            go_meet
            exact ⟨H2, HS2, HR2, HostAt.fill HG3.out D1k O3, Below.fill7 hbw (by omega) _ _ _ _ _ _ _⟩
        · go_wp2_with fail
          go_meet
          exact ⟨H, HSH, HRS, HBX, hbw⟩
      case rest =>
        clear HSH HRS HBX hbw
        obtain ⟨H2, HS2, HR2, HBX, hbw⟩ := hcut
        obtain ⟨x, hx⟩ := get_lt (xs := os) (k := i) (by rw [HN.out]; exact hlt)
        obtain ⟨b, off, rfl, hbs, hcx⟩ := EncRow.elem (enc := Value.int .i64) HB0.out hx
        clear hx
        have cx := (hbw.cell (p := ⟨b, off + i, none⟩) hbs).trans hcx
        have hbs2 : b < wc.heap.size := by have := hbw.size; omega
        obtain ⟨V, hV⟩ : ∃ v, mixI x 43 = v := ⟨_, rfl⟩
        have hvb := mixI_bd x 43
        have hm := mix_any x 43
        rw [hV] at hvb hm
        clear hV
        have HMX := Lib.hid hm; clear hm
        go_wp2_with fail
        clear cx hbs2
        with_reducible refine (HMX.out _).mono ?_
        rintro e w5 ⟨rfl, hbk⟩
        replace HBX := HBX.below hbk
        replace hbw := hbw.trans (hbk.mono hbw.size)
        clear hbk
        have ab1 := and_i64_bd V 1 hvb.1 hvb.2 (by omega) (by omega)
        have ab2 := and_i64_bd (V / 16) 3 (by omega) (by omega) (by omega) (by omega)
        obtain ⟨a1, ha1⟩ : ∃ a : Nat, bits .and .i64 V 1 = a := ⟨(bits .and .i64 V 1).toNat, by omega⟩
        obtain ⟨p, hp⟩ : ∃ p : Nat, V / 2 % 6 = p := ⟨(V / 2 % 6).toNat, by omega⟩
        obtain ⟨k, hk⟩ : ∃ k, bits .and .i64 (V / 16) 3 = k := ⟨_, rfl⟩
        have q2 : ((V / 2).tmod 6) = (p : Int) := by rw [Int.tmod_eq_emod_of_nonneg (by omega)]; exact hp
        rw [ha1] at ab1
        rw [hk] at ab2
        have PG := fun w => page_any (V / 256) w (by omega)
        have hds := pageS_size (V / 256)
        obtain ⟨d, hd⟩ : ∃ d, pageS (V / 256) = d := ⟨_, rfl⟩
        rw [hd] at PG hds
        have hat := (HS2.out.at_ (1 + a1) p).2 ⟨by omega, by omega⟩
        have ea : ((1 + a1 : Nat) : Int) = 1 + (a1 : Int) := by omega
        have WR : ∀ v w, HoAt w v H2 → Calls Try.prog 12 #[v, .int .i64 (1 + (a1 : Int)), .int .i64 p, .string d] w (RetWrite (1 + a1) p d H2 w) := fun v w h => by
          have := hwrite_ok v H2 (1 + a1) p d w h HS2.out.ok hat hds
          rwa [ea] at this
        have HWR := Lib.hid WR; clear WR
        have HPG := Lib.hid PG; clear PG
        have HAT := Lib.hid (And.intro hat hds)
        have a0 : (0 : Int) ≤ (a1 : Int) := by omega
        have a2 : (a1 : Int) ≤ 1 := by omega
        have hwp : IntKind.i64.wrap (1 + (a1 : Int)) = 1 + (a1 : Int) := IntWalk.i64_in _ (by omega)
        clear hd hat hds ea
        obtain ⟨of4, or4, om4, og4, kf4, kr4, km4, kg4, us4, gs4, D4, O4⟩ := HBX
        obtain ⟨n4, hln⟩ : ∃ n, (Pl.F (Ho.P H2)).length = n := ⟨_, rfl⟩
        obtain ⟨r4, hlr⟩ : ∃ n, (Pl.R (Ho.P H2)).length = n := ⟨_, rfl⟩
        obtain ⟨m4, hlm⟩ : ∃ n, (Pl.M (Ho.P H2)).length = n := ⟨_, rfl⟩
        obtain ⟨q4, hlq⟩ : ∃ n, (Ho.G H2).length = n := ⟨_, rfl⟩
        obtain ⟨t4, hlt4⟩ : ∃ n, Ho.t H2 = n := ⟨_, rfl⟩
        obtain ⟨d4, hld⟩ : ∃ n, Ho.d H2 = n := ⟨_, rfl⟩
        obtain ⟨s4, hls⟩ : ∃ n, Ho.n H2 = n := ⟨_, rfl⟩
        rw [hln, hlr, hlm, hlq] at O4 D4
        rw [hlt4, hld, hls] at D4
        have HG4 := Lib.hid (And.intro hln (And.intro hlr (And.intro hlm (And.intro hlq (And.intro hlt4 (And.intro hld hls))))))
        clear hln hlr hlm hlq hlt4 hld hls
        have HV4 : Hid (∀ w' : World, Below (w5).heap.size w5 w' → HoAt w' (.agg #[.slice of4 n4 kf4, .slice or4 r4 kr4, .slice om4 m4 km4, .slice og4 q4 kg4, .int .i64 t4, .int .u64 d4, .int .i64 s4]) H2) := Lib.hid (fun w' hb => by
          have := (O4.below hb).at_
          rwa [HG4.out.2.2.2.2.1, HG4.out.2.2.2.2.2.1, HG4.out.2.2.2.2.2.2] at this)
        go_wp2_with fail
        go_cut [18, 19] from 92 to 105 (fun v v2 wx => v2 = .int .i64 0 ∧ ∃ B, v = .pointer (some ⟨B, 0, none⟩) ∧ ∃ H3, Hid (WriteTo H2 (1 + a1) p d H3) ∧ HostAt 0 B wx H3 ∧ B0 ≠ B ∧ HasBlock wx B0 #[.slice of4 n4 kf4, .slice or4 r4 kr4, .slice om4 m4 km4, .slice og4 q4 kg4, .int .i64 t4, .int .u64 d4, .int .i64 s4] 31 ∧ Below w.heap.size w wx)
        case first =>
          have hrule : ∀ w' : World, Below w5.heap.size w5 w' → ∀ b o, b < w5.heap.size → w'.cell? ⟨b, o, none⟩ = w5.cell? ⟨b, o, none⟩ := fun w' h b o hlt => h.cell (p := ⟨b, o, none⟩) hlt
          have D4k := D4
          obtain ⟨D4_c, D4_f, D4_z⟩ := D4.all
          go_region_held3 (fun w' => Below w5.heap.size w5 w') (repeat (first | with_reducible assumption | with_reducible exact Below.refl _ _ | (with_reducible refine Below.drew ?_) | (with_reducible refine Below.alloc' ?_ (Nat.le_refl _) _) | (with_reducible refine Below.setCell ?_ (by first | exact rfl | exact Nat.le_refl _ | omega | (dsimp only; omega) | (simp only [sizes]; done) | (simp only [sizes]; omega)) _) | (refine Below.trans ?_ (Below.mono (by with_reducible assumption) (by first | exact rfl | exact Nat.le_refl _ | omega | (dsimp only; omega) | (simp only [sizes]; done) | (simp only [sizes]; omega)))))) ((first
            |
             (go_at_call 14
              with_reducible refine (HPG.out _).mono ?_
              rintro e w15 ⟨rfl, hb15⟩
              obtain ⟨hc15, hf15⟩ := bcell hb15
              have hzz15 := bsize hb15
              (try simp only [sizes1] at hzz15)
              (try simp only [sizes] at hc15 hf15)
              (try have hva15 : w5.heap.size < w15.heap.size := by omega)
              (try have hvb15 : w14.heap.size < w15.heap.size := by omega))
            |
             (go_at_call 12
              with_reducible refine (HWR.out _ _ (HV4.out _ (by (repeat (first | with_reducible assumption | with_reducible exact Below.refl _ _ | (with_reducible refine Below.drew ?_) | (with_reducible refine Below.alloc' ?_ (Nat.le_refl _) _) | (with_reducible refine Below.setCell ?_ (by first | exact rfl | exact Nat.le_refl _ | omega | (dsimp only; omega) | (simp only [sizes]; done) | (simp only [sizes]; omega)) _) | (refine Below.trans ?_ (Below.mono (by with_reducible assumption) (by first | exact rfl | exact Nat.le_refl _ | omega | (dsimp only; omega) | (simp only [sizes]; done) | (simp only [sizes]; omega))))))))).mono ?_
              rintro e w16 ⟨H3, hwt, of16, or16, om16, og16, kf16, kr16, km16, kg16, us16, gs16, rfl, O16, hb16⟩
              obtain ⟨n16, hln⟩ : ∃ n, (Pl.F (Ho.P H3)).length = n := ⟨_, rfl⟩
              obtain ⟨r16, hlr⟩ : ∃ n, (Pl.R (Ho.P H3)).length = n := ⟨_, rfl⟩
              obtain ⟨m16, hlm⟩ : ∃ n, (Pl.M (Ho.P H3)).length = n := ⟨_, rfl⟩
              obtain ⟨q16, hlq⟩ : ∃ n, (Ho.G H3).length = n := ⟨_, rfl⟩
              obtain ⟨t16, hlt16⟩ : ∃ n, Ho.t H3 = n := ⟨_, rfl⟩
              obtain ⟨d16, hld⟩ : ∃ n, Ho.d H3 = n := ⟨_, rfl⟩
              obtain ⟨s16, hls⟩ : ∃ n, Ho.n H3 = n := ⟨_, rfl⟩
              rw [hln, hlr, hlm, hlq] at O16 ⊢
              rw [hlt16, hld, hls]
              have HG16 := Lib.hid (And.intro hln (And.intro hlr (And.intro hlm (And.intro hlq (And.intro hlt16 (And.intro hld hls))))))
              clear hln hlr hlm hlq hlt16 hld hls
              have HWT := Lib.hid hwt
              clear hwt
              obtain ⟨hc16, hf16⟩ := bcell hb16
              have hzz16 := bsize hb16
              (try simp only [sizes1] at hzz16)
              (try simp only [sizes] at hc16 hf16)
              (try have hva16 : w5.heap.size < w16.heap.size := by omega)
              (try have hvb16 : w14.heap.size < w16.heap.size := by omega)
              (try have hvc16 : w15.heap.size < w16.heap.size := by omega))))
          all_goals
            clear D4_c D4_f hc16 hf16 hrule
            go_wp2_with fail
            go_meet
            have O16z := O16.lower (base' := 0) (Nat.zero_le _)
            have l0 := D4k.lt
            clear O16
            refine ⟨rfl, _, rfl, H3, HWT, ?h0, ?hn, ?h2, ?h3⟩
            case h0 =>
              refine HostAt.mk (of := of16) (or' := or16) (om := om16) (og := og16) (kf := kf16) (kr := kr16) (km := km16) (kg := kg16) (us := us16) (gs := gs16) HG16.out.1 HG16.out.2.1 HG16.out.2.2.1 HG16.out.2.2.2.1 HG16.out.2.2.2.2.1 HG16.out.2.2.2.2.2.1 HG16.out.2.2.2.2.2.2 ?hD ?hO
              case hD => (repeat' (first | with_reducible assumption | (with_reducible refine HasBlock.fill7z (x0 := .slice none 0 0) (x1 := .slice none 0 0) (x2 := .slice none 0 0) (x3 := .slice none 0 0) (x4 := .int .i64 0) (x5 := .int .u64 0) (x6 := .int .i64 0) ?_) | (with_reducible refine HasBlock.fill7_ne ?_ (by first | with_reducible rfl | omega | (dsimp only; omega) | (simp only [sizes]; done) | (simp only [sizes]; omega)) _ _ _ _ _ _ _) | (with_reducible refine HasBlock.drew ?_) | (with_reducible refine HasBlock.made' (by first | with_reducible rfl | omega | (dsimp only; omega) | (simp only [sizes]; done) | (simp only [sizes]; omega))) | (with_reducible refine HasBlock.alloc ?_ _) | (with_reducible refine HasBlock.below ?_ (by with_reducible assumption))))
              case hO => (repeat' (first | with_reducible assumption | (with_reducible refine OwnH.fillz (x0 := .slice none 0 0) (x1 := .slice none 0 0) (x2 := .slice none 0 0) (x3 := .slice none 0 0) (x4 := .int .i64 0) (x5 := .int .u64 0) (x6 := .int .i64 0) ?_ ?_ _ _ _ _ _ _ _) | (with_reducible refine OwnH.drew ?_) | (with_reducible refine OwnH.alloc ?_ _) | (with_reducible refine OwnH.below ?_ (by with_reducible assumption)) | (with_reducible refine HasBlock.drew ?_) | (with_reducible refine HasBlock.made' (by first | with_reducible rfl | omega | (dsimp only; omega) | (simp only [sizes]; done) | (simp only [sizes]; omega))) | (with_reducible refine HasBlock.alloc ?_ _) | (with_reducible refine HasBlock.below ?_ (by with_reducible assumption))))
            case hn => omega
            case h2 => (repeat' (first | with_reducible assumption | (with_reducible refine HasBlock.fill7z (x0 := .slice none 0 0) (x1 := .slice none 0 0) (x2 := .slice none 0 0) (x3 := .slice none 0 0) (x4 := .int .i64 0) (x5 := .int .u64 0) (x6 := .int .i64 0) ?_) | (with_reducible refine HasBlock.fill7_ne ?_ (by first | with_reducible rfl | omega | (dsimp only; omega) | (simp only [sizes]; done) | (simp only [sizes]; omega)) _ _ _ _ _ _ _) | (with_reducible refine HasBlock.drew ?_) | (with_reducible refine HasBlock.made' (by first | with_reducible rfl | omega | (dsimp only; omega) | (simp only [sizes]; done) | (simp only [sizes]; omega))) | (with_reducible refine HasBlock.alloc ?_ _) | (with_reducible refine HasBlock.below ?_ (by with_reducible assumption))))
            case h3 => exact hbw.trans (Below.mono (by (repeat (first | with_reducible assumption | with_reducible exact Below.refl _ _ | (with_reducible refine Below.drew ?_) | (with_reducible refine Below.alloc' ?_ (Nat.le_refl _) _) | (with_reducible refine Below.setCell ?_ (by first | with_reducible rfl | omega | (dsimp only; omega) | (simp only [sizes]; done) | (simp only [sizes]; omega)) _) | (with_reducible refine Below.trans ?_ (Below.mono (by with_reducible assumption) (by first | with_reducible rfl | omega | (dsimp only; omega) | (simp only [sizes]; done) | (simp only [sizes]; omega))))))) hbw.size)
        case rest =>
          clear D4 O4 HV4 hbw q2 ha1 a0 a2 hwp
          obtain ⟨rfl, B, rfl, H3, HWT, HB3, hne, D4, hbw⟩ := hcut
          have W3 := write_keeps HS2.out.ok HAT.out.1 HAT.out.2 HWT.out
          have HS3 := Lib.hid (HS2.out.kept W3.k)
          have HR3 := Lib.hid (HR2.out.write HS2.out.ok HAT.out.1 HAT.out.2 (fun h => by omega) HWT.out)
          clear W3 HWT HWR HPG HAT
          have nB : B ≠ B0 := fun e => hne e.symm
          have SC := fun v w h => hscan_ok v H3 k w h HS3.out.ok (by omega)
          have S := scan_scanned HS3.out.ok k
          have hs5 := HS3.out.kept S.k
          have hr5 := S.res HR3.out
          obtain ⟨H5, hH5⟩ : ∃ x, H3.scan k = x := ⟨_, rfl⟩
          rw [hH5] at SC hs5 hr5
          have HS5 := Lib.hid hs5; clear hs5
          have HR5 := Lib.hid hr5; clear hr5 S hH5
          have HSC := Lib.hid SC; clear SC
          obtain ⟨of6, or6, om6, og6, kf6, kr6, km6, kg6, us6, gs6, D6, O6⟩ := HB3
          obtain ⟨n6, hln⟩ : ∃ n, (Pl.F (Ho.P H3)).length = n := ⟨_, rfl⟩
          obtain ⟨r6, hlr⟩ : ∃ n, (Pl.R (Ho.P H3)).length = n := ⟨_, rfl⟩
          obtain ⟨m6, hlm⟩ : ∃ n, (Pl.M (Ho.P H3)).length = n := ⟨_, rfl⟩
          obtain ⟨q6, hlq⟩ : ∃ n, (Ho.G H3).length = n := ⟨_, rfl⟩
          obtain ⟨t6, hlt6⟩ : ∃ n, Ho.t H3 = n := ⟨_, rfl⟩
          obtain ⟨d6, hld⟩ : ∃ n, Ho.d H3 = n := ⟨_, rfl⟩
          obtain ⟨s6, hls⟩ : ∃ n, Ho.n H3 = n := ⟨_, rfl⟩
          rw [hln, hlr, hlm, hlq] at O6 D6
          rw [hlt6, hld, hls] at D6
          have HG6 := Lib.hid (And.intro hln (And.intro hlr (And.intro hlm (And.intro hlq (And.intro hlt6 (And.intro hld hls))))))
          clear hln hlr hlm hlq hlt6 hld hls
          have HV6 : Hid (∀ w' : World, Below (wc).heap.size wc w' → HoAt w' (.agg #[.slice of6 n6 kf6, .slice or6 r6 kr6, .slice om6 m6 km6, .slice og6 q6 kg6, .int .i64 t6, .int .u64 d6, .int .i64 s6]) H3) := Lib.hid (fun w' hb => by
            have := (O6.below hb).at_
            rwa [HG6.out.2.2.2.2.1, HG6.out.2.2.2.2.2.1, HG6.out.2.2.2.2.2.2] at this)
          obtain ⟨D6_c, D6_f, D6_z⟩ := D6.all
          go_wp2_with fail
          clear D6_c D6_f D6_z
          with_reducible refine (HSC.out _ _ (HV6.out _ (Below.refl _ _))).mono ?_
          rintro e w7 ⟨of7, or7, om7, og7, kf7, kr7, km7, kg7, us7, gs7, rfl, O7, hbk⟩
          obtain ⟨n7, hln⟩ : ∃ n, (Pl.F (Ho.P H5)).length = n := ⟨_, rfl⟩
          obtain ⟨r7, hlr⟩ : ∃ n, (Pl.R (Ho.P H5)).length = n := ⟨_, rfl⟩
          obtain ⟨m7, hlm⟩ : ∃ n, (Pl.M (Ho.P H5)).length = n := ⟨_, rfl⟩
          obtain ⟨q7, hlq⟩ : ∃ n, (Ho.G H5).length = n := ⟨_, rfl⟩
          obtain ⟨t7, hlt7⟩ : ∃ n, Ho.t H5 = n := ⟨_, rfl⟩
          obtain ⟨d7, hld⟩ : ∃ n, Ho.d H5 = n := ⟨_, rfl⟩
          obtain ⟨s7, hls⟩ : ∃ n, Ho.n H5 = n := ⟨_, rfl⟩
          rw [hln, hlr, hlm, hlq] at O7 ⊢
          rw [hlt7, hld, hls]
          have HG7 := Lib.hid (And.intro hln (And.intro hlr (And.intro hlm (And.intro hlq (And.intro hlt7 (And.intro hld hls))))))
          clear hln hlr hlm hlq hlt7 hld hls
          replace D4 := D4.below hbk
          replace O7 := O7.lower (base' := 0) (Nat.zero_le _)
          replace hbw := hbw.trans (hbk.mono hbw.size)
          clear hbk D6 O6 HV6 HG6 hk
          have D4k := D4
          obtain ⟨D4_c, D4_f, D4_z⟩ := D4.all
          go_upto_region 20 with (fail)
          clear D4_c D4_f D4_z
          have HB5 := HostAt.fill HG7.out D4k O7
          replace hbw := Below.fill7 hbw (b := B0) (by omega) (.slice of7 n7 kf7) (.slice or7 r7 kr7) (.slice om7 m7 km7) (.slice og7 q7 kg7) (.int .i64 t7) (.int .u64 d7) (.int .i64 s7)
          clear O7 D4 D4k
          generalize hW : (((((((World.setCell w7 ⟨B0, 0, none⟩ (.slice of7 n7 kf7)).setCell ⟨B0, 1, none⟩ (.slice or7 r7 kr7)).setCell ⟨B0, 2, none⟩ (.slice om7 m7 km7)).setCell ⟨B0, 3, none⟩ (.slice og7 q7 kg7)).setCell ⟨B0, 4, none⟩ (.int .i64 t7)).setCell ⟨B0, 5, none⟩ (.int .u64 d7)).setCell ⟨B0, 6, none⟩ (.int .i64 s7)) = w8 at HB5 hbw ⊢
          clear hW HG7
          obtain ⟨g0, hg0⟩ := get_lt (xs := H5.G) (k := 0) (by rw [HS5.out.g]; omega)
          have RSc : ∀ v w, HoAt w v H5 → Calls Try.prog 18 #[v, .int .i64 0] w (Ret w (.int .i64 ((H5.P.chargeN 0 : Nat) : Int))) := fun v w h => hres_ok v H5 0 w h HS5.out.ok (by rw [HS5.out.g]; omega)
          have SWc : ∀ v w, HoAt w v H5 → Calls Try.prog 17 #[v, .int .i64 0] w (Ret w (.int .i64 ((g0.swapped : Nat) : Int))) := fun v w h => hswap_ok v H5 0 g0 w h HS5.out.ok hg0
          rw [HR5.out.swapped hg0] at SWc
          have e0 : ((0 : Nat) : Int) = 0 := rfl
          rw [e0] at SWc
          have hch := HR5.out.charge
          obtain ⟨ch, hce⟩ : ∃ c, H5.P.chargeN 0 = c := ⟨_, rfl⟩
          rw [hce] at RSc hch
          have HRSc := Lib.hid RSc; clear RSc
          have HSWc := Lib.hid SWc; clear SWc hce hg0 e0
          have q1 : decide ((ch : Int) > (r : Int)) = false := decide_eq_false (by omega)
          have q2 : decide ((r : Int) < (ch : Int)) = false := decide_eq_false (by omega)
          have HBK := HB5
          obtain ⟨of8, or8, om8, og8, kf8, kr8, km8, kg8, us8, gs8, D8, O8⟩ := HB5
          obtain ⟨n8, hln⟩ : ∃ n, (Pl.F (Ho.P H5)).length = n := ⟨_, rfl⟩
          obtain ⟨r8, hlr⟩ : ∃ n, (Pl.R (Ho.P H5)).length = n := ⟨_, rfl⟩
          obtain ⟨m8, hlm⟩ : ∃ n, (Pl.M (Ho.P H5)).length = n := ⟨_, rfl⟩
          obtain ⟨q8, hlq⟩ : ∃ n, (Ho.G H5).length = n := ⟨_, rfl⟩
          obtain ⟨t8, hlt8⟩ : ∃ n, Ho.t H5 = n := ⟨_, rfl⟩
          obtain ⟨d8, hld⟩ : ∃ n, Ho.d H5 = n := ⟨_, rfl⟩
          obtain ⟨s8, hls⟩ : ∃ n, Ho.n H5 = n := ⟨_, rfl⟩
          rw [hln, hlr, hlm, hlq] at O8 D8
          rw [hlt8, hld, hls] at D8
          have HG8 := Lib.hid (And.intro hln (And.intro hlr (And.intro hlm (And.intro hlq (And.intro hlt8 (And.intro hld hls))))))
          clear hln hlr hlm hlq hlt8 hld hls
          have HV8 : Hid (∀ w' : World, Below (w8).heap.size w8 w' → HoAt w' (.agg #[.slice of8 n8 kf8, .slice or8 r8 kr8, .slice om8 m8 km8, .slice og8 q8 kg8, .int .i64 t8, .int .u64 d8, .int .i64 s8]) H5) := Lib.hid (fun w' hb => by
            have := (O8.below hb).at_
            rwa [HG8.out.2.2.2.2.1, HG8.out.2.2.2.2.2.1, HG8.out.2.2.2.2.2.2] at this)
          obtain ⟨D8_c, D8_f, D8_z⟩ := D8.all
          go_wp2_with fail
          clear D8_c D8_f D8_z
          with_reducible refine (HSWc.out _ _ (HV8.out _ (Below.refl _ _))).mono ?_
          rintro e w9 ⟨rfl, hbc⟩
          replace D8 := D8.below hbc
          obtain ⟨D8_c, D8_f, D8_z⟩ := D8.all
          go_wp2_with fail
          clear D8_c D8_f D8_z
          with_reducible refine (HRSc.out _ _ (HV8.out _ hbc)).mono ?_
          rintro e w10 ⟨rfl, hbk⟩
          replace HBK := (HBK.below hbc).below hbk
          replace hbw := (hbw.trans (hbc.mono hbw.size)).trans (hbk.mono (Nat.le_trans hbw.size hbc.size))
          clear hbc hbk D8 O8 HV8 HG8
          go_wp2_with fail
          go_roundw
          case rel => exact ⟨i + 1, H5, by omega, by go_num, HS5, HR5, HBK, hbw⟩
          case measure => simp [intOf]; omega
    · obtain rfl : N = i := by omega
      go_wp2_with fail
      with_reducible refine (awake_any _).mono ?_
      rintro e wz ⟨rfl, hbz⟩
      replace hbw := hbw.trans (hbz.mono hbw.size)
      go_wp2_with fail
      go_ret
      exact Ret.mk hbw
end Go.Proofs.Ytbnngjhnkegliaa
namespace Go.Proofs.Ytbnngjhnkegliaa
open Go.ChangeShapes Go.WideShapes Go.ChangeAt Go.RowKit Go.ChangeMaps

set_option maxRecDepth 100000 in
theorem hostReserves_contract {H : Type} {enc : TypeId × Value → H} (W : World) (base : Nat) (args : Array Value) (ds gs : List (DataW H)) (before : List MemPlace)
    (hval0 : ∀ (j : Nat) t v, Try.f3.params[j]? = some t → args[j]? = some v → Value.okWide Try.prog W .any base t v)
    (hW : DataW.Whole enc Try.prog Try.f3.params.toList Rows.hostReservesSpec.vars false W args.toList ds gs before) :
    Calls Try.prog 3 args W fun e W' => ∃ v, e = .returned v ∧ Rows.hostReservesSpec.post enc Try.prog Try.f3 false true false false W args v W' := by
  have hW0 := hW
  obtain ⟨p, q, hA0, hV, _, _, _⟩ := hW
  have hA : DataW.TrodAll enc Try.prog W 0 (fun _ => true) true Try.f3.params.toList args.toList ds p := hA0
  clear hA0
  rw [Try.params3] at hA hval0
  obtain ⟨v0, vs0, d0, ds0, p0, q0, hargs0, rfl, _, h0, r0⟩ := trodAll_cons hA
  obtain ⟨v1, vs1, d1, ds1, p1, q1, hargs1, rfl, _, h1, r1⟩ := trodAll_cons r0
  obtain ⟨v2, vs2, d2, ds2, p2, q2, hargs2, rfl, _, h2, r2⟩ := trodAll_cons r1
  obtain ⟨v3, vs3, d3, ds3, p3, q3, hargs3, rfl, _, h3, r3⟩ := trodAll_cons r2
  obtain ⟨v4, vs4, d4, ds4, p4, q4, hargs4, rfl, _, h4, r4⟩ := trodAll_cons r3
  obtain ⟨hnil, rfl, _⟩ := trodAll_nil r4
  obtain rfl : args = #[v0, v1, v2, v3, v4] := by cases args; simp_all
  obtain ⟨F, rfl, _, _, _⟩ := open_int Try.underlying3 (hval0 0 _ v0 rfl rfl) h0
  obtain ⟨X, rfl, _, _, _⟩ := open_int Try.underlying3 (hval0 1 _ v1 rfl rfl) h1
  obtain ⟨ao, xs, ca, rfl, ha, _, _⟩ := open_intRow Try.underlying22 Try.underlying3 (by kernel_rfl) (hval0 2 _ v2 rfl rfl) h2
  obtain ⟨bo, ys, cb, rfl, hb, _, _⟩ := open_intRow Try.underlying22 Try.underlying3 (by kernel_rfl) (hval0 3 _ v3 rfl rfl) h3
  obtain ⟨co, zs, cc, rfl, hc, _, hwf⟩ := open_intRow Try.underlying22 Try.underlying3 (by kernel_rfl) (hval0 4 _ v4 rfl rfl) h4
  refine Calls.mono (R := Ret W (.bool true)) ?_ (fun e W' ⟨he, hb⟩ => ⟨_, he, law_post rfl hW0 hb (of_decide_eq_true (by kernel_rfl)) 4 rfl Try.underlying4 (fun _ => rfl)⟩)
  exact reserves_any F X _ _ _ xs ys zs W ha hb hc (fun x hx => bounds_i64 (hwf x hx))

set_option maxRecDepth 100000 in
theorem hostReserves_lifted (os : Os) (started : os.Started) (H : Type) (enc : TypeId × Value → H) :
    ReturnsInHanded {} Try.checked os 3 .any (Rows.hostReservesSpec.pre6 enc Try.prog Try.f3 Rows.hostReservesRow.domain false) (Rows.hostReservesSpec.post enc Try.prog Try.f3 false true false false) := by
  refine returnsInHanded_of_change (C := Try.checked) Try.own started (by kernel_rfl) Try.func3
    (ChangeSpec.witness6 (enc := enc) (C := Try.checked) false ⟨#[], #[.int .i64 0, .int .i64 0, .slice none 0 0, .slice none 0 0, .slice none 0 0], []⟩ 8 (by kernel_rfl) (by kernel_rfl) (by kernel_rfl) (by kernel_rfl)) ?_
  intro W base args ds gs before hval0 hW _ _
  exact hostReserves_contract W base args ds gs before hval0 hW

theorem hostReserves_holds : Rows.HostReservesSaid :=
  OpenClaim.holds_of_wide 3 Try.f3 rfl rfl rfl rfl rfl rfl rfl ⟨rfl, rfl, rfl, rfl, rfl⟩ rfl rfl rfl rfl rfl (by kernel_rfl) Try.func3 (by kernel_rfl)
    (of_decide_eq_true (by kernel_rfl)) (by unfold Func.isWrapper; first | (rw [if_pos (by decide +kernel)]; kernel_rfl) | (rw [if_neg (by decide +kernel)]; exact ⟨rfl, rfl⟩))
    (fun os started H enc _ => hostReserves_lifted os started H enc)
end Go.Proofs.Ytbnngjhnkegliaa
