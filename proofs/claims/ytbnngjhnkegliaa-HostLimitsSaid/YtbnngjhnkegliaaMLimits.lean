/-
  PROVED: 'HostLimitsSaid': for every number of frames, tax, list of claims and list of operations, HostLimits hands back true and leaves all memory as it was. Conditions: none.
-/
import Derived.Test.YtbnngjhnkegliaaB10
import Derived.Test.YtbnngjhnkegliaaB11
namespace Go.Proofs.Ytbnngjhnkegliaa
open Go.RowKit

theorem claim_field1 (c : Clm) (w : World) : (Instr.field 35 (.agg #[.int .i64 c.r, .int .i64 c.l, .int .i64 c.s, .int .i64 c.p, .int .i64 c.a]) 1).run Try.prog w = .ok (.int .i64 c.l) w := by kernel_rfl
set_option maxRecDepth 100000 in
set_option maxHeartbeats 8000000 in
theorem limits_any (fr tx : Int) (va vb : Value) (ls os : List Int) (w : World) (ha : NumRow w va ls) (hb : NumRow w vb os) : Calls Try.prog 5 #[.int .i64 fr, .int .i64 tx, va, vb] w (Ret w (.bool true)) := by
  obtain ⟨bo, cb, rfl, b1, b2, _⟩ := hb.out
  unfold maxLen at b2
  obtain ⟨N, hN⟩ : ∃ N, os.length = N := ⟨_, rfl⟩
  rw [hN] at b1 hb ⊢
  have HN := Lib.hid hN; clear hN
  have HA := Lib.hid ha; clear ha
  have HB0 := Lib.hid hb; clear hb
  go_enter Try.func5, Try.ntmps5
  by_cases c1 : fr < 6
  · have t1 : decide (fr < 6) = true := decide_eq_true c1
    go_wp2_with fail
    with_reducible refine (awake_any _).mono ?_
    rintro e wz ⟨rfl, hbz⟩
    go_wp2_with fail
    go_ret
    exact Ret.mk hbz
  have t1 : decide (fr < 6) = false := decide_eq_false c1
  by_cases c2 : 14 < fr
  · have t2 : decide (fr > 14) = true := decide_eq_true c2
    have t2' : decide (14 < fr) = true := decide_eq_true c2
    go_wp2_with fail
    with_reducible refine (awake_any _).mono ?_
    rintro e wz ⟨rfl, hbz⟩
    go_wp2_with fail
    go_ret
    exact Ret.mk hbz
  have t2 : decide (fr > 14) = false := decide_eq_false c2
  have t2' : decide (14 < fr) = false := decide_eq_false c2
  by_cases c3 : tx < 0
  · have t3 : decide (tx < 0) = true := decide_eq_true c3
    go_wp2_with fail
    with_reducible refine (awake_any _).mono ?_
    rintro e wz ⟨rfl, hbz⟩
    go_wp2_with fail
    go_ret
    exact Ret.mk hbz
  have t3 : decide (tx < 0) = false := decide_eq_false c3
  by_cases c4 : 99 < tx
  · have t4 : decide (tx > 99) = true := decide_eq_true c4
    have t4' : decide (99 < tx) = true := decide_eq_true c4
    go_wp2_with fail
    with_reducible refine (awake_any _).mono ?_
    rintro e wz ⟨rfl, hbz⟩
    go_wp2_with fail
    go_ret
    exact Ret.mk hbz
  have t4 : decide (tx > 99) = false := decide_eq_false c4
  have t4' : decide (99 < tx) = false := decide_eq_false c4
  by_cases c5 : 60 < N
  · have t5 : decide ((N : Int) > 60) = true := decide_eq_true (by omega)
    have t5' : decide ((60 : Int) < (N : Int)) = true := decide_eq_true (by omega)
    have t5'' : decide (60 < N) = true := decide_eq_true c5
    go_wp2_with fail
    with_reducible refine (awake_any _).mono ?_
    rintro e wz ⟨rfl, hbz⟩
    go_wp2_with fail
    go_ret
    exact Ret.mk hbz
  have t5 : decide ((N : Int) > 60) = false := decide_eq_false (by omega)
  have t5' : decide ((60 : Int) < (N : Int)) = false := decide_eq_false (by omega)
  have t5'' : decide (60 < N) = false := decide_eq_false c5
  obtain ⟨n, hn⟩ : ∃ n : Nat, fr = n := ⟨fr.toNat, by omega⟩
  have hn6 : 6 ≤ n ∧ n ≤ 14 := by omega
  subst hn
  have MD := fun w h => made_any n tx va ls w hn6.1 (by omega) (by omega) h
  have hfr := madeH_fresh (n := n) (t := tx) (ls := ls) hn6.1 (by omega) (by omega) 3 (by omega)
  obtain ⟨H0, hH0⟩ : ∃ x, madeH n tx ls 3 = x := ⟨_, rfl⟩
  rw [hH0] at MD hfr
  have HMD := Lib.hid MD; clear MD hH0
  have HFR := Lib.hid hfr; clear hfr
  have hbw : Below w.heap.size w w := Below.refl _ _
  go_wp2_with fail
  with_reducible refine (HMD.out _ HA.out).mono ?_
  rintro e w1 ⟨of0, or0, om0, og0, kf0, kr0, km0, kg0, us0, gs0, rfl, O0, hb1⟩
  replace hbw := hbw.trans hb1
  clear hb1
  obtain ⟨n0, hln⟩ : ∃ n, (Pl.F (Ho.P H0)).length = n := ⟨_, rfl⟩
  obtain ⟨r0, hlr⟩ : ∃ n, (Pl.R (Ho.P H0)).length = n := ⟨_, rfl⟩
  obtain ⟨m0, hlm⟩ : ∃ n, (Pl.M (Ho.P H0)).length = n := ⟨_, rfl⟩
  obtain ⟨q0, hlq⟩ : ∃ n, (Ho.G H0).length = n := ⟨_, rfl⟩
  obtain ⟨t0, hlt0⟩ : ∃ n, Ho.t H0 = n := ⟨_, rfl⟩
  obtain ⟨d0, hld⟩ : ∃ n, Ho.d H0 = n := ⟨_, rfl⟩
  obtain ⟨s0, hls⟩ : ∃ n, Ho.n H0 = n := ⟨_, rfl⟩
  rw [hln, hlr, hlm, hlq] at O0 ⊢
  rw [hlt0, hld, hls]
  have HG0 := Lib.hid (And.intro hln (And.intro hlr (And.intro hlm (And.intro hlq (And.intro hlt0 (And.intro hld hls))))))
  clear hln hlr hlm hlq hlt0 hld hls
  go_upto_region 4 with (fail)
  have HB := HostAt.new (base' := 0) HG0.out O0 (Nat.zero_le _)
  have hz1 := hbw.size
  replace hbw := hbw.alloc hbw.size (.cells #[.slice of0 n0 kf0, .slice or0 r0 kr0, .slice om0 m0 km0, .slice og0 q0 kg0, .int .i64 t0, .int .u64 d0, .int .i64 s0] 31)
  obtain ⟨B0, hB⟩ : ∃ B, w1.heap.size = B := ⟨_, rfl⟩
  rw [hB] at HB hz1 ⊢
  generalize hW : w1.alloc (.cells #[.slice of0 n0 kf0, .slice or0 r0 kr0, .slice om0 m0 km0, .slice og0 q0 kg0, .int .i64 t0, .int .u64 d0, .int .i64 s0] 31) = w2 at HB hbw ⊢
  clear hW hB O0 HG0
  have HSH := Lib.hid HFR.out.shape; clear HFR
  go_wp2_with fail
  go_loopw [10, 11] (fun bv iv wr => ∃ (i : Nat) (H : Ho), i ≤ N ∧ bv = .bool true ∧ iv = .int .i64 i ∧ Hid (HShape n ls H) ∧ HostAt 0 B0 wr H ∧ Below w.heap.size w wr) (fun _ iv _ => N - (intOf iv).toNat)
  case atStart => exact ⟨0, H0, by omega, rfl, rfl, HSH, HB, hbw⟩
  case round =>
    clear HSH HB hbw HMD
    obtain ⟨i, H, hi, rfl, rfl, HSH, HBX, hbw⟩ := hrel
    by_cases hlt : i < N
    · obtain ⟨x, hx⟩ := get_lt (xs := os) (k := i) (by rw [HN.out]; exact hlt)
      obtain ⟨b, off, rfl, hbs, hcx⟩ := EncRow.elem (enc := Value.int .i64) HB0.out hx
      clear hx
      have cx := (hbw.cell (p := ⟨b, off + i, none⟩) hbs).trans hcx
      have hbs2 : b < wr.heap.size := by have := hbw.size; omega
      have i0 : (0 : Int) ≤ (i : Int) := by omega
      have iN : (i : Int) < (N : Int) := by omega
      have ACT := fun v w h => act_any v n ls H x w h HSH.out
      have HACT := Lib.hid ACT; clear ACT
      obtain ⟨of1, or1, om1, og1, kf1, kr1, km1, kg1, us1, gs1, D1, O1⟩ := HBX
      obtain ⟨n1, hln⟩ : ∃ n, (Pl.F (Ho.P H)).length = n := ⟨_, rfl⟩
      obtain ⟨r1, hlr⟩ : ∃ n, (Pl.R (Ho.P H)).length = n := ⟨_, rfl⟩
      obtain ⟨m1, hlm⟩ : ∃ n, (Pl.M (Ho.P H)).length = n := ⟨_, rfl⟩
      obtain ⟨q1, hlq⟩ : ∃ n, (Ho.G H).length = n := ⟨_, rfl⟩
      obtain ⟨t1, hlt1⟩ : ∃ n, Ho.t H = n := ⟨_, rfl⟩
      obtain ⟨d1, hld⟩ : ∃ n, Ho.d H = n := ⟨_, rfl⟩
      obtain ⟨s1, hls⟩ : ∃ n, Ho.n H = n := ⟨_, rfl⟩
      rw [hln, hlr, hlm, hlq] at O1 D1
      rw [hlt1, hld, hls] at D1
      have HG1 := Lib.hid (And.intro hln (And.intro hlr (And.intro hlm (And.intro hlq (And.intro hlt1 (And.intro hld hls))))))
      clear hln hlr hlm hlq hlt1 hld hls
      have HV1 : Hid (∀ w' : World, Below (wr).heap.size wr w' → HoAt w' (.agg #[.slice of1 n1 kf1, .slice or1 r1 kr1, .slice om1 m1 km1, .slice og1 q1 kg1, .int .i64 t1, .int .u64 d1, .int .i64 s1]) H) := Lib.hid (fun w' hb => by
        have := (O1.below hb).at_
        rwa [HG1.out.2.2.2.2.1, HG1.out.2.2.2.2.2.1, HG1.out.2.2.2.2.2.2] at this)
      go_wp2_with fail
      go_cut [10] from 48 to 62 (fun v wx => v = .bool true ∧ ∃ H', Hid (∃ g p s, ActTo H H' g p s) ∧ HostAt 0 B0 wx H' ∧ Below w.heap.size w wx)
      case first =>
        have D1k := D1
        obtain ⟨D1_c, D1_f, D1_z⟩ := D1.all
        have hbz := hbs2
        go_region_law (first
          | (go_simp; go_at_call 19
             with_reducible refine (HACT.out _ _ (HV1.out _ (Below.drew (Below.refl _ _)))).mono ?_
             rintro _ w16 ⟨H2, ga, pa, sa, hact, of16, or16, om16, og16, kf16, kr16, km16, kg16, us16, gs16, rfl, O16, hb16⟩
             obtain ⟨n16, hln⟩ : ∃ n, (Pl.F (Ho.P H2)).length = n := ⟨_, rfl⟩
             obtain ⟨r16, hlr⟩ : ∃ n, (Pl.R (Ho.P H2)).length = n := ⟨_, rfl⟩
             obtain ⟨m16, hlm⟩ : ∃ n, (Pl.M (Ho.P H2)).length = n := ⟨_, rfl⟩
             obtain ⟨q16, hlq⟩ : ∃ n, (Ho.G H2).length = n := ⟨_, rfl⟩
             obtain ⟨t16, hlt16⟩ : ∃ n, Ho.t H2 = n := ⟨_, rfl⟩
             obtain ⟨d16, hld⟩ : ∃ n, Ho.d H2 = n := ⟨_, rfl⟩
             obtain ⟨s16, hls⟩ : ∃ n, Ho.n H2 = n := ⟨_, rfl⟩
             rw [hln, hlr, hlm, hlq] at O16 ⊢
             rw [hlt16, hld, hls]
             have HG16 := Lib.hid (And.intro hln (And.intro hlr (And.intro hlm (And.intro hlq (And.intro hlt16 (And.intro hld hls))))))
             clear hln hlr hlm hlq hlt16 hld hls
             have HACK := Lib.hid hact
             clear hact
             have HB16 : Below wr.heap.size wr w16 := (Below.drew (Below.refl _ wr)).trans hb16
             have E0 := D1k.below HB16
             have O16z := O16.lower (base' := 0) (Nat.zero_le _)
             have hbw16 : Below w.heap.size w w16 := hbw.trans (HB16.mono hbw.size)
             have E0k := E0
             obtain ⟨E0_c, E0_f, E0_z⟩ := E0.all))
        all_goals
          go_wp2_with fail
          go_meet
          exact ⟨rfl, H2, Lib.hid ⟨_, _, _, HACK.out⟩, HostAt.fill HG16.out E0k O16z, Below.fill7 hbw16 (by omega) _ _ _ _ _ _ _⟩
      case rest =>
        clear D1 O1 HV1 HG1 hbw cx hbs2
        obtain ⟨rfl, H2, HAK, HBX, hbw⟩ := hcut
        obtain ⟨g2, p2, s2, hact⟩ := HAK.out
        have HS2 := Lib.hid (act_kept HSH.out hact).1
        clear hact HAK HACT HSH
        have HBK := HBX
        obtain ⟨of2, or2, om2, og2, kf2, kr2, km2, kg2, us2, gs2, D2, O2⟩ := HBX
        obtain ⟨n2, hln⟩ : ∃ n, (Pl.F (Ho.P H2)).length = n := ⟨_, rfl⟩
        obtain ⟨r2, hlr⟩ : ∃ n, (Pl.R (Ho.P H2)).length = n := ⟨_, rfl⟩
        obtain ⟨m2, hlm⟩ : ∃ n, (Pl.M (Ho.P H2)).length = n := ⟨_, rfl⟩
        obtain ⟨q2, hlq⟩ : ∃ n, (Ho.G H2).length = n := ⟨_, rfl⟩
        obtain ⟨t2, hlt2⟩ : ∃ n, Ho.t H2 = n := ⟨_, rfl⟩
        obtain ⟨d2, hld⟩ : ∃ n, Ho.d H2 = n := ⟨_, rfl⟩
        obtain ⟨s2, hls⟩ : ∃ n, Ho.n H2 = n := ⟨_, rfl⟩
        rw [hln, hlr, hlm, hlq] at O2 D2
        rw [hlt2, hld, hls] at D2
        have HG2 := Lib.hid (And.intro hln (And.intro hlr (And.intro hlm (And.intro hlq (And.intro hlt2 (And.intro hld hls))))))
        clear hln hlr hlm hlq hlt2 hld hls
        have HV2 : Hid (∀ w' : World, Below (wc).heap.size wc w' → HoAt w' (.agg #[.slice of2 n2 kf2, .slice or2 r2 kr2, .slice om2 m2 km2, .slice og2 q2 kg2, .int .i64 t2, .int .u64 d2, .int .i64 s2]) H2) := Lib.hid (fun w' hb => by
          have := (O2.below hb).at_
          rwa [HG2.out.2.2.2.2.1, HG2.out.2.2.2.2.2.1, HG2.out.2.2.2.2.2.2] at this)
        have hn2 : n2 = n := by rw [← HG2.out.1]; exact HS2.out.f
        have hr2 : r2 = n := by rw [← HG2.out.2.1, HS2.out.ok.p.r]; exact HS2.out.f
        rw [hn2, hr2] at D2 O2 HV2 HG2
        clear hn2 hr2
        have HRR := Lib.hid O2.row.p.parts.2.1
        have hrl := HG2.out.2.1
        have HRL := Lib.hid hrl; clear hrl
        obtain ⟨D2_c, D2_f, D2_z⟩ := D2.all
        go_wp2_with fail
        go_loop [12, 13] (fun u k => ∃ j c : Nat, j ≤ n ∧ c ≤ j ∧ k = .int .i64 j ∧ u = .int .i64 c) (fun _ k => n - (intOf k).toNat)
        case atStart => exact ⟨0, 0, by omega, by omega, rfl, rfl⟩
        case round =>
          obtain ⟨j, c, hj, hcj, rfl, rfl⟩ := hrel
          by_cases hjt : j < n
          · obtain ⟨y, hy⟩ := get_lt (xs := H2.P.R) (k := j) (by rw [HRL.out]; exact hjt)
            obtain ⟨rb, roff, rfl, hrb, hcy⟩ := EncRow.elem (enc := Value.int .i64) HRR.out hy
            clear hy
            have j0 : (0 : Int) ≤ (j : Int) := by omega
            have jn : (j : Int) < (n : Int) := by omega
            by_cases hy0 : 0 < y
            · have q1 : decide (y > 0) = true := decide_eq_true hy0
              have q2 : decide (0 < y) = true := decide_eq_true hy0
              go_wp2_with fail
              go_round
              case rel => exact ⟨j + 1, c + 1, by omega, by omega, by go_num, by go_num⟩
              case measure => simp [intOf]; omega
            · have q1 : decide (y > 0) = false := decide_eq_false hy0
              have q2 : decide (0 < y) = false := decide_eq_false hy0
              go_wp2_with fail
              go_round
              case rel => exact ⟨j + 1, c, by omega, by omega, by go_num, rfl⟩
              case measure => simp [intOf]; omega
          · obtain rfl : n = j := by omega
            have q1 : decide ((c : Int) > (n : Int)) = false := decide_eq_false (by omega)
            have q2 : decide ((n : Int) < (c : Int)) = false := decide_eq_false (by omega)
            go_wp2_with fail
            clear D2_c D2_f D2_z D2 O2 HV2 HRR HRL q1 q2
            go_loopw [14] (fun gv wr => ∃ g : Nat, g ≤ 3 ∧ gv = .int .i64 g ∧ HostAt 0 B0 wr H2 ∧ Below w.heap.size w wr) (fun gv _ => 3 - (intOf gv).toNat)
            case atStart => exact ⟨0, by omega, rfl, HBK, hbw⟩
            case round =>
              clear HBK hbw
              obtain ⟨g, hg, rfl, HBX, hbw⟩ := hrel
              have HBK := HBX
              by_cases hgt : g < 3
              · obtain ⟨of3, or3, om3, og3, kf3, kr3, km3, kg3, us3, gs3, D3, O3⟩ := HBX
                obtain ⟨n3, hln⟩ : ∃ n, (Pl.F (Ho.P H2)).length = n := ⟨_, rfl⟩
                obtain ⟨r3, hlr⟩ : ∃ n, (Pl.R (Ho.P H2)).length = n := ⟨_, rfl⟩
                obtain ⟨m3, hlm⟩ : ∃ n, (Pl.M (Ho.P H2)).length = n := ⟨_, rfl⟩
                obtain ⟨q3, hlq⟩ : ∃ n, (Ho.G H2).length = n := ⟨_, rfl⟩
                obtain ⟨t3, hlt3⟩ : ∃ n, Ho.t H2 = n := ⟨_, rfl⟩
                obtain ⟨d3, hld⟩ : ∃ n, Ho.d H2 = n := ⟨_, rfl⟩
                obtain ⟨s3, hls⟩ : ∃ n, Ho.n H2 = n := ⟨_, rfl⟩
                rw [hln, hlr, hlm, hlq] at O3 D3
                rw [hlt3, hld, hls] at D3
                have HG3 := Lib.hid (And.intro hln (And.intro hlr (And.intro hlm (And.intro hlq (And.intro hlt3 (And.intro hld hls))))))
                clear hln hlr hlm hlq hlt3 hld hls
                have HV3 : Hid (∀ w' : World, Below (wr).heap.size wr w' → HoAt w' (.agg #[.slice of3 n3 kf3, .slice or3 r3 kr3, .slice om3 m3 km3, .slice og3 q3 kg3, .int .i64 t3, .int .u64 d3, .int .i64 s3]) H2) := Lib.hid (fun w' hb => by
                  have := (O3.below hb).at_
                  rwa [HG3.out.2.2.2.2.1, HG3.out.2.2.2.2.2.1, HG3.out.2.2.2.2.2.2] at this)
                obtain ⟨X, hX⟩ := get_lt (xs := H2.G) (k := g) (by rw [HS2.out.g]; exact hgt)
                have hlm := (HS2.out.ok.gmP hX).lim
                rw [(HS2.out.cl g X hX).2] at hlm
                have RS := fun v w h => hres_ok v H2 g w h HS2.out.ok (by rw [HS2.out.g]; exact hgt)
                have AT := fun w h => at_any va ls g w h (by omega)
                have CL := fun w => claim_any (atI ls g) w
                obtain ⟨cc, hcc⟩ : ∃ c, claimI (atI ls g) = c := ⟨_, rfl⟩
                obtain ⟨ch, hch⟩ : ∃ c, H2.P.chargeN g = c := ⟨_, rfl⟩
                rw [hcc] at CL hlm
                rw [hch] at RS hlm
                have HRS := Lib.hid RS; clear RS
                have HATT := Lib.hid AT; clear AT
                have HCL := Lib.hid CL; clear CL
                clear hX hcc hch
                have q1 : decide ((ch : Int) > cc.l) = false := decide_eq_false (by omega)
                have q2 : decide (cc.l < (ch : Int)) = false := decide_eq_false (by omega)
                have g3 : (g : Int) < 3 := by omega
                have hfl := claim_field1 cc
                obtain ⟨D3_c, D3_f, D3_z⟩ := D3.all
                go_wp2_with fail
                clear D3_c D3_f D3_z
                with_reducible refine (HRS.out _ _ (HV3.out _ (Below.refl _ _))).mono ?_
                rintro e w20 ⟨rfl, hbk⟩
                replace HBK := HBK.below hbk
                replace hbw := hbw.trans (hbk.mono hbw.size)
                clear hbk D3 O3 HV3 HG3
                go_wp2_with fail
                with_reducible refine (HATT.out _ (HA.out.below hbw)).mono ?_
                rintro e w21 ⟨rfl, hbk⟩
                replace HBK := HBK.below hbk
                replace hbw := hbw.trans (hbk.mono hbw.size)
                clear hbk
                go_wp2_with fail
                with_reducible refine (HCL.out _).mono ?_
                rintro e w22 ⟨rfl, hbk⟩
                replace HBK := HBK.below hbk
                replace hbw := hbw.trans (hbk.mono hbw.size)
                clear hbk
                go_wp2_with fail
                go_roundw
                case rel => exact ⟨g + 1, by omega, by go_num, HBK, hbw⟩
                case measure => simp [intOf]; omega
              · obtain rfl : g = 3 := by omega
                go_wp2_with fail
                go_roundw
                case rel => exact ⟨i + 1, H2, by omega, rfl, by go_num, HS2, HBK, hbw⟩
                case measure => simp [intOf]; omega
    · obtain rfl : N = i := by omega
      go_wp2_with fail
      with_reducible refine (awake_any _).mono ?_
      rintro e wz ⟨rfl, hbz⟩
      replace hbw := hbw.trans (hbz.mono hbw.size)
      go_wp2_with fail
      go_ret
      exact Ret.mk hbw
end Go.Proofs.Ytbnngjhnkegliaa
namespace Go.Proofs.Ytbnngjhnkegliaa
open Go.ChangeShapes Go.WideShapes Go.ChangeAt Go.RowKit Go.ChangeMaps

set_option maxRecDepth 100000 in
theorem hostLimits_contract {H : Type} {enc : TypeId × Value → H} (W : World) (base : Nat) (args : Array Value) (ds gs : List (DataW H)) (before : List MemPlace)
    (hval0 : ∀ (j : Nat) t v, Try.f5.params[j]? = some t → args[j]? = some v → Value.okWide Try.prog W .any base t v)
    (hW : DataW.Whole enc Try.prog Try.f5.params.toList Rows.hostLimitsSpec.vars false W args.toList ds gs before) :
    Calls Try.prog 5 args W fun e W' => ∃ v, e = .returned v ∧ Rows.hostLimitsSpec.post enc Try.prog Try.f5 false true false false W args v W' := by
  have hW0 := hW
  obtain ⟨p, q, hA0, hV, _, _, _⟩ := hW
  have hA : DataW.TrodAll enc Try.prog W 0 (fun _ => true) true Try.f5.params.toList args.toList ds p := hA0
  clear hA0
  rw [Try.params5] at hA hval0
  obtain ⟨v0, vs0, d0, ds0, p0, q0, hargs0, rfl, _, h0, r0⟩ := trodAll_cons hA
  obtain ⟨v1, vs1, d1, ds1, p1, q1, hargs1, rfl, _, h1, r1⟩ := trodAll_cons r0
  obtain ⟨v2, vs2, d2, ds2, p2, q2, hargs2, rfl, _, h2, r2⟩ := trodAll_cons r1
  obtain ⟨v3, vs3, d3, ds3, p3, q3, hargs3, rfl, _, h3, r3⟩ := trodAll_cons r2
  obtain ⟨hnil, rfl, _⟩ := trodAll_nil r3
  obtain rfl : args = #[v0, v1, v2, v3] := by cases args; simp_all
  obtain ⟨F, rfl, _, _, _⟩ := open_int Try.underlying3 (hval0 0 _ v0 rfl rfl) h0
  obtain ⟨X, rfl, _, _, _⟩ := open_int Try.underlying3 (hval0 1 _ v1 rfl rfl) h1
  obtain ⟨ao, xs, ca, rfl, ha, _, _⟩ := open_intRow Try.underlying22 Try.underlying3 (by kernel_rfl) (hval0 2 _ v2 rfl rfl) h2
  obtain ⟨bo, ys, cb, rfl, hb, _, _⟩ := open_intRow Try.underlying22 Try.underlying3 (by kernel_rfl) (hval0 3 _ v3 rfl rfl) h3
  refine Calls.mono (R := Ret W (.bool true)) ?_ (fun e W' ⟨he, hb⟩ => ⟨_, he, law_post rfl hW0 hb (of_decide_eq_true (by kernel_rfl)) 4 rfl Try.underlying4 (fun _ => rfl)⟩)
  exact limits_any F X _ _ xs ys W ha hb

set_option maxRecDepth 100000 in
theorem hostLimits_lifted (os : Os) (started : os.Started) (H : Type) (enc : TypeId × Value → H) :
    ReturnsInHanded {} Try.checked os 5 .any (Rows.hostLimitsSpec.pre6 enc Try.prog Try.f5 Rows.hostLimitsRow.domain false) (Rows.hostLimitsSpec.post enc Try.prog Try.f5 false true false false) := by
  refine returnsInHanded_of_change (C := Try.checked) Try.own started (by kernel_rfl) Try.func5
    (ChangeSpec.witness6 (enc := enc) (C := Try.checked) false ⟨#[], #[.int .i64 0, .int .i64 0, .slice none 0 0, .slice none 0 0], []⟩ 8 (by kernel_rfl) (by kernel_rfl) (by kernel_rfl) (by kernel_rfl)) ?_
  intro W base args ds gs before hval0 hW _ _
  exact hostLimits_contract W base args ds gs before hval0 hW

theorem hostLimits_holds : Rows.HostLimitsSaid :=
  OpenClaim.holds_of_wide 5 Try.f5 rfl rfl rfl rfl rfl rfl rfl ⟨rfl, rfl, rfl, rfl, rfl⟩ rfl rfl rfl rfl rfl (by kernel_rfl) Try.func5 (by kernel_rfl)
    (of_decide_eq_true (by kernel_rfl)) (by unfold Func.isWrapper; first | (rw [if_pos (by decide +kernel)]; kernel_rfl) | (rw [if_neg (by decide +kernel)]; exact ⟨rfl, rfl⟩))
    (fun os started H enc _ => hostLimits_lifted os started H enc)
end Go.Proofs.Ytbnngjhnkegliaa
