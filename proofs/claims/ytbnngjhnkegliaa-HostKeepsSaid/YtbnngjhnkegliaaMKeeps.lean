/-
  PROVED: 'HostKeepsSaid': for every number of frames, tax, list of claims and list of operations, HostKeeps hands back true and leaves all memory as it was. Conditions: none.
-/
import Derived.Test.YtbnngjhnkegliaaB10
import Derived.BigQuiet
import Derived.Test.YtbnngjhnkegliaaB11
namespace Go.Proofs.Ytbnngjhnkegliaa
open Go.RowKit

theorem claim_field1 (c : Clm) (w : World) : (Instr.field 35 (.agg #[.int .i64 c.r, .int .i64 c.l, .int .i64 c.s, .int .i64 c.p, .int .i64 c.a]) 1).run Try.prog w = .ok (.int .i64 c.l) w := by kernel_rfl
set_option maxRecDepth 100000 in
set_option maxHeartbeats 8000000 in
theorem limits_any (fr tx : Int) (va vb : Value) (ls os : List Int) (w : World) (ha : NumRow w va ls) (hb : NumRow w vb os) : Calls Try.prog 5 #[.int .i64 fr, .int .i64 tx, va, vb] w (Ret w (.bool true)) := by
  obtain ⟨bo, cb, rfl, b1, b2, _⟩ := hb.out
  unfold maxLen at b2
  obtain ⟨N, hN⟩ : ∃ N, os.length = N := ⟨_, rfl⟩
  rw [hN] at b1 hb ⊢
  have HN := Lib.hid hN; clear hN
  have HA := Lib.hid ha; clear ha
  have HB0 := Lib.hid hb; clear hb
  go_enter Try.func5, Try.ntmps5
  by_cases c1 : fr < 6
  · have t1 : decide (fr < 6) = true := decide_eq_true c1
    go_wp2_with fail
    with_reducible refine (awake_any _).mono ?_
    rintro e wz ⟨rfl, hbz⟩
    go_wp2_with fail
    go_ret
    exact Ret.mk hbz
  have t1 : decide (fr < 6) = false := decide_eq_false c1
  by_cases c2 : 14 < fr
  · have t2 : decide (fr > 14) = true := decide_eq_true c2
    have t2' : decide (14 < fr) = true := decide_eq_true c2
    go_wp2_with fail
    with_reducible refine (awake_any _).mono ?_
    rintro e wz ⟨rfl, hbz⟩
    go_wp2_with fail
    go_ret
    exact Ret.mk hbz
  have t2 : decide (fr > 14) = false := decide_eq_false c2
  have t2' : decide (14 < fr) = false := decide_eq_false c2
  by_cases c3 : tx < 0
  · have t3 : decide (tx < 0) = true := decide_eq_true c3
    go_wp2_with fail
    with_reducible refine (awake_any _).mono ?_
    rintro e wz ⟨rfl, hbz⟩
    go_wp2_with fail
    go_ret
    exact Ret.mk hbz
  have t3 : decide (tx < 0) = false := decide_eq_false c3
  by_cases c4 : 99 < tx
  · have t4 : decide (tx > 99) = true := decide_eq_true c4
    have t4' : decide (99 < tx) = true := decide_eq_true c4
    go_wp2_with fail
    with_reducible refine (awake_any _).mono ?_
    rintro e wz ⟨rfl, hbz⟩
    go_wp2_with fail
    go_ret
    exact Ret.mk hbz
  have t4 : decide (tx > 99) = false := decide_eq_false c4
  have t4' : decide (99 < tx) = false := decide_eq_false c4
  by_cases c5 : 60 < N
  · have t5 : decide ((N : Int) > 60) = true := decide_eq_true (by omega)
    have t5' : decide ((60 : Int) < (N : Int)) = true := decide_eq_true (by omega)
    have t5'' : decide (60 < N) = true := decide_eq_true c5
    go_wp2_with fail
    with_reducible refine (awake_any _).mono ?_
    rintro e wz ⟨rfl, hbz⟩
    go_wp2_with fail
    go_ret
    exact Ret.mk hbz
  have t5 : decide ((N : Int) > 60) = false := decide_eq_false (by omega)
  have t5' : decide ((60 : Int) < (N : Int)) = false := decide_eq_false (by omega)
  have t5'' : decide (60 < N) = false := decide_eq_false c5
  obtain ⟨n, hn⟩ : ∃ n : Nat, fr = n := ⟨fr.toNat, by omega⟩
  have hn6 : 6 ≤ n ∧ n ≤ 14 := by omega
  subst hn
  have MD := fun w h => made_any n tx va ls w hn6.1 (by omega) (by omega) h
  have hfr := madeH_fresh (n := n) (t := tx) (ls := ls) hn6.1 (by omega) (by omega) 3 (by omega)
  obtain ⟨H0, hH0⟩ : ∃ x, madeH n tx ls 3 = x := ⟨_, rfl⟩
  rw [hH0] at MD hfr
  have HMD := Lib.hid MD; clear MD hH0
  have HFR := Lib.hid hfr; clear hfr
  have hbw : Below w.heap.size w w := Below.refl _ _
  go_wp2_with fail
  with_reducible refine (HMD.out _ HA.out).mono ?_
  rintro e w1 ⟨of0, or0, om0, og0, kf0, kr0, km0, kg0, us0, gs0, rfl, O0, hb1⟩
  replace hbw := hbw.trans hb1
  clear hb1
  obtain ⟨n0, hln⟩ : ∃ n, (Pl.F (Ho.P H0)).length = n := ⟨_, rfl⟩
  obtain ⟨r0, hlr⟩ : ∃ n, (Pl.R (Ho.P H0)).length = n := ⟨_, rfl⟩
  obtain ⟨m0, hlm⟩ : ∃ n, (Pl.M (Ho.P H0)).length = n := ⟨_, rfl⟩
  obtain ⟨q0, hlq⟩ : ∃ n, (Ho.G H0).length = n := ⟨_, rfl⟩
  obtain ⟨t0, hlt0⟩ : ∃ n, Ho.t H0 = n := ⟨_, rfl⟩
  obtain ⟨d0, hld⟩ : ∃ n, Ho.d H0 = n := ⟨_, rfl⟩
  obtain ⟨s0, hls⟩ : ∃ n, Ho.n H0 = n := ⟨_, rfl⟩
  rw [hln, hlr, hlm, hlq] at O0 ⊢
  rw [hlt0, hld, hls]
  have HG0 := Lib.hid (And.intro hln (And.intro hlr (And.intro hlm (And.intro hlq (And.intro hlt0 (And.intro hld hls))))))
  clear hln hlr hlm hlq hlt0 hld hls
  go_upto_region 4 with (fail)
  have HB := HostAt.new (base' := 0) HG0.out O0 (Nat.zero_le _)
  have hz1 := hbw.size
  replace hbw := hbw.alloc hbw.size (.cells #[.slice of0 n0 kf0, .slice or0 r0 kr0, .slice om0 m0 km0, .slice og0 q0 kg0, .int .i64 t0, .int .u64 d0, .int .i64 s0] 31)
  obtain ⟨B0, hB⟩ : ∃ B, w1.heap.size = B := ⟨_, rfl⟩
  rw [hB] at HB hz1 ⊢
  generalize hW : w1.alloc (.cells #[.slice of0 n0 kf0, .slice or0 r0 kr0, .slice om0 m0 km0, .slice og0 q0 kg0, .int .i64 t0, .int .u64 d0, .int .i64 s0] 31) = w2 at HB hbw ⊢
  clear hW hB O0 HG0
  have HSH := Lib.hid HFR.out.shape; clear HFR
  go_wp2_with fail
  go_loopw [10, 11] (fun bv iv wr => ∃ (i : Nat) (H : Ho), i ≤ N ∧ bv = .bool true ∧ iv = .int .i64 i ∧ Hid (HShape n ls H) ∧ HostAt 0 B0 wr H ∧ Below w.heap.size w wr) (fun _ iv _ => N - (intOf iv).toNat)
  case atStart => exact ⟨0, H0, by omega, rfl, rfl, HSH, HB, hbw⟩
  case round =>
    clear HSH HB hbw HMD
    obtain ⟨i, H, hi, rfl, rfl, HSH, HBX, hbw⟩ := hrel
    by_cases hlt : i < N
    · obtain ⟨x, hx⟩ := get_lt (xs := os) (k := i) (by rw [HN.out]; exact hlt)
      obtain ⟨b, off, rfl, hbs, hcx⟩ := EncRow.elem (enc := Value.int .i64) HB0.out hx
      clear hx
      have cx := (hbw.cell (p := ⟨b, off + i, none⟩) hbs).trans hcx
      have hbs2 : b < wr.heap.size := by have := hbw.size; omega
      have i0 : (0 : Int) ≤ (i : Int) := by omega
      have iN : (i : Int) < (N : Int) := by omega
      have ACT := fun v w h => act_any v n ls H x w h HSH.out
      have HACT := Lib.hid ACT; clear ACT
      obtain ⟨of1, or1, om1, og1, kf1, kr1, km1, kg1, us1, gs1, D1, O1⟩ := HBX
      obtain ⟨n1, hln⟩ : ∃ n, (Pl.F (Ho.P H)).length = n := ⟨_, rfl⟩
      obtain ⟨r1, hlr⟩ : ∃ n, (Pl.R (Ho.P H)).length = n := ⟨_, rfl⟩
      obtain ⟨m1, hlm⟩ : ∃ n, (Pl.M (Ho.P H)).length = n := ⟨_, rfl⟩
      obtain ⟨q1, hlq⟩ : ∃ n, (Ho.G H).length = n := ⟨_, rfl⟩
      obtain ⟨t1, hlt1⟩ : ∃ n, Ho.t H = n := ⟨_, rfl⟩
      obtain ⟨d1, hld⟩ : ∃ n, Ho.d H = n := ⟨_, rfl⟩
      obtain ⟨s1, hls⟩ : ∃ n, Ho.n H = n := ⟨_, rfl⟩
      rw [hln, hlr, hlm, hlq] at O1 D1
      rw [hlt1, hld, hls] at D1
      have HG1 := Lib.hid (And.intro hln (And.intro hlr (And.intro hlm (And.intro hlq (And.intro hlt1 (And.intro hld hls))))))
      clear hln hlr hlm hlq hlt1 hld hls
      have HV1 : Hid (∀ w' : World, Below (wr).heap.size wr w' → HoAt w' (.agg #[.slice of1 n1 kf1, .slice or1 r1 kr1, .slice om1 m1 km1, .slice og1 q1 kg1, .int .i64 t1, .int .u64 d1, .int .i64 s1]) H) := Lib.hid (fun w' hb => by
        have := (O1.below hb).at_
        rwa [HG1.out.2.2.2.2.1, HG1.out.2.2.2.2.2.1, HG1.out.2.2.2.2.2.2] at this)
      go_wp2_with fail
      go_cut [10] from 48 to 62 (fun v wx => v = .bool true ∧ ∃ H', Hid (∃ g p s, ActTo H H' g p s) ∧ HostAt 0 B0 wx H' ∧ Below w.heap.size w wx)
      case first =>
        have D1k := D1
        obtain ⟨D1_c, D1_f, D1_z⟩ := D1.all
        have hbz := hbs2
        go_region_law (first
          | (go_simp; go_at_call 19
             with_reducible refine (HACT.out _ _ (HV1.out _ (Below.drew (Below.refl _ _)))).mono ?_
             rintro _ w16 ⟨H2, ga, pa, sa, hact, of16, or16, om16, og16, kf16, kr16, km16, kg16, us16, gs16, rfl, O16, hb16⟩
             obtain ⟨n16, hln⟩ : ∃ n, (Pl.F (Ho.P H2)).length = n := ⟨_, rfl⟩
             obtain ⟨r16, hlr⟩ : ∃ n, (Pl.R (Ho.P H2)).length = n := ⟨_, rfl⟩
             obtain ⟨m16, hlm⟩ : ∃ n, (Pl.M (Ho.P H2)).length = n := ⟨_, rfl⟩
             obtain ⟨q16, hlq⟩ : ∃ n, (Ho.G H2).length = n := ⟨_, rfl⟩
             obtain ⟨t16, hlt16⟩ : ∃ n, Ho.t H2 = n := ⟨_, rfl⟩
             obtain ⟨d16, hld⟩ : ∃ n, Ho.d H2 = n := ⟨_, rfl⟩
             obtain ⟨s16, hls⟩ : ∃ n, Ho.n H2 = n := ⟨_, rfl⟩
             rw [hln, hlr, hlm, hlq] at O16 ⊢
             rw [hlt16, hld, hls]
             have HG16 := Lib.hid (And.intro hln (And.intro hlr (And.intro hlm (And.intro hlq (And.intro hlt16 (And.intro hld hls))))))
             clear hln hlr hlm hlq hlt16 hld hls
             have HACK := Lib.hid hact
             clear hact
             have HB16 : Below wr.heap.size wr w16 := (Below.drew (Below.refl _ wr)).trans hb16
             have E0 := D1k.below HB16
             have O16z := O16.lower (base' := 0) (Nat.zero_le _)
             have hbw16 : Below w.heap.size w w16 := hbw.trans (HB16.mono hbw.size)
             have E0k := E0
             obtain ⟨E0_c, E0_f, E0_z⟩ := E0.all))
        all_goals
          go_wp2_with fail
          go_meet
          exact ⟨rfl, H2, Lib.hid ⟨_, _, _, HACK.out⟩, HostAt.fill HG16.out E0k O16z, Below.fill7 hbw16 (by omega) _ _ _ _ _ _ _⟩
      case rest =>
        clear D1 O1 HV1 HG1 hbw cx hbs2
        obtain ⟨rfl, H2, HAK, HBX, hbw⟩ := hcut
        obtain ⟨g2, p2, s2, hact⟩ := HAK.out
        have HS2 := Lib.hid (act_kept HSH.out hact).1
        clear hact HAK HACT HSH
        have HBK := HBX
        obtain ⟨of2, or2, om2, og2, kf2, kr2, km2, kg2, us2, gs2, D2, O2⟩ := HBX
        obtain ⟨n2, hln⟩ : ∃ n, (Pl.F (Ho.P H2)).length = n := ⟨_, rfl⟩
        obtain ⟨r2, hlr⟩ : ∃ n, (Pl.R (Ho.P H2)).length = n := ⟨_, rfl⟩
        obtain ⟨m2, hlm⟩ : ∃ n, (Pl.M (Ho.P H2)).length = n := ⟨_, rfl⟩
        obtain ⟨q2, hlq⟩ : ∃ n, (Ho.G H2).length = n := ⟨_, rfl⟩
        obtain ⟨t2, hlt2⟩ : ∃ n, Ho.t H2 = n := ⟨_, rfl⟩
        obtain ⟨d2, hld⟩ : ∃ n, Ho.d H2 = n := ⟨_, rfl⟩
        obtain ⟨s2, hls⟩ : ∃ n, Ho.n H2 = n := ⟨_, rfl⟩
        rw [hln, hlr, hlm, hlq] at O2 D2
        rw [hlt2, hld, hls] at D2
        have HG2 := Lib.hid (And.intro hln (And.intro hlr (And.intro hlm (And.intro hlq (And.intro hlt2 (And.intro hld hls))))))
        clear hln hlr hlm hlq hlt2 hld hls
        have HV2 : Hid (∀ w' : World, Below (wc).heap.size wc w' → HoAt w' (.agg #[.slice of2 n2 kf2, .slice or2 r2 kr2, .slice om2 m2 km2, .slice og2 q2 kg2, .int .i64 t2, .int .u64 d2, .int .i64 s2]) H2) := Lib.hid (fun w' hb => by
          have := (O2.below hb).at_
          rwa [HG2.out.2.2.2.2.1, HG2.out.2.2.2.2.2.1, HG2.out.2.2.2.2.2.2] at this)
        have hn2 : n2 = n := by rw [← HG2.out.1]; exact HS2.out.f
        have hr2 : r2 = n := by rw [← HG2.out.2.1, HS2.out.ok.p.r]; exact HS2.out.f
        rw [hn2, hr2] at D2 O2 HV2 HG2
        clear hn2 hr2
        have HRR := Lib.hid O2.row.p.parts.2.1
        have hrl := HG2.out.2.1
        have HRL := Lib.hid hrl; clear hrl
        obtain ⟨D2_c, D2_f, D2_z⟩ := D2.all
        go_wp2_with fail
        go_loop [12, 13] (fun u k => ∃ j c : Nat, j ≤ n ∧ c ≤ j ∧ k = .int .i64 j ∧ u = .int .i64 c) (fun _ k => n - (intOf k).toNat)
        case atStart => exact ⟨0, 0, by omega, by omega, rfl, rfl⟩
        case round =>
          obtain ⟨j, c, hj, hcj, rfl, rfl⟩ := hrel
          by_cases hjt : j < n
          · obtain ⟨y, hy⟩ := get_lt (xs := H2.P.R) (k := j) (by rw [HRL.out]; exact hjt)
            obtain ⟨rb, roff, rfl, hrb, hcy⟩ := EncRow.elem (enc := Value.int .i64) HRR.out hy
            clear hy
            have j0 : (0 : Int) ≤ (j : Int) := by omega
            have jn : (j : Int) < (n : Int) := by omega
            by_cases hy0 : 0 < y
            · have q1 : decide (y > 0) = true := decide_eq_true hy0
              have q2 : decide (0 < y) = true := decide_eq_true hy0
              go_wp2_with fail
              go_round
              case rel => exact ⟨j + 1, c + 1, by omega, by omega, by go_num, by go_num⟩
              case measure => simp [intOf]; omega
            · have q1 : decide (y > 0) = false := decide_eq_false hy0
              have q2 : decide (0 < y) = false := decide_eq_false hy0
              go_wp2_with fail
              go_round
              case rel => exact ⟨j + 1, c, by omega, by omega, by go_num, rfl⟩
              case measure => simp [intOf]; omega
          · obtain rfl : n = j := by omega
            have q1 : decide ((c : Int) > (n : Int)) = false := decide_eq_false (by omega)
            have q2 : decide ((n : Int) < (c : Int)) = false := decide_eq_false (by omega)
            go_wp2_with fail
            clear D2_c D2_f D2_z D2 O2 HV2 HRR HRL q1 q2
            go_loopw [14] (fun gv wr => ∃ g : Nat, g ≤ 3 ∧ gv = .int .i64 g ∧ HostAt 0 B0 wr H2 ∧ Below w.heap.size w wr) (fun gv _ => 3 - (intOf gv).toNat)
            case atStart => exact ⟨0, by omega, rfl, HBK, hbw⟩
            case round =>
              clear HBK hbw
              obtain ⟨g, hg, rfl, HBX, hbw⟩ := hrel
              have HBK := HBX
              by_cases hgt : g < 3
              · obtain ⟨of3, or3, om3, og3, kf3, kr3, km3, kg3, us3, gs3, D3, O3⟩ := HBX
                obtain ⟨n3, hln⟩ : ∃ n, (Pl.F (Ho.P H2)).length = n := ⟨_, rfl⟩
                obtain ⟨r3, hlr⟩ : ∃ n, (Pl.R (Ho.P H2)).length = n := ⟨_, rfl⟩
                obtain ⟨m3, hlm⟩ : ∃ n, (Pl.M (Ho.P H2)).length = n := ⟨_, rfl⟩
                obtain ⟨q3, hlq⟩ : ∃ n, (Ho.G H2).length = n := ⟨_, rfl⟩
                obtain ⟨t3, hlt3⟩ : ∃ n, Ho.t H2 = n := ⟨_, rfl⟩
                obtain ⟨d3, hld⟩ : ∃ n, Ho.d H2 = n := ⟨_, rfl⟩
                obtain ⟨s3, hls⟩ : ∃ n, Ho.n H2 = n := ⟨_, rfl⟩
                rw [hln, hlr, hlm, hlq] at O3 D3
                rw [hlt3, hld, hls] at D3
                have HG3 := Lib.hid (And.intro hln (And.intro hlr (And.intro hlm (And.intro hlq (And.intro hlt3 (And.intro hld hls))))))
                clear hln hlr hlm hlq hlt3 hld hls
                have HV3 : Hid (∀ w' : World, Below (wr).heap.size wr w' → HoAt w' (.agg #[.slice of3 n3 kf3, .slice or3 r3 kr3, .slice om3 m3 km3, .slice og3 q3 kg3, .int .i64 t3, .int .u64 d3, .int .i64 s3]) H2) := Lib.hid (fun w' hb => by
                  have := (O3.below hb).at_
                  rwa [HG3.out.2.2.2.2.1, HG3.out.2.2.2.2.2.1, HG3.out.2.2.2.2.2.2] at this)
                obtain ⟨X, hX⟩ := get_lt (xs := H2.G) (k := g) (by rw [HS2.out.g]; exact hgt)
                have hlm := (HS2.out.ok.gmP hX).lim
                rw [(HS2.out.cl g X hX).2] at hlm
                have RS := fun v w h => hres_ok v H2 g w h HS2.out.ok (by rw [HS2.out.g]; exact hgt)
                have AT := fun w h => at_any va ls g w h (by omega)
                have CL := fun w => claim_any (atI ls g) w
                obtain ⟨cc, hcc⟩ : ∃ c, claimI (atI ls g) = c := ⟨_, rfl⟩
                obtain ⟨ch, hch⟩ : ∃ c, H2.P.chargeN g = c := ⟨_, rfl⟩
                rw [hcc] at CL hlm
                rw [hch] at RS hlm
                have HRS := Lib.hid RS; clear RS
                have HATT := Lib.hid AT; clear AT
                have HCL := Lib.hid CL; clear CL
                clear hX hcc hch
                have q1 : decide ((ch : Int) > cc.l) = false := decide_eq_false (by omega)
                have q2 : decide (cc.l < (ch : Int)) = false := decide_eq_false (by omega)
                have g3 : (g : Int) < 3 := by omega
                have hfl := claim_field1 cc
                obtain ⟨D3_c, D3_f, D3_z⟩ := D3.all
                go_wp2_with fail
                clear D3_c D3_f D3_z
                with_reducible refine (HRS.out _ _ (HV3.out _ (Below.refl _ _))).mono ?_
                rintro e w20 ⟨rfl, hbk⟩
                replace HBK := HBK.below hbk
                replace hbw := hbw.trans (hbk.mono hbw.size)
                clear hbk D3 O3 HV3 HG3
                go_wp2_with fail
                with_reducible refine (HATT.out _ (HA.out.below hbw)).mono ?_
                rintro e w21 ⟨rfl, hbk⟩
                replace HBK := HBK.below hbk
                replace hbw := hbw.trans (hbk.mono hbw.size)
                clear hbk
                go_wp2_with fail
                with_reducible refine (HCL.out _).mono ?_
                rintro e w22 ⟨rfl, hbk⟩
                replace HBK := HBK.below hbk
                replace hbw := hbw.trans (hbk.mono hbw.size)
                clear hbk
                go_wp2_with fail
                go_roundw
                case rel => exact ⟨g + 1, by omega, by go_num, HBK, hbw⟩
                case measure => simp [intOf]; omega
              · obtain rfl : g = 3 := by omega
                go_wp2_with fail
                go_roundw
                case rel => exact ⟨i + 1, H2, by omega, rfl, by go_num, HS2, HBK, hbw⟩
                case measure => simp [intOf]; omega
    · obtain rfl : N = i := by omega
      go_wp2_with fail
      with_reducible refine (awake_any _).mono ?_
      rintro e wz ⟨rfl, hbz⟩
      replace hbw := hbw.trans (hbz.mono hbw.size)
      go_wp2_with fail
      go_ret
      exact Ret.mk hbw
end Go.Proofs.Ytbnngjhnkegliaa
namespace Go.Proofs.Ytbnngjhnkegliaa
open Go.RowKit

/-- The contents that are wanted, as they stand in their box. -/
def wantH (W : List ByteArray) : Array Value := (W.map Value.string).toArray
theorem wantH_get (W : List ByteArray) (j : Nat) : (wantH W)[j]? = (W[j]?).map Value.string := by simp [wantH]
theorem wantH_set (W : List ByteArray) (j : Nat) (s : ByteArray) : (wantH W).setIfInBounds j (.string s) = wantH (W.set j s) := by
  unfold wantH
  apply Array.toList_inj.1
  rw [Array.toList_setIfInBounds, List.map_set]
theorem HasBlock.put_wantH {w : World} {b : Nat} {T : TypeId} {W : List ByteArray} (h : HasBlock w b (wantH W) T) (j : Nat) (s : ByteArray) : HasBlock (w.setCell ⟨b, j, none⟩ (.string s)) b (wantH (W.set j s)) T := by
  have := h.set_at j (.string s)
  rwa [wantH_set] at this
/-- The pages read as wanted. -/
structure WantsH (H : Ho) (W : List ByteArray) : Prop where
  len : W.length = 18
  txt : ∀ a b : Nat, a < 3 → b < 6 → W[a * 6 + b]? = some (H.text a b)
theorem WantsH.act {n : Nat} {ls : List Int} {H H' : Ho} {W : List ByteArray} {g p : Nat} {s : ByteArray} (h : WantsH H W) (hs : HShape n ls H) (ha : ActTo H H' g p s) : WantsH H' (if s.size = 0 then W else W.set (g * 6 + p) s) := by
  obtain ⟨_, k2, k3⟩ := act_kept hs ha
  by_cases h0 : s.size = 0
  · rw [if_pos h0]
    exact ⟨h.len, fun a b ha hb => by rw [k2 a b ((hs.at_ a b).2 ⟨ha, hb⟩), if_neg (fun e => e.1 h0)]; exact h.txt a b ha hb⟩
  · rw [if_neg h0]
    obtain ⟨hg, hp, _⟩ := k3.resolve_left h0
    refine ⟨by rw [List.length_set]; exact h.len, fun a b ha hb => ?_⟩
    rw [k2 a b ((hs.at_ a b).2 ⟨ha, hb⟩), List.getElem?_set, h.len]
    by_cases e : g = a ∧ p = b
    · rw [if_pos (show g * 6 + p = a * 6 + b by omega), if_pos (by omega), if_pos ⟨h0, e⟩]
    · rw [if_neg (show ¬ g * 6 + p = a * 6 + b by omega), if_neg (fun h => e h.2)]
      exact h.txt a b ha hb
theorem WantsH.read {n : Nat} {ls : List Int} {H H' : Ho} {W : List ByteArray} {g p : Nat} (h : WantsH H W) (hs : HShape n ls H) (hg : g < 3) (hp : p < 6) (hr : ReadTo H g p H') : WantsH H' W ∧ H'.P.text g p = H.text g p := by
  obtain ⟨_, k2, k3⟩ := read_keeps hs.ok ((hs.at_ g p).2 ⟨hg, hp⟩) hr
  exact ⟨⟨h.len, fun a b ha hb => by rw [k2 a b ((hs.at_ a b).2 ⟨ha, hb⟩)]; exact h.txt a b ha hb⟩, k3⟩
theorem WantsH.zeros {n : Nat} {ls : List Int} {H : Ho} {W : List ByteArray} (hf : Fresh n ls 3 H) (hl : W.length = 18) (h : ∀ j : Nat, j < 18 → W[j]? = some zeros128) : WantsH H W := ⟨hl, fun a b ha hb => by rw [hf.text]; exact h _ (by omega)⟩
set_option maxRecDepth 100000 in
set_option maxHeartbeats 8000000 in
theorem keepsH_any (fr tx : Int) (va vb : Value) (ls os : List Int) (w : World) (ha : NumRow w va ls) (hb : NumRow w vb os) : Calls Try.prog 4 #[.int .i64 fr, .int .i64 tx, va, vb] w (Ret w (.bool true)) := by
  obtain ⟨bo, cb, rfl, b1, b2, _⟩ := hb.out
  unfold maxLen at b2
  obtain ⟨N, hN⟩ : ∃ N, os.length = N := ⟨_, rfl⟩
  rw [hN] at b1 hb ⊢
  have HN := Lib.hid hN; clear hN
  have HA := Lib.hid ha; clear ha
  have HB0 := Lib.hid hb; clear hb
  have PZ : ∀ w, Calls Try.prog 14 #[.int .i64 0] w (Ret w (.string zeros128)) := fun w => by
    have h := page_any 0 w (by omega)
    rwa [pageS_zero] at h
  have hwz := fun (n : Nat) (H : Ho) (W : List ByteArray) (hf : Fresh n ls 3 H) hl h => WantsH.zeros (W := W) hf hl h
  obtain ⟨zz, hzz⟩ : ∃ z, zeros128 = z := ⟨_, rfl⟩
  rw [hzz] at PZ hwz
  have HPZ := Lib.hid PZ; clear PZ hzz
  have HWZ := Lib.hid hwz; clear hwz
  go_enter Try.func4, Try.ntmps4
  by_cases c1 : fr < 6
  · have t1 : decide (fr < 6) = true := decide_eq_true c1
    go_wp2_with fail
    with_reducible refine (awake_any _).mono ?_
    rintro e wz ⟨rfl, hbz⟩
    go_wp2_with fail
    go_ret
    exact Ret.mk hbz
  have t1 : decide (fr < 6) = false := decide_eq_false c1
  by_cases c2 : 14 < fr
  · have t2 : decide (fr > 14) = true := decide_eq_true c2
    have t2' : decide (14 < fr) = true := decide_eq_true c2
    go_wp2_with fail
    with_reducible refine (awake_any _).mono ?_
    rintro e wz ⟨rfl, hbz⟩
    go_wp2_with fail
    go_ret
    exact Ret.mk hbz
  have t2 : decide (fr > 14) = false := decide_eq_false c2
  have t2' : decide (14 < fr) = false := decide_eq_false c2
  by_cases c3 : tx < 0
  · have t3 : decide (tx < 0) = true := decide_eq_true c3
    go_wp2_with fail
    with_reducible refine (awake_any _).mono ?_
    rintro e wz ⟨rfl, hbz⟩
    go_wp2_with fail
    go_ret
    exact Ret.mk hbz
  have t3 : decide (tx < 0) = false := decide_eq_false c3
  by_cases c4 : 99 < tx
  · have t4 : decide (tx > 99) = true := decide_eq_true c4
    have t4' : decide (99 < tx) = true := decide_eq_true c4
    go_wp2_with fail
    with_reducible refine (awake_any _).mono ?_
    rintro e wz ⟨rfl, hbz⟩
    go_wp2_with fail
    go_ret
    exact Ret.mk hbz
  have t4 : decide (tx > 99) = false := decide_eq_false c4
  have t4' : decide (99 < tx) = false := decide_eq_false c4
  by_cases c5 : 60 < N
  · have t5 : decide ((N : Int) > 60) = true := decide_eq_true (by omega)
    have t5' : decide ((60 : Int) < (N : Int)) = true := decide_eq_true (by omega)
    have t5'' : decide (60 < N) = true := decide_eq_true c5
    go_wp2_with fail
    with_reducible refine (awake_any _).mono ?_
    rintro e wz ⟨rfl, hbz⟩
    go_wp2_with fail
    go_ret
    exact Ret.mk hbz
  have t5 : decide ((N : Int) > 60) = false := decide_eq_false (by omega)
  have t5' : decide ((60 : Int) < (N : Int)) = false := decide_eq_false (by omega)
  have t5'' : decide (60 < N) = false := decide_eq_false c5
  obtain ⟨n, hn⟩ : ∃ n : Nat, fr = n := ⟨fr.toNat, by omega⟩
  have hn6 : 6 ≤ n ∧ n ≤ 14 := by omega
  subst hn
  have MD := fun w h => made_any n tx va ls w hn6.1 (by omega) (by omega) h
  have hfr := madeH_fresh (n := n) (t := tx) (ls := ls) hn6.1 (by omega) (by omega) 3 (by omega)
  obtain ⟨H0, hH0⟩ : ∃ x, madeH n tx ls 3 = x := ⟨_, rfl⟩
  rw [hH0] at MD hfr
  have HMD := Lib.hid MD; clear MD hH0
  have HFR := Lib.hid hfr; clear hfr
  have hbw : Below w.heap.size w w := Below.refl _ _
  go_wp2_with fail
  with_reducible refine (HMD.out _ HA.out).mono ?_
  rintro e w1 ⟨of0, or0, om0, og0, kf0, kr0, km0, kg0, us0, gs0, rfl, O0, hb1⟩
  replace hbw := hbw.trans hb1
  clear hb1
  obtain ⟨n0, hln⟩ : ∃ n, (Pl.F (Ho.P H0)).length = n := ⟨_, rfl⟩
  obtain ⟨r0, hlr⟩ : ∃ n, (Pl.R (Ho.P H0)).length = n := ⟨_, rfl⟩
  obtain ⟨m0, hlm⟩ : ∃ n, (Pl.M (Ho.P H0)).length = n := ⟨_, rfl⟩
  obtain ⟨q0, hlq⟩ : ∃ n, (Ho.G H0).length = n := ⟨_, rfl⟩
  obtain ⟨t0, hlt0⟩ : ∃ n, Ho.t H0 = n := ⟨_, rfl⟩
  obtain ⟨d0, hld⟩ : ∃ n, Ho.d H0 = n := ⟨_, rfl⟩
  obtain ⟨s0, hls⟩ : ∃ n, Ho.n H0 = n := ⟨_, rfl⟩
  rw [hln, hlr, hlm, hlq] at O0 ⊢
  rw [hlt0, hld, hls]
  have HG0 := Lib.hid (And.intro hln (And.intro hlr (And.intro hlm (And.intro hlq (And.intro hlt0 (And.intro hld hls))))))
  clear hln hlr hlm hlq hlt0 hld hls
  go_upto_region 4 with (fail)
  have HB := HostAt.new (base' := 0) HG0.out O0 (Nat.zero_le _)
  have hz1 := hbw.size
  replace hbw := hbw.alloc hbw.size (.cells #[.slice of0 n0 kf0, .slice or0 r0 kr0, .slice om0 m0 km0, .slice og0 q0 kg0, .int .i64 t0, .int .u64 d0, .int .i64 s0] 31)
  obtain ⟨B0, hB⟩ : ∃ B, w1.heap.size = B := ⟨_, rfl⟩
  rw [hB] at HB hz1 ⊢
  generalize hW : w1.alloc (.cells #[.slice of0 n0 kf0, .slice or0 r0 kr0, .slice om0 m0 km0, .slice og0 q0 kg0, .int .i64 t0, .int .u64 d0, .int .i64 s0] 31) = w2 at HB hbw ⊢
  clear hW hB O0 HG0
  clear HMD t1 t2 t2' t3 t4 t4' t5 t5' t5''
  go_upto_region 6 with (fail)
  go_upto_region 7 with (fail)
  obtain ⟨W0, hW0⟩ : ∃ W, List.replicate 18 (⟨#[]⟩ : ByteArray) = W := ⟨_, rfl⟩
  have hWl : W0.length = 18 := by rw [← hW0]; rfl
  have hwa : (#[.string ⟨#[]⟩, .string ⟨#[]⟩, .string ⟨#[]⟩, .string ⟨#[]⟩, .string ⟨#[]⟩, .string ⟨#[]⟩, .string ⟨#[]⟩, .string ⟨#[]⟩, .string ⟨#[]⟩, .string ⟨#[]⟩, .string ⟨#[]⟩, .string ⟨#[]⟩, .string ⟨#[]⟩, .string ⟨#[]⟩, .string ⟨#[]⟩, .string ⟨#[]⟩, .string ⟨#[]⟩, .string ⟨#[]⟩] : Array Value) = wantH W0 := by rw [← hW0]; rfl
  rw [hwa]
  clear hwa hW0
  have DW := HasBlock.made w2 (wantH W0) 48
  have hbx : Below w2.heap.size w2 (w2.alloc (.cells (wantH W0) 48)) := (Below.refl _ _).alloc (Nat.le_refl _) _
  have hBW : B0 < w2.heap.size := by
    obtain ⟨_, _, _, _, _, _, _, _, _, _, D, _⟩ := HB
    exact D.lt
  replace HB := HB.below hbx
  replace hbw := hbw.trans (hbx.mono hbw.size)
  clear hbx
  obtain ⟨BW, hB⟩ : ∃ B, w2.heap.size = B := ⟨_, rfl⟩
  rw [hB] at DW hBW ⊢
  generalize hW : w2.alloc (.cells (wantH W0) 48) = w3 at HB DW hbw ⊢
  clear hW hB
  go_wp2_with fail
  go_loopw [12] (fun iv wr => ∃ (g : Nat) (W : List ByteArray), g ≤ 3 ∧ iv = .int .i64 g ∧ Hid (W.length = 18 ∧ ∀ j : Nat, j < g * 6 → W[j]? = some zz) ∧ HostAt 0 B0 wr H0 ∧ HasBlock wr BW (wantH W) 48 ∧ Below w.heap.size w wr) (fun iv _ => 3 - (intOf iv).toNat)
  case atStart => exact ⟨0, W0, by omega, rfl, ⟨hWl, fun j hj => by omega⟩, HB, DW, hbw⟩
  case round =>
    clear HB DW hbw hWl
    obtain ⟨g, W, hg, rfl, HW, HB, DW, hbw⟩ := hrel
    by_cases hlt : g < 3
    · go_wp2_with fail
      go_loopw [13] (fun iv wr => ∃ (k : Nat) (W : List ByteArray), k ≤ 6 ∧ iv = .int .i64 k ∧ Hid (W.length = 18 ∧ ∀ j : Nat, j < g * 6 + k → W[j]? = some zz) ∧ HostAt 0 B0 wr H0 ∧ HasBlock wr BW (wantH W) 48 ∧ Below w.heap.size w wr) (fun iv _ => 6 - (intOf iv).toNat)
      case atStart => exact ⟨0, W, by omega, rfl, HW, HB, DW, hbw⟩
      case round =>
        clear HB DW hbw HW
        obtain ⟨k, W, hk, rfl, HW, HB, DW, hbw⟩ := hrel
        by_cases hkt : k < 6
        · have g0 : (0 : Int) ≤ (g : Int) := by omega
          have g2 : (g : Int) < 3 := by omega
          have k0 : (0 : Int) ≤ (k : Int) := by omega
          have k4 : (k : Int) < 6 := by omega
          obtain ⟨t, ht⟩ := get_lt (xs := W) (k := g * 6 + k) (by rw [HW.out.1]; omega)
          have hwg : (wantH W)[g * 6 + k]? = some (.string t) := by rw [wantH_get, ht]; rfl
          clear ht
          obtain ⟨DW_c, DW_f, DW_z⟩ := DW.all
          go_wp2_with fail
          refine wp_region_tail_below 5 (by kernel_rfl) (by kernel_rfl) ?_
          simp only [List.take_succ_cons, List.take_zero, List.drop_succ_cons, List.drop_zero]
          repeat (go_big_quiet_step (first | fail | (go_at_call 14; with_reducible exact quiet_ret (HPZ.out _))))
          refine wpQuiet_nil ?_
          intro w3 hw3
          have hb3 := below_of_regrown hw3
          clear hw3
          obtain ⟨hc3, hf3⟩ := bcell hb3
          have hz3 := bsize hb3
          try simp only [sizes1] at hz3
          try simp only [sizes] at hc3 hf3
          clear hc3 hf3 hz3 DW_c DW_f DW_z
          replace HB := HB.below hb3
          replace DW := DW.below hb3
          replace hbw := hbw.trans (hb3.mono hbw.size)
          clear hb3
          have HBw := HB
          obtain ⟨of9, or9, om9, og9, kf9, kr9, km9, kg9, us9, gs9, D9, O9⟩ := HBw
          have O9b := O9.setbox (j := g * 6 + k) DW (by decide) (.string zz)
          have D9b := D9.set_ne (b' := BW) (j := g * 6 + k) (by omega) (.string zz)
          have HB9 : HostAt 0 B0 _ H0 := ⟨of9, or9, om9, og9, kf9, kr9, km9, kg9, us9, gs9, D9b, O9b⟩
          have DWk := DW
          clear O9 D9 O9b D9b
          obtain ⟨DW_c, DW_f, DW_z⟩ := DW.all
          go_wp2_with fail
          clear DW_c DW_f DW_z
          go_roundw
          case rel => exact ⟨k + 1, W.set (g * 6 + k) zz, by omega, by go_num, ⟨by rw [List.length_set]; exact HW.out.1, fun j hj => by
            rw [List.getElem?_set, HW.out.1]
            split
            · rename_i e
              rw [if_pos (by omega)]
            · exact HW.out.2 j (by omega)⟩, HB9, DWk.put_wantH _ _, hbw.setCell (by dsimp only; omega) _⟩
          case measure => simp [intOf]; omega
        · obtain rfl : k = 6 := by omega
          go_wp2_with fail
          go_roundw
          case rel => exact ⟨g + 1, W, by omega, by go_num, ⟨HW.out.1, fun j hj => HW.out.2 j (by omega)⟩, HB, DW, hbw⟩
          case measure => simp [intOf]; omega
    · obtain rfl : g = 3 := by omega
      have HWT := Lib.hid (HWZ.out n H0 W HFR.out HW.out.1 (fun j hj => HW.out.2 j (by omega)))
      have HSH := Lib.hid HFR.out.shape
      clear HW HWZ HFR hlt hg
      go_wp2_with fail
      simp only [Int.cast_ofNat_Int]
      go_loopw [14] (fun iv wr => ∃ (i : Nat) (H : Ho) (W : List ByteArray), i ≤ N ∧ iv = .int .i64 i ∧ Hid (HShape n ls H) ∧ Hid (WantsH H W) ∧ HostAt 0 B0 wr H ∧ HasBlock wr BW (wantH W) 48 ∧ Below w.heap.size w wr) (fun iv _ => N - (intOf iv).toNat)
      case atStart => exact ⟨0, H0, W, by omega, rfl, HSH, HWT, HB, DW, hbw⟩
      case round =>
        clear HB DW hbw HWT HSH
        obtain ⟨i, H, W, hi, rfl, HSH, HWT, HBX, DW, hbw⟩ := hrel
        by_cases hlt : i < N
        · obtain ⟨x, hx⟩ := get_lt (xs := os) (k := i) (by rw [HN.out]; exact hlt)
          obtain ⟨b, off, rfl, hbs, hcx⟩ := EncRow.elem (enc := Value.int .i64) HB0.out hx
          clear hx
          have cx := (hbw.cell (p := ⟨b, off + i, none⟩) hbs).trans hcx
          have hbs2 : b < wr.heap.size := by have := hbw.size; omega
          have i0 : (0 : Int) ≤ (i : Int) := by omega
          have iN : (i : Int) < (N : Int) := by omega
          have ACT := fun v w h => act_any v n ls H x w h HSH.out
          have HACT := Lib.hid ACT; clear ACT
          obtain ⟨of1, or1, om1, og1, kf1, kr1, km1, kg1, us1, gs1, D1, O1⟩ := HBX
          obtain ⟨n1, hln⟩ : ∃ n, (Pl.F (Ho.P H)).length = n := ⟨_, rfl⟩
          obtain ⟨r1, hlr⟩ : ∃ n, (Pl.R (Ho.P H)).length = n := ⟨_, rfl⟩
          obtain ⟨m1, hlm⟩ : ∃ n, (Pl.M (Ho.P H)).length = n := ⟨_, rfl⟩
          obtain ⟨q1, hlq⟩ : ∃ n, (Ho.G H).length = n := ⟨_, rfl⟩
          obtain ⟨t1, hlt1⟩ : ∃ n, Ho.t H = n := ⟨_, rfl⟩
          obtain ⟨d1, hld⟩ : ∃ n, Ho.d H = n := ⟨_, rfl⟩
          obtain ⟨s1, hls⟩ : ∃ n, Ho.n H = n := ⟨_, rfl⟩
          rw [hln, hlr, hlm, hlq] at O1 D1
          rw [hlt1, hld, hls] at D1
          have HG1 := Lib.hid (And.intro hln (And.intro hlr (And.intro hlm (And.intro hlq (And.intro hlt1 (And.intro hld hls))))))
          clear hln hlr hlm hlq hlt1 hld hls
          have HV1 : Hid (∀ w' : World, Below (wr).heap.size wr w' → HoAt w' (.agg #[.slice of1 n1 kf1, .slice or1 r1 kr1, .slice om1 m1 km1, .slice og1 q1 kg1, .int .i64 t1, .int .u64 d1, .int .i64 s1]) H) := Lib.hid (fun w' hb => by
            have := (O1.below hb).at_
            rwa [HG1.out.2.2.2.2.1, HG1.out.2.2.2.2.2.1, HG1.out.2.2.2.2.2.2] at this)
          go_wp2_with fail
          go_cut [15, 16, 17, 18, 19] from 70 to 84 (fun v v1 v2 v3 v4 wx => ∃ (g p : Nat) (s : ByteArray) (B : Nat) (H2 : Ho), v = .pointer (some ⟨B, 0, none⟩) ∧ v1 = .int .i64 g ∧ v2 = .int .i64 p ∧ v3 = .string s ∧ v4 = .bool true ∧ Hid (ActTo H H2 g p s) ∧ HostAt 0 B wx H2 ∧ B0 ≠ B ∧ BW ≠ B ∧ HasBlock wx B0 #[.slice of1 n1 kf1, .slice or1 r1 kr1, .slice om1 m1 km1, .slice og1 q1 kg1, .int .i64 t1, .int .u64 d1, .int .i64 s1] 31 ∧ HasBlock wx BW (wantH W) 48 ∧ Below w.heap.size w wx)
          case first =>
            have hrule : ∀ w' : World, Below wr.heap.size wr w' → ∀ b o, b < wr.heap.size → w'.cell? ⟨b, o, none⟩ = wr.cell? ⟨b, o, none⟩ := fun w' h b o hlt => h.cell (p := ⟨b, o, none⟩) hlt
            have D1k := D1
            have lW := DW.lt
            obtain ⟨D1_c, D1_f, D1_z⟩ := D1.all
            go_region_held3 (fun w' => Below wr.heap.size wr w') (repeat (first | with_reducible assumption | with_reducible exact Below.refl _ _ | (with_reducible refine Below.drew ?_) | (with_reducible refine Below.alloc' ?_ (Nat.le_refl _) _) | (with_reducible refine Below.setCell ?_ (by first | exact rfl | exact Nat.le_refl _ | omega | (dsimp only; omega) | (simp only [sizes]; done) | (simp only [sizes]; omega)) _) | (refine Below.trans ?_ (Below.mono (by with_reducible assumption) (by first | exact rfl | exact Nat.le_refl _ | omega | (dsimp only; omega) | (simp only [sizes]; done) | (simp only [sizes]; omega)))))) ((first
              |
               (go_at_call 19
                with_reducible refine (HACT.out _ _ (HV1.out _ (by (repeat (first | with_reducible assumption | with_reducible exact Below.refl _ _ | (with_reducible refine Below.drew ?_) | (with_reducible refine Below.alloc' ?_ (Nat.le_refl _) _) | (with_reducible refine Below.setCell ?_ (by first | exact rfl | exact Nat.le_refl _ | omega | (dsimp only; omega) | (simp only [sizes]; done) | (simp only [sizes]; omega)) _) | (refine Below.trans ?_ (Below.mono (by with_reducible assumption) (by first | exact rfl | exact Nat.le_refl _ | omega | (dsimp only; omega) | (simp only [sizes]; done) | (simp only [sizes]; omega))))))))).mono ?_
                rintro e w16 ⟨H2, ga, pa, sa, hact, of16, or16, om16, og16, kf16, kr16, km16, kg16, us16, gs16, rfl, O16, hb16⟩
                obtain ⟨n16, hln⟩ : ∃ n, (Pl.F (Ho.P H2)).length = n := ⟨_, rfl⟩
                obtain ⟨r16, hlr⟩ : ∃ n, (Pl.R (Ho.P H2)).length = n := ⟨_, rfl⟩
                obtain ⟨m16, hlm⟩ : ∃ n, (Pl.M (Ho.P H2)).length = n := ⟨_, rfl⟩
                obtain ⟨q16, hlq⟩ : ∃ n, (Ho.G H2).length = n := ⟨_, rfl⟩
                obtain ⟨t16, hlt16⟩ : ∃ n, Ho.t H2 = n := ⟨_, rfl⟩
                obtain ⟨d16, hld⟩ : ∃ n, Ho.d H2 = n := ⟨_, rfl⟩
                obtain ⟨s16, hls⟩ : ∃ n, Ho.n H2 = n := ⟨_, rfl⟩
                rw [hln, hlr, hlm, hlq] at O16 ⊢
                rw [hlt16, hld, hls]
                have HG16 := Lib.hid (And.intro hln (And.intro hlr (And.intro hlm (And.intro hlq (And.intro hlt16 (And.intro hld hls))))))
                clear hln hlr hlm hlq hlt16 hld hls
                have HACK := Lib.hid hact
                clear hact
                obtain ⟨hc16, hf16⟩ := bcell hb16
                have hzz16 := bsize hb16
                (try simp only [sizes1] at hzz16)
                (try simp only [sizes] at hc16 hf16)
                (try have hva16 : wr.heap.size < w16.heap.size := by omega))))
            all_goals
              clear D1_c D1_f hc16 hf16 hrule
              go_wp2_with fail
              go_meet
              have O16z := O16.lower (base' := 0) (Nat.zero_le _)
              have l0 := D1k.lt
              clear O16
              refine ⟨ga, pa, sa, _, H2, rfl, rfl, rfl, rfl, rfl, HACK, ?h0, ?hn, ?hm, ?h2, ?h4, ?h3⟩
              case h0 =>
                refine HostAt.mk (of := of16) (or' := or16) (om := om16) (og := og16) (kf := kf16) (kr := kr16) (km := km16) (kg := kg16) (us := us16) (gs := gs16) HG16.out.1 HG16.out.2.1 HG16.out.2.2.1 HG16.out.2.2.2.1 HG16.out.2.2.2.2.1 HG16.out.2.2.2.2.2.1 HG16.out.2.2.2.2.2.2 ?hD ?hO
                case hD => (repeat' (first | with_reducible assumption | (with_reducible refine HasBlock.fill7z (x0 := .slice none 0 0) (x1 := .slice none 0 0) (x2 := .slice none 0 0) (x3 := .slice none 0 0) (x4 := .int .i64 0) (x5 := .int .u64 0) (x6 := .int .i64 0) ?_) | (with_reducible refine HasBlock.fill7_ne ?_ (by first | with_reducible rfl | omega | (dsimp only; omega) | (simp only [sizes]; done) | (simp only [sizes]; omega)) _ _ _ _ _ _ _) | (with_reducible refine HasBlock.drew ?_) | (with_reducible refine HasBlock.made' (by first | with_reducible rfl | omega | (dsimp only; omega) | (simp only [sizes]; done) | (simp only [sizes]; omega))) | (with_reducible refine HasBlock.alloc ?_ _) | (with_reducible refine HasBlock.below ?_ (by with_reducible assumption))))
                case hO => (repeat' (first | with_reducible assumption | (with_reducible refine OwnH.fillz (x0 := .slice none 0 0) (x1 := .slice none 0 0) (x2 := .slice none 0 0) (x3 := .slice none 0 0) (x4 := .int .i64 0) (x5 := .int .u64 0) (x6 := .int .i64 0) ?_ ?_ _ _ _ _ _ _ _) | (with_reducible refine OwnH.drew ?_) | (with_reducible refine OwnH.alloc ?_ _) | (with_reducible refine OwnH.below ?_ (by with_reducible assumption)) | (with_reducible refine HasBlock.drew ?_) | (with_reducible refine HasBlock.made' (by first | with_reducible rfl | omega | (dsimp only; omega) | (simp only [sizes]; done) | (simp only [sizes]; omega))) | (with_reducible refine HasBlock.alloc ?_ _) | (with_reducible refine HasBlock.below ?_ (by with_reducible assumption))))
              case hn => omega
              case hm => omega
              case h2 => (repeat' (first | with_reducible assumption | (with_reducible refine HasBlock.fill7z (x0 := .slice none 0 0) (x1 := .slice none 0 0) (x2 := .slice none 0 0) (x3 := .slice none 0 0) (x4 := .int .i64 0) (x5 := .int .u64 0) (x6 := .int .i64 0) ?_) | (with_reducible refine HasBlock.fill7_ne ?_ (by first | with_reducible rfl | omega | (dsimp only; omega) | (simp only [sizes]; done) | (simp only [sizes]; omega)) _ _ _ _ _ _ _) | (with_reducible refine HasBlock.drew ?_) | (with_reducible refine HasBlock.made' (by first | with_reducible rfl | omega | (dsimp only; omega) | (simp only [sizes]; done) | (simp only [sizes]; omega))) | (with_reducible refine HasBlock.alloc ?_ _) | (with_reducible refine HasBlock.below ?_ (by with_reducible assumption))))
              case h4 => (repeat' (first | with_reducible assumption | (with_reducible refine HasBlock.fill7z (x0 := .slice none 0 0) (x1 := .slice none 0 0) (x2 := .slice none 0 0) (x3 := .slice none 0 0) (x4 := .int .i64 0) (x5 := .int .u64 0) (x6 := .int .i64 0) ?_) | (with_reducible refine HasBlock.fill7_ne ?_ (by first | with_reducible rfl | omega | (dsimp only; omega) | (simp only [sizes]; done) | (simp only [sizes]; omega)) _ _ _ _ _ _ _) | (with_reducible refine HasBlock.drew ?_) | (with_reducible refine HasBlock.made' (by first | with_reducible rfl | omega | (dsimp only; omega) | (simp only [sizes]; done) | (simp only [sizes]; omega))) | (with_reducible refine HasBlock.alloc ?_ _) | (with_reducible refine HasBlock.below ?_ (by with_reducible assumption))))
              case h3 => exact hbw.trans (Below.mono (by (repeat (first | with_reducible assumption | with_reducible exact Below.refl _ _ | (with_reducible refine Below.drew ?_) | (with_reducible refine Below.alloc' ?_ (Nat.le_refl _) _) | (with_reducible refine Below.setCell ?_ (by first | with_reducible rfl | omega | (dsimp only; omega) | (simp only [sizes]; done) | (simp only [sizes]; omega)) _) | (with_reducible refine Below.trans ?_ (Below.mono (by with_reducible assumption) (by first | with_reducible rfl | omega | (dsimp only; omega) | (simp only [sizes]; done) | (simp only [sizes]; omega))))))) hbw.size)
          case rest =>
            clear D1 O1 HV1 HG1 hbw cx hbs2 DW
            obtain ⟨g, p, s, B, H2, rfl, rfl, rfl, rfl, rfl, HACK, HB2, hne, hnw, D1, DW, hbw⟩ := hcut
            have HWT2 := Lib.hid (HWT.out.act HSH.out HACK.out)
            have hkk := act_kept HSH.out HACK.out
            have HS2 := Lib.hid hkk.1
            have hss := hkk.2.2
            clear hkk HACK HACT HWT HSH
            have VL := fun v w h => hvalid_ok v H2 w h HS2.out.ok
            have HVL := Lib.hid VL; clear VL
            have hii := isEmpty_iff s
            have nB : B ≠ B0 := fun e => hne e.symm
            have nW : B ≠ BW := fun e => hnw e.symm
            have nBW : B0 ≠ BW := by omega
            obtain ⟨of3, or3, om3, og3, kf3, kr3, km3, kg3, us3, gs3, D3, O3⟩ := HB2
            obtain ⟨n3, hln⟩ : ∃ n, (Pl.F (Ho.P H2)).length = n := ⟨_, rfl⟩
            obtain ⟨r3, hlr⟩ : ∃ n, (Pl.R (Ho.P H2)).length = n := ⟨_, rfl⟩
            obtain ⟨m3, hlm⟩ : ∃ n, (Pl.M (Ho.P H2)).length = n := ⟨_, rfl⟩
            obtain ⟨q3, hlq⟩ : ∃ n, (Ho.G H2).length = n := ⟨_, rfl⟩
            obtain ⟨t3, hlt3⟩ : ∃ n, Ho.t H2 = n := ⟨_, rfl⟩
            obtain ⟨d3, hld⟩ : ∃ n, Ho.d H2 = n := ⟨_, rfl⟩
            obtain ⟨s3, hls⟩ : ∃ n, Ho.n H2 = n := ⟨_, rfl⟩
            rw [hln, hlr, hlm, hlq] at O3 D3
            rw [hlt3, hld, hls] at D3
            have HG3 := Lib.hid (And.intro hln (And.intro hlr (And.intro hlm (And.intro hlq (And.intro hlt3 (And.intro hld hls))))))
            clear hln hlr hlm hlq hlt3 hld hls
            have HV3 : Hid (∀ w' : World, Below (wc).heap.size wc w' → HoAt w' (.agg #[.slice of3 n3 kf3, .slice or3 r3 kr3, .slice om3 m3 km3, .slice og3 q3 kg3, .int .i64 t3, .int .u64 d3, .int .i64 s3]) H2) := Lib.hid (fun w' hb => by
              have := (O3.below hb).at_
              rwa [HG3.out.2.2.2.2.1, HG3.out.2.2.2.2.2.1, HG3.out.2.2.2.2.2.2] at this)
            obtain ⟨D3_c, D3_f, D3_z⟩ := D3.all
            go_wp2_with fail
            clear D3_c D3_f D3_z
            with_reducible refine (HVL.out _ _ (HV3.out _ (Below.refl _ _))).mono ?_
            rintro e w5 ⟨rfl, hbk⟩
            replace D3 := D3.below hbk
            replace O3 := O3.below hbk
            replace D1 := D1.below hbk
            replace DW := DW.below hbk
            replace hbw := hbw.trans (hbk.mono hbw.size)
            clear hbk HV3 HVL
            have D1k := D1
            have DWk := DW
            by_cases h0 : s.size = 0
            · rw [decide_eq_true h0] at hii
              have HW3 := HWT2.out
              rw [if_pos h0] at HW3
              have HWT3 := Lib.hid HW3; clear HW3 HWT2 hss
              have DW2 : HasBlock (((((((World.setCell w5 ⟨B0, 0, none⟩ (.slice of3 n3 kf3)).setCell ⟨B0, 1, none⟩ (.slice or3 r3 kr3)).setCell ⟨B0, 2, none⟩ (.slice om3 m3 km3)).setCell ⟨B0, 3, none⟩ (.slice og3 q3 kg3)).setCell ⟨B0, 4, none⟩ (.int .i64 t3)).setCell ⟨B0, 5, none⟩ (.int .u64 d3)).setCell ⟨B0, 6, none⟩ (.int .i64 s3)) BW (wantH W) 48 := DWk.fill7_ne (fun e => nBW e.symm) _ _ _ _ _ _ _
              obtain ⟨D1_c, D1_f, D1_z⟩ := D1.all
              obtain ⟨D3_c, D3_f, D3_z⟩ := D3.all
              go_wp2_with fail
              clear D1_c D1_f D1_z D3_c D3_f D3_z
              go_roundw
              case rel => exact ⟨i + 1, H2, W, by omega, by go_num, HS2, HWT3, HostAt.fill HG3.out D1k O3, DW2, Below.fill7 hbw (by omega) _ _ _ _ _ _ _⟩
              case measure => simp [intOf]; omega
            · rw [decide_eq_false h0] at hii
              have HW3 := HWT2.out
              rw [if_neg h0] at HW3
              have HWT3 := Lib.hid HW3; clear HW3
              obtain ⟨hg, hp, _⟩ := hss.resolve_left h0
              obtain ⟨t, ht⟩ := get_lt (xs := W) (k := g * 6 + p) (by have := HWT3.out.len; rw [List.length_set] at this; omega)
              have hwg : (wantH W)[g * 6 + p]? = some (.string t) := by rw [wantH_get, ht]; rfl
              clear ht HWT2 hss
              have g0 : (0 : Int) ≤ (g : Int) := by omega
              have g2 : (g : Int) < 3 := by omega
              have p0 : (0 : Int) ≤ (p : Int) := by omega
              have p4 : (p : Int) < 6 := by omega
              obtain ⟨DW_c, DW_f, DW_z⟩ := DW.all
              obtain ⟨D1_c, D1_f, D1_z⟩ := D1.all
              obtain ⟨D3_c, D3_f, D3_z⟩ := D3.all
              go_wp2_with fail
              clear D1_c D1_f D1_z D3_c D3_f D3_z DW_c DW_f DW_z
              have O3b := O3.setbox (j := g * 6 + p) DWk (by decide) (.string s)
              have D1b := D1k.set_ne (b' := BW) (j := g * 6 + p) nBW (.string s)
              have DW2 := DWk.put_wantH (g * 6 + p) s
              have hbw2 := hbw.setCell (p := ⟨BW, g * 6 + p, none⟩) (by dsimp only; omega) (.string s)
              go_roundw
              case rel => exact ⟨i + 1, H2, W.set (g * 6 + p) s, by omega, by go_num, HS2, HWT3, HostAt.fill HG3.out D1b O3b, DW2.fill7_ne (fun e => nBW e.symm) _ _ _ _ _ _ _, Below.fill7 hbw2 (by omega) _ _ _ _ _ _ _⟩
              case measure => simp [intOf]; omega
        · obtain rfl : N = i := by omega
          clear hlt hi HN HB0
          go_wp2_with fail
          go_loopw [20] (fun iv wr => ∃ (g : Nat) (H : Ho), g ≤ 3 ∧ iv = .int .i64 g ∧ Hid (HShape n ls H) ∧ Hid (WantsH H W) ∧ HostAt 0 B0 wr H ∧ HasBlock wr BW (wantH W) 48 ∧ Below w.heap.size w wr) (fun iv _ => 3 - (intOf iv).toNat)
          case atStart => exact ⟨0, H, by omega, rfl, HSH, HWT, HBX, DW, hbw⟩
          case round =>
            clear HBX DW hbw HSH HWT
            obtain ⟨g, H, hg, rfl, HSH, HWT, HBX, DW, hbw⟩ := hrel
            by_cases hgt : g < 3
            · have g0 : (0 : Int) ≤ (g : Int) := by omega
              have g2 : (g : Int) < 3 := by omega
              go_wp2_with fail
              go_loopw [21] (fun iv wr => ∃ (p : Nat) (H : Ho), p ≤ 6 ∧ iv = .int .i64 p ∧ Hid (HShape n ls H) ∧ Hid (WantsH H W) ∧ HostAt 0 B0 wr H ∧ HasBlock wr BW (wantH W) 48 ∧ Below w.heap.size w wr) (fun iv _ => 6 - (intOf iv).toNat)
              case atStart => exact ⟨0, H, by omega, rfl, HSH, HWT, HBX, DW, hbw⟩
              case round =>
                clear HBX DW hbw HSH HWT
                obtain ⟨p, H, hp, rfl, HSH, HWT, HBX, DW, hbw⟩ := hrel
                by_cases hpt : p < 6
                · have RD := fun v w h => hread_ok v H g p w h HSH.out.ok ((HSH.out.at_ g p).2 ⟨hgt, hpt⟩)
                  have HRD := Lib.hid RD; clear RD
                  have hwg : (wantH W)[g * 6 + p]? = some (.string (H.text g p)) := by rw [wantH_get, HWT.out.txt g p hgt hpt]; rfl
                  have RT : ∀ H2, ReadTo H g p H2 → HShape n ls H2 ∧ WantsH H2 W ∧ H2.P.text g p = H.text g p := fun H2 h => ⟨HSH.out.kept (read_keeps HSH.out.ok ((HSH.out.at_ g p).2 ⟨hgt, hpt⟩) h).1, HWT.out.read HSH.out hgt hpt h⟩
                  obtain ⟨tt, htt⟩ : ∃ t, H.text g p = t := ⟨_, rfl⟩
                  rw [htt] at hwg RT
                  clear htt
                  have HRT := Lib.hid RT; clear RT
                  have p0 : (0 : Int) ≤ (p : Int) := by omega
                  have p4 : (p : Int) < 6 := by omega
                  have nBW : B0 ≠ BW := by omega
                  clear HSH HWT
                  obtain ⟨of1, or1, om1, og1, kf1, kr1, km1, kg1, us1, gs1, D1, O1⟩ := HBX
                  obtain ⟨n1, hln⟩ : ∃ n, (Pl.F (Ho.P H)).length = n := ⟨_, rfl⟩
                  obtain ⟨r1, hlr⟩ : ∃ n, (Pl.R (Ho.P H)).length = n := ⟨_, rfl⟩
                  obtain ⟨m1, hlm⟩ : ∃ n, (Pl.M (Ho.P H)).length = n := ⟨_, rfl⟩
                  obtain ⟨q1, hlq⟩ : ∃ n, (Ho.G H).length = n := ⟨_, rfl⟩
                  obtain ⟨t1, hlt1⟩ : ∃ n, Ho.t H = n := ⟨_, rfl⟩
                  obtain ⟨d1, hld⟩ : ∃ n, Ho.d H = n := ⟨_, rfl⟩
                  obtain ⟨s1, hls⟩ : ∃ n, Ho.n H = n := ⟨_, rfl⟩
                  rw [hln, hlr, hlm, hlq] at O1 D1
                  rw [hlt1, hld, hls] at D1
                  have HG1 := Lib.hid (And.intro hln (And.intro hlr (And.intro hlm (And.intro hlq (And.intro hlt1 (And.intro hld hls))))))
                  clear hln hlr hlm hlq hlt1 hld hls
                  have HV1 : Hid (∀ w' : World, Below (wr).heap.size wr w' → HoAt w' (.agg #[.slice of1 n1 kf1, .slice or1 r1 kr1, .slice om1 m1 km1, .slice og1 q1 kg1, .int .i64 t1, .int .u64 d1, .int .i64 s1]) H) := Lib.hid (fun w' hb => by
                    have := (O1.below hb).at_
                    rwa [HG1.out.2.2.2.2.1, HG1.out.2.2.2.2.2.1, HG1.out.2.2.2.2.2.2] at this)
                  obtain ⟨D1_c, D1_f, D1_z⟩ := D1.all
                  go_wp2_with fail
                  clear D1_c D1_f D1_z
                  with_reducible refine (HRD.out _ _ (HV1.out _ (Below.refl _ _))).mono ?_
                  rintro e w16 ⟨H2, hrd, of16, or16, om16, og16, kf16, kr16, km16, kg16, us16, gs16, rfl, O16, hb16⟩
                  have hrt := HRT.out H2 hrd
                  rw [hrt.2.2]
                  have HS2 := Lib.hid hrt.1
                  have HWT2 := Lib.hid hrt.2.1
                  clear hrt HRT hrd HRD
                  obtain ⟨n16, hln⟩ : ∃ n, (Pl.F (Ho.P H2)).length = n := ⟨_, rfl⟩
                  obtain ⟨r16, hlr⟩ : ∃ n, (Pl.R (Ho.P H2)).length = n := ⟨_, rfl⟩
                  obtain ⟨m16, hlm⟩ : ∃ n, (Pl.M (Ho.P H2)).length = n := ⟨_, rfl⟩
                  obtain ⟨q16, hlq⟩ : ∃ n, (Ho.G H2).length = n := ⟨_, rfl⟩
                  obtain ⟨t16, hlt16⟩ : ∃ n, Ho.t H2 = n := ⟨_, rfl⟩
                  obtain ⟨d16, hld⟩ : ∃ n, Ho.d H2 = n := ⟨_, rfl⟩
                  obtain ⟨s16, hls⟩ : ∃ n, Ho.n H2 = n := ⟨_, rfl⟩
                  rw [hln, hlr, hlm, hlq] at O16 ⊢
                  rw [hlt16, hld, hls]
                  have HG16 := Lib.hid (And.intro hln (And.intro hlr (And.intro hlm (And.intro hlq (And.intro hlt16 (And.intro hld hls))))))
                  clear hln hlr hlm hlq hlt16 hld hls
                  replace D1 := D1.below hb16
                  replace DW := DW.below hb16
                  replace hbw := hbw.trans (hb16.mono hbw.size)
                  have O16z := O16.lower (base' := 0) (Nat.zero_le _)
                  clear HV1 HG1 O1 O16 hb16
                  go_upto_region 30 with (fail)
                  have D3 := HasBlock.made w16 #[.slice of16 n16 kf16, .slice or16 r16 kr16, .slice om16 m16 km16, .slice og16 q16 kg16, .int .i64 t16, .int .u64 d16, .int .i64 s16] 31
                  have lB0 := D1.lt
                  have lBW := DW.lt
                  have hax : Below w16.heap.size w16 (w16.alloc (.cells #[.slice of16 n16 kf16, .slice or16 r16 kr16, .slice om16 m16 km16, .slice og16 q16 kg16, .int .i64 t16, .int .u64 d16, .int .i64 s16] 31)) := (Below.refl _ _).alloc (Nat.le_refl _) _
                  replace D1 := D1.below hax
                  replace DW := DW.below hax
                  replace O16z := O16z.below hax
                  replace hbw := hbw.trans (hax.mono hbw.size)
                  clear hax
                  generalize hW : w16.alloc (.cells #[.slice of16 n16 kf16, .slice or16 r16 kr16, .slice om16 m16 km16, .slice og16 q16 kg16, .int .i64 t16, .int .u64 d16, .int .i64 s16] 31) = w17 at D1 DW D3 O16z hbw ⊢
                  obtain ⟨B, hB⟩ : ∃ B, w16.heap.size = B := ⟨_, rfl⟩
                  rw [hB] at D3 lB0 lBW ⊢
                  clear hB hW
                  have nB : B ≠ B0 := by omega
                  have nW : B ≠ BW := by omega
                  have D1k := D1
                  have DWk := DW
                  obtain ⟨DW_c, DW_f, DW_z⟩ := DW.all
                  obtain ⟨D1_c, D1_f, D1_z⟩ := D1.all
                  obtain ⟨D3_c, D3_f, D3_z⟩ := D3.all
                  go_wp2_with fail
                  clear D1_c D1_f D1_z D3_c D3_f D3_z DW_c DW_f DW_z
                  go_roundw
                  case rel => exact ⟨p + 1, H2, by omega, by go_num, HS2, HWT2, HostAt.fill HG16.out D1k O16z, DWk.fill7_ne (fun e => nBW e.symm) _ _ _ _ _ _ _, Below.fill7 hbw (by omega) _ _ _ _ _ _ _⟩
                  case measure => simp [intOf]; omega
                · obtain rfl : p = 6 := by omega
                  go_wp2_with fail
                  go_roundw
                  case rel => exact ⟨g + 1, H, by omega, by go_num, HSH, HWT, HBX, DW, hbw⟩
                  case measure => simp [intOf]; omega
            · obtain rfl : g = 3 := by omega
              go_wp2_with fail
              with_reducible refine (awake_any _).mono ?_
              rintro e wz ⟨rfl, hbz⟩
              replace hbw := hbw.trans (hbz.mono hbw.size)
              go_wp2_with fail
              go_ret
              exact Ret.mk hbw
end Go.Proofs.Ytbnngjhnkegliaa
namespace Go.Proofs.Ytbnngjhnkegliaa
open Go.ChangeShapes Go.WideShapes Go.ChangeAt Go.RowKit Go.ChangeMaps

set_option maxRecDepth 100000 in
theorem hostKeeps_contract {H : Type} {enc : TypeId × Value → H} (W : World) (base : Nat) (args : Array Value) (ds gs : List (DataW H)) (before : List MemPlace)
    (hval0 : ∀ (j : Nat) t v, Try.f4.params[j]? = some t → args[j]? = some v → Value.okWide Try.prog W .any base t v)
    (hW : DataW.Whole enc Try.prog Try.f4.params.toList Rows.hostKeepsSpec.vars false W args.toList ds gs before) :
    Calls Try.prog 4 args W fun e W' => ∃ v, e = .returned v ∧ Rows.hostKeepsSpec.post enc Try.prog Try.f4 false true false false W args v W' := by
  have hW0 := hW
  obtain ⟨p, q, hA0, hV, _, _, _⟩ := hW
  have hA : DataW.TrodAll enc Try.prog W 0 (fun _ => true) true Try.f4.params.toList args.toList ds p := hA0
  clear hA0
  rw [Try.params4] at hA hval0
  obtain ⟨v0, vs0, d0, ds0, p0, q0, hargs0, rfl, _, h0, r0⟩ := trodAll_cons hA
  obtain ⟨v1, vs1, d1, ds1, p1, q1, hargs1, rfl, _, h1, r1⟩ := trodAll_cons r0
  obtain ⟨v2, vs2, d2, ds2, p2, q2, hargs2, rfl, _, h2, r2⟩ := trodAll_cons r1
  obtain ⟨v3, vs3, d3, ds3, p3, q3, hargs3, rfl, _, h3, r3⟩ := trodAll_cons r2
  obtain ⟨hnil, rfl, _⟩ := trodAll_nil r3
  obtain rfl : args = #[v0, v1, v2, v3] := by cases args; simp_all
  obtain ⟨F, rfl, _, _, _⟩ := open_int Try.underlying3 (hval0 0 _ v0 rfl rfl) h0
  obtain ⟨X, rfl, _, _, _⟩ := open_int Try.underlying3 (hval0 1 _ v1 rfl rfl) h1
  obtain ⟨ao, xs, ca, rfl, ha, _, _⟩ := open_intRow Try.underlying22 Try.underlying3 (by kernel_rfl) (hval0 2 _ v2 rfl rfl) h2
  obtain ⟨bo, ys, cb, rfl, hb, _, _⟩ := open_intRow Try.underlying22 Try.underlying3 (by kernel_rfl) (hval0 3 _ v3 rfl rfl) h3
  refine Calls.mono (R := Ret W (.bool true)) ?_ (fun e W' ⟨he, hb⟩ => ⟨_, he, law_post rfl hW0 hb (of_decide_eq_true (by kernel_rfl)) 4 rfl Try.underlying4 (fun _ => rfl)⟩)
  exact keepsH_any F X _ _ xs ys W ha hb

set_option maxRecDepth 100000 in
theorem hostKeeps_lifted (os : Os) (started : os.Started) (H : Type) (enc : TypeId × Value → H) :
    ReturnsInHanded {} Try.checked os 4 .any (Rows.hostKeepsSpec.pre6 enc Try.prog Try.f4 Rows.hostKeepsRow.domain false) (Rows.hostKeepsSpec.post enc Try.prog Try.f4 false true false false) := by
  refine returnsInHanded_of_change (C := Try.checked) Try.own started (by kernel_rfl) Try.func4
    (ChangeSpec.witness6 (enc := enc) (C := Try.checked) false ⟨#[], #[.int .i64 0, .int .i64 0, .slice none 0 0, .slice none 0 0], []⟩ 8 (by kernel_rfl) (by kernel_rfl) (by kernel_rfl) (by kernel_rfl)) ?_
  intro W base args ds gs before hval0 hW _ _
  exact hostKeeps_contract W base args ds gs before hval0 hW

theorem hostKeeps_holds : Rows.HostKeepsSaid :=
  OpenClaim.holds_of_wide 4 Try.f4 rfl rfl rfl rfl rfl rfl rfl ⟨rfl, rfl, rfl, rfl, rfl⟩ rfl rfl rfl rfl rfl (by kernel_rfl) Try.func4 (by kernel_rfl)
    (of_decide_eq_true (by kernel_rfl)) (by unfold Func.isWrapper; first | (rw [if_pos (by decide +kernel)]; kernel_rfl) | (rw [if_neg (by decide +kernel)]; exact ⟨rfl, rfl⟩))
    (fun os started H enc _ => hostKeeps_lifted os started H enc)
end Go.Proofs.Ytbnngjhnkegliaa
