/-
  Texts joined: HoAwake Law. No law is proved here.
-/
import Derived.Test.YtbnngjhnkegliaaGreatB34
import Derived.ProofKit
import Derived.OpenShut
import Derived.Lib.SmallJoins
import Derived.Deep.Fields
namespace Go.Proofs.YtbnngjhnkegliaaGreat
open Go.RowKit
/-! each callee at its fixed arguments -/
theorem hw_new (w:World):Calls Tryz.prog 7 #[.int .i64 2,.int .i64 0,.int .u64 1] w (RetHoB (fun v=>.tuple #[v,.bool true]) hA0 w):=hnew_ok 2 0 1 w (by omega) (by omega) (by omega)
theorem hw_add {H:Ho} (hok:H.Ok) (hc:H.addC cA 4=0) (v:Value) (w:World) (h:HoAt w v H):Calls Tryz.prog 16 #[v,.agg #[.int .i64 1,.int .i64 4,.int .i64 10,.int .i64 0,.int .i64 0],.int .i64 4] w (RetHoB (fun v=>.tuple #[v,.int .i64 0]) (H.addG cA 4) w):=by
 have A:=hadd_ok v H 1 4 10 0 0 4 w h hok (by omega)
 have hto:H.addTo cA 4=H.addG cA 4:=by unfold Ho.addTo;rw[hc,if_pos rfl];rfl
 change Calls Tryz.prog 16 _ w (RetHoB (fun v=>.tuple #[v,.int .i64 (H.addC cA 4)]) (H.addTo cA 4) w) at A
 rw[hto,hc] at A
 exact A
theorem hw_full (v:Value) (w:World) (h:HoAt w v hA2):Calls Tryz.prog 16 #[v,.agg #[.int .i64 1,.int .i64 4,.int .i64 10,.int .i64 0,.int .i64 0],.int .i64 4] w (RetHoB (fun v=>.tuple #[v,.int .i64 3801]) hA2 w):=by
 have A:=hadd_ok v hA2 1 4 10 0 0 4 w h hA2_ok (by omega)
 have hto:hA2.addTo cA 4=hA2:=by unfold Ho.addTo;rw[hA2_c,if_neg (by decide)]
 change Calls Tryz.prog 16 _ w (RetHoB (fun v=>.tuple #[v,.int .i64 (hA2.addC cA 4)]) (hA2.addTo cA 4) w) at A
 rw[hto,hA2_c] at A
 exact A
theorem hw_page (k:Int) (w:World) (hk:0≤k∧k≤3):Calls Tryz.prog 15 #[.int .i64 k] w (Ret w (.string (pageS k))):=page_any k w (by omega)
theorem AwS.wr {H H':Ho} {i p:Nat} {d:ByteArray} (h:AwS H) (hi:i<2) (hp:p<4) (hd:d.size=128) (hw:WriteTo H i p d H'):AwS H':=h.kept (write_keeps h.ok (h.at_ hi hp) hd hw).k
set_option maxRecDepth 100000 in
set_option maxHeartbeats 8000000 in
theorem awake_any (w:World):Calls Tryz.prog 6 #[] w (Ret w (.bool true)):=by
 have C0:=hw_new
 have C1:=fun v w h=>hw_add hA0_ok hA0_c v w h
 have C2:=fun v w h=>hw_add hA1_ok hA1_c v w h
 have C3:=hw_full
 change ∀ v w,_→Calls Tryz.prog 16 _ w (RetHoB (fun v=>.tuple #[v,.int .i64 0]) hA1 w) at C1
 change ∀ v w,_→Calls Tryz.prog 16 _ w (RetHoB (fun v=>.tuple #[v,.int .i64 0]) hA2 w) at C2
 have PG:=hw_page
 have WL:=fun H3 H4 H5=>awake_law (H3:=H3) (H4:=H4) (H5:=H5)
 have WR1:∀ H,AwS H→∀ v w,HoAt w v H→Calls Tryz.prog 17 #[v,.int .i64 0,.int .i64 0,.string (pageS 1)] w (RetWrite 0 0 (pageS 1) H w):=fun H hs v w h=>hwrite_ok v H 0 0 (pageS 1) w h hs.ok (hs.at_ (by omega) (by omega)) (pageS_size _)
 have WR2:∀ H,AwS H→∀ v w,HoAt w v H→Calls Tryz.prog 17 #[v,.int .i64 0,.int .i64 1,.string (pageS 2)] w (RetWrite 0 1 (pageS 2) H w):=fun H hs v w h=>hwrite_ok v H 0 1 (pageS 2) w h hs.ok (hs.at_ (by omega) (by omega)) (pageS_size _)
 have WR3:∀ H,AwS H→∀ v w,HoAt w v H→Calls Tryz.prog 17 #[v,.int .i64 1,.int .i64 0,.string (pageS 3)] w (RetWrite 1 0 (pageS 3) H w):=fun H hs v w h=>hwrite_ok v H 1 0 (pageS 3) w h hs.ok (hs.at_ (by omega) (by omega)) (pageS_size _)
 have RD:∀ H,AwS H→∀ v w,HoAt w v H→Calls Tryz.prog 20 #[v,.int .i64 0,.int .i64 0] w (RetRead 0 0 H w):=fun H hs v w h=>hread_ok v H 0 0 w h hs.ok (hs.at_ (by omega) (by omega))
 have RS0:∀ H,AwS H→∀ v w,HoAt w v H→Calls Tryz.prog 18 #[v,.int .i64 0] w (Ret w (.int .i64 ((H.P.chargeN 0:Nat):Int))):=fun H hs v w h=>hres_ok v H 0 w h hs.ok (by rw[hs.g];omega)
 have RS1:∀ H,AwS H→∀ v w,HoAt w v H→Calls Tryz.prog 18 #[v,.int .i64 1] w (Ret w (.int .i64 ((H.P.chargeN 1:Nat):Int))):=fun H hs v w h=>hres_ok v H 1 w h hs.ok (by rw[hs.g];omega)
 have SW0:∀ H (g:Gm),AwS H→H.G[0]?=some g→∀ v w,HoAt w v H→Calls Tryz.prog 19 #[v,.int .i64 0] w (Ret w (.int .i64 ((g.swapped:Nat):Int))):=fun H g hs hg v w h=>hswap_ok v H 0 g w h hs.ok hg
 have HRD:=lh RD;clear RD
 have HRS0:=lh RS0;clear RS0
 have HRS1:=lh RS1;clear RS1
 have HSW0:=lh SW0;clear SW0
 obtain⟨h0,e0⟩:∃ h,hA0=h:=⟨_,rfl⟩
 obtain⟨h1,e1⟩:∃ h,hA1=h:=⟨_,rfl⟩
 have hs2:=hA2_s
 obtain⟨h2,e2⟩:∃ h,hA2=h:=⟨_,rfl⟩
 rw[e0] at C0 C1
 rw[e1] at C1 C2
 rw[e2] at C2 C3 WL hs2
 clear e0 e1 e2
 have HS2:=lh hs2;clear hs2
 have HC0:=lh C0;clear C0
 have HC1:=lh C1;clear C1
 have HC2:=lh C2;clear C2
 have HC3:=lh C3;clear C3
 have zz1:=pageS_size 1
 have zz2:=pageS_size 2
 have zz3:=pageS_size 3
 have PG1:=fun w=>PG 1 w (by omega)
 have PG2:=fun w=>PG 2 w (by omega)
 have PG3:=fun w=>PG 3 w (by omega)
 clear PG
 obtain⟨pg1,e1⟩:∃ d,pageS 1=d:=⟨_,rfl⟩
 obtain⟨pg2,e2⟩:∃ d,pageS 2=d:=⟨_,rfl⟩
 obtain⟨pg3,e3⟩:∃ d,pageS 3=d:=⟨_,rfl⟩
 rw[e1] at PG1 WR1 WL zz1
 rw[e2] at PG2 WR2 WL zz2
 rw[e3] at PG3 WR3 WL zz3
 have HZ:=lh (And.intro zz1 (And.intro zz2 zz3));clear zz1 zz2 zz3
 clear e1 e2 e3
 have HP1:=lh PG1;clear PG1
 have HP2:=lh PG2;clear PG2
 have HP3:=lh PG3;clear PG3
 have HW1:=lh WR1;clear WR1
 have HW2:=lh WR2;clear WR2
 have HW3:=lh WR3;clear WR3
 have HWL:=lh WL;clear WL
 have hbw:Below w.heap.size w w:=Below.refl _ _
 go_enter Tryz.func6,Tryz.ntmps6
 go_wp2_with fail
 with_reducible refine (HC0.out _).mono ?_
 rintro e w1 ⟨of0,or0,om0,og0,kf0,kr0,km0,kg0,us0,gs0,rfl,O0,hb1⟩
 replace hbw:=hbw.trans hb1
 clear hb1
 obtain⟨n0,hln⟩:∃ n,(Pl.F (Ho.P h0)).length=n:=⟨_,rfl⟩
 obtain⟨r0,hlr⟩:∃ n,(Pl.R (Ho.P h0)).length=n:=⟨_,rfl⟩
 obtain⟨m0,hlm⟩:∃ n,(Pl.M (Ho.P h0)).length=n:=⟨_,rfl⟩
 obtain⟨q0,hlq⟩:∃ n,(Ho.G h0).length=n:=⟨_,rfl⟩
 obtain⟨t0,hlt0⟩:∃ n,Ho.t h0=n:=⟨_,rfl⟩
 obtain⟨d0,hld⟩:∃ n,Ho.d h0=n:=⟨_,rfl⟩
 obtain⟨s0,hls⟩:∃ n,Ho.n h0=n:=⟨_,rfl⟩
 rw[hln,hlr,hlm,hlq] at O0 ⊢
 rw[hlt0,hld,hls]
 have HG0:=lh (And.intro hln (And.intro hlr (And.intro hlm (And.intro hlq (And.intro hlt0 (And.intro hld hls))))))
 clear hln hlr hlm hlq hlt0 hld hls
 go_upto_region 3 with (fail)
 have HB:=(HostAt.new (base':=0) HG0.out O0 (Nat.zero_le _)).below ((Below.refl _ _).alloc (nlr _) (.cells #[.int .i64 1,.int .i64 4,.int .i64 10,.int .i64 0,.int .i64 0] 32))
 have DC:=HasBlock.made (w1.alloc (.cells #[.slice of0 n0 kf0,.slice or0 r0 kr0,.slice om0 m0 km0,.slice og0 q0 kg0,.int .i64 t0,.int .u64 d0,.int .i64 s0] 30)) #[.int .i64 1,.int .i64 4,.int .i64 10,.int .i64 0,.int .i64 0] 32
 rw[World.size_alloc] at DC
 have hz1:=hbw.size
 replace hbw:=(hbw.alloc hbw.size (.cells #[.slice of0 n0 kf0,.slice or0 r0 kr0,.slice om0 m0 km0,.slice og0 q0 kg0,.int .i64 t0,.int .u64 d0,.int .i64 s0] 30)).alloc (by simp only[sizes];omega) (.cells #[.int .i64 1,.int .i64 4,.int .i64 10,.int .i64 0,.int .i64 0] 32)
 obtain⟨B0,hB⟩:∃ B,w1.heap.size=B:=⟨_,rfl⟩
 rw[hB] at HB DC hz1 ⊢
 generalize hW:(w1.alloc (.cells #[.slice of0 n0 kf0,.slice or0 r0 kr0,.slice om0 m0 km0,.slice og0 q0 kg0,.int .i64 t0,.int .u64 d0,.int .i64 s0] 30)).alloc (.cells #[.int .i64 1,.int .i64 4,.int .i64 10,.int .i64 0,.int .i64 0] 32)=w2 at HB DC hbw ⊢
 clear hW hB O0 HG0
 obtain⟨of1,or1,om1,og1,kf1,kr1,km1,kg1,us1,gs1,D1,O1⟩:=HB
 obtain⟨n1,hln⟩:∃ n,(Pl.F (Ho.P h0)).length=n:=⟨_,rfl⟩
 obtain⟨r1,hlr⟩:∃ n,(Pl.R (Ho.P h0)).length=n:=⟨_,rfl⟩
 obtain⟨m1,hlm⟩:∃ n,(Pl.M (Ho.P h0)).length=n:=⟨_,rfl⟩
 obtain⟨q1,hlq⟩:∃ n,(Ho.G h0).length=n:=⟨_,rfl⟩
 obtain⟨t1,hlt1⟩:∃ n,Ho.t h0=n:=⟨_,rfl⟩
 obtain⟨d1,hld⟩:∃ n,Ho.d h0=n:=⟨_,rfl⟩
 obtain⟨s1,hls⟩:∃ n,Ho.n h0=n:=⟨_,rfl⟩
 rw[hln,hlr,hlm,hlq] at O1 D1
 rw[hlt1,hld,hls] at D1
 have HG1:=lh (And.intro hln (And.intro hlr (And.intro hlm (And.intro hlq (And.intro hlt1 (And.intro hld hls))))))
 clear hln hlr hlm hlq hlt1 hld hls
 have HV1:Hid (∀ w':World,Below (w2).heap.size w2 w'→HoAt w' (.agg #[.slice of1 n1 kf1,.slice or1 r1 kr1,.slice om1 m1 km1,.slice og1 q1 kg1,.int .i64 t1,.int .u64 d1,.int .i64 s1]) h0):=lh (fun w' hb=>by
  have:=(O1.below hb).at_
  rwa[HG1.out.2.2.2.2.1,HG1.out.2.2.2.2.2.1,HG1.out.2.2.2.2.2.2] at this)
 obtain⟨DC_c,DC_f,DC_z⟩:=DC.all
 obtain⟨D1_c,D1_f,D1_z⟩:=D1.all
 go_wp2_with fail
 clear DC_c DC_f DC_z
 clear D1_c D1_f D1_z
 with_reducible refine (HC1.out _ _ (HV1.out _ (Below.refl _ _))).mono ?_
 rintro e w3 ⟨of2,or2,om2,og2,kf2,kr2,km2,kg2,us2,gs2,rfl,O2,hbk⟩
 obtain⟨n2,hln⟩:∃ n,(Pl.F (Ho.P h1)).length=n:=⟨_,rfl⟩
 obtain⟨r2,hlr⟩:∃ n,(Pl.R (Ho.P h1)).length=n:=⟨_,rfl⟩
 obtain⟨m2,hlm⟩:∃ n,(Pl.M (Ho.P h1)).length=n:=⟨_,rfl⟩
 obtain⟨q2,hlq⟩:∃ n,(Ho.G h1).length=n:=⟨_,rfl⟩
 obtain⟨t2,hlt2⟩:∃ n,Ho.t h1=n:=⟨_,rfl⟩
 obtain⟨d2,hld⟩:∃ n,Ho.d h1=n:=⟨_,rfl⟩
 obtain⟨s2,hls⟩:∃ n,Ho.n h1=n:=⟨_,rfl⟩
 rw[hln,hlr,hlm,hlq] at O2 ⊢
 rw[hlt2,hld,hls]
 have HG2:=lh (And.intro hln (And.intro hlr (And.intro hlm (And.intro hlq (And.intro hlt2 (And.intro hld hls))))))
 clear hln hlr hlm hlq hlt2 hld hls
 replace D1:=D1.below hbk
 replace O2:=O2.lower (base':=0) (Nat.zero_le _)
 replace DC:=DC.below hbk
 replace hbw:=hbw.trans (hbk.mono hbw.size)
 clear hbk O1 HV1
 have D1k:=D1
 obtain⟨DC_c,DC_f,DC_z⟩:=DC.all
 obtain⟨D1_c,D1_f,D1_z⟩:=D1.all
 go_upto_region 4 with (fail)
 clear DC_c DC_f DC_z
 clear D1_c D1_f D1_z
 have HB:=HostAt.fill HG2.out D1k O2
 replace DC:=DC.fill7_ne (B:=B0) (by omega) (.slice of2 n2 kf2) (.slice or2 r2 kr2) (.slice om2 m2 km2) (.slice og2 q2 kg2) (.int .i64 t2) (.int .u64 d2) (.int .i64 s2)
 replace hbw:=Below.fill7 hbw (b:=B0) (by omega) (.slice of2 n2 kf2) (.slice or2 r2 kr2) (.slice om2 m2 km2) (.slice og2 q2 kg2) (.int .i64 t2) (.int .u64 d2) (.int .i64 s2)
 clear O2 D1 D1k
 generalize hW:(((((((World.setCell w3 ⟨B0,0,none⟩ (.slice of2 n2 kf2)).setCell ⟨B0,1,none⟩ (.slice or2 r2 kr2)).setCell ⟨B0,2,none⟩ (.slice om2 m2 km2)).setCell ⟨B0,3,none⟩ (.slice og2 q2 kg2)).setCell ⟨B0,4,none⟩ (.int .i64 t2)).setCell ⟨B0,5,none⟩ (.int .u64 d2)).setCell ⟨B0,6,none⟩ (.int .i64 s2))=w4 at HB DC hbw ⊢
 clear hW HG1 HG2
 obtain⟨of3,or3,om3,og3,kf3,kr3,km3,kg3,us3,gs3,D3,O3⟩:=HB
 obtain⟨n3,hln⟩:∃ n,(Pl.F (Ho.P h1)).length=n:=⟨_,rfl⟩
 obtain⟨r3,hlr⟩:∃ n,(Pl.R (Ho.P h1)).length=n:=⟨_,rfl⟩
 obtain⟨m3,hlm⟩:∃ n,(Pl.M (Ho.P h1)).length=n:=⟨_,rfl⟩
 obtain⟨q3,hlq⟩:∃ n,(Ho.G h1).length=n:=⟨_,rfl⟩
 obtain⟨t3,hlt3⟩:∃ n,Ho.t h1=n:=⟨_,rfl⟩
 obtain⟨d3,hld⟩:∃ n,Ho.d h1=n:=⟨_,rfl⟩
 obtain⟨s3,hls⟩:∃ n,Ho.n h1=n:=⟨_,rfl⟩
 rw[hln,hlr,hlm,hlq] at O3 D3
 rw[hlt3,hld,hls] at D3
 have HG3:=lh (And.intro hln (And.intro hlr (And.intro hlm (And.intro hlq (And.intro hlt3 (And.intro hld hls))))))
 clear hln hlr hlm hlq hlt3 hld hls
 have HV3:Hid (∀ w':World,Below (w4).heap.size w4 w'→HoAt w' (.agg #[.slice of3 n3 kf3,.slice or3 r3 kr3,.slice om3 m3 km3,.slice og3 q3 kg3,.int .i64 t3,.int .u64 d3,.int .i64 s3]) h1):=lh (fun w' hb=>by
  have:=(O3.below hb).at_
  rwa[HG3.out.2.2.2.2.1,HG3.out.2.2.2.2.2.1,HG3.out.2.2.2.2.2.2] at this)
 obtain⟨DC_c,DC_f,DC_z⟩:=DC.all
 obtain⟨D3_c,D3_f,D3_z⟩:=D3.all
 go_wp2_with fail
 clear DC_c DC_f DC_z
 clear D3_c D3_f D3_z
 with_reducible refine (HC2.out _ _ (HV3.out _ (Below.refl _ _))).mono ?_
 rintro e w5 ⟨of4,or4,om4,og4,kf4,kr4,km4,kg4,us4,gs4,rfl,O4,hbk⟩
 obtain⟨n4,hln⟩:∃ n,(Pl.F (Ho.P h2)).length=n:=⟨_,rfl⟩
 obtain⟨r4,hlr⟩:∃ n,(Pl.R (Ho.P h2)).length=n:=⟨_,rfl⟩
 obtain⟨m4,hlm⟩:∃ n,(Pl.M (Ho.P h2)).length=n:=⟨_,rfl⟩
 obtain⟨q4,hlq⟩:∃ n,(Ho.G h2).length=n:=⟨_,rfl⟩
 obtain⟨t4,hlt4⟩:∃ n,Ho.t h2=n:=⟨_,rfl⟩
 obtain⟨d4,hld⟩:∃ n,Ho.d h2=n:=⟨_,rfl⟩
 obtain⟨s4,hls⟩:∃ n,Ho.n h2=n:=⟨_,rfl⟩
 rw[hln,hlr,hlm,hlq] at O4 ⊢
 rw[hlt4,hld,hls]
 have HG4:=lh (And.intro hln (And.intro hlr (And.intro hlm (And.intro hlq (And.intro hlt4 (And.intro hld hls))))))
 clear hln hlr hlm hlq hlt4 hld hls
 replace D3:=D3.below hbk
 replace O4:=O4.lower (base':=0) (Nat.zero_le _)
 replace DC:=DC.below hbk
 replace hbw:=hbw.trans (hbk.mono hbw.size)
 clear hbk O3 HV3
 have D3k:=D3
 obtain⟨DC_c,DC_f,DC_z⟩:=DC.all
 obtain⟨D3_c,D3_f,D3_z⟩:=D3.all
 go_upto_region 5 with (fail)
 clear DC_c DC_f DC_z
 clear D3_c D3_f D3_z
 have HB:=HostAt.fill HG4.out D3k O4
 replace DC:=DC.fill7_ne (B:=B0) (by omega) (.slice of4 n4 kf4) (.slice or4 r4 kr4) (.slice om4 m4 km4) (.slice og4 q4 kg4) (.int .i64 t4) (.int .u64 d4) (.int .i64 s4)
 replace hbw:=Below.fill7 hbw (b:=B0) (by omega) (.slice of4 n4 kf4) (.slice or4 r4 kr4) (.slice om4 m4 km4) (.slice og4 q4 kg4) (.int .i64 t4) (.int .u64 d4) (.int .i64 s4)
 clear O4 D3 D3k
 generalize hW:(((((((World.setCell w5 ⟨B0,0,none⟩ (.slice of4 n4 kf4)).setCell ⟨B0,1,none⟩ (.slice or4 r4 kr4)).setCell ⟨B0,2,none⟩ (.slice om4 m4 km4)).setCell ⟨B0,3,none⟩ (.slice og4 q4 kg4)).setCell ⟨B0,4,none⟩ (.int .i64 t4)).setCell ⟨B0,5,none⟩ (.int .u64 d4)).setCell ⟨B0,6,none⟩ (.int .i64 s4))=w6 at HB DC hbw ⊢
 clear hW HG3 HG4
 have HBk:=HB
 obtain⟨of5,or5,om5,og5,kf5,kr5,km5,kg5,us5,gs5,D5,O5⟩:=HB
 obtain⟨n5,hln⟩:∃ n,(Pl.F (Ho.P h2)).length=n:=⟨_,rfl⟩
 obtain⟨r5,hlr⟩:∃ n,(Pl.R (Ho.P h2)).length=n:=⟨_,rfl⟩
 obtain⟨m5,hlm⟩:∃ n,(Pl.M (Ho.P h2)).length=n:=⟨_,rfl⟩
 obtain⟨q5,hlq⟩:∃ n,(Ho.G h2).length=n:=⟨_,rfl⟩
 obtain⟨t5,hlt5⟩:∃ n,Ho.t h2=n:=⟨_,rfl⟩
 obtain⟨d5,hld⟩:∃ n,Ho.d h2=n:=⟨_,rfl⟩
 obtain⟨s5,hls⟩:∃ n,Ho.n h2=n:=⟨_,rfl⟩
 rw[hln,hlr,hlm,hlq] at O5 D5
 rw[hlt5,hld,hls] at D5
 have HG5:=lh (And.intro hln (And.intro hlr (And.intro hlm (And.intro hlq (And.intro hlt5 (And.intro hld hls))))))
 clear hln hlr hlm hlq hlt5 hld hls
 have HV5:Hid (∀ w':World,Below (w6).heap.size w6 w'→HoAt w' (.agg #[.slice of5 n5 kf5,.slice or5 r5 kr5,.slice om5 m5 km5,.slice og5 q5 kg5,.int .i64 t5,.int .u64 d5,.int .i64 s5]) h2):=lh (fun w' hb=>by
  have:=(O5.below hb).at_
  rwa[HG5.out.2.2.2.2.1,HG5.out.2.2.2.2.2.1,HG5.out.2.2.2.2.2.2] at this)
 obtain⟨DC_c,DC_f,DC_z⟩:=DC.all
 obtain⟨D5_c,D5_f,D5_z⟩:=D5.all
 go_wp2_with fail
 clear DC_c DC_f DC_z
 clear D5_c D5_f D5_z
 with_reducible refine (HC3.out _ _ (HV5.out _ (Below.refl _ _))).mono ?_
 rintro e w7 ⟨of6,or6,om6,og6,kf6,kr6,km6,kg6,us6,gs6,rfl,O6,hbk⟩
 obtain⟨n6,hln⟩:∃ n,(Pl.F (Ho.P h2)).length=n:=⟨_,rfl⟩
 obtain⟨r6,hlr⟩:∃ n,(Pl.R (Ho.P h2)).length=n:=⟨_,rfl⟩
 obtain⟨m6,hlm⟩:∃ n,(Pl.M (Ho.P h2)).length=n:=⟨_,rfl⟩
 obtain⟨q6,hlq⟩:∃ n,(Ho.G h2).length=n:=⟨_,rfl⟩
 obtain⟨t6,hlt6⟩:∃ n,Ho.t h2=n:=⟨_,rfl⟩
 obtain⟨d6,hld⟩:∃ n,Ho.d h2=n:=⟨_,rfl⟩
 obtain⟨s6,hls⟩:∃ n,Ho.n h2=n:=⟨_,rfl⟩
 rw[hln,hlr,hlm,hlq] at O6 ⊢
 rw[hlt6,hld,hls]
 have HG6:=lh (And.intro hln (And.intro hlr (And.intro hlm (And.intro hlq (And.intro hlt6 (And.intro hld hls))))))
 clear hln hlr hlm hlq hlt6 hld hls
 replace HBk:=HBk.below hbk
 replace hbw:=hbw.trans (hbk.mono hbw.size)
 clear hbk DC D5 O5 O6 HV5 HG5
 go_upto_region 6 with (fail)
 replace HBk:=HBk.below ((Below.refl _ _).alloc (nlr _) (.cells #[.slice of6 n6 kf6,.slice or6 r6 kr6,.slice om6 m6 km6,.slice og6 q6 kg6,.int .i64 t6,.int .u64 d6,.int .i64 s6] 30))
 replace hbw:=hbw.alloc hbw.size (.cells #[.slice of6 n6 kf6,.slice or6 r6 kr6,.slice om6 m6 km6,.slice og6 q6 kg6,.int .i64 t6,.int .u64 d6,.int .i64 s6] 30)
 generalize hW:w7.alloc (.cells #[.slice of6 n6 kf6,.slice or6 r6 kr6,.slice om6 m6 km6,.slice og6 q6 kg6,.int .i64 t6,.int .u64 d6,.int .i64 s6] 30)=w8 at HBk hbw ⊢
 clear hW HG6
 obtain⟨of9,or9,om9,og9,kf9,kr9,km9,kg9,us9,gs9,D9,O9⟩:=HBk
 obtain⟨n9,hln⟩:∃ n,(Pl.F (Ho.P h2)).length=n:=⟨_,rfl⟩
 obtain⟨r9,hlr⟩:∃ n,(Pl.R (Ho.P h2)).length=n:=⟨_,rfl⟩
 obtain⟨m9,hlm⟩:∃ n,(Pl.M (Ho.P h2)).length=n:=⟨_,rfl⟩
 obtain⟨q9,hlq⟩:∃ n,(Ho.G h2).length=n:=⟨_,rfl⟩
 obtain⟨t9,hlt9⟩:∃ n,Ho.t h2=n:=⟨_,rfl⟩
 obtain⟨d9,hld⟩:∃ n,Ho.d h2=n:=⟨_,rfl⟩
 obtain⟨s9,hls⟩:∃ n,Ho.n h2=n:=⟨_,rfl⟩
 rw[hln,hlr,hlm,hlq] at O9 D9
 rw[hlt9,hld,hls] at D9
 have HG9:=lh (And.intro hln (And.intro hlr (And.intro hlm (And.intro hlq (And.intro hlt9 (And.intro hld hls))))))
 clear hln hlr hlm hlq hlt9 hld hls
 have HV9:Hid (∀ w':World,Below (w8).heap.size w8 w'→HoAt w' (.agg #[.slice of9 n9 kf9,.slice or9 r9 kr9,.slice om9 m9 km9,.slice og9 q9 kg9,.int .i64 t9,.int .u64 d9,.int .i64 s9]) h2):=lh (fun w' hb=>by
  have:=(O9.below hb).at_
  rwa[HG9.out.2.2.2.2.1,HG9.out.2.2.2.2.2.1,HG9.out.2.2.2.2.2.2] at this)
 go_cut [8] from 34 to 39 (fun _ wx=>∃ Hn,WriteTo h2 0 0 pg1 Hn∧HostAt 0 B0 wx Hn∧Below w.heap.size w wx)
 case first =>
  have D9k:=D9
  obtain⟨D9_c,D9_f,D9_z⟩:=D9.all
  go_region_law (first
   | (go_simp;go_at_call 15
      with_reducible refine (HP1.out _).mono ?_
      rintro _ w15 ⟨rfl,hb15⟩
      have HB15:Below w8.heap.size w8 w15:=(Below.drew (Below.refl _ w8)).trans hb15
      obtain⟨hc15,hf15⟩:=bcell HB15
      have hzz15:=HB15.size)
   | (go_simp;go_at_call 17
      with_reducible refine (HW1.out h2 HS2.out _ _ (HV9.out _ HB15)).mono ?_
      rintro _ w16 ⟨H3,hwt,of16,or16,om16,og16,kf16,kr16,km16,kg16,us16,gs16,rfl,O16,hb16⟩
      obtain⟨n16,hln⟩:∃ n,(Pl.F (Ho.P H3)).length=n:=⟨_,rfl⟩
      obtain⟨r16,hlr⟩:∃ n,(Pl.R (Ho.P H3)).length=n:=⟨_,rfl⟩
      obtain⟨m16,hlm⟩:∃ n,(Pl.M (Ho.P H3)).length=n:=⟨_,rfl⟩
      obtain⟨q16,hlq⟩:∃ n,(Ho.G H3).length=n:=⟨_,rfl⟩
      obtain⟨t16,hlt16⟩:∃ n,Ho.t H3=n:=⟨_,rfl⟩
      obtain⟨d16,hld⟩:∃ n,Ho.d H3=n:=⟨_,rfl⟩
      obtain⟨s16,hls⟩:∃ n,Ho.n H3=n:=⟨_,rfl⟩
      rw[hln,hlr,hlm,hlq] at O16 ⊢
      rw[hlt16,hld,hls]
      have HG16:=lh (And.intro hln (And.intro hlr (And.intro hlm (And.intro hlq (And.intro hlt16 (And.intro hld hls))))))
      clear hln hlr hlm hlq hlt16 hld hls
      have HWT:=lh hwt
      clear hwt
      have HB16:Below w8.heap.size w8 w16:=HB15.trans (hb16.mono hzz15)
      have E0:=D9k.below HB16
      have O16z:=O16.lower (base':=0) (Nat.zero_le _)
      have hbw16:Below w.heap.size w w16:=hbw.trans (HB16.mono hbw.size)
      have E0k:=E0
      obtain⟨E0_c,E0_f,E0_z⟩:=E0.all))
  all_goals
   go_wp2_with fail
   go_meet
   exact⟨H3,HWT.out,HostAt.fill HG16.out E0k O16z,Below.fill7 hbw16 (by omega) _ _ _ _ _ _ _⟩
 case rest =>
  clear D9 O9 HV9 HG9 hbw
  obtain⟨H3,hw3,HBk,hbw⟩:=hcut
  have HS3:=lh (HS2.out.wr (by omega) (by omega) HZ.out.1 hw3)
  have HT3:=lh hw3;clear hw3
  go_upto_region 7 with (fail)
  obtain⟨of10,or10,om10,og10,kf10,kr10,km10,kg10,us10,gs10,D10,O10⟩:=HBk
  obtain⟨n10,hln⟩:∃ n,(Pl.F (Ho.P H3)).length=n:=⟨_,rfl⟩
  obtain⟨r10,hlr⟩:∃ n,(Pl.R (Ho.P H3)).length=n:=⟨_,rfl⟩
  obtain⟨m10,hlm⟩:∃ n,(Pl.M (Ho.P H3)).length=n:=⟨_,rfl⟩
  obtain⟨q10,hlq⟩:∃ n,(Ho.G H3).length=n:=⟨_,rfl⟩
  obtain⟨t10,hlt10⟩:∃ n,Ho.t H3=n:=⟨_,rfl⟩
  obtain⟨d10,hld⟩:∃ n,Ho.d H3=n:=⟨_,rfl⟩
  obtain⟨s10,hls⟩:∃ n,Ho.n H3=n:=⟨_,rfl⟩
  rw[hln,hlr,hlm,hlq] at O10 D10
  rw[hlt10,hld,hls] at D10
  have HG10:=lh (And.intro hln (And.intro hlr (And.intro hlm (And.intro hlq (And.intro hlt10 (And.intro hld hls))))))
  clear hln hlr hlm hlq hlt10 hld hls
  have HV10:Hid (∀ w':World,Below (wc).heap.size wc w'→HoAt w' (.agg #[.slice of10 n10 kf10,.slice or10 r10 kr10,.slice om10 m10 km10,.slice og10 q10 kg10,.int .i64 t10,.int .u64 d10,.int .i64 s10]) H3):=lh (fun w' hb=>by
   have:=(O10.below hb).at_
   rwa[HG10.out.2.2.2.2.1,HG10.out.2.2.2.2.2.1,HG10.out.2.2.2.2.2.2] at this)
  go_cut [8] from 40 to 45 (fun _ wx=>∃ Hn,WriteTo H3 0 1 pg2 Hn∧HostAt 0 B0 wx Hn∧Below w.heap.size w wx)
  case first =>
   have D10k:=D10
   obtain⟨D10_c,D10_f,D10_z⟩:=D10.all
   go_region_law (first
    | (go_simp;go_at_call 15
       with_reducible refine (HP2.out _).mono ?_
       rintro _ w15 ⟨rfl,hb15⟩
       have HB15:Below wc.heap.size wc w15:=(Below.drew (Below.refl _ wc)).trans hb15
       obtain⟨hc15,hf15⟩:=bcell HB15
       have hzz15:=HB15.size)
    | (go_simp;go_at_call 17
       with_reducible refine (HW2.out H3 HS3.out _ _ (HV10.out _ HB15)).mono ?_
       rintro _ w16 ⟨H4,hwt,of16,or16,om16,og16,kf16,kr16,km16,kg16,us16,gs16,rfl,O16,hb16⟩
       obtain⟨n16,hln⟩:∃ n,(Pl.F (Ho.P H4)).length=n:=⟨_,rfl⟩
       obtain⟨r16,hlr⟩:∃ n,(Pl.R (Ho.P H4)).length=n:=⟨_,rfl⟩
       obtain⟨m16,hlm⟩:∃ n,(Pl.M (Ho.P H4)).length=n:=⟨_,rfl⟩
       obtain⟨q16,hlq⟩:∃ n,(Ho.G H4).length=n:=⟨_,rfl⟩
       obtain⟨t16,hlt16⟩:∃ n,Ho.t H4=n:=⟨_,rfl⟩
       obtain⟨d16,hld⟩:∃ n,Ho.d H4=n:=⟨_,rfl⟩
       obtain⟨s16,hls⟩:∃ n,Ho.n H4=n:=⟨_,rfl⟩
       rw[hln,hlr,hlm,hlq] at O16 ⊢
       rw[hlt16,hld,hls]
       have HG16:=lh (And.intro hln (And.intro hlr (And.intro hlm (And.intro hlq (And.intro hlt16 (And.intro hld hls))))))
       clear hln hlr hlm hlq hlt16 hld hls
       have HWT:=lh hwt
       clear hwt
       have HB16:Below wc.heap.size wc w16:=HB15.trans (hb16.mono hzz15)
       have E0:=D10k.below HB16
       have O16z:=O16.lower (base':=0) (Nat.zero_le _)
       have hbw16:Below w.heap.size w w16:=hbw.trans (HB16.mono hbw.size)
       have E0k:=E0
       obtain⟨E0_c,E0_f,E0_z⟩:=E0.all))
   all_goals
    go_wp2_with fail
    go_meet
    exact⟨H4,HWT.out,HostAt.fill HG16.out E0k O16z,Below.fill7 hbw16 (by omega) _ _ _ _ _ _ _⟩
  case rest =>
   clear D10 O10 HV10 HG10 hbw
   obtain⟨H4,hw4,HBk,hbw⟩:=hcut
   have HS4:=lh (HS3.out.wr (by omega) (by omega) HZ.out.2.1 hw4)
   have HT4:=lh hw4;clear hw4
   go_upto_region 8 with (fail)
   obtain⟨of11,or11,om11,og11,kf11,kr11,km11,kg11,us11,gs11,D11,O11⟩:=HBk
   obtain⟨n11,hln⟩:∃ n,(Pl.F (Ho.P H4)).length=n:=⟨_,rfl⟩
   obtain⟨r11,hlr⟩:∃ n,(Pl.R (Ho.P H4)).length=n:=⟨_,rfl⟩
   obtain⟨m11,hlm⟩:∃ n,(Pl.M (Ho.P H4)).length=n:=⟨_,rfl⟩
   obtain⟨q11,hlq⟩:∃ n,(Ho.G H4).length=n:=⟨_,rfl⟩
   obtain⟨t11,hlt11⟩:∃ n,Ho.t H4=n:=⟨_,rfl⟩
   obtain⟨d11,hld⟩:∃ n,Ho.d H4=n:=⟨_,rfl⟩
   obtain⟨s11,hls⟩:∃ n,Ho.n H4=n:=⟨_,rfl⟩
   rw[hln,hlr,hlm,hlq] at O11 D11
   rw[hlt11,hld,hls] at D11
   have HG11:=lh (And.intro hln (And.intro hlr (And.intro hlm (And.intro hlq (And.intro hlt11 (And.intro hld hls))))))
   clear hln hlr hlm hlq hlt11 hld hls
   have HV11:Hid (∀ w':World,Below (wc).heap.size wc w'→HoAt w' (.agg #[.slice of11 n11 kf11,.slice or11 r11 kr11,.slice om11 m11 km11,.slice og11 q11 kg11,.int .i64 t11,.int .u64 d11,.int .i64 s11]) H4):=lh (fun w' hb=>by
    have:=(O11.below hb).at_
    rwa[HG11.out.2.2.2.2.1,HG11.out.2.2.2.2.2.1,HG11.out.2.2.2.2.2.2] at this)
   go_cut [8] from 46 to 51 (fun v wx=>v=.int .i64 0∧∃ Hn,WriteTo H4 1 0 pg3 Hn∧HostAt 0 B0 wx Hn∧Below w.heap.size w wx)
   case first =>
    have D11k:=D11
    obtain⟨D11_c,D11_f,D11_z⟩:=D11.all
    go_region_law (first
     | (go_simp;go_at_call 15
        with_reducible refine (HP3.out _).mono ?_
        rintro _ w15 ⟨rfl,hb15⟩
        have HB15:Below wc.heap.size wc w15:=(Below.drew (Below.refl _ wc)).trans hb15
        obtain⟨hc15,hf15⟩:=bcell HB15
        have hzz15:=HB15.size)
     | (go_simp;go_at_call 17
        with_reducible refine (HW3.out H4 HS4.out _ _ (HV11.out _ HB15)).mono ?_
        rintro _ w16 ⟨H5,hwt,of16,or16,om16,og16,kf16,kr16,km16,kg16,us16,gs16,rfl,O16,hb16⟩
        obtain⟨n16,hln⟩:∃ n,(Pl.F (Ho.P H5)).length=n:=⟨_,rfl⟩
        obtain⟨r16,hlr⟩:∃ n,(Pl.R (Ho.P H5)).length=n:=⟨_,rfl⟩
        obtain⟨m16,hlm⟩:∃ n,(Pl.M (Ho.P H5)).length=n:=⟨_,rfl⟩
        obtain⟨q16,hlq⟩:∃ n,(Ho.G H5).length=n:=⟨_,rfl⟩
        obtain⟨t16,hlt16⟩:∃ n,Ho.t H5=n:=⟨_,rfl⟩
        obtain⟨d16,hld⟩:∃ n,Ho.d H5=n:=⟨_,rfl⟩
        obtain⟨s16,hls⟩:∃ n,Ho.n H5=n:=⟨_,rfl⟩
        rw[hln,hlr,hlm,hlq] at O16 ⊢
        rw[hlt16,hld,hls]
        have HG16:=lh (And.intro hln (And.intro hlr (And.intro hlm (And.intro hlq (And.intro hlt16 (And.intro hld hls))))))
        clear hln hlr hlm hlq hlt16 hld hls
        have HWT:=lh hwt
        clear hwt
        have HB16:Below wc.heap.size wc w16:=HB15.trans (hb16.mono hzz15)
        have E0:=D11k.below HB16
        have O16z:=O16.lower (base':=0) (Nat.zero_le _)
        have hbw16:Below w.heap.size w w16:=hbw.trans (HB16.mono hbw.size)
        have E0k:=E0
        obtain⟨E0_c,E0_f,E0_z⟩:=E0.all))
    all_goals
     go_wp2_with fail
     go_meet
     exact⟨rfl,H5,HWT.out,HostAt.fill HG16.out E0k O16z,Below.fill7 hbw16 (by omega) _ _ _ _ _ _ _⟩
   case rest =>
    clear D11 O11 HV11 HG11 hbw
    obtain⟨rfl,H5,hw5,HBk,hbw⟩:=hcut
    obtain⟨_,_,hs5,hc0,hs1,hr6⟩:=HWL.out H3 H4 H5 HT3.out HT4.out hw5
    obtain⟨g0,hg0⟩:=get_lt (xs:=H5.G) (k:=0) (by rw[hs5.g];omega)
    have RSa:=fun v w h=>HRS0.out H5 hs5 v w h
    have SWa:=fun v w h=>HSW0.out H5 g0 hs5 hg0 v w h
    have RDa:=fun v w h=>HRD.out H5 hs5 v w h
    rw[hc0] at RSa
    rw[hs1 g0 hg0] at SWa
    have c1:((1:Nat):Int)=1:=rfl
    rw[c1] at RSa SWa
    have HRSa:=lh RSa;clear RSa
    have HSWa:=lh SWa;clear SWa
    have HRDa:=lh RDa;clear RDa
    have HR6:=lh hr6;clear hr6 hg0 hs1 hc0 c1 hs5
    obtain⟨of12,or12,om12,og12,kf12,kr12,km12,kg12,us12,gs12,D12,O12⟩:=HBk
    obtain⟨n12,hln⟩:∃ n,(Pl.F (Ho.P H5)).length=n:=⟨_,rfl⟩
    obtain⟨r12,hlr⟩:∃ n,(Pl.R (Ho.P H5)).length=n:=⟨_,rfl⟩
    obtain⟨m12,hlm⟩:∃ n,(Pl.M (Ho.P H5)).length=n:=⟨_,rfl⟩
    obtain⟨q12,hlq⟩:∃ n,(Ho.G H5).length=n:=⟨_,rfl⟩
    obtain⟨t12,hlt12⟩:∃ n,Ho.t H5=n:=⟨_,rfl⟩
    obtain⟨d12,hld⟩:∃ n,Ho.d H5=n:=⟨_,rfl⟩
    obtain⟨s12,hls⟩:∃ n,Ho.n H5=n:=⟨_,rfl⟩
    rw[hln,hlr,hlm,hlq] at O12 D12
    rw[hlt12,hld,hls] at D12
    have HG12:=lh (And.intro hln (And.intro hlr (And.intro hlm (And.intro hlq (And.intro hlt12 (And.intro hld hls))))))
    clear hln hlr hlm hlq hlt12 hld hls
    have HV12:Hid (∀ w':World,Below (wc).heap.size wc w'→HoAt w' (.agg #[.slice of12 n12 kf12,.slice or12 r12 kr12,.slice om12 m12 km12,.slice og12 q12 kg12,.int .i64 t12,.int .u64 d12,.int .i64 s12]) H5):=lh (fun w' hb=>by
     have:=(O12.below hb).at_
     rwa[HG12.out.2.2.2.2.1,HG12.out.2.2.2.2.2.1,HG12.out.2.2.2.2.2.2] at this)
    obtain⟨D12_c,D12_f,D12_z⟩:=D12.all
    go_wp2_with fail
    clear D12_c D12_f D12_z
    with_reducible refine (HRSa.out _ _ (HV12.out _ (Below.refl _ _))).mono ?_
    rintro e w20 ⟨rfl,hbc⟩
    replace D12:=D12.below hbc
    obtain⟨D12_c,D12_f,D12_z⟩:=D12.all
    go_wp2_with fail
    clear D12_c D12_f D12_z
    with_reducible refine (HSWa.out _ _ (HV12.out _ hbc)).mono ?_
    rintro e w21 ⟨rfl,hbk⟩
    replace D12:=D12.below hbk
    replace hbc:=hbc.trans (hbk.mono hbc.size)
    clear hbk
    obtain⟨D12_c,D12_f,D12_z⟩:=D12.all
    go_wp2_with fail
    clear D12_c D12_f D12_z
    with_reducible refine (HRDa.out _ _ (HV12.out _ hbc)).mono ?_
    rintro e w22 ⟨H6,hrd,of13,or13,om13,og13,kf13,kr13,km13,kg13,us13,gs13,rfl,O13,hbk⟩
    obtain⟨n13,hln⟩:∃ n,(Pl.F (Ho.P H6)).length=n:=⟨_,rfl⟩
    obtain⟨r13,hlr⟩:∃ n,(Pl.R (Ho.P H6)).length=n:=⟨_,rfl⟩
    obtain⟨m13,hlm⟩:∃ n,(Pl.M (Ho.P H6)).length=n:=⟨_,rfl⟩
    obtain⟨q13,hlq⟩:∃ n,(Ho.G H6).length=n:=⟨_,rfl⟩
    obtain⟨t13,hlt13⟩:∃ n,Ho.t H6=n:=⟨_,rfl⟩
    obtain⟨d13,hld⟩:∃ n,Ho.d H6=n:=⟨_,rfl⟩
    obtain⟨s13,hls⟩:∃ n,Ho.n H6=n:=⟨_,rfl⟩
    rw[hln,hlr,hlm,hlq] at O13 ⊢
    rw[hlt13,hld,hls]
    have HG13:=lh (And.intro hln (And.intro hlr (And.intro hlm (And.intro hlq (And.intro hlt13 (And.intro hld hls))))))
    clear hln hlr hlm hlq hlt13 hld hls
    obtain⟨hs6,ht6,hc6⟩:=HR6.out H6 hrd
    rw[ht6]
    replace D12:=D12.below hbk
    replace O13:=O13.lower (base':=0) (Nat.zero_le _)
    replace hbw:=(hbw.trans (hbc.mono hbw.size)).trans (hbk.mono (Nat.le_trans hbw.size hbc.size))
    have RSb:=fun v w h=>HRS1.out H6 hs6 v w h
    rw[hc6] at RSb
    have c1:((1:Nat):Int)=1:=rfl
    rw[c1] at RSb
    have HRSb:=lh RSb;clear RSb
    clear hbk hbc O12 HV12 hrd ht6 hc6 hs6 c1
    have D12k:=D12
    obtain⟨D12_c,D12_f,D12_z⟩:=D12.all
    go_upto_region 12 with (fail)
    clear D12_c D12_f D12_z
    have HB:=HostAt.fill HG13.out D12k O13
    replace hbw:=Below.fill7 hbw (b:=B0) (by omega) (.slice of13 n13 kf13) (.slice or13 r13 kr13) (.slice om13 m13 km13) (.slice og13 q13 kg13) (.int .i64 t13) (.int .u64 d13) (.int .i64 s13)
    generalize hW:(((((((World.setCell w22 ⟨B0,0,none⟩ (.slice of13 n13 kf13)).setCell ⟨B0,1,none⟩ (.slice or13 r13 kr13)).setCell ⟨B0,2,none⟩ (.slice om13 m13 km13)).setCell ⟨B0,3,none⟩ (.slice og13 q13 kg13)).setCell ⟨B0,4,none⟩ (.int .i64 t13)).setCell ⟨B0,5,none⟩ (.int .u64 d13)).setCell ⟨B0,6,none⟩ (.int .i64 s13))=w23 at HB hbw ⊢
    clear hW O13 D12 D12k HG13
    obtain⟨of14,or14,om14,og14,kf14,kr14,km14,kg14,us14,gs14,D14,O14⟩:=HB
    obtain⟨n14,hln⟩:∃ n,(Pl.F (Ho.P H6)).length=n:=⟨_,rfl⟩
    obtain⟨r14,hlr⟩:∃ n,(Pl.R (Ho.P H6)).length=n:=⟨_,rfl⟩
    obtain⟨m14,hlm⟩:∃ n,(Pl.M (Ho.P H6)).length=n:=⟨_,rfl⟩
    obtain⟨q14,hlq⟩:∃ n,(Ho.G H6).length=n:=⟨_,rfl⟩
    obtain⟨t14,hlt14⟩:∃ n,Ho.t H6=n:=⟨_,rfl⟩
    obtain⟨d14,hld⟩:∃ n,Ho.d H6=n:=⟨_,rfl⟩
    obtain⟨s14,hls⟩:∃ n,Ho.n H6=n:=⟨_,rfl⟩
    rw[hln,hlr,hlm,hlq] at O14 D14
    rw[hlt14,hld,hls] at D14
    have HG14:=lh (And.intro hln (And.intro hlr (And.intro hlm (And.intro hlq (And.intro hlt14 (And.intro hld hls))))))
    clear hln hlr hlm hlq hlt14 hld hls
    have HV14:Hid (∀ w':World,Below (w23).heap.size w23 w'→HoAt w' (.agg #[.slice of14 n14 kf14,.slice or14 r14 kr14,.slice om14 m14 km14,.slice og14 q14 kg14,.int .i64 t14,.int .u64 d14,.int .i64 s14]) H6):=lh (fun w' hb=>by
     have:=(O14.below hb).at_
     rwa[HG14.out.2.2.2.2.1,HG14.out.2.2.2.2.2.1,HG14.out.2.2.2.2.2.2] at this)
    have e1:(pg1.toList == pg1.toList)=true:=by simp
    obtain⟨D14_c,D14_f,D14_z⟩:=D14.all
    go_wp2_with fail
    clear D14_c D14_f D14_z
    with_reducible refine (HP1.out _).mono ?_
    rintro e w24 ⟨rfl,hbc⟩
    replace D14:=D14.below hbc
    obtain⟨D14_c,D14_f,D14_z⟩:=D14.all
    go_wp2_with fail
    clear D14_c D14_f D14_z
    with_reducible refine (HRSb.out _ _ (HV14.out _ hbc)).mono ?_
    rintro e w25 ⟨rfl,hbk⟩
    replace hbw:=(hbw.trans (hbc.mono hbw.size)).trans (hbk.mono (Nat.le_trans hbw.size hbc.size))
    clear hbk hbc D14 O14 HV14
    go_wp2_with fail
    go_ret
    exact Ret.mk hbw
end Go.Proofs.YtbnngjhnkegliaaGreat
namespace Go.Proofs.YtbnngjhnkegliaaGreat
open Go.ChangeShapes Go.WideShapes Go.ChangeAt Go.RowKit Go.Joins Go.Deep
theorem Tryz.own:ownKnob Tryz.prog.godebug=none:=by kernel_rfl
theorem Tryz.laidOut:laidOutB Tryz.prog=true:=by kernel_rfl
theorem trodAll_below {H:Type} {enc:TypeId×Value→H} {P:Program} (hl:laidOutB P=true) {W W':World} (hb:Below W.heap.size W W'):∀ (ts:List TypeId) (vs:List Value) (ds:List (DataW H)) (ps:List MemPlace),
    (∀ t∈ts,P.readableRec t=true∧t<P.types.size)→DataW.TrodAll enc P W 0 (fun _=>true) true ts vs ds ps→(∀ x∈ps,x.block<W.heap.size) →
    DataW.TrodAll enc P W' 0 (fun b=>decide (b<W.heap.size)) true ts vs ds ps
 | [],vs,ds,ps,_,h,_=>by
   obtain⟨rfl,rfl,rfl⟩:=trodAll_nil h
   exact trodAll_mk0
 | t :: ts,vs,ds,ps,hr,h,hlt=>by
   obtain⟨v,vs',d,ds',p,q,rfl,rfl,rfl,h0,h1⟩:=trodAll_cons h
   have:=hr t (List.mem_cons_self ..)
   exact trodAll_cons_mk (Below.trod hl this.1 this.2 h0 hb (fun x hx=>hlt x (List.mem_append_left _ hx)))
    (trodAll_below hl hb ts vs' ds' q (fun u hu=>hr u (List.mem_cons_of_mem _ hu)) h1 (fun x hx=>hlt x (List.mem_append_right _ hx)))
theorem law_post {H:Type} {enc:TypeId×Value→H} {f:Func} {s:ChangeSpec} {W W':World} {args:Array Value} {ds gs:List (DataW H)} {before:List MemPlace}
    (hv:s.vars=[]) (hW:DataW.Whole enc Tryz.prog f.params.toList s.vars false W args.toList ds gs before) (hb:Below W.heap.size W W')
    (hr:∀ t∈f.params.toList,Tryz.prog.readableRec t=true∧t<Tryz.prog.types.size) (tb:TypeId) (hres:f.resultTypes=#[tb]) (hub:Tryz.prog.underlying tb=some .bool)
    (hfn:gs=[]→s.fn H ds={ results:=[.lit (.bool true)],args:=ds }):s.post enc Tryz.prog f false true false false W args (.bool true) W':=by
 have hW0:=hW
 obtain⟨p,q,hA,hV,rfl,hfz,hnd⟩:=hW
 rw[hv] at hV
 obtain⟨rfl,rfl⟩:=trodVars_none hV
 have hf:=hfn rfl
 have hlt:∀ x∈p,x.block<W.heap.size:=fun x hx=>hW0.lt x (List.mem_append_left _ hx)
 have e:s.fn H (ds++[])={ results:=[.lit (.bool true)],args:=ds }:=by rw[List.append_nil];exact hf
 refine ⟨ds,[],p++[],[],p,[],hW0,?_,?_,?_,hb.frame _,fun h=>by cases h⟩
 · rw[e,hres]
   exact trodAll_mk1 (shut_bool hub true)
 · rw[e]
   exact trodAll_below Tryz.laidOut hb _ _ _ _ hr hA hlt
 · rw[e,hv]
   rfl
section
variable {H:Type} {enc:TypeId×Value→H} {P:Program} {w:World} {base:Nat} {spare:Nat→Bool} {held:Bool}
end
end Go.Proofs.YtbnngjhnkegliaaGreat
