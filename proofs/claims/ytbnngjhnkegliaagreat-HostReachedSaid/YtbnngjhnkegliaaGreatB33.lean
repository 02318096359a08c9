/-
  Texts joined: HrTells HoClaim HoPMade. No law is proved here.
-/
import Derived.Test.YtbnngjhnkegliaaGreatB32
namespace Go.Proofs.YtbnngjhnkegliaaGreat
open Go.RowKit
set_option maxRecDepth 100000 in
set_option maxHeartbeats 16000000 in
theorem tellsh_any (v:Value) (H:Ho) (cr cl cs cp ca i p k:Int) (d:ByteArray) (w:World) (ha:HoAt w v H) (hf:H.Fit) (hsm:H.Small) (hcb : -9223372036854775808≤cp∧cp≤9223372036854775807) (hk : -9223372036854775808≤k∧k≤9223372036854775807):Calls Tryz.prog 10 #[v,.agg #[.int .i64 cr,.int .i64 cl,.int .i64 cs,.int .i64 cp,.int .i64 ca],.int .i64 i,.int .i64 p,.int .i64 k,.string d] w (Ret w (.bool true)):=by
 obtain⟨K1,c1,A1,A2⟩:=pair_add H cr cl cs cp ca k hf hsm hcb
 obtain⟨K2,s2,c2,A3,A4⟩:=pair_read H i p hf hsm
 obtain⟨K3,c3,A5,A6⟩:=pair_write H i p d hf hsm
 obtain⟨K4,b4,A7,A8⟩:=pair_sample H i k hf hsm hk.2
 obtain⟨K5,A9,A10⟩:=pair_scan H k hf hsm hk
 obtain⟨b6,A11,A12⟩:=pair_valid H hf hsm
 obtain⟨x7,A13,A14⟩:=pair_res H i hf hsm
 obtain⟨x8,A15,A16⟩:=pair_swap H i hf hsm
 have HC1:=lh A1;clear A1
 have HC2:=lh A2;clear A2
 have HC3:=lh A3;clear A3
 have HC4:=lh A4;clear A4
 have HC5:=lh A5;clear A5
 have HC6:=lh A6;clear A6
 have HC7:=lh A7;clear A7
 have HC8:=lh A8;clear A8
 have HC9:=lh A9;clear A9
 have HC10:=lh A10;clear A10
 have HC11:=lh A11;clear A11
 have HC12:=lh A12;clear A12
 have HC13:=lh A13;clear A13
 have HC14:=lh A14;clear A14
 have HC15:=lh A15;clear A15
 have HC16:=lh A16;clear A16
 clear hf hsm hcb hk
 have hw0:=lh ha
 obtain⟨of,or',om,og,kf,kr,km,kg,n,r,m,q,tx,dx,sx,HN,HR,HM,HQ,HT,HD,HS,rfl,kf1,kf2,kr1,kr2,km1,km2,kg1,kg2,h⟩:=HoAt.opened ha
 have HA:Hid (∀ w':World,Below w.heap.size w w'→HoAt w' (.agg #[.slice of n kf,.slice or' r kr,.slice om m km,.slice og q kg,.int .i64 tx,.int .u64 dx,.int .i64 sx]) H):=lh (fun w' hb=>hw0.out.below hb)
 clear hw0 h
 have e1:(s2.toList == s2.toList)=true:=by simp
 have e2:(b4 == b4)=true:=by simp
 have e3:(b6 != b6)=false:=by simp
 have e4:(x7 != x7)=false:=by simp
 have e5:(x8 != x8)=false:=by simp
 have e6:(c1 == c1)=true:=by simp
 have e7:(c2 == c2)=true:=by simp
 have e8:(c3 == c3)=true:=by simp
 have D0:=(HasBlock.made w #[.slice of n kf,.slice or' r kr,.slice om m km,.slice og q kg,.int .i64 tx,.int .u64 dx,.int .i64 sx] 30).alloc (.cells #[.int .i64 cr,.int .i64 cl,.int .i64 cs,.int .i64 cp,.int .i64 ca] 32)
 have DC:=HasBlock.made (w.alloc (.cells #[.slice of n kf,.slice or' r kr,.slice om m km,.slice og q kg,.int .i64 tx,.int .u64 dx,.int .i64 sx] 30)) #[.int .i64 cr,.int .i64 cl,.int .i64 cs,.int .i64 cp,.int .i64 ca] 32
 rw[World.size_alloc] at DC
 have hbw:Below w.heap.size w ((w.alloc (.cells #[.slice of n kf,.slice or' r kr,.slice om m km,.slice og q kg,.int .i64 tx,.int .u64 dx,.int .i64 sx] 30)).alloc (.cells #[.int .i64 cr,.int .i64 cl,.int .i64 cs,.int .i64 cp,.int .i64 ca] 32)):=bel
 go_enter Tryz.func10,Tryz.ntmps10
 go_wp2_with fail
 with_reducible refine (HC1.out _ _ (HA.out _ hbw)).mono ?_
 rintro e w1 ⟨v1,rfl,hh1,hbk⟩
 obtain⟨of1,n1,kf1,or1,r1,kr1,om1,m1,km1,og1,q1,kg1,t1,d1,s1,rfl⟩:=hh1.form
 replace D0:=D0.below hbk
 replace DC:=DC.below hbk
 replace hbw:=hbw.trans (hbk.mono hbw.size)
 clear hbk
 obtain⟨D0_c,D0_f,D0_z⟩:=D0.all
 obtain⟨DC_c,DC_f,DC_z⟩:=DC.all
 go_upto_region 2 with (fail)
 clear D0_c D0_f D0_z
 clear DC_c DC_f DC_z
 have hbx:Below w1.heap.size w1 (w1.alloc (.cells #[.slice of1 n1 kf1,.slice or1 r1 kr1,.slice om1 m1 km1,.slice og1 q1 kg1,.int .i64 t1,.int .u64 d1,.int .i64 s1] 30)):=(Below.refl _ _).alloc (nlr _) _
 have hwE1:=hbw.size
 have lD0:=D0.lt
 have lDC:=DC.lt
 replace D0:=D0.below hbx
 replace DC:=DC.below hbx
 replace hh1:=hh1.below hbx
 have E1:=HasBlock.made w1 #[.slice of1 n1 kf1,.slice or1 r1 kr1,.slice om1 m1 km1,.slice og1 q1 kg1,.int .i64 t1,.int .u64 d1,.int .i64 s1] 30
 replace hbw:=hbw.trans (hbx.mono hbw.size)
 clear hbx
 obtain⟨B1,hB⟩:∃ B,w1.heap.size=B:=⟨_,rfl⟩
 rw[hB] at E1 hwE1 ⊢
 rw[hB] at lD0
 rw[hB] at lDC
 generalize hW:w1.alloc (.cells #[.slice of1 n1 kf1,.slice or1 r1 kr1,.slice om1 m1 km1,.slice og1 q1 kg1,.int .i64 t1,.int .u64 d1,.int .i64 s1] 30)=w2 at D0 DC E1 hh1 hbw ⊢
 clear hW hB
 clear hwE1
 obtain⟨D0_c,D0_f,D0_z⟩:=D0.all
 obtain⟨DC_c,DC_f,DC_z⟩:=DC.all
 obtain⟨E1_c,E1_f,E1_z⟩:=E1.all
 go_wp2_with fail
 clear D0_c D0_f D0_z
 clear DC_c DC_f DC_z
 clear E1_c E1_f E1_z
 with_reducible refine (HC2.out _ _ (HA.out _ hbw)).mono ?_
 rintro e w3 ⟨v2,rfl,hh2,hbk⟩
 obtain⟨of2,n2,kf2,or2,r2,kr2,om2,m2,km2,og2,q2,kg2,t2,d2,s2,rfl⟩:=hh2.form
 replace D0:=D0.below hbk
 replace DC:=DC.below hbk
 replace E1:=E1.below hbk
 replace hh1:=hh1.below hbk
 replace hbw:=hbw.trans (hbk.mono hbw.size)
 clear hbk
 obtain⟨D0_c,D0_f,D0_z⟩:=D0.all
 obtain⟨DC_c,DC_f,DC_z⟩:=DC.all
 obtain⟨E1_c,E1_f,E1_z⟩:=E1.all
 go_upto_region 3 with (fail)
 clear D0_c D0_f D0_z
 clear DC_c DC_f DC_z
 clear E1_c E1_f E1_z
 have hbx:Below w3.heap.size w3 (w3.alloc (.cells #[.slice of2 n2 kf2,.slice or2 r2 kr2,.slice om2 m2 km2,.slice og2 q2 kg2,.int .i64 t2,.int .u64 d2,.int .i64 s2] 30)):=(Below.refl _ _).alloc (nlr _) _
 have hwE2:=hbw.size
 have lD0:=D0.lt
 have lDC:=DC.lt
 have lE1:=E1.lt
 replace D0:=D0.below hbx
 replace DC:=DC.below hbx
 replace E1:=E1.below hbx
 replace hh1:=hh1.below hbx
 replace hh2:=hh2.below hbx
 have E2:=HasBlock.made w3 #[.slice of2 n2 kf2,.slice or2 r2 kr2,.slice om2 m2 km2,.slice og2 q2 kg2,.int .i64 t2,.int .u64 d2,.int .i64 s2] 30
 replace hbw:=hbw.trans (hbx.mono hbw.size)
 clear hbx
 obtain⟨B2,hB⟩:∃ B,w3.heap.size=B:=⟨_,rfl⟩
 rw[hB] at E2 hwE2 ⊢
 rw[hB] at lD0
 rw[hB] at lDC
 rw[hB] at lE1
 generalize hW:w3.alloc (.cells #[.slice of2 n2 kf2,.slice or2 r2 kr2,.slice om2 m2 km2,.slice og2 q2 kg2,.int .i64 t2,.int .u64 d2,.int .i64 s2] 30)=w4 at D0 DC E1 E2 hh1 hh2 hbw ⊢
 clear hW hB
 clear hwE2
 obtain⟨D0_c,D0_f,D0_z⟩:=D0.all
 obtain⟨DC_c,DC_f,DC_z⟩:=DC.all
 obtain⟨E1_c,E1_f,E1_z⟩:=E1.all
 obtain⟨E2_c,E2_f,E2_z⟩:=E2.all
 go_wp2_with fail
 clear D0_c D0_f D0_z
 clear DC_c DC_f DC_z
 clear E1_c E1_f E1_z
 clear E2_c E2_f E2_z
 with_reducible refine (HC3.out _ _ (HA.out _ hbw)).mono ?_
 rintro e w5 ⟨v3,rfl,hh3,hbk⟩
 obtain⟨of3,n3,kf3,or3,r3,kr3,om3,m3,km3,og3,q3,kg3,t3,d3,s3,rfl⟩:=hh3.form
 replace D0:=D0.below hbk
 replace DC:=DC.below hbk
 replace E1:=E1.below hbk
 replace E2:=E2.below hbk
 replace hh1:=hh1.below hbk
 replace hh2:=hh2.below hbk
 replace hbw:=hbw.trans (hbk.mono hbw.size)
 clear hbk
 obtain⟨D0_c,D0_f,D0_z⟩:=D0.all
 obtain⟨DC_c,DC_f,DC_z⟩:=DC.all
 obtain⟨E1_c,E1_f,E1_z⟩:=E1.all
 obtain⟨E2_c,E2_f,E2_z⟩:=E2.all
 go_upto_region 4 with (fail)
 clear D0_c D0_f D0_z
 clear DC_c DC_f DC_z
 clear E1_c E1_f E1_z
 clear E2_c E2_f E2_z
 have hbx:Below w5.heap.size w5 (w5.alloc (.cells #[.slice of3 n3 kf3,.slice or3 r3 kr3,.slice om3 m3 km3,.slice og3 q3 kg3,.int .i64 t3,.int .u64 d3,.int .i64 s3] 30)):=(Below.refl _ _).alloc (nlr _) _
 have hwE3:=hbw.size
 have lD0:=D0.lt
 have lDC:=DC.lt
 have lE1:=E1.lt
 have lE2:=E2.lt
 replace D0:=D0.below hbx
 replace DC:=DC.below hbx
 replace E1:=E1.below hbx
 replace E2:=E2.below hbx
 replace hh1:=hh1.below hbx
 replace hh2:=hh2.below hbx
 replace hh3:=hh3.below hbx
 have E3:=HasBlock.made w5 #[.slice of3 n3 kf3,.slice or3 r3 kr3,.slice om3 m3 km3,.slice og3 q3 kg3,.int .i64 t3,.int .u64 d3,.int .i64 s3] 30
 replace hbw:=hbw.trans (hbx.mono hbw.size)
 clear hbx
 obtain⟨B3,hB⟩:∃ B,w5.heap.size=B:=⟨_,rfl⟩
 rw[hB] at E3 hwE3 ⊢
 rw[hB] at lD0
 rw[hB] at lDC
 rw[hB] at lE1
 rw[hB] at lE2
 generalize hW:w5.alloc (.cells #[.slice of3 n3 kf3,.slice or3 r3 kr3,.slice om3 m3 km3,.slice og3 q3 kg3,.int .i64 t3,.int .u64 d3,.int .i64 s3] 30)=w6 at D0 DC E1 E2 E3 hh1 hh2 hh3 hbw ⊢
 clear hW hB
 clear hwE3
 obtain⟨D0_c,D0_f,D0_z⟩:=D0.all
 obtain⟨DC_c,DC_f,DC_z⟩:=DC.all
 obtain⟨E1_c,E1_f,E1_z⟩:=E1.all
 obtain⟨E2_c,E2_f,E2_z⟩:=E2.all
 obtain⟨E3_c,E3_f,E3_z⟩:=E3.all
 go_wp2_with fail
 clear D0_c D0_f D0_z
 clear DC_c DC_f DC_z
 clear E1_c E1_f E1_z
 clear E2_c E2_f E2_z
 clear E3_c E3_f E3_z
 with_reducible refine (HC4.out _ _ (HA.out _ hbw)).mono ?_
 rintro e w7 ⟨v4,rfl,hh4,hbk⟩
 obtain⟨of4,n4,kf4,or4,r4,kr4,om4,m4,km4,og4,q4,kg4,t4,d4,s4,rfl⟩:=hh4.form
 replace D0:=D0.below hbk
 replace DC:=DC.below hbk
 replace E1:=E1.below hbk
 replace E2:=E2.below hbk
 replace E3:=E3.below hbk
 replace hh1:=hh1.below hbk
 replace hh2:=hh2.below hbk
 replace hh3:=hh3.below hbk
 replace hbw:=hbw.trans (hbk.mono hbw.size)
 clear hbk
 obtain⟨D0_c,D0_f,D0_z⟩:=D0.all
 obtain⟨DC_c,DC_f,DC_z⟩:=DC.all
 obtain⟨E1_c,E1_f,E1_z⟩:=E1.all
 obtain⟨E2_c,E2_f,E2_z⟩:=E2.all
 obtain⟨E3_c,E3_f,E3_z⟩:=E3.all
 go_upto_region 5 with (fail)
 clear D0_c D0_f D0_z
 clear DC_c DC_f DC_z
 clear E1_c E1_f E1_z
 clear E2_c E2_f E2_z
 clear E3_c E3_f E3_z
 have hbx:Below w7.heap.size w7 (w7.alloc (.cells #[.slice of4 n4 kf4,.slice or4 r4 kr4,.slice om4 m4 km4,.slice og4 q4 kg4,.int .i64 t4,.int .u64 d4,.int .i64 s4] 30)):=(Below.refl _ _).alloc (nlr _) _
 have hwE4:=hbw.size
 have lD0:=D0.lt
 have lDC:=DC.lt
 have lE1:=E1.lt
 have lE2:=E2.lt
 have lE3:=E3.lt
 replace D0:=D0.below hbx
 replace DC:=DC.below hbx
 replace E1:=E1.below hbx
 replace E2:=E2.below hbx
 replace E3:=E3.below hbx
 replace hh1:=hh1.below hbx
 replace hh2:=hh2.below hbx
 replace hh3:=hh3.below hbx
 replace hh4:=hh4.below hbx
 have E4:=HasBlock.made w7 #[.slice of4 n4 kf4,.slice or4 r4 kr4,.slice om4 m4 km4,.slice og4 q4 kg4,.int .i64 t4,.int .u64 d4,.int .i64 s4] 30
 replace hbw:=hbw.trans (hbx.mono hbw.size)
 clear hbx
 obtain⟨B4,hB⟩:∃ B,w7.heap.size=B:=⟨_,rfl⟩
 rw[hB] at E4 hwE4 ⊢
 rw[hB] at lD0
 rw[hB] at lDC
 rw[hB] at lE1
 rw[hB] at lE2
 rw[hB] at lE3
 generalize hW:w7.alloc (.cells #[.slice of4 n4 kf4,.slice or4 r4 kr4,.slice om4 m4 km4,.slice og4 q4 kg4,.int .i64 t4,.int .u64 d4,.int .i64 s4] 30)=w8 at D0 DC E1 E2 E3 E4 hh1 hh2 hh3 hh4 hbw ⊢
 clear hW hB
 clear hwE4
 obtain⟨D0_c,D0_f,D0_z⟩:=D0.all
 obtain⟨DC_c,DC_f,DC_z⟩:=DC.all
 obtain⟨E1_c,E1_f,E1_z⟩:=E1.all
 obtain⟨E2_c,E2_f,E2_z⟩:=E2.all
 obtain⟨E3_c,E3_f,E3_z⟩:=E3.all
 obtain⟨E4_c,E4_f,E4_z⟩:=E4.all
 go_wp2_with fail
 clear D0_c D0_f D0_z
 clear DC_c DC_f DC_z
 clear E1_c E1_f E1_z
 clear E2_c E2_f E2_z
 clear E3_c E3_f E3_z
 clear E4_c E4_f E4_z
 with_reducible refine (HC5.out _ _ (HA.out _ hbw)).mono ?_
 rintro e w9 ⟨v5,rfl,hh5,hbk⟩
 obtain⟨of5,n5,kf5,or5,r5,kr5,om5,m5,km5,og5,q5,kg5,t5,d5,s5,rfl⟩:=hh5.form
 replace D0:=D0.below hbk
 replace DC:=DC.below hbk
 replace E1:=E1.below hbk
 replace E2:=E2.below hbk
 replace E3:=E3.below hbk
 replace E4:=E4.below hbk
 replace hh1:=hh1.below hbk
 replace hh2:=hh2.below hbk
 replace hh3:=hh3.below hbk
 replace hh4:=hh4.below hbk
 replace hbw:=hbw.trans (hbk.mono hbw.size)
 clear hbk
 obtain⟨D0_c,D0_f,D0_z⟩:=D0.all
 obtain⟨DC_c,DC_f,DC_z⟩:=DC.all
 obtain⟨E1_c,E1_f,E1_z⟩:=E1.all
 obtain⟨E2_c,E2_f,E2_z⟩:=E2.all
 obtain⟨E3_c,E3_f,E3_z⟩:=E3.all
 obtain⟨E4_c,E4_f,E4_z⟩:=E4.all
 go_upto_region 6 with (fail)
 clear D0_c D0_f D0_z
 clear DC_c DC_f DC_z
 clear E1_c E1_f E1_z
 clear E2_c E2_f E2_z
 clear E3_c E3_f E3_z
 clear E4_c E4_f E4_z
 have hbx:Below w9.heap.size w9 (w9.alloc (.cells #[.slice of5 n5 kf5,.slice or5 r5 kr5,.slice om5 m5 km5,.slice og5 q5 kg5,.int .i64 t5,.int .u64 d5,.int .i64 s5] 30)):=(Below.refl _ _).alloc (nlr _) _
 have hwE5:=hbw.size
 have lD0:=D0.lt
 have lDC:=DC.lt
 have lE1:=E1.lt
 have lE2:=E2.lt
 have lE3:=E3.lt
 have lE4:=E4.lt
 replace D0:=D0.below hbx
 replace DC:=DC.below hbx
 replace E1:=E1.below hbx
 replace E2:=E2.below hbx
 replace E3:=E3.below hbx
 replace E4:=E4.below hbx
 replace hh1:=hh1.below hbx
 replace hh2:=hh2.below hbx
 replace hh3:=hh3.below hbx
 replace hh4:=hh4.below hbx
 replace hh5:=hh5.below hbx
 have E5:=HasBlock.made w9 #[.slice of5 n5 kf5,.slice or5 r5 kr5,.slice om5 m5 km5,.slice og5 q5 kg5,.int .i64 t5,.int .u64 d5,.int .i64 s5] 30
 replace hbw:=hbw.trans (hbx.mono hbw.size)
 clear hbx
 obtain⟨B5,hB⟩:∃ B,w9.heap.size=B:=⟨_,rfl⟩
 rw[hB] at E5 hwE5 ⊢
 rw[hB] at lD0
 rw[hB] at lDC
 rw[hB] at lE1
 rw[hB] at lE2
 rw[hB] at lE3
 rw[hB] at lE4
 generalize hW:w9.alloc (.cells #[.slice of5 n5 kf5,.slice or5 r5 kr5,.slice om5 m5 km5,.slice og5 q5 kg5,.int .i64 t5,.int .u64 d5,.int .i64 s5] 30)=w10 at D0 DC E1 E2 E3 E4 E5 hh1 hh2 hh3 hh4 hh5 hbw ⊢
 clear hW hB
 clear hwE5
 obtain⟨D0_c,D0_f,D0_z⟩:=D0.all
 obtain⟨DC_c,DC_f,DC_z⟩:=DC.all
 obtain⟨E1_c,E1_f,E1_z⟩:=E1.all
 obtain⟨E2_c,E2_f,E2_z⟩:=E2.all
 obtain⟨E3_c,E3_f,E3_z⟩:=E3.all
 obtain⟨E4_c,E4_f,E4_z⟩:=E4.all
 obtain⟨E5_c,E5_f,E5_z⟩:=E5.all
 go_wp2_with fail
 clear D0_c D0_f D0_z
 clear DC_c DC_f DC_z
 clear E1_c E1_f E1_z
 clear E2_c E2_f E2_z
 clear E3_c E3_f E3_z
 clear E4_c E4_f E4_z
 clear E5_c E5_f E5_z
 with_reducible refine (HC6.out _ _ (HA.out _ hbw)).mono ?_
 rintro e w11 ⟨v6,rfl,hh6,hbk⟩
 obtain⟨of6,n6,kf6,or6,r6,kr6,om6,m6,km6,og6,q6,kg6,t6,d6,s6,rfl⟩:=hh6.form
 replace D0:=D0.below hbk
 replace DC:=DC.below hbk
 replace E1:=E1.below hbk
 replace E2:=E2.below hbk
 replace E3:=E3.below hbk
 replace E4:=E4.below hbk
 replace E5:=E5.below hbk
 replace hh1:=hh1.below hbk
 replace hh2:=hh2.below hbk
 replace hh3:=hh3.below hbk
 replace hh4:=hh4.below hbk
 replace hh5:=hh5.below hbk
 replace hbw:=hbw.trans (hbk.mono hbw.size)
 clear hbk
 obtain⟨D0_c,D0_f,D0_z⟩:=D0.all
 obtain⟨DC_c,DC_f,DC_z⟩:=DC.all
 obtain⟨E1_c,E1_f,E1_z⟩:=E1.all
 obtain⟨E2_c,E2_f,E2_z⟩:=E2.all
 obtain⟨E3_c,E3_f,E3_z⟩:=E3.all
 obtain⟨E4_c,E4_f,E4_z⟩:=E4.all
 obtain⟨E5_c,E5_f,E5_z⟩:=E5.all
 go_upto_region 7 with (fail)
 clear D0_c D0_f D0_z
 clear DC_c DC_f DC_z
 clear E1_c E1_f E1_z
 clear E2_c E2_f E2_z
 clear E3_c E3_f E3_z
 clear E4_c E4_f E4_z
 clear E5_c E5_f E5_z
 have hbx:Below w11.heap.size w11 (w11.alloc (.cells #[.slice of6 n6 kf6,.slice or6 r6 kr6,.slice om6 m6 km6,.slice og6 q6 kg6,.int .i64 t6,.int .u64 d6,.int .i64 s6] 30)):=(Below.refl _ _).alloc (nlr _) _
 have hwE6:=hbw.size
 have lD0:=D0.lt
 have lDC:=DC.lt
 have lE1:=E1.lt
 have lE2:=E2.lt
 have lE3:=E3.lt
 have lE4:=E4.lt
 have lE5:=E5.lt
 replace D0:=D0.below hbx
 replace DC:=DC.below hbx
 replace E1:=E1.below hbx
 replace E2:=E2.below hbx
 replace E3:=E3.below hbx
 replace E4:=E4.below hbx
 replace E5:=E5.below hbx
 replace hh1:=hh1.below hbx
 replace hh2:=hh2.below hbx
 replace hh3:=hh3.below hbx
 replace hh4:=hh4.below hbx
 replace hh5:=hh5.below hbx
 replace hh6:=hh6.below hbx
 have E6:=HasBlock.made w11 #[.slice of6 n6 kf6,.slice or6 r6 kr6,.slice om6 m6 km6,.slice og6 q6 kg6,.int .i64 t6,.int .u64 d6,.int .i64 s6] 30
 replace hbw:=hbw.trans (hbx.mono hbw.size)
 clear hbx
 obtain⟨B6,hB⟩:∃ B,w11.heap.size=B:=⟨_,rfl⟩
 rw[hB] at E6 hwE6 ⊢
 rw[hB] at lD0
 rw[hB] at lDC
 rw[hB] at lE1
 rw[hB] at lE2
 rw[hB] at lE3
 rw[hB] at lE4
 rw[hB] at lE5
 generalize hW:w11.alloc (.cells #[.slice of6 n6 kf6,.slice or6 r6 kr6,.slice om6 m6 km6,.slice og6 q6 kg6,.int .i64 t6,.int .u64 d6,.int .i64 s6] 30)=w12 at D0 DC E1 E2 E3 E4 E5 E6 hh1 hh2 hh3 hh4 hh5 hh6 hbw ⊢
 clear hW hB
 clear hwE6
 obtain⟨D0_c,D0_f,D0_z⟩:=D0.all
 obtain⟨DC_c,DC_f,DC_z⟩:=DC.all
 obtain⟨E1_c,E1_f,E1_z⟩:=E1.all
 obtain⟨E2_c,E2_f,E2_z⟩:=E2.all
 obtain⟨E3_c,E3_f,E3_z⟩:=E3.all
 obtain⟨E4_c,E4_f,E4_z⟩:=E4.all
 obtain⟨E5_c,E5_f,E5_z⟩:=E5.all
 obtain⟨E6_c,E6_f,E6_z⟩:=E6.all
 go_wp2_with fail
 clear D0_c D0_f D0_z
 clear DC_c DC_f DC_z
 clear E1_c E1_f E1_z
 clear E2_c E2_f E2_z
 clear E3_c E3_f E3_z
 clear E4_c E4_f E4_z
 clear E5_c E5_f E5_z
 clear E6_c E6_f E6_z
 with_reducible refine (HC7.out _ _ (HA.out _ hbw)).mono ?_
 rintro e w13 ⟨v7,rfl,hh7,hbk⟩
 obtain⟨of7,n7,kf7,or7,r7,kr7,om7,m7,km7,og7,q7,kg7,t7,d7,s7,rfl⟩:=hh7.form
 replace D0:=D0.below hbk
 replace DC:=DC.below hbk
 replace E1:=E1.below hbk
 replace E2:=E2.below hbk
 replace E3:=E3.below hbk
 replace E4:=E4.below hbk
 replace E5:=E5.below hbk
 replace E6:=E6.below hbk
 replace hh1:=hh1.below hbk
 replace hh2:=hh2.below hbk
 replace hh3:=hh3.below hbk
 replace hh4:=hh4.below hbk
 replace hh5:=hh5.below hbk
 replace hh6:=hh6.below hbk
 replace hbw:=hbw.trans (hbk.mono hbw.size)
 clear hbk
 obtain⟨D0_c,D0_f,D0_z⟩:=D0.all
 obtain⟨DC_c,DC_f,DC_z⟩:=DC.all
 obtain⟨E1_c,E1_f,E1_z⟩:=E1.all
 obtain⟨E2_c,E2_f,E2_z⟩:=E2.all
 obtain⟨E3_c,E3_f,E3_z⟩:=E3.all
 obtain⟨E4_c,E4_f,E4_z⟩:=E4.all
 obtain⟨E5_c,E5_f,E5_z⟩:=E5.all
 obtain⟨E6_c,E6_f,E6_z⟩:=E6.all
 go_upto_region 8 with (fail)
 clear D0_c D0_f D0_z
 clear DC_c DC_f DC_z
 clear E1_c E1_f E1_z
 clear E2_c E2_f E2_z
 clear E3_c E3_f E3_z
 clear E4_c E4_f E4_z
 clear E5_c E5_f E5_z
 clear E6_c E6_f E6_z
 have hbx:Below w13.heap.size w13 (w13.alloc (.cells #[.slice of7 n7 kf7,.slice or7 r7 kr7,.slice om7 m7 km7,.slice og7 q7 kg7,.int .i64 t7,.int .u64 d7,.int .i64 s7] 30)):=(Below.refl _ _).alloc (nlr _) _
 have hwE7:=hbw.size
 have lD0:=D0.lt
 have lDC:=DC.lt
 have lE1:=E1.lt
 have lE2:=E2.lt
 have lE3:=E3.lt
 have lE4:=E4.lt
 have lE5:=E5.lt
 have lE6:=E6.lt
 replace D0:=D0.below hbx
 replace DC:=DC.below hbx
 replace E1:=E1.below hbx
 replace E2:=E2.below hbx
 replace E3:=E3.below hbx
 replace E4:=E4.below hbx
 replace E5:=E5.below hbx
 replace E6:=E6.below hbx
 replace hh1:=hh1.below hbx
 replace hh2:=hh2.below hbx
 replace hh3:=hh3.below hbx
 replace hh4:=hh4.below hbx
 replace hh5:=hh5.below hbx
 replace hh6:=hh6.below hbx
 replace hh7:=hh7.below hbx
 have E7:=HasBlock.made w13 #[.slice of7 n7 kf7,.slice or7 r7 kr7,.slice om7 m7 km7,.slice og7 q7 kg7,.int .i64 t7,.int .u64 d7,.int .i64 s7] 30
 replace hbw:=hbw.trans (hbx.mono hbw.size)
 clear hbx
 obtain⟨B7,hB⟩:∃ B,w13.heap.size=B:=⟨_,rfl⟩
 rw[hB] at E7 hwE7 ⊢
 rw[hB] at lD0
 rw[hB] at lDC
 rw[hB] at lE1
 rw[hB] at lE2
 rw[hB] at lE3
 rw[hB] at lE4
 rw[hB] at lE5
 rw[hB] at lE6
 generalize hW:w13.alloc (.cells #[.slice of7 n7 kf7,.slice or7 r7 kr7,.slice om7 m7 km7,.slice og7 q7 kg7,.int .i64 t7,.int .u64 d7,.int .i64 s7] 30)=w14 at D0 DC E1 E2 E3 E4 E5 E6 E7 hh1 hh2 hh3 hh4 hh5 hh6 hh7 hbw ⊢
 clear hW hB
 clear hwE7
 obtain⟨D0_c,D0_f,D0_z⟩:=D0.all
 obtain⟨DC_c,DC_f,DC_z⟩:=DC.all
 obtain⟨E1_c,E1_f,E1_z⟩:=E1.all
 obtain⟨E2_c,E2_f,E2_z⟩:=E2.all
 obtain⟨E3_c,E3_f,E3_z⟩:=E3.all
 obtain⟨E4_c,E4_f,E4_z⟩:=E4.all
 obtain⟨E5_c,E5_f,E5_z⟩:=E5.all
 obtain⟨E6_c,E6_f,E6_z⟩:=E6.all
 obtain⟨E7_c,E7_f,E7_z⟩:=E7.all
 go_wp2_with fail
 clear D0_c D0_f D0_z
 clear DC_c DC_f DC_z
 clear E1_c E1_f E1_z
 clear E2_c E2_f E2_z
 clear E3_c E3_f E3_z
 clear E4_c E4_f E4_z
 clear E5_c E5_f E5_z
 clear E6_c E6_f E6_z
 clear E7_c E7_f E7_z
 with_reducible refine (HC8.out _ _ (HA.out _ hbw)).mono ?_
 rintro e w15 ⟨v8,rfl,hh8,hbk⟩
 obtain⟨of8,n8,kf8,or8,r8,kr8,om8,m8,km8,og8,q8,kg8,t8,d8,s8,rfl⟩:=hh8.form
 replace D0:=D0.below hbk
 replace DC:=DC.below hbk
 replace E1:=E1.below hbk
 replace E2:=E2.below hbk
 replace E3:=E3.below hbk
 replace E4:=E4.below hbk
 replace E5:=E5.below hbk
 replace E6:=E6.below hbk
 replace E7:=E7.below hbk
 replace hh1:=hh1.below hbk
 replace hh2:=hh2.below hbk
 replace hh3:=hh3.below hbk
 replace hh4:=hh4.below hbk
 replace hh5:=hh5.below hbk
 replace hh6:=hh6.below hbk
 replace hh7:=hh7.below hbk
 replace hbw:=hbw.trans (hbk.mono hbw.size)
 clear hbk
 obtain⟨D0_c,D0_f,D0_z⟩:=D0.all
 obtain⟨DC_c,DC_f,DC_z⟩:=DC.all
 obtain⟨E1_c,E1_f,E1_z⟩:=E1.all
 obtain⟨E2_c,E2_f,E2_z⟩:=E2.all
 obtain⟨E3_c,E3_f,E3_z⟩:=E3.all
 obtain⟨E4_c,E4_f,E4_z⟩:=E4.all
 obtain⟨E5_c,E5_f,E5_z⟩:=E5.all
 obtain⟨E6_c,E6_f,E6_z⟩:=E6.all
 obtain⟨E7_c,E7_f,E7_z⟩:=E7.all
 go_upto_region 9 with (fail)
 clear D0_c D0_f D0_z
 clear DC_c DC_f DC_z
 clear E1_c E1_f E1_z
 clear E2_c E2_f E2_z
 clear E3_c E3_f E3_z
 clear E4_c E4_f E4_z
 clear E5_c E5_f E5_z
 clear E6_c E6_f E6_z
 clear E7_c E7_f E7_z
 have hbx:Below w15.heap.size w15 (w15.alloc (.cells #[.slice of8 n8 kf8,.slice or8 r8 kr8,.slice om8 m8 km8,.slice og8 q8 kg8,.int .i64 t8,.int .u64 d8,.int .i64 s8] 30)):=(Below.refl _ _).alloc (nlr _) _
 have hwE8:=hbw.size
 have lD0:=D0.lt
 have lDC:=DC.lt
 have lE1:=E1.lt
 have lE2:=E2.lt
 have lE3:=E3.lt
 have lE4:=E4.lt
 have lE5:=E5.lt
 have lE6:=E6.lt
 have lE7:=E7.lt
 replace D0:=D0.below hbx
 replace DC:=DC.below hbx
 replace E1:=E1.below hbx
 replace E2:=E2.below hbx
 replace E3:=E3.below hbx
 replace E4:=E4.below hbx
 replace E5:=E5.below hbx
 replace E6:=E6.below hbx
 replace E7:=E7.below hbx
 replace hh1:=hh1.below hbx
 replace hh2:=hh2.below hbx
 replace hh3:=hh3.below hbx
 replace hh4:=hh4.below hbx
 replace hh5:=hh5.below hbx
 replace hh6:=hh6.below hbx
 replace hh7:=hh7.below hbx
 replace hh8:=hh8.below hbx
 have E8:=HasBlock.made w15 #[.slice of8 n8 kf8,.slice or8 r8 kr8,.slice om8 m8 km8,.slice og8 q8 kg8,.int .i64 t8,.int .u64 d8,.int .i64 s8] 30
 replace hbw:=hbw.trans (hbx.mono hbw.size)
 clear hbx
 obtain⟨B8,hB⟩:∃ B,w15.heap.size=B:=⟨_,rfl⟩
 rw[hB] at E8 hwE8 ⊢
 rw[hB] at lD0
 rw[hB] at lDC
 rw[hB] at lE1
 rw[hB] at lE2
 rw[hB] at lE3
 rw[hB] at lE4
 rw[hB] at lE5
 rw[hB] at lE6
 rw[hB] at lE7
 generalize hW:w15.alloc (.cells #[.slice of8 n8 kf8,.slice or8 r8 kr8,.slice om8 m8 km8,.slice og8 q8 kg8,.int .i64 t8,.int .u64 d8,.int .i64 s8] 30)=w16 at D0 DC E1 E2 E3 E4 E5 E6 E7 E8 hh1 hh2 hh3 hh4 hh5 hh6 hh7 hh8 hbw ⊢
 clear hW hB
 clear hwE8
 have HAX:Hid (∀ w':World,Below w16.heap.size w16 w'→HoAt w' (.agg #[.slice of n kf,.slice or' r kr,.slice om m km,.slice og q kg,.int .i64 tx,.int .u64 dx,.int .i64 sx]) H):=lh (fun w' hb=>HA.out w' (hbw.trans (hb.mono hbw.size)))
 go_cut [123] from 91 to 124 (fun b wx=>b=.bool false∧Below w16.heap.size w16 wx)
 case first =>
  have hrule:∀ w':World,Below w16.heap.size w16 w'→∀ b o,b<w16.heap.size→w'.cell? ⟨b,o,none⟩=w16.cell? ⟨b,o,none⟩:=fun w' h b o hlt=>h.cell (p:=⟨b,o,none⟩) hlt
  obtain⟨D0_c,D0_f,D0_z⟩:=D0.all
  go_region_held3 (fun w'=>Below w16.heap.size w16 w') (repeat' (first|(with_reducible first|assumption|exact Below.refl _ _|refine Below.drew ?_|refine Below.alloc' ?_ (nlr _) _|refine Below.setCell ?_ ?_ _)|refine Below.trans ?_ (Below.mono (by with_reducible assumption) ?_)|exact rfl|exact nlr _|omega|(simp only[sizes];done)|(simp only[sizes];omega))) ((first
   |
    (go_at_call 32
     with_reducible refine (HC11.out _ _ (HAX.out _ bel3)).mono ?_
     rintro e w51 ⟨rfl,hb51⟩
     obtain⟨hc51,hf51⟩:=bcell hb51
     have hzz51:=bsize hb51
     (try simp only[sizes1] at hzz51)
     (try simp only[sizes] at hc51 hf51))
   |
    (go_at_call 33
     with_reducible refine (HC12.out _ _ (HAX.out _ bel3)).mono ?_
     rintro e w52 ⟨rfl,hb52⟩
     obtain⟨hc52,hf52⟩:=bcell hb52
     have hzz52:=bsize hb52
     (try simp only[sizes1] at hzz52)
     (try simp only[sizes] at hc52 hf52))
   |
    (go_at_call 18
     with_reducible refine (HC13.out _ _ (HAX.out _ bel3)).mono ?_
     rintro e w53 ⟨rfl,hb53⟩
     obtain⟨hc53,hf53⟩:=bcell hb53
     have hzz53:=bsize hb53
     (try simp only[sizes1] at hzz53)
     (try simp only[sizes] at hc53 hf53))
   |
    (go_at_call 34
     with_reducible refine (HC14.out _ _ (HAX.out _ bel3)).mono ?_
     rintro e w54 ⟨rfl,hb54⟩
     obtain⟨hc54,hf54⟩:=bcell hb54
     have hzz54:=bsize hb54
     (try simp only[sizes1] at hzz54)
     (try simp only[sizes] at hc54 hf54))
   |
    (go_at_call 19
     with_reducible refine (HC15.out _ _ (HAX.out _ bel3)).mono ?_
     rintro e w55 ⟨rfl,hb55⟩
     obtain⟨hc55,hf55⟩:=bcell hb55
     have hzz55:=bsize hb55
     (try simp only[sizes1] at hzz55)
     (try simp only[sizes] at hc55 hf55))
   |
    (go_at_call 35
     with_reducible refine (HC16.out _ _ (HAX.out _ bel3)).mono ?_
     rintro e w56 ⟨rfl,hb56⟩
     obtain⟨hc56,hf56⟩:=bcell hb56
     have hzz56:=bsize hb56
     (try simp only[sizes1] at hzz56)
     (try simp only[sizes] at hc56 hf56))
   |
    (go_at_call 36
     with_reducible refine (HC9.out _ _ (HAX.out _ bel3)).mono ?_
     rintro e w57 ⟨v57,rfl,hs57,hb57⟩
     obtain⟨of57,n57,kf57,or57,r57,kr57,om57,m57,km57,og57,q57,kg57,t57,d57,s57,rfl⟩:=hs57.form
     have HS57:=lh (fun (w':World) (h:Below w57.heap.size w57 w')=>hs57.below h)
     clear hs57
     obtain⟨hc57,hf57⟩:=bcell hb57
     have hzz57:=bsize hb57
     (try simp only[sizes1] at hzz57)
     (try simp only[sizes] at hc57 hf57))
   |
    (go_at_call 37
     with_reducible refine (HC10.out _ _ (HAX.out _ bel3)).mono ?_
     rintro e w58 ⟨v58,rfl,hs58,hb58⟩
     obtain⟨of58,n58,kf58,or58,r58,kr58,om58,m58,km58,og58,q58,kg58,t58,d58,s58,rfl⟩:=hs58.form
     have HS58:=lh (fun (w':World) (h:Below w58.heap.size w58 w')=>hs58.below h)
     clear hs58
     obtain⟨hc58,hf58⟩:=bcell hb58
     have hzz58:=bsize hb58
     (try simp only[sizes1] at hzz58)
     (try simp only[sizes] at hc58 hf58))
   |
    (go_at_call 9
     with_reducible refine (rsame_any _ _ K5 _ (HS57.out _ bel3) (HS58.out _ bel3)).mono ?_
     rintro e w59 ⟨rfl,hb59⟩
     obtain⟨hc59,hf59⟩:=bcell hb59
     have hzz59:=bsize hb59
     (try simp only[sizes1] at hzz59)
     (try simp only[sizes] at hc59 hf59))))
  all_goals
   clear D0_c D0_f D0_z hrule
   go_wp2_with fail
   go_meet
   exact⟨rfl,by (repeat' (first|(with_reducible first|assumption|exact Below.refl _ _|refine Below.drew ?_|refine Below.alloc' ?_ (nlr _) _|refine Below.setCell ?_ ?_ _)|refine Below.trans ?_ (Below.mono (by with_reducible assumption) ?_)|exact rfl|exact nlr _|omega|(simp only[sizes];done)|(simp only[sizes];omega)))⟩
 case rest =>
  obtain⟨rfl,hb9⟩:=hcut
  replace D0:=D0.below hb9
  replace DC:=DC.below hb9
  replace E1:=E1.below hb9
  replace E2:=E2.below hb9
  replace E3:=E3.below hb9
  replace E4:=E4.below hb9
  replace E5:=E5.below hb9
  replace E6:=E6.below hb9
  replace E7:=E7.below hb9
  replace E8:=E8.below hb9
  replace hh1:=hh1.below hb9
  replace hh2:=hh2.below hb9
  replace hh3:=hh3.below hb9
  replace hh4:=hh4.below hb9
  replace hh5:=hh5.below hb9
  replace hh6:=hh6.below hb9
  replace hh7:=hh7.below hb9
  replace hh8:=hh8.below hb9
  replace hbw:=hbw.trans (hb9.mono hbw.size)
  clear hb9
  obtain⟨D0_c,D0_f,D0_z⟩:=D0.all
  obtain⟨DC_c,DC_f,DC_z⟩:=DC.all
  obtain⟨E1_c,E1_f,E1_z⟩:=E1.all
  obtain⟨E2_c,E2_f,E2_z⟩:=E2.all
  obtain⟨E3_c,E3_f,E3_z⟩:=E3.all
  obtain⟨E4_c,E4_f,E4_z⟩:=E4.all
  obtain⟨E5_c,E5_f,E5_z⟩:=E5.all
  obtain⟨E6_c,E6_f,E6_z⟩:=E6.all
  obtain⟨E7_c,E7_f,E7_z⟩:=E7.all
  obtain⟨E8_c,E8_f,E8_z⟩:=E8.all
  go_wp2_with fail
  clear D0_c D0_f D0_z
  clear DC_c DC_f DC_z
  clear E1_c E1_f E1_z
  clear E2_c E2_f E2_z
  clear E3_c E3_f E3_z
  clear E4_c E4_f E4_z
  clear E5_c E5_f E5_z
  clear E6_c E6_f E6_z
  clear E7_c E7_f E7_z
  clear E8_c E8_f E8_z
  with_reducible refine (rsame_any _ _ K1 _ hh1 hh2).mono ?_
  rintro e w61 ⟨rfl,hbk⟩
  replace D0:=D0.below hbk
  replace DC:=DC.below hbk
  replace E1:=E1.below hbk
  replace E2:=E2.below hbk
  replace E3:=E3.below hbk
  replace E4:=E4.below hbk
  replace E5:=E5.below hbk
  replace E6:=E6.below hbk
  replace E7:=E7.below hbk
  replace E8:=E8.below hbk
  replace hh1:=hh1.below hbk
  replace hh2:=hh2.below hbk
  replace hh3:=hh3.below hbk
  replace hh4:=hh4.below hbk
  replace hh5:=hh5.below hbk
  replace hh6:=hh6.below hbk
  replace hh7:=hh7.below hbk
  replace hh8:=hh8.below hbk
  replace hbw:=hbw.trans (hbk.mono hbw.size)
  clear hbk
  obtain⟨D0_c,D0_f,D0_z⟩:=D0.all
  obtain⟨DC_c,DC_f,DC_z⟩:=DC.all
  obtain⟨E1_c,E1_f,E1_z⟩:=E1.all
  obtain⟨E2_c,E2_f,E2_z⟩:=E2.all
  obtain⟨E3_c,E3_f,E3_z⟩:=E3.all
  obtain⟨E4_c,E4_f,E4_z⟩:=E4.all
  obtain⟨E5_c,E5_f,E5_z⟩:=E5.all
  obtain⟨E6_c,E6_f,E6_z⟩:=E6.all
  obtain⟨E7_c,E7_f,E7_z⟩:=E7.all
  obtain⟨E8_c,E8_f,E8_z⟩:=E8.all
  go_wp2_with fail
  clear D0_c D0_f D0_z
  clear DC_c DC_f DC_z
  clear E1_c E1_f E1_z
  clear E2_c E2_f E2_z
  clear E3_c E3_f E3_z
  clear E4_c E4_f E4_z
  clear E5_c E5_f E5_z
  clear E6_c E6_f E6_z
  clear E7_c E7_f E7_z
  clear E8_c E8_f E8_z
  with_reducible refine (rsame_any _ _ K2 _ hh3 hh4).mono ?_
  rintro e w62 ⟨rfl,hbk⟩
  replace D0:=D0.below hbk
  replace DC:=DC.below hbk
  replace E1:=E1.below hbk
  replace E2:=E2.below hbk
  replace E3:=E3.below hbk
  replace E4:=E4.below hbk
  replace E5:=E5.below hbk
  replace E6:=E6.below hbk
  replace E7:=E7.below hbk
  replace E8:=E8.below hbk
  replace hh1:=hh1.below hbk
  replace hh2:=hh2.below hbk
  replace hh3:=hh3.below hbk
  replace hh4:=hh4.below hbk
  replace hh5:=hh5.below hbk
  replace hh6:=hh6.below hbk
  replace hh7:=hh7.below hbk
  replace hh8:=hh8.below hbk
  replace hbw:=hbw.trans (hbk.mono hbw.size)
  clear hbk
  obtain⟨D0_c,D0_f,D0_z⟩:=D0.all
  obtain⟨DC_c,DC_f,DC_z⟩:=DC.all
  obtain⟨E1_c,E1_f,E1_z⟩:=E1.all
  obtain⟨E2_c,E2_f,E2_z⟩:=E2.all
  obtain⟨E3_c,E3_f,E3_z⟩:=E3.all
  obtain⟨E4_c,E4_f,E4_z⟩:=E4.all
  obtain⟨E5_c,E5_f,E5_z⟩:=E5.all
  obtain⟨E6_c,E6_f,E6_z⟩:=E6.all
  obtain⟨E7_c,E7_f,E7_z⟩:=E7.all
  obtain⟨E8_c,E8_f,E8_z⟩:=E8.all
  go_wp2_with fail
  clear D0_c D0_f D0_z
  clear DC_c DC_f DC_z
  clear E1_c E1_f E1_z
  clear E2_c E2_f E2_z
  clear E3_c E3_f E3_z
  clear E4_c E4_f E4_z
  clear E5_c E5_f E5_z
  clear E6_c E6_f E6_z
  clear E7_c E7_f E7_z
  clear E8_c E8_f E8_z
  with_reducible refine (rsame_any _ _ K3 _ hh5 hh6).mono ?_
  rintro e w63 ⟨rfl,hbk⟩
  replace D0:=D0.below hbk
  replace DC:=DC.below hbk
  replace E1:=E1.below hbk
  replace E2:=E2.below hbk
  replace E3:=E3.below hbk
  replace E4:=E4.below hbk
  replace E5:=E5.below hbk
  replace E6:=E6.below hbk
  replace E7:=E7.below hbk
  replace E8:=E8.below hbk
  replace hh1:=hh1.below hbk
  replace hh2:=hh2.below hbk
  replace hh3:=hh3.below hbk
  replace hh4:=hh4.below hbk
  replace hh5:=hh5.below hbk
  replace hh6:=hh6.below hbk
  replace hh7:=hh7.below hbk
  replace hh8:=hh8.below hbk
  replace hbw:=hbw.trans (hbk.mono hbw.size)
  clear hbk
  obtain⟨D0_c,D0_f,D0_z⟩:=D0.all
  obtain⟨DC_c,DC_f,DC_z⟩:=DC.all
  obtain⟨E1_c,E1_f,E1_z⟩:=E1.all
  obtain⟨E2_c,E2_f,E2_z⟩:=E2.all
  obtain⟨E3_c,E3_f,E3_z⟩:=E3.all
  obtain⟨E4_c,E4_f,E4_z⟩:=E4.all
  obtain⟨E5_c,E5_f,E5_z⟩:=E5.all
  obtain⟨E6_c,E6_f,E6_z⟩:=E6.all
  obtain⟨E7_c,E7_f,E7_z⟩:=E7.all
  obtain⟨E8_c,E8_f,E8_z⟩:=E8.all
  go_wp2_with fail
  clear D0_c D0_f D0_z
  clear DC_c DC_f DC_z
  clear E1_c E1_f E1_z
  clear E2_c E2_f E2_z
  clear E3_c E3_f E3_z
  clear E4_c E4_f E4_z
  clear E5_c E5_f E5_z
  clear E6_c E6_f E6_z
  clear E7_c E7_f E7_z
  clear E8_c E8_f E8_z
  with_reducible refine (rsame_any _ _ K4 _ hh7 hh8).mono ?_
  rintro e w64 ⟨rfl,hbk⟩
  replace D0:=D0.below hbk
  replace DC:=DC.below hbk
  replace E1:=E1.below hbk
  replace E2:=E2.below hbk
  replace E3:=E3.below hbk
  replace E4:=E4.below hbk
  replace E5:=E5.below hbk
  replace E6:=E6.below hbk
  replace E7:=E7.below hbk
  replace E8:=E8.below hbk
  replace hh1:=hh1.below hbk
  replace hh2:=hh2.below hbk
  replace hh3:=hh3.below hbk
  replace hh4:=hh4.below hbk
  replace hh5:=hh5.below hbk
  replace hh6:=hh6.below hbk
  replace hh7:=hh7.below hbk
  replace hh8:=hh8.below hbk
  replace hbw:=hbw.trans (hbk.mono hbw.size)
  clear hbk
  obtain⟨D0_c,D0_f,D0_z⟩:=D0.all
  obtain⟨DC_c,DC_f,DC_z⟩:=DC.all
  obtain⟨E1_c,E1_f,E1_z⟩:=E1.all
  obtain⟨E2_c,E2_f,E2_z⟩:=E2.all
  obtain⟨E3_c,E3_f,E3_z⟩:=E3.all
  obtain⟨E4_c,E4_f,E4_z⟩:=E4.all
  obtain⟨E5_c,E5_f,E5_z⟩:=E5.all
  obtain⟨E6_c,E6_f,E6_z⟩:=E6.all
  obtain⟨E7_c,E7_f,E7_z⟩:=E7.all
  obtain⟨E8_c,E8_f,E8_z⟩:=E8.all
  go_wp2_with fail
  clear D0_c D0_f D0_z
  clear DC_c DC_f DC_z
  clear E1_c E1_f E1_z
  clear E2_c E2_f E2_z
  clear E3_c E3_f E3_z
  clear E4_c E4_f E4_z
  clear E5_c E5_f E5_z
  clear E6_c E6_f E6_z
  clear E7_c E7_f E7_z
  clear E8_c E8_f E8_z
  go_ret
  exact Ret.mk hbw
theorem and_i64_bd (x c:Int) (h0:0≤x) (h1:x<9223372036854775808) (hc0:0≤c) (hc:c<9223372036854775808):0≤bits .and .i64 x c∧bits .and .i64 x c≤c:=by
 obtain⟨c,rfl⟩:∃ m:Nat,c=m:=⟨c.toNat,by omega⟩
 obtain⟨m,rfl⟩:∃ m:Nat,x=m:=⟨x.toNat,by omega⟩
 have hx:m &&& c≤c:=Nat.and_le_right
 have e:bits .and .i64 (m:Int) (c:Int)=((m &&& c:Nat):Int):=by
  show IntKind.i64.wrap ((BitVec.ofInt 64 (m:Int) &&& BitVec.ofInt 64 (c:Int)).toNat:Int)=_
  have e1:(BitVec.ofInt 64 (m:Int)).toNat=m:=by rw[BitVec.ofInt_natCast,BitVec.toNat_ofNat];exact Nat.mod_eq_of_lt (by omega)
  have e2:(BitVec.ofInt 64 (c:Int)).toNat=c:=by rw[BitVec.ofInt_natCast,BitVec.toNat_ofNat];exact Nat.mod_eq_of_lt (by omega)
  rw[BitVec.toNat_and,e1,e2,IntKind.wrap_i64]
  omega
 rw[e]
 omega
def claimV (v:Int):Clm :=
 { r:=1+bits .and .i64 v 1,s:=1+bits .and .i64 (v / 8) 63,p:=0,a:=bits .and .i64 (v / 512) 511,l:=1+bits .and .i64 v 1+bits .and .i64 (v / 262144) 7 }
def claimI (n:Int):Clm:=claimV (mixI n 41)
theorem claimV_ok (v:Int) (h0:0≤v) (h1:v<9223372036854775808):validB (claimV v)=true∧(claimV v).p=0∧1≤(claimV v).r∧(claimV v).r≤2∧(claimV v).l≤9:=by
 have b1:=and_i64_bd v 1 h0 h1 (by omega) (by omega)
 have b2:=and_i64_bd (v / 8) 63 (by omega) (by omega) (by omega) (by omega)
 have b3:=and_i64_bd (v / 512) 511 (by omega) (by omega) (by omega) (by omega)
 have b4:=and_i64_bd (v / 262144) 7 (by omega) (by omega) (by omega) (by omega)
 rw[validB_iff]
 unfold claimV
 dsimp only
 omega
theorem claimI_ok (n:Int):validB (claimI n)=true∧(claimI n).p=0∧1≤(claimI n).r∧(claimI n).r≤2∧(claimI n).l≤9:=claimV_ok _ (mixI_bd n 41).1 (mixI_bd n 41).2
set_option maxHeartbeats 1000000 in
theorem claim_any (n:Int) (w:World):Calls Tryz.prog 13 #[.int .i64 n] w (Ret w (.agg #[.int .i64 (claimI n).r,.int .i64 (claimI n).l,.int .i64 (claimI n).s,.int .i64 (claimI n).p,.int .i64 (claimI n).a])):=by
 obtain⟨v,hv⟩:∃ v,mixI n 41=v:=⟨_,rfl⟩
 have hb:=mixI_bd n 41
 have hm:=mix_any n 41
 unfold claimI
 rw[hv] at hb hm ⊢
 have HM:=lh hm;clear hm hv
 have b1:=and_i64_bd v 1 hb.1 hb.2 (by omega) (by omega)
 have b2:=and_i64_bd (v / 8) 63 (by omega) (by omega) (by omega) (by omega)
 have b3:=and_i64_bd (v / 512) 511 (by omega) (by omega) (by omega) (by omega)
 have b4:=and_i64_bd (v / 262144) 7 (by omega) (by omega) (by omega) (by omega)
 go_enter Tryz.func13,Tryz.ntmps13
 go_wp2_with fail
 refine (HM.out _).mono ?_
 rintro e w1 ⟨rfl,hb1⟩
 obtain⟨hc1,hf1⟩:=bcell hb1
 have hz1:=bsize hb1
 try simp only[sizes1] at hz1
 try simp only[sizes] at hc1 hf1
 have hB1:w.heap.size<w1.heap.size:=by omega
 go_wp2
 exact bodyPost_ret (v:=.agg #[.int .i64 (claimV v).r,.int .i64 (claimV v).l,.int .i64 (claimV v).s,.int .i64 (claimV v).p,.int .i64 (claimV v).a]) (by simp [results,Tryz.results13,go_sem,hB1,hc1,claimV]) rfl (Ret.mk bel)
set_option maxHeartbeats 1000000 in
theorem round_nat (n k:Nat) (w:World) (hk:1≤k) (hn:n≤9223372036854775807) (hk':k≤9223372036854775807):Calls Tryz.prog 14 #[.int .i64 n,.int .i64 k] w (Ret w (.int .i64 ((n % k:Nat):Int))):=by
 have hk0:((k:Int) == 0)=false:=by rw[beq_eq_false_iff_ne];omega
 have hk1:(k == 0)=false:=by rw[beq_eq_false_iff_ne];omega
 have hm:(n:Int).tmod k=((n % k:Nat):Int):=by
  rw[Int.tmod_eq_emod_of_nonneg (by omega)]
  exact (Int.natCast_emod _ _).symm
 obtain⟨r,hr⟩:∃ r,n % k=r:=⟨_,rfl⟩
 have hr2:r<k:=by rw[←hr];exact Nat.mod_lt _ (by omega)
 rw[hr] at hm ⊢
 clear hr
 go_enter Tryz.func14,Tryz.ntmps14
 go_wp2
 go_ret
 exact Ret.mk bel
def atI (ls:List Int) (i:Nat):Int:=if ls.length=0 then 0 else (ls[i % ls.length]?).getD 0
theorem atI_mem {ls:List Int} {i:Nat} (h:ls.length≠0):ls[i % ls.length]?=some (atI ls i):=by
 obtain⟨x,hx⟩:=get_lt (xs:=ls) (k:=i % ls.length) (Nat.mod_lt _ (by omega))
 unfold atI
 rw[if_neg h,hx]
 rfl
set_option maxHeartbeats 1000000 in
theorem at_any (va:Value) (ls:List Int) (i:Nat) (w:World) (h:NumRow w va ls) (hi:i≤1000):Calls Tryz.prog 38 #[va,.int .i64 i] w (Ret w (.int .i64 (atI ls i))):=by
 obtain⟨ao,ca,rfl,a1,a2,_⟩:=h.out
 unfold maxLen at a2
 by_cases h0:ls.length=0
 · have e:atI ls i=0:=if_pos h0
   rw[e]
   rw[h0] at a1 ⊢
   go_enter Tryz.func38,Tryz.ntmps38
   go_wp2
   go_ret
   exact Ret.mk bel
 · have hx:=atI_mem (i:=i) h0
   obtain⟨N,hN⟩:∃ N,ls.length=N:=⟨_,rfl⟩
   rw[hN] at h h0 a1 hx ⊢
   clear hN
   obtain⟨x,hxx⟩:∃ x,atI ls i=x:=⟨_,rfl⟩
   rw[hxx] at hx ⊢
   have RN:=fun w=>round_nat i N w (by omega) (by omega) (by omega)
   obtain⟨j,hj⟩:∃ j,i % N=j:=⟨_,rfl⟩
   have hjN:j<N:=by rw[←hj];exact Nat.mod_lt _ (by omega)
   rw[hj] at RN hx
   have HRN:=lh RN;clear RN hj hxx
   obtain⟨b,off,rfl,hb,hc⟩:=EncRow.elem (enc:=Value.int .i64) h hx
   clear hx h
   have n0:((N:Int) == 0)=false:=by rw[beq_eq_false_iff_ne];omega
   have n1:(N == 0)=false:=by rw[beq_eq_false_iff_ne];omega
   have j0:(0:Int)≤(j:Int):=by omega
   have jN:(j:Int)<(N:Int):=by omega
   go_enter Tryz.func38,Tryz.ntmps38
   go_wp2_with fail
   refine (HRN.out _).mono ?_
   rintro e w1 ⟨rfl,hb1⟩
   have hc1:=(hb1.cell (p:=⟨b,off+j,none⟩) hb).trans hc
   go_wp2_with fail
   go_ret
   exact Ret.mk hb1
theorem newHo_ok {n:Nat} {t d:Int} (h1:1≤n) (h2:n≤96) (ht:0≤t∧t≤99) (hd:0≤d∧d<18446744073709551616):(newHo n t d).Ok:=by
 have hp:=(fill_eq h1 h2).2.2.2.1
 have he:=fresh_eq h1 h2
 refine ⟨hp,?_,ht,hd,fun i g l hg _=>?_,?_,?_⟩
 · show ([]:List Gm).length=(newPl n).M.length
   rw[he]
   rfl
 · change ([]:List Gm)[i]?=some g at hg
   simp at hg
 · show sumR []≤((newPl n).F.length:Int)
   unfold sumR
   simp
 · show (0:Int)≤0∧(0:Int)<max (lenM (newPl n).M:Int) 1
   omega
def madeH (n:Nat) (t:Int) (ls:List Int):Nat→Ho
 | 0=>newHo n t 5
 | k+1=>(madeH n t ls k).addG (claimI (atI ls k)) 6
structure Fresh (n:Nat) (ls:List Int) (k:Nat) (H:Ho):Prop where
 ok:H.Ok
 f:H.P.F.length=n
 g:H.G.length=k
 pg:∀ a,a<k→H.P.pages a=List.replicate 6 (-1)
 gm:∀ a,a<k→H.G[a]?=some (newG (claimI (atI ls a)) 6)
 r:0≤sumR H.G∧sumR H.G≤2*k
theorem Fresh.good {n:Nat} {ls:List Int} {k:Nat} {H:Ho} (h:Fresh n ls k H) (hn:6≤n) (hk:k<3) (c:Int):H.addC (claimI c) 6=0:=by
 obtain⟨c1,c2,c3,c4,c5⟩:=claimI_ok c
 unfold Ho.addC
 rw[if_neg,if_neg (by rw[h.g];omega),if_neg (by rw[h.f];have:=h.r;omega)]
 rintro (h|h|h|h)
 · rw[c1] at h;cases h
 · exact h c2
 · omega
 · omega
theorem Fresh.next {n:Nat} {ls:List Int} {k:Nat} {H:Ho} (h:Fresh n ls k H) (hn:6≤n) (hk:k<3) {c:Clm} (hc:claimI (atI ls k)=c):Fresh n ls (k+1) (H.addG c 6):=by
 obtain⟨c1,c2,c3,c4,c5⟩:=claimI_ok (atI ls k)
 rw[hc] at c1 c2 c3 c4 c5
 have hg:=h.g
 have hm:H.P.M.length=k:=by rw[←h.ok.m];exact hg
 have hr:=h.r
 have he:=padd_eq h.ok.p (q:=6) (by omega) (by omega) (by omega)
 have hM:=padd_M h.ok.p (q:=6) (by omega) (by omega) (by omega)
 refine ⟨addG_ok h.ok c1 c2 (by omega) (by omega) (by omega) (by rw[h.f];omega),?_,?_,fun a ha=>?_,fun a ha=>?_,?_⟩
 · show (H.P.add (6:Nat)).F.length=n
   rw[he]
   exact h.f
 · show (H.G++[_]).length=k+1
   rw[List.length_append,hg]
   rfl
 · show (H.P.add (6:Nat)).pages a=_
   unfold Pl.pages
   rw[hM,hm]
   by_cases e:a<k
   · rw[if_pos e]
     exact h.pg a e
   · rw[if_neg e,if_pos (by omega)]
     rfl
 · show (H.G++[_])[a]?=_
   rw[List.getElem?_append,hg]
   by_cases e:a<k
   · rw[if_pos e]
     exact h.gm a e
   · rw[if_neg e]
     have:a=k:=by omega
     subst this
     rw[Nat.sub_self,hc]
     rfl
 · show 0≤sumR (H.G++[_])∧sumR (H.G++[_])≤_
   unfold sumR at hr ⊢
   rw[List.map_append,List.sum_append]
   show 0≤_+(c.r+0)∧_+(c.r+0)≤_
   omega
theorem madeH_fresh {n:Nat} {t:Int} {ls:List Int} (h1:6≤n) (h2:n≤96) (ht:0≤t∧t≤99):∀ k:Nat,k≤3→Fresh n ls k (madeH n t ls k)
 | 0,_=>by
   have he:=fresh_eq (n:=n) (by omega) h2
   refine ⟨newHo_ok (by omega) h2 ht (by omega),?_,rfl,fun a ha=>by omega,fun a ha=>by omega,?_⟩
   · show (newPl n).F.length=n
     rw[he]
     exact List.length_replicate ..
   · show 0≤sumR []∧sumR []≤_
     unfold sumR
     simp
 | k+1,hk=>(madeH_fresh h1 h2 ht k (by omega)).next h1 (by omega) rfl
structure HShape (n:Nat) (ls:List Int) (H:Ho):Prop where
 ok:H.Ok
 f:H.P.F.length=n
 g:H.G.length=3
 pg:∀ a,a<3→(H.P.pages a).length=6
 cl:∀ (a:Nat) (x:Gm),H.G[a]?=some x→x.c.r=(claimI (atI ls a)).r∧x.c.l=(claimI (atI ls a)).l
theorem HShape.kept {n:Nat} {ls:List Int} {H H':Ho} (h:HShape n ls H) (k:HoKept H H'):HShape n ls H' :=
 ⟨k.ok,k.al.f.trans h.f,k.gl.trans h.g,fun a ha=>(k.al.pg a).trans (h.pg a ha),fun a x hx=>by
   obtain⟨y,hy⟩:=get_lt (xs:=H.G) (k:=a) (by rw[←k.gl];exact lt_of_get hx)
   obtain⟨x',hx',e1,e2⟩:=k.cl a y hy
   rw[hx] at hx'
   injection hx' with hx'
   subst hx'
   obtain⟨e3,e4⟩:=h.cl a y hy
   exact⟨e1.trans e3,e2.trans e4⟩⟩
theorem HShape.at_ {n:Nat} {ls:List Int} {H:Ho} (h:HShape n ls H) (a b:Nat):H.P.at a b↔a<3∧b<6:=by
 rw[Pl.at_lt,←h.ok.m,h.g]
 constructor
 · rintro⟨h1,h2⟩
   rw[h.pg a h1] at h2
   exact⟨h1,h2⟩
 · rintro⟨h1,h2⟩
   exact⟨h1,by rw[h.pg a h1];exact h2⟩
theorem Fresh.shape {n:Nat} {ls:List Int} {H:Ho} (h:Fresh n ls 3 H):HShape n ls H :=
 ⟨h.ok,h.f,h.g,fun a ha=>by rw[h.pg a ha,List.length_replicate],fun a x hx=>by
   have ha:a<3:=by rw[←h.g];exact lt_of_get hx
   rw[h.gm a ha] at hx
   injection hx with hx
   subst hx
   exact⟨rfl,rfl⟩⟩
theorem HostAt.fill {base B n r m q:Nat} {w:World} {H:Ho} {of or' om og:Option Addr} {kf kr km kg:Nat} {us:List Value} {gs:List Gv} {t d s:Int} {x0 x1 x2 x3 x4 x5 x6:Value} (hG:H.P.F.length=n∧H.P.R.length=r∧H.P.M.length=m∧H.G.length=q∧H.t=t∧H.d=d∧H.n=s) (D:HasBlock w B #[x0,x1,x2,x3,x4,x5,x6] 30) (O:OwnH base w (.slice of n kf) (.slice or' r kr) (.slice om m km) us (.slice og q kg) gs H) :
    HostAt base B (((((((w.setCell ⟨B,0,none⟩ (.slice of n kf)).setCell ⟨B,1,none⟩ (.slice or' r kr)).setCell ⟨B,2,none⟩ (.slice om m km)).setCell ⟨B,3,none⟩ (.slice og q kg)).setCell ⟨B,4,none⟩ (.int .i64 t)).setCell ⟨B,5,none⟩ (.int .u64 d)).setCell ⟨B,6,none⟩ (.int .i64 s)) H:=by
 obtain⟨h1,h2,h3,h4,h5,h6,h7⟩:=hG
 refine HostAt.mk (us:=us) (gs:=gs) h1 h2 h3 h4 h5 h6 h7 (D.fill7 _ _ _ _ _ _ _) ?_
 have D1:=D.put7_0 (.slice of n kf)
 have D2:=D1.put7_1 (.slice or' r kr)
 have D3:=D2.put7_2 (.slice om m km)
 have D4:=D3.put7_3 (.slice og q kg)
 have D5:=D4.set_at 4 (.int .i64 t)
 have D6:=D5.set_at 5 (.int .u64 d)
 exact ((((((O.setbox D hostT _).setbox D1 hostT _).setbox D2 hostT _).setbox D3 hostT _).setbox D4 hostT _).setbox D5 hostT _).setbox D6 hostT _
theorem HasBlock.fill7z {w:World} {b:Nat} {T:TypeId} {x0 x1 x2 x3 x4 x5 x6 y0 y1 y2 y3 y4 y5 y6:Value} (h:HasBlock w b #[x0,x1,x2,x3,x4,x5,x6] T):HasBlock (((((((w.setCell ⟨b,0,none⟩ y0).setCell ⟨b,1,none⟩ y1).setCell ⟨b,2,none⟩ y2).setCell ⟨b,3,none⟩ y3).setCell ⟨b,4,none⟩ y4).setCell ⟨b,5,none⟩ y5).setCell ⟨b,6,none⟩ y6) b #[y0,y1,y2,y3,y4,y5,y6] T:=h.fill7 _ _ _ _ _ _ _
theorem HasBlock.fill7_ne {w:World} {b B:Nat} {T:TypeId} {cs:Array Value} (h:HasBlock w b cs T) (hne:b≠B) (y0 y1 y2 y3 y4 y5 y6:Value):HasBlock (((((((w.setCell ⟨B,0,none⟩ y0).setCell ⟨B,1,none⟩ y1).setCell ⟨B,2,none⟩ y2).setCell ⟨B,3,none⟩ y3).setCell ⟨B,4,none⟩ y4).setCell ⟨B,5,none⟩ y5).setCell ⟨B,6,none⟩ y6) b cs T :=
 ((((((h.set_ne hne y0).set_ne hne y1).set_ne hne y2).set_ne hne y3).set_ne hne y4).set_ne hne y5).set_ne hne y6
theorem OwnH.fillz {base B:Nat} {w:World} {vf vr vm:Value} {us:List Value} {vg:Value} {gs:List Gv} {H:Ho} {x0 x1 x2 x3 x4 x5 x6:Value} (O:OwnH base w vf vr vm us vg gs H) (D:HasBlock w B #[x0,x1,x2,x3,x4,x5,x6] 30) (y0 y1 y2 y3 y4 y5 y6:Value):OwnH base (((((((w.setCell ⟨B,0,none⟩ y0).setCell ⟨B,1,none⟩ y1).setCell ⟨B,2,none⟩ y2).setCell ⟨B,3,none⟩ y3).setCell ⟨B,4,none⟩ y4).setCell ⟨B,5,none⟩ y5).setCell ⟨B,6,none⟩ y6) vf vr vm us vg gs H:=by
 have D1:=D.put7_0 y0
 have D2:=D1.put7_1 y1
 have D3:=D2.put7_2 y2
 have D4:=D3.put7_3 y3
 have D5:=D4.set_at 4 y4
 have D6:=D5.set_at 5 y5
 exact ((((((O.setbox D hostT _).setbox D1 hostT _).setbox D2 hostT _).setbox D3 hostT _).setbox D4 hostT _).setbox D5 hostT _).setbox D6 hostT _
def NewHost (base:Nat) (K:Nat→World→Prop) (H:Ho) (v:Value) (wx:World):Prop:=∃ B:Nat,v=.pointer (some ⟨B,0,none⟩)∧HostAt base B wx H∧K B wx
theorem HostAt.new {n r m q:Nat} {w:World} {H:Ho} {of or' om og:Option Addr} {kf kr km kg:Nat} {us:List Value} {gs:List Gv} {t d s:Int} {base base':Nat} (hG:H.P.F.length=n∧H.P.R.length=r∧H.P.M.length=m∧H.G.length=q∧H.t=t∧H.d=d∧H.n=s) (O:OwnH base w (.slice of n kf) (.slice or' r kr) (.slice om m km) us (.slice og q kg) gs H) (hb:base'≤base) :
    HostAt base' w.heap.size (w.alloc (.cells #[.slice of n kf,.slice or' r kr,.slice om m km,.slice og q kg,.int .i64 t,.int .u64 d,.int .i64 s] 30)) H:=by
 obtain⟨h1,h2,h3,h4,h5,h6,h7⟩:=hG
 exact HostAt.mk h1 h2 h3 h4 h5 h6 h7 (HasBlock.made w _ _) ((O.lower hb).alloc _)
end Go.Proofs.YtbnngjhnkegliaaGreat
