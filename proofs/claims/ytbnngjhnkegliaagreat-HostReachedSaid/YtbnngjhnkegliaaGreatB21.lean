/-
  Texts joined: HoWrite HoPClear HoPPut. No law is proved here.
-/
import Derived.Test.YtbnngjhnkegliaaGreatB20
namespace Go.Proofs.YtbnngjhnkegliaaGreat
open Go.RowKit
def Ho.clear (H:Ho) (i p:Nat):Ho:=match H.G[i]? with
 | none=>H
 | some g=>H.setG i { g with s:=g.s.set p ⟨#[]⟩ }
theorem clear_ok {H:Ho} (hok:H.Ok) {i p:Nat}:(H.clear i p).Ok∧(H.clear i p).P=H.P:=by
 unfold Ho.clear
 cases hg:H.G[i]? with
 | none=>exact⟨hok,rfl⟩
 | some g =>
   dsimp only
   refine ⟨hok.of hok.p (Pl.Alike.refl _) (List.length_set ..) rfl hok.d hok.n (sumR_set hg rfl) (fun a z hz=>?_),rfl⟩
   change (H.G.set i _)[a]?=some z at hz
   rw[List.getElem?_set] at hz
   by_cases e:i=a
   · subst e
     rw[if_pos rfl,if_pos (lt_of_get hg)] at hz
     injection hz with hz
     subst hz
     obtain⟨a1,a2,a3,a4,a5,a6,a7,a8,a9⟩:=hok.gmP hg
     refine ⟨a1,a2,a3,by rw[List.length_set];exact a4,a5,a6,a7,a8,fun k t hk ht=>?_⟩
     rw[List.getElem?_set] at ht
     by_cases ek:p=k
     · rw[if_pos ek] at ht
       split at ht
       · injection ht with ht
         subst ht
         exact .inl rfl
       · cases ht
     · rw[if_neg ek] at ht
       exact a9 k t hk ht
   · rw[if_neg e] at hz
     exact hok.gmP hz
theorem wok_of_need {P:Pl} (hok:P.Ok) {i p:Nat} (hat:P.at i p) (hf:P.need i p=false) {d:ByteArray} (hd:d.size=128):P.wok i p d=true :=
 wok_of_full (H:=⟨P,[],0,0,0⟩) hok hat (by unfold Ho.full;rw[hf,Bool.and_false]) hd
def WriteTo (H:Ho) (i p:Nat) (d:ByteArray) (H':Ho):Prop:=∃ K,((zeroB d=false∧H.P.need i p=true∧Roomed i p (H.clear i p) K)∨((zeroB d=true∨H.P.need i p=false)∧K=H.clear i p))∧H'=(K.setP (K.P.wr i p d)).mark i p
def RetWrite (i p:Nat) (d:ByteArray) (H:Ho) (w:World) (e:Ending) (w':World):Prop:=∃ H',WriteTo H i p d H'∧RetHoB (fun v=>.tuple #[v,.int .i64 0]) H' w e w'
set_option maxRecDepth 100000 in
set_option maxHeartbeats 8000000 in
theorem hwrite_ok (v:Value) (H:Ho) (i p:Nat) (d:ByteArray) (w:World) (ha:HoAt w v H) (hok:H.Ok) (hat:H.P.at i p) (hd:d.size=128):Calls Tryz.prog 17 #[v,.int .i64 i,.int .i64 p,.string d] w (RetWrite i p d H w):=by
 have CL:=fun v w h=>hclone_ok v H w h hok
 have HS0:=fun v w h=>hhas_ok v H i p w h hok hat
 have HCL:=lh CL;clear CL
 have HHS:=lh HS0;clear HS0
 have hi:=hok.at_lt hat
 obtain⟨g,hg⟩:=get_lt hi
 have hgp:=hok.gmP hg
 obtain⟨l,f,hl,hf⟩:=hat
 have hgo:=hok.g i g l hg hl
 have hat:H.P.at i p:=⟨l,f,hl,hf⟩
 have hp:=lt_of_get hf
 have hll:=hok.p.l l (mem_at hl)
 obtain⟨t,ht⟩:=get_lt (xs:=g.s) (k:=p) (by rw[hgo.ls];exact hp)
 obtain⟨hcl,hclP⟩:=clear_ok hok (i:=i) (p:=p)
 have hcle:H.clear i p=H.setG i { g with s:=g.s.set p ⟨#[]⟩ }:=by unfold Ho.clear;rw[hg]
 have ZC:=fun w=>hzeros_any d w
 have NC:∀ v w,HoAt w v (H.clear i p)→Calls Tryz.prog 46 #[v,.int .i64 i,.int .i64 p] w (Ret w (.bool (H.P.need i p))):=fun v w h=>by
  have:=hneed_ok v (H.clear i p) i p w h hcl.p (by rw[hclP];exact hat)
  rwa[hclP] at this
 obtain⟨of,or',om,og,kf,kr,km,kg,n,r,m,q,tx,dx,sx,HN,HR,HM,HQ,HT,HD,HS,rfl,kf1,kf2,kr1,kr2,km1,km2,kg1,kg2,h⟩:=HoAt.opened ha
 have h0:=h
 have HVA:Hid (∀ w':World,Below w.heap.size w w'→HoAt w' (.agg #[.slice of n kf,.slice or' r kr,.slice om m km,.slice og q kg,.int .i64 tx,.int .u64 dx,.int .i64 sx]) H):=lh (fun w' hb=>by
  have:=(h0.below hb).at_
  rwa[HT.out,HD.out,HS.out] at this)
 clear h h0
 have D1:=(HasBlock.made w #[.slice of n kf,.slice or' r kr,.slice om m km,.slice og q kg,.int .i64 tx,.int .u64 dx,.int .i64 sx] 30).alloc (.cells #[.slice none 0 0,.slice none 0 0,.slice none 0 0,.slice none 0 0,.int .i64 0,.int .u64 0,.int .i64 0] 30)
 have D2:=HasBlock.made (w.alloc (.cells #[.slice of n kf,.slice or' r kr,.slice om m km,.slice og q kg,.int .i64 tx,.int .u64 dx,.int .i64 sx] 30)) #[.slice none 0 0,.slice none 0 0,.slice none 0 0,.slice none 0 0,.int .i64 0,.int .u64 0,.int .i64 0] 30
 rw[World.size_alloc] at D2
 have hbw:Below w.heap.size w ((w.alloc (.cells #[.slice of n kf,.slice or' r kr,.slice om m km,.slice og q kg,.int .i64 tx,.int .u64 dx,.int .i64 sx] 30)).alloc (.cells #[.slice none 0 0,.slice none 0 0,.slice none 0 0,.slice none 0 0,.int .i64 0,.int .u64 0,.int .i64 0] 30)):=bel
 have HOK:=lh hok;clear hok
 have HAT:=lh hat;clear hat
 have HG:=lh hg;clear hg
 have HL:=lh hl;clear hl
 have HF:=lh hf;clear hf
 have HTT:=lh ht;clear ht
 have HCO:=lh hcl;clear hcl
 have HCP:=lh hclP;clear hclP
 have HCE:=lh hcle;clear hcle
 have HZC:=lh ZC;clear ZC
 have HNC:=lh NC;clear NC
 have HDD:=lh hd
 have hd1:((d.size:Int) != 128)=false:=by rw[hd];rfl
 have hd2:(d.size != 128)=false:=by rw[hd];rfl
 clear hd
 have HGO:=lh hgo;clear hgo hgp hi
 have hz0:w.heap.size+1+1=((w.alloc (.cells #[.slice of n kf,.slice or' r kr,.slice om m km,.slice og q kg,.int .i64 tx,.int .u64 dx,.int .i64 sx] 30)).alloc (.cells #[.slice none 0 0,.slice none 0 0,.slice none 0 0,.slice none 0 0,.int .i64 0,.int .u64 0,.int .i64 0] 30)).heap.size:=by simp only[sizes]
 go_enter Tryz.func17,Tryz.ntmps17
 obtain⟨D1_c,D1_f,D1_z⟩:=D1.all
 go_wp2_with fail
 clear D1_c D1_f D1_z
 with_reducible refine (HCL.out _ _ (HVA.out _ hbw)).mono ?_
 rintro e w1 ⟨of1,or1,om1,og1,kf1',kr1',km1',kg1',us1,gs1,rfl,O1,hb1⟩
 rw[HN.out,HR.out,HM.out,HQ.out] at O1 ⊢
 rw[HT.out,HD.out,HS.out]
 replace O1:=O1.lower (base':=w.heap.size+1+1) (Nat.le_of_eq hz0)
 have hz1:=hb1.size
 rw[←hz0] at hz1
 replace D1:=D1.below hb1
 replace D2:=D2.below hb1
 replace hbw:=hbw.trans (hb1.mono hbw.size)
 clear hb1 hz0
 obtain⟨D1_c,D1_f,D1_z⟩:=D1.all
 go_wp2_with fail
 clear D1_c D1_f D1_z
 have hbx:Below w1.heap.size w1 (w1.alloc (.cells #[.slice of1 n kf1',.slice or1 r kr1',.slice om1 m km1',.slice og1 q kg1',.int .i64 tx,.int .u64 dx,.int .i64 sx] 30)):=(Below.refl _ _).alloc (nlr _) _
 have DR:=HasBlock.made w1 #[.slice of1 n kf1',.slice or1 r kr1',.slice om1 m km1',.slice og1 q kg1',.int .i64 tx,.int .u64 dx,.int .i64 sx] 30
 replace D1:=D1.below hbx
 replace D2:=D2.below hbx
 replace O1:=O1.below hbx
 replace hbw:=hbw.trans (hbx.mono hbw.size)
 have hz2:=hbx.size
 clear hbx
 generalize hW:w1.alloc (.cells #[.slice of1 n kf1',.slice or1 r kr1',.slice om1 m km1',.slice og1 q kg1',.int .i64 tx,.int .u64 dx,.int .i64 sx] 30)=w2 at D1 D2 DR O1 hbw hz2 ⊢
 obtain⟨B,hB⟩:∃ B,w1.heap.size=B:=⟨_,rfl⟩
 rw[hB] at DR hz1 hz2 ⊢
 clear hW hB
 have hBA:w.heap.size+1+1≤B:=hz1
 with_reducible refine (HHS.out _ _ (HVA.out _ hbw)).mono ?_
 rintro e w3 ⟨rfl,hb3⟩
 replace D1:=D1.below hb3
 replace D2:=D2.below hb3
 replace DR:=DR.below hb3
 replace O1:=O1.below hb3
 replace hbw:=hbw.trans (hb3.mono hbw.size)
 replace hz2:=Nat.le_trans hz2 hb3.size
 clear hb3
 have hzz:w.heap.size+1+1≤w3.heap.size:=Nat.le_trans hBA hz2
 have hA:HostAt (w.heap.size+1+1) B w3 H:=HostAt.mk HN.out HR.out HM.out HQ.out HT.out HD.out HS.out DR O1
 obtain⟨bG,cG,y,so,sc,uo,uc,eo,ec,e0,b1,b2,hy,ys,yu,ye,_,cg2,_,sc2,_,uc2,_,ec2,cs,cfz⟩:=O1.guest HG.out
 injection e0 with e0 e9 e10
 subst e0 e10
 clear e9
 obtain⟨ys1,yu1,ye1⟩:=y
 dsimp only at ys yu ye
 subst ys yu ye
 obtain⟨rs1,_,_⟩:=O1.r i _ g hy HG.out
 dsimp only at rs1
 have c5:w3.cell? ⟨bG,i*9+5,none⟩=_:=cs 5 _ rfl
 dsimp only at c5
 rw[HGO.out.ls] at c5 rs1 hy
 clear cs cfz
 obtain⟨ql,hql⟩:∃ k,l.length=k:=⟨_,rfl⟩
 rw[hql] at hp c5 hll rs1 hy
 have HQL:=lh hql;clear hql
 have hiq:i<q:=by rw[←HQ.out];exact lt_of_get HG.out
 have i0:(0:Int)≤(i:Int):=by omega
 have iq:(i:Int)<(q:Int):=by omega
 have p0:(0:Int)≤(p:Int):=by omega
 have pq:(p:Int)<(ql:Int):=by omega
 have hii:=isEmpty_iff t
 obtain⟨gS,rfl,gs1',gs2'⟩:=rs1.addr (by rw[HGO.out.ls,HQL.out]) (by omega)
 obtain⟨cS,fS⟩:=rs1.at HTT.out
 have hnSB:gS≠B:=fun e=>own_off rs1 DR (by decide) (by rw[e];rfl)
 have hn1:B≠gS:=fun e=>hnSB e.symm
 have HA:=lh hA;clear hA
 have Oc:=O1.putS HG.out hy rfl p ⟨#[]⟩
 have Dc:=DR.set_ne hn1 (j:=p) (.string ⟨#[]⟩)
 have hAc:=HostAt.mk (H:=H.setG i { g with s:=g.s.set p ⟨#[]⟩ }) HN.out HR.out HM.out ((List.length_set ..).trans HQ.out) HT.out HD.out HS.out Dc Oc
 rw[←HCE.out] at hAc
 rw[←HCE.out] at Oc
 have hbb:Below (w.heap.size+1+1) w3 (World.setCell w3 ⟨gS,p,none⟩ (.string ⟨#[]⟩)):=(Below.refl _ _).setCell (p:=⟨gS,p,none⟩) gs1' _
 obtain⟨DR_c,DR_f,DR_z⟩:=DR.all
 go_wp2_with fail
 clear DR_c DR_f DR_z
 generalize hW:World.setCell w3 ⟨gS,p,none⟩ (.string ⟨#[]⟩)=w4 at hAc hbb Oc Dc ⊢
 clear hW
 obtain⟨C,hC⟩:∃ C,H.clear i p=C:=⟨_,rfl⟩
 rw[hC] at hAc Oc HCO HCP HNC
 have HC:=lh hC;clear hC
 have hCat:C.P.at i p:=by rw[HCP.out];exact HAT.out
 have HCA:=lh hCat;clear hCat
 have HAC:=lh hAc;clear hAc Oc Dc O1 DR c5 cS fS rs1 hy
 with_reducible refine (HZC.out _).mono ?_
 rintro e w5 ⟨rfl,hb5⟩
 have hz4:w.heap.size+1+1≤w4.heap.size:=Nat.le_trans hzz hbb.size
 replace hbb:=hbb.trans (hb5.mono hz4)
 have HAD:=lh (HAC.out.below hb5);clear HAC hb5
 obtain⟨zb,hzb⟩:∃ b,zeroB d=b:=⟨_,rfl⟩
 rw[hzb]
 have HZB:=lh hzb;clear hzb
 cases zb
 · obtain⟨nb,hnb⟩:∃ b,H.P.need i p=b:=⟨_,rfl⟩
   rw[hnb] at HNC
   have HNB:=lh hnb;clear hnb
   have hAD:=HAD.out
   obtain⟨of6,or6,om6,og6,kf6,kr6,km6,kg6,us6,gs6,D6,O6⟩:=hAD
   have hv6:=O6.at_
   have HV6:=lh hv6;clear hv6 O6
   cases nb
   · obtain⟨D6_c,D6_f,D6_z⟩:=D6.all
     go_wp2_with fail
     clear D6_c D6_f D6_z
     with_reducible refine (HNC.out _ _ HV6.out).mono ?_
     rintro e w6 ⟨rfl,hb6⟩
     replace hbb:=hbb.trans (hb6.mono (Nat.le_trans hzz hbb.size))
     have HA6:=lh (HAD.out.below hb6)
     clear hb6 D6 HAD
     have hwokC:C.P.wok i p d=true:=wok_of_need HCO.out.p HCA.out (by rw[HCP.out];exact HNB.out) HDD.out
     have HWC:=lh hwokC;clear hwokC
     have hokK:=HCO.out
     have hatK:=HCA.out
     have hwokK:=HWC.out
     have hzA:=Nat.le_trans hzz hbb.size
     obtain⟨gK,hgK⟩:=get_lt (hokK.at_lt hatK)
     have hgKp:=hokK.gmP hgK
     have WRc:=fun v' w h=>pwrite_own v' C.P i p d w h hokK.p.fit hokK.p.small
     rw[hwokK] at WRc
     obtain⟨we1,we2⟩:=Pl.wr_eq hokK.p hatK HDD.out
     rw[we2] at hwokK
     have WL:=(Pl.wr_law hokK.p hatK HDD.out).1 hwokK
     rw[←we1] at WL
     obtain⟨P2,hP2⟩:∃ P,C.P.wr i p d=P:=⟨_,rfl⟩
     rw[hP2] at WRc WL
     have hrows:∃ lX fX,P2.M[i]?=some lX∧lX[p]?=some fX∧gK.u.length=lX.length∧gK.e.length=lX.length∧lX.length≤32:=by
      obtain⟨lX,fX,hlX,hfX⟩:=(WL.al.at i p).2 hatK
      have hpl:=WL.al.pg i
      rw[Pl.pages_eq hlX] at hpl
      refine ⟨lX,fX,hlX,hfX,?_,?_,(WL.ok.l lX (mem_at hlX)).2⟩
      · rw[hpl];exact hgKp.lu
      · rw[hpl];exact hgKp.le
     obtain⟨of4,or4,om4,og4,kf4,kr4,km4,kg4,us4,gs4,D4,O4⟩:=HA6.out
     obtain⟨nK,hnK⟩:∃ n,C.P.F.length=n:=⟨_,rfl⟩
     obtain⟨rK,hrK⟩:∃ n,C.P.R.length=n:=⟨_,rfl⟩
     obtain⟨mK,hmK⟩:∃ n,C.P.M.length=n:=⟨_,rfl⟩
     obtain⟨qK,hqK⟩:∃ n,C.G.length=n:=⟨_,rfl⟩
     obtain⟨tK,htK⟩:∃ n,C.t=n:=⟨_,rfl⟩
     obtain⟨dK,hdK⟩:∃ n,C.d=n:=⟨_,rfl⟩
     obtain⟨sK,hsK⟩:∃ n,C.n=n:=⟨_,rfl⟩
     rw[hnK,hrK,hmK,hqK] at D4 O4
     rw[htK,hdK,hsK] at D4
     have HWR:=lh WRc;clear WRc
     have HGK:=lh hgK;clear hgK
     have HX4:=lh (And.intro htK (And.intro hdK (And.intro hsK hqK)));clear htK hdK hsK hqK hnK hrK hmK
     have HRW:=lh hrows;clear hrows
     have HP2:=lh hP2;clear hP2
     clear hokK hatK hwokK hgKp we1 we2 WL
     obtain⟨D4_c,D4_f,D4_z⟩:=D4.all
     go_wp2_with fail
     clear D4_c D4_f D4_z
     with_reducible refine (HWR.out _ _ O4.row.p).mono ?_
     rintro e w8 ⟨of5,or5,om5,kf5,kr5,km5,us5,rfl,O5,hb8⟩
     obtain⟨n5,hgn⟩:∃ n,(Pl.F P2).length=n:=⟨_,rfl⟩
     obtain⟨r5,hgr⟩:∃ n,(Pl.R P2).length=n:=⟨_,rfl⟩
     obtain⟨m5,hgm⟩:∃ n,(Pl.M P2).length=n:=⟨_,rfl⟩
     rw[hgn,hgr,hgm] at O5 ⊢
     have HG5:=lh (And.intro hgn (And.intro hgr hgm))
     clear hgn hgr hgm
     have D5:=D4.below hb8
     obtain⟨D5_c,D5_f,D5_z⟩:=D5.all
     go_wp2_with fail
     clear D5_c D5_f D5_z
     have O4b:=O4.below hb8
     have Oa:=O4b.newPool (O5.lower hzA) O4.ltG O5.ge
     have Ob:=(((Oa.setbox (j:=0) D5 hostT (.slice of5 n5 kf5)).setbox (j:=1) (D5.put7_0 (.slice of5 n5 kf5)) hostT (.slice or5 r5 kr5)).setbox (j:=2) ((D5.put7_0 (.slice of5 n5 kf5)).put7_1 (.slice or5 r5 kr5)) hostT (.slice om5 m5 km5)).alloc (.cells #[.slice of5 n5 kf5,.slice or5 r5 kr5,.slice om5 m5 km5] 26)
     have Dc:=(D5.poolIn (.slice of5 n5 kf5) (.slice or5 r5 kr5) (.slice om5 m5 km5)).alloc (.cells #[.slice of5 n5 kf5,.slice or5 r5 kr5,.slice om5 m5 km5] 26)
     have hbb8:=hbb.trans (hb8.mono hzA)
     have hbe:=(((hbb8.setCell (p:=⟨B,0,none⟩) hBA (.slice of5 n5 kf5)).setCell (p:=⟨B,1,none⟩) hBA (.slice or5 r5 kr5)).setCell (p:=⟨B,2,none⟩) hBA (.slice om5 m5 km5)).alloc (Nat.le_trans hzz (by simp only[sizes];exact hbb8.size)) (.cells #[.slice of5 n5 kf5,.slice or5 r5 kr5,.slice om5 m5 km5] 26)
     have HAE:=HostAt.mk (H:=C.setP P2) HG5.out.1 HG5.out.2.1 HG5.out.2.2 HX4.out.2.2.2 HX4.out.1 HX4.out.2.1 HX4.out.2.2.1 Dc Ob
     generalize hW:((((World.setCell w8 ⟨B,0,none⟩ (.slice of5 n5 kf5)).setCell ⟨B,1,none⟩ (.slice or5 r5 kr5)).setCell ⟨B,2,none⟩ (.slice om5 m5 km5)).alloc (.cells #[.slice of5 n5 kf5,.slice or5 r5 kr5,.slice om5 m5 km5] 26))=wq at HAE hbe ⊢
     clear hW Oa Ob Dc hbb hbb8 O4b O4 O5 D4 D5 hb8
     have hbb:=hbe
     clear hbe
     have hzB:=hbb.size
     obtain⟨lX,fX,hlX,hfX,huX,heX,hlX32⟩:=HRW.out
     have hmk:=hmark_ok (w.heap.size+1+1) B (C.setP P2) i p wq HAE gK lX fX HGK.out hlX hfX huX heX hlX32 (Nat.le_trans hzz hzB)
     have HMK:=lh hmk;clear hmk HAE hlX hfX huX heX hlX32 HRW
     with_reducible refine HMK.out.mono ?_
     rintro e wm ⟨rfl,hAm,hbm⟩
     replace hbb:=hbb.trans hbm
     obtain⟨of9,or9,om9,og9,kf9,kr9,km9,kg9,us9,gs9,D9,O9⟩:=hAm
     have D29:=D2.under' hbb (by omega)
     obtain⟨Hx,hHx⟩:∃ Hx,(C.setP P2).mark i p=Hx:=⟨_,rfl⟩
     rw[hHx] at D9 O9
     have HHX:=lh hHx;clear hHx
     obtain⟨n9,hn9⟩:∃ n,Hx.P.F.length=n:=⟨_,rfl⟩
     obtain⟨r9,hr9⟩:∃ n,Hx.P.R.length=n:=⟨_,rfl⟩
     obtain⟨m9,hm9⟩:∃ n,Hx.P.M.length=n:=⟨_,rfl⟩
     obtain⟨q9,hq9⟩:∃ n,Hx.G.length=n:=⟨_,rfl⟩
     obtain⟨t9,ht9⟩:∃ n,Hx.t=n:=⟨_,rfl⟩
     obtain⟨d9,hd9⟩:∃ n,Hx.d=n:=⟨_,rfl⟩
     obtain⟨s9,hs9⟩:∃ n,Hx.n=n:=⟨_,rfl⟩
     rw[hn9,hr9,hm9,hq9] at O9 D9
     rw[ht9,hd9,hs9] at D9
     have H9:=lh (And.intro hn9 (And.intro hr9 (And.intro hm9 (And.intro hq9 (And.intro ht9 (And.intro hd9 hs9))))));clear hn9 hr9 hm9 hq9 ht9 hd9 hs9
     obtain⟨D9_c,D9_f,D9_z⟩:=D9.all
     obtain⟨D29_c,D29_f,D29_z⟩:=D29.all
     have nB:w.heap.size+1≠B:=by omega
     go_wp2_with fail
     refine bodyPost_ret (v:=.tuple #[.agg #[.slice of9 n9 kf9,.slice or9 r9 kr9,.slice om9 m9 km9,.slice og9 q9 kg9,.int .i64 t9,.int .u64 d9,.int .i64 s9],.int .i64 0]) (by simp [results,Tryz.results17,go_sem,D29_c]) rfl ?_
     refine ⟨Hx,⟨C,.inr ⟨.inr HNB.out,HC.out.symm⟩,by rw[HP2.out];exact HHX.out.symm⟩,?_⟩
     exact hoRet' (k:=fun v=>.tuple #[v,.int .i64 0]) H9.out.1 H9.out.2.1 H9.out.2.2.1 H9.out.2.2.2.1 H9.out.2.2.2.2.1 H9.out.2.2.2.2.2.1 H9.out.2.2.2.2.2.2 (O9.fill7 (by omega) _ _ _ _ _ _ _) (Below.fill7 (hbw.trans (hbb.mono (by omega))) (by omega) _ _ _ _ _ _ _)
   · obtain⟨D6_c,D6_f,D6_z⟩:=D6.all
     go_wp2_with fail
     clear D6_c D6_f D6_z
     with_reducible refine (HNC.out _ _ HV6.out).mono ?_
     rintro e w6 ⟨rfl,hb6⟩
     replace hbb:=hbb.trans (hb6.mono (Nat.le_trans hzz hbb.size))
     have HA6:=lh (HAD.out.below hb6)
     clear hb6 D6 HAD
     go_wp2_with fail
     have hz6:=Nat.le_trans hzz hbb.size
     with_reducible refine (hroom_ok (w.heap.size+1+1) B C i p w6 HA6.out hBA HCO.out HCA.out hz6).mono ?_
     rintro e w7 ⟨rfl,⟨K,hrm,hKo,hK⟩,hbR⟩
     replace hbb:=hbb.trans hbR
     obtain⟨hke,hfull⟩:=hrm.kept HCO.out HCA.out
     have hKat:=(hke.al.at i p).2 HCA.out
     have hwokR:=wok_of_full hKo.p hKat hfull HDD.out
     have HKO:=lh hKo;clear hKo
     have HKA:=lh hKat;clear hKat
     have HWC:=lh hwokR;clear hwokR
     have HRM:=lh hrm;clear hrm
     have HAK:=lh hK;clear hK hke hfull hbR HA6
     have hokK:=HKO.out
     have hatK:=HKA.out
     have hwokK:=HWC.out
     have hzA:=Nat.le_trans hzz hbb.size
     obtain⟨gK,hgK⟩:=get_lt (hokK.at_lt hatK)
     have hgKp:=hokK.gmP hgK
     have WRc:=fun v' w h=>pwrite_own v' K.P i p d w h hokK.p.fit hokK.p.small
     rw[hwokK] at WRc
     obtain⟨we1,we2⟩:=Pl.wr_eq hokK.p hatK HDD.out
     rw[we2] at hwokK
     have WL:=(Pl.wr_law hokK.p hatK HDD.out).1 hwokK
     rw[←we1] at WL
     obtain⟨P2,hP2⟩:∃ P,K.P.wr i p d=P:=⟨_,rfl⟩
     rw[hP2] at WRc WL
     have hrows:∃ lX fX,P2.M[i]?=some lX∧lX[p]?=some fX∧gK.u.length=lX.length∧gK.e.length=lX.length∧lX.length≤32:=by
      obtain⟨lX,fX,hlX,hfX⟩:=(WL.al.at i p).2 hatK
      have hpl:=WL.al.pg i
      rw[Pl.pages_eq hlX] at hpl
      refine ⟨lX,fX,hlX,hfX,?_,?_,(WL.ok.l lX (mem_at hlX)).2⟩
      · rw[hpl];exact hgKp.lu
      · rw[hpl];exact hgKp.le
     obtain⟨of4,or4,om4,og4,kf4,kr4,km4,kg4,us4,gs4,D4,O4⟩:=HAK.out
     obtain⟨nK,hnK⟩:∃ n,K.P.F.length=n:=⟨_,rfl⟩
     obtain⟨rK,hrK⟩:∃ n,K.P.R.length=n:=⟨_,rfl⟩
     obtain⟨mK,hmK⟩:∃ n,K.P.M.length=n:=⟨_,rfl⟩
     obtain⟨qK,hqK⟩:∃ n,K.G.length=n:=⟨_,rfl⟩
     obtain⟨tK,htK⟩:∃ n,K.t=n:=⟨_,rfl⟩
     obtain⟨dK,hdK⟩:∃ n,K.d=n:=⟨_,rfl⟩
     obtain⟨sK,hsK⟩:∃ n,K.n=n:=⟨_,rfl⟩
     rw[hnK,hrK,hmK,hqK] at D4 O4
     rw[htK,hdK,hsK] at D4
     have HWR:=lh WRc;clear WRc
     have HGK:=lh hgK;clear hgK
     have HX4:=lh (And.intro htK (And.intro hdK (And.intro hsK hqK)));clear htK hdK hsK hqK hnK hrK hmK
     have HRW:=lh hrows;clear hrows
     have HP2:=lh hP2;clear hP2
     clear hokK hatK hwokK hgKp we1 we2 WL
     obtain⟨D4_c,D4_f,D4_z⟩:=D4.all
     go_wp2_with fail
     clear D4_c D4_f D4_z
     with_reducible refine (HWR.out _ _ O4.row.p).mono ?_
     rintro e w8 ⟨of5,or5,om5,kf5,kr5,km5,us5,rfl,O5,hb8⟩
     obtain⟨n5,hgn⟩:∃ n,(Pl.F P2).length=n:=⟨_,rfl⟩
     obtain⟨r5,hgr⟩:∃ n,(Pl.R P2).length=n:=⟨_,rfl⟩
     obtain⟨m5,hgm⟩:∃ n,(Pl.M P2).length=n:=⟨_,rfl⟩
     rw[hgn,hgr,hgm] at O5 ⊢
     have HG5:=lh (And.intro hgn (And.intro hgr hgm))
     clear hgn hgr hgm
     have D5:=D4.below hb8
     obtain⟨D5_c,D5_f,D5_z⟩:=D5.all
     go_wp2_with fail
     clear D5_c D5_f D5_z
     have O4b:=O4.below hb8
     have Oa:=O4b.newPool (O5.lower hzA) O4.ltG O5.ge
     have Ob:=(((Oa.setbox (j:=0) D5 hostT (.slice of5 n5 kf5)).setbox (j:=1) (D5.put7_0 (.slice of5 n5 kf5)) hostT (.slice or5 r5 kr5)).setbox (j:=2) ((D5.put7_0 (.slice of5 n5 kf5)).put7_1 (.slice or5 r5 kr5)) hostT (.slice om5 m5 km5)).alloc (.cells #[.slice of5 n5 kf5,.slice or5 r5 kr5,.slice om5 m5 km5] 26)
     have Dc:=(D5.poolIn (.slice of5 n5 kf5) (.slice or5 r5 kr5) (.slice om5 m5 km5)).alloc (.cells #[.slice of5 n5 kf5,.slice or5 r5 kr5,.slice om5 m5 km5] 26)
     have hbb8:=hbb.trans (hb8.mono hzA)
     have hbe:=(((hbb8.setCell (p:=⟨B,0,none⟩) hBA (.slice of5 n5 kf5)).setCell (p:=⟨B,1,none⟩) hBA (.slice or5 r5 kr5)).setCell (p:=⟨B,2,none⟩) hBA (.slice om5 m5 km5)).alloc (Nat.le_trans hzz (by simp only[sizes];exact hbb8.size)) (.cells #[.slice of5 n5 kf5,.slice or5 r5 kr5,.slice om5 m5 km5] 26)
     have HAE:=HostAt.mk (H:=K.setP P2) HG5.out.1 HG5.out.2.1 HG5.out.2.2 HX4.out.2.2.2 HX4.out.1 HX4.out.2.1 HX4.out.2.2.1 Dc Ob
     generalize hW:((((World.setCell w8 ⟨B,0,none⟩ (.slice of5 n5 kf5)).setCell ⟨B,1,none⟩ (.slice or5 r5 kr5)).setCell ⟨B,2,none⟩ (.slice om5 m5 km5)).alloc (.cells #[.slice of5 n5 kf5,.slice or5 r5 kr5,.slice om5 m5 km5] 26))=wq at HAE hbe ⊢
     clear hW Oa Ob Dc hbb hbb8 O4b O4 O5 D4 D5 hb8
     have hbb:=hbe
     clear hbe
     have hzB:=hbb.size
     obtain⟨lX,fX,hlX,hfX,huX,heX,hlX32⟩:=HRW.out
     have hmk:=hmark_ok (w.heap.size+1+1) B (K.setP P2) i p wq HAE gK lX fX HGK.out hlX hfX huX heX hlX32 (Nat.le_trans hzz hzB)
     have HMK:=lh hmk;clear hmk HAE hlX hfX huX heX hlX32 HRW
     with_reducible refine HMK.out.mono ?_
     rintro e wm ⟨rfl,hAm,hbm⟩
     replace hbb:=hbb.trans hbm
     obtain⟨of9,or9,om9,og9,kf9,kr9,km9,kg9,us9,gs9,D9,O9⟩:=hAm
     have D29:=D2.under' hbb (by omega)
     obtain⟨Hx,hHx⟩:∃ Hx,(K.setP P2).mark i p=Hx:=⟨_,rfl⟩
     rw[hHx] at D9 O9
     have HHX:=lh hHx;clear hHx
     obtain⟨n9,hn9⟩:∃ n,Hx.P.F.length=n:=⟨_,rfl⟩
     obtain⟨r9,hr9⟩:∃ n,Hx.P.R.length=n:=⟨_,rfl⟩
     obtain⟨m9,hm9⟩:∃ n,Hx.P.M.length=n:=⟨_,rfl⟩
     obtain⟨q9,hq9⟩:∃ n,Hx.G.length=n:=⟨_,rfl⟩
     obtain⟨t9,ht9⟩:∃ n,Hx.t=n:=⟨_,rfl⟩
     obtain⟨d9,hd9⟩:∃ n,Hx.d=n:=⟨_,rfl⟩
     obtain⟨s9,hs9⟩:∃ n,Hx.n=n:=⟨_,rfl⟩
     rw[hn9,hr9,hm9,hq9] at O9 D9
     rw[ht9,hd9,hs9] at D9
     have H9:=lh (And.intro hn9 (And.intro hr9 (And.intro hm9 (And.intro hq9 (And.intro ht9 (And.intro hd9 hs9))))));clear hn9 hr9 hm9 hq9 ht9 hd9 hs9
     obtain⟨D9_c,D9_f,D9_z⟩:=D9.all
     obtain⟨D29_c,D29_f,D29_z⟩:=D29.all
     have nB:w.heap.size+1≠B:=by omega
     go_wp2_with fail
     refine bodyPost_ret (v:=.tuple #[.agg #[.slice of9 n9 kf9,.slice or9 r9 kr9,.slice om9 m9 km9,.slice og9 q9 kg9,.int .i64 t9,.int .u64 d9,.int .i64 s9],.int .i64 0]) (by simp [results,Tryz.results17,go_sem,D29_c]) rfl ?_
     refine ⟨Hx,⟨K,.inl ⟨HZB.out,HNB.out,by rw[HC.out];exact HRM.out⟩,by rw[HP2.out];exact HHX.out.symm⟩,?_⟩
     exact hoRet' (k:=fun v=>.tuple #[v,.int .i64 0]) H9.out.1 H9.out.2.1 H9.out.2.2.1 H9.out.2.2.2.1 H9.out.2.2.2.2.1 H9.out.2.2.2.2.2.1 H9.out.2.2.2.2.2.2 (O9.fill7 (by omega) _ _ _ _ _ _ _) (Below.fill7 (hbw.trans (hbb.mono (by omega))) (by omega) _ _ _ _ _ _ _)
 · have hwokZ:C.P.wok i p d=true:=by
     rw[(Pl.wr_eq HCO.out.p HCA.out HDD.out).2]
     unfold Pl.wok'
     rw[HZB.out]
     rfl
   have HWC:=lh hwokZ;clear hwokZ
   have hokK:=HCO.out
   have hatK:=HCA.out
   have hwokK:=HWC.out
   have hzA:=Nat.le_trans hzz hbb.size
   obtain⟨gK,hgK⟩:=get_lt (hokK.at_lt hatK)
   have hgKp:=hokK.gmP hgK
   have WRc:=fun v' w h=>pwrite_own v' C.P i p d w h hokK.p.fit hokK.p.small
   rw[hwokK] at WRc
   obtain⟨we1,we2⟩:=Pl.wr_eq hokK.p hatK HDD.out
   rw[we2] at hwokK
   have WL:=(Pl.wr_law hokK.p hatK HDD.out).1 hwokK
   rw[←we1] at WL
   obtain⟨P2,hP2⟩:∃ P,C.P.wr i p d=P:=⟨_,rfl⟩
   rw[hP2] at WRc WL
   have hrows:∃ lX fX,P2.M[i]?=some lX∧lX[p]?=some fX∧gK.u.length=lX.length∧gK.e.length=lX.length∧lX.length≤32:=by
    obtain⟨lX,fX,hlX,hfX⟩:=(WL.al.at i p).2 hatK
    have hpl:=WL.al.pg i
    rw[Pl.pages_eq hlX] at hpl
    refine ⟨lX,fX,hlX,hfX,?_,?_,(WL.ok.l lX (mem_at hlX)).2⟩
    · rw[hpl];exact hgKp.lu
    · rw[hpl];exact hgKp.le
   obtain⟨of4,or4,om4,og4,kf4,kr4,km4,kg4,us4,gs4,D4,O4⟩:=HAD.out
   obtain⟨nK,hnK⟩:∃ n,C.P.F.length=n:=⟨_,rfl⟩
   obtain⟨rK,hrK⟩:∃ n,C.P.R.length=n:=⟨_,rfl⟩
   obtain⟨mK,hmK⟩:∃ n,C.P.M.length=n:=⟨_,rfl⟩
   obtain⟨qK,hqK⟩:∃ n,C.G.length=n:=⟨_,rfl⟩
   obtain⟨tK,htK⟩:∃ n,C.t=n:=⟨_,rfl⟩
   obtain⟨dK,hdK⟩:∃ n,C.d=n:=⟨_,rfl⟩
   obtain⟨sK,hsK⟩:∃ n,C.n=n:=⟨_,rfl⟩
   rw[hnK,hrK,hmK,hqK] at D4 O4
   rw[htK,hdK,hsK] at D4
   have HWR:=lh WRc;clear WRc
   have HGK:=lh hgK;clear hgK
   have HX4:=lh (And.intro htK (And.intro hdK (And.intro hsK hqK)));clear htK hdK hsK hqK hnK hrK hmK
   have HRW:=lh hrows;clear hrows
   have HP2:=lh hP2;clear hP2
   clear hokK hatK hwokK hgKp we1 we2 WL
   obtain⟨D4_c,D4_f,D4_z⟩:=D4.all
   go_wp2_with fail
   clear D4_c D4_f D4_z
   with_reducible refine (HWR.out _ _ O4.row.p).mono ?_
   rintro e w8 ⟨of5,or5,om5,kf5,kr5,km5,us5,rfl,O5,hb8⟩
   obtain⟨n5,hgn⟩:∃ n,(Pl.F P2).length=n:=⟨_,rfl⟩
   obtain⟨r5,hgr⟩:∃ n,(Pl.R P2).length=n:=⟨_,rfl⟩
   obtain⟨m5,hgm⟩:∃ n,(Pl.M P2).length=n:=⟨_,rfl⟩
   rw[hgn,hgr,hgm] at O5 ⊢
   have HG5:=lh (And.intro hgn (And.intro hgr hgm))
   clear hgn hgr hgm
   have D5:=D4.below hb8
   obtain⟨D5_c,D5_f,D5_z⟩:=D5.all
   go_wp2_with fail
   clear D5_c D5_f D5_z
   have O4b:=O4.below hb8
   have Oa:=O4b.newPool (O5.lower hzA) O4.ltG O5.ge
   have Ob:=(((Oa.setbox (j:=0) D5 hostT (.slice of5 n5 kf5)).setbox (j:=1) (D5.put7_0 (.slice of5 n5 kf5)) hostT (.slice or5 r5 kr5)).setbox (j:=2) ((D5.put7_0 (.slice of5 n5 kf5)).put7_1 (.slice or5 r5 kr5)) hostT (.slice om5 m5 km5)).alloc (.cells #[.slice of5 n5 kf5,.slice or5 r5 kr5,.slice om5 m5 km5] 26)
   have Dc:=(D5.poolIn (.slice of5 n5 kf5) (.slice or5 r5 kr5) (.slice om5 m5 km5)).alloc (.cells #[.slice of5 n5 kf5,.slice or5 r5 kr5,.slice om5 m5 km5] 26)
   have hbb8:=hbb.trans (hb8.mono hzA)
   have hbe:=(((hbb8.setCell (p:=⟨B,0,none⟩) hBA (.slice of5 n5 kf5)).setCell (p:=⟨B,1,none⟩) hBA (.slice or5 r5 kr5)).setCell (p:=⟨B,2,none⟩) hBA (.slice om5 m5 km5)).alloc (Nat.le_trans hzz (by simp only[sizes];exact hbb8.size)) (.cells #[.slice of5 n5 kf5,.slice or5 r5 kr5,.slice om5 m5 km5] 26)
   have HAE:=HostAt.mk (H:=C.setP P2) HG5.out.1 HG5.out.2.1 HG5.out.2.2 HX4.out.2.2.2 HX4.out.1 HX4.out.2.1 HX4.out.2.2.1 Dc Ob
   generalize hW:((((World.setCell w8 ⟨B,0,none⟩ (.slice of5 n5 kf5)).setCell ⟨B,1,none⟩ (.slice or5 r5 kr5)).setCell ⟨B,2,none⟩ (.slice om5 m5 km5)).alloc (.cells #[.slice of5 n5 kf5,.slice or5 r5 kr5,.slice om5 m5 km5] 26))=wq at HAE hbe ⊢
   clear hW Oa Ob Dc hbb hbb8 O4b O4 O5 D4 D5 hb8
   have hbb:=hbe
   clear hbe
   have hzB:=hbb.size
   obtain⟨lX,fX,hlX,hfX,huX,heX,hlX32⟩:=HRW.out
   have hmk:=hmark_ok (w.heap.size+1+1) B (C.setP P2) i p wq HAE gK lX fX HGK.out hlX hfX huX heX hlX32 (Nat.le_trans hzz hzB)
   have HMK:=lh hmk;clear hmk HAE hlX hfX huX heX hlX32 HRW
   with_reducible refine HMK.out.mono ?_
   rintro e wm ⟨rfl,hAm,hbm⟩
   replace hbb:=hbb.trans hbm
   obtain⟨of9,or9,om9,og9,kf9,kr9,km9,kg9,us9,gs9,D9,O9⟩:=hAm
   have D29:=D2.under' hbb (by omega)
   obtain⟨Hx,hHx⟩:∃ Hx,(C.setP P2).mark i p=Hx:=⟨_,rfl⟩
   rw[hHx] at D9 O9
   have HHX:=lh hHx;clear hHx
   obtain⟨n9,hn9⟩:∃ n,Hx.P.F.length=n:=⟨_,rfl⟩
   obtain⟨r9,hr9⟩:∃ n,Hx.P.R.length=n:=⟨_,rfl⟩
   obtain⟨m9,hm9⟩:∃ n,Hx.P.M.length=n:=⟨_,rfl⟩
   obtain⟨q9,hq9⟩:∃ n,Hx.G.length=n:=⟨_,rfl⟩
   obtain⟨t9,ht9⟩:∃ n,Hx.t=n:=⟨_,rfl⟩
   obtain⟨d9,hd9⟩:∃ n,Hx.d=n:=⟨_,rfl⟩
   obtain⟨s9,hs9⟩:∃ n,Hx.n=n:=⟨_,rfl⟩
   rw[hn9,hr9,hm9,hq9] at O9 D9
   rw[ht9,hd9,hs9] at D9
   have H9:=lh (And.intro hn9 (And.intro hr9 (And.intro hm9 (And.intro hq9 (And.intro ht9 (And.intro hd9 hs9))))));clear hn9 hr9 hm9 hq9 ht9 hd9 hs9
   obtain⟨D9_c,D9_f,D9_z⟩:=D9.all
   obtain⟨D29_c,D29_f,D29_z⟩:=D29.all
   have nB:w.heap.size+1≠B:=by omega
   go_wp2_with fail
   refine bodyPost_ret (v:=.tuple #[.agg #[.slice of9 n9 kf9,.slice or9 r9 kr9,.slice om9 m9 km9,.slice og9 q9 kg9,.int .i64 t9,.int .u64 d9,.int .i64 s9],.int .i64 0]) (by simp [results,Tryz.results17,go_sem,D29_c]) rfl ?_
   refine ⟨Hx,⟨C,.inr ⟨.inl HZB.out,HC.out.symm⟩,by rw[HP2.out];exact HHX.out.symm⟩,?_⟩
   exact hoRet' (k:=fun v=>.tuple #[v,.int .i64 0]) H9.out.1 H9.out.2.1 H9.out.2.2.1 H9.out.2.2.2.1 H9.out.2.2.2.2.1 H9.out.2.2.2.2.2.1 H9.out.2.2.2.2.2.2 (O9.fill7 (by omega) _ _ _ _ _ _ _) (Below.fill7 (hbw.trans (hbb.mono (by omega))) (by omega) _ _ _ _ _ _ _)
theorem clear_text {H:Ho} {i p a b:Nat} (hi:i<H.G.length):(H.clear i p).text a b=if i=a∧p=b then H.P.text a b else H.text a b:=by
 obtain⟨g,hg⟩:=get_lt hi
 unfold Ho.clear Ho.text
 rw[hg]
 dsimp only[Ho.setG]
 rw[List.getElem?_set]
 by_cases e:i=a
 · subst e
   rw[if_pos rfl,if_pos hi,hg]
   dsimp only
   rw[List.getElem?_set]
   by_cases e2:p=b
   · subst e2
     rw[if_pos (⟨rfl,rfl⟩:i=i∧p=p),if_pos (rfl:p=p)]
     by_cases hp:p<g.s.length
     · simp only[if_pos hp]
       rfl
     · simp only[if_neg hp]
   · rw[if_neg e2,if_neg (fun h=>e2 h.2)]
 · rw[if_neg e,if_neg (fun h=>e h.1)]
theorem Pl.page_get {P:Pl} {a b:Nat} (h:P.at a b):(P.pages a)[b]?=some (P.fr a b):=by
 obtain⟨l,hl,hp⟩:=Pl.at_fr h
 rw[Pl.pages_eq hl]
 exact hp
theorem Pl.page_none {P:Pl} {a b:Nat} (h:¬P.at a b):(P.pages a)[b]?=none:=by
 cases hl:P.M[a]? with
 | none =>
   have:P.pages a=[]:=by unfold Pl.pages;rw[hl];rfl
   rw[this]
   rfl
 | some l =>
   rw[Pl.pages_eq hl]
   cases hf:l[b]? with
   | none=>rfl
   | some f=>exact absurd ⟨l,f,hl,hf⟩ h
theorem Pl.wr_fr {P:Pl} (H:P.Ok) {g p:Nat} {d:ByteArray} (h:P.at g p) (hk:P.wok' g p d=true) :
    (∀ a b,¬(g=a∧p=b)→(P.wr' g p d).fr a b=P.fr a b)∧(0≤(P.wr' g p d).fr g p↔zeroB d=false):=by
 have G:=H.gave h
 unfold Pl.wok' at hk
 unfold Pl.wr'
 cases hz:zeroB d
 · rw[hz] at hk
   simp only[Bool.false_eq_true,if_false]
   cases ho:P.own g p
   · rw[ho] at hk
     simp only[Bool.false_eq_true,if_false]
     cases hfo:firstOf P.F ⟨#[]⟩ with
     | none =>
       rw[hfo] at hk
       simp at hk
     | some i =>
       dsimp only
       obtain⟨T,_⟩:=Pl.take_put (d:=d) H h (firstOf_some.1 hfo).1
       refine ⟨fun a b hab=>?_,?_⟩
       · rw[T.fr,if_neg hab,G.fr,if_neg hab]
       · rw[T.fr,if_pos ⟨rfl,rfl⟩]
         exact⟨fun _=>trivial,fun _=>by omega⟩
   · simp only[if_true]
     unfold Pl.own at ho
     rw[Bool.and_eq_true,decide_eq_true_eq] at ho
     exact⟨fun _ _ _=>rfl,⟨fun _=>trivial,fun _=>ho.1⟩⟩
 · simp only[if_true]
   refine ⟨fun a b hab=>by rw[G.fr,if_neg hab],?_⟩
   rw[G.fr_self]
   exact⟨fun h=>by omega,fun h=>by cases h⟩
theorem Pl.charge_map (P:Pl) (a:Nat):P.chargeN a=((P.pages a).map hasB).countP id:=by
 unfold Pl.chargeN
 rw[List.countP_map]
 rfl
theorem Pl.charge_fr {P Q:Pl} {g p:Nat} (al:P.Alike Q) (h:P.at g p) (hs:∀ a b,¬(g=a∧p=b)→(0≤Q.fr a b↔0≤P.fr a b)) (a:Nat):Q.chargeN a+(if g=a∧0≤P.fr g p then 1 else 0)=P.chargeN a+(if g=a∧0≤Q.fr g p then 1 else 0):=by
 have hget:∀ b,¬(g=a∧p=b)→((Q.pages a).map hasB)[b]?=((P.pages a).map hasB)[b]?:=fun b hab=>by
  rw[List.getElem?_map,List.getElem?_map]
  by_cases hat:P.at a b
  · rw[Pl.page_get hat,Pl.page_get ((al.at a b).2 hat)]
    have:=hs a b hab
    show some (decide _)=some (decide _)
    rw[decide_eq_decide.2 this]
  · rw[Pl.page_none hat,Pl.page_none (fun h=>hat ((al.at a b).1 h))]
 rw[Pl.charge_map,Pl.charge_map]
 by_cases e:g=a
 · subst e
   have hx:((P.pages g).map hasB)[p]?=some (hasB (P.fr g p)):=by rw[List.getElem?_map,Pl.page_get h];rfl
   have he:(Q.pages g).map hasB=((P.pages g).map hasB).set p (hasB (Q.fr g p)):=List.ext_getElem? (fun b=>by
    rw[List.getElem?_set]
    by_cases e2:p=b
    · subst e2
      rw[if_pos rfl,if_pos (lt_of_get hx),List.getElem?_map,Pl.page_get ((al.at g p).2 h)]
      rfl
    · rw[if_neg e2]
      exact hget b (fun h=>e2 h.2))
   have:=countP_set (q:=id) (x:=hasB (Q.fr g p)) hx
   rw[he]
   unfold hasB at this ⊢
   simp only[id,decide_eq_true_eq,true_and] at this ⊢
   exact this
 · have he:(Q.pages a).map hasB=(P.pages a).map hasB:=List.ext_getElem? (fun b=>hget b (fun h=>e h.1))
   rw[he,if_neg (fun h=>e h.1),if_neg (fun h=>e h.1)]
def Ho.sw (H:Ho) (a b:Nat):ByteArray:=match H.G[a]? with
 | none=>⟨#[]⟩
 | some g=>(g.s[b]?).getD ⟨#[]⟩
theorem Ho.sw_eq {H:Ho} {a b:Nat} {g:Gm} {t:ByteArray} (hg:H.G[a]?=some g) (ht:g.s[b]?=some t):H.sw a b=t:=by
 unfold Ho.sw
 rw[hg]
 dsimp only
 rw[ht]
 rfl
theorem Ho.text_sw (H:Ho) (a b:Nat):H.text a b=if (H.sw a b).size=0 then H.P.text a b else H.sw a b:=by
 unfold Ho.text Ho.sw
 cases H.G[a]? with
 | none=>exact (if_pos rfl).symm
 | some g =>
   dsimp only
   have e:∀ (o:Option ByteArray) (X:ByteArray),(match o with|none=>X|some t=>if t.size=0 then X else t)=if (o.getD ⟨#[]⟩).size=0 then X else o.getD ⟨#[]⟩:=fun o X=>by
    cases o with
    | none=>exact (if_pos rfl).symm
    | some t=>rfl
   exact e _ _
theorem Ho.Ok.swp {H:Ho} (h:H.Ok) {a b:Nat} (hat:H.P.at a b):(H.sw a b).size=0∨(H.P.fr a b<0∧(H.sw a b).size=128∧zeroB (H.sw a b)=false):=by
 obtain⟨g,hg⟩:=get_lt (h.at_lt hat)
 have hgp:=h.gmP hg
 have hb:=(Pl.at_lt.1 hat).2
 obtain⟨t,ht⟩:=get_lt (xs:=g.s) (k:=b) (by rw[hgp.ls];exact hb)
 rw[Ho.sw_eq hg ht]
 exact hgp.sw b t hb ht
theorem evict_sw {H H':Ho} {i:Nat} {x:Int} (hok:H.Ok) (h:H.evict i x=some H'):∃ v:Nat,H.P.at i v∧0≤H.P.fr i v∧(v:Int)≠x∧(∀ a b,H'.P.fr a b=if i=a∧v=b then -1 else H.P.fr a b)∧(∀ a b,¬(i=a∧v=b)→H'.sw a b=H.sw a b):=by
 unfold Ho.evict at h
 cases hg:H.G[i]? with
 | none=>rw[hg] at h;simp at h
 | some g =>
   rw[hg] at h
   dsimp only at h
   have hgp:=hok.gmP hg
   obtain⟨l,hl,hgo⟩:=hok.page hg
   have hpl:=Pl.pages_eq hl
   have hll:=hok.p.l l (mem_at hl)
   cases ho:chO g.u ((H.P.pages i).map hasB) g.h.toNat x with
   | none=>rw[ho] at h;simp at h
   | some a =>
     obtain⟨v,u,q⟩:=a
     rw[ho] at h
     injection h with h
     have hhd:=hgp.hd
     rw[hpl] at hhd ho
     unfold chO at ho
     obtain⟨p1,p2,p3,_⟩:=chF_spec (by rw[List.length_map];omega) _ _ _ _ _ _ (by rw[List.length_map];omega) ho
     rw[List.length_map] at p1
     obtain⟨f,hf⟩:=get_lt p1
     rw[List.getElem?_map,hf] at p2
     have hf0:0≤f:=by
      injection p2 with p2
      unfold hasB at p2
      exact of_decide_eq_true p2
     have hat:H.P.at i v:=⟨l,f,hl,hf⟩
     have hfr:=Pl.fr_eq hl hf
     obtain⟨we1,_⟩:=Pl.wr_eq hok.p hat zeros128_size
     have hwr:H.P.wr i v zeros128=H.P.giveUp i v:=by
      rw[we1]
      unfold Pl.wr'
      rw[if_pos zeros128_zero]
     rw[hwr] at h
     have G:=hok.p.gave hat
     subst h
     refine ⟨v,hat,by rw[hfr];exact hf0,p3,G.fr,fun a b hab=>?_⟩
     unfold Ho.sw
     dsimp only
     rw[List.getElem?_set]
     by_cases e:i=a
     · subst e
       rw[if_pos rfl,if_pos (lt_of_get hg),hg]
       dsimp only
       rw[List.getElem?_set,if_neg (fun h=>hab ⟨rfl,h⟩)]
     · rw[if_neg e]
structure Spared (H K:Ho) (i p:Nat):Prop where
 sw:K.sw i p=H.sw i p
 fr:K.P.fr i p=H.P.fr i p
theorem Spared.refl (H:Ho) (i p:Nat):Spared H H i p:=⟨rfl,rfl⟩
theorem Spared.trans {H K L:Ho} {i p:Nat} (h:Spared H K i p) (h':Spared K L i p):Spared H L i p:=⟨h'.sw.trans h.sw,h'.fr.trans h.fr⟩
theorem Spared.ev {K L:Ho} {i p j:Nat} {x:Int} (hok:K.Ok) (h:K.evict j x=some L) (hx:j=i→x=p):Spared K L i p:=by
 obtain⟨v,_,_,hv,h1,h2⟩:=evict_sw hok h
 have hne:¬(j=i∧v=p):=fun ⟨e1,e2⟩=>hv (by rw[hx e1,e2])
 exact⟨h2 i p hne,by rw[h1,if_neg hne]⟩
theorem first_sp {H:Ho} (hok:H.Ok) (i p:Nat):Spared H (H.first i p) i p:=by
 unfold Ho.first
 split
 · exact Spared.refl H i p
 · split
   · cases he:H.evict i p with
     | none=>exact Spared.refl H i p
     | some L=>exact Spared.ev hok he (fun _=>rfl)
   · exact Spared.refl H i p
theorem evictC_sp {K L:Ho} {i p:Nat} (hok:K.Ok) (hi:i<K.G.length) (h:K.evictC i p=some L):Spared K L i p:=by
 unfold Ho.evictC at h
 have hcb:=chosen_bd hok hi
 refine Spared.ev hok h (fun e=>?_)
 rw[if_pos (by omega)]
theorem Steps.sp {H1 K:Ho} {i p:Nat} (h:Steps i p H1 K) (hok:H1.Ok) (hi:i<H1.G.length):Spared H1 K i p∧Kept H1 K i p:=by
 induction h with
 | refl=>exact⟨Spared.refl _ i p,Kept.refl hok i p⟩
 | step _ _ he ih=>exact⟨ih.1.trans (evictC_sp ih.2.ok (by rw[ih.2.gl];exact hi) he),ih.2.ev (evict_law ih.2.ok he)⟩
theorem Roomed.sp {H K:Ho} {i p:Nat} (h:Roomed i p H K) (hok:H.Ok) (hat:H.P.at i p):Spared H K i p:=by
 have hf:=Kept.first hok i p
 exact (first_sp hok i p).trans (h.1.sp hf.ok (by rw[hf.gl];exact hok.at_lt hat)).1
theorem first_lim {H:Ho} (hok:H.Ok) {i p:Nat} (hat:H.P.at i p) (h0:H.P.fr i p<0) {g:Gm} (hg:H.G[i]?=some g):((H.first i p).P.chargeN i:Int)<g.c.l:=by
 have hgp:=hok.gmP hg
 have hlim:=hgp.lim
 have hv:=(validB_iff g.c).1 hgp.cv
 unfold Ho.first
 rw[hg]
 dsimp only
 by_cases hc:g.c.l≤(H.P.chargeN i:Int)
 · rw[if_pos ⟨h0,hc⟩]
   obtain⟨l,hl,hgo⟩:=hok.page hg
   have hpl:=Pl.pages_eq hl
   have hpos:0<(H.P.pages i).countP hasB:=by
    have:(0:Int)<(H.P.chargeN i:Int):=by omega
    unfold Pl.chargeN at this
    omega
   obtain⟨f,hf,hb⟩:=List.countP_pos_iff.1 hpos
   obtain⟨j,hj⟩:=List.getElem?_of_mem hf
   rw[hpl] at hj
   have hf0:0≤f:=of_decide_eq_true hb
   have hfr:=Pl.fr_eq hl hj
   have hne:=evict_some hok (i:=i) (j:=j) (x:=(p:Int)) ⟨l,f,hl,hj⟩ (by rw[hfr];exact hf0) (fun e=>by
    have:j=p:=by omega
    subst this
    omega)
   cases he:H.evict i p with
   | none=>exact absurd he hne
   | some L =>
     obtain⟨v,_,_,_,_,hch⟩:=(evict_law hok he).pg
     have:=hch i
     rw[if_pos rfl] at this
     show (L.P.chargeN i:Int)<g.c.l
     omega
 · rw[if_neg (fun h=>hc h.2)]
   omega
theorem Roomed.lim {H K:Ho} {i p:Nat} (h:Roomed i p H K) (hok:H.Ok) (hat:H.P.at i p) (h0:K.P.fr i p<0) {g:Gm} (hg:K.G[i]?=some g):(K.P.chargeN i:Int)<g.c.l:=by
 have hf:=Kept.first hok i p
 have hst:=h.1.sp hf.ok (by rw[hf.gl];exact hok.at_lt hat)
 have hsp:=h.sp hok hat
 have hk:=(h.kept hok hat).1
 obtain⟨g0,hg0⟩:=get_lt (hok.at_lt hat)
 obtain⟨g',hg',hc,_⟩:=hk.cl i g0 hg0
 rw[hg] at hg'
 injection hg' with hg'
 subst hg'
 rw[hc]
 have h1:=first_lim hok hat (by rw[←hsp.fr];exact h0) hg0
 have h2:=hst.2.le i
 omega
theorem put_law {K:Ho} (hok:K.Ok) {i p:Nat} {d:ByteArray} (hat:K.P.at i p) (hd:d.size=128) (hk:K.P.wok' i p d=true) (hsw:(K.sw i p).size=0) (hlim:zeroB d=false→K.P.fr i p<0→∀ g,K.G[i]?=some g→(K.P.chargeN i:Int)<g.c.l) :
    ((K.setP (K.P.wr i p d)).mark i p).Ok∧K.P.Alike (K.P.wr i p d)∧(∀ a b,K.P.at a b→((K.setP (K.P.wr i p d)).mark i p).text a b=if i=a∧p=b then d else K.text a b)∧(K.P.wr i p d).text i p=d∧(∀ a b,¬(i=a∧p=b)→(K.P.wr i p d).fr a b=K.P.fr a b)∧(0≤(K.P.wr i p d).fr i p↔zeroB d=false):=by
 have W:=(Pl.wr_law hok.p hat hd).1 hk
 obtain⟨F1,F2⟩:=Pl.wr_fr hok.p hat hk
 rw[←(Pl.wr_eq hok.p hat hd).1] at W F1 F2
 have hch:=Pl.charge_fr W.al hat (fun a b hab=>by rw[F1 a b hab])
 have htx:(K.P.wr i p d).text i p=d:=by rw[W.text i p hat,if_pos ⟨rfl,rfl⟩]
 obtain⟨e1,e2,e3,e4,e5,e6⟩:=mark_rest (K.setP (K.P.wr i p d)) i p
 refine ⟨hok.of (by rw[e1];exact W.ok) (by rw[e1];exact W.al) e5 e2 (by rw[e3];exact hok.d) (by rw[e4];exact hok.n) e6 (fun a g1 h1=>?_),W.al,fun a b hab=>?_,htx,F1,F2⟩
 · rw[e1]
   show GmP (K.P.wr i p d) a g1
   obtain⟨g,hg,hne,heq⟩:=mark_get h1
   change K.G[a]?=some g at hg
   have hgp:=hok.gmP hg
   have hlm:((K.P.wr i p d).chargeN a:Int)≤g.c.l:=by
    have h1:=hch a
    have h2:=hgp.lim
    by_cases e:i=a
    · subst e
      by_cases h3:0≤K.P.fr i p
      · rw[if_pos ⟨rfl,h3⟩] at h1
        split at h1 <;> omega
      · rw[if_neg (fun h=>h3 h.2)] at h1
        by_cases h4:zeroB d=false
        · have:=hlim h4 (by omega) g hg
          split at h1 <;> omega
        · rw[if_neg (fun h=>h4 (F2.1 h.2))] at h1
          omega
    · rw[if_neg (fun h=>e h.1),if_neg (fun h=>e h.1)] at h1
      omega
   have hsp:∀ (k:Nat) (t:ByteArray),k<((K.P.wr i p d).pages a).length→g.s[k]?=some t→t.size=0∨((K.P.wr i p d).fr a k<0∧t.size=128∧zeroB t=false):=fun k t hk ht=>by
    rw[W.al.pg] at hk
    by_cases e:i=a∧p=k
    · obtain⟨rfl,rfl⟩:=e
      rw[Ho.sw_eq hg ht] at hsw
      exact .inl hsw
    · rw[F1 a k e]
      exact hgp.sw k t hk ht
   by_cases e:a=i
   · subst e
     rw[heq rfl]
     refine ⟨hgp.cv,hgp.p0,hlm,by rw[W.al.pg];exact hgp.ls,?_,?_,by rw[W.al.pg];exact hgp.hd,fun k b hk hb h0=>?_,hsp⟩
     · rw[W.al.pg,←hgp.lu]
       exact List.length_set ..
     · rw[W.al.pg,←hgp.le]
       exact List.length_set ..
     · have hb2:(g.u.set p (decide (0≤(K.P.wr a p d).fr a p)))[k]?=some b:=hb
       rw[W.al.pg] at hk
       rw[List.getElem?_set] at hb2
       by_cases e2:p=k
       · subst e2
         rw[if_pos rfl,if_pos (by rw[hgp.lu];exact hk)] at hb2
         cases hb2
         exact decide_eq_false (by omega)
       · rw[if_neg e2] at hb2
         rw[F1 a k (fun h=>e2 h.2)] at h0
         exact hgp.us k b hk hb2 h0
   · rw[hne e]
     refine ⟨hgp.cv,hgp.p0,hlm,by rw[W.al.pg];exact hgp.ls,by rw[W.al.pg];exact hgp.lu,by rw[W.al.pg];exact hgp.le,by rw[W.al.pg];exact hgp.hd,fun k b hk hb h0=>?_,hsp⟩
     rw[W.al.pg] at hk
     rw[F1 a k (fun h=>e h.1.symm)] at h0
     exact hgp.us k b hk hb h0
 · rw[mark_text,Ho.text_sw,Ho.text_sw]
   have e1:(K.setP (K.P.wr i p d)).sw a b=K.sw a b:=rfl
   have e2:(K.setP (K.P.wr i p d)).P=K.P.wr i p d:=rfl
   rw[e1,e2,W.text a b hab]
   by_cases e:i=a∧p=b
   · obtain⟨rfl,rfl⟩:=e
     rw[if_pos hsw,if_pos ⟨rfl,rfl⟩,if_pos ⟨rfl,rfl⟩]
   · rw[if_neg e,if_neg e]
end Go.Proofs.YtbnngjhnkegliaaGreat
