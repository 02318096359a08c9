/-
  Texts joined: HrRead HrWrite HoPRes. No law is proved here.
-/
import Derived.Test.YtbnngjhnkegliaaGreatB23
import Derived.Test.YtbnngjhnkegliaaGreatB24
namespace Go.Proofs.YtbnngjhnkegliaaGreat
open Go.RowKit
theorem Ho.Ok.fitted {H:Ho} (h:H.Ok):H.Fit:=by
 have hl:=h.len H.P.M.length (nlr _)
 rw[List.take_length] at hl
 have hm:=h.p.m
 have hn:=h.n
 have ht:=h.t
 refine ⟨h.p.fit,⟨by omega,by omega⟩,h.d,⟨by omega,by omega⟩,fun g hg=>?_⟩
 obtain⟨i,hi⟩:=List.getElem?_of_mem hg
 obtain⟨l,hl2,hgo⟩:=h.page hi
 have hrb:=hgo.rb
 have hd:=hgo.hd
 have hll:=(h.p.l l (mem_at hl2)).2
 unfold I63
 omega
theorem HostAtR.at_ {base T B:Nat} {w:World} {H:Ho} (h:HostAtR base T B w H):HostAt base B w H:=by
 obtain⟨of,or',om,og,kf,kr,km,kg,us,gs,D,O⟩:=h
 exact⟨of,or',om,og,kf,kr,km,kg,us,gs,D,O.own⟩
structure Spot (K:Ho) (i p:Nat):Prop where
 ok:K.P.Ok
 g:∃ gX lX fX,K.G[i]?=some gX∧K.P.M[i]?=some lX∧lX[p]?=some fX∧gX.u.length=lX.length∧gX.e.length=lX.length∧1≤lX.length∧lX.length≤32∧(fX<0→gX.u[p]?=some false)
theorem Spot.of_ok {H:Ho} (hok:H.Ok) {i p:Nat} (hat:H.P.at i p):Spot H i p:=by
 obtain⟨g,hg⟩:=get_lt (hok.at_lt hat)
 obtain⟨l,f,hl,hf⟩:=id hat
 have hgo:=hok.g i g l hg hl
 have hll:=hok.p.l l (mem_at hl)
 have hp:=lt_of_get hf
 refine ⟨hok.p,g,l,f,hg,hl,hf,hgo.lu,hgo.le,hll.1,hll.2,fun h0=>?_⟩
 obtain⟨b,hb⟩:=get_lt (xs:=g.u) (k:=p) (by rw[hgo.lu];exact hp)
 rw[hgo.us p f b hf hb h0] at hb
 exact hb
theorem Spot.back {H K:Ho} (hok:H.Ok) {i p:Nat} {t:ByteArray} (hat:H.P.at i p) (hs:H.sw i p=t) (ht:t.size≠0) (hr:Roomed i p H K):Spot (K.back i p t) i p∧K.P.wok i p t=true:=by
 have hR:=read_ready hok hat hs ht hr
 obtain⟨hke,hfull⟩:=hr.kept hok hat
 have hKat:=(hke.al.at i p).2 hat
 have hz:t.size=128∧zeroB t=false:=by
  rcases hok.swp hat with h1|⟨_,h2,h3⟩
  · rw[hs] at h1
    exact absurd h1 ht
  · rw[hs] at h2 h3
    exact⟨h2,h3⟩
 have hwok:=wok_of_full hke.ok.p hKat hfull hz.1
 obtain⟨we1,we2⟩:=Pl.wr_eq hke.ok.p hKat hz.1
 have hwok':=hwok
 rw[we2] at hwok'
 have WL:=(Pl.wr_law hke.ok.p hKat hz.1).1 hwok'
 obtain⟨_,F2⟩:=Pl.wr_fr hke.ok.p hKat hwok'
 rw[←we1] at WL F2
 obtain⟨gK,hgK⟩:=get_lt (hke.ok.at_lt hKat)
 have hgp:=hke.ok.gmP hgK
 have hback:K.back i p t=(K.setP (K.P.wr i p t)).setG i { gK with s:=gK.s.set p ⟨#[]⟩ }:=by unfold Ho.back;rw[hgK]
 obtain⟨lX,fX,hlX,hfX⟩:=(WL.al.at i p).2 hKat
 have hpl:=WL.al.pg i
 rw[Pl.pages_eq hlX] at hpl
 have hfr:=Pl.fr_eq hlX hfX
 refine ⟨?_,hwok⟩
 rw[hback]
 refine ⟨WL.ok,_,lX,fX,by show (K.G.set i _)[i]?=_;rw[List.getElem?_set,if_pos rfl,if_pos (lt_of_get hgK)],hlX,hfX,by rw[hpl];exact hgp.lu,by rw[hpl];exact hgp.le,(WL.ok.l lX (mem_at hlX)).1,(WL.ok.l lX (mem_at hlX)).2,fun h0=>?_⟩
 have:=F2.2 hz.2
 omega
set_option maxRecDepth 100000 in
set_option maxHeartbeats 8000000 in
theorem rread_ok (v:Value) (H:Ho) (i p:Nat) (w:World) (ha:HoAt w v H) (hok:H.Ok) (hat:H.P.at i p):Calls Tryz.prog 28 #[v,.int .i64 i,.int .i64 p] w (RetRead i p H w):=by
 have VLc:=fun v w h=>rhvalid_any v H true w h hok.fitted hok.little (Iff.intro (fun _=>hok) (fun _=>rfl))
 have ISc:=fun v w h=>ris_any v H.P i p w h
 rw[Pl.at_is hat] at ISc
 have MNc:=fun v w h=>rmine_ok v H w h hok
 have HVL:=lh VLc;clear VLc
 have HIS:=lh ISc;clear ISc
 have HMN:=lh MNc;clear MNc
 have hi:=hok.at_lt hat
 obtain⟨g,hg⟩:=get_lt hi
 obtain⟨l,f,hl,hf⟩:=id hat
 have hgo:=hok.g i g l hg hl
 have hp:=lt_of_get hf
 have hll:=hok.p.l l (mem_at hl)
 obtain⟨t,ht⟩:=get_lt (xs:=g.s) (k:=p) (by rw[hgo.ls];exact hp)
 have hsw:=Ho.sw_eq hg ht
 have hsl:=hgo.ls
 obtain⟨of,or',om,og,kf,kr,km,kg,n,r,m,q,tx,dx,sx,HN,HR,HM,HQ,HT,HD,HS,rfl,kf1,kf2,kr1,kr2,km1,km2,kg1,kg2,h⟩:=HoAt.opened ha
 have h0:=h
 have HA:Hid (∀ w':World,Below w.heap.size w w'→HoAt w' (.agg #[.slice of n kf,.slice or' r kr,.slice om m km,.slice og q kg,.int .i64 tx,.int .u64 dx,.int .i64 sx]) H):=lh (fun w' hb=>by
  have:=(h0.below hb).at_
  rwa[HT.out,HD.out,HS.out] at this)
 have HPL:=lh h0.p
 have hiq:i<q:=by rw[←HQ.out];exact hi
 clear h h0
 have D1:=(HasBlock.made w #[.slice of n kf,.slice or' r kr,.slice om m km,.slice og q kg,.int .i64 tx,.int .u64 dx,.int .i64 sx] 30).alloc (.cells #[.slice none 0 0,.slice none 0 0,.slice none 0 0,.slice none 0 0,.int .i64 0,.int .u64 0,.int .i64 0] 30)
 have D2:=HasBlock.made (w.alloc (.cells #[.slice of n kf,.slice or' r kr,.slice om m km,.slice og q kg,.int .i64 tx,.int .u64 dx,.int .i64 sx] 30)) #[.slice none 0 0,.slice none 0 0,.slice none 0 0,.slice none 0 0,.int .i64 0,.int .u64 0,.int .i64 0] 30
 rw[World.size_alloc] at D2
 have hbw:Below w.heap.size w ((w.alloc (.cells #[.slice of n kf,.slice or' r kr,.slice om m km,.slice og q kg,.int .i64 tx,.int .u64 dx,.int .i64 sx] 30)).alloc (.cells #[.slice none 0 0,.slice none 0 0,.slice none 0 0,.slice none 0 0,.int .i64 0,.int .u64 0,.int .i64 0] 30)):=bel
 have hz0:w.heap.size+1+1≤((w.alloc (.cells #[.slice of n kf,.slice or' r kr,.slice om m km,.slice og q kg,.int .i64 tx,.int .u64 dx,.int .i64 sx] 30)).alloc (.cells #[.slice none 0 0,.slice none 0 0,.slice none 0 0,.slice none 0 0,.int .i64 0,.int .u64 0,.int .i64 0] 30)).heap.size:=by simp only[sizes];omega
 have HOK:=lh hok;clear hok
 have HAT:=lh hat;clear hat
 have HG:=lh hg;clear hg
 have HTT:=lh ht;clear ht
 have HSW:=lh hsw;clear hsw
 obtain⟨ql,hql⟩:∃ k,l.length=k:=⟨_,rfl⟩
 rw[hql] at hp hll hsl
 have HSL:=lh hsl
 clear hgo hi hl hf hql hsl
 go_enter Tryz.func28,Tryz.ntmps28
 obtain⟨D1_c,D1_f,D1_z⟩:=D1.all
 go_wp2_with fail
 clear D1_c D1_f D1_z
 with_reducible refine (HVL.out _ _ (HA.out _ hbw)).mono ?_
 rintro e w1 ⟨rfl,hb1⟩
 replace D1:=D1.below hb1
 replace D2:=D2.below hb1
 replace hbw:=hbw.trans (hb1.mono hbw.size)
 replace hz0:=Nat.le_trans hz0 hb1.size
 clear hb1
 obtain⟨D1_c,D1_f,D1_z⟩:=D1.all
 go_wp2_with fail
 clear D1_c D1_f D1_z
 with_reducible refine (HIS.out _ _ (HPL.out.below hbw)).mono ?_
 rintro e w2 ⟨rfl,hb2⟩
 replace D1:=D1.below hb2
 replace D2:=D2.below hb2
 replace hbw:=hbw.trans (hb2.mono hbw.size)
 replace hz0:=Nat.le_trans hz0 hb2.size
 clear hb2
 obtain⟨D1_c,D1_f,D1_z⟩:=D1.all
 go_wp2_with fail
 clear D1_c D1_f D1_z
 with_reducible refine (HMN.out _ _ (HA.out _ hbw)).mono ?_
 rintro e w3 ⟨T,of1,or1,om1,og1,kf1',kr1',km1',kg1',us1,gs1,rfl,R1,hT1,hb3⟩
 rw[HN.out,HR.out,HM.out,HQ.out] at R1 ⊢
 rw[HT.out,HD.out,HS.out]
 replace R1:=R1.lower (base':=w.heap.size+1+1) hz0
 replace D2:=D2.below hb3
 replace hbw:=hbw.trans (hb3.mono hbw.size)
 replace hz0:=Nat.le_trans hz0 hb3.size
 clear hb3 D1 HVL HIS HMN HA HPL
 go_upto_region 4 with (fail)
 have DR:=HasBlock.made w3 #[.slice of1 n kf1',.slice or1 r kr1',.slice om1 m km1',.slice og1 q kg1',.int .i64 tx,.int .u64 dx,.int .i64 sx] 30
 have hbx:Below w3.heap.size w3 (w3.alloc (.cells #[.slice of1 n kf1',.slice or1 r kr1',.slice om1 m km1',.slice og1 q kg1',.int .i64 tx,.int .u64 dx,.int .i64 sx] 30)):=(Below.refl _ _).alloc (nlr _) _
 replace D2:=D2.below hbx
 replace R1:=R1.below hbx
 replace hbw:=hbw.trans (hbx.mono hbw.size)
 have hz4:w3.heap.size<(w3.alloc (.cells #[.slice of1 n kf1',.slice or1 r kr1',.slice om1 m km1',.slice og1 q kg1',.int .i64 tx,.int .u64 dx,.int .i64 sx] 30)).heap.size:=by simp only[sizes];omega
 clear hbx
 generalize hW:w3.alloc (.cells #[.slice of1 n kf1',.slice or1 r kr1',.slice om1 m km1',.slice og1 q kg1',.int .i64 tx,.int .u64 dx,.int .i64 sx] 30)=w4 at D2 DR R1 hbw hz4 ⊢
 obtain⟨B,hB⟩:∃ B,w3.heap.size=B:=⟨_,rfl⟩
 rw[hB] at DR hz0 hT1 hz4 ⊢
 clear hW hB
 have hA1:HostAtR (w.heap.size+1+1) T B w4 H:=HostAtR.mk HN.out HR.out HM.out HQ.out HT.out HD.out HS.out DR R1
 have hTz:T≤w4.heap.size:=by omega
 have hleT:w.heap.size+1+1≤T:=R1.le
 obtain⟨bG,cG,y,so,sc,uo,uc,eo,ec,e0,b1,b2,hy,ys,yu,ye,_,cg2,_,sc2,_,uc2,_,ec2,cs,cfz⟩:=R1.g.guest HG.out
 injection e0 with e0 e9 e10
 subst e0 e10
 clear e9
 obtain⟨rs1,_,_⟩:=R1.g.r i _ g hy HG.out
 have c5:=cs 5 _ rfl
 rw[ys] at rs1 c5
 (try dsimp only at c5)
 rw[HSL.out] at rs1 c5
 obtain⟨gS,rfl,gs1',gs2'⟩:=rs1.addr HSL.out (by omega)
 obtain⟨ct,_⟩:=rs1.at HTT.out
 clear cs cfz hy ys yu ye
 have i0:(0:Int)≤(i:Int):=by omega
 have iq:(i:Int)<(q:Int):=by omega
 have p0:(0:Int)≤(p:Int):=by omega
 have pq:(p:Int)<(ql:Int):=by omega
 have hii:=isEmpty_iff t
 obtain⟨tb,htb⟩:∃ b,decide (t.size=0)=b:=⟨_,rfl⟩
 rw[htb] at hii
 have HTB:=lh htb
 clear htb
 obtain⟨DR_c,DR_f,DR_z⟩:=DR.all
 go_upto_if 37 with (fail)
 clear DR_c DR_f DR_z
 clear c5 ct hii
 go_cut [] from 38 to 58 (fun wx=>∃ K1:Ho,Hid (Spot K1 i p)∧Hid ((t.size=0∧K1=H)∨(t.size≠0∧∃ K,Roomed i p H K∧K1=K.back i p t))∧HostAt (w.heap.size+1+1) B wx K1∧HasBlock wx (w.heap.size+1) #[.slice none 0 0,.slice none 0 0,.slice none 0 0,.slice none 0 0,.int .i64 0,.int .u64 0,.int .i64 0] 30∧Below w.heap.size w wx∧B<wx.heap.size)
 case first =>
  cases tb
  · have ht0:=of_decide_eq_false HTB.out
    go_wp2_with fail
    with_reducible refine (rroom_ok (w.heap.size+1+1) T B H i p w4 hA1 hT1 HOK.out HAT.out hTz).mono ?_
    rintro e w5 ⟨rfl,⟨K,hrm,hKo,hK⟩,hbb⟩
    obtain⟨hke,hfull⟩:=hrm.kept HOK.out HAT.out
    have hKat:=(hke.al.at i p).2 HAT.out
    obtain⟨hspot,hwok⟩:=Spot.back HOK.out HAT.out HSW.out ht0 hrm
    obtain⟨gK,hgK⟩:=get_lt (hKo.at_lt hKat)
    have hgKp:=hKo.gmP hgK
    have hback:K.back i p t=((K.setG i { gK with s:=gK.s.set p ⟨#[]⟩ }).setP (K.P.wr i p t)):=by unfold Ho.back;rw[hgK];rfl
    have htz:t.size≤9223372036854775807:=by
     rcases HOK.out.swp HAT.out with h1|⟨_,h2,_⟩
     · rw[HSW.out] at h1
       omega
     · rw[HSW.out] at h2
       omega
    have WRc:=fun v' w h=>rwrite_or v' K.P i p t w h hKo.p.fit htz
    rw[hwok] at WRc
    obtain⟨P2,hP2⟩:∃ P,K.P.wr i p t=P:=⟨_,rfl⟩
    rw[hP2] at WRc hback
    have HWR:=lh WRc
    have HBK:=lh hback
    have HSP:=lh hspot
    have HRM:=lh hrm
    have D25:HasBlock w5 (w.heap.size+1) #[.slice none 0 0,.slice none 0 0,.slice none 0 0,.slice none 0 0,.int .i64 0,.int .u64 0,.int .i64 0] 30:=(hbb.block _ (Nat.lt_succ_self _)).trans D2
    have hz5:=hbb.size
    have hplK:(K.P.pages i).length=(H.P.pages i).length:=hke.al.pg i
    have hsl4:gK.s.length=ql:=by
     have:=hgKp.ls
     have h2:=(HOK.out.gmP HG.out).ls
     rw[HSL.out] at h2
     omega
    have hqK:K.G.length=q:=by rw[hke.gl];exact HQ.out
    clear WRc hback hspot hrm hP2 hwok hgKp hplK hfull htz
    obtain⟨of4,or4,om4,og4,kf4,kr4,km4,kg4,us4,gs4,D4,O4⟩:=hK
    obtain⟨bG4,cG4,y4,so4,sc4,uo4,uc4,eo4,ec4,e0,b14,b24,hy,ys,yu,ye,_,cg2,_,sc2,_,uc2,_,ec2,cs4,cfz⟩:=O4.g.guest hgK
    injection e0 with e0 e9 e10
    subst e0 e10
    clear e9
    obtain⟨ys1,yu1,ye1⟩:=y4
    dsimp only at ys yu ye
    subst ys yu ye
    obtain⟨rs4,_,_⟩:=O4.g.r i _ gK hy hgK
    dsimp only at rs4
    have c54:w5.cell? ⟨bG4,i*9+5,none⟩=_:=cs4 5 _ rfl
    dsimp only at c54
    rw[hsl4] at c54 rs4 hy
    obtain⟨gS4,rfl,gs1',gs2'⟩:=rs4.addr hsl4 (by omega)
    obtain⟨s0,hs0⟩:=get_lt (xs:=gK.s) (k:=p) (by omega)
    obtain⟨cS0,fS0⟩:=rs4.at hs0
    have hnSB:gS4≠B:=fun e=>own_off rs4.raw D4 (by decide) (by rw[e];rfl)
    rw[hqK] at D4 O4
    obtain⟨nK,hnK⟩:∃ n,K.P.F.length=n:=⟨_,rfl⟩
    obtain⟨rK,hrK⟩:∃ n,K.P.R.length=n:=⟨_,rfl⟩
    obtain⟨mK,hmK⟩:∃ n,K.P.M.length=n:=⟨_,rfl⟩
    obtain⟨tK,htK⟩:∃ n,K.t=n:=⟨_,rfl⟩
    obtain⟨dK,hdK⟩:∃ n,K.d=n:=⟨_,rfl⟩
    obtain⟨sK,hsK⟩:∃ n,K.n=n:=⟨_,rfl⟩
    rw[hnK,hrK,hmK] at D4 O4
    rw[htK,hdK,hsK] at D4
    have HGK:=lh hgK
    have HYK:=lh hy
    have HX4:=lh (And.intro htK (And.intro hdK (And.intro hsK hqK)))
    clear htK hdK hsK hqK hnK hrK hmK hs0 hgK hy hke hKat hKo cs4 cfz hsl4
    have R5:=O4.putS HGK.out HYK.out rfl p ⟨#[]⟩
    have D5:=D4.set_ne (b':=gS4) (fun e=>hnSB e.symm) (j:=p) (.string ⟨#[]⟩)
    have D26:=D25.set_ne (b':=gS4) (by omega) (j:=p) (.string ⟨#[]⟩)
    have B5:=(hbw.trans (hbb.mono (by omega))).setCell (p:=⟨gS4,p,none⟩) (by dsimp only;omega) (.string ⟨#[]⟩)
    have hz6:B<(World.setCell w5 ⟨gS4,p,none⟩ (.string ⟨#[]⟩)).heap.size:=by simp only[sizes];omega
    obtain⟨D4_c,D4_f,D4_z⟩:=D4.all
    go_upto_region 8 with (fail)
    clear D4_c D4_f D4_z
    generalize hW:World.setCell w5 ⟨gS4,p,none⟩ (.string ⟨#[]⟩)=w6 at R5 D5 D26 B5 hz6 ⊢
    clear hW D4 D25 O4 rs4 c54 cS0 fS0 hbb
    obtain⟨D5_c,D5_f,D5_z⟩:=D5.all
    go_wp2_with fail
    clear D5_c D5_f D5_z
    with_reducible refine (HWR.out _ _ R5.p.row).mono ?_
    rintro e w7 (⟨hno,_⟩|⟨_,of5,or5,om5,kf5,kr5,km5,us5,rfl,O5,hb5⟩)
    · cases hno
    obtain⟨n5,hgn⟩:∃ n,(Pl.F P2).length=n:=⟨_,rfl⟩
    obtain⟨r5,hgr⟩:∃ n,(Pl.R P2).length=n:=⟨_,rfl⟩
    obtain⟨m5,hgm⟩:∃ n,(Pl.M P2).length=n:=⟨_,rfl⟩
    rw[hgn,hgr,hgm] at O5 ⊢
    have HG5:=lh (And.intro hgn (And.intro hgr hgm))
    clear hgn hgr hgm
    have R7:=R5.below hb5
    have D7:=D5.below hb5
    have D27:=D26.below hb5
    have B7:=B5.trans (hb5.mono B5.size)
    have hz7:=hb5.size
    have hbz6:=B5.size
    have Oa:=R7.own.newPool (O5.lower (by omega)) R5.own.ltG O5.ge
    have Ob:=((Oa.setbox (j:=0) D7 hostT (.slice of5 n5 kf5)).setbox (j:=1) (D7.put7_0 (.slice of5 n5 kf5)) hostT (.slice or5 r5 kr5)).setbox (j:=2) ((D7.put7_0 (.slice of5 n5 kf5)).put7_1 (.slice or5 r5 kr5)) hostT (.slice om5 m5 km5)
    have Db:=D7.poolIn (.slice of5 n5 kf5) (.slice or5 r5 kr5) (.slice om5 m5 km5)
    have B8:=((B7.setCell (p:=⟨B,0,none⟩) (by dsimp only;omega) (.slice of5 n5 kf5)).setCell (p:=⟨B,1,none⟩) (by dsimp only;omega) (.slice or5 r5 kr5)).setCell (p:=⟨B,2,none⟩) (by dsimp only;omega) (.slice om5 m5 km5)
    have D28:=((D27.set_ne (b':=B) (by omega) (j:=0) (.slice of5 n5 kf5)).set_ne (b':=B) (by omega) (j:=1) (.slice or5 r5 kr5)).set_ne (b':=B) (by omega) (j:=2) (.slice om5 m5 km5)
    have HAE:=HostAt.mk (H:=(K.setG i { gK with s:=gK.s.set p ⟨#[]⟩ }).setP P2) HG5.out.1 HG5.out.2.1 HG5.out.2.2 ((List.length_set ..).trans HX4.out.2.2.2) HX4.out.1 HX4.out.2.1 HX4.out.2.2.1 Db Ob
    rw[←HBK.out] at HAE
    have hz8:B<((((World.setCell w7 ⟨B,0,none⟩ (.slice of5 n5 kf5)).setCell ⟨B,1,none⟩ (.slice or5 r5 kr5)).setCell ⟨B,2,none⟩ (.slice om5 m5 km5))).heap.size:=by simp only[sizes];omega
    obtain⟨D7_c,D7_f,D7_z⟩:=D7.all
    go_wp2_with fail
    go_meet
    exact⟨_,HSP,lh (.inr ⟨ht0,K,HRM.out,rfl⟩),HAE,D28,B8,hz8⟩
  · have ht0:=of_decide_eq_true HTB.out
    go_wp2_with fail
    go_meet
    exact⟨H,lh (Spot.of_ok HOK.out HAT.out),lh (.inl ⟨ht0,rfl⟩),hA1.at_,D2,hbw,hz4⟩
 case rest =>
  obtain⟨K1,HSP,HRT,hAc,D2c,hbc,hzc⟩:=hcut
  clear R1 DR D2 hbw hA1 gs1' gs2' b1 b2 cg2 sc2 uc2 ec2 rs1 HTB hTz hT1 hz4 pq iq
  obtain⟨of6,or6,om6,og6,kf6,kr6,km6,kg6,us6,gs6,D6,O6⟩:=hAc
  obtain⟨hokP,gX,lX,fX,hgX,hlX,hfX,huX,heX,hl1,hl32,hneg⟩:=HSP.out
  obtain⟨bG6,cG6,y6,so6,sc6,uo6,uc6,eo6,ec6,e0,b16,b26,hy,ys,yu,ye,_,cg2,_,sc2,_,uc2,_,ec2,cs6,cfz⟩:=O6.guest hgX
  injection e0 with e0 e9 e10
  subst e0 e10
  clear e9
  obtain⟨ys1,yu1,ye1⟩:=y6
  dsimp only at ys yu ye
  subst ys yu ye
  obtain⟨_,_,rs6⟩:=O6.r i _ gX hy hgX
  dsimp only at rs6
  have c86:wc.cell? ⟨bG6,i*9+8,none⟩=_:=cs6 8 _ rfl
  dsimp only at c86
  have hpX:=lt_of_get hfX
  have hiX:i<K1.G.length:=lt_of_get hgX
  obtain⟨zl,hzl⟩:∃ k,lX.length=k:=⟨_,rfl⟩
  rw[hzl] at hl1 hl32 huX heX hpX
  rw[heX] at c86 rs6
  obtain⟨gE6,rfl,ge1,ge2⟩:=rs6.addr heX (by omega)
  obtain⟨x0,hx0⟩:=get_lt (xs:=gX.e) (k:=p) (by omega)
  obtain⟨cE6,fE6⟩:=rs6.at hx0
  have n3:gE6≠B:=fun e=>own_off rs6 D6 (by decide) (by rw[e];rfl)
  have O7:=O6.putE hgX hy (by rw[heX]) p true
  have D7:=D6.set_ne (fun e=>n3 e.symm) (j:=p) (.bool true)
  have D27:=D2c.set_ne (b':=gE6) (by omega) (j:=p) (.bool true)
  have B7:=hbc.setCell (p:=⟨gE6,p,none⟩) (by dsimp only;omega) (.bool true)
  have hz7:B<(World.setCell wc ⟨gE6,p,none⟩ (.bool true)).heap.size:=by simp only[sizes];omega
  have hg2:(K1.setG i { gX with e:=gX.e.set p true }).G[i]?=some { gX with e:=gX.e.set p true }:=by
   show (K1.G.set i _)[i]?=_
   rw[List.getElem?_set,if_pos rfl,if_pos hiX]
  obtain⟨zq,hzq⟩:∃ k,K1.G.length=k:=⟨_,rfl⟩
  rw[hzq] at hiX
  have HZQ:=lh hzq
  rw[hzq] at D6
  have i0:(0:Int)≤(i:Int):=by omega
  have iq:(i:Int)<(zq:Int):=by omega
  have p0:(0:Int)≤(p:Int):=by omega
  have pq:(p:Int)<(zl:Int):=by omega
  clear hzq cs6 cfz hx0 rs6
  obtain⟨D6_c,D6_f,D6_z⟩:=D6.all
  go_upto_region 10 with (fail)
  clear D6_c D6_f D6_z
  obtain⟨K2,hK2⟩:∃ K,K1.setG i { gX with e:=gX.e.set p true }=K:=⟨_,rfl⟩
  have hP2:K2.P=K1.P:=by rw[←hK2];rfl
  have hG2:K2.G.length=zq:=by rw[←hK2];exact (List.length_set ..).trans HZQ.out
  have hX2:K2.t=K1.t∧K2.d=K1.d∧K2.n=K1.n:=by rw[←hK2];exact⟨rfl,rfl,rfl⟩
  have hmk:K1.mark i p=K2.setG i { gX with e:=gX.e.set p true,u:=gX.u.set p (decide (0≤fX)) }:=by
   rw[←hK2]
   unfold Ho.mark
   rw[hgX,Pl.fr_eq hlX hfX]
   unfold Ho.setG Gm.mark
   dsimp only
   rw[List.set_set]
  rw[hK2] at O7 hg2
  obtain⟨gY,hgY⟩:∃ g:Gm,({ gX with e:=gX.e.set p true }:Gm)=g:=⟨_,rfl⟩
  have huY:gY.u=gX.u:=by rw[←hgY]
  have hmk2:({ gX with e:=gX.e.set p true,u:=gX.u.set p (decide (0≤fX)) }:Gm)={ gY with u:=gY.u.set p (decide (0≤fX)) }:=by rw[←hgY]
  rw[hmk2] at hmk
  rw[hgY] at hg2
  rw[←huY] at huX hneg
  clear hmk2 huY
  generalize hW:World.setCell wc ⟨gE6,p,none⟩ (.bool true)=w7 at O7 D7 D27 B7 hz7 ⊢
  clear hW O6 D2c hbc hzc c86 cE6 fE6 hy hgX hgY hK2 D6
  rw[←hP2] at hlX
  obtain⟨n7,hn7⟩:∃ n,K1.P.F.length=n:=⟨_,rfl⟩
  obtain⟨r7,hr7⟩:∃ n,K1.P.R.length=n:=⟨_,rfl⟩
  obtain⟨m7,hm7⟩:∃ n,K1.P.M.length=n:=⟨_,rfl⟩
  obtain⟨t7,ht7⟩:∃ n,K1.t=n:=⟨_,rfl⟩
  obtain⟨d7,hd7⟩:∃ n,K1.d=n:=⟨_,rfl⟩
  obtain⟨s7,hs7⟩:∃ n,K1.n=n:=⟨_,rfl⟩
  rw[HZQ.out] at O7 D7
  rw[hn7,hr7,hm7] at O7 D7
  rw[ht7,hd7,hs7] at D7
  rw[←hP2] at hn7 hr7 hm7
  rw[←hX2.1] at ht7
  rw[←hX2.2.1] at hd7
  rw[←hX2.2.2] at hs7
  have hokP2:K2.P.Ok:=by rw[hP2];exact hokP
  have hPK:=hP2
  have HG7:=lh (And.intro hn7 (And.intro hr7 (And.intro hm7 (And.intro hG2 (And.intro ht7 (And.intro hd7 hs7))))))
  have him:i<m7:=by rw[←hm7];exact lt_of_get hlX
  clear hX2 hn7 hr7 hm7 hG2 ht7 hd7 hs7 hP2 HZQ
  obtain⟨bG7,cG7,y7,so7,sc7,uo7,uc7,eo7,ec7,e0,b17,b27,hy,ys,yu,ye,_,cg2,_,sc2,_,uc2,_,ec2,cs7,cfz⟩:=O7.guest hg2
  injection e0 with e0 e9 e10
  injection e0 with e0
  injection e0 with e0 _ _
  subst e0 e10
  clear e9
  obtain⟨mb7,km7',fb7,lc7,e0,hus,cm7,cf7,_,_,hmb,_,hfb,_⟩:=O7.p.page hlX hfX
  injection e0 with e0 e9 e10
  subst e0 e10
  clear e9
  obtain⟨ys1,yu1,ye1⟩:=y7
  dsimp only at ys yu ye
  subst ys yu ye
  obtain⟨_,rs7,_⟩:=O7.r i _ gY hy hg2
  dsimp only at rs7
  have c67:w7.cell? ⟨bG6,i*9+6,none⟩=_:=cs7 6 _ rfl
  dsimp only at c67
  rw[huX] at c67 rs7
  rw[hzl] at cm7 
  obtain⟨gU7,rfl,gu1,gu2⟩:=rs7.addr huX (by omega)
  obtain⟨u0,hu0⟩:=get_lt (xs:=gY.u) (k:=p) (by omega)
  obtain⟨cU7,fU7⟩:=rs7.at hu0
  have n4:gU7≠B:=fun e=>own_off rs7 D7 (by decide) (by rw[e];rfl)
  have im:(i:Int)<(m7:Int):=by omega
  have O8:=O7.putU hg2 hy (by rw[huX]) p true
  have D8:=D7.set_ne (fun e=>n4 e.symm) (j:=p) (.bool true)
  have D28:=D27.set_ne (b':=gU7) (by omega) (j:=p) (.bool true)
  have B8:=B7.setCell (p:=⟨gU7,p,none⟩) (by dsimp only;omega) (.bool true)
  have hz8:B<(World.setCell w7 ⟨gU7,p,none⟩ (.bool true)).heap.size:=by simp only[sizes];omega
  clear cs7 cfz hus rs7
  obtain⟨D7_c,D7_f,D7_z⟩:=D7.all
  go_upto_if 76 with (fail)
  clear D7_c D7_f D7_z
  obtain⟨vb,hvb⟩:∃ b,decide (fX ≥ 0)=b:=⟨_,rfl⟩
  rw[hvb]
  have HVB:=lh hvb
  clear hvb
  go_cut [] from 77 to 84 (fun wx=>HostAt (w.heap.size+1+1) B wx (K1.mark i p)∧HasBlock wx (w.heap.size+1) #[.slice none 0 0,.slice none 0 0,.slice none 0 0,.slice none 0 0,.int .i64 0,.int .u64 0,.int .i64 0] 30∧Below w.heap.size w wx∧B<wx.heap.size)
  case first =>
   cases vb
   case true =>
    have hf0:0≤fX:=of_decide_eq_true HVB.out
    rw[decide_eq_true hf0] at hmk
    have HAE:=HostAt.mk (H:=K2.setG i { gY with u:=gY.u.set p true }) HG7.out.1 HG7.out.2.1 HG7.out.2.2.1 ((List.length_set ..).trans HG7.out.2.2.2.1) HG7.out.2.2.2.2.1 HG7.out.2.2.2.2.2.1 HG7.out.2.2.2.2.2.2 D8 O8
    rw[←hmk] at HAE
    clear cm7 cf7
    obtain⟨D7_c,D7_f,D7_z⟩:=D7.all
    go_wp2_with fail
    go_meet
    exact⟨HAE,D28,B8,hz8⟩
   case false =>
    have hf0:¬0≤fX:=of_decide_eq_false HVB.out
    rw[decide_eq_false hf0,set_same (hneg (by omega))] at hmk
    have hself:K2.setG i { gY with u:=gY.u }=K2:=by
     unfold Ho.setG
     rw[set_same hg2]
    rw[hself] at hmk
    have HAE:=HostAt.mk (H:=K2) HG7.out.1 HG7.out.2.1 HG7.out.2.2.1 HG7.out.2.2.2.1 HG7.out.2.2.2.2.1 HG7.out.2.2.2.2.2.1 HG7.out.2.2.2.2.2.2 D7 O7
    rw[←hmk] at HAE
    go_wp2_with fail
    go_meet
    exact⟨HAE,D27,B7,hz7⟩
  case rest =>
   obtain⟨hAm,D29,hbm,hzm⟩:=hcut
   clear O7 D7 D27 B7 hz7 O8 D8 D28 B8 hz8 cm7 cf7 c67 cU7 fU7 hu0 gu1 gu2 b17 b27 cg2 sc2 uc2 ec2 hmb hfb
   have hPm:(K1.mark i p).P=K1.P:=by rw[hmk];exact hPK
   have hat9:(K1.mark i p).P.at i p:=by
    rw[hPm,←hPK]
    exact⟨lX,fX,hlX,hfX⟩
   have RDc:=fun v' w h=>rread_any v' (K1.mark i p).P i p w h (by rw[hPm];exact hokP.fit)
   rw[Pl.read_eq (by rw[hPm];exact hokP) hat9,Pl.at_has (by rw[hPm];exact hokP) hat9] at RDc
   obtain⟨tx9,htx9⟩:∃ x,(K1.mark i p).P.text i p=x:=⟨_,rfl⟩
   rw[htx9] at RDc
   have HRD:=lh RDc
   have HTX:=lh htx9
   obtain⟨of9,or9,om9,og9,kf9,kr9,km9,kg9,us9,gs9,D9,O9⟩:=hAm
   obtain⟨Hx,hHx⟩:∃ Hx,K1.mark i p=Hx:=⟨_,rfl⟩
   rw[hHx] at D9 O9 HRD HTX
   have HHX:=lh hHx
   clear RDc hat9 hPm htx9 hHx hmk hlX hfX huX heX hneg hg2 hy hl1 hl32
   obtain⟨n9,hn9⟩:∃ n,Hx.P.F.length=n:=⟨_,rfl⟩
   obtain⟨r9,hr9⟩:∃ n,Hx.P.R.length=n:=⟨_,rfl⟩
   obtain⟨m9,hm9⟩:∃ n,Hx.P.M.length=n:=⟨_,rfl⟩
   obtain⟨q9,hq9⟩:∃ n,Hx.G.length=n:=⟨_,rfl⟩
   obtain⟨t9,ht9⟩:∃ n,Hx.t=n:=⟨_,rfl⟩
   obtain⟨d9,hd9⟩:∃ n,Hx.d=n:=⟨_,rfl⟩
   obtain⟨s9,hs9⟩:∃ n,Hx.n=n:=⟨_,rfl⟩
   rw[hn9,hr9,hm9,hq9] at O9 D9
   rw[ht9,hd9,hs9] at D9
   have H9:=lh (And.intro hn9 (And.intro hr9 (And.intro hm9 (And.intro hq9 (And.intro ht9 (And.intro hd9 hs9))))))
   clear hn9 hr9 hm9 hq9 ht9 hd9 hs9
   obtain⟨D9_c,D9_f,D9_z⟩:=D9.all
   go_wp2_with fail
   clear D9_c D9_f D9_z
   with_reducible refine (HRD.out _ _ O9.row.p).mono ?_
   rintro e wn ⟨rfl,hbn⟩
   replace D9:=D9.below hbn
   replace O9:=O9.below hbn
   replace D29:=D29.below hbn
   replace hbm:=hbm.trans (hbn.mono hbm.size)
   clear hbn
   have nB:w.heap.size+1≠B:=by omega
   obtain⟨D29_c,D29_f,D29_z⟩:=D29.all
   obtain⟨D9_c,D9_f,D9_z⟩:=D9.all
   go_wp2_with fail
   refine bodyPost_ret (v:=.tuple #[.agg #[.slice of9 n9 kf9,.slice or9 r9 kr9,.slice om9 m9 km9,.slice og9 q9 kg9,.int .i64 t9,.int .u64 d9,.int .i64 s9],.string tx9,.int .i64 0]) (by simp [results,Tryz.results28,go_sem,D29_c]) rfl ?_
   have hrt:ReadTo H i p Hx:=by
    refine ⟨g,t,HG.out,HTT.out,?_⟩
    rcases HRT.out with ⟨h1,h2⟩|⟨h1,K,h2,h3⟩
    · exact .inl ⟨h1,by rw[←HHX.out,h2]⟩
    · exact .inr ⟨h1,K,h2,by rw[←HHX.out,h3]⟩
   refine ⟨Hx,hrt,?_⟩
   rw[HTX.out]
   exact hoRet' (k:=fun v=>.tuple #[v,.string tx9,.int .i64 0]) H9.out.1 H9.out.2.1 H9.out.2.2.1 H9.out.2.2.2.1 H9.out.2.2.2.2.1 H9.out.2.2.2.2.2.1 H9.out.2.2.2.2.2.2 (O9.fill7 (by omega) _ _ _ _ _ _ _) (Below.fill7 hbm (by omega) _ _ _ _ _ _ _)
set_option maxRecDepth 100000 in
set_option maxHeartbeats 8000000 in
theorem rwrite_ok (v:Value) (H:Ho) (i p:Nat) (d:ByteArray) (w:World) (ha:HoAt w v H) (hok:H.Ok) (hat:H.P.at i p) (hd:d.size=128):Calls Tryz.prog 29 #[v,.int .i64 i,.int .i64 p,.string d] w (RetWrite i p d H w):=by
 have ZC:=fun w=>zero_any d w (by omega)
 have HZC:=lh ZC
 clear ZC
 have HDD:=lh hd
 have hd1:((d.size:Int) != 128)=false:=by rw[hd];rfl
 have hd2:(d.size != 128)=false:=by rw[hd];rfl
 clear hd
 obtain⟨hcl,hclP⟩:=clear_ok hok (i:=i) (p:=p)
 have VLc:=fun v w h=>rhvalid_any v H true w h hok.fitted hok.little (Iff.intro (fun _=>hok) (fun _=>rfl))
 have ISc:=fun v w h=>ris_any v H.P i p w h
 rw[Pl.at_is hat] at ISc
 have MNc:=fun v w h=>rmine_ok v H w h hok
 have HVL:=lh VLc;clear VLc
 have HIS:=lh ISc;clear ISc
 have HMN:=lh MNc;clear MNc
 have hi:=hok.at_lt hat
 obtain⟨g,hg⟩:=get_lt hi
 obtain⟨l,f,hl,hf⟩:=id hat
 have hgo:=hok.g i g l hg hl
 have hp:=lt_of_get hf
 have hll:=hok.p.l l (mem_at hl)
 obtain⟨t,ht⟩:=get_lt (xs:=g.s) (k:=p) (by rw[hgo.ls];exact hp)
 have hcle:H.clear i p=H.setG i { g with s:=g.s.set p ⟨#[]⟩ }:=by unfold Ho.clear;rw[hg]
 have hsl:=hgo.ls
 obtain⟨of,or',om,og,kf,kr,km,kg,n,r,m,q,tx,dx,sx,HN,HR,HM,HQ,HT,HD,HS,rfl,kf1,kf2,kr1,kr2,km1,km2,kg1,kg2,h⟩:=HoAt.opened ha
 have h0:=h
 have HA:Hid (∀ w':World,Below w.heap.size w w'→HoAt w' (.agg #[.slice of n kf,.slice or' r kr,.slice om m km,.slice og q kg,.int .i64 tx,.int .u64 dx,.int .i64 sx]) H):=lh (fun w' hb=>by
  have:=(h0.below hb).at_
  rwa[HT.out,HD.out,HS.out] at this)
 have HPL:=lh h0.p
 have hiq:i<q:=by rw[←HQ.out];exact hi
 clear h h0
 have D1:=(HasBlock.made w #[.slice of n kf,.slice or' r kr,.slice om m km,.slice og q kg,.int .i64 tx,.int .u64 dx,.int .i64 sx] 30).alloc (.cells #[.slice none 0 0,.slice none 0 0,.slice none 0 0,.slice none 0 0,.int .i64 0,.int .u64 0,.int .i64 0] 30)
 have D2:=HasBlock.made (w.alloc (.cells #[.slice of n kf,.slice or' r kr,.slice om m km,.slice og q kg,.int .i64 tx,.int .u64 dx,.int .i64 sx] 30)) #[.slice none 0 0,.slice none 0 0,.slice none 0 0,.slice none 0 0,.int .i64 0,.int .u64 0,.int .i64 0] 30
 rw[World.size_alloc] at D2
 have hbw:Below w.heap.size w ((w.alloc (.cells #[.slice of n kf,.slice or' r kr,.slice om m km,.slice og q kg,.int .i64 tx,.int .u64 dx,.int .i64 sx] 30)).alloc (.cells #[.slice none 0 0,.slice none 0 0,.slice none 0 0,.slice none 0 0,.int .i64 0,.int .u64 0,.int .i64 0] 30)):=bel
 have hz0:w.heap.size+1+1≤((w.alloc (.cells #[.slice of n kf,.slice or' r kr,.slice om m km,.slice og q kg,.int .i64 tx,.int .u64 dx,.int .i64 sx] 30)).alloc (.cells #[.slice none 0 0,.slice none 0 0,.slice none 0 0,.slice none 0 0,.int .i64 0,.int .u64 0,.int .i64 0] 30)).heap.size:=by simp only[sizes];omega
 have HOK:=lh hok;clear hok
 have HAT:=lh hat;clear hat
 have HG:=lh hg;clear hg
 have HTT:=lh ht;clear ht
 have HCO:=lh hcl;clear hcl
 have HCP:=lh hclP;clear hclP
 have HCE:=lh hcle;clear hcle
 have HL:=lh hl
 have HF:=lh hf
 obtain⟨ql,hql⟩:∃ k,l.length=k:=⟨_,rfl⟩
 rw[hql] at hp hll hsl
 have HSL:=lh hsl
 clear hgo hi hl hf hql hsl
 go_enter Tryz.func29,Tryz.ntmps29
 obtain⟨D1_c,D1_f,D1_z⟩:=D1.all
 go_wp2_with fail
 clear D1_c D1_f D1_z
 with_reducible refine (HVL.out _ _ (HA.out _ hbw)).mono ?_
 rintro e w1 ⟨rfl,hb1⟩
 replace D1:=D1.below hb1
 replace D2:=D2.below hb1
 replace hbw:=hbw.trans (hb1.mono hbw.size)
 replace hz0:=Nat.le_trans hz0 hb1.size
 clear hb1
 obtain⟨D1_c,D1_f,D1_z⟩:=D1.all
 go_wp2_with fail
 clear D1_c D1_f D1_z
 with_reducible refine (HIS.out _ _ (HPL.out.below hbw)).mono ?_
 rintro e w2 ⟨rfl,hb2⟩
 replace D1:=D1.below hb2
 replace D2:=D2.below hb2
 replace hbw:=hbw.trans (hb2.mono hbw.size)
 replace hz0:=Nat.le_trans hz0 hb2.size
 clear hb2
 obtain⟨D1_c,D1_f,D1_z⟩:=D1.all
 go_wp2_with fail
 clear D1_c D1_f D1_z
 with_reducible refine (HMN.out _ _ (HA.out _ hbw)).mono ?_
 rintro e w3 ⟨T,of1,or1,om1,og1,kf1',kr1',km1',kg1',us1,gs1,rfl,R1,hT1,hb3⟩
 rw[HN.out,HR.out,HM.out,HQ.out] at R1 ⊢
 rw[HT.out,HD.out,HS.out]
 replace R1:=R1.lower (base':=w.heap.size+1+1) hz0
 replace D2:=D2.below hb3
 replace hbw:=hbw.trans (hb3.mono hbw.size)
 replace hz0:=Nat.le_trans hz0 hb3.size
 clear hb3 D1 HVL HIS HMN HA HPL
 go_upto_region 4 with (fail)
 have DR:=HasBlock.made w3 #[.slice of1 n kf1',.slice or1 r kr1',.slice om1 m km1',.slice og1 q kg1',.int .i64 tx,.int .u64 dx,.int .i64 sx] 30
 have hbx:Below w3.heap.size w3 (w3.alloc (.cells #[.slice of1 n kf1',.slice or1 r kr1',.slice om1 m km1',.slice og1 q kg1',.int .i64 tx,.int .u64 dx,.int .i64 sx] 30)):=(Below.refl _ _).alloc (nlr _) _
 replace D2:=D2.below hbx
 replace R1:=R1.below hbx
 replace hbw:=hbw.trans (hbx.mono hbw.size)
 have hz4:w3.heap.size<(w3.alloc (.cells #[.slice of1 n kf1',.slice or1 r kr1',.slice om1 m km1',.slice og1 q kg1',.int .i64 tx,.int .u64 dx,.int .i64 sx] 30)).heap.size:=by simp only[sizes];omega
 clear hbx
 generalize hW:w3.alloc (.cells #[.slice of1 n kf1',.slice or1 r kr1',.slice om1 m km1',.slice og1 q kg1',.int .i64 tx,.int .u64 dx,.int .i64 sx] 30)=w4 at D2 DR R1 hbw hz4 ⊢
 obtain⟨B,hB⟩:∃ B,w3.heap.size=B:=⟨_,rfl⟩
 rw[hB] at DR hz0 hT1 hz4 ⊢
 clear hW hB
 have hA1:HostAtR (w.heap.size+1+1) T B w4 H:=HostAtR.mk HN.out HR.out HM.out HQ.out HT.out HD.out HS.out DR R1
 have hTz:T≤w4.heap.size:=by omega
 have hleT:w.heap.size+1+1≤T:=R1.le
 obtain⟨bG,cG,y,so,sc,uo,uc,eo,ec,e0,b1,b2,hy,ys,yu,ye,_,cg2,_,sc2,_,uc2,_,ec2,cs,cfz⟩:=R1.g.guest HG.out
 injection e0 with e0 e9 e10
 subst e0 e10
 clear e9
 obtain⟨ys1,yu1,ye1⟩:=y
 dsimp only at ys yu ye
 subst ys yu ye
 obtain⟨rs1,_,_⟩:=R1.g.r i _ g hy HG.out
 dsimp only at rs1
 have c5:=cs 5 _ rfl
 dsimp only at c5
 rw[HSL.out] at rs1 c5 hy
 obtain⟨gS,rfl,gs1',gs2'⟩:=rs1.addr HSL.out (by omega)
 obtain⟨ct,_⟩:=rs1.at HTT.out
 clear cs cfz
 have i0:(0:Int)≤(i:Int):=by omega
 have iq:(i:Int)<(q:Int):=by omega
 have p0:(0:Int)≤(p:Int):=by omega
 have pq:(p:Int)<(ql:Int):=by omega
 have hnSB:gS≠B:=fun e=>own_off rs1.raw DR (by decide) (by rw[e];rfl)
 have R5:=R1.putS HG.out hy rfl p ⟨#[]⟩
 have D5:=DR.set_ne (b':=gS) (fun e=>hnSB e.symm) (j:=p) (.string ⟨#[]⟩)
 have D26:=D2.set_ne (b':=gS) (by omega) (j:=p) (.string ⟨#[]⟩)
 have B5:=hbw.setCell (p:=⟨gS,p,none⟩) (by dsimp only;omega) (.string ⟨#[]⟩)
 have hz5:B<(World.setCell w4 ⟨gS,p,none⟩ (.string ⟨#[]⟩)).heap.size:=by simp only[sizes];omega
 obtain⟨DR_c,DR_f,DR_z⟩:=DR.all
 go_upto_region 5 with (fail)
 clear DR_c DR_f DR_z
 generalize hW:World.setCell w4 ⟨gS,p,none⟩ (.string ⟨#[]⟩)=w5 at R5 D5 D26 B5 hz5 ⊢
 clear hW
 rw[←HCE.out] at R5
 have hPC:=HCP.out
 have hA5:HostAtR (w.heap.size+1+1) T B w5 (H.clear i p):=HostAtR.mk (by rw[hPC];exact HN.out) (by rw[hPC];exact HR.out) (by rw[hPC];exact HM.out) (by rw[HCE.out];exact (List.length_set ..).trans HQ.out) (by rw[HCE.out];exact HT.out) (by rw[HCE.out];exact HD.out) (by rw[HCE.out];exact HS.out) D5 R5
 have hlC:(H.clear i p).P.M[i]?=some l:=by rw[hPC];exact HL.out
 have hCat:(H.clear i p).P.at i p:=by rw[hPC];exact HAT.out
 have hnd:H.P.need i p=(decide (f<0) || decide (1<H.P.ref f.toNat)):=by
  unfold Pl.need
  rw[Pl.fr_eq HL.out HF.out]
 have hbd:=HOK.out.p.at_bd HAT.out
 rw[Pl.fr_eq HL.out HF.out,HN.out] at hbd
 have hrr:∀ fv:Nat,fv<n→∃ x,H.P.R[fv]?=some x∧H.P.ref fv=x:=fun fv hfv=>by
  obtain⟨x,hx⟩:=get_lt (xs:=H.P.R) (k:=fv) (by rw[HOK.out.p.r,HN.out];exact hfv)
  exact⟨x,hx,by unfold Pl.ref;rw[hx];rfl⟩
 rw[←hPC] at hrr
 have HRN:Hid (r=n):=lh (by rw[←HR.out,←HN.out];exact HOK.out.p.r)
 obtain⟨C,hC⟩:∃ C,H.clear i p=C:=⟨_,rfl⟩
 rw[hC] at hA5 R5 hlC HCO HCP hCat hrr
 have HC:=lh hC
 have HCA:=lh hCat
 have him:i<m:=by rw[←HM.out,←HCP.out];exact lt_of_get hlC
 have im:(i:Int)<(m:Int):=by omega
 obtain⟨mb7,km7',fb7,lc7,e0,hus,cm7,cf7,_,_,hmb,_,hfb,_⟩:=R5.p.page hlC HF.out
 injection e0 with e0 e9 e10
 subst e0 e10
 clear e9 hPC hC hCat
 have hql2:l.length=ql:=by
  have h1:=(HOK.out.gmP HG.out).ls
  rw[Pl.pages_eq HL.out,HSL.out] at h1
  omega
 rw[hql2] at cm7
 clear hus hql2 hlC HCE R1 DR D2 hbw hA1 rs1 c5 ct hy gs1' gs2' b1 b2 cg2 sc2 uc2 ec2 hz4 hnSB HTT
 have hRow:=R5.p.r.row
 obtain⟨D5_c,D5_f,D5_z⟩:=D5.all
 go_upto_region 6 with (fail)
 clear D5_c D5_f D5_z
 clear cm7 cf7
 obtain⟨zb,hzb⟩:∃ b,zeroB d=b:=⟨_,rfl⟩
 rw[hzb] at HZC
 have HZB:=lh hzb
 obtain⟨nb,hnb⟩:∃ b,H.P.need i p=b:=⟨_,rfl⟩
 rw[hnb] at hnd
 have HNB:=lh hnb
 obtain⟨qb,hqb⟩:∃ b,(!zb && nb)=b:=⟨_,rfl⟩
 have HQB:=lh hqb
 clear hzb hnb
 go_cut [63] from 48 to 63 (fun tv wx=>tv=.bool qb∧Below w5.heap.size w5 wx)
 case first =>
  cases zb
  case true =>
   obtain rfl:false=qb:=hqb
   go_wp2_with fail
   with_reducible refine (HZC.out _).mono ?_
   rintro e w6 ⟨rfl,hb6⟩
   go_wp2_with fail
   go_meet
   exact⟨rfl,hb6⟩
  case false =>
   obtain rfl:nb=qb:=hqb
   by_cases hn:f<0
   · rw[decide_eq_true hn,Bool.true_or] at hnd
     obtain rfl:=hnd
     have t1:decide (f<0)=true:=decide_eq_true hn
     go_wp2_with fail
     with_reducible refine (HZC.out _).mono ?_
     rintro e w6 ⟨rfl,hb6⟩
     go_wp2_with fail
     go_meet
     exact⟨rfl,hb6⟩
   · obtain⟨fv,rfl⟩:∃ fv:Nat,f=fv:=⟨f.toNat,by omega⟩
     obtain⟨x,hx,hrx⟩:=hrr fv (by omega)
     rw[←HCP.out,Int.toNat_natCast,hrx,decide_eq_false hn,Bool.false_or] at hnd
     have t1:decide ((fv:Int)<0)=false:=decide_eq_false (by omega)
     have fv0:(0:Int)≤(fv:Int):=by omega
     have fvr:(fv:Int)<(r:Int):=by have:=HRN.out;omega
     go_wp2_with fail
     with_reducible refine (HZC.out _).mono ?_
     rintro e w6 ⟨rfl,hb6⟩
     obtain⟨rb,ro,e0,hrb,cR⟩:=(R5.below hb6).p.r.row.elem hx
     obtain rfl:=e0
     have D6:=D5.below hb6
     clear hx hrx
     have t2:decide (x>1)=nb:=hnd.symm
     clear hnd
     obtain⟨D6_c,D6_f,D6_z⟩:=D6.all
     cases nb
     · go_wp2_with fail
       go_meet
       exact⟨rfl,hb6⟩
     · go_wp2_with fail
       go_meet
       exact⟨rfl,hb6⟩
 case rest =>
  obtain⟨rfl,hb6⟩:=hcut
  replace R5:=R5.below hb6
  replace D5:=D5.below hb6
  replace D26:=D26.below hb6
  replace B5:=B5.trans (hb6.mono B5.size)
  replace hz5:=Nat.lt_of_lt_of_le hz5 hb6.size
  replace hA5:=hA5.below hb6
  clear hb6 hRow
  go_upto_if 63 with (fail)
  go_cut [] from 64 to 66 (fun wx=>∃ K:Ho,Hid (K.Ok∧K.P.at i p∧K.P.wok i p d=true)∧Hid ((zeroB d=false∧H.P.need i p=true∧Roomed i p (H.clear i p) K)∨((zeroB d=true∨H.P.need i p=false)∧K=H.clear i p))∧HostAt (w.heap.size+1+1) B wx K∧HasBlock wx (w.heap.size+1) #[.slice none 0 0,.slice none 0 0,.slice none 0 0,.slice none 0 0,.int .i64 0,.int .u64 0,.int .i64 0] 30∧Below w.heap.size w wx∧B<wx.heap.size)
  case first =>
   cases qb
   case false =>
    have hway:(zeroB d=true∨H.P.need i p=false):=by
     rcases Bool.eq_false_or_eq_true zb with h1|h1
     · exact .inl (HZB.out.trans h1)
     · rcases Bool.eq_false_or_eq_true nb with h2|h2
       · have:=HQB.out
         rw[h1,h2] at this
         cases this
       · exact .inr (HNB.out.trans h2)
    have hwok:C.P.wok i p d=true:=by
     rcases hway with h1|h1
     · rw[(Pl.wr_eq HCO.out.p HCA.out HDD.out).2]
       unfold Pl.wok'
       rw[h1]
       rfl
     · exact wok_of_need HCO.out.p HCA.out (by rw[HCP.out];exact h1) HDD.out
    go_wp2_with fail
    go_meet
    exact⟨C,lh ⟨HCO.out,HCA.out,hwok⟩,lh (.inr ⟨hway,HC.out.symm⟩),hA5.at_,D26,B5,hz5⟩
   case true =>
    have hz1:zeroB d=false∧H.P.need i p=true:=by
     have:=HQB.out
     rw[Bool.and_eq_true] at this
     refine ⟨?_,HNB.out.trans this.2⟩
     have h2:=this.1
     rw[HZB.out]
     cases zb
     · rfl
     · cases h2
    have HWY:=lh hz1
    clear hz1
    go_wp2_with fail
    with_reducible refine (rroom_ok (w.heap.size+1+1) T B C i p _ hA5 hT1 HCO.out HCA.out (by omega)).mono ?_
    rintro e w7 ⟨rfl,⟨K,hrm,hKo,hK⟩,hbb⟩
    obtain⟨hke,hfull⟩:=hrm.kept HCO.out HCA.out
    have hKat:=(hke.al.at i p).2 HCA.out
    have hwokR:=wok_of_full hKo.p hKat hfull HDD.out
    have D27:=(hbb.block _ (Nat.lt_succ_self _)).trans D26
    have hz7:=hbb.size
    go_wp2_with fail
    go_meet
    exact⟨K,lh ⟨hKo,hKat,hwokR⟩,lh (.inl ⟨HWY.out.1,HWY.out.2,by rw[HC.out];exact hrm⟩),hK.at_,D27,B5.trans (hbb.mono (by omega)),by omega⟩
  case rest =>
   obtain⟨K,HKK,HWAY,hAK,D2c,hbc,hzc⟩:=hcut
   clear R5 D5 D26 B5 hz5 hA5
   obtain⟨hKo,hKat,hwok⟩:=HKK.out
   have WRc:=fun v' w h=>rwrite_or v' K.P i p d w h hKo.p.fit (by have:=HDD.out;omega)
   rw[hwok] at WRc
   have HWL:=hwok
   rw[(Pl.wr_eq hKo.p hKat HDD.out).2] at HWL
   have WL:=(Pl.wr_law hKo.p hKat HDD.out).1 HWL
   rw[←(Pl.wr_eq hKo.p hKat HDD.out).1] at WL
   obtain⟨P2,hP2⟩:∃ P,K.P.wr i p d=P:=⟨_,rfl⟩
   rw[hP2] at WRc WL
   have HP2:=lh hP2
   have HWR:=lh WRc
   obtain⟨gK,hgK⟩:=get_lt (hKo.at_lt hKat)
   have hgKp:=hKo.gmP hgK
   obtain⟨lX,fX,hlX,hfX⟩:=(WL.al.at i p).2 hKat
   have hpl:=WL.al.pg i
   rw[Pl.pages_eq hlX] at hpl
   have huX:gK.u.length=lX.length:=by rw[hpl];exact hgKp.lu
   have heX:gK.e.length=lX.length:=by rw[hpl];exact hgKp.le
   have hl32:=(WL.ok.l lX (mem_at hlX)).2
   have hl1:=(WL.ok.l lX (mem_at hlX)).1
   have hiX:i<K.G.length:=lt_of_get hgK
   clear hwok HWL WRc hP2 WL hpl hgKp hKat
   obtain⟨of4,or4,om4,og4,kf4,kr4,km4,kg4,us4,gs4,D4,O4⟩:=hAK
   obtain⟨nK,hnK⟩:∃ n,K.P.F.length=n:=⟨_,rfl⟩
   obtain⟨rK,hrK⟩:∃ n,K.P.R.length=n:=⟨_,rfl⟩
   obtain⟨mK,hmK⟩:∃ n,K.P.M.length=n:=⟨_,rfl⟩
   obtain⟨qK,hqK⟩:∃ n,K.G.length=n:=⟨_,rfl⟩
   obtain⟨tK,htK⟩:∃ n,K.t=n:=⟨_,rfl⟩
   obtain⟨dK,hdK⟩:∃ n,K.d=n:=⟨_,rfl⟩
   obtain⟨sK,hsK⟩:∃ n,K.n=n:=⟨_,rfl⟩
   rw[hnK,hrK,hmK,hqK] at D4 O4
   rw[htK,hdK,hsK] at D4
   rw[hqK] at hiX
   have HX4:=lh (And.intro htK (And.intro hdK (And.intro hsK hqK)))
   have HGK:=lh hgK
   have HLX:=lh (And.intro hlX hfX)
   have hzb:=hz0
   clear htK hdK hsK hqK hnK hrK hmK hgK hKo hlX
   have hTz:=hzc
   obtain⟨D4_c,D4_f,D4_z⟩:=D4.all
   go_wp2_with fail
   clear D4_c D4_f D4_z
   with_reducible refine (HWR.out _ _ O4.row.p).mono ?_
   rintro e w7 (⟨hno,_⟩|⟨_,of5,or5,om5,kf5,kr5,km5,us5,rfl,O5,hb5⟩)
   · cases hno
   obtain⟨n5,hgn⟩:∃ n,(Pl.F P2).length=n:=⟨_,rfl⟩
   obtain⟨r5,hgr⟩:∃ n,(Pl.R P2).length=n:=⟨_,rfl⟩
   obtain⟨m5,hgm⟩:∃ n,(Pl.M P2).length=n:=⟨_,rfl⟩
   rw[hgn,hgr,hgm] at O5 ⊢
   have HG5:=lh (And.intro hgn (And.intro hgr hgm))
   clear hgn hgr hgm
   have D7:=D4.below hb5
   have D27:=D2c.below hb5
   have B7:=hbc.trans (hb5.mono hbc.size)
   have hz7:=Nat.lt_of_lt_of_le hzc hb5.size
   have Oa:=(O4.below hb5).newPool (O5.lower (by omega)) O4.ltG O5.ge
   have Ob:=((Oa.setbox (j:=0) D7 hostT (.slice of5 n5 kf5)).setbox (j:=1) (D7.put7_0 (.slice of5 n5 kf5)) hostT (.slice or5 r5 kr5)).setbox (j:=2) ((D7.put7_0 (.slice of5 n5 kf5)).put7_1 (.slice or5 r5 kr5)) hostT (.slice om5 m5 km5)
   have Db:=D7.poolIn (.slice of5 n5 kf5) (.slice or5 r5 kr5) (.slice om5 m5 km5)
   have B8:=((B7.setCell (p:=⟨B,0,none⟩) (by dsimp only;omega) (.slice of5 n5 kf5)).setCell (p:=⟨B,1,none⟩) (by dsimp only;omega) (.slice or5 r5 kr5)).setCell (p:=⟨B,2,none⟩) (by dsimp only;omega) (.slice om5 m5 km5)
   have D28:=((D27.set_ne (b':=B) (by omega) (j:=0) (.slice of5 n5 kf5)).set_ne (b':=B) (by omega) (j:=1) (.slice or5 r5 kr5)).set_ne (b':=B) (by omega) (j:=2) (.slice om5 m5 km5)
   have hz8:B<((((World.setCell w7 ⟨B,0,none⟩ (.slice of5 n5 kf5)).setCell ⟨B,1,none⟩ (.slice or5 r5 kr5)).setCell ⟨B,2,none⟩ (.slice om5 m5 km5))).heap.size:=by simp only[sizes];omega
   obtain⟨D7_c,D7_f,D7_z⟩:=D7.all
   go_upto_region 9 with (fail)
   clear D7_c D7_f D7_z
   generalize hW:((World.setCell w7 ⟨B,0,none⟩ (.slice of5 n5 kf5)).setCell ⟨B,1,none⟩ (.slice or5 r5 kr5)).setCell ⟨B,2,none⟩ (.slice om5 m5 km5)=w8 at Ob Db B8 D28 hz8 ⊢
   clear hW Oa D7 D27 B7 hz7 O4 D4 D2c hbc hzc hb5 O5
   have O6:OwnH (w.heap.size+1+1) w8 _ _ _ _ _ _ (K.setP P2):=Ob
   have D6:=Db
   have hgK:(K.setP P2).G[i]?=some gK:=HGK.out
   clear Ob Db
   obtain⟨bG6,cG6,y6,so6,sc6,uo6,uc6,eo6,ec6,e0,b16,b26,hy,ys,yu,ye,_,cg2,_,sc2,_,uc2,_,ec2,cs6,cfz⟩:=O6.guest hgK
   injection e0 with e0 e9 e10
   subst e0 e10
   clear e9
   obtain⟨ys1,yu1,ye1⟩:=y6
   dsimp only at ys yu ye
   subst ys yu ye
   obtain⟨_,_,rs6⟩:=O6.r i _ gK hy hgK
   dsimp only at rs6
   have c86:w8.cell? ⟨bG6,i*9+8,none⟩=_:=cs6 8 _ rfl
   dsimp only at c86
   have hpX:=lt_of_get HLX.out.2
   obtain⟨zl,hzl⟩:∃ k,lX.length=k:=⟨_,rfl⟩
   rw[hzl] at hl1 hl32 huX heX hpX
   rw[heX] at c86 rs6
   obtain⟨gE6,rfl,ge1,ge2⟩:=rs6.addr heX (by omega)
   obtain⟨x0,hx0⟩:=get_lt (xs:=gK.e) (k:=p) (by omega)
   obtain⟨cE6,fE6⟩:=rs6.at hx0
   have n3:gE6≠B:=fun e=>own_off rs6 D6 (by decide) (by rw[e];rfl)
   have O7:=O6.putE hgK hy (by rw[heX]) p true
   have D9:=D6.set_ne (fun e=>n3 e.symm) (j:=p) (.bool true)
   have D29:=D28.set_ne (b':=gE6) (by omega) (j:=p) (.bool true)
   have B9:=B8.setCell (p:=⟨gE6,p,none⟩) (by dsimp only;omega) (.bool true)
   have hz9:B<(World.setCell w8 ⟨gE6,p,none⟩ (.bool true)).heap.size:=by simp only[sizes];omega
   have hg2:((K.setP P2).setG i { gK with e:=gK.e.set p true }).G[i]?=some { gK with e:=gK.e.set p true }:=by
    show (K.G.set i _)[i]?=_
    rw[List.getElem?_set,if_pos rfl,if_pos (lt_of_get HGK.out)]
   have i0:(0:Int)≤(i:Int):=by omega
   have iq:(i:Int)<(qK:Int):=by omega
   have p0:(0:Int)≤(p:Int):=by omega
   have pq:(p:Int)<(zl:Int):=by omega
   clear cs6 cfz hx0 rs6
   obtain⟨D6_c,D6_f,D6_z⟩:=D6.all
   go_upto_region 10 with (fail)
   clear D6_c D6_f D6_z
   obtain⟨K2,hK2⟩:∃ L,(K.setP P2).setG i { gK with e:=gK.e.set p true }=L:=⟨_,rfl⟩
   have hP2:K2.P=P2:=by rw[←hK2];rfl
   have hG2:K2.G.length=qK:=by rw[←hK2];exact (List.length_set ..).trans HX4.out.2.2.2
   have hX2:K2.t=K.t∧K2.d=K.d∧K2.n=K.n:=by rw[←hK2];exact⟨rfl,rfl,rfl⟩
   have hmk:(K.setP P2).mark i p=K2.setG i { gK with e:=gK.e.set p true,u:=gK.u.set p (decide (0≤fX)) }:=by
    rw[←hK2]
    unfold Ho.mark
    rw[hgK,show (K.setP P2).P.fr i p=fX from Pl.fr_eq (P:=P2) HLX.out.1 HLX.out.2]
    unfold Ho.setG Gm.mark
    dsimp only
    rw[List.set_set]
   rw[hK2] at O7 hg2
   obtain⟨gY,hgY⟩:∃ g:Gm,({ gK with e:=gK.e.set p true }:Gm)=g:=⟨_,rfl⟩
   have huY:gY.u=gK.u:=by rw[←hgY]
   have hmk2:({ gK with e:=gK.e.set p true,u:=gK.u.set p (decide (0≤fX)) }:Gm)={ gY with u:=gY.u.set p (decide (0≤fX)) }:=by rw[←hgY]
   rw[hmk2] at hmk
   rw[hgY] at hg2
   rw[←huY] at huX
   clear hmk2 huY
   generalize hW:World.setCell w8 ⟨gE6,p,none⟩ (.bool true)=w9 at O7 D9 D29 B9 hz9 ⊢
   clear hW O6 D28 B8 hz8 c86 cE6 fE6 hy hgK hgY hK2 D6
   have hlX:K2.P.M[i]?=some lX:=by rw[hP2];exact HLX.out.1
   have hX3:K2.t=tK∧K2.d=dK∧K2.n=sK:=⟨hX2.1.trans HX4.out.1,hX2.2.1.trans HX4.out.2.1,hX2.2.2.trans HX4.out.2.2.1⟩
   have him5:i<m5:=by rw[←HG5.out.2.2,←hP2];exact lt_of_get hlX
   have HP3:=lh hP2
   have HG9:=lh (And.intro hG2 hX3)
   clear hX2 hX3 hG2 hP2
   obtain⟨bG7,cG7,y7,so7,sc7,uo7,uc7,eo7,ec7,e0,b17,b27,hy,ys,yu,ye,_,cg2,_,sc2,_,uc2,_,ec2,cs7,cfz⟩:=O7.guest hg2
   injection e0 with e0 e9 e10
   injection e0 with e0
   injection e0 with e0 _ _
   subst e0 e10
   clear e9
   obtain⟨mb9,km9',fb9,lc9,e0,hus,cm9,cf9,_,_,hmb,_,hfb,_⟩:=O7.p.page hlX HLX.out.2
   injection e0 with e0 e9 e10
   subst e0 e10
   clear e9
   obtain⟨ys1,yu1,ye1⟩:=y7
   dsimp only at ys yu ye
   subst ys yu ye
   obtain⟨_,rs7,_⟩:=O7.r i _ gY hy hg2
   dsimp only at rs7
   have c67:w9.cell? ⟨bG6,i*9+6,none⟩=_:=cs7 6 _ rfl
   dsimp only at c67
   rw[huX] at c67 rs7
   rw[hzl] at cm9
   obtain⟨gU7,rfl,gu1,gu2⟩:=rs7.addr huX (by omega)
   obtain⟨u0,hu0⟩:=get_lt (xs:=gY.u) (k:=p) (by omega)
   obtain⟨cU7,fU7⟩:=rs7.at hu0
   have n4:gU7≠B:=fun e=>own_off rs7 D9 (by decide) (by rw[e];rfl)
   have im5:(i:Int)<(m5:Int):=by omega
   have hyu:(List.length gY.u)=zl:=huX
   have HOu:=lh (And.intro O7 (And.intro hg2 (And.intro hy hyu)))
   clear cs7 cfz hus rs7 hlX hu0 hyu O7 hg2 hy
   have hzw:=B9.size
   obtain⟨D9_c,D9_f,D9_z⟩:=D9.all
   refine wp_region_tail_below 18 (by kernel_rfl) (by kernel_rfl) ?_
   simp only[List.take_succ_cons,List.take_zero,List.drop_succ_cons,List.drop_zero]
   repeat (go_big_quiet_step (first|fail|fail))
   refine wpQuiet_nil ?_
   intro w3 hw3
   have hb3:=below_of_regrown hw3
   clear hw3
   obtain⟨hc3,hf3⟩:=bcell hb3
   have hz3:=bsize hb3
   try simp only[sizes1] at hz3
   try simp only[sizes] at hc3 hf3
   have O8:=(HOu.out.1.below hb3).putU HOu.out.2.1 HOu.out.2.2.1 (by rw[HOu.out.2.2.2]) p (decide (0≤fX))
   rw[←hmk] at O8
   have D10:=(D9.below hb3).set_ne (fun e=>n4 e.symm) (j:=p) (.bool (decide (0≤fX)))
   have D30:=(D29.below hb3).set_ne (b':=gU7) (by omega) (j:=p) (.bool (decide (0≤fX)))
   have B10:=(B9.trans (hb3.mono hzw)).setCell (p:=⟨gU7,p,none⟩) (by dsimp only;omega) (.bool (decide (0≤fX)))
   have hz10:B<(World.setCell w3 ⟨gU7,p,none⟩ (.bool (decide (0≤fX)))).heap.size:=by
    have:=hb3.size
    simp only[sizes]
    omega
   have hfin:WriteTo H i p d ((K.setP P2).mark i p):=by
    refine ⟨K,HWAY.out,?_⟩
    rw[HP2.out]
   obtain⟨Hx,hHx⟩:∃ Hx,(K.setP P2).mark i p=Hx:=⟨_,rfl⟩
   rw[hHx] at O8 hfin
   have HFN:=lh hfin
   have hl9:Hx.P.F.length=n5∧Hx.P.R.length=r5∧Hx.P.M.length=m5∧Hx.G.length=qK∧Hx.t=tK∧Hx.d=dK∧Hx.n=sK:=by
    rw[←hHx,hmk]
    refine ⟨?_,?_,?_,(List.length_set ..).trans HG9.out.1,HG9.out.2.1,HG9.out.2.2.1,HG9.out.2.2.2⟩
    · show K2.P.F.length=n5
      rw[HP3.out]
      exact HG5.out.1
    · show K2.P.R.length=r5
      rw[HP3.out]
      exact HG5.out.2.1
    · show K2.P.M.length=m5
      rw[HP3.out]
      exact HG5.out.2.2
   have H9:=lh hl9
   clear hHx hfin hl9 hmk HG9
   go_upto_region 11 with (fail)
   clear D9_c D9_f D9_z
   generalize hW:World.setCell w3 ⟨gU7,p,none⟩ (.bool (decide (0≤fX)))=wn at O8 D10 D30 B10 hz10 ⊢
   clear hW cm9 cf9 c67 cU7 fU7 D9 D29 B9 hz9 HOu hb3 hc3 hf3 hz3
   have nB:w.heap.size+1≠B:=by omega
   obtain⟨D30_c,D30_f,D30_z⟩:=D30.all
   obtain⟨D10_c,D10_f,D10_z⟩:=D10.all
   go_wp2_with fail
   refine bodyPost_ret (v:=.tuple #[.agg #[.slice of5 n5 kf5,.slice or5 r5 kr5,(.slice (some ⟨mb9,0,none⟩) m5 km5),(.slice (some ⟨bG6,0,none⟩) qK kg4),.int .i64 tK,.int .u64 dK,.int .i64 sK],.int .i64 0]) (by simp [results,Tryz.results29,go_sem,D30_c]) rfl ?_
   refine ⟨Hx,HFN.out,?_⟩
   exact hoRet' (k:=fun v=>.tuple #[v,.int .i64 0]) H9.out.1 H9.out.2.1 H9.out.2.2.1 H9.out.2.2.2.1 H9.out.2.2.2.2.1 H9.out.2.2.2.2.2.1 H9.out.2.2.2.2.2.2 (O8.fill7 (by omega) _ _ _ _ _ _ _) (Below.fill7 B10 (by omega) _ _ _ _ _ _ _)
theorem victim_hit {cs:List Clm} {t:Int}:∀ k:Nat,k≤cs.length→0≤vicF cs t k→∃ c:Clm,cs[(vicF cs t k).toNat]?=some c∧c.r<c.p:=by
 intro k
 induction k with
 | zero=>intro _ h;simp [vicF] at h
 | succ k ih =>
   intro hk h
   obtain⟨c,hc⟩:=get_lt (xs:=cs) (k:=k) (by omega)
   rw[vicF,hc] at h ⊢
   dsimp only at h ⊢
   by_cases ho:vicOk cs t (vicF cs t k) c=true
   · rw[if_pos ho] at h ⊢
     rw[Int.toNat_natCast]
     refine ⟨c,hc,?_⟩
     unfold vicOk at ho
     rw[Bool.and_eq_true,Bool.and_eq_true,decide_eq_true_eq] at ho
     exact ho.1.2
   · rw[if_neg ho] at h ⊢
     exact ih (by omega) h
theorem claims_at {H:Ho} {i:Nat} {g:Gm} {l:List Int} (hg:H.G[i]?=some g) (hl:H.P.M[i]?=some l):H.claims[i]?=some { g.c with p:=((l.countP hasB:Nat):Int) }:=by
 unfold Ho.claims
 rw[List.getElem?_zipWith,hg,hl]
end Go.Proofs.YtbnngjhnkegliaaGreat
