/-
  Texts joined: HrSample HrBad. No law is proved here.
-/
import Derived.Test.YtbnngjhnkegliaaGreatB27
namespace Go.Proofs.YtbnngjhnkegliaaGreat
open Go.RowKit
set_option maxRecDepth 100000 in
set_option maxHeartbeats 8000000 in
theorem rsample_ok (v:Value) (H:Ho) (i k:Nat) (w:World) (ha:HoAt w v H) (hok:H.Ok) (hi:i<H.G.length) (hk:1≤k) (hk2:k≤9223372036854775807):Calls Tryz.prog 31 #[v,.int .i64 i,.int .i64 k] w (RetHoB (fun v=>.tuple #[v,.bool true]) (H.sample i k) w):=by
 have VLc:=fun v w h=>rhvalid_any v H true w h hok.fitted hok.little (Iff.intro (fun _=>hok) (fun _=>rfl))
 have MNc:=fun v w h=>rmine_ok v H w h hok
 have HVL:=lh VLc;clear VLc
 have HMN:=lh MNc;clear MNc
 obtain⟨g,hg⟩:=get_lt hi
 obtain⟨l,hl,hgo⟩:=hok.page hg
 have hll:=hok.p.l l (mem_at hl)
 have hds:=hok.d
 have hsam:H.sample i k=⟨H.P,H.G.set i { g with c:={ g.c with a:=estimateI g.c.a (recentN g.e (sampleL H.d g.e.length k)) (sampleL H.d g.e.length k).length },e:=List.replicate g.e.length false },H.t,sampleS H.d g.e.length k,H.n⟩:=by unfold Ho.sample;rw[hg]
 rw[hsam]
 clear hsam
 have hel:=hgo.le
 have hSL:∀ x∈sampleL H.d g.e.length k,0≤x∧x<g.e.length:=fun x hx=>sampleL_range hds x hx
 have hSN:(sampleL H.d g.e.length k).length≤32:=sampleL_len hds
 have SC:=fun w=>vmfleetref35_Sample_any H.d g.e.length k w hds
 have ES:=fun w=>vmfleetref35_Estimate_any g.c.a (recentN g.e (sampleL H.d g.e.length k)) (sampleL H.d g.e.length k).length w
 obtain⟨SL,hSLe⟩:∃ x,sampleL H.d g.e.length k=x:=⟨_,rfl⟩
 obtain⟨SS,hSSe⟩:∃ x,sampleS H.d g.e.length k=x:=⟨_,rfl⟩
 rw[hSLe,hSSe] at SC
 rw[hSLe] at ES hSL hSN
 rw[hSLe,hSSe]
 clear hSLe hSSe
 obtain⟨N,hN⟩:∃ x,SL.length=x:=⟨_,rfl⟩
 rw[hN] at ES hSN ⊢
 obtain⟨A,hAe⟩:∃ x,estimateI g.c.a (recentN g.e SL) N=x:=⟨_,rfl⟩
 rw[hAe] at ES ⊢
 clear hAe
 have HNN:=lh hN;clear hN
 have HSL:=lh hSL;clear hSL
 have HSC:=lh SC;clear SC
 have HES:=lh ES;clear ES
 obtain⟨of,or',om,og,kf,kr,km,kg,n,r,m,q,tx,dx,sx,HN,HR,HM,HQ,HT,HD,HS,rfl,kf1,kf2,kr1,kr2,km1,km2,kg1,kg2,h⟩:=HoAt.opened ha
 rw[HT.out,HS.out]
 have h0:=h
 have HA:Hid (∀ w':World,Below w.heap.size w w'→HoAt w' (.agg #[.slice of n kf,.slice or' r kr,.slice om m km,.slice og q kg,.int .i64 tx,.int .u64 dx,.int .i64 sx]) H):=lh (fun w' hb=>by
  have:=(h0.below hb).at_
  rwa[HT.out,HD.out,HS.out] at this)
 have hiq:i<q:=by rw[←HQ.out];exact hi
 have i0:(0:Int)≤(i:Int):=by omega
 have iq:(i:Int)<(q:Int):=by omega
 have ig1:decide ((i:Int)<0)=false:=decide_eq_false (by omega)
 have ig2:decide ((q:Int)≤(i:Int))=false:=decide_eq_false (by omega)
 have ig3:decide (q≤i)=false:=decide_eq_false (by omega)
 have kk1:decide ((k:Int)<1)=false:=decide_eq_false (by omega)
 clear h h0
 have D1:=(HasBlock.made w #[.slice of n kf,.slice or' r kr,.slice om m km,.slice og q kg,.int .i64 tx,.int .u64 dx,.int .i64 sx] 30).alloc (.cells #[.slice none 0 0,.slice none 0 0,.slice none 0 0,.slice none 0 0,.int .i64 0,.int .u64 0,.int .i64 0] 30)
 have D2:=HasBlock.made (w.alloc (.cells #[.slice of n kf,.slice or' r kr,.slice om m km,.slice og q kg,.int .i64 tx,.int .u64 dx,.int .i64 sx] 30)) #[.slice none 0 0,.slice none 0 0,.slice none 0 0,.slice none 0 0,.int .i64 0,.int .u64 0,.int .i64 0] 30
 rw[World.size_alloc] at D2
 have hbw:Below w.heap.size w ((w.alloc (.cells #[.slice of n kf,.slice or' r kr,.slice om m km,.slice og q kg,.int .i64 tx,.int .u64 dx,.int .i64 sx] 30)).alloc (.cells #[.slice none 0 0,.slice none 0 0,.slice none 0 0,.slice none 0 0,.int .i64 0,.int .u64 0,.int .i64 0] 30)):=bel
 have hz0:w.heap.size+1+1≤((w.alloc (.cells #[.slice of n kf,.slice or' r kr,.slice om m km,.slice og q kg,.int .i64 tx,.int .u64 dx,.int .i64 sx] 30)).alloc (.cells #[.slice none 0 0,.slice none 0 0,.slice none 0 0,.slice none 0 0,.int .i64 0,.int .u64 0,.int .i64 0] 30)).heap.size:=by simp only[sizes];omega
 have HOK:=lh hok;clear hok hds
 have HG:=lh hg;clear hg
 have HL:=lh hl;clear hl
 have HGO:=lh hgo;clear hgo
 go_enter Tryz.func31,Tryz.ntmps31
 obtain⟨D1_c,D1_f,D1_z⟩:=D1.all
 go_wp2_with fail
 clear D1_c D1_f D1_z
 with_reducible refine (HVL.out _ _ (HA.out _ hbw)).mono ?_
 rintro e w1 ⟨rfl,hb1⟩
 replace D1:=D1.below hb1
 replace D2:=D2.below hb1
 replace hbw:=hbw.trans (hb1.mono hbw.size)
 replace hz0:=Nat.le_trans hz0 hb1.size
 clear hb1
 obtain⟨D1_c,D1_f,D1_z⟩:=D1.all
 go_wp2_with fail
 clear D1_c D1_f D1_z
 with_reducible refine (HMN.out _ _ (HA.out _ hbw)).mono ?_
 rintro e w3 ⟨T,of1,or1,om1,og1,kf1',kr1',km1',kg1',us1,gs1,rfl,R1,hT1,hb3⟩
 rw[HN.out,HR.out,HM.out,HQ.out] at R1 ⊢
 rw[HT.out,HD.out,HS.out]
 replace R1:=R1.lower (base':=w.heap.size+1+1) hz0
 replace D2:=D2.below hb3
 replace hbw:=hbw.trans (hb3.mono hbw.size)
 replace hz0:=Nat.le_trans hz0 hb3.size
 clear hb3 D1 HVL HMN HA
 go_upto_region 4 with (fail)
 have DR:=HasBlock.made w3 #[.slice of1 n kf1',.slice or1 r kr1',.slice om1 m km1',.slice og1 q kg1',.int .i64 tx,.int .u64 dx,.int .i64 sx] 30
 have hbx:Below w3.heap.size w3 (w3.alloc (.cells #[.slice of1 n kf1',.slice or1 r kr1',.slice om1 m km1',.slice og1 q kg1',.int .i64 tx,.int .u64 dx,.int .i64 sx] 30)):=(Below.refl _ _).alloc (nlr _) _
 replace D2:=D2.below hbx
 replace R1:=R1.below hbx
 replace hbw:=hbw.trans (hbx.mono hbw.size)
 have hz4:w3.heap.size<(w3.alloc (.cells #[.slice of1 n kf1',.slice or1 r kr1',.slice om1 m km1',.slice og1 q kg1',.int .i64 tx,.int .u64 dx,.int .i64 sx] 30)).heap.size:=by simp only[sizes];omega
 clear hbx
 generalize hW:w3.alloc (.cells #[.slice of1 n kf1',.slice or1 r kr1',.slice om1 m km1',.slice og1 q kg1',.int .i64 tx,.int .u64 dx,.int .i64 sx] 30)=w4 at D2 DR R1 hbw hz4 ⊢
 obtain⟨B,hB⟩:∃ B,w3.heap.size=B:=⟨_,rfl⟩
 rw[hB] at DR hz0 hT1 hz4 ⊢
 clear hW hB
 have hBT:B<w4.heap.size:=hz4
 have hzz:w.heap.size+1+1≤w4.heap.size:=by omega
 have O1:=R1.own
 clear R1
 obtain⟨bG,cG,y,so,sc,uo,uc,eo,ec,e0,b1,b2,hy,ys,yu,ye,_,cg2,_,sc2,_,uc2,_,ec2,cs,cfz⟩:=O1.guest HG.out
 injection e0 with e0 e9 e10
 subst e0 e10
 clear e9
 obtain⟨ys1,yu1,ye1⟩:=y
 dsimp only at ys yu ye
 subst ys yu ye
 obtain⟨_,_,rs3⟩:=O1.r i _ g hy HG.out
 dsimp only at rs3
 have c4:w4.cell? ⟨bG,i*9+4,none⟩=_:=cs 4 _ rfl
 have c8:w4.cell? ⟨bG,i*9+8,none⟩=_:=cs 8 _ rfl
 dsimp only at c4 c8
 obtain⟨ql,hql⟩:∃ x,g.e.length=x:=⟨_,rfl⟩
 rw[hql] at hel HSC HSL c8 rs3 hy
 have HQL:=lh hql;clear hql
 have hq1:1≤ql∧ql≤32:=by omega
 have hlq:l.length=ql:=by omega
 obtain⟨mb,moff,lo,lc,e0,hmb,cm0,lc1,lc2,_⟩:=O1.p.row.guest HL.out
 obtain rfl:=e0
 rw[hlq] at cm0 lc1
 have im:(i:Int)<(m:Int):=by have h:=lt_of_get HL.out;rw[HM.out] at h;omega
 clear hel hlq
 have HYY:=lh hy;clear hy
 rw[HD.out] at HSC
 obtain⟨DR_c,DR_f,DR_z⟩:=DR.all
 have b2b:=b2
 have hrule:∀ w':World,Below w4.heap.size w4 w'→∀ b o,b<w4.heap.size→w'.cell? ⟨b,o,none⟩=w4.cell? ⟨b,o,none⟩:=fun w' h b o hlt=>h.cell (p:=⟨b,o,none⟩) hlt
 go_region_held3 (fun w'=>Below w4.heap.size w4 w') (repeat' (first|(with_reducible first|assumption|exact Below.refl _ _|refine Below.drew ?_|refine Below.alloc' ?_ (nlr _) _|refine Below.setCell ?_ ?_ _)|refine Below.trans ?_ (Below.mono (by with_reducible assumption) ?_)|exact rfl|exact nlr _|omega|(simp only[sizes];done)|(simp only[sizes];omega))) ((first
  |
   (go_at_call 64
    with_reducible refine (HSC.out _).mono ?_
    rintro e w5 ⟨vS,rfl,hrS,hb5⟩
    obtain⟨so5,sc5,rfl,hs51,hs52,_⟩:=hrS.out
    rw[HNN.out] at hrS hs51 ⊢
    obtain⟨hc5,hf5⟩:=bcell hb5
    have hzz5:=bsize hb5
    (try simp only[sizes1] at hzz5)
    (try simp only[sizes] at hc5 hf5))))
 have hb35:Below w4.heap.size w4 w5:=by (repeat' (first|(with_reducible first|assumption|exact Below.refl _ _|refine Below.drew ?_|refine Below.alloc' ?_ (nlr _) _|refine Below.setCell ?_ ?_ _)|refine Below.trans ?_ (Below.mono (by with_reducible assumption) ?_)|exact rfl|exact nlr _|omega|(simp only[sizes];done)|(simp only[sizes];omega)))
 have HRS:=lh hrS
 clear hrS hc5 hf5 hzz5 hb5 hrule DR_c DR_f DR_z c4 c8
 have D25:=D2.below hb35
 have DR5:=DR.below hb35
 have O5:=O1.below hb35
 have rs5:=lh (rs3.below hb35)
 have c45:=(hb35.cell (p:=⟨bG,i*9+4,none⟩) b2).trans (cs 4 _ rfl)
 have c85:=(hb35.cell (p:=⟨bG,i*9+8,none⟩) b2).trans (cs 8 _ rfl)
 dsimp only at c45 c85
 rw[HQL.out] at c85
 clear cs
 replace hbw:=hbw.trans (hb35.mono hbw.size)
 have hz5:=Nat.le_trans hzz hb35.size
 have b25:bG<w5.heap.size:=Nat.lt_of_lt_of_le b2 hb35.size
 have fG5:∀ o,w5.frozen? ⟨bG,o,none⟩=false:=fun o=>(hb35.frozen (p:=⟨bG,o,none⟩) b2).trans (cfz o)
 clear O1 D2 DR rs3 cfz
 go_wp2_with fail
 go_loopw [11,12] (fun c i2 wr=>∃ j:Nat,j≤N∧i2=.int .i64 j∧c=.int .i64 ((recentN g.e (SL.take j):Nat):Int)∧Below w5.heap.size w5 wr) (fun _ i2 _=>N - (intOf i2).toNat)
 case atStart=>exact⟨0,Nat.zero_le _,rfl,rfl,Below.refl _ _⟩
 case round =>
  obtain⟨j,hj,rfl,rfl,hbr⟩:=hrel
  have hcl:recentN g.e (SL.take j)≤j:=countP_le _ SL j
  by_cases hlt:j<N
  · obtain⟨x,hx⟩:=get_lt (xs:=SL) (k:=j) (by rw[HNN.out];exact hlt)
    obtain⟨hx0,hx1⟩:=HSL.out x (mem_at hx)
    obtain⟨sb,soff,rfl,hsb,cx⟩:=EncRow.elem (enc:=Value.int .i64) (HRS.out.below hbr) hx
    obtain⟨xn,rfl⟩:∃ xn:Nat,x=xn:=⟨x.toNat,by omega⟩
    obtain⟨bb,hbb⟩:=get_lt (xs:=g.e) (k:=xn) (by rw[HQL.out];omega)
    obtain⟨eb,eoff,rfl,heb,ce⟩:=EncRow.elem (rs5.out.row.below hbr) hbb
    have hsu:=countP_succ (q:=fun x:Int=>(g.e[x.toNat]?).getD false) hx
    rw[Int.toNat_natCast,hbb] at hsu
    dsimp only[Option.getD] at hsu
    obtain⟨c,hc⟩:∃ c,recentN g.e (SL.take j)=c:=⟨_,rfl⟩
    rw[hc] at hcl ⊢
    have hsu':recentN g.e (SL.take (j+1))=c+if bb=true then 1 else 0:=by
     rw[←hc]
     exact hsu
    clear hsu hc hx hbb
    have HSU:=lh hsu';clear hsu'
    have j0:(0:Int)≤(j:Int):=by omega
    have jn:(j:Int)<(N:Int):=by omega
    have x0:(0:Int)≤(xn:Int):=by omega
    have xq:(xn:Int)<(ql:Int):=by omega
    have D5:=DR5.below hbr
    have c8r:=(hbr.cell (p:=⟨bG,i*9+8,none⟩) b25).trans c85
    have b2r:bG<wr.heap.size:=Nat.lt_of_lt_of_le b25 hbr.size
    obtain⟨D5_c,D5_f,D5_z⟩:=D5.all
    go_wp2_with fail
    refine wp_region_quiet_below (by kernel_rfl) (by kernel_rfl) ?_
    repeat (go_big_quiet_step (first|fail|fail))
    refine wpQuiet_nil ?_
    intro w9 hw9
    have hb9:=below_of_regrown hw9
    clear hw9
    obtain⟨hc9,hf9⟩:=bcell hb9
    have hz9:=bsize hb9
    try simp only[sizes1] at hz9
    try simp only[sizes] at hc9 hf9
    have hb59:=hbr.trans (hb9.mono hbr.size)
    clear D5_c D5_f D5_z hc9 hf9 c8r b2r
    cases bb
    · go_wp2_with fail
      go_roundw
      case rel=>exact⟨j+1,by omega,by go_num,by rw[HSU.out];rfl,hb59⟩
      case measure=>simp [intOf];omega
    · go_wp2_with fail
      go_roundw
      case rel=>exact⟨j+1,by omega,by go_num,by rw[HSU.out,if_pos rfl];go_num,hb59⟩
      case measure=>simp [intOf];omega
  · obtain rfl:j=N:=by omega
    have hall:SL.take j=SL:=by rw[←HNN.out];exact List.take_length
    rw[hall]
    clear hall hcl
    replace D25:=D25.below hbr
    replace DR5:=DR5.below hbr
    replace O5:=O5.below hbr
    replace c45:=(hbr.cell (p:=⟨bG,i*9+4,none⟩) b25).trans c45
    replace c85:=(hbr.cell (p:=⟨bG,i*9+8,none⟩) b25).trans c85
    replace fG5:∀ o,wr.frozen? ⟨bG,o,none⟩=false:=fun o=>(hbr.frozen (p:=⟨bG,o,none⟩) b25).trans (fG5 o)
    replace hbw:=hbw.trans (hbr.mono hbw.size)
    replace b25:bG<wr.heap.size:=Nat.lt_of_lt_of_le b25 hbr.size
    have hnGB:bG≠B:=fun e=>own_off O5.g DR5 (by decide) (by rw[e];rfl)
    have hnBG:B≠bG:=fun e=>hnGB e.symm
    have nB:w.heap.size+1≠B:=by omega
    have nG:w.heap.size+1≠bG:=by omega
    have hqm:=make_bools ql (by omega)
    have DR5k:=DR5
    have c46:(World.setCell wr ⟨B,5,none⟩ (.int .u64 SS)).cell? ⟨bG,i*9+4,none⟩=some (.int .i64 g.c.a):=by simp [go_sem,c45]
    have c86:(World.setCell wr ⟨B,5,none⟩ (.int .u64 SS)).cell? ⟨bG,i*9+8,none⟩=some (.slice eo ql ec):=by simp [go_sem,c85]
    have f86:∀ o,(World.setCell wr ⟨B,5,none⟩ (.int .u64 SS)).frozen? ⟨bG,o,none⟩=false:=fun o=>by simp [go_sem,fG5]
    obtain⟨DR5_c,DR5_f,DR5_z⟩:=DR5.all
    go_upto_region 12 with (fail)
    clear DR5_c DR5_f DR5_z
    have O5b:=O5.setbox (j:=5) DR5k hostT (.int .u64 SS)
    have DR6:=DR5k.put7_5 (.int .u64 SS)
    have D26:=D25.set_ne nB (j:=5) (.int .u64 SS)
    have hbw6:=hbw.setCell (p:=⟨B,5,none⟩) (by dsimp only;omega) (.int .u64 SS)
    have b26:bG<(World.setCell wr ⟨B,5,none⟩ (.int .u64 SS)).heap.size:=by rw[World.size_setCell];exact b25
    generalize hW:World.setCell wr ⟨B,5,none⟩ (.int .u64 SS)=w6 at c46 c86 f86 O5b DR6 D26 hbw6 b26 ⊢
    clear hW c45 c85 fG5 O5 DR5 DR5k D25
    obtain⟨DR6_c,DR6_f,DR6_z⟩:=DR6.all
    refine wp_region_tail_below 17 (by kernel_rfl) (by kernel_rfl) ?_
    simp only[List.take_succ_cons,List.take_zero,List.drop_succ_cons,List.drop_zero]
    repeat (go_big_quiet_step (first|fail|(go_at_call 65;exact quiet_ret (HES.out _))))
    refine wpQuiet_nil ?_
    intro w7 hw7
    have hb7:=below_of_regrown hw7
    clear hw7
    obtain⟨hc7,hf7⟩:=bcell hb7
    have hz7:=bsize hb7
    try simp only[sizes1] at hz7
    try simp only[sizes] at hc7 hf7
    go_upto_region 13 with (fail)
    clear DR6_c DR6_f DR6_z hc7 hf7
    have O7:=(O5b.below hb7).setActive HG.out HYY.out A
    have DR7:=(DR6.below hb7).set_ne hnBG (j:=i*9+4) (.int .i64 A)
    have D27:=(D26.below hb7).set_ne nG (j:=i*9+4) (.int .i64 A)
    have c87:(World.setCell w7 ⟨bG,i*9+4,none⟩ (.int .i64 A)).cell? ⟨bG,i*9+8,none⟩=some (.slice eo ql ec):=by
     have h:=(hb7.cell (p:=⟨bG,i*9+8,none⟩) b26).trans c86
     simp [go_sem,h]
    have f87:∀ o,(World.setCell w7 ⟨bG,i*9+4,none⟩ (.int .i64 A)).frozen? ⟨bG,o,none⟩=false:=fun o=>by
     have h:=(hb7.frozen (p:=⟨bG,o,none⟩) b26).trans (f86 o)
     simp [go_sem,h]
    have hbw7:=(hbw6.trans (hb7.mono hbw6.size)).setCell (p:=⟨bG,i*9+4,none⟩) (by dsimp only;omega) (.int .i64 A)
    have b27:bG<(World.setCell w7 ⟨bG,i*9+4,none⟩ (.int .i64 A)).heap.size:=by rw[World.size_setCell];exact Nat.lt_of_lt_of_le b26 hb7.size
    generalize hW:World.setCell w7 ⟨bG,i*9+4,none⟩ (.int .i64 A)=w8 at O7 DR7 D27 c87 f87 hbw7 b27 ⊢
    clear hW c46 c86 f86 O5b DR6 D26 hbw6 hb7 b26 hz7
    obtain⟨DR7_c,DR7_f,DR7_z⟩:=DR7.all
    go_region
    clear DR7_c DR7_f DR7_z c87
    have OA:=O7.alloc (.cells (boolArr (List.replicate ql false)) 4)
    have hg2:(H.setG i { g with c:={ g.c with a:=A } }).G[i]?=some { g with c:={ g.c with a:=A } }:=by
     show (H.G.set i _)[i]?=_
     rw[List.getElem?_set,if_pos rfl,if_pos (lt_of_get HG.out)]
    have hblk:HasBlock (w8.alloc (.cells (boolArr (List.replicate ql false)) 4)) w8.heap.size (boolArr (List.replicate ql false)) 4:=HasBlock.made' rfl
    have hown:OwnBool (w.heap.size+1+1) (w8.alloc (.cells (boolArr (List.replicate ql false)) 4)) (.slice (some ⟨w8.heap.size,0,none⟩) ql ql) (List.replicate ql false):=own_enc hblk (List.length_replicate ..) (by omega) (by have:=DR7.lt;omega)
    have OB:=OA.setRecent (i:=i) (vu:=.slice (some ⟨w8.heap.size,0,none⟩) ql ql) (u:=List.replicate ql false) hg2 HYY.out O7.ltG hown (fun k hk=>Nat.le_of_eq (Option.some.inj (show some w8.heap.size=some k from hk)))
    rw[World.setCell_alloc_past _ _ _ _ b27] at OB
    have hHe:(H.setG i { g with c:={ g.c with a:=A } }).setG i { g with c:={ g.c with a:=A },e:=List.replicate ql false }=⟨H.P,H.G.set i { g with c:={ g.c with a:=A },e:=List.replicate ql false },H.t,H.d,H.n⟩:=by
     unfold Ho.setG
     dsimp only
     rw[List.set_set]
    dsimp only at OB
    rw[hHe] at OB
    have OC:=OB.drew
    have DC:=((DR7.set_ne hnBG (j:=i*9+8) (.slice (some ⟨w8.heap.size,0,none⟩) ql ql)).alloc (.cells (boolArr (List.replicate ql false)) 4)).drew
    have D29:=((D27.set_ne nG (j:=i*9+8) (.slice (some ⟨w8.heap.size,0,none⟩) ql ql)).alloc (.cells (boolArr (List.replicate ql false)) 4)).drew
    have BC:=((hbw7.setCell (p:=⟨bG,i*9+8,none⟩) (by dsimp only;omega) (.slice (some ⟨w8.heap.size,0,none⟩) ql ql)).alloc (by simp only[sizes];omega) (.cells (boolArr (List.replicate ql false)) 4)).drew
    generalize hW:((World.setCell w8 ⟨bG,i*9+8,none⟩ (.slice (some ⟨w8.heap.size,0,none⟩) ql ql)).alloc (.cells (boolArr (List.replicate ql false)) 4)).drew=w9 at OC DC D29 BC ⊢
    clear hW hown hblk OA OB O7 DR7 D27 hbw7 f87 b27
    obtain⟨DC_c,DC_f,DC_z⟩:=DC.all
    obtain⟨D29_c,D29_f,D29_z⟩:=D29.all
    go_wp2_with fail
    refine bodyPost_ret (v:=.tuple #[.agg #[.slice of1 n kf1',.slice or1 r kr1',.slice (some ⟨mb,moff,none⟩) m km1',.slice (some ⟨bG,0,none⟩) q kg1',.int .i64 tx,.int .u64 SS,.int .i64 sx],.bool true]) (by simp [results,Tryz.results31,go_sem,D29_c]) rfl ?_
    rw[HQL.out]
    have OE:=(OC.fill7 (B:=w.heap.size+1) (by omega) (.slice of1 n kf1') (.slice or1 r kr1') (.slice (some ⟨mb,moff,none⟩) m km1') (.slice (some ⟨bG,0,none⟩) q kg1') (.int .i64 tx) (.int .u64 SS) (.int .i64 sx)).head (H':=⟨H.P,H.G.set i { g with c:={ g.c with a:=A },e:=List.replicate ql false },tx,SS,sx⟩) rfl rfl
    exact hoRet' (k:=fun v=>.tuple #[v,.bool true]) (H:=⟨H.P,H.G.set i { g with c:={ g.c with a:=A },e:=List.replicate ql false },tx,SS,sx⟩) HN.out HR.out HM.out ((List.length_set ..).trans HQ.out) rfl rfl rfl OE (Below.fill7 BC (by omega) _ _ _ _ _ _ _)
set_option maxRecDepth 100000 in
set_option maxHeartbeats 4000000 in
theorem hread_no (v:Value) (H:Ho) (i p:Int) (w:World) (ha:HoAt w v H) (hf:H.Fit) (hsm:H.Small) (hb:¬H.has i p):Calls Tryz.prog 20 #[v,.int .i64 i,.int .i64 p] w (RetHoB (fun v=>.tuple #[v,.string ⟨#[]⟩,.int .i64 3800]) H w):=by
 have V:=fun v w h=>hhas_any v H i p false w h hf hsm (Iff.intro (fun e=>by cases e) (fun e=>absurd e hb))
 have HV:=lh V;clear V hb
 have CL:=fun v w h=>hclone_any v H w h hsm
 have HCL:=lh CL;clear CL
 obtain⟨of,or',om,og,kf,kr,km,kg,n,r,m,q,tx,dx,sx,HN,HR,HM,HQ,HT,HD,HS,rfl,kf1,kf2,kr1,kr2,km1,km2,kg1,kg2,h⟩:=HoAt.opened ha
 have h0:=h
 have HA:Hid (∀ w':World,Below w.heap.size w w'→HoAt w' (.agg #[.slice of n kf,.slice or' r kr,.slice om m km,.slice og q kg,.int .i64 tx,.int .u64 dx,.int .i64 sx]) H):=lh (fun w' hb=>by
  have:=(h0.below hb).at_
  rwa[HT.out,HD.out,HS.out] at this)
 clear h h0 hf hsm
 have D1:=(HasBlock.made w #[.slice of n kf,.slice or' r kr,.slice om m km,.slice og q kg,.int .i64 tx,.int .u64 dx,.int .i64 sx] 30).alloc (.cells #[.slice none 0 0,.slice none 0 0,.slice none 0 0,.slice none 0 0,.int .i64 0,.int .u64 0,.int .i64 0] 30)
 have D2:=HasBlock.made (w.alloc (.cells #[.slice of n kf,.slice or' r kr,.slice om m km,.slice og q kg,.int .i64 tx,.int .u64 dx,.int .i64 sx] 30)) #[.slice none 0 0,.slice none 0 0,.slice none 0 0,.slice none 0 0,.int .i64 0,.int .u64 0,.int .i64 0] 30
 rw[World.size_alloc] at D2
 have hbw:Below w.heap.size w ((w.alloc (.cells #[.slice of n kf,.slice or' r kr,.slice om m km,.slice og q kg,.int .i64 tx,.int .u64 dx,.int .i64 sx] 30)).alloc (.cells #[.slice none 0 0,.slice none 0 0,.slice none 0 0,.slice none 0 0,.int .i64 0,.int .u64 0,.int .i64 0] 30)):=bel
 have hz0:w.heap.size+1+1=((w.alloc (.cells #[.slice of n kf,.slice or' r kr,.slice om m km,.slice og q kg,.int .i64 tx,.int .u64 dx,.int .i64 sx] 30)).alloc (.cells #[.slice none 0 0,.slice none 0 0,.slice none 0 0,.slice none 0 0,.int .i64 0,.int .u64 0,.int .i64 0] 30)).heap.size:=by simp only[sizes]
 go_enter Tryz.func20,Tryz.ntmps20
 obtain⟨D1_c,D1_f,D1_z⟩:=D1.all
 go_wp2_with fail
 clear D1_c D1_f D1_z
 with_reducible refine (HCL.out _ _ (HA.out _ hbw)).mono ?_
 rintro e w1 ⟨of1,or1,om1,og1,kf1',kr1',km1',kg1',us1,gs1,rfl,O1,hb1⟩
 rw[HN.out,HR.out,HM.out,HQ.out] at O1 ⊢
 rw[HT.out,HD.out,HS.out]
 replace O1:=O1.lower (base':=w.heap.size+1+1) (Nat.le_of_eq hz0)
 have hz1:=hb1.size
 rw[←hz0] at hz1
 replace D1:=D1.below hb1
 replace D2:=D2.below hb1
 replace hbw:=hbw.trans (hb1.mono hbw.size)
 clear hb1 hz0
 obtain⟨D1_c,D1_f,D1_z⟩:=D1.all
 go_wp2_with fail
 clear D1_c D1_f D1_z
 have hbx:Below w1.heap.size w1 (w1.alloc (.cells #[.slice of1 n kf1',.slice or1 r kr1',.slice om1 m km1',.slice og1 q kg1',.int .i64 tx,.int .u64 dx,.int .i64 sx] 30)):=(Below.refl _ _).alloc (nlr _) _
 have DR:=HasBlock.made w1 #[.slice of1 n kf1',.slice or1 r kr1',.slice om1 m km1',.slice og1 q kg1',.int .i64 tx,.int .u64 dx,.int .i64 sx] 30
 replace D1:=D1.below hbx
 replace D2:=D2.below hbx
 replace O1:=O1.below hbx
 replace hbw:=hbw.trans (hbx.mono hbw.size)
 have hz2:=hbx.size
 clear hbx
 generalize hW:w1.alloc (.cells #[.slice of1 n kf1',.slice or1 r kr1',.slice om1 m km1',.slice og1 q kg1',.int .i64 tx,.int .u64 dx,.int .i64 sx] 30)=w2 at D1 D2 DR O1 hbw hz2 ⊢
 obtain⟨B,hB⟩:∃ B,w1.heap.size=B:=⟨_,rfl⟩
 rw[hB] at DR hz1 hz2 ⊢
 clear hW hB
 with_reducible refine (HV.out _ _ (HA.out _ hbw)).mono ?_
 rintro e w3 ⟨rfl,hb3⟩
 replace D1:=D1.below hb3
 replace D2:=D2.below hb3
 replace DR:=DR.below hb3
 replace O1:=O1.below hb3
 replace hbw:=hbw.trans (hb3.mono hbw.size)
 clear hb3
 obtain⟨D1_c,D1_f,D1_z⟩:=D1.all
 obtain⟨D2_c,D2_f,D2_z⟩:=D2.all
 obtain⟨DR_c,DR_f,DR_z⟩:=DR.all
 go_wp2_with fail
 refine bodyPost_ret (v:=.tuple #[(.agg #[.slice of1 n kf1',.slice or1 r kr1',.slice om1 m km1',.slice og1 q kg1',.int .i64 tx,.int .u64 dx,.int .i64 sx]),.string ⟨#[]⟩,.int .i64 3800]) (by simp [results,Tryz.results20,go_sem,D2_c]) rfl ?_
 exact hoRet' (k:=fun v=>.tuple #[v,.string ⟨#[]⟩,.int .i64 3800]) HN.out HR.out HM.out HQ.out HT.out HD.out HS.out (O1.fill7 (by omega) _ _ _ _ _ _ _) (Below.fill7 hbw (by omega) _ _ _ _ _ _ _)
set_option maxRecDepth 100000 in
set_option maxHeartbeats 4000000 in
theorem hwrite_no (v:Value) (H:Ho) (i p:Int) (d:ByteArray) (w:World) (ha:HoAt w v H) (hf:H.Fit) (hsm:H.Small) (hb:¬(H.has i p∧d.size=128)):Calls Tryz.prog 17 #[v,.int .i64 i,.int .i64 p,.string d] w (RetHoB (fun v=>.tuple #[v,.int .i64 3800]) H w):=by
 obtain⟨bv,hbv⟩:=bool_of (H.has i p)
 have V:=fun v w h=>hhas_any v H i p bv w h hf hsm hbv
 have HV:=lh V;clear V
 have hno:bv=true→d.size≠128:=fun e h=>hb ⟨hbv.1 e,h⟩
 clear hb hbv
 cases bv
 · clear hno
   have CL:=fun v w h=>hclone_any v H w h hsm
   have HCL:=lh CL;clear CL
   obtain⟨of,or',om,og,kf,kr,km,kg,n,r,m,q,tx,dx,sx,HN,HR,HM,HQ,HT,HD,HS,rfl,kf1,kf2,kr1,kr2,km1,km2,kg1,kg2,h⟩:=HoAt.opened ha
   have h0:=h
   have HA:Hid (∀ w':World,Below w.heap.size w w'→HoAt w' (.agg #[.slice of n kf,.slice or' r kr,.slice om m km,.slice og q kg,.int .i64 tx,.int .u64 dx,.int .i64 sx]) H):=lh (fun w' hb=>by
    have:=(h0.below hb).at_
    rwa[HT.out,HD.out,HS.out] at this)
   clear h h0 hf hsm
   have D1:=(HasBlock.made w #[.slice of n kf,.slice or' r kr,.slice om m km,.slice og q kg,.int .i64 tx,.int .u64 dx,.int .i64 sx] 30).alloc (.cells #[.slice none 0 0,.slice none 0 0,.slice none 0 0,.slice none 0 0,.int .i64 0,.int .u64 0,.int .i64 0] 30)
   have D2:=HasBlock.made (w.alloc (.cells #[.slice of n kf,.slice or' r kr,.slice om m km,.slice og q kg,.int .i64 tx,.int .u64 dx,.int .i64 sx] 30)) #[.slice none 0 0,.slice none 0 0,.slice none 0 0,.slice none 0 0,.int .i64 0,.int .u64 0,.int .i64 0] 30
   rw[World.size_alloc] at D2
   have hbw:Below w.heap.size w ((w.alloc (.cells #[.slice of n kf,.slice or' r kr,.slice om m km,.slice og q kg,.int .i64 tx,.int .u64 dx,.int .i64 sx] 30)).alloc (.cells #[.slice none 0 0,.slice none 0 0,.slice none 0 0,.slice none 0 0,.int .i64 0,.int .u64 0,.int .i64 0] 30)):=bel
   have hz0:w.heap.size+1+1=((w.alloc (.cells #[.slice of n kf,.slice or' r kr,.slice om m km,.slice og q kg,.int .i64 tx,.int .u64 dx,.int .i64 sx] 30)).alloc (.cells #[.slice none 0 0,.slice none 0 0,.slice none 0 0,.slice none 0 0,.int .i64 0,.int .u64 0,.int .i64 0] 30)).heap.size:=by simp only[sizes]
   go_enter Tryz.func17,Tryz.ntmps17
   obtain⟨D1_c,D1_f,D1_z⟩:=D1.all
   go_wp2_with fail
   clear D1_c D1_f D1_z
   with_reducible refine (HCL.out _ _ (HA.out _ hbw)).mono ?_
   rintro e w1 ⟨of1,or1,om1,og1,kf1',kr1',km1',kg1',us1,gs1,rfl,O1,hb1⟩
   rw[HN.out,HR.out,HM.out,HQ.out] at O1 ⊢
   rw[HT.out,HD.out,HS.out]
   replace O1:=O1.lower (base':=w.heap.size+1+1) (Nat.le_of_eq hz0)
   have hz1:=hb1.size
   rw[←hz0] at hz1
   replace D1:=D1.below hb1
   replace D2:=D2.below hb1
   replace hbw:=hbw.trans (hb1.mono hbw.size)
   clear hb1 hz0
   obtain⟨D1_c,D1_f,D1_z⟩:=D1.all
   go_wp2_with fail
   clear D1_c D1_f D1_z
   have hbx:Below w1.heap.size w1 (w1.alloc (.cells #[.slice of1 n kf1',.slice or1 r kr1',.slice om1 m km1',.slice og1 q kg1',.int .i64 tx,.int .u64 dx,.int .i64 sx] 30)):=(Below.refl _ _).alloc (nlr _) _
   have DR:=HasBlock.made w1 #[.slice of1 n kf1',.slice or1 r kr1',.slice om1 m km1',.slice og1 q kg1',.int .i64 tx,.int .u64 dx,.int .i64 sx] 30
   replace D1:=D1.below hbx
   replace D2:=D2.below hbx
   replace O1:=O1.below hbx
   replace hbw:=hbw.trans (hbx.mono hbw.size)
   have hz2:=hbx.size
   clear hbx
   generalize hW:w1.alloc (.cells #[.slice of1 n kf1',.slice or1 r kr1',.slice om1 m km1',.slice og1 q kg1',.int .i64 tx,.int .u64 dx,.int .i64 sx] 30)=w2 at D1 D2 DR O1 hbw hz2 ⊢
   obtain⟨B,hB⟩:∃ B,w1.heap.size=B:=⟨_,rfl⟩
   rw[hB] at DR hz1 hz2 ⊢
   clear hW hB
   with_reducible refine (HV.out _ _ (HA.out _ hbw)).mono ?_
   rintro e w3 ⟨rfl,hb3⟩
   replace D1:=D1.below hb3
   replace D2:=D2.below hb3
   replace DR:=DR.below hb3
   replace O1:=O1.below hb3
   replace hbw:=hbw.trans (hb3.mono hbw.size)
   clear hb3
   obtain⟨D1_c,D1_f,D1_z⟩:=D1.all
   obtain⟨D2_c,D2_f,D2_z⟩:=D2.all
   obtain⟨DR_c,DR_f,DR_z⟩:=DR.all
   go_wp2_with fail
   refine bodyPost_ret (v:=.tuple #[(.agg #[.slice of1 n kf1',.slice or1 r kr1',.slice om1 m km1',.slice og1 q kg1',.int .i64 tx,.int .u64 dx,.int .i64 sx]),.int .i64 3800]) (by simp [results,Tryz.results17,go_sem,D2_c]) rfl ?_
   exact hoRet' (k:=fun v=>.tuple #[v,.int .i64 3800]) HN.out HR.out HM.out HQ.out HT.out HD.out HS.out (O1.fill7 (by omega) _ _ _ _ _ _ _) (Below.fill7 hbw (by omega) _ _ _ _ _ _ _)
 · have hn:=hno rfl
   clear hno
   have t1:((d.size:Int) != 128)=true:=int_ne (by omega)
   have CL:=fun v w h=>hclone_any v H w h hsm
   have HCL:=lh CL;clear CL
   obtain⟨of,or',om,og,kf,kr,km,kg,n,r,m,q,tx,dx,sx,HN,HR,HM,HQ,HT,HD,HS,rfl,kf1,kf2,kr1,kr2,km1,km2,kg1,kg2,h⟩:=HoAt.opened ha
   have h0:=h
   have HA:Hid (∀ w':World,Below w.heap.size w w'→HoAt w' (.agg #[.slice of n kf,.slice or' r kr,.slice om m km,.slice og q kg,.int .i64 tx,.int .u64 dx,.int .i64 sx]) H):=lh (fun w' hb=>by
    have:=(h0.below hb).at_
    rwa[HT.out,HD.out,HS.out] at this)
   clear h h0 hf hsm
   have D1:=(HasBlock.made w #[.slice of n kf,.slice or' r kr,.slice om m km,.slice og q kg,.int .i64 tx,.int .u64 dx,.int .i64 sx] 30).alloc (.cells #[.slice none 0 0,.slice none 0 0,.slice none 0 0,.slice none 0 0,.int .i64 0,.int .u64 0,.int .i64 0] 30)
   have D2:=HasBlock.made (w.alloc (.cells #[.slice of n kf,.slice or' r kr,.slice om m km,.slice og q kg,.int .i64 tx,.int .u64 dx,.int .i64 sx] 30)) #[.slice none 0 0,.slice none 0 0,.slice none 0 0,.slice none 0 0,.int .i64 0,.int .u64 0,.int .i64 0] 30
   rw[World.size_alloc] at D2
   have hbw:Below w.heap.size w ((w.alloc (.cells #[.slice of n kf,.slice or' r kr,.slice om m km,.slice og q kg,.int .i64 tx,.int .u64 dx,.int .i64 sx] 30)).alloc (.cells #[.slice none 0 0,.slice none 0 0,.slice none 0 0,.slice none 0 0,.int .i64 0,.int .u64 0,.int .i64 0] 30)):=bel
   have hz0:w.heap.size+1+1=((w.alloc (.cells #[.slice of n kf,.slice or' r kr,.slice om m km,.slice og q kg,.int .i64 tx,.int .u64 dx,.int .i64 sx] 30)).alloc (.cells #[.slice none 0 0,.slice none 0 0,.slice none 0 0,.slice none 0 0,.int .i64 0,.int .u64 0,.int .i64 0] 30)).heap.size:=by simp only[sizes]
   go_enter Tryz.func17,Tryz.ntmps17
   obtain⟨D1_c,D1_f,D1_z⟩:=D1.all
   go_wp2_with fail
   clear D1_c D1_f D1_z
   with_reducible refine (HCL.out _ _ (HA.out _ hbw)).mono ?_
   rintro e w1 ⟨of1,or1,om1,og1,kf1',kr1',km1',kg1',us1,gs1,rfl,O1,hb1⟩
   rw[HN.out,HR.out,HM.out,HQ.out] at O1 ⊢
   rw[HT.out,HD.out,HS.out]
   replace O1:=O1.lower (base':=w.heap.size+1+1) (Nat.le_of_eq hz0)
   have hz1:=hb1.size
   rw[←hz0] at hz1
   replace D1:=D1.below hb1
   replace D2:=D2.below hb1
   replace hbw:=hbw.trans (hb1.mono hbw.size)
   clear hb1 hz0
   obtain⟨D1_c,D1_f,D1_z⟩:=D1.all
   go_wp2_with fail
   clear D1_c D1_f D1_z
   have hbx:Below w1.heap.size w1 (w1.alloc (.cells #[.slice of1 n kf1',.slice or1 r kr1',.slice om1 m km1',.slice og1 q kg1',.int .i64 tx,.int .u64 dx,.int .i64 sx] 30)):=(Below.refl _ _).alloc (nlr _) _
   have DR:=HasBlock.made w1 #[.slice of1 n kf1',.slice or1 r kr1',.slice om1 m km1',.slice og1 q kg1',.int .i64 tx,.int .u64 dx,.int .i64 sx] 30
   replace D1:=D1.below hbx
   replace D2:=D2.below hbx
   replace O1:=O1.below hbx
   replace hbw:=hbw.trans (hbx.mono hbw.size)
   have hz2:=hbx.size
   clear hbx
   generalize hW:w1.alloc (.cells #[.slice of1 n kf1',.slice or1 r kr1',.slice om1 m km1',.slice og1 q kg1',.int .i64 tx,.int .u64 dx,.int .i64 sx] 30)=w2 at D1 D2 DR O1 hbw hz2 ⊢
   obtain⟨B,hB⟩:∃ B,w1.heap.size=B:=⟨_,rfl⟩
   rw[hB] at DR hz1 hz2 ⊢
   clear hW hB
   with_reducible refine (HV.out _ _ (HA.out _ hbw)).mono ?_
   rintro e w3 ⟨rfl,hb3⟩
   replace D1:=D1.below hb3
   replace D2:=D2.below hb3
   replace DR:=DR.below hb3
   replace O1:=O1.below hb3
   replace hbw:=hbw.trans (hb3.mono hbw.size)
   clear hb3
   obtain⟨D1_c,D1_f,D1_z⟩:=D1.all
   obtain⟨D2_c,D2_f,D2_z⟩:=D2.all
   obtain⟨DR_c,DR_f,DR_z⟩:=DR.all
   go_wp2_with fail
   refine bodyPost_ret (v:=.tuple #[(.agg #[.slice of1 n kf1',.slice or1 r kr1',.slice om1 m km1',.slice og1 q kg1',.int .i64 tx,.int .u64 dx,.int .i64 sx]),.int .i64 3800]) (by simp [results,Tryz.results17,go_sem,D2_c]) rfl ?_
   exact hoRet' (k:=fun v=>.tuple #[v,.int .i64 3800]) HN.out HR.out HM.out HQ.out HT.out HD.out HS.out (O1.fill7 (by omega) _ _ _ _ _ _ _) (Below.fill7 hbw (by omega) _ _ _ _ _ _ _)
set_option maxRecDepth 100000 in
set_option maxHeartbeats 4000000 in
theorem hadd_no (v:Value) (H:Ho) (cr cl cs cp ca q0:Int) (w:World) (ha:HoAt w v H) (hf:H.Fit) (hsm:H.Small) (hb:¬H.Ok):Calls Tryz.prog 16 #[v,.agg #[.int .i64 cr,.int .i64 cl,.int .i64 cs,.int .i64 cp,.int .i64 ca],.int .i64 q0] w (RetHoB (fun v=>.tuple #[v,.int .i64 3800]) H w):=by
 have V:=fun v w h=>hvalid_any v H false w h hf hsm (Iff.intro (fun e=>by cases e) (fun e=>absurd e hb))
 have HV:=lh V;clear V hb
 have CL:=fun v w h=>hclone_any v H w h hsm
 have HCL:=lh CL;clear CL
 obtain⟨of,or',om,og,kf,kr,km,kg,n,r,m,q,tx,dx,sx,HN,HR,HM,HQ,HT,HD,HS,rfl,kf1,kf2,kr1,kr2,km1,km2,kg1,kg2,h⟩:=HoAt.opened ha
 have h0:=h
 have HA:Hid (∀ w':World,Below w.heap.size w w'→HoAt w' (.agg #[.slice of n kf,.slice or' r kr,.slice om m km,.slice og q kg,.int .i64 tx,.int .u64 dx,.int .i64 sx]) H):=lh (fun w' hb=>by
  have:=(h0.below hb).at_
  rwa[HT.out,HD.out,HS.out] at this)
 clear h h0 hf hsm
 have D1:=((HasBlock.made w #[.slice of n kf,.slice or' r kr,.slice om m km,.slice og q kg,.int .i64 tx,.int .u64 dx,.int .i64 sx] 30).alloc (.cells #[.int .i64 cr,.int .i64 cl,.int .i64 cs,.int .i64 cp,.int .i64 ca] 32)).alloc (.cells #[.slice none 0 0,.slice none 0 0,.slice none 0 0,.slice none 0 0,.int .i64 0,.int .u64 0,.int .i64 0] 30)
 have DC:=(HasBlock.made (w.alloc (.cells #[.slice of n kf,.slice or' r kr,.slice om m km,.slice og q kg,.int .i64 tx,.int .u64 dx,.int .i64 sx] 30)) #[.int .i64 cr,.int .i64 cl,.int .i64 cs,.int .i64 cp,.int .i64 ca] 32).alloc (.cells #[.slice none 0 0,.slice none 0 0,.slice none 0 0,.slice none 0 0,.int .i64 0,.int .u64 0,.int .i64 0] 30)
 have D2:=HasBlock.made ((w.alloc (.cells #[.slice of n kf,.slice or' r kr,.slice om m km,.slice og q kg,.int .i64 tx,.int .u64 dx,.int .i64 sx] 30)).alloc (.cells #[.int .i64 cr,.int .i64 cl,.int .i64 cs,.int .i64 cp,.int .i64 ca] 32)) #[.slice none 0 0,.slice none 0 0,.slice none 0 0,.slice none 0 0,.int .i64 0,.int .u64 0,.int .i64 0] 30
 rw[World.size_alloc,World.size_alloc] at D2
 have hbw:Below w.heap.size w (((w.alloc (.cells #[.slice of n kf,.slice or' r kr,.slice om m km,.slice og q kg,.int .i64 tx,.int .u64 dx,.int .i64 sx] 30)).alloc (.cells #[.int .i64 cr,.int .i64 cl,.int .i64 cs,.int .i64 cp,.int .i64 ca] 32)).alloc (.cells #[.slice none 0 0,.slice none 0 0,.slice none 0 0,.slice none 0 0,.int .i64 0,.int .u64 0,.int .i64 0] 30)):=bel
 have hz0:w.heap.size+1+1+1=(((w.alloc (.cells #[.slice of n kf,.slice or' r kr,.slice om m km,.slice og q kg,.int .i64 tx,.int .u64 dx,.int .i64 sx] 30)).alloc (.cells #[.int .i64 cr,.int .i64 cl,.int .i64 cs,.int .i64 cp,.int .i64 ca] 32)).alloc (.cells #[.slice none 0 0,.slice none 0 0,.slice none 0 0,.slice none 0 0,.int .i64 0,.int .u64 0,.int .i64 0] 30)).heap.size:=by simp only[sizes]
 go_enter Tryz.func16,Tryz.ntmps16
 obtain⟨D1_c,D1_f,D1_z⟩:=D1.all
 go_wp2_with fail
 clear D1_c D1_f D1_z
 with_reducible refine (HCL.out _ _ (HA.out _ hbw)).mono ?_
 rintro e w1 ⟨of1,or1,om1,og1,kf1',kr1',km1',kg1',us1,gs1,rfl,O1,hb1⟩
 rw[HN.out,HR.out,HM.out,HQ.out] at O1 ⊢
 rw[HT.out,HD.out,HS.out]
 replace O1:=O1.lower (base':=w.heap.size+1+1+1) (Nat.le_of_eq hz0)
 have hz1:=hb1.size
 rw[←hz0] at hz1
 replace D1:=D1.below hb1
 replace D2:=D2.below hb1
 replace hbw:=hbw.trans (hb1.mono hbw.size)
 clear hb1 hz0 DC
 obtain⟨D1_c,D1_f,D1_z⟩:=D1.all
 go_wp2_with fail
 clear D1_c D1_f D1_z
 have hbx:Below w1.heap.size w1 (w1.alloc (.cells #[.slice of1 n kf1',.slice or1 r kr1',.slice om1 m km1',.slice og1 q kg1',.int .i64 tx,.int .u64 dx,.int .i64 sx] 30)):=(Below.refl _ _).alloc (nlr _) _
 have DR:=HasBlock.made w1 #[.slice of1 n kf1',.slice or1 r kr1',.slice om1 m km1',.slice og1 q kg1',.int .i64 tx,.int .u64 dx,.int .i64 sx] 30
 replace D1:=D1.below hbx
 replace D2:=D2.below hbx
 replace O1:=O1.below hbx
 replace hbw:=hbw.trans (hbx.mono hbw.size)
 have hz2:=hbx.size
 clear hbx
 generalize hW:w1.alloc (.cells #[.slice of1 n kf1',.slice or1 r kr1',.slice om1 m km1',.slice og1 q kg1',.int .i64 tx,.int .u64 dx,.int .i64 sx] 30)=w2 at D1 D2 DR O1 hbw hz2 ⊢
 obtain⟨B,hB⟩:∃ B,w1.heap.size=B:=⟨_,rfl⟩
 rw[hB] at DR hz1 hz2 ⊢
 clear hW hB
 with_reducible refine (HV.out _ _ (HA.out _ hbw)).mono ?_
 rintro e w3 ⟨rfl,hb3⟩
 replace D1:=D1.below hb3
 replace D2:=D2.below hb3
 replace DR:=DR.below hb3
 replace O1:=O1.below hb3
 replace hbw:=hbw.trans (hb3.mono hbw.size)
 clear hb3
 obtain⟨D1_c,D1_f,D1_z⟩:=D1.all
 obtain⟨D2_c,D2_f,D2_z⟩:=D2.all
 obtain⟨DR_c,DR_f,DR_z⟩:=DR.all
 go_wp2_with fail
 refine bodyPost_ret (v:=.tuple #[(.agg #[.slice of1 n kf1',.slice or1 r kr1',.slice om1 m km1',.slice og1 q kg1',.int .i64 tx,.int .u64 dx,.int .i64 sx]),.int .i64 3800]) (by simp [results,Tryz.results16,go_sem,D2_c]) rfl ?_
 exact hoRet' (k:=fun v=>.tuple #[v,.int .i64 3800]) HN.out HR.out HM.out HQ.out HT.out HD.out HS.out (O1.fill7 (by omega) _ _ _ _ _ _ _) (Below.fill7 hbw (by omega) _ _ _ _ _ _ _)
set_option maxRecDepth 100000 in
set_option maxHeartbeats 4000000 in
theorem hscan_no (v:Value) (H:Ho) (k:Int) (w:World) (ha:HoAt w v H) (hf:H.Fit) (hsm:H.Small) (hb:¬H.Ok):Calls Tryz.prog 36 #[v,.int .i64 k] w (RetHoB (fun v=>v) H w):=by
 have V:=fun v w h=>hvalid_any v H false w h hf hsm (Iff.intro (fun e=>by cases e) (fun e=>absurd e hb))
 have HV:=lh V;clear V hb
 have CL:=fun v w h=>hclone_any v H w h hsm
 have HCL:=lh CL;clear CL
 obtain⟨of,or',om,og,kf,kr,km,kg,n,r,m,q,tx,dx,sx,HN,HR,HM,HQ,HT,HD,HS,rfl,kf1,kf2,kr1,kr2,km1,km2,kg1,kg2,h⟩:=HoAt.opened ha
 have h0:=h
 have HA:Hid (∀ w':World,Below w.heap.size w w'→HoAt w' (.agg #[.slice of n kf,.slice or' r kr,.slice om m km,.slice og q kg,.int .i64 tx,.int .u64 dx,.int .i64 sx]) H):=lh (fun w' hb=>by
  have:=(h0.below hb).at_
  rwa[HT.out,HD.out,HS.out] at this)
 clear h h0 hf hsm
 have D1:=(HasBlock.made w #[.slice of n kf,.slice or' r kr,.slice om m km,.slice og q kg,.int .i64 tx,.int .u64 dx,.int .i64 sx] 30).alloc (.cells #[.slice none 0 0,.slice none 0 0,.slice none 0 0,.slice none 0 0,.int .i64 0,.int .u64 0,.int .i64 0] 30)
 have D2:=HasBlock.made (w.alloc (.cells #[.slice of n kf,.slice or' r kr,.slice om m km,.slice og q kg,.int .i64 tx,.int .u64 dx,.int .i64 sx] 30)) #[.slice none 0 0,.slice none 0 0,.slice none 0 0,.slice none 0 0,.int .i64 0,.int .u64 0,.int .i64 0] 30
 rw[World.size_alloc] at D2
 have hbw:Below w.heap.size w ((w.alloc (.cells #[.slice of n kf,.slice or' r kr,.slice om m km,.slice og q kg,.int .i64 tx,.int .u64 dx,.int .i64 sx] 30)).alloc (.cells #[.slice none 0 0,.slice none 0 0,.slice none 0 0,.slice none 0 0,.int .i64 0,.int .u64 0,.int .i64 0] 30)):=bel
 have hz0:w.heap.size+1+1=((w.alloc (.cells #[.slice of n kf,.slice or' r kr,.slice om m km,.slice og q kg,.int .i64 tx,.int .u64 dx,.int .i64 sx] 30)).alloc (.cells #[.slice none 0 0,.slice none 0 0,.slice none 0 0,.slice none 0 0,.int .i64 0,.int .u64 0,.int .i64 0] 30)).heap.size:=by simp only[sizes]
 go_enter Tryz.func36,Tryz.ntmps36
 obtain⟨D1_c,D1_f,D1_z⟩:=D1.all
 go_wp2_with fail
 clear D1_c D1_f D1_z
 with_reducible refine (HCL.out _ _ (HA.out _ hbw)).mono ?_
 rintro e w1 ⟨of1,or1,om1,og1,kf1',kr1',km1',kg1',us1,gs1,rfl,O1,hb1⟩
 rw[HN.out,HR.out,HM.out,HQ.out] at O1 ⊢
 rw[HT.out,HD.out,HS.out]
 replace O1:=O1.lower (base':=w.heap.size+1+1) (Nat.le_of_eq hz0)
 have hz1:=hb1.size
 rw[←hz0] at hz1
 replace D1:=D1.below hb1
 replace D2:=D2.below hb1
 replace hbw:=hbw.trans (hb1.mono hbw.size)
 clear hb1 hz0
 obtain⟨D1_c,D1_f,D1_z⟩:=D1.all
 go_wp2_with fail
 clear D1_c D1_f D1_z
 have hbx:Below w1.heap.size w1 (w1.alloc (.cells #[.slice of1 n kf1',.slice or1 r kr1',.slice om1 m km1',.slice og1 q kg1',.int .i64 tx,.int .u64 dx,.int .i64 sx] 30)):=(Below.refl _ _).alloc (nlr _) _
 have DR:=HasBlock.made w1 #[.slice of1 n kf1',.slice or1 r kr1',.slice om1 m km1',.slice og1 q kg1',.int .i64 tx,.int .u64 dx,.int .i64 sx] 30
 replace D1:=D1.below hbx
 replace D2:=D2.below hbx
 replace O1:=O1.below hbx
 replace hbw:=hbw.trans (hbx.mono hbw.size)
 have hz2:=hbx.size
 clear hbx
 generalize hW:w1.alloc (.cells #[.slice of1 n kf1',.slice or1 r kr1',.slice om1 m km1',.slice og1 q kg1',.int .i64 tx,.int .u64 dx,.int .i64 sx] 30)=w2 at D1 D2 DR O1 hbw hz2 ⊢
 obtain⟨B,hB⟩:∃ B,w1.heap.size=B:=⟨_,rfl⟩
 rw[hB] at DR hz1 hz2 ⊢
 clear hW hB
 with_reducible refine (HV.out _ _ (HA.out _ hbw)).mono ?_
 rintro e w3 ⟨rfl,hb3⟩
 replace D1:=D1.below hb3
 replace D2:=D2.below hb3
 replace DR:=DR.below hb3
 replace O1:=O1.below hb3
 replace hbw:=hbw.trans (hb3.mono hbw.size)
 clear hb3
 obtain⟨D1_c,D1_f,D1_z⟩:=D1.all
 obtain⟨D2_c,D2_f,D2_z⟩:=D2.all
 obtain⟨DR_c,DR_f,DR_z⟩:=DR.all
 go_wp2_with fail
 refine bodyPost_ret (v:=(.agg #[.slice of1 n kf1',.slice or1 r kr1',.slice om1 m km1',.slice og1 q kg1',.int .i64 tx,.int .u64 dx,.int .i64 sx])) (by simp [results,Tryz.results36,go_sem,D2_c]) rfl ?_
 exact hoRet' (k:=fun v=>v) HN.out HR.out HM.out HQ.out HT.out HD.out HS.out (O1.fill7 (by omega) _ _ _ _ _ _ _) (Below.fill7 hbw (by omega) _ _ _ _ _ _ _)
set_option maxRecDepth 100000 in
set_option maxHeartbeats 4000000 in
theorem hsample_no (v:Value) (H:Ho) (i k:Int) (w:World) (ha:HoAt w v H) (hf:H.Fit) (hsm:H.Small) (hb:¬(H.hasG i∧1≤k)):Calls Tryz.prog 30 #[v,.int .i64 i,.int .i64 k] w (RetHoB (fun v=>.tuple #[v,.bool false]) H w):=by
 obtain⟨bv,hbv⟩:=bool_of (H.hasG i)
 have V:=fun v w h=>hhasG_any v H i bv w h hf hsm hbv
 have HV:=lh V;clear V
 have hno:bv=true→k<1:=fun e=>by
  by_cases h:1≤k
  · exact absurd ⟨hbv.1 e,h⟩ hb
  · omega
 clear hb hbv
 cases bv
 · clear hno
   have CL:=fun v w h=>hclone_any v H w h hsm
   have HCL:=lh CL;clear CL
   obtain⟨of,or',om,og,kf,kr,km,kg,n,r,m,q,tx,dx,sx,HN,HR,HM,HQ,HT,HD,HS,rfl,kf1,kf2,kr1,kr2,km1,km2,kg1,kg2,h⟩:=HoAt.opened ha
   have h0:=h
   have HA:Hid (∀ w':World,Below w.heap.size w w'→HoAt w' (.agg #[.slice of n kf,.slice or' r kr,.slice om m km,.slice og q kg,.int .i64 tx,.int .u64 dx,.int .i64 sx]) H):=lh (fun w' hb=>by
    have:=(h0.below hb).at_
    rwa[HT.out,HD.out,HS.out] at this)
   clear h h0 hf hsm
   have D1:=(HasBlock.made w #[.slice of n kf,.slice or' r kr,.slice om m km,.slice og q kg,.int .i64 tx,.int .u64 dx,.int .i64 sx] 30).alloc (.cells #[.slice none 0 0,.slice none 0 0,.slice none 0 0,.slice none 0 0,.int .i64 0,.int .u64 0,.int .i64 0] 30)
   have D2:=HasBlock.made (w.alloc (.cells #[.slice of n kf,.slice or' r kr,.slice om m km,.slice og q kg,.int .i64 tx,.int .u64 dx,.int .i64 sx] 30)) #[.slice none 0 0,.slice none 0 0,.slice none 0 0,.slice none 0 0,.int .i64 0,.int .u64 0,.int .i64 0] 30
   rw[World.size_alloc] at D2
   have hbw:Below w.heap.size w ((w.alloc (.cells #[.slice of n kf,.slice or' r kr,.slice om m km,.slice og q kg,.int .i64 tx,.int .u64 dx,.int .i64 sx] 30)).alloc (.cells #[.slice none 0 0,.slice none 0 0,.slice none 0 0,.slice none 0 0,.int .i64 0,.int .u64 0,.int .i64 0] 30)):=bel
   have hz0:w.heap.size+1+1=((w.alloc (.cells #[.slice of n kf,.slice or' r kr,.slice om m km,.slice og q kg,.int .i64 tx,.int .u64 dx,.int .i64 sx] 30)).alloc (.cells #[.slice none 0 0,.slice none 0 0,.slice none 0 0,.slice none 0 0,.int .i64 0,.int .u64 0,.int .i64 0] 30)).heap.size:=by simp only[sizes]
   go_enter Tryz.func30,Tryz.ntmps30
   obtain⟨D1_c,D1_f,D1_z⟩:=D1.all
   go_wp2_with fail
   clear D1_c D1_f D1_z
   with_reducible refine (HCL.out _ _ (HA.out _ hbw)).mono ?_
   rintro e w1 ⟨of1,or1,om1,og1,kf1',kr1',km1',kg1',us1,gs1,rfl,O1,hb1⟩
   rw[HN.out,HR.out,HM.out,HQ.out] at O1 ⊢
   rw[HT.out,HD.out,HS.out]
   replace O1:=O1.lower (base':=w.heap.size+1+1) (Nat.le_of_eq hz0)
   have hz1:=hb1.size
   rw[←hz0] at hz1
   replace D1:=D1.below hb1
   replace D2:=D2.below hb1
   replace hbw:=hbw.trans (hb1.mono hbw.size)
   clear hb1 hz0
   obtain⟨D1_c,D1_f,D1_z⟩:=D1.all
   go_wp2_with fail
   clear D1_c D1_f D1_z
   have hbx:Below w1.heap.size w1 (w1.alloc (.cells #[.slice of1 n kf1',.slice or1 r kr1',.slice om1 m km1',.slice og1 q kg1',.int .i64 tx,.int .u64 dx,.int .i64 sx] 30)):=(Below.refl _ _).alloc (nlr _) _
   have DR:=HasBlock.made w1 #[.slice of1 n kf1',.slice or1 r kr1',.slice om1 m km1',.slice og1 q kg1',.int .i64 tx,.int .u64 dx,.int .i64 sx] 30
   replace D1:=D1.below hbx
   replace D2:=D2.below hbx
   replace O1:=O1.below hbx
   replace hbw:=hbw.trans (hbx.mono hbw.size)
   have hz2:=hbx.size
   clear hbx
   generalize hW:w1.alloc (.cells #[.slice of1 n kf1',.slice or1 r kr1',.slice om1 m km1',.slice og1 q kg1',.int .i64 tx,.int .u64 dx,.int .i64 sx] 30)=w2 at D1 D2 DR O1 hbw hz2 ⊢
   obtain⟨B,hB⟩:∃ B,w1.heap.size=B:=⟨_,rfl⟩
   rw[hB] at DR hz1 hz2 ⊢
   clear hW hB
   with_reducible refine (HV.out _ _ (HA.out _ hbw)).mono ?_
   rintro e w3 ⟨rfl,hb3⟩
   replace D1:=D1.below hb3
   replace D2:=D2.below hb3
   replace DR:=DR.below hb3
   replace O1:=O1.below hb3
   replace hbw:=hbw.trans (hb3.mono hbw.size)
   clear hb3
   obtain⟨D1_c,D1_f,D1_z⟩:=D1.all
   obtain⟨D2_c,D2_f,D2_z⟩:=D2.all
   obtain⟨DR_c,DR_f,DR_z⟩:=DR.all
   go_wp2_with fail
   refine bodyPost_ret (v:=.tuple #[(.agg #[.slice of1 n kf1',.slice or1 r kr1',.slice om1 m km1',.slice og1 q kg1',.int .i64 tx,.int .u64 dx,.int .i64 sx]),.bool false]) (by simp [results,Tryz.results30,go_sem,D2_c]) rfl ?_
   exact hoRet' (k:=fun v=>.tuple #[v,.bool false]) HN.out HR.out HM.out HQ.out HT.out HD.out HS.out (O1.fill7 (by omega) _ _ _ _ _ _ _) (Below.fill7 hbw (by omega) _ _ _ _ _ _ _)
 · have hn:=hno rfl
   clear hno
   have CL:=fun v w h=>hclone_any v H w h hsm
   have HCL:=lh CL;clear CL
   obtain⟨of,or',om,og,kf,kr,km,kg,n,r,m,q,tx,dx,sx,HN,HR,HM,HQ,HT,HD,HS,rfl,kf1,kf2,kr1,kr2,km1,km2,kg1,kg2,h⟩:=HoAt.opened ha
   have h0:=h
   have HA:Hid (∀ w':World,Below w.heap.size w w'→HoAt w' (.agg #[.slice of n kf,.slice or' r kr,.slice om m km,.slice og q kg,.int .i64 tx,.int .u64 dx,.int .i64 sx]) H):=lh (fun w' hb=>by
    have:=(h0.below hb).at_
    rwa[HT.out,HD.out,HS.out] at this)
   clear h h0 hf hsm
   have D1:=(HasBlock.made w #[.slice of n kf,.slice or' r kr,.slice om m km,.slice og q kg,.int .i64 tx,.int .u64 dx,.int .i64 sx] 30).alloc (.cells #[.slice none 0 0,.slice none 0 0,.slice none 0 0,.slice none 0 0,.int .i64 0,.int .u64 0,.int .i64 0] 30)
   have D2:=HasBlock.made (w.alloc (.cells #[.slice of n kf,.slice or' r kr,.slice om m km,.slice og q kg,.int .i64 tx,.int .u64 dx,.int .i64 sx] 30)) #[.slice none 0 0,.slice none 0 0,.slice none 0 0,.slice none 0 0,.int .i64 0,.int .u64 0,.int .i64 0] 30
   rw[World.size_alloc] at D2
   have hbw:Below w.heap.size w ((w.alloc (.cells #[.slice of n kf,.slice or' r kr,.slice om m km,.slice og q kg,.int .i64 tx,.int .u64 dx,.int .i64 sx] 30)).alloc (.cells #[.slice none 0 0,.slice none 0 0,.slice none 0 0,.slice none 0 0,.int .i64 0,.int .u64 0,.int .i64 0] 30)):=bel
   have hz0:w.heap.size+1+1=((w.alloc (.cells #[.slice of n kf,.slice or' r kr,.slice om m km,.slice og q kg,.int .i64 tx,.int .u64 dx,.int .i64 sx] 30)).alloc (.cells #[.slice none 0 0,.slice none 0 0,.slice none 0 0,.slice none 0 0,.int .i64 0,.int .u64 0,.int .i64 0] 30)).heap.size:=by simp only[sizes]
   go_enter Tryz.func30,Tryz.ntmps30
   obtain⟨D1_c,D1_f,D1_z⟩:=D1.all
   go_wp2_with fail
   clear D1_c D1_f D1_z
   with_reducible refine (HCL.out _ _ (HA.out _ hbw)).mono ?_
   rintro e w1 ⟨of1,or1,om1,og1,kf1',kr1',km1',kg1',us1,gs1,rfl,O1,hb1⟩
   rw[HN.out,HR.out,HM.out,HQ.out] at O1 ⊢
   rw[HT.out,HD.out,HS.out]
   replace O1:=O1.lower (base':=w.heap.size+1+1) (Nat.le_of_eq hz0)
   have hz1:=hb1.size
   rw[←hz0] at hz1
   replace D1:=D1.below hb1
   replace D2:=D2.below hb1
   replace hbw:=hbw.trans (hb1.mono hbw.size)
   clear hb1 hz0
   obtain⟨D1_c,D1_f,D1_z⟩:=D1.all
   go_wp2_with fail
   clear D1_c D1_f D1_z
   have hbx:Below w1.heap.size w1 (w1.alloc (.cells #[.slice of1 n kf1',.slice or1 r kr1',.slice om1 m km1',.slice og1 q kg1',.int .i64 tx,.int .u64 dx,.int .i64 sx] 30)):=(Below.refl _ _).alloc (nlr _) _
   have DR:=HasBlock.made w1 #[.slice of1 n kf1',.slice or1 r kr1',.slice om1 m km1',.slice og1 q kg1',.int .i64 tx,.int .u64 dx,.int .i64 sx] 30
   replace D1:=D1.below hbx
   replace D2:=D2.below hbx
   replace O1:=O1.below hbx
   replace hbw:=hbw.trans (hbx.mono hbw.size)
   have hz2:=hbx.size
   clear hbx
   generalize hW:w1.alloc (.cells #[.slice of1 n kf1',.slice or1 r kr1',.slice om1 m km1',.slice og1 q kg1',.int .i64 tx,.int .u64 dx,.int .i64 sx] 30)=w2 at D1 D2 DR O1 hbw hz2 ⊢
   obtain⟨B,hB⟩:∃ B,w1.heap.size=B:=⟨_,rfl⟩
   rw[hB] at DR hz1 hz2 ⊢
   clear hW hB
   with_reducible refine (HV.out _ _ (HA.out _ hbw)).mono ?_
   rintro e w3 ⟨rfl,hb3⟩
   replace D1:=D1.below hb3
   replace D2:=D2.below hb3
   replace DR:=DR.below hb3
   replace O1:=O1.below hb3
   replace hbw:=hbw.trans (hb3.mono hbw.size)
   clear hb3
   obtain⟨D1_c,D1_f,D1_z⟩:=D1.all
   obtain⟨D2_c,D2_f,D2_z⟩:=D2.all
   obtain⟨DR_c,DR_f,DR_z⟩:=DR.all
   go_wp2_with fail
   refine bodyPost_ret (v:=.tuple #[(.agg #[.slice of1 n kf1',.slice or1 r kr1',.slice om1 m km1',.slice og1 q kg1',.int .i64 tx,.int .u64 dx,.int .i64 sx]),.bool false]) (by simp [results,Tryz.results30,go_sem,D2_c]) rfl ?_
   exact hoRet' (k:=fun v=>.tuple #[v,.bool false]) HN.out HR.out HM.out HQ.out HT.out HD.out HS.out (O1.fill7 (by omega) _ _ _ _ _ _ _) (Below.fill7 hbw (by omega) _ _ _ _ _ _ _)
end Go.Proofs.YtbnngjhnkegliaaGreat
