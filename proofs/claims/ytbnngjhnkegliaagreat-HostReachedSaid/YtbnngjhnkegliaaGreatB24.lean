/-
  Texts joined: HoSample HoPSample HoPTo. No law is proved here.
-/
import Derived.Test.YtbnngjhnkegliaaGreatB21
namespace Go.Proofs.YtbnngjhnkegliaaGreat
open Go.RowKit
def recentN (E:List Bool) (L:List Int):Nat:=L.countP (fun x=>(E[x.toNat]?).getD false)
def Ho.sample (H:Ho) (i n:Nat):Ho:=match H.G[i]? with
 | none=>H
 | some g=>⟨H.P,H.G.set i { g with c:={ g.c with a:=estimateI g.c.a (recentN g.e (sampleL H.d g.e.length n)) (sampleL H.d g.e.length n).length },e:=List.replicate g.e.length false },H.t,sampleS H.d g.e.length n,H.n⟩
theorem sampleL_range {d:Int} {n k:Nat} (hd:U64 d):∀ x∈sampleL d n k,0≤x∧x<n:=by
 intro x hx
 unfold sampleL at hx
 split at hx
 · simp at hx
 · have hs:=samOk n d hd (min (k:Int) n).toNat (by omega)
   rw[Int.toNat_natCast] at hx
   exact hs.range x hx
theorem sampleL_len {d:Int} {n k:Nat} (hd:U64 d):(sampleL d n k).length≤32:=by
 unfold sampleL
 split
 · simp
 · rename_i hb
   have hb2:¬((n:Int)<1∨32<(n:Int)∨(k:Int)<1):=fun h=>hb (decide_eq_true h)
   rw[Int.toNat_natCast,(samOk n d hd (min (k:Int) n).toNat (by omega)).olen]
   omega
theorem fill7_alloc (X:World) (o:Obj) (b:Nat) (h:b<X.heap.size) (y0 y1 y2 y3 y4 y5 y6:Value):((((((((X.alloc o).setCell ⟨b,0,none⟩ y0).setCell ⟨b,1,none⟩ y1).setCell ⟨b,2,none⟩ y2).setCell ⟨b,3,none⟩ y3).setCell ⟨b,4,none⟩ y4).setCell ⟨b,5,none⟩ y5).setCell ⟨b,6,none⟩ y6)=((((((((X.setCell ⟨b,0,none⟩ y0).setCell ⟨b,1,none⟩ y1).setCell ⟨b,2,none⟩ y2).setCell ⟨b,3,none⟩ y3).setCell ⟨b,4,none⟩ y4).setCell ⟨b,5,none⟩ y5).setCell ⟨b,6,none⟩ y6).alloc o):=by
 rw[World.setCell_alloc_past,World.setCell_alloc_past,World.setCell_alloc_past,World.setCell_alloc_past,World.setCell_alloc_past,World.setCell_alloc_past,World.setCell_alloc_past]
 all_goals (first|with_reducible exact h|(simp only[World.size_setCell];with_reducible exact h))
set_option maxRecDepth 100000 in
set_option maxHeartbeats 8000000 in
theorem hsample_ok (v:Value) (H:Ho) (i k:Nat) (w:World) (ha:HoAt w v H) (hok:H.Ok) (hi:i<H.G.length) (hk:1≤k) (hk2:k≤9223372036854775807):Calls Tryz.prog 30 #[v,.int .i64 i,.int .i64 k] w (RetHoB (fun v=>.tuple #[v,.bool true]) (H.sample i k) w):=by
 have CL:=fun v w h=>hclone_ok v H w h hok
 have HG0:=fun v w h=>hhasG_ok v H i w h hok hi
 have HCL:=lh CL;clear CL
 have HHS:=lh HG0;clear HG0
 obtain⟨g,hg⟩:=get_lt hi
 obtain⟨l,hl,hgo⟩:=hok.page hg
 have hll:=hok.p.l l (mem_at hl)
 have hds:=hok.d
 have hsam:H.sample i k=⟨H.P,H.G.set i { g with c:={ g.c with a:=estimateI g.c.a (recentN g.e (sampleL H.d g.e.length k)) (sampleL H.d g.e.length k).length },e:=List.replicate g.e.length false },H.t,sampleS H.d g.e.length k,H.n⟩:=by unfold Ho.sample;rw[hg]
 rw[hsam]
 clear hsam
 have hel:=hgo.le
 have hSL:∀ x∈sampleL H.d g.e.length k,0≤x∧x<g.e.length:=fun x hx=>sampleL_range hds x hx
 have hSN:(sampleL H.d g.e.length k).length≤32:=sampleL_len hds
 have SC:=fun w=>idletax_Sample_any H.d g.e.length k w hds
 have ES:=fun w=>idletax_Estimate_any g.c.a (recentN g.e (sampleL H.d g.e.length k)) (sampleL H.d g.e.length k).length w
 obtain⟨SL,hSLe⟩:∃ x,sampleL H.d g.e.length k=x:=⟨_,rfl⟩
 obtain⟨SS,hSSe⟩:∃ x,sampleS H.d g.e.length k=x:=⟨_,rfl⟩
 rw[hSLe,hSSe] at SC
 rw[hSLe] at ES hSL hSN
 rw[hSLe,hSSe]
 clear hSLe hSSe
 obtain⟨N,hN⟩:∃ x,SL.length=x:=⟨_,rfl⟩
 rw[hN] at ES hSN ⊢
 obtain⟨A,hAe⟩:∃ x,estimateI g.c.a (recentN g.e SL) N=x:=⟨_,rfl⟩
 rw[hAe] at ES ⊢
 clear hAe
 have HNN:=lh hN;clear hN
 have HSL:=lh hSL;clear hSL
 have HSC:=lh SC;clear SC
 have HES:=lh ES;clear ES
 obtain⟨of,or',om,og,kf,kr,km,kg,n,r,m,q,tx,dx,sx,HN,HR,HM,HQ,HT,HD,HS,rfl,kf1,kf2,kr1,kr2,km1,km2,kg1,kg2,h⟩:=HoAt.opened ha
 rw[HT.out,HS.out]
 have h0:=h
 have HVA:Hid (∀ w':World,Below w.heap.size w w'→HoAt w' (.agg #[.slice of n kf,.slice or' r kr,.slice om m km,.slice og q kg,.int .i64 tx,.int .u64 dx,.int .i64 sx]) H):=lh (fun w' hb=>by
  have:=(h0.below hb).at_
  rwa[HT.out,HD.out,HS.out] at this)
 clear h h0
 have D1:=(HasBlock.made w #[.slice of n kf,.slice or' r kr,.slice om m km,.slice og q kg,.int .i64 tx,.int .u64 dx,.int .i64 sx] 30).alloc (.cells #[.slice none 0 0,.slice none 0 0,.slice none 0 0,.slice none 0 0,.int .i64 0,.int .u64 0,.int .i64 0] 30)
 have D2:=HasBlock.made (w.alloc (.cells #[.slice of n kf,.slice or' r kr,.slice om m km,.slice og q kg,.int .i64 tx,.int .u64 dx,.int .i64 sx] 30)) #[.slice none 0 0,.slice none 0 0,.slice none 0 0,.slice none 0 0,.int .i64 0,.int .u64 0,.int .i64 0] 30
 rw[World.size_alloc] at D2
 have hbw:Below w.heap.size w ((w.alloc (.cells #[.slice of n kf,.slice or' r kr,.slice om m km,.slice og q kg,.int .i64 tx,.int .u64 dx,.int .i64 sx] 30)).alloc (.cells #[.slice none 0 0,.slice none 0 0,.slice none 0 0,.slice none 0 0,.int .i64 0,.int .u64 0,.int .i64 0] 30)):=bel
 have HOK:=lh hok;clear hok hds
 have HG:=lh hg;clear hg
 have HL:=lh hl;clear hl
 have HGO:=lh hgo;clear hgo
 have hz0:w.heap.size+1+1=((w.alloc (.cells #[.slice of n kf,.slice or' r kr,.slice om m km,.slice og q kg,.int .i64 tx,.int .u64 dx,.int .i64 sx] 30)).alloc (.cells #[.slice none 0 0,.slice none 0 0,.slice none 0 0,.slice none 0 0,.int .i64 0,.int .u64 0,.int .i64 0] 30)).heap.size:=by simp only[sizes]
 go_enter Tryz.func30,Tryz.ntmps30
 obtain⟨D1_c,D1_f,D1_z⟩:=D1.all
 go_wp2_with fail
 clear D1_c D1_f D1_z
 with_reducible refine (HCL.out _ _ (HVA.out _ hbw)).mono ?_
 rintro e w1 ⟨of1,or1,om1,og1,kf1',kr1',km1',kg1',us1,gs1,rfl,O1,hb1⟩
 rw[HN.out,HR.out,HM.out,HQ.out] at O1 ⊢
 rw[HT.out,HD.out,HS.out]
 replace O1:=O1.lower (base':=w.heap.size+1+1) (Nat.le_of_eq hz0)
 have hz1:=hb1.size
 rw[←hz0] at hz1
 replace D1:=D1.below hb1
 replace D2:=D2.below hb1
 replace hbw:=hbw.trans (hb1.mono hbw.size)
 clear hb1 hz0
 obtain⟨D1_c,D1_f,D1_z⟩:=D1.all
 go_wp2_with fail
 clear D1_c D1_f D1_z
 have hbx:Below w1.heap.size w1 (w1.alloc (.cells #[.slice of1 n kf1',.slice or1 r kr1',.slice om1 m km1',.slice og1 q kg1',.int .i64 tx,.int .u64 dx,.int .i64 sx] 30)):=(Below.refl _ _).alloc (nlr _) _
 have DR:=HasBlock.made w1 #[.slice of1 n kf1',.slice or1 r kr1',.slice om1 m km1',.slice og1 q kg1',.int .i64 tx,.int .u64 dx,.int .i64 sx] 30
 replace D1:=D1.below hbx
 replace D2:=D2.below hbx
 replace O1:=O1.below hbx
 replace hbw:=hbw.trans (hbx.mono hbw.size)
 have hz2:=hbx.size
 clear hbx
 generalize hW:w1.alloc (.cells #[.slice of1 n kf1',.slice or1 r kr1',.slice om1 m km1',.slice og1 q kg1',.int .i64 tx,.int .u64 dx,.int .i64 sx] 30)=w2 at D1 D2 DR O1 hbw hz2 ⊢
 obtain⟨B,hB⟩:∃ B,w1.heap.size=B:=⟨_,rfl⟩
 rw[hB] at DR hz1 hz2 ⊢
 clear hW hB
 have hBA:w.heap.size+1+1≤B:=hz1
 with_reducible refine (HHS.out _ _ (HVA.out _ hbw)).mono ?_
 rintro e w3 ⟨rfl,hb3⟩
 replace D1:=D1.below hb3
 replace D2:=D2.below hb3
 replace DR:=DR.below hb3
 replace O1:=O1.below hb3
 replace hbw:=hbw.trans (hb3.mono hbw.size)
 replace hz2:=Nat.le_trans hz2 hb3.size
 clear hb3
 have hzz:w.heap.size+1+1≤w3.heap.size:=Nat.le_trans hBA hz2
 obtain⟨bG,cG,y,so,sc,uo,uc,eo,ec,e0,b1,b2,hy,ys,yu,ye,_,cg2,_,sc2,_,uc2,_,ec2,cs,cfz⟩:=O1.guest HG.out
 injection e0 with e0 e9 e10
 subst e0 e10
 clear e9
 obtain⟨ys1,yu1,ye1⟩:=y
 dsimp only at ys yu ye
 subst ys yu ye
 obtain⟨_,_,rs3⟩:=O1.r i _ g hy HG.out
 dsimp only at rs3
 have c4:w3.cell? ⟨bG,i*9+4,none⟩=_:=cs 4 _ rfl
 have c8:w3.cell? ⟨bG,i*9+8,none⟩=_:=cs 8 _ rfl
 dsimp only at c4 c8
 obtain⟨ql,hql⟩:∃ x,g.e.length=x:=⟨_,rfl⟩
 rw[hql] at hel HSC HSL c8 rs3 hy
 have HQL:=lh hql;clear hql
 have hq1:1≤ql∧ql≤32:=by omega
 clear hel
 have hiq:i<q:=by rw[←HQ.out];exact lt_of_get HG.out
 have i0:(0:Int)≤(i:Int):=by omega
 have iq:(i:Int)<(q:Int):=by omega
 have kk1:decide ((k:Int)<1)=false:=decide_eq_false (by omega)
 have HYY:=lh hy;clear hy
 rw[HD.out] at HSC
 obtain⟨D1_c,D1_f,D1_z⟩:=D1.all
 obtain⟨DR_c,DR_f,DR_z⟩:=DR.all
 go_wp2_with fail
 have b2b:=b2
 have hrule:∀ w':World,Below w3.heap.size w3 w'→∀ b o,b<w3.heap.size→w'.cell? ⟨b,o,none⟩=w3.cell? ⟨b,o,none⟩:=fun w' h b o hlt=>h.cell (p:=⟨b,o,none⟩) hlt
 go_region_held3 (fun w'=>Below w3.heap.size w3 w') (repeat' (first|(with_reducible first|assumption|exact Below.refl _ _|refine Below.drew ?_|refine Below.alloc' ?_ (nlr _) _|refine Below.setCell ?_ ?_ _)|refine Below.trans ?_ (Below.mono (by with_reducible assumption) ?_)|exact rfl|exact nlr _|omega|(simp only[sizes];done)|(simp only[sizes];omega))) ((first
  |
   (go_at_call 62
    with_reducible refine (HSC.out _).mono ?_
    rintro e w5 ⟨vS,rfl,hrS,hb5⟩
    obtain⟨so5,sc5,rfl,hs51,hs52,_⟩:=hrS.out
    rw[HNN.out] at hrS hs51 ⊢
    obtain⟨hc5,hf5⟩:=bcell hb5
    have hzz5:=bsize hb5
    (try simp only[sizes1] at hzz5)
    (try simp only[sizes] at hc5 hf5))))
 have hb35:Below w3.heap.size w3 w5:=by (repeat' (first|(with_reducible first|assumption|exact Below.refl _ _|refine Below.drew ?_|refine Below.alloc' ?_ (nlr _) _|refine Below.setCell ?_ ?_ _)|refine Below.trans ?_ (Below.mono (by with_reducible assumption) ?_)|exact rfl|exact nlr _|omega|(simp only[sizes];done)|(simp only[sizes];omega)))
 have HRS:=lh hrS
 clear hrS hc5 hf5 hzz5 hb5 hrule D1_c D1_f D1_z DR_c DR_f DR_z c4 c8
 have D15:=D1.below hb35
 have D25:=D2.below hb35
 have DR5:=DR.below hb35
 have O5:=O1.below hb35
 have rs5:=lh (rs3.below hb35)
 have c45:=(hb35.cell (p:=⟨bG,i*9+4,none⟩) b2).trans (cs 4 _ rfl)
 have c85:=(hb35.cell (p:=⟨bG,i*9+8,none⟩) b2).trans (cs 8 _ rfl)
 dsimp only at c45 c85
 rw[HQL.out] at c85
 clear cs
 replace hbw:=hbw.trans (hb35.mono hbw.size)
 have hz5:=Nat.le_trans hzz hb35.size
 have b25:bG<w5.heap.size:=Nat.lt_of_lt_of_le b2 hb35.size
 have fG5:∀ o,w5.frozen? ⟨bG,o,none⟩=false:=fun o=>(hb35.frozen (p:=⟨bG,o,none⟩) b2).trans (cfz o)
 clear O1 D1 D2 DR rs3 cfz
 go_wp2_with fail
 go_loop [12,44] (fun c i2=>∃ j:Nat,j≤N∧i2=.int .i64 j∧c=.int .i64 ((recentN g.e (SL.take j):Nat):Int)) (fun _ i2=>N - (intOf i2).toNat)
 case atStart=>exact⟨0,Nat.zero_le _,rfl,rfl⟩
 case round =>
  obtain⟨j,hj,rfl,rfl⟩:=hrel
  have hcl:recentN g.e (SL.take j)≤j:=countP_le _ SL j
  by_cases hlt:j<N
  · obtain⟨x,hx⟩:=get_lt (xs:=SL) (k:=j) (by rw[HNN.out];exact hlt)
    obtain⟨hx0,hx1⟩:=HSL.out x (mem_at hx)
    obtain⟨sb,soff,rfl,hsb,cx⟩:=EncRow.elem (enc:=Value.int .i64) HRS.out hx
    obtain⟨xn,rfl⟩:∃ xn:Nat,x=xn:=⟨x.toNat,by omega⟩
    obtain⟨bb,hbb⟩:=get_lt (xs:=g.e) (k:=xn) (by rw[HQL.out];omega)
    obtain⟨eb,eoff,rfl,heb,ce⟩:=EncRow.elem rs5.out.row hbb
    have hsu:=countP_succ (q:=fun x:Int=>(g.e[x.toNat]?).getD false) hx
    rw[Int.toNat_natCast,hbb] at hsu
    dsimp only[Option.getD] at hsu
    obtain⟨c,hc⟩:∃ c,recentN g.e (SL.take j)=c:=⟨_,rfl⟩
    rw[hc] at hcl ⊢
    have hsu':recentN g.e (SL.take (j+1))=c+if bb=true then 1 else 0:=by
     rw[←hc]
     exact hsu
    clear hsu hc hx hbb
    have HSU:=lh hsu';clear hsu'
    have j0:(0:Int)≤(j:Int):=by omega
    have jn:(j:Int)<(N:Int):=by omega
    have x0:(0:Int)≤(xn:Int):=by omega
    have xq:(xn:Int)<(ql:Int):=by omega
    cases bb
    · go_wp2_with fail
      go_round
      case rel=>exact⟨j+1,by omega,by go_num,by rw[HSU.out];rfl⟩
      case measure=>simp [intOf];omega
    · go_wp2_with fail
      go_round
      case rel=>exact⟨j+1,by omega,by go_num,by rw[HSU.out,if_pos rfl];go_num⟩
      case measure=>simp [intOf];omega
  · obtain rfl:j=N:=by omega
    have hall:SL.take j=SL:=by rw[←HNN.out];exact List.take_length
    rw[hall]
    clear hall hcl
    have hnGB:bG≠B:=fun e=>own_off O5.g DR5 (by decide) (by rw[e];rfl)
    have hnBG:B≠bG:=fun e=>hnGB e.symm
    have nB:w.heap.size+1≠B:=by omega
    have nG:w.heap.size+1≠bG:=by omega
    have hqm:=make_bools ql (by omega)
    have DR5k:=DR5
    have c46:(World.setCell w5 ⟨B,5,none⟩ (.int .u64 SS)).cell? ⟨bG,i*9+4,none⟩=some (.int .i64 g.c.a):=by simp [go_sem,c45]
    have c86:(World.setCell w5 ⟨B,5,none⟩ (.int .u64 SS)).cell? ⟨bG,i*9+8,none⟩=some (.slice eo ql ec):=by simp [go_sem,c85]
    have f86:∀ o,(World.setCell w5 ⟨B,5,none⟩ (.int .u64 SS)).frozen? ⟨bG,o,none⟩=false:=fun o=>by simp [go_sem,fG5]
    obtain⟨DR5_c,DR5_f,DR5_z⟩:=DR5.all
    go_wp2_with fail
    clear DR5_c DR5_f DR5_z
    have O5b:=O5.setbox (j:=5) DR5k hostT (.int .u64 SS)
    have DR6:=DR5k.put7_5 (.int .u64 SS)
    have D26:=D25.set_ne nB (j:=5) (.int .u64 SS)
    have hbw6:=hbw.setCell (p:=⟨B,5,none⟩) (by dsimp only;omega) (.int .u64 SS)
    have b26:bG<(World.setCell w5 ⟨B,5,none⟩ (.int .u64 SS)).heap.size:=by rw[World.size_setCell];exact b25
    generalize hW:World.setCell w5 ⟨B,5,none⟩ (.int .u64 SS)=w6 at c46 c86 f86 O5b DR6 D26 hbw6 b26 ⊢
    clear hW c45 c85 fG5 O5 DR5 DR5k D15 D25
    with_reducible refine (HES.out _).mono ?_
    rintro e w7 ⟨rfl,hb7⟩
    have O7:=O5b.below hb7
    have DR7:=DR6.below hb7
    have D27:=D26.below hb7
    have c47:=(hb7.cell (p:=⟨bG,i*9+4,none⟩) b26).trans c46
    have c87:=(hb7.cell (p:=⟨bG,i*9+8,none⟩) b26).trans c86
    have fG7:∀ o,w7.frozen? ⟨bG,o,none⟩=false:=fun o=>(hb7.frozen (p:=⟨bG,o,none⟩) b26).trans (f86 o)
    have hbw7:=hbw6.trans (hb7.mono hbw6.size)
    have b27:bG<w7.heap.size:=Nat.lt_of_lt_of_le b26 hb7.size
    clear c46 c86 f86 O5b DR6 D26 hbw6 hb7
    obtain⟨DR7_c,DR7_f,DR7_z⟩:=DR7.all
    obtain⟨D27_c,D27_f,D27_z⟩:=D27.all
    go_wp2_with fail
    have OA:=(O7.alloc (.cells (boolArr (List.replicate ql false)) 4)).setActive HG.out HYY.out A
    rw[World.setCell_alloc_past _ _ _ _ b27] at OA
    have hg2:(H.setG i { g with c:={ g.c with a:=A } }).G[i]?=some { g with c:={ g.c with a:=A } }:=by
     show (H.G.set i _)[i]?=_
     rw[List.getElem?_set,if_pos rfl,if_pos (lt_of_get HG.out)]
    have hblk:HasBlock ((World.setCell w7 ⟨bG,i*9+4,none⟩ (.int .i64 A)).alloc (.cells (boolArr (List.replicate ql false)) 4)) w7.heap.size (boolArr (List.replicate ql false)) 4:=HasBlock.made' (by rw[World.size_setCell])
    have hown:OwnBool (w.heap.size+1+1) ((World.setCell w7 ⟨bG,i*9+4,none⟩ (.int .i64 A)).alloc (.cells (boolArr (List.replicate ql false)) 4)) (.slice (some ⟨w7.heap.size,0,none⟩) ql ql) (List.replicate ql false):=own_enc hblk (List.length_replicate ..) (by omega) (by omega)
    have OB:=OA.setRecent (i:=i) (vu:=.slice (some ⟨w7.heap.size,0,none⟩) ql ql) (u:=List.replicate ql false) hg2 HYY.out O7.ltG hown (fun k hk=>Nat.le_of_eq (Option.some.inj (show some w7.heap.size=some k from hk)))
    rw[World.setCell_alloc_past _ _ _ _ (by rw[World.size_setCell];exact b27)] at OB
    have hHe:(H.setG i { g with c:={ g.c with a:=A } }).setG i { g with c:={ g.c with a:=A },e:=List.replicate ql false }=⟨H.P,H.G.set i { g with c:={ g.c with a:=A },e:=List.replicate ql false },H.t,H.d,H.n⟩:=by
     unfold Ho.setG
     dsimp only
     rw[List.set_set]
    dsimp only at OB
    rw[hHe] at OB
    have hrs:w.heap.size+1<((World.setCell w7 ⟨bG,i*9+4,none⟩ (.int .i64 A)).setCell ⟨bG,i*9+8,none⟩ (.slice (some ⟨w7.heap.size,0,none⟩) ql ql)).heap.size:=by simp only[sizes];omega
    have OC:=OB.fill7 (B:=w.heap.size+1) (by omega) (.slice of1 n kf1') (.slice or1 r kr1') (.slice om1 m km1') (.slice (some ⟨bG,0,none⟩) q kg1') (.int .i64 tx) (.int .u64 SS) (.int .i64 sx)
    rw[fill7_alloc _ _ _ hrs] at OC
    have DC:=(((D27.set_ne nG (j:=i*9+4) (.int .i64 A)).set_ne nG (j:=i*9+8) (.slice (some ⟨w7.heap.size,0,none⟩) ql ql)).fill7 (.slice of1 n kf1') (.slice or1 r kr1') (.slice om1 m km1') (.slice (some ⟨bG,0,none⟩) q kg1') (.int .i64 tx) (.int .u64 SS) (.int .i64 sx)).alloc (.cells (boolArr (List.replicate ql false)) 4)
    have BC:=(Below.fill7 ((hbw7.setCell (p:=⟨bG,i*9+4,none⟩) (by dsimp only;omega) (.int .i64 A)).setCell (p:=⟨bG,i*9+8,none⟩) (by dsimp only;omega) (.slice (some ⟨w7.heap.size,0,none⟩) ql ql)) (b:=w.heap.size+1) (by omega) (.slice of1 n kf1') (.slice or1 r kr1') (.slice om1 m km1') (.slice (some ⟨bG,0,none⟩) q kg1') (.int .i64 tx) (.int .u64 SS) (.int .i64 sx)).alloc (by simp only[sizes];omega) (.cells (boolArr (List.replicate ql false)) 4)
    generalize hW:((((((((((World.setCell w7 ⟨bG,i*9+4,none⟩ (.int .i64 A)).setCell ⟨bG,i*9+8,none⟩ (.slice (some ⟨w7.heap.size,0,none⟩) ql ql)).setCell ⟨w.heap.size+1,0,none⟩ (.slice of1 n kf1')).setCell ⟨w.heap.size+1,1,none⟩ (.slice or1 r kr1')).setCell ⟨w.heap.size+1,2,none⟩ (.slice om1 m km1')).setCell ⟨w.heap.size+1,3,none⟩ (.slice (some ⟨bG,0,none⟩) q kg1')).setCell ⟨w.heap.size+1,4,none⟩ (.int .i64 tx)).setCell ⟨w.heap.size+1,5,none⟩ (.int .u64 SS)).setCell ⟨w.heap.size+1,6,none⟩ (.int .i64 sx)).alloc (.cells (boolArr (List.replicate ql false)) 4))=wf at OC DC BC ⊢
    clear hW DR7_c DR7_f DR7_z D27_c D27_f D27_z
    obtain⟨DC_c,DC_f,DC_z⟩:=DC.all
    refine bodyPost_ret (v:=.tuple #[.agg #[.slice of1 n kf1',.slice or1 r kr1',.slice om1 m km1',.slice (some ⟨bG,0,none⟩) q kg1',.int .i64 tx,.int .u64 SS,.int .i64 sx],.bool true]) (by simp [results,Tryz.results30,go_sem,DC_c]) rfl ?_
    rw[HQL.out]
    have OE:=OC.head (H':=⟨H.P,H.G.set i { g with c:={ g.c with a:=A },e:=List.replicate ql false },tx,SS,sx⟩) rfl rfl
    exact hoRet' (k:=fun v=>.tuple #[v,.bool true]) (H:=⟨H.P,H.G.set i { g with c:={ g.c with a:=A },e:=List.replicate ql false },tx,SS,sx⟩) HN.out HR.out HM.out ((List.length_set ..).trans HQ.out) rfl rfl rfl OE BC
theorem estimateI_bd {o u n:Int} (h:0≤o∧o≤1000):0≤estimateI o u n∧estimateI o u n≤1000:=by
 unfold estimateI
 split
 · exact h
 · have hn:1≤n∧0≤u∧u≤n:=by omega
   have h1:0≤u*1000 / n:=Int.ediv_nonneg (by omega) (by omega)
   have h2:u*1000 / n≤1000:=Int.ediv_le_of_le_mul (by omega) (by omega)
   generalize u*1000 / n=q at h1 h2 ⊢
   split <;> omega
theorem sampleS_u64 {d n k:Int} (hd:U64 d):U64 (sampleS d n k):=by
 unfold sampleS
 split
 · exact hd
 · exact (samOk n.toNat d hd (min k n).toNat (by omega)).seed
theorem sample_keeps {H:Ho} (hok:H.Ok) (i k:Nat):(H.sample i k).Ok∧(H.sample i k).P=H.P∧(H.sample i k).G.length=H.G.length∧(H.sample i k).t=H.t∧(H.sample i k).n=H.n∧(∀ a b,(H.sample i k).text a b=H.text a b)∧∀ (a:Nat) (g:Gm),H.G[a]?=some g→∃ g',(H.sample i k).G[a]?=some g'∧g'.c.r=g.c.r∧g'.c.l=g.c.l∧g'.s=g.s∧g'.u=g.u:=by
 unfold Ho.sample
 cases hg:H.G[i]? with
 | none=>exact⟨hok,rfl,rfl,rfl,rfl,fun _ _=>rfl,fun a g h=>⟨g,h,rfl,rfl,rfl,rfl⟩⟩
 | some g =>
   dsimp only
   have hlt:=lt_of_get hg
   have hgp:=hok.gmP hg
   obtain⟨A,hA⟩:∃ x,estimateI g.c.a (recentN g.e (sampleL H.d g.e.length k)) (sampleL H.d g.e.length k).length=x:=⟨_,rfl⟩
   have hv:=(validB_iff g.c).1 hgp.cv
   have hAb:=estimateI_bd (o:=g.c.a) (u:=recentN g.e (sampleL H.d g.e.length k)) (n:=(sampleL H.d g.e.length k).length) ⟨hv.2.2.2.2.2.2.2.1,hv.2.2.2.2.2.2.2.2⟩
   rw[hA] at hAb ⊢
   have key:∀ (a:Nat) (g1:Gm),(H.G.set i { g with c:={ g.c with a:=A },e:=List.replicate g.e.length false })[a]?=some g1→∃ g0,H.G[a]?=some g0∧g0.s=g1.s∧(a≠i→g1=g0)∧(a=i→g1={ g with c:={ g.c with a:=A },e:=List.replicate g.e.length false }):=fun a g1 h1=>by
    rw[List.getElem?_set] at h1
    by_cases e:i=a
    · subst e
      rw[if_pos rfl,if_pos hlt] at h1
      cases h1
      exact⟨g,hg,rfl,fun h=>absurd rfl h,fun _=>rfl⟩
    · rw[if_neg e] at h1
      exact⟨g1,h1,rfl,fun _=>rfl,fun h=>absurd h.symm e⟩
   refine ⟨?_,rfl,List.length_set ..,rfl,rfl,fun a b=>?_,fun a g1 h1=>?_⟩
   · refine Ho.Ok.of hok hok.p (Pl.Alike.refl _) (List.length_set ..) rfl (sampleS_u64 hok.d) hok.n (sumR_set hg rfl) (fun a g1 h1=>?_)
     obtain⟨g0,h0,_,hne,heq⟩:=key a g1 h1
     by_cases e:a=i
     · subst e
       rw[heq rfl]
       exact⟨(validB_iff _).2 ⟨hv.1,hv.2.1,hv.2.2.1,hv.2.2.2.1,hv.2.2.2.2.1,hv.2.2.2.2.2.1,hv.2.2.2.2.2.2.1,hAb.1,hAb.2⟩,hgp.p0,hgp.lim,hgp.ls,hgp.lu,by rw[List.length_replicate];exact hgp.le,hgp.hd,hgp.us,hgp.sw⟩
     · rw[hne e]
       exact hok.gmP h0
   · unfold Ho.text
     dsimp only
     rw[List.getElem?_set]
     by_cases e:i=a
     · subst e
       rw[if_pos rfl,if_pos hlt,hg]
     · rw[if_neg e]
   · rw[List.getElem?_set]
     by_cases e:i=a
     · subst e
       rw[if_pos rfl,if_pos hlt]
       rw[hg] at h1
       cases h1
       exact⟨_,rfl,rfl,rfl,rfl,rfl⟩
     · rw[if_neg e]
       exact⟨g1,h1,rfl,rfl,rfl,rfl⟩
theorem clear_rest (H:Ho) (i p:Nat):(H.clear i p).P=H.P∧(H.clear i p).t=H.t∧(H.clear i p).d=H.d∧(H.clear i p).n=H.n∧(H.clear i p).G.length=H.G.length:=by
 unfold Ho.clear
 cases hg:H.G[i]? with
 | none=>exact⟨rfl,rfl,rfl,rfl,rfl⟩
 | some g=>exact⟨rfl,rfl,rfl,rfl,List.length_set ..⟩
theorem clear_sw (H:Ho) (i p a b:Nat):(H.clear i p).sw a b=if i=a∧p=b then ⟨#[]⟩ else H.sw a b:=by
 unfold Ho.clear
 cases hg:H.G[i]? with
 | none =>
   dsimp only
   split
   · rename_i e
     obtain⟨rfl,rfl⟩:=e
     unfold Ho.sw
     rw[hg]
   · rfl
 | some g =>
   unfold Ho.sw
   dsimp only[Ho.setG]
   rw[List.getElem?_set]
   by_cases e:i=a
   · subst e
     rw[if_pos rfl,if_pos (lt_of_get hg),hg]
     dsimp only
     rw[List.getElem?_set]
     by_cases e2:p=b
     · subst e2
       rw[if_pos rfl,if_pos (show i=i∧p=p from ⟨rfl,rfl⟩)]
       split <;> rfl
     · rw[if_neg e2,if_neg (fun h=>e2 h.2)]
   · rw[if_neg e,if_neg (fun h=>e h.1)]
theorem clear_cl {H:Ho} (i p:Nat) {a:Nat} {g:Gm} (h:H.G[a]?=some g):∃ g',(H.clear i p).G[a]?=some g'∧g'.c=g.c∧g'.e=g.e∧g'.u=g.u∧g'.h=g.h:=by
 unfold Ho.clear
 cases hg:H.G[i]? with
 | none=>exact⟨g,h,rfl,rfl,rfl,rfl⟩
 | some g0 =>
   dsimp only[Ho.setG]
   rw[List.getElem?_set]
   by_cases e:i=a
   · subst e
     rw[if_pos rfl,if_pos (lt_of_get h)]
     rw[hg] at h
     cases h
     exact⟨_,rfl,rfl,rfl,rfl,rfl⟩
   · rw[if_neg e]
     exact⟨g,h,rfl,rfl,rfl,rfl⟩
structure HoKept (H H':Ho):Prop where
 ok:H'.Ok
 al:H.P.Alike H'.P
 gl:H'.G.length=H.G.length
 t:H'.t=H.t
 cl:∀ (a:Nat) (g:Gm),H.G[a]?=some g→∃ g',H'.G[a]?=some g'∧g'.c.r=g.c.r∧g'.c.l=g.c.l
theorem HoKept.trans {H K L:Ho} (h:HoKept H K) (h':HoKept K L):HoKept H L :=
 ⟨h'.ok,h.al.trans h'.al,h'.gl.trans h.gl,h'.t.trans h.t,fun a g hg=>by
   obtain⟨g1,h1,e1,e2⟩:=h.cl a g hg
   obtain⟨g2,h2,e3,e4⟩:=h'.cl a g1 h1
   exact⟨g2,h2,e3.trans e1,e4.trans e2⟩⟩
theorem HoKept.refl {H:Ho} (h:H.Ok):HoKept H H:=⟨h,Pl.Alike.refl _,rfl,rfl,fun _ g hg=>⟨g,hg,rfl,rfl⟩⟩
theorem sample_kept {H:Ho} (hok:H.Ok) (i k:Nat):HoKept H (H.sample i k):=by
 obtain⟨h1,h2,h3,h4,h5,h6,h7⟩:=sample_keeps hok i k
 exact⟨h1,by rw[h2];exact Pl.Alike.refl _,h3,h4,fun a g hg=>by
  obtain⟨g',e1,e2,e3,_⟩:=h7 a g hg
  exact⟨g',e1,e2,e3⟩⟩
theorem mark_kept {H:Ho} (hok:H.Ok) (i k:Nat):HoKept H (H.mark i k):=by
 obtain⟨e1,e2,e3,e4,e5,e6⟩:=mark_rest H i k
 exact⟨mark_ok hok i k,by rw[e1];exact Pl.Alike.refl _,e5,e2,fun a g hg=>by
  obtain⟨g1,h1,h2,_⟩:=get_mark (i:=i) (k:=k) hg
  exact⟨g1,h1,by rw[h2],by rw[h2]⟩⟩
structure Ready (H K:Ho) (i p:Nat) (d:ByteArray):Prop where
 ok:K.Ok
 al:H.P.Alike K.P
 gl:K.G.length=H.G.length
 t:K.t=H.t
 text:∀ a b,H.P.at a b→¬(i=a∧p=b)→K.text a b=H.text a b
 cl:∀ (a:Nat) (g:Gm),H.G[a]?=some g→∃ g',K.G[a]?=some g'∧g'.c=g.c
 sw:(K.sw i p).size=0
 wok:K.P.wok' i p d=true
 lim:zeroB d=false→K.P.fr i p<0→∀ g,K.G[i]?=some g→(K.P.chargeN i:Int)<g.c.l
structure HoPut (H H':Ho) (i p:Nat) (d:ByteArray):Prop where
 k:HoKept H H'
 text:∀ a b,H.P.at a b→H'.text a b=if i=a∧p=b then d else H.text a b
 pt:H'.P.text i p=d
 fr:0≤H'.P.fr i p↔zeroB d=false
theorem Ready.put {H K:Ho} {i p:Nat} {d:ByteArray} (h:Ready H K i p d) (hat:H.P.at i p) (hd:d.size=128):HoPut H ((K.setP (K.P.wr i p d)).mark i p) i p d:=by
 obtain⟨p1,p2,p3,p4,p5,p6⟩:=put_law h.ok ((h.al.at i p).2 hat) hd h.wok h.sw h.lim
 obtain⟨e1,e2,e3,e4,e5,e6⟩:=mark_rest (K.setP (K.P.wr i p d)) i p
 refine ⟨⟨p1,by rw[e1];exact h.al.trans p2,e5.trans h.gl,e2.trans h.t,fun a g hg=>?_⟩,fun a b hab=>?_,by rw[e1];exact p4,by rw[e1];exact p6⟩
 · obtain⟨g1,h1,c1⟩:=h.cl a g hg
   obtain⟨g2,h2,c2,_⟩:=get_mark (H:=K.setP (K.P.wr i p d)) (i:=i) (k:=p) h1
   exact⟨g2,h2,by rw[c2,c1],by rw[c2,c1]⟩
 · rw[p3 a b ((h.al.at a b).2 hab)]
   by_cases e:i=a∧p=b
   · rw[if_pos e,if_pos e]
   · rw[if_neg e,if_neg e]
     exact h.text a b hab e
theorem write_ready {H K:Ho} {i p:Nat} {d:ByteArray} (hok:H.Ok) (hat:H.P.at i p) (hd:d.size=128) (hK:(zeroB d=false∧H.P.need i p=true∧Roomed i p (H.clear i p) K)∨((zeroB d=true∨H.P.need i p=false)∧K=H.clear i p)):Ready H K i p d:=by
 obtain⟨hc1,hc2⟩:=clear_ok (i:=i) (p:=p) hok
 obtain⟨r1,r2,r3,r4,r5⟩:=clear_rest H i p
 have hat0:(H.clear i p).P.at i p:=by rw[hc2];exact hat
 have htx:∀ a b,¬(i=a∧p=b)→(H.clear i p).text a b=H.text a b:=fun a b e=>by rw[clear_text (hok.at_lt hat),if_neg e]
 have hsw:(H.clear i p).sw i p=⟨#[]⟩:=by rw[clear_sw,if_pos ⟨rfl,rfl⟩]
 rcases hK with ⟨hz,hn,hr⟩|⟨hn,rfl⟩
 · obtain⟨hk,hf⟩:=hr.kept hc1 hat0
   have hatK:=(hk.al.at i p).2 hat0
   have hw:=wok_of_full hk.ok.p hatK hf hd
   rw[(Pl.wr_eq hk.ok.p hatK hd).2] at hw
   refine ⟨hk.ok,by rw[←hc2];exact hk.al,hk.gl.trans r5,hk.t.trans r2,fun a b hab e=>?_,fun a g hg=>?_,?_,hw,fun _ h0 g hg=>hr.lim hc1 hat0 h0 hg⟩
   · rw[hk.text a b (by rw[hc2];exact hab),htx a b e]
   · obtain⟨g1,h1,c1,_⟩:=clear_cl i p hg
     obtain⟨g2,h2,c2,_⟩:=hk.cl a g1 h1
     exact⟨g2,h2,c2.trans c1⟩
   · rw[(hr.sp hc1 hat0).sw,hsw]
     rfl
 · refine ⟨hc1,by rw[hc2];exact Pl.Alike.refl _,r5,r2,fun a b _ e=>htx a b e,fun a g hg=>?_,by rw[hsw];rfl,?_,fun hz h0 g hg=>?_⟩
   · obtain⟨g1,h1,c1,_⟩:=clear_cl i p hg
     exact⟨g1,h1,c1⟩
   · rw[hc2]
     rcases hn with hn|hn
     · unfold Pl.wok'
       rw[hn]
       rfl
     · have:=wok_of_need hok.p hat hn hd
       rwa[(Pl.wr_eq hok.p hat hd).2] at this
   · rcases hn with hn|hn
     · rw[hn] at hz
       cases hz
     · unfold Pl.need at hn
       rw[Bool.or_eq_false_iff,decide_eq_false_iff_not] at hn
       rw[hc2] at h0
       exact absurd h0 hn.1
theorem write_keeps {H H':Ho} {i p:Nat} {d:ByteArray} (hok:H.Ok) (hat:H.P.at i p) (hd:d.size=128) (h:WriteTo H i p d H'):HoPut H H' i p d:=by
 obtain⟨K,hK,rfl⟩:=h
 exact (write_ready hok hat hd hK).put hat hd
theorem back_eq {K:Ho} {i p:Nat} {t:ByteArray} (hi:i<K.G.length):K.back i p t=(K.clear i p).setP ((K.clear i p).P.wr i p t):=by
 obtain⟨g,hg⟩:=get_lt hi
 unfold Ho.back Ho.clear
 rw[hg]
 rfl
theorem read_ready {H K:Ho} {i p:Nat} {t:ByteArray} (hok:H.Ok) (hat:H.P.at i p) (hs:H.sw i p=t) (ht:t.size≠0) (hr:Roomed i p H K):Ready H (K.clear i p) i p t:=by
 obtain⟨hk,hf⟩:=hr.kept hok hat
 have hatK:=(hk.al.at i p).2 hat
 have hd:t.size=128:=by
  rcases hok.swp hat with h1|⟨_,h2,_⟩
  · rw[hs] at h1
    exact absurd h1 ht
  · rw[←hs]
    exact h2
 obtain⟨hc1,hc2⟩:=clear_ok (i:=i) (p:=p) hk.ok
 obtain⟨r1,r2,r3,r4,r5⟩:=clear_rest K i p
 have hw:=wok_of_full hk.ok.p hatK hf hd
 rw[(Pl.wr_eq hk.ok.p hatK hd).2] at hw
 refine ⟨hc1,by rw[hc2];exact hk.al,r5.trans hk.gl,r2.trans hk.t,fun a b hab e=>?_,fun a g hg=>?_,?_,by rw[hc2];exact hw,fun _ h0 g hg=>?_⟩
 · rw[clear_text (hk.ok.at_lt hatK),if_neg e]
   exact hk.text a b hab
 · obtain⟨g1,h1,c1,_⟩:=hk.cl a g hg
   obtain⟨g2,h2,c2,_⟩:=clear_cl i p h1
   exact⟨g2,h2,c2.trans c1⟩
 · rw[clear_sw,if_pos ⟨rfl,rfl⟩]
   rfl
 · rw[hc2] at h0 ⊢
   obtain⟨g0,hg0⟩:=get_lt (hk.ok.at_lt hatK)
   obtain⟨g1,h1,c1,_⟩:=clear_cl i p hg0
   rw[hg] at h1
   injection h1 with h1
   subst h1
   rw[c1]
   exact hr.lim hok hat h0 hg0
theorem read_keeps {H H':Ho} {i p:Nat} (hok:H.Ok) (hat:H.P.at i p) (h:ReadTo H i p H'):HoKept H H'∧(∀ a b,H.P.at a b→H'.text a b=H.text a b)∧H'.P.text i p=H.text i p:=by
 obtain⟨g,t,hg,ht,h⟩:=h
 have hs:=Ho.sw_eq hg ht
 rcases h with ⟨h0,rfl⟩|⟨h0,K,hr,rfl⟩
 · refine ⟨mark_kept hok i p,fun a b _=>mark_text i p a b,?_⟩
   rw[(mark_rest H i p).1,Ho.text_sw,hs,if_pos h0]
 · have hR:=read_ready hok hat hs h0 hr
   have hd:t.size=128:=by
    rcases hok.swp hat with h1|⟨_,h2,_⟩
    · rw[hs] at h1
      exact absurd h1 h0
    · rw[←hs]
      exact h2
   have hk:=(hr.kept hok hat).1
   have hP:=hR.put hat hd
   rw[←back_eq (hk.ok.at_lt ((hk.al.at i p).2 hat))] at hP
   have ht:H.text i p=t:=by rw[Ho.text_sw,hs,if_neg h0]
   refine ⟨hP.k,fun a b hab=>?_,by rw[hP.pt,ht]⟩
   rw[hP.text a b hab]
   split
   · rename_i e
     rw[←e.1,←e.2,ht]
   · rfl
end Go.Proofs.YtbnngjhnkegliaaGreat
