/-
  Texts joined: HrEvict HrRoom PlRefRead2 PlRefWrite PlRefShare. No law is proved here.
-/
import Derived.Test.YtbnngjhnkegliaaGreatB21
namespace Go.Proofs.YtbnngjhnkegliaaGreat
open Go.RowKit
def RetEvR (base T B:Nat) (o:Option Ho) (H:Ho) (w:World) (e:Ending) (w':World):Prop:=(match o with
 | none=>e=.returned (.bool false)∧HostAtR base T B w' H
 | some H'=>e=.returned (.bool true)∧HostAtR base T B w' H')∧Below base w w'
theorem one_boolv (x:Bool):∀ u∈[Value.bool x],u.oneCell'=true:=by
 intro u hu
 simp at hu
 subst hu
 rfl
set_option maxRecDepth 100000 in
set_option maxHeartbeats 8000000 in
theorem revict_ok (base T B:Nat) (H:Ho) (i:Nat) (x:Int) (w:World) (hA:HostAtR base T B w H) (hB:T≤B) (hok:H.Ok) (hi:i<H.G.length) (hz:T≤w.heap.size):Calls Tryz.prog 88 #[.pointer (some ⟨B,0,none⟩),.int .i64 i,.int .i64 x] w (RetEvR base T B (H.evict i x) H w):=by
 obtain⟨g,hg⟩:=get_lt hi
 obtain⟨l,hl,hgo⟩:=hok.page hg
 have hll:=hok.p.l l (mem_at hl)
 have hev:H.evict i x=match chO g.u (l.map hasB) g.h.toNat x with
  | none=>none
  | some (v,u,q)=>some ⟨H.P.wr i v zeros128,H.G.set i { g with u:=u,h:=q,s:=g.s.set v (H.P.text i v) },H.t,H.d,H.n⟩:=by
  unfold Ho.evict
  rw[hg,Pl.pages_eq hl]
  rfl
 rw[hev]
 clear hev
 obtain⟨o,ho⟩:∃ o,chO g.u (l.map hasB) g.h.toNat x=o:=⟨_,rfl⟩
 rw[ho]
 obtain⟨of,or',om,og,kf,kr,km,kg,us,gs,D,O⟩:=hA
 obtain⟨n,hn⟩:∃ n,H.P.F.length=n:=⟨_,rfl⟩
 obtain⟨r,hr⟩:∃ n,H.P.R.length=n:=⟨_,rfl⟩
 obtain⟨m,hm⟩:∃ n,H.P.M.length=n:=⟨_,rfl⟩
 obtain⟨q,hq⟩:∃ n,H.G.length=n:=⟨_,rfl⟩
 obtain⟨tx,htx⟩:∃ n,H.t=n:=⟨_,rfl⟩
 obtain⟨dx,hdx⟩:∃ n,H.d=n:=⟨_,rfl⟩
 obtain⟨sx,hsx⟩:∃ n,H.n=n:=⟨_,rfl⟩
 rw[hn,hr,hm,hq,htx,hdx,hsx] at D
 rw[hn,hr,hm,hq] at O
 have HN:=lh hn;clear hn
 have HR:=lh hr;clear hr
 have HM:=lh hm;clear hm
 have HQ:=lh hq;clear hq
 have HT:=lh htx;clear htx
 have HD:=lh hdx;clear hdx
 have HS:=lh hsx;clear hsx
 have hbT:=O.le
 have hAB:=D.lt
 obtain⟨bG,cG,y,so,sc,uo,uc,eo,ec,e0,b1,b2,hy,ys,yu,ye,_,cg2,_,sc2,_,uc2,_,ec2,cs,cfz⟩:=O.g.guest hg
 injection e0 with e0 e9 e10
 subst e0 e10
 clear e9
 obtain⟨mb,moff,lo,lc,rfl,hmb,cm0,lc1,lc2,hL⟩:=O.own.row.p.guest hl
 have hnGB:bG≠B:=fun e=>by
  have:=own_off O.g.g D (by decide)
  exact this (by rw[e];rfl)
 obtain⟨ys1,yu1,ye1⟩:=y
 dsimp only at ys yu ye
 subst ys yu ye
 have hrs:=O.g.r i _ g hy hg
 obtain⟨rs1,rs2,rs3⟩:=hrs
 dsimp only at rs1 rs2 rs3
 have hsl:=hgo.ls
 have hul:=hgo.lu
 have hel:=hgo.le
 obtain⟨hd0,hd1⟩:=hgo.hd
 obtain⟨hh,hhn⟩:∃ k:Nat,g.h=k:=⟨g.h.toNat,by omega⟩
 rw[hhn,Int.toNat_natCast] at ho
 rw[hhn] at hd0 hd1
 have c6:w.cell? ⟨bG,i*9+6,none⟩=_:=cs 6 _ rfl
 have c7:w.cell? ⟨bG,i*9+7,none⟩=_:=cs 7 _ rfl
 clear cs
 dsimp only at c6 c7
 rw[hhn] at c7
 obtain⟨ql,hql⟩:∃ k,l.length=k:=⟨_,rfl⟩
 rw[hql] at hll cm0 hL hsl hul hel hd1
 rw[hsl] at rs1 hy
 rw[hul] at c6 rs2 hy
 rw[hel] at rs3 hy
 have hiq:i<q:=by rw[←HQ.out];exact hi
 have him:i<m:=by rw[←HM.out];exact lt_of_get hl
 obtain⟨gS,rfl,gs1,gs2⟩:=rs1.addr hsl (by omega)
 have HOK:=lh hok;clear hok
 have HG:=lh hg;clear hg
 have HL:=lh hl;clear hl
 have HGO:=lh hgo;clear hgo hhn
 have HV0:=lh ho;clear ho
 have HYY:=lh hy;clear hy
 have HQL:=lh hql;clear hql
 have HSL:=lh hsl;clear hsl
 have HUL:=lh hul;clear hul
 have HEL:=lh hel;clear hel hi
 have HLL:=lh hL;clear hL
 have i0':(0:Int)≤(i:Int):=by omega
 have iq:(i:Int)<(q:Int):=by omega
 have im:(i:Int)<(m:Int):=by omega
 have HLT:=lh O.g.ltG
 obtain⟨i0,hi,iz0,iz1,iz2⟩:=info_parts info_bool
 obtain⟨D_c,D_f,D_z⟩:=D.all
 go_enter Tryz.func88,Tryz.ntmps88
 go_wp2_with fail
 clear D_c D_f D_z
 go_loopw [8,9] (fun rv iv wr=>∃ (j:Nat) (ro:Option Addr) (rc:Nat),j≤ql∧rv=.slice ro j rc∧iv=.int .i64 j∧OwnBool w.heap.size wr (.slice ro j rc) ((l.take j).map hasB)∧Below w.heap.size w wr) (fun _ iv _=>ql - (intOf iv).toNat)
 case atStart=>exact⟨0,none,0,by omega,rfl,rfl,own_nil,Below.refl _ _⟩
 case round =>
  obtain⟨j,ro,rc,hj,rfl,rfl,DR,hbr⟩:=hrel
  have Dr:=D.below hbr
  by_cases hjq:j<ql
  · obtain⟨f,hf⟩:=get_lt (xs:=l) (k:=j) (by rw[HQL.out];exact hjq)
    obtain⟨fb,foff,rfl,hfb,cf0⟩:=HLL.out.elem hf
    have cf:=(hbr.cell (p:=⟨fb,foff+j,none⟩) hfb).trans cf0
    have cm:=(hbr.cell (p:=⟨mb,moff+i,none⟩) hmb).trans cm0
    have htk:(l.take (j+1)).map hasB=(l.take j).map hasB++[hasB f]:=by rw[List.take_add_one,hf];simp
    have HTK:=lh htk
    have htl:((l.take j).map hasB).length=j:=by rw[List.length_map,List.length_take,HQL.out];omega
    have HTL:=lh htl
    clear hf htk htl
    have j0:(0:Int)≤(j:Int):=by omega
    have jq:(j:Int)<(ql:Int):=by omega
    have hraw:=DR.raw
    rw[HTL.out] at hraw
    have HRW:=lh hraw
    have hbz:=hbr.size
    clear hraw
    obtain⟨Dr_c,Dr_f,Dr_z⟩:=Dr.all
    go_wp2_with (at_builtin;go_must (refine wpList_append_own _ rfl (.tmp 32) (.tmp 45) 47 rfl w.heap.size 4 i0 (.bool false) 1 1 Tryz.underlying47 hi iz0 iz1 iz2 rfl (by decide) _ j (((l.take j).map hasB).map Value.bool) rfl (HRW.out.alloc _) ⟨wr.heap.size,0,none⟩ 1 1 [.bool (decide (0≤f))] rfl rfl (cells_made _ [.bool (decide (0≤f))] _ _ (by first|rfl|simp only[sizes])) (one_boolv _) (by unfold maxLen;omega) (by omega) (by first|exact nlr _|omega|(simp only[sizes];done)|(simp only[sizes];omega)) ?_;intro v3 w3 hown3 hgrow3 _;have hb3:Below w.heap.size w w3:=below_append' bel (HRW.out.alloc _) hgrow3 (by omega);have hz3:=hb3.size))
    clear Dr_c Dr_f Dr_z
    obtain⟨ro3,rc3,rfl,_,_⟩:=own_form' hown3
    have hown:OwnBool w.heap.size w3 (.slice ro3 (j+1) rc3) ((l.take (j+1)).map hasB):=by
     show w3.ownsRow w.heap.size 4 1 _ ((l.take (j+1)).map hasB).length (((l.take (j+1)).map hasB).map Value.bool)
     rw[HTK.out,List.length_append,List.map_append,HTL.out]
     exact hown3
    clear hown3 hgrow3 HRW HTK HTL
    go_wp2_with fail
    go_roundw
    case rel=>exact⟨j+1,ro3,rc3,by omega,rfl,by go_num,hown,hb3⟩
    case measure=>simp [intOf];omega
  · obtain rfl:j=ql:=by omega
    have hRl:l.take j=l:=by rw[←HQL.out];exact List.take_length
    rw[hRl] at DR
    have cm:=(hbr.cell (p:=⟨mb,moff+i,none⟩) hmb).trans cm0
    have c6r:=(hbr.cell (p:=⟨bG,i*9+6,none⟩) b2).trans c6
    have c7r:=(hbr.cell (p:=⟨bG,i*9+7,none⟩) b2).trans c7
    have hVC:=fun w' h1 h2=>rvictim_any uo ro uc rc j g.u (l.map hasB) hh x w' h1 h2 HUL.out (by rw[List.length_map,HQL.out]) (by omega) (by omega) (by omega)
    rw[HV0.out] at hVC
    have HVC:=lh hVC;clear hVC
    have HRW:=lh DR.row
    have HUW:=lh (rs2.row.below hbr)
    have hbz:=hbr.size
    have b2r:bG<wr.heap.size:=by omega
    clear hRl
    obtain⟨Dr_c,Dr_f,Dr_z⟩:=Dr.all
    go_wp2_with fail
    clear Dr_c Dr_f Dr_z cm
    have hrule:∀ w':World,Below wr.heap.size wr w'→∀ b o,b<wr.heap.size→w'.cell? ⟨b,o,none⟩=wr.cell? ⟨b,o,none⟩:=fun w' h b o hlt=>h.cell (p:=⟨b,o,none⟩) hlt
    cases o with
    | none =>
      go_region_held3 (fun w'=>Below wr.heap.size wr w') (repeat' (first|(with_reducible first|assumption|exact Below.refl _ _|refine Below.drew ?_|refine Below.alloc' ?_ (nlr _) _|refine Below.setCell ?_ ?_ _)|refine Below.trans ?_ (Below.mono (by with_reducible assumption) ?_)|exact rfl|exact nlr _|omega|(simp only[sizes];done)|(simp only[sizes];omega))) ((first
       |
        (go_at_call 106
         with_reducible refine (HVC.out _ (HUW.out.below bel3) (HRW.out.below bel3)).mono ?_
         rintro e w5 ⟨hb5,vu,vh,rfl⟩
         obtain⟨hc5,hf5⟩:=bcell hb5
         have hzz5:=bsize hb5
         (try simp only[sizes1] at hzz5)
         (try simp only[sizes] at hc5 hf5))))
      all_goals
       have hb5':Below wr.heap.size wr w5:=by (repeat' (first|(with_reducible first|assumption|exact Below.refl _ _|refine Below.drew ?_|refine Below.alloc' ?_ (nlr _) _|refine Below.setCell ?_ ?_ _)|refine Below.trans ?_ (Below.mono (by with_reducible assumption) ?_)|exact rfl|exact nlr _|omega|(simp only[sizes];done)|(simp only[sizes];omega)))
       have HB5:Below w.heap.size w w5:=hbr.trans (hb5'.mono hbr.size)
       clear hc5 hf5 hzz5 hb5 hb5' hrule c6r c7r b2r HVC HRW HUW
       have D5:=D.below HB5
       have O5:=O.below HB5
       go_wp2_with fail
       go_ret
       try rw[hwr,htx]
       exact⟨⟨rfl,HostAtR.mk HN.out HR.out HM.out HQ.out HT.out HD.out HS.out D5 O5⟩,HB5.mono (Nat.le_trans hbT hz)⟩
    | some a =>
      obtain⟨v,u,qn⟩:=a
      go_region_held3 (fun w'=>Below wr.heap.size wr w') (repeat' (first|(with_reducible first|assumption|exact Below.refl _ _|refine Below.drew ?_|refine Below.alloc' ?_ (nlr _) _|refine Below.setCell ?_ ?_ _)|refine Below.trans ?_ (Below.mono (by with_reducible assumption) ?_)|exact rfl|exact nlr _|omega|(simp only[sizes];done)|(simp only[sizes];omega))) ((first
       |
        (go_at_call 106
         with_reducible refine (HVC.out _ (HUW.out.below bel3) (HRW.out.below bel3)).mono ?_
         rintro e w5 ⟨hb5,ao5,cp5,rfl,o5,hu5⟩
         obtain⟨hc5,hf5⟩:=bcell hb5
         have hzz5:=bsize hb5
         (try simp only[sizes1] at hzz5)
         (try simp only[sizes] at hc5 hf5))))
      all_goals
       have hb5':Below wr.heap.size wr w5:=by (repeat' (first|(with_reducible first|assumption|exact Below.refl _ _|refine Below.drew ?_|refine Below.alloc' ?_ (nlr _) _|refine Below.setCell ?_ ?_ _)|refine Below.trans ?_ (Below.mono (by with_reducible assumption) ?_)|exact rfl|exact nlr _|omega|(simp only[sizes];done)|(simp only[sizes];omega)))
       have HB5:Below w.heap.size w w5:=hbr.trans (hb5'.mono hbr.size)
       have o5':=o5.lower (base':=wr.heap.size) (by first|exact nlr _|(simp only[sizes];omega))
       clear hc5 hf5 hzz5 hb5 hb5' hrule o5 c6r c7r b2r HVC HRW HUW
       have D5:=D.below HB5
       have O5:=O.below HB5
       have hsp:=HV0.out
       unfold chO at hsp
       obtain⟨p1,p2,p3,p4,p5,p6,p7⟩:=chF_spec (by rw[List.length_map,HQL.out];omega) _ _ _ _ _ _ (by rw[List.length_map,HQL.out];omega) hsp
       rw[List.length_map,HQL.out] at p1 p6
       rw[HUL.out] at p4
       obtain⟨f,hf⟩:=get_lt (xs:=l) (k:=v) (by rw[HQL.out];exact p1)
       have hat:H.P.at i v:=⟨l,f,HL.out,hf⟩
       have hfr:=Pl.fr_eq HL.out hf
       have hf0:0≤f:=by
        rw[List.getElem?_map,hf] at p2
        injection p2 with p2
        unfold hasB at p2
        exact of_decide_eq_true p2
       have hok:=HOK.out
       obtain⟨we1,we2⟩:=Pl.wr_eq hok.p hat zeros128_size
       have hwr:H.P.wr i v zeros128=H.P.giveUp i v:=by
        rw[we1]
        unfold Pl.wr'
        rw[if_pos zeros128_zero]
       have hbd:=hok.p.at_bd hat
       rw[hfr] at hbd
       obtain⟨fv,hfv⟩:∃ fv:Nat,f=fv:=⟨f.toNat,by omega⟩
       subst hfv
       obtain⟨s1,hF⟩:=get_lt (xs:=H.P.F) (k:=fv) (by omega)
       have htx:H.P.text i v=s1:=by
        unfold Pl.text
        rw[hfr,if_neg (by omega),Int.toNat_natCast]
        unfold Pl.txt
        rw[hF]
        rfl
       have hrb : -1000000≤H.P.ref (H.P.fr i v).toNat∧H.P.ref (H.P.fr i v).toNat≤1000000:=by
        rw[hfr,Int.toNat_natCast,hok.p.ref_eq (by omega)]
        have:=hok.p.cnt_le fv
        omega
       have his:H.P.is i v=true:=Pl.at_is hat
       have LV:=fun w' (hO:OwnP base w' (.slice of n kf) (.slice or' r kr) (.slice (some ⟨mb,moff,none⟩) m km) us H.P)=>leave_any base T (.slice of n kf) (.slice or' r kr) (.slice (some ⟨mb,moff,none⟩) m km) us H.P i v w' hO O.lt his (by rw[hfr];exact hbd.2) hok.p.r hrb
       have HLV:=lh LV
       have HAL:=lh (hok.p.gave hat).al
       clear hsp p2 p5 p7 we1 we2 hrb his LV hok
       have hg2:(H.setG i { g with u:=u }).G[i]?=some { g with u:=u }:=by
        show (H.G.set i _)[i]?=_
        rw[List.getElem?_set,if_pos rfl,if_pos (lt_of_get HG.out)]
       have hx2:(gs.set i { s:=Value.slice (some ⟨gS,0,none⟩) j sc,u:=Value.slice ao5 j cp5,e:=Value.slice eo j ec })[i]?=some { s:=Value.slice (some ⟨gS,0,none⟩) j sc,u:=Value.slice ao5 j cp5,e:=Value.slice eo j ec }:=by
        rw[List.getElem?_set,if_pos rfl,if_pos (lt_of_get HYY.out)]
       have Oa:=O5.setUsed (i:=i) HG.out HYY.out HLT.out (o5'.lower (by omega)) (fun k hk=>Nat.le_trans hbz (o5'.ge k hk))
       have Ob:=Oa.setHand hg2 hx2 (qn:Int)
       have hg3:((H.setG i { g with u:=u }).setG i { g with u:=u,h:=(qn:Int) }).G[i]?=some { g with u:=u,h:=(qn:Int) }:=by
        show ((H.G.set i _).set i _)[i]?=_
        rw[List.getElem?_set,if_pos rfl,if_pos (by rw[List.length_set];exact lt_of_get HG.out)]
       have n6:B≠bG:=fun e=>hnGB e.symm
       have D6:=(D5.set_ne n6 (j:=i*9+6) (.slice ao5 j cp5)).set_ne n6 (j:=i*9+7) (.int .i64 (qn:Int))
       have B6:=((HB5.mono (Nat.le_trans hbT hz)).setCell (p:=⟨bG,i*9+6,none⟩) (Nat.le_trans hbT b1) (.slice ao5 j cp5)).setCell (p:=⟨bG,i*9+7,none⟩) (Nat.le_trans hbT b1) (.int .i64 (qn:Int))
       have c6':=(HB5.cell (p:=⟨bG,i*9+6,none⟩) b2).trans c6
       have c7':=(HB5.cell (p:=⟨bG,i*9+7,none⟩) b2).trans c7
       have fG:∀ o,w5.frozen? ⟨bG,o,none⟩=false:=fun o=>O5.g.frz9
       have hz5:T≤w5.heap.size:=Nat.le_trans hz HB5.size
       have hneg:decide ((v:Int)<0)=false:=decide_eq_false (by omega)
       clear Oa
       obtain⟨D5_c,D5_f,D5_z⟩:=D5.all
       go_upto_region 12 with (fail)
       clear D5_c D5_f D5_z c6' c7' fG
       have hz6:T≤((World.setCell w5 ⟨bG,i*9+6,none⟩ (.slice ao5 j cp5)).setCell ⟨bG,i*9+7,none⟩ (.int .i64 (qn:Int))).heap.size:=by simp only[sizes];exact hz5
       generalize hW:(World.setCell w5 ⟨bG,i*9+6,none⟩ (.slice ao5 j cp5)).setCell ⟨bG,i*9+7,none⟩ (.int .i64 (qn:Int))=w6 at Ob D6 B6 hz6 ⊢
       clear hW hz5 D5 O5
       obtain⟨rs1',_,_⟩:=Ob.g.r i _ _ hx2 hg3
       have c5':=Ob.g.at9 (j:=5) (u:=_) hg3 hx2 rfl
       dsimp only at rs1' c5'
       obtain⟨s0,hs0⟩:=get_lt (xs:=g.s) (k:=v) (by rw[HSL.out];exact p1)
       obtain⟨cS,fS⟩:=rs1'.at hs0
       obtain⟨gs1',gs2'⟩:T≤gS∧gS<w6.heap.size:=World.ownsRow.lt rs1'.raw gS rfl
       obtain⟨bm,km',bu,ku,e0,hus,cM,cP,cPf,_,hbm,_,hbu,_⟩:=Ob.p.page HL.out hf
       injection e0 with e0 e9 e10
       injection e0 with e0
       injection e0 with e0 e11
       subst e0 e10 e11
       clear e9
       rw[HQL.out] at cM
       obtain⟨F1,Fo,eF,hF1,cF⟩:=Ob.p.f.row.elem hF
       subst eF
       have b6:bG<w6.heap.size:=(World.ownsRow.lt Ob.g.g bG rfl).2
       have vq:(v:Int)<(j:Int):=by omega
       have v0:(0:Int)≤(v:Int):=by omega
       rw[HN.out] at hbd
       have fv0:(0:Int)≤(fv:Int):=by omega
       have fvn:(fv:Int)<(n:Int):=by omega
       have n3:gS≠B:=fun e=>own_off rs1'.raw D6 (by decide) (by rw[e];rfl)
       have HS0:=lh hs0
       have HFF:=lh hF
       clear hs0 hF hus hat hfr hf hf0
       obtain⟨D6_c,D6_f,D6_z⟩:=D6.all
       refine wp_region_tail_below 24 (by kernel_rfl) (by kernel_rfl) ?_
       simp only[List.take_succ_cons,List.take_zero,List.drop_succ_cons,List.drop_zero]
       repeat (go_big_quiet_step (first|fail|fail))
       refine wpQuiet_nil ?_
       intro w7 hw7
       have hb7:=below_of_regrown hw7
       clear hw7
       obtain⟨hc7,hf7⟩:=bcell hb7
       have hz7:=bsize hb7
       try simp only[sizes1] at hz7
       try simp only[sizes] at hc7 hf7
       clear D6_c D6_f D6_z hc7 hf7 hz7 cM cP cPf cF c5' cS
       have D7:=D6.below hb7
       have O7:=Ob.below hb7
       have B7:=B6.trans (hb7.mono (Nat.le_trans hbT hz6))
       have hz7:T≤w7.heap.size:=Nat.le_trans hz6 hb7.size
       have rs7:=rs1'.below hb7
       obtain⟨cS7,fS7⟩:=rs7.at HS0.out
       obtain⟨D7_c,D7_f,D7_z⟩:=D7.all
       go_upto_region 13 with (fail)
       clear D7_c D7_f D7_z
       have Oc:=O7.putS hg3 hx2 rfl v s1
       have D8:=D7.set_ne (b':=gS) (fun e=>n3 e.symm) (j:=v) (.string s1)
       have B8:=B7.setCell (p:=⟨gS,v,none⟩) (Nat.le_trans hbT gs1') (.string s1)
       have hz8:T≤(World.setCell w7 ⟨gS,v,none⟩ (.string s1)).heap.size:=by simp only[sizes];exact hz7
       generalize hW:World.setCell w7 ⟨gS,v,none⟩ (.string s1)=w8 at Oc D8 B8 hz8 ⊢
       clear hW D7 O7 B7 hz7 cS7 fS7 rs7 Ob rs1' D6 B6 hb7
       obtain⟨D8_c,D8_f,D8_z⟩:=D8.all
       go_wp2_with fail
       clear D8_c D8_f D8_z
       with_reducible refine (HLV.out _ Oc.p).mono ?_
       rintro e w9 ⟨rfl,hp,hb9⟩
       have R9:=Oc.pool hp hb9
       have D9:=D8.btw hb9 (.inr hB)
       have B9:=B8.trans (hb9.below (Nat.le_trans hbT hz8))
       have hHe:((((H.setG i { g with u:=u }).setG i { g with u:=u,h:=(qn:Int) }).setG i { g with u:=u,h:=(qn:Int),s:=g.s.set v s1 }).setP (H.P.giveUp i v))=⟨H.P.giveUp i v,H.G.set i { g with u:=u,h:=(qn:Int),s:=g.s.set v s1 },H.t,H.d,H.n⟩:=by
        unfold Ho.setG Ho.setP
        dsimp only
        rw[List.set_set,List.set_set]
       rw[hHe] at R9
       go_wp2_with fail
       go_ret
       try rw[hwr,htx]
       exact⟨⟨rfl,HostAtR.mk (HAL.out.f.trans HN.out) (HAL.out.r.trans HR.out) (HAL.out.m.trans HM.out) ((List.length_set ..).trans HQ.out) HT.out HD.out HS.out D9 R9⟩,B9⟩
def RetRoomR (base T B i p:Nat) (H:Ho) (w:World) (e:Ending) (w':World):Prop:=e=.returned (.tuple #[])∧(∃ H',Roomed i p H H'∧H'.Ok∧HostAtR base T B w' H')∧Below base w w'
theorem claims_len {H:Ho} (hok:H.Ok):H.claims.length=H.G.length:=by unfold Ho.claims;rw[List.length_zipWith,hok.m,Nat.min_self]
theorem full_no {H:Ho} {i p:Nat} (h:H.P.freeN≠0):H.full i p=false:=by unfold Ho.full;rw[decide_eq_false h];rfl
theorem full_need {H:Ho} {i p:Nat} (h:H.P.freeN=0):H.full i p=H.P.need i p:=by unfold Ho.full;rw[decide_eq_true h];rfl
set_option maxRecDepth 100000 in
set_option maxHeartbeats 8000000 in
theorem rroom_ok (base T B:Nat) (H:Ho) (i p:Nat) (w:World) (hA:HostAtR base T B w H) (hB:T≤B) (hok:H.Ok) (hat:H.P.at i p) (hz:T≤w.heap.size):Calls Tryz.prog 58 #[.pointer (some ⟨B,0,none⟩),.int .i64 i,.int .i64 p] w (RetRoomR base T B i p H w):=by
 have hi:=hok.at_lt hat
 obtain⟨g,hg⟩:=get_lt hi
 have hgp:=hok.gmP hg
 obtain⟨l,hl,hgo⟩:=hok.page hg
 have hll:=hok.p.l l (mem_at hl)
 obtain⟨l',f,hl',hf⟩:=hat
 rw[hl] at hl'
 injection hl' with hl'
 subst hl'
 have hfr:=Pl.fr_eq hl hf
 have hchn:H.P.chargeN i=l.countP hasB:=by unfold Pl.chargeN;rw[Pl.pages_eq hl]
 have hfi:H.first i p=if f<0∧g.c.l≤((H.P.chargeN i:Nat):Int) then (H.evict i p).getD H else H:=by
  unfold Ho.first
  rw[hg,hfr]
 have hat:H.P.at i p:=⟨l,f,hl,hf⟩
 have hA0:=hA
 have CHc:=fun v w h=>rcharge_any v H.P i w h (lt_of_get hl) hok.p.fit
 obtain⟨of,or',om,og,kf,kr,km,kg,us,gs,D,O⟩:=hA
 obtain⟨n,hn⟩:∃ n,H.P.F.length=n:=⟨_,rfl⟩
 obtain⟨r,hr⟩:∃ n,H.P.R.length=n:=⟨_,rfl⟩
 obtain⟨m,hm⟩:∃ n,H.P.M.length=n:=⟨_,rfl⟩
 obtain⟨q,hq⟩:∃ n,H.G.length=n:=⟨_,rfl⟩
 obtain⟨tx,htx⟩:∃ n,H.t=n:=⟨_,rfl⟩
 obtain⟨dx,hdx⟩:∃ n,H.d=n:=⟨_,rfl⟩
 obtain⟨sx,hsx⟩:∃ n,H.n=n:=⟨_,rfl⟩
 rw[hn,hr,hm,hq,htx,hdx,hsx] at D
 rw[hn,hr,hm,hq] at O
 have HN:=lh hn;clear hn
 have HR:=lh hr;clear hr
 have HM:=lh hm;clear hm
 have HQ:=lh hq;clear hq
 have HT:=lh htx;clear htx
 have HD:=lh hdx;clear hdx
 have HS:=lh hsx;clear hsx
 have hbT:=O.le
 obtain⟨bG,cG,y,so,sc,uo,uc,eo,ec,e0,b1,b2,hy,ys,yu,ye,_,cg2,_,sc2,_,uc2,_,ec2,cs,cfz⟩:=O.g.guest hg
 injection e0 with e0 e9 e10
 subst e0 e10
 clear e9
 obtain⟨mb,moff,lo,lc,rfl,hmb,cm0,lc1,lc2,hL⟩:=O.own.row.p.guest hl
 obtain⟨fb,foff,rfl,hfb,cf0⟩:=hL.elem hf
 have c1:w.cell? ⟨bG,i*9+1,none⟩=_:=cs 1 _ rfl
 clear cs cfz
 have hp:=lt_of_get hf
 have hiq:i<q:=by rw[←HQ.out];exact lt_of_get hg
 have him:i<m:=by rw[←HM.out];exact lt_of_get hl
 obtain⟨ql,hql⟩:∃ k,l.length=k:=⟨_,rfl⟩
 rw[hql] at hll cm0 hL hp lc1
 obtain⟨x,hx⟩:∃ x,H.P.chargeN i=x:=⟨_,rfl⟩
 rw[hx] at CHc hfi
 obtain⟨lim,hlim⟩:∃ x,g.c.l=x:=⟨_,rfl⟩
 rw[hlim] at c1 hfi
 have HCH:=lh CHc;clear CHc
 have HPL:Hid (∀ w':World,Below w.heap.size w w'→PlRow w' (.agg #[.slice of n kf,.slice or' r kr,.slice (some ⟨mb,moff,none⟩) m km]) H.P):=lh (fun w' hb=>(O.below hb).p.row)
 have i0:(0:Int)≤(i:Int):=by omega
 have iq:(i:Int)<(q:Int):=by omega
 have im:(i:Int)<(m:Int):=by omega
 have p0:(0:Int)≤(p:Int):=by omega
 have pq:(p:Int)<(ql:Int):=by omega
 have HFI:=lh hfi;clear hfi
 have HAT:=lh hat;clear hat
 have HA0:=lh hA0;clear hA0
 have HOK:=lh hok;clear hok
 clear hgo hgp hy ys yu ye hf hl hg hfr hchn hx hlim hql hi O hL
 obtain⟨tb,htb⟩:=bool_of (f<0∧lim≤(x:Int))
 have HTB:=lh htb;clear htb
 obtain⟨D_c,D_f,D_z⟩:=D.all
 go_enter Tryz.func58,Tryz.ntmps58
 go_upto_region 1 with (fail)
 go_cut [43] from 24 to 43 (fun tv wx=>tv=.bool tb∧Below w.heap.size w wx)
 case first =>
  by_cases hf0:f<0
  · by_cases hlx:lim≤(x:Int)
    · obtain rfl:=yes_of HTB.out ⟨hf0,hlx⟩
      have t1:decide ((x:Int) ≥ lim)=true:=decide_eq_true hlx
      have t2:decide (lim≤(x:Int))=true:=decide_eq_true hlx
      refine wp_region_quiet_below (by kernel_rfl) (by kernel_rfl) ?_
      repeat (go_big_quiet_step (first|fail|(go_at_call 69;with_reducible exact quiet_ret (HCH.out _ _ (HPL.out _ (below_regrown _ _ _))))))
      refine wpQuiet_nil ?_
      intro w3 hw3
      have hb3:=below_of_regrown hw3
      clear hw3
      obtain⟨hc3,hf3⟩:=bcell hb3
      have hz3:=bsize hb3
      try simp only[sizes1] at hz3
      try simp only[sizes] at hc3 hf3
      go_wp2_with fail
      go_meet
      exact⟨rfl,hb3⟩
    · obtain rfl:=no_of HTB.out (fun h=>hlx h.2)
      have t1:decide ((x:Int) ≥ lim)=false:=decide_eq_false hlx
      have t2:decide (lim≤(x:Int))=false:=decide_eq_false hlx
      refine wp_region_quiet_below (by kernel_rfl) (by kernel_rfl) ?_
      repeat (go_big_quiet_step (first|fail|(go_at_call 69;with_reducible exact quiet_ret (HCH.out _ _ (HPL.out _ (below_regrown _ _ _))))))
      refine wpQuiet_nil ?_
      intro w3 hw3
      have hb3:=below_of_regrown hw3
      clear hw3
      obtain⟨hc3,hf3⟩:=bcell hb3
      have hz3:=bsize hb3
      try simp only[sizes1] at hz3
      try simp only[sizes] at hc3 hf3
      go_wp2_with fail
      go_meet
      exact⟨rfl,hb3⟩
  · obtain rfl:=no_of HTB.out (fun h=>hf0 h.1)
    have t1:decide (f<0)=false:=decide_eq_false hf0
    refine wp_region_quiet_below (by kernel_rfl) (by kernel_rfl) ?_
    repeat (go_big_quiet_step (first|fail|(go_at_call 69;with_reducible exact quiet_ret (HCH.out _ _ (HPL.out _ (below_regrown _ _ _))))))
    refine wpQuiet_nil ?_
    intro w3 hw3
    have hb3:=below_of_regrown hw3
    clear hw3
    obtain⟨hc3,hf3⟩:=bcell hb3
    have hz3:=bsize hb3
    try simp only[sizes1] at hz3
    try simp only[sizes] at hc3 hf3
    go_wp2_with fail
    go_meet
    exact⟨rfl,hb3⟩
 case rest =>
 clear D_c D_f D_z HPL HCH c1 cm0 cf0
 obtain⟨rfl,hb3⟩:=hcut
 have hz3:=Nat.le_trans hz hb3.size
 go_upto_if 43 with (fail)
 go_cut [] from 44 to 47 (fun wx=>∃ H1:Ho,Hid (H.first i p=H1)∧Hid H1.Ok∧Hid (H1.P.at i p)∧HostAtR base T B wx H1∧T≤wx.heap.size∧Below base w wx)
 case first =>
  cases tb
  · go_wp2_with fail
    go_meet
    have hno:¬(f<0∧lim≤(x:Int)):=fun h=>by
     have:=HTB.out.2 h
     cases this
    exact⟨H,lh (by rw[HFI.out,if_neg hno]),HOK,HAT,HA0.out.below hb3,hz3,hb3.mono (Nat.le_trans hbT hz)⟩
  · have hfi:=HFI.out
    rw[if_pos (HTB.out.1 rfl)] at hfi
    have HF2:=lh hfi;clear hfi HFI
    go_wp2_with fail
    with_reducible refine (revict_ok base T B H i p wc (HA0.out.below hb3) hB HOK.out (HOK.out.at_lt HAT.out) hz3).mono ?_
    rintro e w4 ⟨hm,hb4⟩
    have hbA:Below base w w4:=(hb3.mono (Nat.le_trans hbT hz)).trans hb4
    have hall:∃ (H1:Ho) (b:Bool),e=.returned (.bool b)∧H.first i p=H1∧H1.Ok∧H1.P.at i p∧HostAtR base T B w4 H1:=by
     have h2:=HF2.out
     cases ho:H.evict i p with
     | none =>
       rw[ho] at hm h2
       exact⟨H,false,hm.1,h2,HOK.out,HAT.out,hm.2⟩
     | some L =>
       rw[ho] at hm h2
       have EL:=evict_law HOK.out ho
       exact⟨L,true,hm.1,h2,EL.ok,(EL.al.at _ _).2 HAT.out,hm.2⟩
    obtain⟨H1,bb,rfl,hf1,hok1,hat1,hA1⟩:=hall
    have hzT:T≤w4.heap.size:=Nat.le_trans hz3 hb4.size
    go_wp2_with fail
    go_meet
    exact⟨H1,lh hf1,lh hok1,lh hat1,hA1,hzT,hbA⟩
 case rest =>
  clear D HA0 HFI HOK HAT HTB hb3 hz3
  obtain⟨H1,HF1,HO1,HT1,HX1,hzT,hbA⟩:=hcut
  go_wp2_with fail
  go_loopg [7,8,9,10,11,12] (Ho.resN H1) (fun k _ _ _ _ _ _ wr=>∃ K:Ho,Hid (Steps i p H1 K)∧Hid K.Ok∧Hid (K.P.at i p)∧K.resN≤k∧HostAtR base T B wr K∧T≤wr.heap.size∧Below base w wr)
  case atStart=>exact⟨H1,.refl,HO1,HT1,nlr _,HX1,hzT,hbA⟩
  case round =>
   clear hzT HX1 hbA HO1 HT1
   obtain⟨K,HST,HKO,HKA,hkn,hK,hzK,hbK⟩:=hrel
   have hK0:=hK
   have hKO:=HKO.out
   obtain⟨l,f,hl,hf⟩:=id HKA.out
   have hfr:=Pl.fr_eq hl hf
   have hpb:=hKO.p.at_bd HKA.out
   rw[hfr] at hpb
   have hcb:=chosen_bd hKO (hKO.at_lt HKA.out)
   have hclm:K.P.M.length=K.G.length:=hKO.m.symm
   have hbd:=hKO.bounds
   obtain⟨of,or',om,og,kf,kr,km,kg,us,gs,D,O⟩:=hK
   obtain⟨bm,km',bu,ku,e0,hus,cM,cP,cPf,_,hbm,_,hbu,_⟩:=O.p.page hl hf
   injection e0 with e0 e9 e10
   subst e0 e10
   clear e9 hus cPf
   have FRc:=fun v w h=>rfree_any v K.P w h
   rw[hKO.p.free_eq] at FRc
   obtain⟨fu,hfu⟩:∃ b,K.full i p=b:=⟨_,rfl⟩
   have hfa:K.P.freeN≠0→fu=false:=fun h=>by rw[←hfu];exact full_no h
   have hfb:K.P.freeN=0→fu=K.P.need i p:=fun h=>by rw[←hfu];exact full_need h
   unfold Pl.need at hfb
   rw[hfr] at hfb
   obtain⟨fn,hfn⟩:∃ x,K.P.freeN=x:=⟨_,rfl⟩
   rw[hfn] at FRc hfa hfb
   have HFU:=lh hfu;clear hfu hfn
   have HFA:=lh hfa;clear hfa
   have HFB:=lh hfb;clear hfb
   have HFR:=lh FRc;clear FRc
   have hgi:i<K.P.M.length:=lt_of_get hl
   have hpl:=lt_of_get hf
   have HPL:Hid (∀ w':World,Below wr.heap.size wr w'→PlRow w' (.agg #[.slice of K.P.F.length kf,.slice or' K.P.R.length kr,.slice (some ⟨bm,0,none⟩) K.P.M.length km]) K.P):=lh (fun w' hb=>(O.below hb).p.row)
   have hRx:∀ fv:Nat,fv<K.P.F.length→∃ x,K.P.R[fv]?=some x∧K.P.ref fv=x:=fun fv hfv=>by
    obtain⟨x,hx⟩:=get_lt (xs:=K.P.R) (k:=fv) (by rw[hKO.p.r];exact hfv)
    exact⟨x,hx,by unfold Pl.ref;rw[hx];rfl⟩
   have hRR:=O.p.r.row
   have HRL:=lh hKO.p.r
   obtain⟨mz,hmz⟩:∃ x,K.P.M.length=x:=⟨_,rfl⟩
   obtain⟨lz,hlz⟩:∃ x,l.length=x:=⟨_,rfl⟩
   obtain⟨nz,hnz⟩:∃ x,K.P.F.length=x:=⟨_,rfl⟩
   obtain⟨rz,hrz⟩:∃ x,K.P.R.length=x:=⟨_,rfl⟩
   rw[hmz] at D hgi HPL
   rw[hlz] at cM hpl
   rw[hnz] at D hpb HPL hRx HRL
   rw[hrz] at D HPL hRR HRL
   have i0:(0:Int)≤(i:Int):=by omega
   have im:(i:Int)<(mz:Int):=by omega
   have p0:(0:Int)≤(p:Int):=by omega
   have pq:(p:Int)<(lz:Int):=by omega
   clear hlz hl hf hfr hnz hrz
   go_upto_region 3 with (fail)
   go_cut [88] from 48 to 88 (fun tv wx=>tv=.bool fu∧Below wr.heap.size wr wx)
   case first =>
    obtain⟨D_c,D_f,D_z⟩:=D.all
    by_cases hf0:fn=0
    · have hfb:=HFB.out hf0
      subst hf0
      by_cases hn:f<0
      · rw[decide_eq_true hn,Bool.true_or] at hfb
        subst hfb
        refine wp_region_quiet_below (by kernel_rfl) (by kernel_rfl) ?_
        repeat (go_big_quiet_step (first|fail|(go_at_call 89;with_reducible exact quiet_ret (HFR.out _ _ (HPL.out _ (below_regrown _ _ _))))))
        refine wpQuiet_nil ?_
        intro w3 hw3
        have hb3:=below_of_regrown hw3
        clear hw3
        obtain⟨hc3,hf3⟩:=bcell hb3
        have hz3:=bsize hb3
        try simp only[sizes1] at hz3
        try simp only[sizes] at hc3 hf3
        go_wp2_with fail
        go_meet
        exact⟨rfl,hb3⟩
      · obtain⟨fv,rfl⟩:∃ fv:Nat,f=fv:=⟨f.toNat,by omega⟩
        obtain⟨x,hx,hrx⟩:=hRx fv (by omega)
        rw[Int.toNat_natCast,hrx,decide_eq_false hn,Bool.false_or] at hfb
        obtain⟨rb,ro,e0,hrb,cR⟩:=hRR.elem hx
        subst e0
        have fv0:(0:Int)≤(fv:Int):=by omega
        have fvr:(fv:Int)<(rz:Int):=by have:=HRL.out;omega
        have t1:decide ((fv:Int)<0)=false:=decide_eq_false (by omega)
        clear hx hrx
        by_cases hx1:1<x
        · rw[decide_eq_true hx1] at hfb
          subst hfb
          have t2:decide (x>1)=true:=decide_eq_true hx1
          refine wp_region_quiet_below (by kernel_rfl) (by kernel_rfl) ?_
          repeat (go_big_quiet_step (first|fail|(go_at_call 89;with_reducible exact quiet_ret (HFR.out _ _ (HPL.out _ (below_regrown _ _ _))))))
          refine wpQuiet_nil ?_
          intro w3 hw3
          have hb3:=below_of_regrown hw3
          clear hw3
          obtain⟨hc3,hf3⟩:=bcell hb3
          have hz3:=bsize hb3
          try simp only[sizes1] at hz3
          try simp only[sizes] at hc3 hf3
          go_wp2_with fail
          go_meet
          exact⟨rfl,hb3⟩
        · rw[decide_eq_false hx1] at hfb
          subst hfb
          have t2:decide (x>1)=false:=decide_eq_false hx1
          refine wp_region_quiet_below (by kernel_rfl) (by kernel_rfl) ?_
          repeat (go_big_quiet_step (first|fail|(go_at_call 89;with_reducible exact quiet_ret (HFR.out _ _ (HPL.out _ (below_regrown _ _ _))))))
          refine wpQuiet_nil ?_
          intro w3 hw3
          have hb3:=below_of_regrown hw3
          clear hw3
          obtain⟨hc3,hf3⟩:=bcell hb3
          have hz3:=bsize hb3
          try simp only[sizes1] at hz3
          try simp only[sizes] at hc3 hf3
          go_wp2_with fail
          go_meet
          exact⟨rfl,hb3⟩
    · have hfa:=HFA.out hf0
      subst hfa
      have t1:((fn:Int) == 0)=false:=by rw[beq_eq_false_iff_ne];omega
      refine wp_region_quiet_below (by kernel_rfl) (by kernel_rfl) ?_
      repeat (go_big_quiet_step (first|fail|(go_at_call 89;with_reducible exact quiet_ret (HFR.out _ _ (HPL.out _ (below_regrown _ _ _))))))
      refine wpQuiet_nil ?_
      intro w3 hw3
      have hb3:=below_of_regrown hw3
      clear hw3
      obtain⟨hc3,hf3⟩:=bcell hb3
      have hz3:=bsize hb3
      try simp only[sizes1] at hz3
      try simp only[sizes] at hc3 hf3
      go_wp2_with fail
      go_meet
      exact⟨rfl,hb3⟩
   case rest =>
    obtain⟨rfl,hbc⟩:=hcut
    clear HFA HFB HFR hRx hRR HRL cM cP
    have hzc:T≤wc.heap.size:=Nat.le_trans hzK hbc.size
    cases fu
    · go_wp2_with fail
      go_end0
      exact⟨rfl,⟨K,⟨by rw[HF1.out];exact HST.out,.inl HFU.out⟩,HKO.out,hK0.below hbc⟩,hbK.trans (hbc.mono (Nat.le_trans hbT hzK))⟩
    · have hK1:=hK0.below hbc
      have hbK1:=hbK.trans (hbc.mono (Nat.le_trans hbT hzK))
      have D1:=D.below hbc
      have O1:=O.below hbc
      have HPL1:Hid (∀ w':World,Below wc.heap.size wc w'→PlRow w' (.agg #[.slice of nz kf,.slice or' rz kr,.slice (some ⟨bm,0,none⟩) mz km]) K.P):=lh (fun w' hb=>HPL.out w' (hbc.trans (hb.mono hbc.size)))
      clear hK0 hbK hzK D O HPL hbc
      obtain⟨wS,hwS⟩:∃ x,wc=x:=⟨_,rfl⟩
      rw[hwS] at hK1 hbK1 D1 O1 HPL1 hzc ⊢
      clear hwS
      have hcl:K.claims.length=K.G.length:=claims_len HKO.out
      have hce:∀ (i:Nat) (g:Gm) (l:List Int),K.G[i]?=some g→K.P.M[i]?=some l→K.claims[i]?=some { g.c with p:=((K.P.chargeN i:Nat):Int) }:=fun i g l hg hl=>by
       unfold Ho.claims Pl.chargeN
       rw[List.getElem?_zipWith,hg,hl,Pl.pages_eq hl]
      have hch:K.chosen i=if (victimR K.claims K.t).2 then (victimR K.claims K.t).1 else i:=rfl
      have hevc:K.evictC i p=K.evict (K.chosen i).toNat (if K.chosen i=i then p else -1):=rfl
      have PY:=fun va w (h:ClmRow w va K.claims)=>vmfleetref35_Payer_any va K.claims K.t w h
      obtain⟨cs,hcs⟩:∃ cs,K.claims=cs:=⟨_,rfl⟩
      obtain⟨qz,hqz⟩:∃ x,K.G.length=x:=⟨_,rfl⟩
      rw[hcs] at hcl hce hch PY
      rw[hqz] at hcl D1 hclm hcb
      obtain⟨v1,hv1⟩:∃ x,(victimR cs K.t).1=x:=⟨_,rfl⟩
      obtain⟨v2,hv2⟩:∃ x,(victimR cs K.t).2=x:=⟨_,rfl⟩
      rw[hv1,hv2] at PY hch
      obtain⟨tz,htz⟩:∃ x,K.t=x:=⟨_,rfl⟩
      rw[htz] at D1 PY
      have HCL:=lh hcl
      have HCE:=lh hce
      have HCH:=lh hch
      have HEC:=lh hevc
      have HPY:=lh PY
      have HQZ:=lh hqz
      have HMZ:=lh hmz
      have hq8:qz≤8:=by rw[←hqz];exact hbd.2.2.2.2
      clear hcl hce hch hevc PY hcs hv1 hv2 htz hqz hclm hmz
      obtain⟨i1,hi1,jz0,jz1,jz2⟩:=info_parts info_clm
      have hTb:T≤wS.heap.size:=hzc
      obtain⟨D1_c,D1_f,D1_z⟩:=D1.all
      go_wp2_with fail
      go_loopw [7,8,9] (fun sv iv _ wx=>∃ (j:Nat) (o:Option Addr) (cp:Nat),j≤qz∧sv=.slice o j cp∧iv=.int .i64 j∧j≤cp∧cp≤9223372036854775807∧wx.ownsRow wS.heap.size 32 5 (.slice o j cp) j ((cs.take j).flatMap clmCells)∧Below wS.heap.size wS wx) (fun _ iv _ _=>qz - (intOf iv).toNat)
      case atStart=>exact⟨0,none,0,by omega,rfl,rfl,nlr _,by omega,World.ownsRow_nil _ _ _ _,Below.refl _ _⟩
      case round =>
       clear D1_c D1_f D1_z
       obtain⟨j,o,cp,hj,rfl,rfl,hc1,hc2,hO,hbx⟩:=hrel
       have D2:=D1.below hbx
       by_cases hlt:j<qz
       · obtain⟨g,hg⟩:=get_lt (xs:=K.G) (k:=j) (by rw[HQZ.out];exact hlt)
         obtain⟨l,hl,hgo⟩:=HKO.out.page hg
         have hce:=HCE.out j g l hg hl
         have htk:(cs.take (j+1)).flatMap clmCells=(cs.take j).flatMap clmCells++clmCells { g.c with p:=((K.P.chargeN j:Nat):Int) }:=by
          rw[List.take_add_one,hce,List.flatMap_append]
          simp
         have CHc:=fun v w h=>rcharge_any v K.P j w h (lt_of_get hl) HKO.out.p.fit
         obtain⟨gb,goff,so,sc,uo,uc,eo,ec,rfl,hgb,-,-,-,-,-,-,cs',-,-,-⟩:=O1.own.row.guest hg
         clear hce hg hl hgo
         obtain⟨⟨rr,cl,ss,pp,aa⟩,S,U,hd,E⟩:=g
         dsimp only at htk cs'
         obtain⟨x,hx⟩:∃ x,K.P.chargeN j=x:=⟨_,rfl⟩
         rw[hx] at CHc htk
         have HTK:=lh htk
         have HCC:=lh CHc
         have c0:wr.cell? ⟨gb,goff+j*9,none⟩=_:=(hbx.cell (p:=⟨gb,goff+j*9,none⟩) hgb).trans (cs' 0 _ rfl)
         have c1:wr.cell? ⟨gb,goff+j*9+1,none⟩=_:=(hbx.cell (p:=⟨gb,goff+j*9+1,none⟩) hgb).trans (cs' 1 _ rfl)
         have c2:wr.cell? ⟨gb,goff+j*9+2,none⟩=_:=(hbx.cell (p:=⟨gb,goff+j*9+2,none⟩) hgb).trans (cs' 2 _ rfl)
         have c3:wr.cell? ⟨gb,goff+j*9+3,none⟩=_:=(hbx.cell (p:=⟨gb,goff+j*9+3,none⟩) hgb).trans (cs' 3 _ rfl)
         have c4:wr.cell? ⟨gb,goff+j*9+4,none⟩=_:=(hbx.cell (p:=⟨gb,goff+j*9+4,none⟩) hgb).trans (cs' 4 _ rfl)
         have c5:wr.cell? ⟨gb,goff+j*9+5,none⟩=_:=(hbx.cell (p:=⟨gb,goff+j*9+5,none⟩) hgb).trans (cs' 5 _ rfl)
         have c6:wr.cell? ⟨gb,goff+j*9+6,none⟩=_:=(hbx.cell (p:=⟨gb,goff+j*9+6,none⟩) hgb).trans (cs' 6 _ rfl)
         have c7:wr.cell? ⟨gb,goff+j*9+7,none⟩=_:=(hbx.cell (p:=⟨gb,goff+j*9+7,none⟩) hgb).trans (cs' 7 _ rfl)
         have c8:wr.cell? ⟨gb,goff+j*9+8,none⟩=_:=(hbx.cell (p:=⟨gb,goff+j*9+8,none⟩) hgb).trans (cs' 8 _ rfl)
         clear cs' htk CHc hx
         dsimp only at c0 c1 c2 c3 c4 c5 c6 c7 c8
         have HOW:=lh hO;clear hO
         have j0:(0:Int)≤(j:Int):=by omega
         have jq:(j:Int)<(qz:Int):=by omega
         obtain⟨D2_c,D2_f,D2_z⟩:=D2.all
         go_upto_region 9 with (fail)
         clear D2_c D2_f D2_z
         clear c0 c1 c2 c3 c4 c5 c6 c7 c8
         have DC:=HasBlock.made wr #[.int .i64 rr,.int .i64 cl,.int .i64 ss,.int .i64 pp,.int .i64 aa] 32
         have hbr:Below wr.heap.size wr (wr.alloc (.cells #[.int .i64 rr,.int .i64 cl,.int .i64 ss,.int .i64 pp,.int .i64 aa] 32)):=(Below.refl _ _).alloc (nlr _) _
         generalize hW:wr.alloc (.cells #[.int .i64 rr,.int .i64 cl,.int .i64 ss,.int .i64 pp,.int .i64 aa] 32)=w5 at DC hbr ⊢
         clear hW
         have D3:=D2.below hbr
         obtain⟨D3_c,D3_f,D3_z⟩:=D3.all
         go_wp2_with fail
         clear D3_c D3_f D3_z
         with_reducible refine (HCC.out _ _ (HPL1.out _ (hbx.trans (hbr.mono hbx.size)))).mono ?_
         rintro e w6 ⟨rfl,hb6⟩
         replace DC:=DC.below hb6
         replace hbr:=hbr.trans (hb6.mono hbr.size)
         clear hb6 D3
         have hbr7:=hbr.setCell (p:=⟨wr.heap.size,3,none⟩) (nlr _) (.int .i64 (x:Int))
         have HOX:Hid ((World.setCell w6 ⟨wr.heap.size,3,none⟩ (.int .i64 (x:Int))).ownsRow wS.heap.size 32 5 (.slice o j cp) j ((cs.take j).flatMap clmCells)):=lh (owns_below HOW.out hbr7)
         have hzx:wS.heap.size≤w6.heap.size:=Nat.le_trans hbx.size hbr.size
         obtain⟨DC_c,DC_f,DC_z⟩:=DC.all
         go_wp2_with (at_builtin;go_must (refine wpList_append_own _ rfl (.tmp 113) (.tmp 115) 106 rfl wS.heap.size 32 i1 (.agg #[.int .i64 0,.int .i64 0,.int .i64 0,.int .i64 0,.int .i64 0]) 5 40 Tryz.underlying106 hi1 jz0 jz1 jz2 rfl (by decide) _ j ((cs.take j).flatMap clmCells) rfl (HOX.out.alloc _) ⟨w6.heap.size,0,none⟩ 1 1 [.int .i64 rr,.int .i64 cl,.int .i64 ss,.int .i64 (x:Int),.int .i64 aa] rfl rfl (cells_made _ [.int .i64 rr,.int .i64 cl,.int .i64 ss,.int .i64 (x:Int),.int .i64 aa] _ _ (by first|rfl|simp only[sizes])) (one_clm _ _ _ _ _) (by unfold maxLen;omega) (by omega) (by simp only[sizes];omega) ?_;intro v7 w7 hown7 hgrow7 _;obtain⟨o7,c7',rfl,hc71,hc72⟩:=own_form' hown7))
         have hbx7:Below wS.heap.size wS w7:=below_append' (Below.alloc' (hbx.trans (hbr7.mono hbx.size)) (nlr _) _) (HOX.out.alloc _) hgrow7 (by omega)
         go_wp2_with fail
         go_roundw
         case rel=>exact⟨j+1,o7,c7',by omega,rfl,by go_num,hc71,hc72,by rw[HTK.out];exact hown7,hbx7⟩
         case measure=>simp [intOf];omega
       · obtain rfl:j=qz:=by omega
         have hall:cs.take j=cs:=by rw[←HCL.out];exact List.take_length
         rw[hall] at hO
         have hrow:ClmRow wr (.slice o j cp) cs:=by
          unfold ClmRow
          rw[HCL.out]
          exact RowAt.of_owns hO
         clear hall hO HCE HPL1 O1 D1
         obtain⟨D2_c,D2_f,D2_z⟩:=D2.all
         go_wp2_with fail
         clear D2_c D2_f D2_z
         with_reducible refine (HPY.out _ _ hrow).mono ?_
         rintro e w8 ⟨rfl,hb8⟩
         have hb9:=hbx.trans (hb8.mono hbx.size)
         have hK9:=hK1.below hb9
         have hbK9:=hbK1.trans (hb9.mono (Nat.le_trans hbT hzc))
         have hz9:=Nat.le_trans hzc hb9.size
         clear hrow hb8 hbx D2 hK1 hbK1 hb9 HPY
         cases v2
         · have hch:=HCH.out
           rw[if_neg (by decide)] at hch
           have hec:=HEC.out
           rw[hch,Int.toNat_natCast,if_pos rfl] at hec
           have EV:=revict_ok base T B K i (p:Int) w8 hK9 hB HKO.out (HKO.out.at_lt HKA.out) hz9
           obtain⟨o,ho⟩:∃ o,K.evict i (p:Int)=o:=⟨_,rfl⟩
           rw[ho] at EV hec
           have hcm:i<K.P.M.length:=by rw[HMZ.out];exact hgi
           have HEE:=lh EV
           have HHC:=lh hec
           have HHO:=lh ho
           have HCB:=lh hcm
           clear EV hec ho hch hcb hcm
           go_wp2_with fail
           with_reducible refine HEE.out.mono ?_
           rintro e wh ⟨hm,hbh⟩
           have hzh:T≤wh.heap.size:=Nat.le_trans hz9 hbh.size
           cases o with
           | none =>
             obtain⟨rfl,hAh⟩:=hm
             go_wp2_with fail
             go_end0
             exact⟨rfl,⟨K,⟨by rw[HF1.out];exact HST.out,.inr ⟨HFU.out,HHC.out⟩⟩,HKO.out,hAh⟩,hbK9.trans hbh⟩
           | some L =>
             obtain⟨rfl,hAh⟩:=hm
             have EL:=evict_law HKO.out HHO.out
             have hres:=EL.res HCB.out
             go_wp2_with fail
             go_roundg L.resN
             case measure=>omega
             case rel=>exact⟨L,.step HST.out HFU.out HHC.out,EL.ok,(EL.al.at _ _).2 HKA.out,nlr _,hAh,hzh,hbK9.trans hbh⟩
         · have hch:=HCH.out
           rw[if_pos rfl] at hch
           obtain⟨c,hc⟩:∃ c:Nat,v1=c:=⟨v1.toNat,by rw[hch] at hcb;omega⟩
           subst hc
           have hec:=HEC.out
           rw[hch,Int.toNat_natCast] at hec
           rw[hch] at hcb
           have hcg:c<K.G.length:=by rw[HQZ.out];omega
           have hcm:c<K.P.M.length:=by rw[←HKO.out.m];exact hcg
           by_cases hci:(c:Int)=i
           · rw[if_pos hci] at hec
             have hci':c=i:=by omega
             subst hci'
             have EV:=revict_ok base T B K c (p:Int) w8 hK9 hB HKO.out hcg hz9
             obtain⟨o,ho⟩:∃ o,K.evict c (p:Int)=o:=⟨_,rfl⟩
             rw[ho] at EV hec
             clear hci
             have HEE:=lh EV
             have HHC:=lh hec
             have HHO:=lh ho
             have HCB:=lh hcm
             clear EV hec ho hch hcb hcm
             go_wp2_with fail
             with_reducible refine HEE.out.mono ?_
             rintro e wh ⟨hm,hbh⟩
             have hzh:T≤wh.heap.size:=Nat.le_trans hz9 hbh.size
             cases o with
             | none =>
               obtain⟨rfl,hAh⟩:=hm
               go_wp2_with fail
               go_end0
               exact⟨rfl,⟨K,⟨by rw[HF1.out];exact HST.out,.inr ⟨HFU.out,HHC.out⟩⟩,HKO.out,hAh⟩,hbK9.trans hbh⟩
             | some L =>
               obtain⟨rfl,hAh⟩:=hm
               have EL:=evict_law HKO.out HHO.out
               have hres:=EL.res HCB.out
               go_wp2_with fail
               go_roundg L.resN
               case measure=>omega
               case rel=>exact⟨L,.step HST.out HFU.out HHC.out,EL.ok,(EL.al.at _ _).2 HKA.out,nlr _,hAh,hzh,hbK9.trans hbh⟩
           · rw[if_neg hci] at hec
             have e1:((c:Int) == (i:Int))=false:=by rw[beq_eq_false_iff_ne];exact hci
             have EV:=revict_ok base T B K c (-1) w8 hK9 hB HKO.out hcg hz9
             obtain⟨o,ho⟩:∃ o,K.evict c (-1)=o:=⟨_,rfl⟩
             rw[ho] at EV hec
             clear hci
             have HEE:=lh EV
             have HHC:=lh hec
             have HHO:=lh ho
             have HCB:=lh hcm
             clear EV hec ho hch hcb hcm
             go_wp2_with fail
             with_reducible refine HEE.out.mono ?_
             rintro e wh ⟨hm,hbh⟩
             have hzh:T≤wh.heap.size:=Nat.le_trans hz9 hbh.size
             cases o with
             | none =>
               obtain⟨rfl,hAh⟩:=hm
               go_wp2_with fail
               go_end0
               exact⟨rfl,⟨K,⟨by rw[HF1.out];exact HST.out,.inr ⟨HFU.out,HHC.out⟩⟩,HKO.out,hAh⟩,hbK9.trans hbh⟩
             | some L =>
               obtain⟨rfl,hAh⟩:=hm
               have EL:=evict_law HKO.out HHO.out
               have hres:=EL.res HCB.out
               go_wp2_with fail
               go_roundg L.resN
               case measure=>omega
               case rel=>exact⟨L,.step HST.out HFU.out HHC.out,EL.ok,(EL.al.at _ _).2 HKA.out,nlr _,hAh,hzh,hbK9.trans hbh⟩
set_option maxHeartbeats 2000000 in
theorem rread_any (v:Value) (P:Pl) (g p:Int) (w:World) (h:PlRow w v P) (hf:P.fit):Calls Tryz.prog 60 #[v,.int .i64 g,.int .i64 p] w (Ret w (.tuple #[.string (P.read g p),.bool (P.has g p)])):=by
 have hrd:P.read g p=if P.has g p then (if P.fr g.toNat p.toNat<0 then zeros128 else P.txt (P.fr g.toNat p.toNat).toNat) else ⟨#[]⟩:=rfl
 have hhas:P.has g p=(P.ok && P.is g p):=rfl
 have HHAS:=lh hhas;clear hhas
 have HRD:=lh hrd;clear hrd
 obtain⟨of,or',om,kf,kr,km,rfl,kf1,kf2,kr1,kr2,km1,km2⟩:=h.form
 obtain⟨n,hn⟩:∃ n,P.F.length=n:=⟨_,rfl⟩
 obtain⟨r,hr⟩:∃ n,P.R.length=n:=⟨_,rfl⟩
 obtain⟨m,hm⟩:∃ n,P.M.length=n:=⟨_,rfl⟩
 rw[hn] at h kf1 ⊢
 rw[hr] at h kr1 ⊢
 rw[hm] at h km1 ⊢
 have HN:=lh hn;clear hn
 have HR:=lh hr;clear hr
 have HM:=lh hm;clear hm
 have V:=fun w h=>rvalid_pl (.agg #[.slice of n kf,.slice or' r kr,.slice om m km]) P w h hf
 have U:=fun w h=>ris_any (.agg #[.slice of n kf,.slice or' r kr,.slice om m km]) P g p w h
 clear hf
 cases hok:P.ok
 · have hh:P.has g p=false:=by rw[HHAS.out,hok];rfl
   rw[hh] at HRD
   rw[hok] at V
   have HH:=lh hh;clear hh hok U
   have HV:=lh V;clear V
   go_enter Tryz.func60,Tryz.ntmps60
   go_wp2_with fail
   with_reducible refine (HV.out _ (h.below bel)).mono ?_
   rintro e w1 ⟨rfl,hb1⟩
   obtain⟨hc1,hf1⟩:=bcell hb1
   have hz1:=bsize hb1
   try simp only[sizes1] at hz1
   try simp only[sizes] at hc1 hf1
   go_wp2_with fail
   go_ret2
   exact Ret.mk' (by rw[HRD.out,HH.out];rfl) bel
 rw[hok] at V
 have HV:=lh V;clear V
 cases his:P.is g p
 · have hh:P.has g p=false:=by rw[HHAS.out,his,Bool.and_false]
   rw[hh] at HRD
   rw[his] at U
   have HH:=lh hh;clear hh hok his
   have HU:=lh U;clear U
   go_enter Tryz.func60,Tryz.ntmps60
   go_wp2_with fail
   with_reducible refine (HV.out _ (h.below bel)).mono ?_
   rintro e w1 ⟨rfl,hb1⟩
   have D1:=(HasBlock.made w #[.slice of n kf,.slice or' r kr,.slice om m km] 26).below hb1
   have hbw:Below w.heap.size w w1:=bel
   have hrow:=h.below hbw
   clear hb1 h
   obtain⟨D1_c,D1_f,D1_z⟩:=D1.all
   go_wp2_with fail
   with_reducible refine (HU.out _ hrow).mono ?_
   rintro e w2 ⟨rfl,hb2⟩
   go_wp2_with fail
   go_ret2
   exact Ret.mk' (by rw[HRD.out,HH.out];rfl) (hbw.trans (hb2.mono hbw.size))
 · have hh:P.has g p=true:=by rw[HHAS.out,his,hok];rfl
   rw[hh] at HRD
   rw[his] at U
   have HH:=lh hh;clear hh
   have HU:=lh U;clear U
   have H:=Pl.ok_iff.1 hok
   have hi:=his
   unfold Pl.is at hi
   rw[decide_eq_true_eq] at hi
   obtain⟨i,rfl⟩:∃ i:Nat,g=i:=⟨g.toNat,by omega⟩
   obtain⟨k,rfl⟩:∃ i:Nat,p=i:=⟨p.toNat,by omega⟩
   obtain⟨l,f,hl,hp⟩:=Pl.is_at his
   have hfb:=H.page hl hp
   rw[HN.out] at hfb
   have hfr:=Pl.fr_eq hl hp
   rw[if_pos rfl,Int.toNat_natCast,Int.toNat_natCast,hfr] at HRD
   have hpl:=Pl.pages_eq hl
   rw[HM.out,Int.toNat_natCast,hpl] at hi
   clear hok his H hfr hpl
   have HL:=lh hl;clear hl
   have HP:=lh hp;clear hp
   go_enter Tryz.func60,Tryz.ntmps60
   go_wp2_with fail
   with_reducible refine (HV.out _ (h.below bel)).mono ?_
   rintro e w1 ⟨rfl,hb1⟩
   have D1:=(HasBlock.made w #[.slice of n kf,.slice or' r kr,.slice om m km] 26).below hb1
   have hbw:Below w.heap.size w w1:=bel
   have hrow:=h.below hbw
   clear hb1 h
   obtain⟨D1_c,D1_f,D1_z⟩:=D1.all
   go_wp2_with fail
   with_reducible refine (HU.out _ hrow).mono ?_
   rintro e w2 ⟨rfl,hb2⟩
   replace D1:=D1.below hb2
   replace hbw:=hbw.trans (hb2.mono hbw.size)
   replace hrow:=hrow.below hb2
   clear hb2 D1_c D1_f D1_z
   obtain⟨mb,moff,uo,uc,rfl,hmb,cm,u1,u2,hr⟩:=hrow.guest HL.out
   obtain⟨lb,loff,rfl,hlb,cl⟩:=hr.elem HP.out
   clear hr
   obtain⟨D1_c,D1_f,D1_z⟩:=D1.all
   by_cases h0:f<0
   · rw[if_pos h0] at HRD
     clear hrow
     go_wp2_with fail
     with_reducible refine (blank_any _).mono ?_
     rintro e w3 ⟨rfl,hb3⟩
     go_wp2_with fail
     go_ret2
     exact Ret.mk' (by rw[HRD.out,HH.out];rfl) (hbw.trans (hb3.mono hbw.size))
   · rw[if_neg h0] at HRD
     obtain⟨j,rfl⟩:∃ i:Nat,f=i:=⟨f.toNat,by omega⟩
     obtain⟨s,hs⟩:=get_lt (xs:=P.F) (k:=j) (by rw[HN.out];omega)
     obtain⟨fb,foff,rfl,hfb1,cf⟩:=(hrow.parts.1).elem hs
     have ht:P.txt (j:Int).toNat=s:=by unfold Pl.txt;rw[Int.toNat_natCast,hs];rfl
     rw[ht] at HRD
     clear ht hs hrow
     go_wp2_with fail
     go_ret2
     exact Ret.mk' (by rw[HRD.out,HH.out];rfl) hbw
theorem Pl.Ok.free_iff {P:Pl} (H:P.Ok) {v:Nat} (hv:v<P.F.length):P.ref v=0↔P.F[v]?=some ⟨#[]⟩:=by
 obtain⟨s,hs,_,h1,_⟩:=H.fr v hv
 rw[H.ref_eq hv,hs]
 constructor
 · intro h
   rw[empty_of_size (h1.1 (by omega))]
 · intro h
   injection h with h
   subst h
   have:=h1.2 rfl
   omega
end Go.Proofs.YtbnngjhnkegliaaGreat
namespace Go.Proofs.YtbnngjhnkegliaaGreat
open Go.RowKit
end Go.Proofs.YtbnngjhnkegliaaGreat
