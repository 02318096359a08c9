/-
  Texts joined: HrScan HrSam. No law is proved here.
-/
import Derived.Test.YtbnngjhnkegliaaGreatB26
import Derived.Maps.AppendAt
namespace Go.Proofs.YtbnngjhnkegliaaGreat
open Go.RowKit
def fstV (O:List (Nat×Nat)):List Value:=O.map (fun x=>.int .i64 x.1)
def sndV (O:List (Nat×Nat)):List Value:=O.map (fun x=>.int .i64 x.2)
theorem fstV_push (O:List (Nat×Nat)) (x:Nat×Nat):fstV (O++[x])=fstV O++[.int .i64 x.1]:=by unfold fstV;rw[List.map_append];rfl
theorem sndV_push (O:List (Nat×Nat)) (x:Nat×Nat):sndV (O++[x])=sndV O++[.int .i64 x.2]:=by unfold sndV;rw[List.map_append];rfl
theorem fstV_at {O:List (Nat×Nat)} {c:Nat} {x:Nat×Nat} (h:O[c]?=some x):(fstV O)[c]?=some (.int .i64 x.1):=by unfold fstV;rw[List.getElem?_map,h];rfl
theorem sndV_at {O:List (Nat×Nat)} {c:Nat} {x:Nat×Nat} (h:O[c]?=some x):(sndV O)[c]?=some (.int .i64 x.2):=by unfold sndV;rw[List.getElem?_map,h];rfl
structure Two (X:Nat) (w:World) (v1 v2:Value) (N1 N2:Nat) (a b:List Value):Prop where
 a:w.ownsRow X 3 1 v1 N1 a
 b:w.ownsRow X 3 1 v2 N2 b
 ne:∀ k,v1.ownBlock=some k→v2.ownBlock≠some k
theorem Two.nil (X:Nat) (w:World):Two X w (.slice none 0 0) (.slice none 0 0) 0 0 [] []:=⟨World.ownsRow_nil _ _ _ _,World.ownsRow_nil _ _ _ _,fun k h=>by cases h⟩
theorem Two.below {X:Nat} {w w':World} {v1 v2:Value} {N1 N2:Nat} {a b:List Value} (h:Two X w v1 v2 N1 N2 a b) (hb:Below w.heap.size w w'):Two X w' v1 v2 N1 N2 a b:=⟨owns_below h.a hb,owns_below h.b hb,h.ne⟩
theorem Two.setlow {X B j:Nat} {w:World} {v1 v2:Value} {N1 N2:Nat} {a b:List Value} (h:Two X w v1 v2 N1 N2 a b) (hB:B<X) (x:Value):Two X (w.setCell ⟨B,j,none⟩ x) v1 v2 N1 N2 a b:=⟨owns_setlow h.a hB x,owns_setlow h.b hB x,h.ne⟩
theorem Two.alloc {X:Nat} {w:World} {v1 v2:Value} {N1 N2:Nat} {a b:List Value} (h:Two X w v1 v2 N1 N2 a b) (o:Obj):Two X (w.alloc o) v1 v2 N1 N2 a b:=⟨h.a.alloc o,h.b.alloc o,h.ne⟩
theorem Two.growA {X:Nat} {w w':World} {v1 v2 v':Value} {N1 N2 N':Nat} {a b a':List Value} (h:Two X w v1 v2 N1 N2 a b) (ho:w'.ownsRow X 3 1 v' N' a') (hg:w.grownBy w' v1.ownBlock) (hat:v'.ownBlock=v1.ownBlock∨v'.ownBlock=some w.heap.size):Two X w' v' v2 N' N2 a' b:=by
 refine ⟨ho,h.b.kept hg ?_,fun k hk e=>?_⟩
 · cases hv:v2.ownBlock with
   | none=>exact .inl rfl
   | some j=>exact .inr (fun e=>h.ne j e.symm hv)
 · rcases hat with h1|h1
   · exact h.ne k (h1 ▸ hk) e
   · rw[h1] at hk
     injection hk with hk
     have:=(h.b.lt k e).2
     omega
theorem Two.growB {X:Nat} {w w':World} {v1 v2 v':Value} {N1 N2 N':Nat} {a b b':List Value} (h:Two X w v1 v2 N1 N2 a b) (ho:w'.ownsRow X 3 1 v' N' b') (hg:w.grownBy w' v2.ownBlock) (hat:v'.ownBlock=v2.ownBlock∨v'.ownBlock=some w.heap.size):Two X w' v1 v' N1 N' a b':=by
 refine ⟨h.a.kept hg ?_,ho,fun k hk e=>?_⟩
 · cases hv:v1.ownBlock with
   | none=>exact .inl rfl
   | some j=>exact .inr (fun e=>h.ne j hv e.symm)
 · rcases hat with h1|h1
   · exact h.ne k hk (h1 ▸ e)
   · rw[h1] at e
     injection e with e
     have:=(h.a.lt k hk).2
     omega
set_option maxRecDepth 100000 in
set_option maxHeartbeats 8000000 in
theorem rscan_ok (v:Value) (H:Ho) (k:Int) (w:World) (ha:HoAt w v H) (hok:H.Ok) (hk:1≤k∧k≤9223372036854775807) (hG0:0<H.G.length):Calls Tryz.prog 37 #[v,.int .i64 k] w (RetHoB (fun v=>v) (H.scan k) w):=by
 have hbd:=hok.bounds
 have hol:=ord_len H
 have hsn:=hok.n
 have VLc:=fun v w h=>rhvalid_any v H true w h hok.fitted hok.little (Iff.intro (fun _=>hok) (fun _=>rfl))
 have MNc:=fun v w h=>rmine_ok v H w h hok
 have HVL:=lh VLc;clear VLc
 have HMN:=lh MNc;clear MNc
 obtain⟨of,or',om,og,kf,kr,km,kg,n,r,m,q,tx,dx,sx,HN,HR,HM,HQ,HT,HD,HS,rfl,kf1,kf2,kr1,kr2,km1,km2,kg1,kg2,h⟩:=HoAt.opened ha
 have h0:=h
 have HA:Hid (∀ w':World,Below w.heap.size w w'→HoAt w' (.agg #[.slice of n kf,.slice or' r kr,.slice om m km,.slice og q kg,.int .i64 tx,.int .u64 dx,.int .i64 sx]) H):=lh (fun w' hb=>by
  have:=(h0.below hb).at_
  rwa[HT.out,HD.out,HS.out] at this)
 rw[HN.out,HR.out,HM.out,HQ.out] at hbd
 rw[HS.out] at hsn
 rw[HQ.out] at hG0
 clear h h0
 have D1:=(HasBlock.made w #[.slice of n kf,.slice or' r kr,.slice om m km,.slice og q kg,.int .i64 tx,.int .u64 dx,.int .i64 sx] 30).alloc (.cells #[.slice none 0 0,.slice none 0 0,.slice none 0 0,.slice none 0 0,.int .i64 0,.int .u64 0,.int .i64 0] 30)
 have D2:=HasBlock.made (w.alloc (.cells #[.slice of n kf,.slice or' r kr,.slice om m km,.slice og q kg,.int .i64 tx,.int .u64 dx,.int .i64 sx] 30)) #[.slice none 0 0,.slice none 0 0,.slice none 0 0,.slice none 0 0,.int .i64 0,.int .u64 0,.int .i64 0] 30
 rw[World.size_alloc] at D2
 have hbw:Below w.heap.size w ((w.alloc (.cells #[.slice of n kf,.slice or' r kr,.slice om m km,.slice og q kg,.int .i64 tx,.int .u64 dx,.int .i64 sx] 30)).alloc (.cells #[.slice none 0 0,.slice none 0 0,.slice none 0 0,.slice none 0 0,.int .i64 0,.int .u64 0,.int .i64 0] 30)):=bel
 have hz0:w.heap.size+1+1≤((w.alloc (.cells #[.slice of n kf,.slice or' r kr,.slice om m km,.slice og q kg,.int .i64 tx,.int .u64 dx,.int .i64 sx] 30)).alloc (.cells #[.slice none 0 0,.slice none 0 0,.slice none 0 0,.slice none 0 0,.int .i64 0,.int .u64 0,.int .i64 0] 30)).heap.size:=by simp only[sizes];omega
 have HOK:=lh hok;clear hok
 have HOL:=lh hol;clear hol
 obtain⟨kn,rfl⟩:∃ kn:Nat,k=kn:=⟨k.toNat,by omega⟩
 have hsc:H.scan kn=Ho.scanN H.ord H (min kn H.ord.length):=by unfold Ho.scan;rw[if_neg (by omega),Int.toNat_natCast]
 have t1:decide ((kn:Int)<1)=false:=decide_eq_false (by omega)
 have t2:((q:Int) == 0)=false:=by rw[beq_eq_false_iff_ne];omega
 rw[hsc]
 clear hsc
 obtain⟨L,hL⟩:∃ L,lenM H.P.M=L:=⟨_,rfl⟩
 have hlb:=HOK.out.len H.P.M.length (nlr _)
 rw[List.take_length,hL,HM.out] at hlb
 rw[HOL.out,hL]
 rw[hL] at hsn HOL
 have HLL:=lh hL;clear hL
 obtain⟨cnt,hcnt⟩:∃ c,min kn L=c:=⟨_,rfl⟩
 have HCN:=lh hcnt
 rw[hcnt]
 clear hcnt
 obtain⟨i0,hi0,iz0,iz1,iz2⟩:=info_parts info_int
 go_enter Tryz.func37,Tryz.ntmps37
 obtain⟨D1_c,D1_f,D1_z⟩:=D1.all
 go_wp2_with fail
 clear D1_c D1_f D1_z
 with_reducible refine (HVL.out _ _ (HA.out _ hbw)).mono ?_
 rintro e w1 ⟨rfl,hb1⟩
 replace D1:=D1.below hb1
 replace D2:=D2.below hb1
 replace hbw:=hbw.trans (hb1.mono hbw.size)
 replace hz0:=Nat.le_trans hz0 hb1.size
 clear hb1
 obtain⟨D1_c,D1_f,D1_z⟩:=D1.all
 go_wp2_with fail
 clear D1_c D1_f D1_z
 with_reducible refine (HMN.out _ _ (HA.out _ hbw)).mono ?_
 rintro e w3 ⟨T,of1,or1,om1,og1,kf1',kr1',km1',kg1',us1,gs1,rfl,R1,hT1,hb3⟩
 rw[HN.out,HR.out,HM.out,HQ.out] at R1 ⊢
 rw[HT.out,HD.out,HS.out]
 replace R1:=R1.lower (base':=w.heap.size+1+1) hz0
 replace D2:=D2.below hb3
 replace hbw:=hbw.trans (hb3.mono hbw.size)
 replace hz0:=Nat.le_trans hz0 hb3.size
 clear hb3 D1 HVL HMN HA
 go_upto_region 4 with (fail)
 have DR:=HasBlock.made w3 #[.slice of1 n kf1',.slice or1 r kr1',.slice om1 m km1',.slice og1 q kg1',.int .i64 tx,.int .u64 dx,.int .i64 sx] 30
 have hbx:Below w3.heap.size w3 (w3.alloc (.cells #[.slice of1 n kf1',.slice or1 r kr1',.slice om1 m km1',.slice og1 q kg1',.int .i64 tx,.int .u64 dx,.int .i64 sx] 30)):=(Below.refl _ _).alloc (nlr _) _
 replace D2:=D2.below hbx
 replace R1:=R1.below hbx
 replace hbw:=hbw.trans (hbx.mono hbw.size)
 have hz4:w3.heap.size<(w3.alloc (.cells #[.slice of1 n kf1',.slice or1 r kr1',.slice om1 m km1',.slice og1 q kg1',.int .i64 tx,.int .u64 dx,.int .i64 sx] 30)).heap.size:=by simp only[sizes];omega
 clear hbx
 generalize hW:w3.alloc (.cells #[.slice of1 n kf1',.slice or1 r kr1',.slice om1 m km1',.slice og1 q kg1',.int .i64 tx,.int .u64 dx,.int .i64 sx] 30)=w4 at D2 DR R1 hbw hz4 ⊢
 obtain⟨B,hB⟩:∃ B,w3.heap.size=B:=⟨_,rfl⟩
 rw[hB] at DR hz0 hT1 hz4 ⊢
 clear hW hB
 have hA1:HostAtR (w.heap.size+1+1) T B w4 H:=HostAtR.mk HN.out HR.out HM.out HQ.out HT.out HD.out HS.out DR R1
 have hBT:B<w4.heap.size:=hz4
 have hla:=HOK.out.p
 have hle4:w.heap.size+1+1≤w4.heap.size:=by omega
 go_wp2_with fail
 go_loopw [6,7,8] (fun sv tv iv wr=>∃ (i N:Nat) (o o2:Option Addr) (cp cp2:Nat),i≤m∧iv=.int .i64 i∧sv=.slice o N cp∧tv=.slice o2 N cp2∧Hid (N=(ordTo H.P i).length)∧N≤cp∧cp≤9223372036854775807∧N≤cp2∧cp2≤9223372036854775807∧Hid (Two w4.heap.size wr (.slice o N cp) (.slice o2 N cp2) N N (fstV (ordTo H.P i)) (sndV (ordTo H.P i)))∧Below w4.heap.size w4 wr) (fun _ _ iv _=>m - (intOf iv).toNat)
 case atStart=>exact⟨0,0,none,none,0,0,by omega,rfl,rfl,rfl,rfl,nlr _,by omega,nlr _,by omega,Two.nil _ _,Below.refl _ _⟩
 case round =>
  obtain⟨i,N,o,o2,cp,cp2,hi,rfl,rfl,rfl,HNN,hc1,hc2,hc3,hc4,HOW,hbr⟩:=hrel
  by_cases hlt:i<m
  · obtain⟨l,hl⟩:=get_lt (xs:=H.P.M) (k:=i) (by rw[HM.out];exact hlt)
    have hll:=HOK.out.p.l l (mem_at hl)
    have hnl:=HOK.out.len i (by rw[HM.out];omega)
    rw[←ordTo_len H.P i (by rw[HM.out];omega),←HNN.out] at hnl
    obtain⟨mb,moff,lo,lc,e0,hmb,cm0,lc1,lc2,_⟩:=R1.p.row.guest hl
    obtain rfl:=e0
    have hpl:=Pl.pages_eq hl
    have hnext:ordTo H.P (i+1)=ordUp H.P i l.length:=by rw[ordTo_succ,hpl];rfl
    obtain⟨ql,hql⟩:∃ x,l.length=x:=⟨_,rfl⟩
    rw[hql] at hll cm0 lc1 hnext
    have cm:=(hbr.cell (p:=⟨mb,moff+i,none⟩) hmb).trans cm0
    have HNX:=lh hnext
    have i0':(0:Int)≤(i:Int):=by omega
    have im:(i:Int)<(m:Int):=by omega
    clear hl hpl hql hnext
    have D5:=DR.below hbr
    obtain⟨D5_c,D5_f,D5_z⟩:=D5.all
    go_wp2_with fail
    clear D5_c D5_f D5_z
    clear cm D5
    have HST:Hid (Two w4.heap.size wr (.slice o N cp) (.slice o2 N cp2) N N (fstV (ordUp H.P i 0)) (sndV (ordUp H.P i 0))):=lh (by
     have e:ordUp H.P i 0=ordTo H.P i:=by unfold ordUp;simp
     rw[e]
     exact HOW.out)
    go_loopw [6,7,9] (fun sv tv iv wr=>∃ (p N2:Nat) (o o2:Option Addr) (cp cp2:Nat),p≤ql∧iv=.int .i64 p∧sv=.slice o N2 cp∧tv=.slice o2 N2 cp2∧Hid (N2=N+p)∧N2≤cp∧cp≤9223372036854775807∧N2≤cp2∧cp2≤9223372036854775807∧Hid (Two w4.heap.size wr (.slice o N2 cp) (.slice o2 N2 cp2) N2 N2 (fstV (ordUp H.P i p)) (sndV (ordUp H.P i p)))∧Below w4.heap.size w4 wr) (fun _ _ iv _=>ql - (intOf iv).toNat)
    case atStart=>exact⟨0,N,o,o2,cp,cp2,by omega,rfl,rfl,rfl,rfl,hc1,hc2,hc3,hc4,HST,hbr⟩
    case round =>
     clear HST HOW hbr hc1 hc2 hc3 hc4
     obtain⟨p,N2,o,o2,cp,cp2,hp,rfl,rfl,rfl,hN2,hc1,hc2,hc3,hc4,HOW,hbr⟩:=hrel
     have hN2b:N2≤300:=by have:=hN2.out;omega
     have D5:=DR.below hbr
     have cm:=(hbr.cell (p:=⟨mb,moff+i,none⟩) hmb).trans cm0
     by_cases hpt:p<ql
     · have hzr:=hbr.size
       have HPA:Hid (fstV (ordUp H.P i p)++[.int .i64 i]=fstV (ordUp H.P i (p+1))):=lh (by rw[ordUp_succ,fstV_push])
       have HPB:Hid (sndV (ordUp H.P i p)++[.int .i64 p]=sndV (ordUp H.P i (p+1))):=lh (by rw[ordUp_succ,sndV_push])
       obtain⟨D5_c,D5_f,D5_z⟩:=D5.all
       go_upto_region 12 with (at_builtin;go_must (refine wpList_append_own_at _ rfl (.tmp 47) (.tmp 49) 23 rfl w4.heap.size 3 i0 (.int .i64 0) 1 8 Tryz.underlying23 hi0 iz0 iz1 iz2 rfl (by decide) _ N2 (fstV (ordUp H.P i p)) rfl (HOW.out.a.alloc _) ⟨wr.heap.size,0,none⟩ 1 1 [.int .i64 i] rfl rfl (cells_made _ [.int .i64 i] _ _ (by first|rfl|simp only[sizes])) (by intro u hu;simp at hu;subst hu;rfl) (by unfold maxLen;omega) (by omega) (by simp only[sizes];omega) ?_;intro v7 w7 hown7 hgrow7 _ hat7;obtain⟨o7,c7',rfl,hc71,hc72⟩:=own_form' hown7))
       clear D5_c D5_f D5_z
       have HT7:=lh ((HOW.out.alloc _).growA hown7 hgrow7 hat7)
       have hbr7:Below w4.heap.size w4 w7:=below_append' (Below.alloc' hbr (nlr _) _) (HOW.out.a.alloc _) hgrow7 (nlr _)
       have hz7:=hbr7.size
       clear hown7 hgrow7 hat7 cm
       go_wp2_with (at_builtin;go_must (refine wpList_append_own_at _ rfl (.tmp 51) (.tmp 53) 23 rfl w4.heap.size 3 i0 (.int .i64 0) 1 8 Tryz.underlying23 hi0 iz0 iz1 iz2 rfl (by decide) _ N2 (sndV (ordUp H.P i p)) rfl (HT7.out.b.alloc _) ⟨w7.heap.size,0,none⟩ 1 1 [.int .i64 p] rfl rfl (cells_made _ [.int .i64 p] _ _ (by first|rfl|simp only[sizes])) (by intro u hu;simp at hu;subst hu;rfl) (by unfold maxLen;omega) (by omega) (by simp only[sizes];omega) ?_;intro v8 w8 hown8 hgrow8 _ hat8;obtain⟨o8,c8',rfl,hc81,hc82⟩:=own_form' hown8))
       have hT8:=(HT7.out.alloc _).growB hown8 hgrow8 hat8
       rw[HPA.out,HPB.out] at hT8
       have HT8:=lh hT8
       have hbr8:Below w4.heap.size w4 w8:=below_append' (Below.alloc' hbr7 (nlr _) _) (HT7.out.b.alloc _) hgrow8 (nlr _)
       clear hown8 hgrow8 hat8 hT8
       go_roundw
       case rel=>exact⟨p+1,N2+1,o7,o8,c7',c8',by omega,by go_num,rfl,rfl,lh (by rw[hN2.out];rfl),hc71,hc72,hc81,hc82,HT8,hbr8⟩
       case measure=>simp [intOf];omega
     · obtain rfl:p=ql:=by omega
       obtain⟨D5_c,D5_f,D5_z⟩:=D5.all
       go_wp2_with fail
       go_roundw
       case rel=>exact⟨i+1,N2,o,o2,cp,cp2,by omega,by go_num,rfl,rfl,lh (by rw[HNX.out,ordUp_len,←HNN.out];exact hN2.out),hc1,hc2,hc3,hc4,by rw[HNX.out];exact HOW,hbr⟩
       case measure=>simp [intOf];omega
  · obtain rfl:m=i:=by omega
    have hNL:N=L:=by rw[HNN.out,←HM.out];exact HOL.out
    subst hNL
    have HOR:Hid (Two w4.heap.size wr (.slice o N cp) (.slice o2 N cp2) N N (fstV H.ord) (sndV H.ord)):=lh (by have:=HOW.out;rw[←HM.out] at this;exact this)
    have hbwr:=hbw.trans (hbr.mono hbw.size)
    have OX:=(R1.below hbr).own
    have D2X:=D2.below hbr
    have DRX:=DR.below hbr
    have hzr:=hbr.size
    clear HOW HNN R1 D2 DR hA1 hbr hbw
    obtain⟨DRX_c,DRX_f,DRX_z⟩:=DRX.all
    go_wp2_with fail
    clear DRX_c DRX_f DRX_z
    go_loopw [10] (fun iv wr2=>∃ (j:Nat) (K:Ho),j≤cnt∧iv=.int .i64 j∧Hid (K=Ho.scanN H.ord H j)∧HostAt (w.heap.size+1+1) B wr2 K∧HasBlock wr2 (w.heap.size+1) #[.slice none 0 0,.slice none 0 0,.slice none 0 0,.slice none 0 0,.int .i64 0,.int .u64 0,.int .i64 0] 30∧Hid (Two w4.heap.size wr2 (.slice o N cp) (.slice o2 N cp2) N N (fstV H.ord) (sndV H.ord))∧Below w.heap.size w wr2∧w4.heap.size≤wr2.heap.size) (fun iv _=>cnt - (intOf iv).toNat)
    case atStart=>exact⟨0,H,by omega,rfl,rfl,HostAt.mk HN.out HR.out HM.out HQ.out HT.out HD.out HS.out DRX OX,D2X,HOR,hbwr,hzr⟩
    case round =>
     clear DRX OX D2X HOR hbwr hzr
     obtain⟨j,K,hj,rfl,HKE,hAK,D2X,HOR,hbw2,hzr⟩:=hrel
     have SC:=scanN_scanned HOK.out j
     rw[←HKE.out] at SC
     have hKo:=SC.k.ok
     have hKF:=SC.k.al.f.trans HN.out
     have hKR:=SC.k.al.r.trans HR.out
     have hKM:=SC.k.al.m.trans HM.out
     have hKQ:=SC.k.gl.trans HQ.out
     have hKT:=SC.k.t.trans HT.out
     have hKD:=SC.d.trans HD.out
     have hKn:=hKo.n
     rw[lenM_alike SC.k.al,HLL.out] at hKn
     obtain⟨c,hc⟩:∃ c:Nat,K.n=c:=⟨K.n.toNat,by omega⟩
     obtain⟨of2,or2,om2,og2,kf2',kr2',km2',kg2',us2,gs2,DK,OK⟩:=hAK
     rw[hKF,hKR,hKM,hKQ] at DK OK
     rw[hKT,hKD,hc] at DK
     have HKL:=lh (And.intro hKF (And.intro hKR (And.intro hKM (And.intro hKQ (And.intro hKT (And.intro hKD hc))))))
     clear hKF hKR hKM hKQ hKT hKD
     by_cases hjt:j<cnt
     · have hjk:j<kn∧j<N:=by have:=HCN.out;omega
       have hcN:c<N:=by omega
       obtain⟨⟨ga,gb⟩,hx⟩:=get_lt (xs:=H.ord) (k:=c) (by rw[HOL.out];exact hcN)
       have hat:H.P.at ga gb:=ord_mem.1 (mem_at hx)
       have hatK:=(SC.k.al.at ga gb).2 hat
       have hO1:=HOR.out.a
       have hO2:=HOR.out.b
       rcases hO1.2 with ⟨_,h00⟩|⟨bO,cO,cur,e0,b1,b2,b3,b4,b5⟩
       · exact absurd h00 (by omega)
       injection e0 with e0 e9 e10
       obtain rfl:=e0
       obtain rfl:=e10
       rcases hO2.2 with ⟨_,h00⟩|⟨bP,cP,cur2,e0,p1,p2,p3,p4,p5⟩
       · exact absurd h00 (by omega)
       injection e0 with e0 e11 e12
       obtain rfl:=e0
       obtain rfl:=e12
       have hx0:=World.ownsRow.cellAt hO1 c (by omega)
       have hx1:=World.ownsRow.cellAt hO2 c (by omega)
       rw[fstV_at hx] at hx0
       rw[sndV_at hx] at hx1
       dsimp only at hx0 hx1
       have hbO:=(World.ownsRow.lt hO1 bO rfl).2
       have hbP:=(World.ownsRow.lt hO2 bP rfl).2
       clear hO1 hO2 b5 b2 b4 p5 p2 p4 b1 b3 p1 p3 e9 e11 cur cur2
       have SHc:=fun v w h=>rshare_or v K.P ga gb w h hKo.p.fit
       have hnext:Ho.scanN H.ord H (j+1)=⟨K.P.sh ga gb,K.G,K.t,K.d,((c:Int)+1) % (N:Int)⟩:=by
        rw[Ho.scanN,←HKE.out]
        unfold Ho.scan1
        rw[hc,Int.toNat_natCast,hx]
        dsimp only
        rw[HOL.out]
       have hsf:=(Pl.sh_law hKo.p hatK).2
       obtain⟨Q,hQ⟩:∃ Q,K.P.sh ga gb=Q:=⟨_,rfl⟩
       obtain⟨t,ht⟩:∃ t,K.P.sok ga gb=t:=⟨_,rfl⟩
       rw[hQ,ht] at SHc hsf
       rw[hQ] at hnext
       have HSH:=lh SHc
       have HNXT:=lh hnext
       have HSF:=lh hsf
       clear hx hat hatK hc hKo SC hQ ht SHc hnext hsf HCN hKn
       have c0':(0:Int)≤(c:Int):=by omega
       have cN:(c:Int)<(N:Int):=by omega
       have t3:decide ((j:Int)<(kn:Int))=true:=decide_eq_true (by omega)
       have t4:decide ((j:Int)<(N:Int))=true:=decide_eq_true (by omega)
       have t5:decide (j<N)=true:=decide_eq_true (by omega)
       have t6:decide (j<kn)=true:=decide_eq_true (by omega)
       obtain⟨DK_c,DK_f,DK_z⟩:=DK.all
       go_upto_region 17 with (fail)
       have hBr:B<wr.heap.size:=by omega
       have hruleB:∀ w':World,Below wr.heap.size wr w'→∀ o,w'.cell? ⟨B,o,none⟩=wr.cell? ⟨B,o,none⟩:=fun w' h o=>h.cell (p:=⟨B,o,none⟩) hBr
       have hruleO:∀ w':World,Below wr.heap.size wr w'→∀ o,w'.cell? ⟨bO,o,none⟩=wr.cell? ⟨bO,o,none⟩:=fun w' h o=>h.cell (p:=⟨bO,o,none⟩) hbO
       have hruleP:∀ w':World,Below wr.heap.size wr w'→∀ o,w'.cell? ⟨bP,o,none⟩=wr.cell? ⟨bP,o,none⟩:=fun w' h o=>h.cell (p:=⟨bP,o,none⟩) hbP
       have hBX:B<w4.heap.size:=hBT
       go_cut [] from 68 to 82 (fun wx=>HostAt (w.heap.size+1+1) B wx ⟨Q,K.G,K.t,K.d,(c:Int)⟩∧HasBlock wx (w.heap.size+1) #[.slice none 0 0,.slice none 0 0,.slice none 0 0,.slice none 0 0,.int .i64 0,.int .u64 0,.int .i64 0] 30∧Hid (Two w4.heap.size wx (.slice (some ⟨bO,0,none⟩) N cp) (.slice (some ⟨bP,0,none⟩) N cp2) N N (fstV H.ord) (sndV H.ord))∧Below w.heap.size w wx∧w4.heap.size≤wx.heap.size)
       case first =>
        cases t
        · have hQP:Q=K.P:=HSF.out rfl
          subst hQP
          go_region_with (first
           |
            (go_at_call 71
             with_reducible refine (HSH.out _ _ (OK.row.p.below bel3)).mono ?_
             rintro e w5 hro
             rcases hro with ⟨_,rfl,hb5⟩|⟨h,_⟩
             rotate_left
             · cases h
             obtain⟨hc5,hf5⟩:=bcell hb5
             have hzz5:=bsize hb5
             (try simp only[sizes1] at hzz5)
             (try simp only[sizes] at hc5 hf5)))
          all_goals
           have hb5':Below wr.heap.size wr w5:=by (repeat' (first|(with_reducible first|assumption|exact Below.refl _ _|refine Below.drew ?_|refine Below.alloc' ?_ (nlr _) _|refine Below.setCell ?_ ?_ _)|refine Below.trans ?_ (Below.mono (by with_reducible assumption) ?_)|exact rfl|exact nlr _|omega|(simp only[sizes];done)|(simp only[sizes];omega)))
           have D5:=DK.below hb5'
           have D25:=D2X.below hb5'
           have HO5:=lh (HOR.out.below hb5')
           have hz5:=Nat.le_trans hzr hb5'.size
           have hbw5:=hbw2.trans (hb5'.mono hbw2.size)
           have nB:w.heap.size+1≠B:=by omega
           have Ox:=OK.below hb5'
           have Ob:=((Ox.setbox (j:=0) D5 hostT (.slice of2 n kf2')).setbox (j:=1) (D5.put7_0 (.slice of2 n kf2')) hostT (.slice or2 r kr2')).setbox (j:=2) ((D5.put7_0 (.slice of2 n kf2')).put7_1 (.slice or2 r kr2')) hostT (.slice om2 m km2')
           go_wp2_with fail
           go_meet
           exact⟨HostAt.mk HKL.out.1 HKL.out.2.1 HKL.out.2.2.1 HKL.out.2.2.2.1 HKL.out.2.2.2.2.1 HKL.out.2.2.2.2.2.1 rfl (D5.poolIn (.slice of2 n kf2') (.slice or2 r kr2') (.slice om2 m km2')) (Ob.head rfl rfl),((D25.set_ne nB (j:=0) (.slice of2 n kf2')).set_ne nB (j:=1) (.slice or2 r kr2')).set_ne nB (j:=2) (.slice om2 m km2'),lh (((HO5.out.setlow hBX (.slice of2 n kf2')).setlow hBX (.slice or2 r kr2')).setlow hBX (.slice om2 m km2')),((hbw5.setCell (p:=⟨B,0,none⟩) (by dsimp only;omega) (.slice of2 n kf2')).setCell (p:=⟨B,1,none⟩) (by dsimp only;omega) (.slice or2 r kr2')).setCell (p:=⟨B,2,none⟩) (by dsimp only;omega) (.slice om2 m km2'),by simp only[sizes];omega⟩
        · go_region_with (first
           |
            (go_at_call 71
             with_reducible refine (HSH.out _ _ (OK.row.p.below bel3)).mono ?_
             rintro e w5 hro
             rcases hro with ⟨h,_⟩|⟨_,of5,or5,om5,kf5,kr5,km5,us5,rfl,O5,hb5⟩
             · cases h
             obtain⟨hc5,hf5⟩:=bcell hb5
             have hzz5:=bsize hb5
             (try simp only[sizes1] at hzz5)
             (try simp only[sizes] at hc5 hf5)))
          all_goals
           have hb5':Below wr.heap.size wr w5:=by (repeat' (first|(with_reducible first|assumption|exact Below.refl _ _|refine Below.drew ?_|refine Below.alloc' ?_ (nlr _) _|refine Below.setCell ?_ ?_ _)|refine Below.trans ?_ (Below.mono (by with_reducible assumption) ?_)|exact rfl|exact nlr _|omega|(simp only[sizes];done)|(simp only[sizes];omega)))
           have D5:=DK.below hb5'
           have D25:=D2X.below hb5'
           have HO5:=lh (HOR.out.below hb5')
           have hz5:=Nat.le_trans hzr hb5'.size
           have hbw5:=hbw2.trans (hb5'.mono hbw2.size)
           have nB:w.heap.size+1≠B:=by omega
           obtain⟨n5,hgn⟩:∃ n,(Pl.F Q).length=n:=⟨_,rfl⟩
           obtain⟨r5,hgr⟩:∃ n,(Pl.R Q).length=n:=⟨_,rfl⟩
           obtain⟨m5,hgm⟩:∃ n,(Pl.M Q).length=n:=⟨_,rfl⟩
           rw[hgn,hgr,hgm] at O5 ⊢
           have HG5:=lh (And.intro hgn (And.intro hgr hgm))
           clear hgn hgr hgm
           have O5G:=O5.ge
           have Ox:=(OK.below hb5').newPool (O5.lower (by first|omega|(simp only[sizes];omega))) OK.ltG (by exact O5G)
           have Ob:=((Ox.setbox (j:=0) D5 hostT (.slice of5 n5 kf5)).setbox (j:=1) (D5.put7_0 (.slice of5 n5 kf5)) hostT (.slice or5 r5 kr5)).setbox (j:=2) ((D5.put7_0 (.slice of5 n5 kf5)).put7_1 (.slice or5 r5 kr5)) hostT (.slice om5 m5 km5)
           go_wp2_with fail
           go_meet
           exact⟨HostAt.mk HG5.out.1 HG5.out.2.1 HG5.out.2.2 HKL.out.2.2.2.1 HKL.out.2.2.2.2.1 HKL.out.2.2.2.2.2.1 rfl (D5.poolIn (.slice of5 n5 kf5) (.slice or5 r5 kr5) (.slice om5 m5 km5)) (Ob.head rfl rfl),((D25.set_ne nB (j:=0) (.slice of5 n5 kf5)).set_ne nB (j:=1) (.slice or5 r5 kr5)).set_ne nB (j:=2) (.slice om5 m5 km5),lh (((HO5.out.setlow hBX (.slice of5 n5 kf5)).setlow hBX (.slice or5 r5 kr5)).setlow hBX (.slice om5 m5 km5)),((hbw5.setCell (p:=⟨B,0,none⟩) (by dsimp only;omega) (.slice of5 n5 kf5)).setCell (p:=⟨B,1,none⟩) (by dsimp only;omega) (.slice or5 r5 kr5)).setCell (p:=⟨B,2,none⟩) (by dsimp only;omega) (.slice om5 m5 km5),by simp only[sizes];omega⟩
       case rest =>
        obtain⟨hAL,D26,HO6,hbw6,hz6⟩:=hcut
        clear DK_c DK_f DK_z hx0 hx1 hruleB hruleO hruleP hBr hbO hbP OK DK D2X HOR hbw2 hzr HSH HSF
        obtain⟨of6,or6,om6,og6,kf6,kr6,km6,kg6,us6,gs6,D6,O6⟩:=hAL
        have hq6:=HKL.out.2.2.2.1
        have ht6:=HKL.out.2.2.2.2.1
        have hd6:=HKL.out.2.2.2.2.2.1
        dsimp only at D6 O6
        rw[hq6] at D6 O6
        rw[ht6,hd6] at D6
        obtain⟨n6,hn6⟩:∃ x,Q.F.length=x:=⟨_,rfl⟩
        obtain⟨r6,hr6⟩:∃ x,Q.R.length=x:=⟨_,rfl⟩
        obtain⟨m6,hm6⟩:∃ x,Q.M.length=x:=⟨_,rfl⟩
        rw[hn6,hr6,hm6] at D6 O6
        have HQ6:=lh (And.intro hn6 (And.intro hr6 hm6))
        clear hq6 ht6 hd6 hn6 hr6 hm6
        have nB:w.heap.size+1≠B:=by omega
        obtain⟨D6_c,D6_f,D6_z⟩:=D6.all
        go_wp2_with fail
        obtain⟨V,hV⟩:∃ V,((c:Int)+1) % (N:Int)=V:=⟨_,rfl⟩
        rw[hV] at HNXT ⊢
        clear hV D6_c D6_f D6_z
        go_roundw
        case rel=>exact⟨j+1,⟨Q,K.G,K.t,K.d,V⟩,by omega,by go_num,lh HNXT.out.symm,HostAt.mk HQ6.out.1 HQ6.out.2.1 HQ6.out.2.2 HKL.out.2.2.2.1 HKL.out.2.2.2.2.1 HKL.out.2.2.2.2.2.1 rfl (D6.put7_6 (.int .i64 V)) ((O6.setbox (j:=6) D6 hostT (.int .i64 V)).head rfl rfl),D26.set_ne nB (j:=6) (.int .i64 V),lh (HO6.out.setlow hBX (.int .i64 V)),hbw6.setCell (p:=⟨B,6,none⟩) (by dsimp only;omega) (.int .i64 V),by simp only[sizes];omega⟩
        case measure=>simp [intOf];omega
     · have hjn:j=cnt:=by omega
       rw[hjn] at HKE
       have hcc:=HCN.out
       clear hjn hc hKo SC HCN hKn
       have D2Y:=D2X
       obtain⟨DK_c,DK_f,DK_z⟩:=DK.all
       obtain⟨D2X_c,D2X_f,D2X_z⟩:=D2X.all
       have nB:w.heap.size+1≠B:=by omega
       by_cases hk1:j<kn
       · have t3:decide ((j:Int)<(kn:Int))=true:=decide_eq_true (by omega)
         have t4:decide ((j:Int)<(N:Int))=false:=decide_eq_false (by omega)
         have t5:decide (j<N)=false:=decide_eq_false (by omega)
         clear hcc
         go_wp2_with fail
         refine bodyPost_ret (v:=.agg #[.slice of2 n kf2',.slice or2 r kr2',.slice om2 m km2',.slice og2 q kg2',.int .i64 tx,.int .u64 dx,.int .i64 c]) (by simp [results,Tryz.results37,go_sem,D2X_c]) rfl ?_
         rw[←HKE.out]
         exact hoRet' (k:=fun v=>v) (H:=K) HKL.out.1 HKL.out.2.1 HKL.out.2.2.1 HKL.out.2.2.2.1 HKL.out.2.2.2.2.1 HKL.out.2.2.2.2.2.1 HKL.out.2.2.2.2.2.2 (OK.fill7 (by omega) _ _ _ _ _ _ _) (Below.fill7 hbw2 (by omega) _ _ _ _ _ _ _)
       · have t3:decide ((j:Int)<(kn:Int))=false:=decide_eq_false (by omega)
         clear hcc
         go_wp2_with fail
         refine bodyPost_ret (v:=.agg #[.slice of2 n kf2',.slice or2 r kr2',.slice om2 m km2',.slice og2 q kg2',.int .i64 tx,.int .u64 dx,.int .i64 c]) (by simp [results,Tryz.results37,go_sem,D2X_c]) rfl ?_
         rw[←HKE.out]
         exact hoRet' (k:=fun v=>v) (H:=K) HKL.out.1 HKL.out.2.1 HKL.out.2.2.1 HKL.out.2.2.2.1 HKL.out.2.2.2.2.1 HKL.out.2.2.2.2.2.1 HKL.out.2.2.2.2.2.2 (OK.fill7 (by omega) _ _ _ _ _ _ _) (Below.fill7 hbw2 (by omega) _ _ _ _ _ _ _)
def padB (d:List Bool):List Bool:=d++List.replicate (32 - d.length) false
theorem padB_set {d:List Bool} {i:Nat} (h:i<d.length) (x:Bool):(padB d).set i x=padB (d.set i x):=by
 unfold padB
 rw[List.length_set,List.set_append_left _ _ h]
theorem padB_hit {d:List Bool} {i:Nat} (h:i<d.length):hitD (padB d) i=hitD d i:=by
 unfold hitD padB
 rw[List.getElem?_append_left h]
theorem padB_len {d:List Bool} (h:d.length≤32):(padB d).length=32:=by
 unfold padB
 rw[List.length_append,List.length_replicate];omega
theorem padB_none {n:Nat} (h:n≤32):padB (List.replicate n false)=List.replicate 32 false:=by
 unfold padB
 rw[List.length_replicate,List.replicate_append_replicate]
 congr 1;omega
theorem rsample_out (seed pages n:Int) (w:World) (h:pages<1∨32<pages∨n<1):Calls Tryz.prog 64 #[.int .u64 seed,.int .i64 pages,.int .i64 n] w (RetSam w [] seed):=by
 by_cases h1:pages<1
 · go_enter Tryz.func64,Tryz.ntmps64
   go_wp2_with fail
   go_ret2
   exact⟨_,rfl,IntRow.nil _,bel⟩
 · by_cases h2:32<pages
   · go_enter Tryz.func64,Tryz.ntmps64
     go_wp2_with fail
     go_ret2
     exact⟨_,rfl,IntRow.nil _,bel⟩
   · have h3:n<1:=by omega
     go_enter Tryz.func64,Tryz.ntmps64
     go_wp2_with fail
     go_ret2
     exact⟨_,rfl,IntRow.nil _,bel⟩
def lenOf:Value→Nat
 | .slice _ n _=>n
 | _=>0
set_option maxRecDepth 100000 in
set_option maxHeartbeats 4000000 in
theorem rsample_few (seed:Int) (pages m:Nat) (w:World) (hs:0≤seed∧seed<18446744073709551616) (hp:1≤pages) (hp':pages≤32) (hn:1≤m) (hm:m≤pages) :
    Calls Tryz.prog 64 #[.int .u64 seed,.int .i64 pages,.int .i64 m] w (RetSam w (samF pages seed m).out (samF pages seed m).seed):=by
 have hok:=fun k=>samOk pages seed hs k
 have HOK:=lh hok;clear hok hs
 obtain⟨i0,hi,iz0,iz1,iz2⟩:=info_parts info_int
 go_enter Tryz.func64,Tryz.ntmps64
 go_wp2_with fail
 go_loopw [0,8] (fun sd v wr=>∃ (k:Nat) (q:Sam),k≤m∧Hid (q=samF pages seed k)∧sd=.int .u64 q.seed∧HasBlock wr w.heap.size (boolArr (padB q.d)) 110∧wr.ownsRow (w.heap.size+1) 3 1 v k (q.out.map (Value.int .i64))∧Below w.heap.size w wr) (fun _ v _=>m - lenOf v)
 case atStart=>exact⟨0,_,Nat.zero_le _,rfl,rfl,(by have:=HasBlock.made w (boolArr (List.replicate 32 false)) 110;show HasBlock _ _ (boolArr (padB (List.replicate pages false))) _;rw[padB_none (by omega)];exact this),World.ownsRow_nil _ _ _ _,bel⟩
 case round =>
  obtain⟨k,q,hk,HQ,rfl,hblk,hown,hbw⟩:=hrel
  have hbs0:=hbw.size
  have hlt0:=hblk.lt
  obtain⟨vo,vc,rfl,o1,o2,o3⟩:=RowAt.of_owns hown
  unfold maxLen at o2
  clear o3
  by_cases hlt:k<m
  · have hokk:=HOK.out k (by omega)
    rw[←HQ.out] at hokk
    have HKK:=lh hokk;clear hokk
    have HO:=lh hown;clear hown
    have HBL:=lh hblk;clear hblk
    have hkp:k<pages:=by omega
    go_wp2_with fail
    refine (vmfleetref1_Next_any q.seed _ HKK.out.seed).mono ?_
    rintro e w1 ⟨rfl,hb1⟩
    obtain⟨hc1,hf1⟩:=bcell hb1
    have hz1:=bsize hb1
    try simp only[sizes1] at hz1
    try simp only[sizes] at hc1 hf1
    have hvb:=nextV_bd q.seed
    obtain⟨x,hx⟩:∃ x,nextV q.seed=x:=⟨_,rfl⟩
    rw[hx] at hvb ⊢
    have HX:=lh hx;clear hx
    have hm1:=Int.emod_lt_of_pos x (show (0:Int)<pages by omega)
    have hm2:=Int.emod_nonneg x (show (pages:Int)≠0 by omega)
    have hpz:((pages:Int) == 0)=false:=by rw[beq_eq_false_iff_ne];omega
    go_wp2_with fail
    obtain⟨y,hy⟩:∃ y:Nat,x % pages=y:=⟨(x % pages).toNat,by omega⟩
    rw[hy] at hm1 hm2 ⊢
    have hy2:y<pages:=by omega
    have HY:=lh hy;clear hy hvb
    have hB1:=HBL.out.below hb1
    have hfree:=free_of HKK.out.len (by rw[HKK.out.cnt];omega)
    have HFR:=lh hfree;clear hfree
    have hsz1:w.heap.size<w1.heap.size:=by omega
    clear hc1 hf1
    go_loop [12] (fun i=>∃ j:Nat,j<pages∧i=.int .i64 j∧Hid (probe q.d pages j=probe q.d pages y)) (fun i=>gap q.d pages (intOf i).toNat)
    case atStart=>exact⟨y,hy2,rfl,rfl⟩
    case round =>
     obtain⟨j,hj,rfl,HJ⟩:=hrel
     have hj32:j<32:=by omega
     have hcj:w1.cell? ⟨w.heap.size,j,none⟩=some (.bool (hitD q.d j)):=(hB1.cell j).trans ((boolArr_at (by rw[padB_len (by rw[HKK.out.len];omega)];exact hj32)).trans (by rw[padB_hit (by rw[HKK.out.len];exact hj)]))
     cases hh:hitD q.d j
     · rw[hh] at hcj
       have HH:=lh hh;clear hh
       have hfz:=hB1.free
       go_wp2_with (at_builtin;go_must (refine wpList_append_own _ rfl (.tmp 54) (.tmp 56) 23 rfl (w.heap.size+1) 3 i0 (.int .i64 0) 1 8 Tryz.underlying23 hi iz0 iz1 iz2 rfl (by decide) _ k (q.out.map (Value.int .i64)) rfl ((ownsRow_setCell_below (owns_below HO.out hb1) (a:=⟨w.heap.size,j,none⟩) (Nat.lt_succ_self _) (.bool true)).alloc _) ⟨w1.heap.size,0,none⟩ 1 1 [Value.int .i64 j] rfl rfl (cells_made _ [Value.int .i64 j] _ _ (by first|rfl|simp only[sizes])) (one_int _) (by unfold maxLen;omega) (by omega) (by first|exact nlr _|omega|(simp only[sizes];done)|(simp only[sizes];omega)) ?_;intro v2 w2 hown2 hgrow2 _;have hb2:Below w.heap.size w w2:=below_append' bel ((ownsRow_setCell_below (owns_below HO.out hb1) (a:=⟨w.heap.size,j,none⟩) (Nat.lt_succ_self _) (.bool true)).alloc _) hgrow2 (by omega);have hz2:=hb2.size))
       go_wp2_with fail
       have hpz:=probe_zero (pages:=pages) hj HH.out
       have hq2:samStep pages q=⟨nextS q.seed,q.d.set j true,q.out++[(j:Int)]⟩:=by
        unfold samStep
        rw[HX.out,HY.out,Int.toNat_natCast,←HJ.out,hpz]
       have HQ2:=lh hq2;clear hq2 hpz
       have HOWN2:=lh hown2
       go_roundw
       case rel =>
        refine ⟨k+1,⟨nextS q.seed,q.d.set j true,q.out++[(j:Int)]⟩,by omega,?_,rfl,?_,?_,hb2⟩
        · exact HQ2.out.symm.trans (congrArg (samStep pages) HQ.out)
        · show HasBlock _ _ (boolArr (padB (q.d.set j true))) _
          rw[←padB_set (by rw[HKK.out.len];exact hj),←boolArr_set]
          exact HasBlock.append ((hB1.set_at j (.bool true)).alloc _) ((ownsRow_setCell_below (owns_below HO.out hb1) (a:=⟨w.heap.size,j,none⟩) (Nat.lt_succ_self _) (.bool true)).alloc _) hgrow2 (Nat.lt_succ_self _)
        · show World.ownsRow _ _ _ _ _ _ ((q.out++[(j:Int)]).map (Value.int .i64))
          rw[map_snoc]
          exact hown2
       case measure =>
        obtain⟨ao2,ca2,e2,_⟩:=RowAt.of_owns HOWN2.out
        rw[e2]
        simp [lenOf];omega
     · rw[hh] at hcj
       have HH:=lh hh;clear hh
       go_wp2_with fail
       have hx:=HFR.out
       have hst:=probe_step (pages:=pages) hj HH.out hx
       have hgs:=gap_step (pages:=pages) hj HH.out hx
       go_round
       case rel=>exact⟨(j+1) % pages,Nat.mod_lt _ (by omega),by rw[emod_succ],by unfold Hid;rw[hst];exact HJ.out⟩
       case measure =>
        rw[emod_succ]
        simp only[intOf,Int.toNat_natCast]
        omega
  · obtain rfl:k=m:=by omega
    have HO:=lh hown;clear hown hblk
    go_wp2_with fail
    go_ret2
    have:=intRow_of HO.out
    rw[←HQ.out]
    exact⟨_,rfl,this.2,bel⟩
set_option maxRecDepth 100000 in
set_option maxHeartbeats 4000000 in
theorem rsample_many (seed n:Int) (pages:Nat) (w:World) (hs:0≤seed∧seed<18446744073709551616) (hp:1≤pages) (hp':pages≤32) (hn:pages<n) :
    Calls Tryz.prog 64 #[.int .u64 seed,.int .i64 pages,.int .i64 n] w (RetSam w (samF pages seed pages).out (samF pages seed pages).seed):=by
 have hok:=fun k=>samOk pages seed hs k
 have HOK:=lh hok;clear hok hs
 obtain⟨i0,hi,iz0,iz1,iz2⟩:=info_parts info_int
 go_enter Tryz.func64,Tryz.ntmps64
 go_wp2_with fail
 go_loopw [0,8] (fun sd v wr=>∃ (k:Nat) (q:Sam),k≤pages∧Hid (q=samF pages seed k)∧sd=.int .u64 q.seed∧HasBlock wr w.heap.size (boolArr (padB q.d)) 110∧wr.ownsRow (w.heap.size+1) 3 1 v k (q.out.map (Value.int .i64))∧Below w.heap.size w wr) (fun _ v _=>pages - lenOf v)
 case atStart=>exact⟨0,_,Nat.zero_le _,rfl,rfl,(by have:=HasBlock.made w (boolArr (List.replicate 32 false)) 110;show HasBlock _ _ (boolArr (padB (List.replicate pages false))) _;rw[padB_none (by omega)];exact this),World.ownsRow_nil _ _ _ _,bel⟩
 case round =>
  obtain⟨k,q,hk,HQ,rfl,hblk,hown,hbw⟩:=hrel
  have hbs0:=hbw.size
  have hlt0:=hblk.lt
  obtain⟨vo,vc,rfl,o1,o2,o3⟩:=RowAt.of_owns hown
  unfold maxLen at o2
  clear o3
  by_cases hlt:k<pages
  · have hokk:=HOK.out k (by omega)
    rw[←HQ.out] at hokk
    have HKK:=lh hokk;clear hokk
    have HO:=lh hown;clear hown
    have HBL:=lh hblk;clear hblk
    have hkp:k<pages:=by omega
    go_wp2_with fail
    refine (vmfleetref1_Next_any q.seed _ HKK.out.seed).mono ?_
    rintro e w1 ⟨rfl,hb1⟩
    obtain⟨hc1,hf1⟩:=bcell hb1
    have hz1:=bsize hb1
    try simp only[sizes1] at hz1
    try simp only[sizes] at hc1 hf1
    have hvb:=nextV_bd q.seed
    obtain⟨x,hx⟩:∃ x,nextV q.seed=x:=⟨_,rfl⟩
    rw[hx] at hvb ⊢
    have HX:=lh hx;clear hx
    have hm1:=Int.emod_lt_of_pos x (show (0:Int)<pages by omega)
    have hm2:=Int.emod_nonneg x (show (pages:Int)≠0 by omega)
    have hpz:((pages:Int) == 0)=false:=by rw[beq_eq_false_iff_ne];omega
    go_wp2_with fail
    obtain⟨y,hy⟩:∃ y:Nat,x % pages=y:=⟨(x % pages).toNat,by omega⟩
    rw[hy] at hm1 hm2 ⊢
    have hy2:y<pages:=by omega
    have HY:=lh hy;clear hy hvb
    have hB1:=HBL.out.below hb1
    have hfree:=free_of HKK.out.len (by rw[HKK.out.cnt];omega)
    have HFR:=lh hfree;clear hfree
    have hsz1:w.heap.size<w1.heap.size:=by omega
    clear hc1 hf1
    go_loop [12] (fun i=>∃ j:Nat,j<pages∧i=.int .i64 j∧Hid (probe q.d pages j=probe q.d pages y)) (fun i=>gap q.d pages (intOf i).toNat)
    case atStart=>exact⟨y,hy2,rfl,rfl⟩
    case round =>
     obtain⟨j,hj,rfl,HJ⟩:=hrel
     have hj32:j<32:=by omega
     have hcj:w1.cell? ⟨w.heap.size,j,none⟩=some (.bool (hitD q.d j)):=(hB1.cell j).trans ((boolArr_at (by rw[padB_len (by rw[HKK.out.len];omega)];exact hj32)).trans (by rw[padB_hit (by rw[HKK.out.len];exact hj)]))
     cases hh:hitD q.d j
     · rw[hh] at hcj
       have HH:=lh hh;clear hh
       have hfz:=hB1.free
       go_wp2_with (at_builtin;go_must (refine wpList_append_own _ rfl (.tmp 54) (.tmp 56) 23 rfl (w.heap.size+1) 3 i0 (.int .i64 0) 1 8 Tryz.underlying23 hi iz0 iz1 iz2 rfl (by decide) _ k (q.out.map (Value.int .i64)) rfl ((ownsRow_setCell_below (owns_below HO.out hb1) (a:=⟨w.heap.size,j,none⟩) (Nat.lt_succ_self _) (.bool true)).alloc _) ⟨w1.heap.size,0,none⟩ 1 1 [Value.int .i64 j] rfl rfl (cells_made _ [Value.int .i64 j] _ _ (by first|rfl|simp only[sizes])) (one_int _) (by unfold maxLen;omega) (by omega) (by first|exact nlr _|omega|(simp only[sizes];done)|(simp only[sizes];omega)) ?_;intro v2 w2 hown2 hgrow2 _;have hb2:Below w.heap.size w w2:=below_append' bel ((ownsRow_setCell_below (owns_below HO.out hb1) (a:=⟨w.heap.size,j,none⟩) (Nat.lt_succ_self _) (.bool true)).alloc _) hgrow2 (by omega);have hz2:=hb2.size))
       go_wp2_with fail
       have hpz:=probe_zero (pages:=pages) hj HH.out
       have hq2:samStep pages q=⟨nextS q.seed,q.d.set j true,q.out++[(j:Int)]⟩:=by
        unfold samStep
        rw[HX.out,HY.out,Int.toNat_natCast,←HJ.out,hpz]
       have HQ2:=lh hq2;clear hq2 hpz
       have HOWN2:=lh hown2
       go_roundw
       case rel =>
        refine ⟨k+1,⟨nextS q.seed,q.d.set j true,q.out++[(j:Int)]⟩,by omega,?_,rfl,?_,?_,hb2⟩
        · exact HQ2.out.symm.trans (congrArg (samStep pages) HQ.out)
        · show HasBlock _ _ (boolArr (padB (q.d.set j true))) _
          rw[←padB_set (by rw[HKK.out.len];exact hj),←boolArr_set]
          exact HasBlock.append ((hB1.set_at j (.bool true)).alloc _) ((ownsRow_setCell_below (owns_below HO.out hb1) (a:=⟨w.heap.size,j,none⟩) (Nat.lt_succ_self _) (.bool true)).alloc _) hgrow2 (Nat.lt_succ_self _)
        · show World.ownsRow _ _ _ _ _ _ ((q.out++[(j:Int)]).map (Value.int .i64))
          rw[map_snoc]
          exact hown2
       case measure =>
        obtain⟨ao2,ca2,e2,_⟩:=RowAt.of_owns HOWN2.out
        rw[e2]
        simp [lenOf];omega
     · rw[hh] at hcj
       have HH:=lh hh;clear hh
       go_wp2_with fail
       have hx:=HFR.out
       have hst:=probe_step (pages:=pages) hj HH.out hx
       have hgs:=gap_step (pages:=pages) hj HH.out hx
       go_round
       case rel=>exact⟨(j+1) % pages,Nat.mod_lt _ (by omega),by rw[emod_succ],by unfold Hid;rw[hst];exact HJ.out⟩
       case measure =>
        rw[emod_succ]
        simp only[intOf,Int.toNat_natCast]
        omega
  · obtain rfl:k=pages:=by omega
    have HO:=lh hown;clear hown hblk
    go_wp2_with fail
    go_ret2
    have:=intRow_of HO.out
    rw[←HQ.out]
    exact⟨_,rfl,this.2,bel⟩
theorem vmfleetref35_Sample_any (seed pages n:Int) (w:World) (hs:0≤seed∧seed<18446744073709551616) :
    Calls Tryz.prog 64 #[.int .u64 seed,.int .i64 pages,.int .i64 n] w (RetSam w (sampleL seed pages n) (sampleS seed pages n)):=by
 unfold sampleL sampleS
 by_cases h:pages<1∨32<pages∨n<1
 · have hb:badSam pages n=true:=decide_eq_true h
   rw[if_pos hb,if_pos hb]
   exact rsample_out seed pages n w h
 · rw[if_neg (by rw[badSam,decide_eq_false h];simp),if_neg (by rw[badSam,decide_eq_false h];simp)]
   obtain⟨p,rfl⟩:∃ p:Nat,pages=p:=⟨pages.toNat,by omega⟩
   rw[Int.toNat_natCast]
   by_cases hm:n≤p
   · obtain⟨m,rfl⟩:∃ m:Nat,n=m:=⟨n.toNat,by omega⟩
     rw[Int.min_eq_left hm,Int.toNat_natCast]
     exact rsample_few seed p m w hs (by omega) (by omega) (by omega) (by omega)
   · rw[Int.min_eq_right (by omega),Int.toNat_natCast]
     exact rsample_many seed n p w hs (by omega) (by omega) (by omega)
end Go.Proofs.YtbnngjhnkegliaaGreat
