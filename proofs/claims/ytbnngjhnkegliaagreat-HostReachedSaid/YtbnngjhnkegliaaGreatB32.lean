/-
  Texts joined: HrNum HrPair2 PlSame HrSame. No law is proved here.
-/
import Derived.Test.YtbnngjhnkegliaaGreatB31
namespace Go.Proofs.YtbnngjhnkegliaaGreat
open Go.RowKit
set_option maxHeartbeats 2000000 in
theorem rres_no (v:Value) (H:Ho) (i:Int) (w:World) (ha:HoAt w v H) (hf:H.Fit) (hsm:H.Small) (hb:¬H.hasG i):Calls Tryz.prog 34 #[v,.int .i64 i] w (Ret w (.int .i64 0)):=by
 by_cases hok:H.Ok
 · have VLc:=fun v w h=>rhvalid_any v H true w h hf hsm (Iff.intro (fun _=>hok) (fun _=>rfl))
   have HVL:=lh VLc
   clear VLc
   by_cases h1:i<0
   · have t1:decide (i<0)=true:=decide_eq_true h1
     clear hb hok hf hsm
     obtain⟨of,or',om,og,kf,kr,km,kg,n,r,m,q,tx,dx,sx,HN,HR,HM,HQ,HT,HD,HS,rfl,kf1,kf2,kr1,kr2,km1,km2,kg1,kg2,h⟩:=HoAt.opened ha
     have h0:=h
     have HA:Hid (∀ w':World,Below w.heap.size w w'→HoAt w' (.agg #[.slice of n kf,.slice or' r kr,.slice om m km,.slice og q kg,.int .i64 tx,.int .u64 dx,.int .i64 sx]) H):=lh (fun w' hb=>by
      have:=(h0.below hb).at_
      rwa[HT.out,HD.out,HS.out] at this)
     clear h0
     skip
     have D1:=HasBlock.made w #[.slice of n kf,.slice or' r kr,.slice om m km,.slice og q kg,.int .i64 tx,.int .u64 dx,.int .i64 sx] 30
     have hbw:Below w.heap.size w (w.alloc (.cells #[.slice of n kf,.slice or' r kr,.slice om m km,.slice og q kg,.int .i64 tx,.int .u64 dx,.int .i64 sx] 30)):=(Below.refl _ _).alloc (nlr _) _
     replace h:=h.below hbw
     go_enter Tryz.func34,Tryz.ntmps34
     obtain⟨D1_c,D1_f,D1_z⟩:=D1.all
     go_wp2_with fail
     clear D1_c D1_f D1_z
     with_reducible refine (HVL.out _ _ (HA.out _ hbw)).mono ?_
     rintro e w1 ⟨rfl,hbk⟩
     replace D1:=D1.below hbk
     replace h:=h.below hbk
     replace hbw:=hbw.trans (hbk.mono hbw.size)
     clear hbk
     obtain⟨D1_c,D1_f,D1_z⟩:=D1.all
     go_wp2_with fail
     go_ret
     exact Ret.mk hbw
   · have t1:decide (i<0)=false:=decide_eq_false h1
     have h2:i ≥ (H.G.length:Int):=by
      refine Classical.byContradiction fun hc=>?_
      exact hb ⟨hok,by omega,by omega⟩
     clear hb hok hf hsm
     obtain⟨of,or',om,og,kf,kr,km,kg,n,r,m,q,tx,dx,sx,HN,HR,HM,HQ,HT,HD,HS,rfl,kf1,kf2,kr1,kr2,km1,km2,kg1,kg2,h⟩:=HoAt.opened ha
     have h0:=h
     have HA:Hid (∀ w':World,Below w.heap.size w w'→HoAt w' (.agg #[.slice of n kf,.slice or' r kr,.slice om m km,.slice og q kg,.int .i64 tx,.int .u64 dx,.int .i64 sx]) H):=lh (fun w' hb=>by
      have:=(h0.below hb).at_
      rwa[HT.out,HD.out,HS.out] at this)
     clear h0
     have t2:decide (i ≥ (q:Int))=true:=decide_eq_true (by rw[←HQ.out];exact h2)
     have D1:=HasBlock.made w #[.slice of n kf,.slice or' r kr,.slice om m km,.slice og q kg,.int .i64 tx,.int .u64 dx,.int .i64 sx] 30
     have hbw:Below w.heap.size w (w.alloc (.cells #[.slice of n kf,.slice or' r kr,.slice om m km,.slice og q kg,.int .i64 tx,.int .u64 dx,.int .i64 sx] 30)):=(Below.refl _ _).alloc (nlr _) _
     replace h:=h.below hbw
     go_enter Tryz.func34,Tryz.ntmps34
     obtain⟨D1_c,D1_f,D1_z⟩:=D1.all
     go_wp2_with fail
     clear D1_c D1_f D1_z
     with_reducible refine (HVL.out _ _ (HA.out _ hbw)).mono ?_
     rintro e w1 ⟨rfl,hbk⟩
     replace D1:=D1.below hbk
     replace h:=h.below hbk
     replace hbw:=hbw.trans (hbk.mono hbw.size)
     clear hbk
     obtain⟨D1_c,D1_f,D1_z⟩:=D1.all
     go_wp2_with fail
     go_ret
     exact Ret.mk hbw
 · have VLc:=fun v w h=>rhvalid_any v H false w h hf hsm (Iff.intro (fun e=>by cases e) (fun e=>absurd e hok))
   have HVL:=lh VLc
   clear VLc
   clear hb hok hf hsm
   obtain⟨of,or',om,og,kf,kr,km,kg,n,r,m,q,tx,dx,sx,HN,HR,HM,HQ,HT,HD,HS,rfl,kf1,kf2,kr1,kr2,km1,km2,kg1,kg2,h⟩:=HoAt.opened ha
   have h0:=h
   have HA:Hid (∀ w':World,Below w.heap.size w w'→HoAt w' (.agg #[.slice of n kf,.slice or' r kr,.slice om m km,.slice og q kg,.int .i64 tx,.int .u64 dx,.int .i64 sx]) H):=lh (fun w' hb=>by
    have:=(h0.below hb).at_
    rwa[HT.out,HD.out,HS.out] at this)
   clear h0
   skip
   have D1:=HasBlock.made w #[.slice of n kf,.slice or' r kr,.slice om m km,.slice og q kg,.int .i64 tx,.int .u64 dx,.int .i64 sx] 30
   have hbw:Below w.heap.size w (w.alloc (.cells #[.slice of n kf,.slice or' r kr,.slice om m km,.slice og q kg,.int .i64 tx,.int .u64 dx,.int .i64 sx] 30)):=(Below.refl _ _).alloc (nlr _) _
   replace h:=h.below hbw
   go_enter Tryz.func34,Tryz.ntmps34
   obtain⟨D1_c,D1_f,D1_z⟩:=D1.all
   go_wp2_with fail
   clear D1_c D1_f D1_z
   with_reducible refine (HVL.out _ _ (HA.out _ hbw)).mono ?_
   rintro e w1 ⟨rfl,hbk⟩
   replace D1:=D1.below hbk
   replace h:=h.below hbk
   replace hbw:=hbw.trans (hbk.mono hbw.size)
   clear hbk
   obtain⟨D1_c,D1_f,D1_z⟩:=D1.all
   go_wp2_with fail
   go_ret
   exact Ret.mk hbw
set_option maxHeartbeats 2000000 in
theorem rswap_no (v:Value) (H:Ho) (i:Int) (w:World) (ha:HoAt w v H) (hf:H.Fit) (hsm:H.Small) (hb:¬H.hasG i):Calls Tryz.prog 35 #[v,.int .i64 i] w (Ret w (.int .i64 0)):=by
 by_cases hok:H.Ok
 · have VLc:=fun v w h=>rhvalid_any v H true w h hf hsm (Iff.intro (fun _=>hok) (fun _=>rfl))
   have HVL:=lh VLc
   clear VLc
   by_cases h1:i<0
   · have t1:decide (i<0)=true:=decide_eq_true h1
     clear hb hok hf hsm
     obtain⟨of,or',om,og,kf,kr,km,kg,n,r,m,q,tx,dx,sx,HN,HR,HM,HQ,HT,HD,HS,rfl,kf1,kf2,kr1,kr2,km1,km2,kg1,kg2,h⟩:=HoAt.opened ha
     have h0:=h
     have HA:Hid (∀ w':World,Below w.heap.size w w'→HoAt w' (.agg #[.slice of n kf,.slice or' r kr,.slice om m km,.slice og q kg,.int .i64 tx,.int .u64 dx,.int .i64 sx]) H):=lh (fun w' hb=>by
      have:=(h0.below hb).at_
      rwa[HT.out,HD.out,HS.out] at this)
     clear h0
     skip
     have D1:=HasBlock.made w #[.slice of n kf,.slice or' r kr,.slice om m km,.slice og q kg,.int .i64 tx,.int .u64 dx,.int .i64 sx] 30
     have hbw:Below w.heap.size w (w.alloc (.cells #[.slice of n kf,.slice or' r kr,.slice om m km,.slice og q kg,.int .i64 tx,.int .u64 dx,.int .i64 sx] 30)):=(Below.refl _ _).alloc (nlr _) _
     replace h:=h.below hbw
     go_enter Tryz.func35,Tryz.ntmps35
     obtain⟨D1_c,D1_f,D1_z⟩:=D1.all
     go_wp2_with fail
     clear D1_c D1_f D1_z
     with_reducible refine (HVL.out _ _ (HA.out _ hbw)).mono ?_
     rintro e w1 ⟨rfl,hbk⟩
     replace D1:=D1.below hbk
     replace h:=h.below hbk
     replace hbw:=hbw.trans (hbk.mono hbw.size)
     clear hbk
     obtain⟨D1_c,D1_f,D1_z⟩:=D1.all
     go_wp2_with fail
     go_ret
     exact Ret.mk hbw
   · have t1:decide (i<0)=false:=decide_eq_false h1
     have h2:i ≥ (H.G.length:Int):=by
      refine Classical.byContradiction fun hc=>?_
      exact hb ⟨hok,by omega,by omega⟩
     clear hb hok hf hsm
     obtain⟨of,or',om,og,kf,kr,km,kg,n,r,m,q,tx,dx,sx,HN,HR,HM,HQ,HT,HD,HS,rfl,kf1,kf2,kr1,kr2,km1,km2,kg1,kg2,h⟩:=HoAt.opened ha
     have h0:=h
     have HA:Hid (∀ w':World,Below w.heap.size w w'→HoAt w' (.agg #[.slice of n kf,.slice or' r kr,.slice om m km,.slice og q kg,.int .i64 tx,.int .u64 dx,.int .i64 sx]) H):=lh (fun w' hb=>by
      have:=(h0.below hb).at_
      rwa[HT.out,HD.out,HS.out] at this)
     clear h0
     have t2:decide (i ≥ (q:Int))=true:=decide_eq_true (by rw[←HQ.out];exact h2)
     have D1:=HasBlock.made w #[.slice of n kf,.slice or' r kr,.slice om m km,.slice og q kg,.int .i64 tx,.int .u64 dx,.int .i64 sx] 30
     have hbw:Below w.heap.size w (w.alloc (.cells #[.slice of n kf,.slice or' r kr,.slice om m km,.slice og q kg,.int .i64 tx,.int .u64 dx,.int .i64 sx] 30)):=(Below.refl _ _).alloc (nlr _) _
     replace h:=h.below hbw
     go_enter Tryz.func35,Tryz.ntmps35
     obtain⟨D1_c,D1_f,D1_z⟩:=D1.all
     go_wp2_with fail
     clear D1_c D1_f D1_z
     with_reducible refine (HVL.out _ _ (HA.out _ hbw)).mono ?_
     rintro e w1 ⟨rfl,hbk⟩
     replace D1:=D1.below hbk
     replace h:=h.below hbk
     replace hbw:=hbw.trans (hbk.mono hbw.size)
     clear hbk
     obtain⟨D1_c,D1_f,D1_z⟩:=D1.all
     go_wp2_with fail
     go_ret
     exact Ret.mk hbw
 · have VLc:=fun v w h=>rhvalid_any v H false w h hf hsm (Iff.intro (fun e=>by cases e) (fun e=>absurd e hok))
   have HVL:=lh VLc
   clear VLc
   clear hb hok hf hsm
   obtain⟨of,or',om,og,kf,kr,km,kg,n,r,m,q,tx,dx,sx,HN,HR,HM,HQ,HT,HD,HS,rfl,kf1,kf2,kr1,kr2,km1,km2,kg1,kg2,h⟩:=HoAt.opened ha
   have h0:=h
   have HA:Hid (∀ w':World,Below w.heap.size w w'→HoAt w' (.agg #[.slice of n kf,.slice or' r kr,.slice om m km,.slice og q kg,.int .i64 tx,.int .u64 dx,.int .i64 sx]) H):=lh (fun w' hb=>by
    have:=(h0.below hb).at_
    rwa[HT.out,HD.out,HS.out] at this)
   clear h0
   skip
   have D1:=HasBlock.made w #[.slice of n kf,.slice or' r kr,.slice om m km,.slice og q kg,.int .i64 tx,.int .u64 dx,.int .i64 sx] 30
   have hbw:Below w.heap.size w (w.alloc (.cells #[.slice of n kf,.slice or' r kr,.slice om m km,.slice og q kg,.int .i64 tx,.int .u64 dx,.int .i64 sx] 30)):=(Below.refl _ _).alloc (nlr _) _
   replace h:=h.below hbw
   go_enter Tryz.func35,Tryz.ntmps35
   obtain⟨D1_c,D1_f,D1_z⟩:=D1.all
   go_wp2_with fail
   clear D1_c D1_f D1_z
   with_reducible refine (HVL.out _ _ (HA.out _ hbw)).mono ?_
   rintro e w1 ⟨rfl,hbk⟩
   replace D1:=D1.below hbk
   replace h:=h.below hbk
   replace hbw:=hbw.trans (hbk.mono hbw.size)
   clear hbk
   obtain⟨D1_c,D1_f,D1_z⟩:=D1.all
   go_wp2_with fail
   go_ret
   exact Ret.mk hbw
set_option maxHeartbeats 2000000 in
theorem rres_ok (v:Value) (H:Ho) (i:Nat) (w:World) (ha:HoAt w v H) (hok:H.Ok) (hi:i<H.G.length):Calls Tryz.prog 34 #[v,.int .i64 i] w (Ret w (.int .i64 ((H.P.chargeN i:Nat):Int))):=by
 have hf:=hok.fitted
 have hsm:=hok.little
 have VLc:=fun v w h=>rhvalid_any v H true w h hf hsm (Iff.intro (fun _=>hok) (fun _=>rfl))
 have HVL:=lh VLc
 clear VLc
 have him:i<H.P.M.length:=by rw[←hok.m];exact hi
 have CHc:=fun v w h=>rcharge_any v H.P i w h him hok.p.fit
 have HCH:=lh CHc;clear CHc
 obtain⟨of,or',om,og,kf,kr,km,kg,n,r,m,q,tx,dx,sx,HN,HR,HM,HQ,HT,HD,HS,rfl,kf1,kf2,kr1,kr2,km1,km2,kg1,kg2,h⟩:=HoAt.opened ha
 rw[HQ.out] at hi
 have h0:=h
 have HA:Hid (∀ w':World,Below w.heap.size w w'→HoAt w' (.agg #[.slice of n kf,.slice or' r kr,.slice om m km,.slice og q kg,.int .i64 tx,.int .u64 dx,.int .i64 sx]) H):=lh (fun w' hb=>by
  have:=(h0.below hb).at_
  rwa[HT.out,HD.out,HS.out] at this)
 have HPL:=lh h0.p
 have D1:=HasBlock.made w #[.slice of n kf,.slice or' r kr,.slice om m km,.slice og q kg,.int .i64 tx,.int .u64 dx,.int .i64 sx] 30
 have hbw:Below w.heap.size w (w.alloc (.cells #[.slice of n kf,.slice or' r kr,.slice om m km,.slice og q kg,.int .i64 tx,.int .u64 dx,.int .i64 sx] 30)):=(Below.refl _ _).alloc (nlr _) _
 replace h:=h.below hbw
 have i0:(0:Int)≤(i:Int):=by omega
 have ig1:decide ((i:Int)<0)=false:=decide_eq_false (by omega)
 have ig2:decide ((i:Int) ≥ (q:Int))=false:=decide_eq_false (by omega)
 have iq:(i:Int)<(q:Int):=by omega
 clear h0 h hf hsm him hok
 go_enter Tryz.func34,Tryz.ntmps34
 obtain⟨D1_c,D1_f,D1_z⟩:=D1.all
 go_wp2_with fail
 clear D1_c D1_f D1_z
 with_reducible refine (HVL.out _ _ (HA.out _ hbw)).mono ?_
 rintro e w1 ⟨rfl,hbk⟩
 replace D1:=D1.below hbk
 replace hbw:=hbw.trans (hbk.mono hbw.size)
 clear hbk
 obtain⟨D1_c,D1_f,D1_z⟩:=D1.all
 go_wp2_with fail
 clear D1_c D1_f D1_z
 with_reducible refine (HCH.out _ _ (HPL.out.below hbw)).mono ?_
 rintro e w2 ⟨rfl,hbk⟩
 replace D1:=D1.below hbk
 replace hbw:=hbw.trans (hbk.mono hbw.size)
 clear hbk
 go_wp2_with fail
 go_ret
 exact Ret.mk hbw
set_option maxHeartbeats 4000000 in
theorem rswap_ok (v:Value) (H:Ho) (i:Nat) (g:Gm) (w:World) (ha:HoAt w v H) (hok:H.Ok) (hg:H.G[i]?=some g):Calls Tryz.prog 35 #[v,.int .i64 i] w (Ret w (.int .i64 ((g.swapped:Nat):Int))):=by
 have hf:=hok.fitted
 have hsm:=hok.little
 have VLc:=fun v w h=>rhvalid_any v H true w h hf hsm (Iff.intro (fun _=>hok) (fun _=>rfl))
 have HVL:=lh VLc
 clear VLc
 obtain⟨l,hl,hgo⟩:=hok.page hg
 have hll:=hok.p.l l (mem_at hl)
 have hsl:=hgo.ls
 obtain⟨of,or',om,og,kf,kr,km,kg,n,r,m,q,tx,dx,sx,HN,HR,HM,HQ,HT,HD,HS,rfl,kf1,kf2,kr1,kr2,km1,km2,kg1,kg2,h⟩:=HoAt.opened ha
 have hiq:i<q:=by rw[←HQ.out];exact lt_of_get hg
 have h0:=h
 have HA:Hid (∀ w':World,Below w.heap.size w w'→HoAt w' (.agg #[.slice of n kf,.slice or' r kr,.slice om m km,.slice og q kg,.int .i64 tx,.int .u64 dx,.int .i64 sx]) H):=lh (fun w' hb=>by
  have:=(h0.below hb).at_
  rwa[HT.out,HD.out,HS.out] at this)
 have D1:=HasBlock.made w #[.slice of n kf,.slice or' r kr,.slice om m km,.slice og q kg,.int .i64 tx,.int .u64 dx,.int .i64 sx] 30
 have hbw:Below w.heap.size w (w.alloc (.cells #[.slice of n kf,.slice or' r kr,.slice om m km,.slice og q kg,.int .i64 tx,.int .u64 dx,.int .i64 sx] 30)):=(Below.refl _ _).alloc (nlr _) _
 replace h:=h.below hbw
 obtain⟨gb,goff,so,sc,uo,uc,eo,ec,rfl,hgb,s1,s2,u1,u2,e3,e4,cs,hS,hU,hE⟩:=h0.guest hg
 have c50:w.cell? ⟨gb,goff+i*9+5,none⟩=_:=cs 5 _ rfl
 dsimp only at c50
 unfold Gm.swapped
 obtain⟨S,hS0⟩:∃ S,g.s=S:=⟨_,rfl⟩
 rw[hS0] at c50 hS s1 hsl ⊢
 obtain⟨ql,hql⟩:∃ x,S.length=x:=⟨_,rfl⟩
 rw[hql] at c50 hS s1 hsl
 have HQL:=lh hql;clear hql
 have HSS:=lh hS;clear hS
 have hq32:ql≤32:=by omega
 clear hf hsm hU hE cs hl hgo hg h0 h hsl hll hS0 u1 e3
 go_enter Tryz.func35,Tryz.ntmps35
 obtain⟨D1_c,D1_f,D1_z⟩:=D1.all
 go_wp2_with fail
 clear D1_c D1_f D1_z
 with_reducible refine (HVL.out _ _ (HA.out _ hbw)).mono ?_
 rintro e w1 ⟨rfl,hbk⟩
 replace D1:=D1.below hbk
 replace hbw:=hbw.trans (hbk.mono hbw.size)
 clear hbk
 have i0:(0:Int)≤(i:Int):=by omega
 have ig1:decide ((i:Int)<0)=false:=decide_eq_false (by omega)
 have ig2:decide ((i:Int) ≥ (q:Int))=false:=decide_eq_false (by omega)
 have iq:(i:Int)<(q:Int):=by omega
 have c5:=(hbw.cell (p:=⟨gb,goff+i*9+5,none⟩) hgb).trans c50
 have HROW:=lh (HSS.out.below hbw)
 obtain⟨D1_c,D1_f,D1_z⟩:=D1.all
 go_wp2_with fail
 go_loop [5,6] (fun c i=>∃ k:Nat,k≤ql∧i=.int .i64 k∧c=.int .i64 ((S.take k).countP fullB:Nat)) (fun _ i=>ql - (intOf i).toNat)
 case atStart=>exact⟨0,Nat.zero_le _,rfl,rfl⟩
 case round =>
  obtain⟨k,hk,rfl,rfl⟩:=hrel
  have hcl:=countP_le fullB S k
  by_cases hlt:k<ql
  · obtain⟨s,hs⟩:=get_lt (xs:=S) (k:=k) (by rw[HQL.out];exact hlt)
    obtain⟨fb,foff,rfl,hfb,cf⟩:=HROW.out.elem hs
    have hsu:=countP_succ (q:=fullB) hs
    obtain⟨c,hc⟩:∃ c,(S.take k).countP fullB=c:=⟨_,rfl⟩
    rw[hc] at hsu hcl ⊢
    have hii:=isEmpty_iff s
    unfold fullB emptyB at hsu
    by_cases h0:s.size=0
    · rw[decide_eq_true h0] at hsu hii
      have HS:=lh hsu;clear hsu hs hc h0
      go_wp2_with fail
      go_round
      case rel=>exact⟨k+1,by omega,by go_num,by rw[show (S.take (k+1)).countP fullB=c from HS.out]⟩
      case measure=>simp [intOf];omega
    · rw[decide_eq_false h0] at hsu hii
      have HS:=lh hsu;clear hsu hs hc h0
      go_wp2_with fail
      go_round
      case rel=>exact⟨k+1,by omega,by go_num,by rw[show (S.take (k+1)).countP fullB=c+1 from HS.out];go_num⟩
      case measure=>simp [intOf];omega
  · obtain rfl:k=ql:=by omega
    have hall:S.take k=S:=by rw[←HQL.out];exact List.take_length
    rw[hall]
    clear hall
    go_wp2_with fail
    go_ret
    exact Ret.mk hbw
theorem pair_res (H:Ho) (i:Int) (hf:H.Fit) (hsm:H.Small):∃ x:Int,
    (∀ v w,HoAt w v H→Calls Tryz.prog 18 #[v,.int .i64 i] w (Ret w (.int .i64 x))) ∧
    (∀ v w,HoAt w v H→Calls Tryz.prog 34 #[v,.int .i64 i] w (Ret w (.int .i64 x))):=by
 by_cases hb:H.hasG i
 · obtain⟨hok,h0,h1⟩:=hb
   obtain⟨a,rfl⟩:∃ a:Nat,i=a:=⟨i.toNat,by omega⟩
   exact⟨_,fun v w h=>hres_ok v H a w h hok (by omega),fun v w h=>rres_ok v H a w h hok (by omega)⟩
 · exact⟨0,fun v w h=>hres_no v H i w h hf hsm hb,fun v w h=>rres_no v H i w h hf hsm hb⟩
theorem pair_swap (H:Ho) (i:Int) (hf:H.Fit) (hsm:H.Small):∃ x:Int,
    (∀ v w,HoAt w v H→Calls Tryz.prog 19 #[v,.int .i64 i] w (Ret w (.int .i64 x))) ∧
    (∀ v w,HoAt w v H→Calls Tryz.prog 35 #[v,.int .i64 i] w (Ret w (.int .i64 x))):=by
 by_cases hb:H.hasG i
 · obtain⟨hok,h0,h1⟩:=hb
   obtain⟨a,rfl⟩:∃ a:Nat,i=a:=⟨i.toNat,by omega⟩
   obtain⟨g,hg⟩:=get_lt (xs:=H.G) (k:=a) (by omega)
   exact⟨_,fun v w h=>hswap_ok v H a g w h hok hg,fun v w h=>rswap_ok v H a g w h hok hg⟩
 · exact⟨0,fun v w h=>hswap_no v H i w h hf hsm hb,fun v w h=>rswap_no v H i w h hf hsm hb⟩
theorem pair_add (H:Ho) (cr cl cs cp ca q0:Int) (hf:H.Fit) (hsm:H.Small) (hcb : -9223372036854775808≤cp∧cp≤9223372036854775807):∃ (K:Ho) (c:Int),
    (∀ v w,HoAt w v H→Calls Tryz.prog 16 #[v,.agg #[.int .i64 cr,.int .i64 cl,.int .i64 cs,.int .i64 cp,.int .i64 ca],.int .i64 q0] w (RetHoV (fun v=>.tuple #[v,.int .i64 c]) K w)) ∧
    (∀ v w,HoAt w v H→Calls Tryz.prog 27 #[v,.agg #[.int .i64 cr,.int .i64 cl,.int .i64 cs,.int .i64 cp,.int .i64 ca],.int .i64 q0] w (RetHoV (fun v=>.tuple #[v,.int .i64 c]) K w)):=by
 by_cases hok:H.Ok
 · exact⟨_,_,fun v w h=>(hadd_ok v H cr cl cs cp ca q0 w h hok hcb).mono fun _ _ h=>h.v,fun v w h=>radd_ok v H cr cl cs cp ca q0 w h hok⟩
 · exact⟨H,3800,fun v w h=>(hadd_no v H cr cl cs cp ca q0 w h hf hsm hok).mono fun _ _ h=>h.v,fun v w h=>(radd_no v H cr cl cs cp ca q0 w h hf hsm hok).mono fun _ _ hr=>ret_v (k:=fun v=>.tuple #[v,.int .i64 3800]) h hr⟩
theorem pair_valid (H:Ho) (hf:H.Fit) (hsm:H.Small):∃ b:Bool,
    (∀ v w,HoAt w v H→Calls Tryz.prog 32 #[v] w (Ret w (.bool b))) ∧
    (∀ v w,HoAt w v H→Calls Tryz.prog 33 #[v] w (Ret w (.bool b))):=by
 by_cases hok:H.Ok
 · exact⟨true,fun v w h=>hvalid_any v H true w h hf hsm (Iff.intro (fun _=>hok) (fun _=>rfl)),fun v w h=>rhvalid_any v H true w h hf hsm (Iff.intro (fun _=>hok) (fun _=>rfl))⟩
 · exact⟨false,fun v w h=>hvalid_any v H false w h hf hsm (Iff.intro (fun e=>by cases e) (fun e=>absurd e hok)),fun v w h=>rhvalid_any v H false w h hf hsm (Iff.intro (fun e=>by cases e) (fun e=>absurd e hok))⟩
theorem HoAt.form {w:World} {v:Value} {H:Ho} (h:HoAt w v H):∃ (of:Option Addr) (n kf:Nat) (or':Option Addr) (r kr:Nat) (om:Option Addr) (m km:Nat) (og:Option Addr) (q kg:Nat) (t d s:Int),v=.agg #[.slice of n kf,.slice or' r kr,.slice om m km,.slice og q kg,.int .i64 t,.int .u64 d,.int .i64 s]:=by
 obtain⟨of,or',om,og,kf,kr,km,kg,e,_⟩:=h
 exact⟨_,_,_,_,_,_,_,_,_,_,_,_,_,_,_,e⟩
set_option maxHeartbeats 1000000 in
theorem same_num (va vb:Value) (A:List Int) (w:World) (ha:NumRow w va A) (hb:NumRow w vb A):Calls Tryz.prog 53 #[va,vb] w (Ret w (.bool true)):=by
 obtain⟨ao,ca,rfl,a1,a2,_⟩:=ha.out
 obtain⟨bo,cb,rfl,b1,b2,_⟩:=hb.out
 unfold maxLen at a2 b2
 obtain⟨n,hn⟩:∃ n,A.length=n:=⟨_,rfl⟩
 rw[hn] at a1 ha b1 hb ⊢
 have HN:=lh hn;clear hn
 have HA:=lh ha;clear ha
 have HB:=lh hb;clear hb
 go_enter Tryz.func53,Tryz.ntmps53
 go_wp2_with fail
 go_loopw [5] (fun i wr=>∃ k:Nat,k≤n∧i=.int .i64 k∧Below w.heap.size w wr) (fun i _=>n - (intOf i).toNat)
 case atStart=>exact⟨0,Nat.zero_le _,rfl,bel⟩
 case round =>
  obtain⟨k,hk,rfl,hbw⟩:=hrel
  by_cases hlt:k<n
  · obtain⟨x,hx⟩:=get_lt (xs:=A) (k:=k) (by rw[HN.out];exact hlt)
    obtain⟨b,off,rfl,hbs,c1⟩:=(HA.out.below hbw).elem hx
    obtain⟨b',off',rfl,hbs',c2⟩:=(HB.out.below hbw).elem hx
    clear hx
    have hx2:(x != x)=false:=by simp
    go_wp2_with fail
    refine wp_region_quiet_below (by kernel_rfl) (by kernel_rfl) ?_
    repeat (go_big_quiet_step (first|fail|fail))
    refine wpQuiet_nil ?_
    intro w3 hw3
    have hb3:=below_of_regrown hw3
    clear hw3
    obtain⟨hc3,hf3⟩:=bcell hb3
    have hz3:=bsize hb3
    try simp only[sizes1] at hz3
    try simp only[sizes] at hc3 hf3
    go_wp2_with fail
    go_roundw
    case rel=>exact⟨k+1,by omega,by go_num,hbw.trans (hb3.mono hbw.size)⟩
    case measure=>simp [intOf];omega
  · obtain rfl:k=n:=by omega
    go_wp2_with fail
    go_ret
    exact Ret.mk hbw
set_option maxRecDepth 100000 in
set_option maxHeartbeats 2000000 in
theorem psame_any (va vb:Value) (P:Pl) (w:World) (ha:PlRow w va P) (hb:PlRow w vb P):Calls Tryz.prog 24 #[va,vb] w (Ret w (.bool true)):=by
 obtain⟨of,or',om,kf,kr,km,rfl,kf1,kf2,kr1,kr2,km1,km2⟩:=ha.form
 obtain⟨of',or2,om',kf',kr',km',rfl,kf1',kf2',kr1',kr2',km1',km2'⟩:=hb.form
 obtain⟨n,hn⟩:∃ n,P.F.length=n:=⟨_,rfl⟩
 obtain⟨r,hr⟩:∃ n,P.R.length=n:=⟨_,rfl⟩
 obtain⟨m,hm⟩:∃ n,P.M.length=n:=⟨_,rfl⟩
 rw[hn,hr,hm] at ha hb ⊢
 rw[hm] at km1 km1'
 rw[hn] at kf1 kf1'
 rw[hr] at kr1 kr1'
 have HM:=lh hm;clear hm
 clear hn hr
 have HA:=lh ha;clear ha
 have HB:=lh hb;clear hb
 have SS:∀ w,StrRow w (.slice of n kf) P.F→StrRow w (.slice of' n kf') P.F→Calls Tryz.prog 25 #[.slice of n kf,.slice of' n kf'] w (Ret w (.bool true)):=fun w h1 h2=>by
  have h:=same_str _ _ P.F P.F w h1 h2
  rwa[decide_eq_true rfl] at h
 have HSS:=lh SS;clear SS
 have hbw:Below w.heap.size w ((w.alloc (.cells #[.slice of n kf,.slice or' r kr,.slice om m km] 26)).alloc (.cells #[.slice of' n kf',.slice or2 r kr',.slice om' m km'] 26)):=bel
 have D1:=(HasBlock.made w #[.slice of n kf,.slice or' r kr,.slice om m km] 26).alloc (.cells #[.slice of' n kf',.slice or2 r kr',.slice om' m km'] 26)
 have D2:=HasBlock.made (w.alloc (.cells #[.slice of n kf,.slice or' r kr,.slice om m km] 26)) #[.slice of' n kf',.slice or2 r kr',.slice om' m km'] 26
 simp only[sizes] at D2
 go_enter Tryz.func24,Tryz.ntmps24
 go_wp2_with fail
 with_reducible refine (HSS.out _ (HA.out.below hbw).parts.1 (HB.out.below hbw).parts.1).mono ?_
 rintro e w1 ⟨rfl,hb1⟩
 replace D1:=D1.below hb1
 replace D2:=D2.below hb1
 replace hbw:=hbw.trans (hb1.mono hbw.size)
 clear hb1
 obtain⟨D1_c,D1_f,D1_z⟩:=D1.all
 obtain⟨D2_c,D2_f,D2_z⟩:=D2.all
 go_wp2_with fail
 clear D1_c D1_f D1_z
 clear D2_c D2_f D2_z
 with_reducible refine (same_num _ _ P.R _ (HA.out.below hbw).parts.2.1 (HB.out.below hbw).parts.2.1).mono ?_
 rintro e w2 ⟨rfl,hb2⟩
 replace D1:=D1.below hb2
 replace D2:=D2.below hb2
 replace hbw:=hbw.trans (hb2.mono hbw.size)
 clear hb2
 have e1:(m != m)=false:=by simp
 have e2:((m:Int) != (m:Int))=false:=by simp
 obtain⟨D1_c,D1_f,D1_z⟩:=D1.all
 obtain⟨D2_c,D2_f,D2_z⟩:=D2.all
 go_wp2_with fail
 clear D1_c D1_f D1_z
 clear D2_c D2_f D2_z
 go_loopw [5] (fun i wr=>∃ k:Nat,k≤m∧i=.int .i64 k∧HasBlock wr w.heap.size #[.slice of n kf,.slice or' r kr,.slice om m km] 26∧HasBlock wr (w.heap.size+1) #[.slice of' n kf',.slice or2 r kr',.slice om' m km'] 26∧Below w.heap.size w wr) (fun i _=>m - (intOf i).toNat)
 case atStart=>exact⟨0,Nat.zero_le _,rfl,D1,D2,hbw⟩
 case round =>
  clear D1 D2 hbw
  obtain⟨k,hk,rfl,D1,D2,hbw⟩:=hrel
  by_cases hlt:k<m
  · obtain⟨l,hl⟩:=get_lt (xs:=P.M) (k:=k) (by rw[HM.out];exact hlt)
    obtain⟨mb,moff,uo,uc,rfl,hmb,cm,u1,u2,hr1⟩:=(HA.out.below hbw).guest hl
    obtain⟨mb',moff',uo',uc',rfl,hmb',cm',u1',u2',hr2⟩:=(HB.out.below hbw).guest hl
    clear hl
    have H1:=lh hr1;clear hr1
    have H2:=lh hr2;clear hr2
    obtain⟨D1_c,D1_f,D1_z⟩:=D1.all
    obtain⟨D2_c,D2_f,D2_z⟩:=D2.all
    go_wp2_with fail
    refine wp_region_quiet_below (by kernel_rfl) (by kernel_rfl) ?_
    repeat (go_big_quiet_step (first|fail|(go_at_call 53;exact quiet_ret (same_num _ _ l _ (H1.out.below (below_regrown _ _ _)) (H2.out.below (below_regrown _ _ _))))))
    refine wpQuiet_nil ?_
    intro w3 hw3
    have hb3:=below_of_regrown hw3
    clear hw3
    obtain⟨hc3,hf3⟩:=bcell hb3
    have hz3:=bsize hb3
    try simp only[sizes1] at hz3
    try simp only[sizes] at hc3 hf3
    clear hc3 hf3
    go_wp2_with fail
    go_roundw
    case rel=>exact⟨k+1,by omega,by go_num,D1.below hb3,D2.below hb3,hbw.trans (hb3.mono hbw.size)⟩
    case measure=>simp [intOf];omega
  · obtain rfl:k=m:=by omega
    obtain⟨D1_c,D1_f,D1_z⟩:=D1.all
    obtain⟨D2_c,D2_f,D2_z⟩:=D2.all
    go_wp2_with fail
    go_ret
    exact Ret.mk hbw
set_option maxHeartbeats 1000000 in
theorem same_bool (va vb:Value) (A:List Bool) (w:World) (ha:BoolRow w va A) (hb:BoolRow w vb A):Calls Tryz.prog 26 #[va,vb] w (Ret w (.bool true)):=by
 obtain⟨ao,ca,rfl,a1,a2,_⟩:=ha.out
 obtain⟨bo,cb,rfl,b1,b2,_⟩:=hb.out
 unfold maxLen at a2 b2
 obtain⟨n,hn⟩:∃ n,A.length=n:=⟨_,rfl⟩
 rw[hn] at a1 ha b1 hb ⊢
 have HN:=lh hn;clear hn
 have HA:=lh ha;clear ha
 have HB:=lh hb;clear hb
 go_enter Tryz.func26,Tryz.ntmps26
 go_wp2_with fail
 go_loopw [5] (fun i wr=>∃ k:Nat,k≤n∧i=.int .i64 k∧Below w.heap.size w wr) (fun i _=>n - (intOf i).toNat)
 case atStart=>exact⟨0,Nat.zero_le _,rfl,bel⟩
 case round =>
  obtain⟨k,hk,rfl,hbw⟩:=hrel
  by_cases hlt:k<n
  · obtain⟨x,hx⟩:=get_lt (xs:=A) (k:=k) (by rw[HN.out];exact hlt)
    obtain⟨b,off,rfl,hbs,c1⟩:=EncRow.elem (HA.out.below hbw) hx
    obtain⟨b',off',rfl,hbs',c2⟩:=EncRow.elem (HB.out.below hbw) hx
    clear hx
    have hx2:(x != x)=false:=by simp
    go_wp2_with fail
    refine wp_region_quiet_below (by kernel_rfl) (by kernel_rfl) ?_
    repeat (go_big_quiet_step (first|fail|fail))
    refine wpQuiet_nil ?_
    intro w3 hw3
    have hb3:=below_of_regrown hw3
    clear hw3
    obtain⟨hc3,hf3⟩:=bcell hb3
    have hz3:=bsize hb3
    try simp only[sizes1] at hz3
    try simp only[sizes] at hc3 hf3
    go_wp2_with fail
    go_roundw
    case rel=>exact⟨k+1,by omega,by go_num,hbw.trans (hb3.mono hbw.size)⟩
    case measure=>simp [intOf];omega
  · obtain rfl:k=n:=by omega
    go_wp2_with fail
    go_ret
    exact Ret.mk hbw
set_option maxRecDepth 100000 in
set_option maxHeartbeats 4000000 in
theorem rsame_any (va vb:Value) (H:Ho) (w:World) (ha:HoAt w va H) (hb:HoAt w vb H):Calls Tryz.prog 9 #[va,vb] w (Ret w (.bool true)):=by
 obtain⟨of9,or9,om9,og9,kf9,kr9,km9,kg9,rfl,f1,f2,r1,r2,m1,m2,g1,g2,hr2⟩:=hb
 obtain⟨of,or',om,og,kf,kr,km,kg,n,r,m,q,tx,dx,sx,HN,HR,HM,HQ,HT,HD,HS,rfl,kf1,kf2,kr1,kr2,km1,km2,kg1,kg2,h⟩:=HoAt.opened ha
 rw[HN.out,HR.out,HM.out,HQ.out,HT.out,HD.out,HS.out]
 rw[HN.out] at f1 hr2
 rw[HR.out] at r1 hr2
 rw[HM.out] at m1 hr2
 rw[HQ.out] at g1 hr2
 have PS:=fun w h1 h2=>psame_any (.agg #[.slice of n kf,.slice or' r kr,.slice om m km]) (.agg #[.slice of9 n kf9,.slice or9 r kr9,.slice om9 m km9]) H.P w h1 h2
 have HPS:=lh PS;clear PS
 have HA:=lh h
 have HB:=lh hr2
 clear h hr2
 have D1:=(HasBlock.made w #[.slice of n kf,.slice or' r kr,.slice om m km,.slice og q kg,.int .i64 tx,.int .u64 dx,.int .i64 sx] 30).alloc (.cells #[.slice of9 n kf9,.slice or9 r kr9,.slice om9 m km9,.slice og9 q kg9,.int .i64 tx,.int .u64 dx,.int .i64 sx] 30)
 have D2:=HasBlock.made (w.alloc (.cells #[.slice of n kf,.slice or' r kr,.slice om m km,.slice og q kg,.int .i64 tx,.int .u64 dx,.int .i64 sx] 30)) #[.slice of9 n kf9,.slice or9 r kr9,.slice om9 m km9,.slice og9 q kg9,.int .i64 tx,.int .u64 dx,.int .i64 sx] 30
 rw[World.size_alloc] at D2
 have hbw:Below w.heap.size w ((w.alloc (.cells #[.slice of n kf,.slice or' r kr,.slice om m km,.slice og q kg,.int .i64 tx,.int .u64 dx,.int .i64 sx] 30)).alloc (.cells #[.slice of9 n kf9,.slice or9 r kr9,.slice om9 m km9,.slice og9 q kg9,.int .i64 tx,.int .u64 dx,.int .i64 sx] 30)):=bel
 have e1:(tx != tx)=false:=by simp
 have e2:(dx != dx)=false:=by simp
 have e3:(sx != sx)=false:=by simp
 have e4:(q != q)=false:=by simp
 have e5:((q:Int) != (q:Int))=false:=by simp
 go_enter Tryz.func9,Tryz.ntmps9
 obtain⟨D1_c,D1_f,D1_z⟩:=D1.all
 obtain⟨D2_c,D2_f,D2_z⟩:=D2.all
 go_wp2_with fail
 clear D1_c D1_f D1_z
 clear D2_c D2_f D2_z
 with_reducible refine (HPS.out _ (HA.out.below hbw).p (HB.out.below hbw).p).mono ?_
 rintro e w1 ⟨rfl,hb1⟩
 replace D1:=D1.below hb1
 replace D2:=D2.below hb1
 replace hbw:=hbw.trans (hb1.mono hbw.size)
 clear hb1
 obtain⟨D1_c,D1_f,D1_z⟩:=D1.all
 obtain⟨D2_c,D2_f,D2_z⟩:=D2.all
 go_wp2_with fail
 clear D1_c D1_f D1_z
 clear D2_c D2_f D2_z
 go_loopw [5] (fun i wr=>∃ k:Nat,k≤q∧i=.int .i64 k∧HasBlock wr w.heap.size #[.slice of n kf,.slice or' r kr,.slice om m km,.slice og q kg,.int .i64 tx,.int .u64 dx,.int .i64 sx] 30∧HasBlock wr (w.heap.size+1) #[.slice of9 n kf9,.slice or9 r kr9,.slice om9 m km9,.slice og9 q kg9,.int .i64 tx,.int .u64 dx,.int .i64 sx] 30∧Below w.heap.size w wr) (fun i _=>q - (intOf i).toNat)
 case atStart=>exact⟨0,Nat.zero_le _,rfl,D1,D2,hbw⟩
 case round =>
  clear D1 D2 hbw
  obtain⟨k,hk,rfl,D1,D2,hbw⟩:=hrel
  by_cases hlt:k<q
  · obtain⟨g,hg⟩:=get_lt (xs:=H.G) (k:=k) (by rw[HQ.out];exact hlt)
    obtain⟨gb,goff,so,sc,uo,uc,eo,ec,rfl,hgb,s1,s2,u1,u2,x1,x2,cs,hS,hU,hE⟩:=(HA.out.below hbw).guest hg
    obtain⟨gb',goff',so',sc',uo',uc',eo',ec',rfl,hgb',s1',s2',u1',u2',x1',x2',cs',hS',hU',hE'⟩:=(HB.out.below hbw).guest hg
    clear hg
    obtain⟨⟨rr,cl,ss,pp,aa⟩,S,U,hd,E⟩:=g
    dsimp only at s1 u1 x1 s1' u1' x1' hS hU hE hS' hU' hE' cs cs'
    have SS:=fun w h1 h2=>same_str (.slice so S.length sc) (.slice so' S.length sc') S S w h1 h2
    have SU:=fun w h1 h2=>same_bool (.slice uo U.length uc) (.slice uo' U.length uc') U w h1 h2
    have SE:=fun w h1 h2=>same_bool (.slice eo E.length ec) (.slice eo' E.length ec') E w h1 h2
    rw[decide_eq_true (rfl:S=S)] at SS
    obtain⟨sl,hsl⟩:∃ x,S.length=x:=⟨_,rfl⟩
    obtain⟨ul,hul⟩:∃ x,U.length=x:=⟨_,rfl⟩
    obtain⟨el,hel⟩:∃ x,E.length=x:=⟨_,rfl⟩
    rw[hsl] at s1 s1' hS hS' cs cs' SS
    rw[hul] at u1 u1' hU hU' cs cs' SU
    rw[hel] at x1 x1' hE hE' cs cs' SE
    clear hsl hul hel
    have HSS:=lh SS;clear SS
    have HSU:=lh SU;clear SU
    have HSE:=lh SE;clear SE
    have HS1:=lh hS;clear hS
    have HS2:=lh hS';clear hS'
    have HU1:=lh hU;clear hU
    have HU2:=lh hU';clear hU'
    have HE1:=lh hE;clear hE
    have HE2:=lh hE';clear hE'
    have CS:=lh cs;clear cs
    have CS':=lh cs';clear cs'
    have k0:(0:Int)≤(k:Int):=by omega
    have kq:(k:Int)<(q:Int):=by omega
    obtain⟨D1_c,D1_f,D1_z⟩:=D1.all
    obtain⟨D2_c,D2_f,D2_z⟩:=D2.all
    go_upto_region 6 with (fail)
    go_cut [6,7] from 51 to 61 (fun p6 p7 wx=>∃ b6 b7,p6=.pointer (some ⟨b6,0,none⟩)∧p7=.pointer (some ⟨b7,0,none⟩)∧HasBlock wx b6 #[.int .i64 rr,.int .i64 cl,.int .i64 ss,.int .i64 pp,.int .i64 aa,.slice so sl sc,.slice uo ul uc,.int .i64 hd,.slice eo el ec] 49∧HasBlock wx b7 #[.int .i64 rr,.int .i64 cl,.int .i64 ss,.int .i64 pp,.int .i64 aa,.slice so' sl sc',.slice uo' ul uc',.int .i64 hd,.slice eo' el ec'] 49∧Below wr.heap.size wr wx)
    case first =>
     have c0:wr.cell? ⟨gb,goff+k*9,none⟩=_:=CS.out 0 _ rfl
     have c1:wr.cell? ⟨gb,goff+k*9+1,none⟩=_:=CS.out 1 _ rfl
     have c2:wr.cell? ⟨gb,goff+k*9+2,none⟩=_:=CS.out 2 _ rfl
     have c3:wr.cell? ⟨gb,goff+k*9+3,none⟩=_:=CS.out 3 _ rfl
     have c4:wr.cell? ⟨gb,goff+k*9+4,none⟩=_:=CS.out 4 _ rfl
     have c5:wr.cell? ⟨gb,goff+k*9+5,none⟩=_:=CS.out 5 _ rfl
     have c6:wr.cell? ⟨gb,goff+k*9+6,none⟩=_:=CS.out 6 _ rfl
     have c7:wr.cell? ⟨gb,goff+k*9+7,none⟩=_:=CS.out 7 _ rfl
     have c8:wr.cell? ⟨gb,goff+k*9+8,none⟩=_:=CS.out 8 _ rfl
     have d0:wr.cell? ⟨gb',goff'+k*9,none⟩=_:=CS'.out 0 _ rfl
     have d1:wr.cell? ⟨gb',goff'+k*9+1,none⟩=_:=CS'.out 1 _ rfl
     have d2:wr.cell? ⟨gb',goff'+k*9+2,none⟩=_:=CS'.out 2 _ rfl
     have d3:wr.cell? ⟨gb',goff'+k*9+3,none⟩=_:=CS'.out 3 _ rfl
     have d4:wr.cell? ⟨gb',goff'+k*9+4,none⟩=_:=CS'.out 4 _ rfl
     have d5:wr.cell? ⟨gb',goff'+k*9+5,none⟩=_:=CS'.out 5 _ rfl
     have d6:wr.cell? ⟨gb',goff'+k*9+6,none⟩=_:=CS'.out 6 _ rfl
     have d7:wr.cell? ⟨gb',goff'+k*9+7,none⟩=_:=CS'.out 7 _ rfl
     have d8:wr.cell? ⟨gb',goff'+k*9+8,none⟩=_:=CS'.out 8 _ rfl
     dsimp only at c0 c1 c2 c3 c4 c5 c6 c7 c8 d0 d1 d2 d3 d4 d5 d6 d7 d8
     go_region
     all_goals
      clear c0 c1 c2 c3 c4 c5 c6 c7 c8 d0 d1 d2 d3 d4 d5 d6 d7 d8
      go_wp2_with fail
      go_meet
     · exact⟨_,_,rfl,rfl,((HasBlock.made wr _ 49).alloc _).drew,(HasBlock.made' (by simp only[sizes])).drew,Below.drew (Below.alloc (Below.alloc (Below.refl _ wr) (nlr _) _) (by simp only[sizes];omega) _)⟩
     · exact⟨_,_,rfl,rfl,(HasBlock.made' (by simp only[sizes])).drew,((HasBlock.made wr _ 49).alloc _).drew,Below.drew (Below.alloc (Below.alloc (Below.refl _ wr) (nlr _) _) (by simp only[sizes];omega) _)⟩
    case rest =>
     obtain⟨b6,b7,rfl,rfl,E1,E2,hb6⟩:=hcut
     replace D1:=D1.below hb6
     replace D2:=D2.below hb6
     replace hbw:=hbw.trans (hb6.mono hbw.size)
     clear D1_c D1_f D1_z D2_c D2_f D2_z hgb hgb' s1 s1' u1 u1' x1 x1'
     have t2:(hd != hd)=false:=by simp
     obtain⟨E1_c,E1_f,E1_z⟩:=E1.all
     obtain⟨E2_c,E2_f,E2_z⟩:=E2.all
     go_wp2_with fail
     clear E1_c E1_f E1_z
     clear E2_c E2_f E2_z
     with_reducible refine (HSS.out _ (HS1.out.below hb6) (HS2.out.below hb6)).mono ?_
     rintro e wd ⟨rfl,hbk⟩
     replace D1:=D1.below hbk
     replace D2:=D2.below hbk
     replace E1:=E1.below hbk
     replace E2:=E2.below hbk
     replace hbw:=hbw.trans (hbk.mono hbw.size)
     replace hb6:=hb6.trans (hbk.mono hb6.size)
     clear hbk
     obtain⟨E1_c,E1_f,E1_z⟩:=E1.all
     obtain⟨E2_c,E2_f,E2_z⟩:=E2.all
     go_wp2_with fail
     clear E1_c E1_f E1_z
     clear E2_c E2_f E2_z
     with_reducible refine (HSU.out _ (HU1.out.below hb6) (HU2.out.below hb6)).mono ?_
     rintro e we ⟨rfl,hbk⟩
     replace D1:=D1.below hbk
     replace D2:=D2.below hbk
     replace E1:=E1.below hbk
     replace E2:=E2.below hbk
     replace hbw:=hbw.trans (hbk.mono hbw.size)
     replace hb6:=hb6.trans (hbk.mono hb6.size)
     clear hbk
     obtain⟨E1_c,E1_f,E1_z⟩:=E1.all
     obtain⟨E2_c,E2_f,E2_z⟩:=E2.all
     go_wp2_with fail
     clear E1_c E1_f E1_z
     clear E2_c E2_f E2_z
     with_reducible refine (HSE.out _ (HE1.out.below hb6) (HE2.out.below hb6)).mono ?_
     rintro e wf ⟨rfl,hbk⟩
     replace D1:=D1.below hbk
     replace D2:=D2.below hbk
     replace E1:=E1.below hbk
     replace E2:=E2.below hbk
     replace hbw:=hbw.trans (hbk.mono hbw.size)
     replace hb6:=hb6.trans (hbk.mono hb6.size)
     clear hbk
     obtain⟨E1_c,E1_f,E1_z⟩:=E1.all
     obtain⟨E2_c,E2_f,E2_z⟩:=E2.all
     go_wp2_with fail
     go_roundw
     case rel=>exact⟨k+1,by omega,by go_num,D1,D2,hbw⟩
     case measure=>simp [intOf];omega
  · obtain rfl:k=q:=by omega
    obtain⟨D1_c,D1_f,D1_z⟩:=D1.all
    obtain⟨D2_c,D2_f,D2_z⟩:=D2.all
    go_wp2_with fail
    go_ret
    exact Ret.mk hbw
end Go.Proofs.YtbnngjhnkegliaaGreat
