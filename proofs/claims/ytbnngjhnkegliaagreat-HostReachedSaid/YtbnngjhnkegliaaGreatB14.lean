/-
  Texts joined: HrRBad HoVic HoDraw. No law is proved here.
-/
import Derived.Test.YtbnngjhnkegliaaGreatB11
import Derived.Test.YtbnngjhnkegliaaGreatB13
namespace Go.Proofs.YtbnngjhnkegliaaGreat
open Go.RowKit
theorem Ho.is_no {H:Ho} {i p:Int} (hok:H.Ok) (hb:¬H.has i p):H.P.is i p=false:=by
 cases h:H.P.is i p with
 | false=>rfl
 | true =>
   refine absurd ⟨hok,i.toNat,p.toNat,?_,?_,?_⟩ hb
   · unfold Pl.is at h
     have:=of_decide_eq_true h
     omega
   · unfold Pl.is at h
     have:=of_decide_eq_true h
     omega
   · unfold Pl.is at h
     obtain⟨h1,h2,h3,h4⟩:=of_decide_eq_true h
     obtain⟨l,hl⟩:=get_lt (xs:=H.P.M) (k:=i.toNat) (by omega)
     rw[Pl.pages_eq hl] at h4
     obtain⟨f,hf⟩:=get_lt (xs:=l) (k:=p.toNat) (by omega)
     exact⟨l,f,hl,hf⟩
set_option maxRecDepth 100000 in
set_option maxHeartbeats 4000000 in
theorem rread_no (v:Value) (H:Ho) (i p:Int) (w:World) (ha:HoAt w v H) (hf:H.Fit) (hsm:H.Small) (hb:¬H.has i p):Calls Tryz.prog 28 #[v,.int .i64 i,.int .i64 p] w (Ret w (.tuple #[v,.string ⟨#[]⟩,.int .i64 3800])):=by
 by_cases hok:H.Ok
 · have VLc:=fun v w h=>rhvalid_any v H true w h hf hsm (Iff.intro (fun _=>hok) (fun _=>rfl))
   have HVL:=lh VLc
   clear VLc
   have ISc:=fun v w h=>ris_any v H.P i p w h
   rw[Ho.is_no hok hb] at ISc
   have HIS:=lh ISc
   clear ISc hb hok hf hsm
   obtain⟨of,or',om,og,kf,kr,km,kg,n,r,m,q,tx,dx,sx,HN,HR,HM,HQ,HT,HD,HS,rfl,kf1,kf2,kr1,kr2,km1,km2,kg1,kg2,h⟩:=HoAt.opened ha
   have h0:=h
   have HA:Hid (∀ w':World,Below w.heap.size w w'→HoAt w' (.agg #[.slice of n kf,.slice or' r kr,.slice om m km,.slice og q kg,.int .i64 tx,.int .u64 dx,.int .i64 sx]) H):=lh (fun w' hb=>by
    have:=(h0.below hb).at_
    rwa[HT.out,HD.out,HS.out] at this)
   have HPL:=lh h0.p
   clear h h0
   skip
   have D1:=(HasBlock.made w #[.slice of n kf,.slice or' r kr,.slice om m km,.slice og q kg,.int .i64 tx,.int .u64 dx,.int .i64 sx] 30).alloc (.cells #[.slice none 0 0,.slice none 0 0,.slice none 0 0,.slice none 0 0,.int .i64 0,.int .u64 0,.int .i64 0] 30)
   have D2:=HasBlock.made (w.alloc (.cells #[.slice of n kf,.slice or' r kr,.slice om m km,.slice og q kg,.int .i64 tx,.int .u64 dx,.int .i64 sx] 30)) #[.slice none 0 0,.slice none 0 0,.slice none 0 0,.slice none 0 0,.int .i64 0,.int .u64 0,.int .i64 0] 30
   rw[World.size_alloc] at D2
   have hbw:Below w.heap.size w ((w.alloc (.cells #[.slice of n kf,.slice or' r kr,.slice om m km,.slice og q kg,.int .i64 tx,.int .u64 dx,.int .i64 sx] 30)).alloc (.cells #[.slice none 0 0,.slice none 0 0,.slice none 0 0,.slice none 0 0,.int .i64 0,.int .u64 0,.int .i64 0] 30)):=bel
   go_enter Tryz.func28,Tryz.ntmps28
   obtain⟨D1_c,D1_f,D1_z⟩:=D1.all
   go_wp2_with fail
   clear D1_c D1_f D1_z
   with_reducible refine (HVL.out _ _ (HA.out _ hbw)).mono ?_
   rintro e w1 ⟨rfl,hb1⟩
   replace D1:=D1.below hb1
   replace D2:=D2.below hb1
   replace hbw:=hbw.trans (hb1.mono hbw.size)
   clear hb1
   obtain⟨D1_c,D1_f,D1_z⟩:=D1.all
   go_wp2_with fail
   clear D1_c D1_f D1_z
   with_reducible refine (HIS.out _ _ (HPL.out.below hbw)).mono ?_
   rintro e w2 ⟨rfl,hb2⟩
   replace D1:=D1.below hb2
   replace D2:=D2.below hb2
   replace hbw:=hbw.trans (hb2.mono hbw.size)
   clear hb2
   obtain⟨D2_c,D2_f,D2_z⟩:=D2.all
   obtain⟨D1_c,D1_f,D1_z⟩:=D1.all
   go_wp2_with fail
   refine bodyPost_ret (v:=(.tuple #[.agg #[.slice of n kf,.slice or' r kr,.slice om m km,.slice og q kg,.int .i64 tx,.int .u64 dx,.int .i64 sx],.string ⟨#[]⟩,.int .i64 3800])) (by simp [results,Tryz.results28,go_sem,D2_c]) rfl ?_
   exact⟨rfl,Below.fill7 hbw (by omega) _ _ _ _ _ _ _⟩
 · have VLc:=fun v w h=>rhvalid_any v H false w h hf hsm (Iff.intro (fun e=>by cases e) (fun e=>absurd e hok))
   have HVL:=lh VLc
   clear VLc
   clear hb hok hf hsm
   obtain⟨of,or',om,og,kf,kr,km,kg,n,r,m,q,tx,dx,sx,HN,HR,HM,HQ,HT,HD,HS,rfl,kf1,kf2,kr1,kr2,km1,km2,kg1,kg2,h⟩:=HoAt.opened ha
   have h0:=h
   have HA:Hid (∀ w':World,Below w.heap.size w w'→HoAt w' (.agg #[.slice of n kf,.slice or' r kr,.slice om m km,.slice og q kg,.int .i64 tx,.int .u64 dx,.int .i64 sx]) H):=lh (fun w' hb=>by
    have:=(h0.below hb).at_
    rwa[HT.out,HD.out,HS.out] at this)
   have HPL:=lh h0.p
   clear h h0
   skip
   have D1:=(HasBlock.made w #[.slice of n kf,.slice or' r kr,.slice om m km,.slice og q kg,.int .i64 tx,.int .u64 dx,.int .i64 sx] 30).alloc (.cells #[.slice none 0 0,.slice none 0 0,.slice none 0 0,.slice none 0 0,.int .i64 0,.int .u64 0,.int .i64 0] 30)
   have D2:=HasBlock.made (w.alloc (.cells #[.slice of n kf,.slice or' r kr,.slice om m km,.slice og q kg,.int .i64 tx,.int .u64 dx,.int .i64 sx] 30)) #[.slice none 0 0,.slice none 0 0,.slice none 0 0,.slice none 0 0,.int .i64 0,.int .u64 0,.int .i64 0] 30
   rw[World.size_alloc] at D2
   have hbw:Below w.heap.size w ((w.alloc (.cells #[.slice of n kf,.slice or' r kr,.slice om m km,.slice og q kg,.int .i64 tx,.int .u64 dx,.int .i64 sx] 30)).alloc (.cells #[.slice none 0 0,.slice none 0 0,.slice none 0 0,.slice none 0 0,.int .i64 0,.int .u64 0,.int .i64 0] 30)):=bel
   go_enter Tryz.func28,Tryz.ntmps28
   obtain⟨D1_c,D1_f,D1_z⟩:=D1.all
   go_wp2_with fail
   clear D1_c D1_f D1_z
   with_reducible refine (HVL.out _ _ (HA.out _ hbw)).mono ?_
   rintro e w1 ⟨rfl,hb1⟩
   replace D1:=D1.below hb1
   replace D2:=D2.below hb1
   replace hbw:=hbw.trans (hb1.mono hbw.size)
   clear hb1
   obtain⟨D2_c,D2_f,D2_z⟩:=D2.all
   obtain⟨D1_c,D1_f,D1_z⟩:=D1.all
   go_wp2_with fail
   refine bodyPost_ret (v:=(.tuple #[.agg #[.slice of n kf,.slice or' r kr,.slice om m km,.slice og q kg,.int .i64 tx,.int .u64 dx,.int .i64 sx],.string ⟨#[]⟩,.int .i64 3800])) (by simp [results,Tryz.results28,go_sem,D2_c]) rfl ?_
   exact⟨rfl,Below.fill7 hbw (by omega) _ _ _ _ _ _ _⟩
set_option maxRecDepth 100000 in
set_option maxHeartbeats 4000000 in
theorem rwrite_no (v:Value) (H:Ho) (i p:Int) (d:ByteArray) (w:World) (ha:HoAt w v H) (hf:H.Fit) (hsm:H.Small) (hb:¬(H.has i p∧d.size=128)):Calls Tryz.prog 29 #[v,.int .i64 i,.int .i64 p,.string d] w (Ret w (.tuple #[v,.int .i64 3800])):=by
 by_cases hok:H.Ok
 · have VLc:=fun v w h=>rhvalid_any v H true w h hf hsm (Iff.intro (fun _=>hok) (fun _=>rfl))
   have HVL:=lh VLc
   clear VLc
   have ISc:=fun v w h=>ris_any v H.P i p w h
   by_cases hi:H.P.is i p=true
   · rw[hi] at ISc
     have hh:H.has i p:=by
      refine Classical.byContradiction fun hc=>?_
      rw[Ho.is_no hok hc] at hi
      cases hi
     have h128:d.size≠128:=fun e=>hb ⟨hh,e⟩
     have hd1:((d.size:Int) != 128)=true:=by rw[bne_iff_ne];omega
     have hd2:(d.size != 128)=true:=by rw[bne_iff_ne];exact h128
     have HIS:=lh ISc
     clear ISc hb hok hf hsm hi hh h128
     obtain⟨of,or',om,og,kf,kr,km,kg,n,r,m,q,tx,dx,sx,HN,HR,HM,HQ,HT,HD,HS,rfl,kf1,kf2,kr1,kr2,km1,km2,kg1,kg2,h⟩:=HoAt.opened ha
     have h0:=h
     have HA:Hid (∀ w':World,Below w.heap.size w w'→HoAt w' (.agg #[.slice of n kf,.slice or' r kr,.slice om m km,.slice og q kg,.int .i64 tx,.int .u64 dx,.int .i64 sx]) H):=lh (fun w' hb=>by
      have:=(h0.below hb).at_
      rwa[HT.out,HD.out,HS.out] at this)
     have HPL:=lh h0.p
     clear h h0
     skip
     have D1:=(HasBlock.made w #[.slice of n kf,.slice or' r kr,.slice om m km,.slice og q kg,.int .i64 tx,.int .u64 dx,.int .i64 sx] 30).alloc (.cells #[.slice none 0 0,.slice none 0 0,.slice none 0 0,.slice none 0 0,.int .i64 0,.int .u64 0,.int .i64 0] 30)
     have D2:=HasBlock.made (w.alloc (.cells #[.slice of n kf,.slice or' r kr,.slice om m km,.slice og q kg,.int .i64 tx,.int .u64 dx,.int .i64 sx] 30)) #[.slice none 0 0,.slice none 0 0,.slice none 0 0,.slice none 0 0,.int .i64 0,.int .u64 0,.int .i64 0] 30
     rw[World.size_alloc] at D2
     have hbw:Below w.heap.size w ((w.alloc (.cells #[.slice of n kf,.slice or' r kr,.slice om m km,.slice og q kg,.int .i64 tx,.int .u64 dx,.int .i64 sx] 30)).alloc (.cells #[.slice none 0 0,.slice none 0 0,.slice none 0 0,.slice none 0 0,.int .i64 0,.int .u64 0,.int .i64 0] 30)):=bel
     go_enter Tryz.func29,Tryz.ntmps29
     obtain⟨D1_c,D1_f,D1_z⟩:=D1.all
     go_wp2_with fail
     clear D1_c D1_f D1_z
     with_reducible refine (HVL.out _ _ (HA.out _ hbw)).mono ?_
     rintro e w1 ⟨rfl,hb1⟩
     replace D1:=D1.below hb1
     replace D2:=D2.below hb1
     replace hbw:=hbw.trans (hb1.mono hbw.size)
     clear hb1
     obtain⟨D1_c,D1_f,D1_z⟩:=D1.all
     go_wp2_with fail
     clear D1_c D1_f D1_z
     with_reducible refine (HIS.out _ _ (HPL.out.below hbw)).mono ?_
     rintro e w2 ⟨rfl,hb2⟩
     replace D1:=D1.below hb2
     replace D2:=D2.below hb2
     replace hbw:=hbw.trans (hb2.mono hbw.size)
     clear hb2
     obtain⟨D2_c,D2_f,D2_z⟩:=D2.all
     obtain⟨D1_c,D1_f,D1_z⟩:=D1.all
     go_wp2_with fail
     refine bodyPost_ret (v:=(.tuple #[.agg #[.slice of n kf,.slice or' r kr,.slice om m km,.slice og q kg,.int .i64 tx,.int .u64 dx,.int .i64 sx],.int .i64 3800])) (by simp [results,Tryz.results29,go_sem,D2_c]) rfl ?_
     exact⟨rfl,Below.fill7 hbw (by omega) _ _ _ _ _ _ _⟩
   · rw[Bool.not_eq_true] at hi
     rw[hi] at ISc
     have HIS:=lh ISc
     clear ISc hb hok hf hsm hi
     obtain⟨of,or',om,og,kf,kr,km,kg,n,r,m,q,tx,dx,sx,HN,HR,HM,HQ,HT,HD,HS,rfl,kf1,kf2,kr1,kr2,km1,km2,kg1,kg2,h⟩:=HoAt.opened ha
     have h0:=h
     have HA:Hid (∀ w':World,Below w.heap.size w w'→HoAt w' (.agg #[.slice of n kf,.slice or' r kr,.slice om m km,.slice og q kg,.int .i64 tx,.int .u64 dx,.int .i64 sx]) H):=lh (fun w' hb=>by
      have:=(h0.below hb).at_
      rwa[HT.out,HD.out,HS.out] at this)
     have HPL:=lh h0.p
     clear h h0
     skip
     have D1:=(HasBlock.made w #[.slice of n kf,.slice or' r kr,.slice om m km,.slice og q kg,.int .i64 tx,.int .u64 dx,.int .i64 sx] 30).alloc (.cells #[.slice none 0 0,.slice none 0 0,.slice none 0 0,.slice none 0 0,.int .i64 0,.int .u64 0,.int .i64 0] 30)
     have D2:=HasBlock.made (w.alloc (.cells #[.slice of n kf,.slice or' r kr,.slice om m km,.slice og q kg,.int .i64 tx,.int .u64 dx,.int .i64 sx] 30)) #[.slice none 0 0,.slice none 0 0,.slice none 0 0,.slice none 0 0,.int .i64 0,.int .u64 0,.int .i64 0] 30
     rw[World.size_alloc] at D2
     have hbw:Below w.heap.size w ((w.alloc (.cells #[.slice of n kf,.slice or' r kr,.slice om m km,.slice og q kg,.int .i64 tx,.int .u64 dx,.int .i64 sx] 30)).alloc (.cells #[.slice none 0 0,.slice none 0 0,.slice none 0 0,.slice none 0 0,.int .i64 0,.int .u64 0,.int .i64 0] 30)):=bel
     go_enter Tryz.func29,Tryz.ntmps29
     obtain⟨D1_c,D1_f,D1_z⟩:=D1.all
     go_wp2_with fail
     clear D1_c D1_f D1_z
     with_reducible refine (HVL.out _ _ (HA.out _ hbw)).mono ?_
     rintro e w1 ⟨rfl,hb1⟩
     replace D1:=D1.below hb1
     replace D2:=D2.below hb1
     replace hbw:=hbw.trans (hb1.mono hbw.size)
     clear hb1
     obtain⟨D1_c,D1_f,D1_z⟩:=D1.all
     go_wp2_with fail
     clear D1_c D1_f D1_z
     with_reducible refine (HIS.out _ _ (HPL.out.below hbw)).mono ?_
     rintro e w2 ⟨rfl,hb2⟩
     replace D1:=D1.below hb2
     replace D2:=D2.below hb2
     replace hbw:=hbw.trans (hb2.mono hbw.size)
     clear hb2
     obtain⟨D2_c,D2_f,D2_z⟩:=D2.all
     obtain⟨D1_c,D1_f,D1_z⟩:=D1.all
     go_wp2_with fail
     refine bodyPost_ret (v:=(.tuple #[.agg #[.slice of n kf,.slice or' r kr,.slice om m km,.slice og q kg,.int .i64 tx,.int .u64 dx,.int .i64 sx],.int .i64 3800])) (by simp [results,Tryz.results29,go_sem,D2_c]) rfl ?_
     exact⟨rfl,Below.fill7 hbw (by omega) _ _ _ _ _ _ _⟩
 · have VLc:=fun v w h=>rhvalid_any v H false w h hf hsm (Iff.intro (fun e=>by cases e) (fun e=>absurd e hok))
   have HVL:=lh VLc
   clear VLc
   clear hb hok hf hsm
   obtain⟨of,or',om,og,kf,kr,km,kg,n,r,m,q,tx,dx,sx,HN,HR,HM,HQ,HT,HD,HS,rfl,kf1,kf2,kr1,kr2,km1,km2,kg1,kg2,h⟩:=HoAt.opened ha
   have h0:=h
   have HA:Hid (∀ w':World,Below w.heap.size w w'→HoAt w' (.agg #[.slice of n kf,.slice or' r kr,.slice om m km,.slice og q kg,.int .i64 tx,.int .u64 dx,.int .i64 sx]) H):=lh (fun w' hb=>by
    have:=(h0.below hb).at_
    rwa[HT.out,HD.out,HS.out] at this)
   have HPL:=lh h0.p
   clear h h0
   skip
   have D1:=(HasBlock.made w #[.slice of n kf,.slice or' r kr,.slice om m km,.slice og q kg,.int .i64 tx,.int .u64 dx,.int .i64 sx] 30).alloc (.cells #[.slice none 0 0,.slice none 0 0,.slice none 0 0,.slice none 0 0,.int .i64 0,.int .u64 0,.int .i64 0] 30)
   have D2:=HasBlock.made (w.alloc (.cells #[.slice of n kf,.slice or' r kr,.slice om m km,.slice og q kg,.int .i64 tx,.int .u64 dx,.int .i64 sx] 30)) #[.slice none 0 0,.slice none 0 0,.slice none 0 0,.slice none 0 0,.int .i64 0,.int .u64 0,.int .i64 0] 30
   rw[World.size_alloc] at D2
   have hbw:Below w.heap.size w ((w.alloc (.cells #[.slice of n kf,.slice or' r kr,.slice om m km,.slice og q kg,.int .i64 tx,.int .u64 dx,.int .i64 sx] 30)).alloc (.cells #[.slice none 0 0,.slice none 0 0,.slice none 0 0,.slice none 0 0,.int .i64 0,.int .u64 0,.int .i64 0] 30)):=bel
   go_enter Tryz.func29,Tryz.ntmps29
   obtain⟨D1_c,D1_f,D1_z⟩:=D1.all
   go_wp2_with fail
   clear D1_c D1_f D1_z
   with_reducible refine (HVL.out _ _ (HA.out _ hbw)).mono ?_
   rintro e w1 ⟨rfl,hb1⟩
   replace D1:=D1.below hb1
   replace D2:=D2.below hb1
   replace hbw:=hbw.trans (hb1.mono hbw.size)
   clear hb1
   obtain⟨D2_c,D2_f,D2_z⟩:=D2.all
   obtain⟨D1_c,D1_f,D1_z⟩:=D1.all
   go_wp2_with fail
   refine bodyPost_ret (v:=(.tuple #[.agg #[.slice of n kf,.slice or' r kr,.slice om m km,.slice og q kg,.int .i64 tx,.int .u64 dx,.int .i64 sx],.int .i64 3800])) (by simp [results,Tryz.results29,go_sem,D2_c]) rfl ?_
   exact⟨rfl,Below.fill7 hbw (by omega) _ _ _ _ _ _ _⟩
set_option maxRecDepth 100000 in
set_option maxHeartbeats 4000000 in
theorem rscan_no (v:Value) (H:Ho) (k:Int) (w:World) (ha:HoAt w v H) (hf:H.Fit) (hsm:H.Small) (hb:¬(H.Ok∧1≤k∧0<H.G.length)):Calls Tryz.prog 37 #[v,.int .i64 k] w (Ret w v):=by
 by_cases hok:H.Ok
 · have VLc:=fun v w h=>rhvalid_any v H true w h hf hsm (Iff.intro (fun _=>hok) (fun _=>rfl))
   have HVL:=lh VLc
   clear VLc
   by_cases hk:k<1
   · have t1:decide (k<1)=true:=decide_eq_true hk
     clear hb hok hf hsm
     obtain⟨of,or',om,og,kf,kr,km,kg,n,r,m,q,tx,dx,sx,HN,HR,HM,HQ,HT,HD,HS,rfl,kf1,kf2,kr1,kr2,km1,km2,kg1,kg2,h⟩:=HoAt.opened ha
     have h0:=h
     have HA:Hid (∀ w':World,Below w.heap.size w w'→HoAt w' (.agg #[.slice of n kf,.slice or' r kr,.slice om m km,.slice og q kg,.int .i64 tx,.int .u64 dx,.int .i64 sx]) H):=lh (fun w' hb=>by
      have:=(h0.below hb).at_
      rwa[HT.out,HD.out,HS.out] at this)
     have HPL:=lh h0.p
     clear h h0
     skip
     have D1:=(HasBlock.made w #[.slice of n kf,.slice or' r kr,.slice om m km,.slice og q kg,.int .i64 tx,.int .u64 dx,.int .i64 sx] 30).alloc (.cells #[.slice none 0 0,.slice none 0 0,.slice none 0 0,.slice none 0 0,.int .i64 0,.int .u64 0,.int .i64 0] 30)
     have D2:=HasBlock.made (w.alloc (.cells #[.slice of n kf,.slice or' r kr,.slice om m km,.slice og q kg,.int .i64 tx,.int .u64 dx,.int .i64 sx] 30)) #[.slice none 0 0,.slice none 0 0,.slice none 0 0,.slice none 0 0,.int .i64 0,.int .u64 0,.int .i64 0] 30
     rw[World.size_alloc] at D2
     have hbw:Below w.heap.size w ((w.alloc (.cells #[.slice of n kf,.slice or' r kr,.slice om m km,.slice og q kg,.int .i64 tx,.int .u64 dx,.int .i64 sx] 30)).alloc (.cells #[.slice none 0 0,.slice none 0 0,.slice none 0 0,.slice none 0 0,.int .i64 0,.int .u64 0,.int .i64 0] 30)):=bel
     go_enter Tryz.func37,Tryz.ntmps37
     obtain⟨D1_c,D1_f,D1_z⟩:=D1.all
     go_wp2_with fail
     clear D1_c D1_f D1_z
     with_reducible refine (HVL.out _ _ (HA.out _ hbw)).mono ?_
     rintro e w1 ⟨rfl,hb1⟩
     replace D1:=D1.below hb1
     replace D2:=D2.below hb1
     replace hbw:=hbw.trans (hb1.mono hbw.size)
     clear hb1
     obtain⟨D2_c,D2_f,D2_z⟩:=D2.all
     obtain⟨D1_c,D1_f,D1_z⟩:=D1.all
     go_wp2_with fail
     refine bodyPost_ret (v:=(.agg #[.slice of n kf,.slice or' r kr,.slice om m km,.slice og q kg,.int .i64 tx,.int .u64 dx,.int .i64 sx])) (by simp [results,Tryz.results37,go_sem,D2_c]) rfl ?_
     exact⟨rfl,Below.fill7 hbw (by omega) _ _ _ _ _ _ _⟩
   · have t1:decide (k<1)=false:=decide_eq_false hk
     have hG:H.G.length=0:=by
      refine Classical.byContradiction fun hc=>?_
      exact hb ⟨hok,by omega,by omega⟩
     clear hb hok hf hsm
     obtain⟨of,or',om,og,kf,kr,km,kg,n,r,m,q,tx,dx,sx,HN,HR,HM,HQ,HT,HD,HS,rfl,kf1,kf2,kr1,kr2,km1,km2,kg1,kg2,h⟩:=HoAt.opened ha
     have h0:=h
     have HA:Hid (∀ w':World,Below w.heap.size w w'→HoAt w' (.agg #[.slice of n kf,.slice or' r kr,.slice om m km,.slice og q kg,.int .i64 tx,.int .u64 dx,.int .i64 sx]) H):=lh (fun w' hb=>by
      have:=(h0.below hb).at_
      rwa[HT.out,HD.out,HS.out] at this)
     clear h h0
     have hq0:=HQ.out
     rw[hG] at hq0
     obtain rfl:=hq0
     have D1:=(HasBlock.made w (#[.slice of n kf,.slice or' r kr,.slice om m km,.slice og 0 kg,.int .i64 tx,.int .u64 dx,.int .i64 sx]) 30).alloc (.cells #[.slice none 0 0,.slice none 0 0,.slice none 0 0,.slice none 0 0,.int .i64 0,.int .u64 0,.int .i64 0] 30)
     have D2:=HasBlock.made (w.alloc (.cells #[.slice of n kf,.slice or' r kr,.slice om m km,.slice og 0 kg,.int .i64 tx,.int .u64 dx,.int .i64 sx] 30)) #[.slice none 0 0,.slice none 0 0,.slice none 0 0,.slice none 0 0,.int .i64 0,.int .u64 0,.int .i64 0] 30
     rw[World.size_alloc] at D2
     have hbw:Below w.heap.size w ((w.alloc (.cells #[.slice of n kf,.slice or' r kr,.slice om m km,.slice og 0 kg,.int .i64 tx,.int .u64 dx,.int .i64 sx] 30)).alloc (.cells #[.slice none 0 0,.slice none 0 0,.slice none 0 0,.slice none 0 0,.int .i64 0,.int .u64 0,.int .i64 0] 30)):=bel
     clear hG
     go_enter Tryz.func37,Tryz.ntmps37
     obtain⟨D1_c,D1_f,D1_z⟩:=D1.all
     go_wp2_with fail
     clear D1_c D1_f D1_z
     with_reducible refine (HVL.out _ _ (HA.out _ hbw)).mono ?_
     rintro e w1 ⟨rfl,hb1⟩
     replace D1:=D1.below hb1
     replace D2:=D2.below hb1
     replace hbw:=hbw.trans (hb1.mono hbw.size)
     clear hb1
     obtain⟨D2_c,D2_f,D2_z⟩:=D2.all
     obtain⟨D1_c,D1_f,D1_z⟩:=D1.all
     go_wp2_with fail
     refine bodyPost_ret (v:=(.agg #[.slice of n kf,.slice or' r kr,.slice om m km,.slice og 0 kg,.int .i64 tx,.int .u64 dx,.int .i64 sx])) (by simp [results,Tryz.results37,go_sem,D2_c]) rfl ?_
     exact⟨rfl,Below.fill7 hbw (by omega) _ _ _ _ _ _ _⟩
 · have VLc:=fun v w h=>rhvalid_any v H false w h hf hsm (Iff.intro (fun e=>by cases e) (fun e=>absurd e hok))
   have HVL:=lh VLc
   clear VLc
   clear hb hok hf hsm
   obtain⟨of,or',om,og,kf,kr,km,kg,n,r,m,q,tx,dx,sx,HN,HR,HM,HQ,HT,HD,HS,rfl,kf1,kf2,kr1,kr2,km1,km2,kg1,kg2,h⟩:=HoAt.opened ha
   have h0:=h
   have HA:Hid (∀ w':World,Below w.heap.size w w'→HoAt w' (.agg #[.slice of n kf,.slice or' r kr,.slice om m km,.slice og q kg,.int .i64 tx,.int .u64 dx,.int .i64 sx]) H):=lh (fun w' hb=>by
    have:=(h0.below hb).at_
    rwa[HT.out,HD.out,HS.out] at this)
   have HPL:=lh h0.p
   clear h h0
   skip
   have D1:=(HasBlock.made w #[.slice of n kf,.slice or' r kr,.slice om m km,.slice og q kg,.int .i64 tx,.int .u64 dx,.int .i64 sx] 30).alloc (.cells #[.slice none 0 0,.slice none 0 0,.slice none 0 0,.slice none 0 0,.int .i64 0,.int .u64 0,.int .i64 0] 30)
   have D2:=HasBlock.made (w.alloc (.cells #[.slice of n kf,.slice or' r kr,.slice om m km,.slice og q kg,.int .i64 tx,.int .u64 dx,.int .i64 sx] 30)) #[.slice none 0 0,.slice none 0 0,.slice none 0 0,.slice none 0 0,.int .i64 0,.int .u64 0,.int .i64 0] 30
   rw[World.size_alloc] at D2
   have hbw:Below w.heap.size w ((w.alloc (.cells #[.slice of n kf,.slice or' r kr,.slice om m km,.slice og q kg,.int .i64 tx,.int .u64 dx,.int .i64 sx] 30)).alloc (.cells #[.slice none 0 0,.slice none 0 0,.slice none 0 0,.slice none 0 0,.int .i64 0,.int .u64 0,.int .i64 0] 30)):=bel
   go_enter Tryz.func37,Tryz.ntmps37
   obtain⟨D1_c,D1_f,D1_z⟩:=D1.all
   go_wp2_with fail
   clear D1_c D1_f D1_z
   with_reducible refine (HVL.out _ _ (HA.out _ hbw)).mono ?_
   rintro e w1 ⟨rfl,hb1⟩
   replace D1:=D1.below hb1
   replace D2:=D2.below hb1
   replace hbw:=hbw.trans (hb1.mono hbw.size)
   clear hb1
   obtain⟨D2_c,D2_f,D2_z⟩:=D2.all
   obtain⟨D1_c,D1_f,D1_z⟩:=D1.all
   go_wp2_with fail
   refine bodyPost_ret (v:=(.agg #[.slice of n kf,.slice or' r kr,.slice om m km,.slice og q kg,.int .i64 tx,.int .u64 dx,.int .i64 sx])) (by simp [results,Tryz.results37,go_sem,D2_c]) rfl ?_
   exact⟨rfl,Below.fill7 hbw (by omega) _ _ _ _ _ _ _⟩
set_option maxRecDepth 100000 in
set_option maxHeartbeats 4000000 in
theorem rsample_no (v:Value) (H:Ho) (i k:Int) (w:World) (ha:HoAt w v H) (hf:H.Fit) (hsm:H.Small) (hb:¬(H.hasG i∧1≤k)):Calls Tryz.prog 31 #[v,.int .i64 i,.int .i64 k] w (Ret w (.tuple #[v,.bool false])):=by
 by_cases hok:H.Ok
 · have VLc:=fun v w h=>rhvalid_any v H true w h hf hsm (Iff.intro (fun _=>hok) (fun _=>rfl))
   have HVL:=lh VLc
   clear VLc
   by_cases h1:i<0
   · have t1:decide (i<0)=true:=decide_eq_true h1
     clear hb hok hf hsm
     obtain⟨of,or',om,og,kf,kr,km,kg,n,r,m,q,tx,dx,sx,HN,HR,HM,HQ,HT,HD,HS,rfl,kf1,kf2,kr1,kr2,km1,km2,kg1,kg2,h⟩:=HoAt.opened ha
     have h0:=h
     have HA:Hid (∀ w':World,Below w.heap.size w w'→HoAt w' (.agg #[.slice of n kf,.slice or' r kr,.slice om m km,.slice og q kg,.int .i64 tx,.int .u64 dx,.int .i64 sx]) H):=lh (fun w' hb=>by
      have:=(h0.below hb).at_
      rwa[HT.out,HD.out,HS.out] at this)
     have HPL:=lh h0.p
     clear h h0
     skip
     have D1:=(HasBlock.made w #[.slice of n kf,.slice or' r kr,.slice om m km,.slice og q kg,.int .i64 tx,.int .u64 dx,.int .i64 sx] 30).alloc (.cells #[.slice none 0 0,.slice none 0 0,.slice none 0 0,.slice none 0 0,.int .i64 0,.int .u64 0,.int .i64 0] 30)
     have D2:=HasBlock.made (w.alloc (.cells #[.slice of n kf,.slice or' r kr,.slice om m km,.slice og q kg,.int .i64 tx,.int .u64 dx,.int .i64 sx] 30)) #[.slice none 0 0,.slice none 0 0,.slice none 0 0,.slice none 0 0,.int .i64 0,.int .u64 0,.int .i64 0] 30
     rw[World.size_alloc] at D2
     have hbw:Below w.heap.size w ((w.alloc (.cells #[.slice of n kf,.slice or' r kr,.slice om m km,.slice og q kg,.int .i64 tx,.int .u64 dx,.int .i64 sx] 30)).alloc (.cells #[.slice none 0 0,.slice none 0 0,.slice none 0 0,.slice none 0 0,.int .i64 0,.int .u64 0,.int .i64 0] 30)):=bel
     go_enter Tryz.func31,Tryz.ntmps31
     obtain⟨D1_c,D1_f,D1_z⟩:=D1.all
     go_wp2_with fail
     clear D1_c D1_f D1_z
     with_reducible refine (HVL.out _ _ (HA.out _ hbw)).mono ?_
     rintro e w1 ⟨rfl,hb1⟩
     replace D1:=D1.below hb1
     replace D2:=D2.below hb1
     replace hbw:=hbw.trans (hb1.mono hbw.size)
     clear hb1
     obtain⟨D2_c,D2_f,D2_z⟩:=D2.all
     obtain⟨D1_c,D1_f,D1_z⟩:=D1.all
     go_wp2_with fail
     refine bodyPost_ret (v:=(.tuple #[.agg #[.slice of n kf,.slice or' r kr,.slice om m km,.slice og q kg,.int .i64 tx,.int .u64 dx,.int .i64 sx],.bool false])) (by simp [results,Tryz.results31,go_sem,D2_c]) rfl ?_
     exact⟨rfl,Below.fill7 hbw (by omega) _ _ _ _ _ _ _⟩
   · have t1:decide (i<0)=false:=decide_eq_false h1
     by_cases h2:i ≥ (H.G.length:Int)
     · clear hb hok hf hsm
       obtain⟨of,or',om,og,kf,kr,km,kg,n,r,m,q,tx,dx,sx,HN,HR,HM,HQ,HT,HD,HS,rfl,kf1,kf2,kr1,kr2,km1,km2,kg1,kg2,h⟩:=HoAt.opened ha
       have h0:=h
       have HA:Hid (∀ w':World,Below w.heap.size w w'→HoAt w' (.agg #[.slice of n kf,.slice or' r kr,.slice om m km,.slice og q kg,.int .i64 tx,.int .u64 dx,.int .i64 sx]) H):=lh (fun w' hb=>by
        have:=(h0.below hb).at_
        rwa[HT.out,HD.out,HS.out] at this)
       have HPL:=lh h0.p
       clear h h0
       have t2:decide (i ≥ (q:Int))=true:=decide_eq_true (by rw[←HQ.out];exact h2)
       have D1:=(HasBlock.made w #[.slice of n kf,.slice or' r kr,.slice om m km,.slice og q kg,.int .i64 tx,.int .u64 dx,.int .i64 sx] 30).alloc (.cells #[.slice none 0 0,.slice none 0 0,.slice none 0 0,.slice none 0 0,.int .i64 0,.int .u64 0,.int .i64 0] 30)
       have D2:=HasBlock.made (w.alloc (.cells #[.slice of n kf,.slice or' r kr,.slice om m km,.slice og q kg,.int .i64 tx,.int .u64 dx,.int .i64 sx] 30)) #[.slice none 0 0,.slice none 0 0,.slice none 0 0,.slice none 0 0,.int .i64 0,.int .u64 0,.int .i64 0] 30
       rw[World.size_alloc] at D2
       have hbw:Below w.heap.size w ((w.alloc (.cells #[.slice of n kf,.slice or' r kr,.slice om m km,.slice og q kg,.int .i64 tx,.int .u64 dx,.int .i64 sx] 30)).alloc (.cells #[.slice none 0 0,.slice none 0 0,.slice none 0 0,.slice none 0 0,.int .i64 0,.int .u64 0,.int .i64 0] 30)):=bel
       go_enter Tryz.func31,Tryz.ntmps31
       obtain⟨D1_c,D1_f,D1_z⟩:=D1.all
       go_wp2_with fail
       clear D1_c D1_f D1_z
       with_reducible refine (HVL.out _ _ (HA.out _ hbw)).mono ?_
       rintro e w1 ⟨rfl,hb1⟩
       replace D1:=D1.below hb1
       replace D2:=D2.below hb1
       replace hbw:=hbw.trans (hb1.mono hbw.size)
       clear hb1
       obtain⟨D2_c,D2_f,D2_z⟩:=D2.all
       obtain⟨D1_c,D1_f,D1_z⟩:=D1.all
       go_wp2_with fail
       refine bodyPost_ret (v:=(.tuple #[.agg #[.slice of n kf,.slice or' r kr,.slice om m km,.slice og q kg,.int .i64 tx,.int .u64 dx,.int .i64 sx],.bool false])) (by simp [results,Tryz.results31,go_sem,D2_c]) rfl ?_
       exact⟨rfl,Below.fill7 hbw (by omega) _ _ _ _ _ _ _⟩
     · have h3:k<1:=by
         refine Classical.byContradiction fun hc=>?_
         exact hb ⟨⟨hok,by omega,by omega⟩,by omega⟩
       have t3:decide (k<1)=true:=decide_eq_true h3
       clear hb hok hf hsm
       obtain⟨of,or',om,og,kf,kr,km,kg,n,r,m,q,tx,dx,sx,HN,HR,HM,HQ,HT,HD,HS,rfl,kf1,kf2,kr1,kr2,km1,km2,kg1,kg2,h⟩:=HoAt.opened ha
       have h0:=h
       have HA:Hid (∀ w':World,Below w.heap.size w w'→HoAt w' (.agg #[.slice of n kf,.slice or' r kr,.slice om m km,.slice og q kg,.int .i64 tx,.int .u64 dx,.int .i64 sx]) H):=lh (fun w' hb=>by
        have:=(h0.below hb).at_
        rwa[HT.out,HD.out,HS.out] at this)
       have HPL:=lh h0.p
       clear h h0
       have t2:decide (i ≥ (q:Int))=false:=decide_eq_false (by rw[←HQ.out];exact h2)
       have D1:=(HasBlock.made w #[.slice of n kf,.slice or' r kr,.slice om m km,.slice og q kg,.int .i64 tx,.int .u64 dx,.int .i64 sx] 30).alloc (.cells #[.slice none 0 0,.slice none 0 0,.slice none 0 0,.slice none 0 0,.int .i64 0,.int .u64 0,.int .i64 0] 30)
       have D2:=HasBlock.made (w.alloc (.cells #[.slice of n kf,.slice or' r kr,.slice om m km,.slice og q kg,.int .i64 tx,.int .u64 dx,.int .i64 sx] 30)) #[.slice none 0 0,.slice none 0 0,.slice none 0 0,.slice none 0 0,.int .i64 0,.int .u64 0,.int .i64 0] 30
       rw[World.size_alloc] at D2
       have hbw:Below w.heap.size w ((w.alloc (.cells #[.slice of n kf,.slice or' r kr,.slice om m km,.slice og q kg,.int .i64 tx,.int .u64 dx,.int .i64 sx] 30)).alloc (.cells #[.slice none 0 0,.slice none 0 0,.slice none 0 0,.slice none 0 0,.int .i64 0,.int .u64 0,.int .i64 0] 30)):=bel
       go_enter Tryz.func31,Tryz.ntmps31
       obtain⟨D1_c,D1_f,D1_z⟩:=D1.all
       go_wp2_with fail
       clear D1_c D1_f D1_z
       with_reducible refine (HVL.out _ _ (HA.out _ hbw)).mono ?_
       rintro e w1 ⟨rfl,hb1⟩
       replace D1:=D1.below hb1
       replace D2:=D2.below hb1
       replace hbw:=hbw.trans (hb1.mono hbw.size)
       clear hb1
       obtain⟨D2_c,D2_f,D2_z⟩:=D2.all
       obtain⟨D1_c,D1_f,D1_z⟩:=D1.all
       go_wp2_with fail
       refine bodyPost_ret (v:=(.tuple #[.agg #[.slice of n kf,.slice or' r kr,.slice om m km,.slice og q kg,.int .i64 tx,.int .u64 dx,.int .i64 sx],.bool false])) (by simp [results,Tryz.results31,go_sem,D2_c]) rfl ?_
       exact⟨rfl,Below.fill7 hbw (by omega) _ _ _ _ _ _ _⟩
 · have VLc:=fun v w h=>rhvalid_any v H false w h hf hsm (Iff.intro (fun e=>by cases e) (fun e=>absurd e hok))
   have HVL:=lh VLc
   clear VLc
   clear hb hok hf hsm
   obtain⟨of,or',om,og,kf,kr,km,kg,n,r,m,q,tx,dx,sx,HN,HR,HM,HQ,HT,HD,HS,rfl,kf1,kf2,kr1,kr2,km1,km2,kg1,kg2,h⟩:=HoAt.opened ha
   have h0:=h
   have HA:Hid (∀ w':World,Below w.heap.size w w'→HoAt w' (.agg #[.slice of n kf,.slice or' r kr,.slice om m km,.slice og q kg,.int .i64 tx,.int .u64 dx,.int .i64 sx]) H):=lh (fun w' hb=>by
    have:=(h0.below hb).at_
    rwa[HT.out,HD.out,HS.out] at this)
   have HPL:=lh h0.p
   clear h h0
   skip
   have D1:=(HasBlock.made w #[.slice of n kf,.slice or' r kr,.slice om m km,.slice og q kg,.int .i64 tx,.int .u64 dx,.int .i64 sx] 30).alloc (.cells #[.slice none 0 0,.slice none 0 0,.slice none 0 0,.slice none 0 0,.int .i64 0,.int .u64 0,.int .i64 0] 30)
   have D2:=HasBlock.made (w.alloc (.cells #[.slice of n kf,.slice or' r kr,.slice om m km,.slice og q kg,.int .i64 tx,.int .u64 dx,.int .i64 sx] 30)) #[.slice none 0 0,.slice none 0 0,.slice none 0 0,.slice none 0 0,.int .i64 0,.int .u64 0,.int .i64 0] 30
   rw[World.size_alloc] at D2
   have hbw:Below w.heap.size w ((w.alloc (.cells #[.slice of n kf,.slice or' r kr,.slice om m km,.slice og q kg,.int .i64 tx,.int .u64 dx,.int .i64 sx] 30)).alloc (.cells #[.slice none 0 0,.slice none 0 0,.slice none 0 0,.slice none 0 0,.int .i64 0,.int .u64 0,.int .i64 0] 30)):=bel
   go_enter Tryz.func31,Tryz.ntmps31
   obtain⟨D1_c,D1_f,D1_z⟩:=D1.all
   go_wp2_with fail
   clear D1_c D1_f D1_z
   with_reducible refine (HVL.out _ _ (HA.out _ hbw)).mono ?_
   rintro e w1 ⟨rfl,hb1⟩
   replace D1:=D1.below hb1
   replace D2:=D2.below hb1
   replace hbw:=hbw.trans (hb1.mono hbw.size)
   clear hb1
   obtain⟨D2_c,D2_f,D2_z⟩:=D2.all
   obtain⟨D1_c,D1_f,D1_z⟩:=D1.all
   go_wp2_with fail
   refine bodyPost_ret (v:=(.tuple #[.agg #[.slice of n kf,.slice or' r kr,.slice om m km,.slice og q kg,.int .i64 tx,.int .u64 dx,.int .i64 sx],.bool false])) (by simp [results,Tryz.results31,go_sem,D2_c]) rfl ?_
   exact⟨rfl,Below.fill7 hbw (by omega) _ _ _ _ _ _ _⟩
set_option maxRecDepth 100000 in
set_option maxHeartbeats 4000000 in
theorem radd_no (v:Value) (H:Ho) (cr cl cs cp ca q0:Int) (w:World) (ha:HoAt w v H) (hf:H.Fit) (hsm:H.Small) (hb:¬H.Ok):Calls Tryz.prog 27 #[v,.agg #[.int .i64 cr,.int .i64 cl,.int .i64 cs,.int .i64 cp,.int .i64 ca],.int .i64 q0] w (Ret w (.tuple #[v,.int .i64 3800])):=by
 have VLc:=fun v w h=>rhvalid_any v H false w h hf hsm (Iff.intro (fun e=>by cases e) (fun e=>absurd e hb))
 have HVL:=lh VLc
 clear VLc
 clear hb hf hsm
 obtain⟨of,or',om,og,kf,kr,km,kg,n,r,m,q,tx,dx,sx,HN,HR,HM,HQ,HT,HD,HS,rfl,kf1,kf2,kr1,kr2,km1,km2,kg1,kg2,h⟩:=HoAt.opened ha
 have h0:=h
 have HA:Hid (∀ w':World,Below w.heap.size w w'→HoAt w' (.agg #[.slice of n kf,.slice or' r kr,.slice om m km,.slice og q kg,.int .i64 tx,.int .u64 dx,.int .i64 sx]) H):=lh (fun w' hb=>by
  have:=(h0.below hb).at_
  rwa[HT.out,HD.out,HS.out] at this)
 clear h h0
 have D1:=((HasBlock.made w #[.slice of n kf,.slice or' r kr,.slice om m km,.slice og q kg,.int .i64 tx,.int .u64 dx,.int .i64 sx] 30).alloc (.cells #[.int .i64 cr,.int .i64 cl,.int .i64 cs,.int .i64 cp,.int .i64 ca] 32)).alloc (.cells #[.slice none 0 0,.slice none 0 0,.slice none 0 0,.slice none 0 0,.int .i64 0,.int .u64 0,.int .i64 0] 30)
 have D2:=HasBlock.made ((w.alloc (.cells #[.slice of n kf,.slice or' r kr,.slice om m km,.slice og q kg,.int .i64 tx,.int .u64 dx,.int .i64 sx] 30)).alloc (.cells #[.int .i64 cr,.int .i64 cl,.int .i64 cs,.int .i64 cp,.int .i64 ca] 32)) #[.slice none 0 0,.slice none 0 0,.slice none 0 0,.slice none 0 0,.int .i64 0,.int .u64 0,.int .i64 0] 30
 rw[World.size_alloc,World.size_alloc] at D2
 have hbw:Below w.heap.size w (((w.alloc (.cells #[.slice of n kf,.slice or' r kr,.slice om m km,.slice og q kg,.int .i64 tx,.int .u64 dx,.int .i64 sx] 30)).alloc (.cells #[.int .i64 cr,.int .i64 cl,.int .i64 cs,.int .i64 cp,.int .i64 ca] 32)).alloc (.cells #[.slice none 0 0,.slice none 0 0,.slice none 0 0,.slice none 0 0,.int .i64 0,.int .u64 0,.int .i64 0] 30)):=(((Below.refl _ _).alloc (nlr _) _).alloc (by simp only[sizes];omega) _).alloc (by simp only[sizes];omega) _
 go_enter Tryz.func27,Tryz.ntmps27
 obtain⟨D1_c,D1_f,D1_z⟩:=D1.all
 go_wp2_with fail
 clear D1_c D1_f D1_z
 with_reducible refine (HVL.out _ _ (HA.out _ hbw)).mono ?_
 rintro e w1 ⟨rfl,hb1⟩
 replace D1:=D1.below hb1
 replace D2:=D2.below hb1
 replace hbw:=hbw.trans (hb1.mono hbw.size)
 clear hb1
 obtain⟨D2_c,D2_f,D2_z⟩:=D2.all
 obtain⟨D1_c,D1_f,D1_z⟩:=D1.all
 go_wp2_with fail
 refine bodyPost_ret (v:=(.tuple #[.agg #[.slice of n kf,.slice or' r kr,.slice om m km,.slice og q kg,.int .i64 tx,.int .u64 dx,.int .i64 sx],.int .i64 3800])) (by simp [results,Tryz.results27,go_sem,D2_c]) rfl ?_
 exact⟨rfl,Below.fill7 hbw (by omega) _ _ _ _ _ _ _⟩
def chF (r:List Bool) (x:Int):Nat→Nat→List Bool→Option (Nat×List Bool×Nat)
 | 0,_,_=>none
 | k+1,a,u=>if (r[a]?).getD false=false∨(a:Int)=x then chF r x k ((a+1) % r.length) u
   else if (u[a]?).getD false=true then chF r x k ((a+1) % r.length) (u.set a false)
   else some (a,u,(a+1) % r.length)
def chO (u r:List Bool) (h:Nat) (x:Int):Option (Nat×List Bool×Nat):=chF r x (2*r.length) h u
def RetVic (n:Nat) (o:Option (Nat×List Bool×Nat)) (w:World) (e:Ending) (w':World):Prop:=∃ (ao:Option Addr) (cap:Nat) (u:List Bool) (v h:Int),e=.returned (.tuple #[.int .i64 v,.slice ao n cap,.int .i64 h])∧OwnBool w.heap.size w' (.slice ao n cap) u∧Below w.heap.size w w'∧(match o with|none=>v = -1|some (a,U,q)=>v=a∧u=U∧h=q)
theorem emod_next (j n:Nat):((j:Int)+1).tmod n=((j+1) % n:Nat):=by
 rw[show ((j:Int)+1)=((j+1:Nat):Int) from by omega,Int.tmod_eq_emod_of_nonneg (by omega)]
 exact (Int.natCast_emod _ _).symm
set_option maxRecDepth 100000 in
set_option maxHeartbeats 4000000 in
theorem chance_any (uo ro:Option Addr) (uc rc n:Nat) (u r:List Bool) (h:Nat) (x:Int) (w:World) (hu:BoolRow w (.slice uo n uc) u) (hr:BoolRow w (.slice ro n rc) r) (hul:u.length=n) (hrl:r.length=n) (h1:1≤n) (h32:n≤32) (hh:h<n):Calls Tryz.prog 98 #[.slice uo n uc,.slice ro n rc,.int .i64 h,.int .i64 x] w (RetVic n (chO u r h x) w):=by
 have hun:∀ (k a:Nat) (U:List Bool),chF r x (k+1) a U=if (r[a]?).getD false=false∨(a:Int)=x then chF r x k ((a+1) % n) U
  else if (U[a]?).getD false=true then chF r x k ((a+1) % n) (U.set a false)
  else some (a,U,(a+1) % n):=fun k a U=>by rw[chF,hrl]
 have hvo:chO u r h x=chF r x (2*n) h u:=by unfold chO;rw[hrl]
 rw[hvo]
 clear hvo
 obtain⟨o,ho⟩:∃ o,chF r x (2*n) h u=o:=⟨_,rfl⟩
 rw[ho]
 have h0v:∀ (a:Nat) (U:List Bool),chF r x 0 a U=none:=fun _ _=>rfl
 have HUN:=lh hun;clear hun
 have H0V:=lh h0v;clear h0v
 have HO:=lh ho;clear ho
 have HU:=lh hu;clear hu
 have HR:=lh hr;clear hr
 have HUL:=lh hul;clear hul
 have HRL:=lh hrl;clear hrl
 have hn0:((n:Int) == 0)=false:=by rw[beq_eq_false_iff_ne];omega
 go_enter Tryz.func98,Tryz.ntmps98
 go_wp2_with fail
 with_reducible refine (clone_bool _ u _ HU.out (by rw[HUL.out];omega)).mono ?_
 rintro e w1 ⟨v1,rfl,o1,hbw⟩
 obtain⟨vo,vc,rfl,_,_⟩:=o1.formN HUL.out
 have e1:((n:Int) != (n:Int))=false:=by simp
 go_wp2_with fail
 go_loopw [13,44] (fun av iv wr=>∃ (i a:Nat) (U:List Bool),i≤2*n∧a<n∧av=.int .i64 a∧iv=.int .i64 i∧Hid (U.length=n)∧Hid (chF r x (2*n - i) a U=o)∧OwnBool w.heap.size wr (.slice vo n vc) U∧Below w.heap.size w wr) (fun _ iv _=>2*n - (intOf iv).toNat)
 case atStart=>exact⟨0,h,u,by omega,hh,rfl,rfl,HUL,by rw[Nat.sub_zero];exact HO.out,o1,hbw⟩
 case round =>
  clear o1 hbw
  obtain⟨i,a,U,hi,han,rfl,rfl,HL,HV,o1,hbw⟩:=hrel
  by_cases hlt:i<2*n
  · obtain⟨rb,hrb⟩:=get_lt (xs:=r) (k:=a) (by rw[HRL.out];exact han)
    obtain⟨ub,hub⟩:=get_lt (xs:=U) (k:=a) (by rw[HL.out];exact han)
    obtain⟨fb,foff,rfl,hfb,cf0⟩:=HR.out.elem hrb
    have cf:=(hbw.cell (p:=⟨fb,foff+a,none⟩) hfb).trans cf0
    obtain⟨gv,rfl,q1,q2⟩:=o1.addr HL.out (by omega)
    obtain⟨cu,fu⟩:=o1.at hub
    have hstep:=HUN.out (2*n - i - 1) a U
    rw[show 2*n - i - 1+1=2*n - i from by omega,HV.out,hrb,hub] at hstep
    dsimp only[Option.getD] at hstep
    have hmod:=emod_next a n
    have hmn:(a+1) % n<n:=Nat.mod_lt _ (by omega)
    obtain⟨a2,ha2⟩:∃ y,(a+1) % n=y:=⟨_,rfl⟩
    rw[ha2] at hmod hmn hstep
    have hwr:IntKind.i64.wrap (a2:Int)=(a2:Int):=IntWalk.i64_in _ (by omega)
    have HST:=lh hstep;clear hstep hrb hub ha2 HV
    have a0:(0:Int)≤(a:Int):=by omega
    have an:(a:Int)<(n:Int):=by omega
    have hi2:(i:Int)<2*(n:Int):=by omega
    cases rb
    · have hst:=HST.out
      rw[if_pos (.inl rfl)] at hst
      have HS2:=lh hst;clear hst HST
      go_wp2_with fail
      go_roundw
      case rel=>exact⟨i+1,a2,U,by omega,hmn,by first|rfl|go_num,by go_num,HL,HS2.out.symm,o1,hbw⟩
      case measure=>simp [intOf];omega
    · by_cases hax:(a:Int)=x
      · have hst:=HST.out
        rw[if_pos (.inr hax)] at hst
        have HS2:=lh hst;clear hst HST
        have e2:((a:Int) == x)=true:=by rw[beq_iff_eq];exact hax
        have HAX:=lh hax;clear hax
        go_wp2_with fail
        go_roundw
        case rel=>exact⟨i+1,a2,U,by omega,hmn,by first|rfl|go_num,by go_num,HL,HS2.out.symm,o1,hbw⟩
        case measure=>simp [intOf];omega
      · have hst:=HST.out
        rw[if_neg (by rintro (h|h);cases h;exact hax h)] at hst
        have e2:((a:Int) == x)=false:=by rw[beq_eq_false_iff_ne];exact hax
        clear hax HST
        cases ub
        · rw[if_neg (by decide)] at hst
          have HS2:=lh hst;clear hst
          go_wp2_with fail
          refine wp_region_quiet_below (by kernel_rfl) (by kernel_rfl) ?_
          repeat (go_big_quiet_step (first|fail|fail))
          refine wpQuiet_nil ?_
          intro w5 hw5
          have hb5:=below_of_regrown hw5
          clear hw5
          obtain⟨hc5,hf5⟩:=bcell hb5
          have hz5:=bsize hb5
          try simp only[sizes1] at hz5
          try simp only[sizes] at hc5 hf5
          have o5:=o1.below hb5
          have hbw5:=hbw.trans (hb5.mono hbw.size)
          clear hc5 hf5 hz5 hb5
          go_wp2_with fail
          go_ret3
          exact⟨_,_,U,_,_,rfl,o5,hbw5,by rw[HS2.out];exact⟨rfl,rfl,rfl⟩⟩
        · rw[if_pos rfl] at hst
          have HS2:=lh hst;clear hst
          go_wp2_with fail
          go_roundw
          case rel=>exact⟨i+1,a2,U.set a false,by omega,hmn,by first|rfl|go_num,by go_num,by unfold Hid;rw[List.length_set];exact HL.out,HS2.out.symm,o1.put _ _,hbw.setCell (by dsimp only;omega) _⟩
          case measure=>simp [intOf];omega
  · obtain rfl:i=2*n:=by omega
    have hv:=HV.out
    rw[Nat.sub_self,H0V.out] at hv
    have HV2:=lh hv;clear hv HV
    go_wp2_with fail
    go_ret3
    exact⟨_,_,U,_,_,rfl,o1,hbw,by rw[←HV2.out]⟩
set_option maxHeartbeats 1000000 in
theorem bits_Next_any (s:Int) (w:World) (_hs:0≤s∧s<18446744073709551616):Calls Tryz.prog 93 #[.int .u64 s] w (Ret w (.tuple #[.int .u64 (nextV s),.int .u64 (nextS s)])):=by
 go_enter Tryz.func93,Tryz.ntmps93
 go_wp2
 go_ret2
 exact Ret.mk' (by unfold nextV nextZ2 nextZ1 nextS;rfl) bel
def hitD (d:List Bool) (j:Nat):Bool:=d[j]?.getD false
def gap (d:List Bool) (pages i:Nat):Nat:=(List.range pages).findIdx (fun j => !hitD d ((i+j) % pages))
def probe (d:List Bool) (pages i:Nat):Nat:=(i+gap d pages i) % pages
theorem gap_lt {d:List Bool} {pages i:Nat} (hi:i<pages) (h:∃ j,j<pages∧hitD d j=false):gap d pages i<pages∧hitD d ((i+gap d pages i) % pages)=false:=by
 obtain⟨j,hj,hf⟩:=h
 have hlt:gap d pages i<(List.range pages).length:=by
  rw[gap,List.findIdx_lt_length]
  refine ⟨(j+pages - i) % pages,?_,?_⟩
  · rw[List.mem_range];exact Nat.mod_lt _ (by omega)
  · have e:(i+(j+pages - i) % pages) % pages=j:=by
      rw[Nat.add_mod_mod,show i+(j+pages - i)=j+pages from by omega,Nat.add_mod_right,Nat.mod_eq_of_lt hj]
    rw[e,hf];rfl
 refine ⟨by simpa using hlt,?_⟩
 have h1:∀ (x:Nat) (hx:x<(List.range pages).length),(List.range pages)[x]=x:=fun x hx=>by simp
 have h2:(!hitD d ((i+(List.range pages)[gap d pages i]) % pages))=true:=List.findIdx_getElem (w:=hlt) (p:=fun j => !hitD d ((i+j) % pages))
 rw[h1] at h2
 simpa using h2
theorem gap_before {d:List Bool} {pages i j:Nat} (h:j<gap d pages i) (_hp:j<pages):hitD d ((i+j) % pages)=true:=by
 have:=List.not_of_lt_findIdx (p:=fun j => !hitD d ((i+j) % pages)) (xs:=List.range pages) (i:=j) h
 simpa using this
theorem gap_le {d:List Bool} {pages i j:Nat} (hp:j<pages) (h:hitD d ((i+j) % pages)=false):gap d pages i≤j:=by
 by_cases hc:gap d pages i≤j
 · exact hc
 · have:=gap_before (d:=d) (pages:=pages) (i:=i) (j:=j) (by omega) hp
   rw[h] at this;cases this
theorem gap_zero {d:List Bool} {pages i:Nat} (hi:i<pages) (h:hitD d i=false):gap d pages i=0:=by
 have:=gap_le (d:=d) (pages:=pages) (i:=i) (j:=0) (by omega) (by rw[Nat.add_zero,Nat.mod_eq_of_lt hi];exact h)
 omega
theorem gap_step {d:List Bool} {pages i:Nat} (hi:i<pages) (h:hitD d i=true) (hx:∃ j,j<pages∧hitD d j=false) :
    gap d pages ((i+1) % pages)+1=gap d pages i:=by
 obtain⟨g1,g2⟩:=gap_lt hi hx
 have h1:gap d pages i≠0:=by
  intro e
  rw[e,Nat.add_zero,Nat.mod_eq_of_lt hi,h] at g2
  cases g2
 have hi':(i+1) % pages<pages:=Nat.mod_lt _ (by omega)
 obtain⟨k1,k2⟩:=gap_lt hi' hx
 have a1:gap d pages ((i+1) % pages)≤gap d pages i - 1:=by
  apply gap_le (by omega)
  rw[Nat.mod_add_mod,show i+1+(gap d pages i - 1)=i+gap d pages i from by omega]
  exact g2
 have a2:gap d pages i≤gap d pages ((i+1) % pages)+1:=by
  apply gap_le (by omega)
  rw[Nat.mod_add_mod,show i+1+gap d pages ((i+1) % pages)=i+(gap d pages ((i+1) % pages)+1) from by omega] at k2
  exact k2
 omega
theorem probe_zero {d:List Bool} {pages i:Nat} (hi:i<pages) (h:hitD d i=false):probe d pages i=i:=by
 unfold probe;rw[gap_zero hi h,Nat.add_zero,Nat.mod_eq_of_lt hi]
theorem probe_step {d:List Bool} {pages i:Nat} (hi:i<pages) (h:hitD d i=true) (hx:∃ j,j<pages∧hitD d j=false):probe d pages ((i+1) % pages)=probe d pages i:=by
 unfold probe
 rw[←gap_step hi h hx,Nat.mod_add_mod]
 congr 1
 omega
theorem probe_lt {d:List Bool} {pages i:Nat} (hp:0<pages):probe d pages i<pages:=Nat.mod_lt _ hp
theorem emod_succ (j n:Nat):((j:Int)+1) % n=((j+1) % n:Nat):=by
 rw[Int.natCast_emod];rfl
def U64 (x:Int):Prop:=0≤x∧x<18446744073709551616
structure Sam where
 seed:Int
 d:List Bool
 out:List Int
def samStep (pages:Nat) (q:Sam):Sam :=
 ⟨nextS q.seed,q.d.set (probe q.d pages (nextV q.seed % pages).toNat) true,q.out++[(probe q.d pages (nextV q.seed % pages).toNat:Int)]⟩
def samF (pages:Nat) (seed:Int):Nat→Sam
 | 0=>⟨seed,List.replicate pages false,[]⟩
 | k+1=>samStep pages (samF pages seed k)
def trues (d:List Bool):Nat:=d.countP id
theorem trues_set:∀ (d:List Bool) (i:Nat),i<d.length→hitD d i=false→trues (d.set i true)=trues d+1
 | [],i,h,_=>by simp at h
 | b :: d,0,_,h=>by
   simp [hitD] at h
   subst h
   simp [trues]
 | b :: d,i+1,hl,h=>by
   have:=trues_set d i (by simpa using hl) (by simpa [hitD] using h)
   unfold trues at *
   simp only[List.set_cons_succ,List.countP_cons,this]
   omega
theorem free_of {d:List Bool} {pages:Nat} (hl:d.length=pages) (h:trues d<pages):∃ j,j<pages∧hitD d j=false:=by
 rw[←hl] at h
 have:¬∀ b∈d,id b=true:=fun hall=>by
  have:=List.countP_eq_length.2 hall
  unfold trues at h
  omega
 simp only[id_eq,Classical.not_forall] at this
 obtain⟨b,hb,hf⟩:=this
 obtain⟨j,hj⟩:=List.getElem?_of_mem hb
 refine ⟨j,by rw[←hl];exact (List.getElem?_eq_some_iff.1 hj).1,?_⟩
 unfold hitD
 rw[hj]
 simpa using hf
theorem hitD_set {d:List Bool} {i j:Nat} (hi:i<d.length):hitD (d.set i true) j=(decide (i=j) || hitD d j):=by
 unfold hitD
 rw[List.getElem?_set]
 split
 · rename_i h;subst h;simp [hi]
 · rename_i h;simp [h]
structure SamOk (pages k:Nat) (q:Sam):Prop where
 seed:U64 q.seed
 len:q.d.length=pages
 cnt:trues q.d=k
 olen:q.out.length=k
 range:∀ x∈q.out,0≤x∧x<pages
 drawn:∀ x∈q.out,hitD q.d x.toNat=true
 nodup:q.out.Nodup
theorem mod_toNat_lt (x:Int) (n:Nat) (h:0<n):(x % n).toNat<n:=by
 have h1:=Int.emod_lt_of_pos x (show (0:Int)<n by omega)
 have h2:=Int.emod_nonneg x (show (n:Int)≠0 by omega)
 omega
theorem nextS_u64 (s:Int):U64 (nextS s):=nextS_bd s
theorem samOk_put (pages k i:Nat) (q:Sam) (s:Int) (hs:U64 s) (hlt:i<pages) (hnew:hitD q.d i=false) (ih:SamOk pages k q):SamOk pages (k+1) ⟨s,q.d.set i true,q.out++[(i:Int)]⟩:=by
 have hl:i<q.d.length:=by rw[ih.len];exact hlt
 constructor
 · exact hs
 · exact (List.length_set ..).trans ih.len
 · exact (trues_set _ _ hl hnew).trans (by rw[ih.cnt])
 · exact (List.length_append).trans (by rw[ih.olen];rfl)
 · intro x hx
   rw[List.mem_append,List.mem_singleton] at hx
   rcases hx with hx|rfl
   · exact ih.range x hx
   · omega
 · intro x hx
   dsimp only
   rw[List.mem_append,List.mem_singleton] at hx
   rw[hitD_set hl]
   rcases hx with hx|rfl
   · rw[ih.drawn x hx,Bool.or_true]
   · simp
 · dsimp only
   rw[List.nodup_append]
   refine ⟨ih.nodup,by simp,?_⟩
   intro x hx y hy
   rw[List.mem_singleton] at hy
   subst hy
   rintro rfl
   have:=ih.drawn _ hx
   rw[Int.toNat_natCast,hnew] at this
   cases this
theorem samOk_step (pages k:Nat) (q:Sam) (hk:k<pages) (ih:SamOk pages k q):SamOk pages (k+1) (samStep pages q):=by
 unfold samStep
 have hi0:(nextV q.seed % pages).toNat<pages:=mod_toNat_lt _ _ (by omega)
 generalize (nextV q.seed % pages).toNat=x at hi0 ⊢
 exact samOk_put pages k (probe q.d pages x) q (nextS q.seed) (nextS_u64 _) (probe_lt (by omega)) (gap_lt hi0 (free_of ih.len (by rw[ih.cnt];exact hk))).2 ih
theorem samOk (pages:Nat) (seed:Int) (hs:U64 seed) (k:Nat) (hk:k≤pages):SamOk pages k (samF pages seed k):=by
 induction k with
 | zero=>exact⟨hs,List.length_replicate,by simp [samF,trues,List.countP_replicate],rfl,by simp [samF],by simp [samF],by simp [samF]⟩
 | succ k ih=>exact samOk_step pages k _ (by omega) (ih (by omega))
end Go.Proofs.YtbnngjhnkegliaaGreat
