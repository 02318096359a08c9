/-
  Texts joined: HoAdd. No law is proved here.
-/
import Derived.Test.YtbnngjhnkegliaaGreatB29
namespace Go.Proofs.YtbnngjhnkegliaaGreat
open Go.RowKit
theorem grown_all {base B bq:Nat} {w0 w1 w2:World} {vf vr vm vg:Value} {us:List Value} {gs:List Gv} {H:Ho} {cs:Array Value} (hg:w1.grownBy w2 vg.ownBlock) (hb:Below w0.heap.size w0 w1) (hO:OwnH base w0 vf vr vm us vg gs H) (hD:HasBlock w0 B cs 30) (hz:base≤w0.heap.size) (hq:bq=base):HasBlock w2 B cs 30∧Below bq w0 w2:=by
 subst hq
 have hO1:=hO.below hb
 have hD1:=hD.below hb
 exact⟨(hg.block B hD1.lt (fun e=>own_off hO1.g hD1 (by decide) e.symm)).trans hD1,below_grown (hb.mono hz) hO1.g hg (nlr _) (Nat.le_trans hz hb.size)⟩
theorem pushN {base bS bU bE q m:Nat} {w0 w1 w2:World} {vf vr vm vg vg':Value} {us:List Value} {gs:List Gv} {P:Pl} {G:List Gm} {t d n:Int} {c:Clm} (hg:w1.grownBy w2 vg.ownBlock) (hO:OwnH base w0 vf vr vm us vg gs ⟨P,G,t,d,n⟩)
    (hm:G.length=m) (hown:w2.ownsRow base 49 9 vg' (m+1) (gmFlat G gs++[.int .i64 c.r,.int .i64 c.l,.int .i64 c.s,.int .i64 c.p,.int .i64 c.a,.slice (some ⟨bS,0,none⟩) q q,.slice (some ⟨bU,0,none⟩) q q,.int .i64 0,.slice (some ⟨bE,0,none⟩) q q]))
    (hb:Below w0.heap.size w0 w1) (hS:HasBlock w1 bS (cellsF q) 9) (hU:HasBlock w1 bU (boolArr (List.replicate q false)) 4) (hE:HasBlock w1 bE (boolArr (List.replicate q false)) 4) (h1:w0.heap.size≤bS) (h2:w0.heap.size≤bU) (h3:w0.heap.size≤bE) (hne:bU≠bE) (hz:base≤w0.heap.size) (hq:q≤1000000) :
    OwnH base w2 vf vr vm us vg' (gs++[⟨.slice (some ⟨bS,0,none⟩) q q,.slice (some ⟨bU,0,none⟩) q q,.slice (some ⟨bE,0,none⟩) q q⟩]) ⟨P,G++[newG c q],t,d,n⟩:=by
 subst hm
 have hO1:=hO.below hb
 have ob:∀ {b k:Nat},(Value.slice (some ⟨b,0,none⟩) q q).ownBlock=some k→b=k:=fun h=>Option.some.inj h
 refine hO1.pushG (B:=w0.heap.size) (g:=newG c q) (own_enc hS (List.length_replicate ..) hq (by omega)) (own_enc hU (List.length_replicate ..) hq (by omega)) (own_enc hE (List.length_replicate ..) hq (by omega)) ?_ (fun k hk=>by rw[←ob hk];exact h1) (fun k hk=>by rw[←ob hk];exact h2) (fun k hk=>by rw[←ob hk];exact h3) (fun k hk hk2=>hne ((ob hk).trans (ob hk2).symm)) hown hg
 exact hO.lt
set_option maxRecDepth 100000 in
set_option maxHeartbeats 8000000 in
theorem hadd_ok (v:Value) (H:Ho) (cr cl cs cp ca q0:Int) (w:World) (ha:HoAt w v H) (hok:H.Ok) (hcb : -9223372036854775808≤cp∧cp≤9223372036854775807):Calls Tryz.prog 16 #[v,.agg #[.int .i64 cr,.int .i64 cl,.int .i64 cs,.int .i64 cp,.int .i64 ca],.int .i64 q0] w (RetHoB (fun v=>.tuple #[v,.int .i64 (H.addC ⟨cr,cl,cs,cp,ca⟩ q0)]) (H.addTo ⟨cr,cl,cs,cp,ca⟩ q0) w):=by
 have CL:=fun v w h=>hclone_ok v H w h hok
 have HV0:=fun v w h=>hvalid_ok v H w h hok
 have HCL:=lh CL;clear CL
 have HHS:=lh HV0;clear HV0
 have hbd:=hok.bounds
 obtain⟨code,hcode⟩:∃ x,H.addC ⟨cr,cl,cs,cp,ca⟩ q0=x:=⟨_,rfl⟩
 obtain⟨HH,hHH⟩:∃ x,H.addTo ⟨cr,cl,cs,cp,ca⟩ q0=x:=⟨_,rfl⟩
 rw[hcode,hHH]
 have HCODE:=lh hcode;clear hcode
 have HHH:=lh hHH;clear hHH
 obtain⟨of,or',om,og,kf,kr,km,kg,n,r,m,q,tx,dx,sx,HN,HR,HM,HQ,HT,HD,HS,rfl,kf1,kf2,kr1,kr2,km1,km2,kg1,kg2,h⟩:=HoAt.opened ha
 rw[HN.out,HR.out,HM.out,HQ.out] at hbd
 have h0:=h
 have HVA:Hid (∀ w':World,Below w.heap.size w w'→HoAt w' (.agg #[.slice of n kf,.slice or' r kr,.slice om m km,.slice og q kg,.int .i64 tx,.int .u64 dx,.int .i64 sx]) H):=lh (fun w' hb=>by
  have:=(h0.below hb).at_
  rwa[HT.out,HD.out,HS.out] at this)
 have H0:=lh h0
 clear h h0
 have D1:=((HasBlock.made w #[.slice of n kf,.slice or' r kr,.slice om m km,.slice og q kg,.int .i64 tx,.int .u64 dx,.int .i64 sx] 30).alloc (.cells #[.int .i64 cr,.int .i64 cl,.int .i64 cs,.int .i64 cp,.int .i64 ca] 32)).alloc (.cells #[.slice none 0 0,.slice none 0 0,.slice none 0 0,.slice none 0 0,.int .i64 0,.int .u64 0,.int .i64 0] 30)
 have DC:=(HasBlock.made (w.alloc (.cells #[.slice of n kf,.slice or' r kr,.slice om m km,.slice og q kg,.int .i64 tx,.int .u64 dx,.int .i64 sx] 30)) #[.int .i64 cr,.int .i64 cl,.int .i64 cs,.int .i64 cp,.int .i64 ca] 32).alloc (.cells #[.slice none 0 0,.slice none 0 0,.slice none 0 0,.slice none 0 0,.int .i64 0,.int .u64 0,.int .i64 0] 30)
 have D2:=HasBlock.made ((w.alloc (.cells #[.slice of n kf,.slice or' r kr,.slice om m km,.slice og q kg,.int .i64 tx,.int .u64 dx,.int .i64 sx] 30)).alloc (.cells #[.int .i64 cr,.int .i64 cl,.int .i64 cs,.int .i64 cp,.int .i64 ca] 32)) #[.slice none 0 0,.slice none 0 0,.slice none 0 0,.slice none 0 0,.int .i64 0,.int .u64 0,.int .i64 0] 30
 rw[World.size_alloc] at DC D2
 rw[World.size_alloc] at D2
 have hbw:Below w.heap.size w (((w.alloc (.cells #[.slice of n kf,.slice or' r kr,.slice om m km,.slice og q kg,.int .i64 tx,.int .u64 dx,.int .i64 sx] 30)).alloc (.cells #[.int .i64 cr,.int .i64 cl,.int .i64 cs,.int .i64 cp,.int .i64 ca] 32)).alloc (.cells #[.slice none 0 0,.slice none 0 0,.slice none 0 0,.slice none 0 0,.int .i64 0,.int .u64 0,.int .i64 0] 30)):=bel
 have HOK:=lh hok;clear hok
 have hz0:w.heap.size+1+1+1=(((w.alloc (.cells #[.slice of n kf,.slice or' r kr,.slice om m km,.slice og q kg,.int .i64 tx,.int .u64 dx,.int .i64 sx] 30)).alloc (.cells #[.int .i64 cr,.int .i64 cl,.int .i64 cs,.int .i64 cp,.int .i64 ca] 32)).alloc (.cells #[.slice none 0 0,.slice none 0 0,.slice none 0 0,.slice none 0 0,.int .i64 0,.int .u64 0,.int .i64 0] 30)).heap.size:=by simp only[sizes]
 have VC:=fun w=>idletax_Valid_any cr cl cs cp ca w
 obtain⟨bv,hbv⟩:∃ b,validB ⟨cr,cl,cs,cp,ca⟩=b:=⟨_,rfl⟩
 rw[hbv] at VC
 have HVC:=lh VC;clear VC
 have HBV:=lh hbv;clear hbv
 go_enter Tryz.func16,Tryz.ntmps16
 obtain⟨D1_c,D1_f,D1_z⟩:=D1.all
 go_wp2_with fail
 clear D1_c D1_f D1_z
 with_reducible refine (HCL.out _ _ (HVA.out _ hbw)).mono ?_
 rintro e w1 ⟨of1,or1,om1,og1,kf1',kr1',km1',kg1',us1,gs1,rfl,O1,hb1⟩
 rw[HN.out,HR.out,HM.out,HQ.out] at O1 ⊢
 rw[HT.out,HD.out,HS.out]
 replace O1:=O1.lower (base':=w.heap.size+1+1+1) (Nat.le_of_eq hz0)
 have hz1:=hb1.size
 rw[←hz0] at hz1
 replace D1:=D1.below hb1
 replace DC:=DC.below hb1
 replace D2:=D2.below hb1
 replace hbw:=hbw.trans (hb1.mono hbw.size)
 clear hb1 hz0
 obtain⟨D1_c,D1_f,D1_z⟩:=D1.all
 go_wp2_with fail
 clear D1_c D1_f D1_z
 have hbx:Below w1.heap.size w1 (w1.alloc (.cells #[.slice of1 n kf1',.slice or1 r kr1',.slice om1 m km1',.slice og1 q kg1',.int .i64 tx,.int .u64 dx,.int .i64 sx] 30)):=(Below.refl _ _).alloc (nlr _) _
 have DR:=HasBlock.made w1 #[.slice of1 n kf1',.slice or1 r kr1',.slice om1 m km1',.slice og1 q kg1',.int .i64 tx,.int .u64 dx,.int .i64 sx] 30
 replace D1:=D1.below hbx
 replace DC:=DC.below hbx
 replace D2:=D2.below hbx
 replace O1:=O1.below hbx
 replace hbw:=hbw.trans (hbx.mono hbw.size)
 have hz2:=hbx.size
 clear hbx
 generalize hW:w1.alloc (.cells #[.slice of1 n kf1',.slice or1 r kr1',.slice om1 m km1',.slice og1 q kg1',.int .i64 tx,.int .u64 dx,.int .i64 sx] 30)=w2 at D1 DC D2 DR O1 hbw hz2 ⊢
 obtain⟨B,hB⟩:∃ B,w1.heap.size=B:=⟨_,rfl⟩
 rw[hB] at DR hz1 hz2 ⊢
 clear hW hB
 have hBA:w.heap.size+1+1+1≤B:=hz1
 have hBZ2:=DR.lt
 with_reducible refine (HHS.out _ _ (HVA.out _ hbw)).mono ?_
 rintro e w3 ⟨rfl,hb3⟩
 replace D1:=D1.below hb3
 replace DC:=DC.below hb3
 replace D2:=D2.below hb3
 replace DR:=DR.below hb3
 replace O1:=O1.below hb3
 replace hbw:=hbw.trans (hb3.mono hbw.size)
 replace hz2:=Nat.le_trans hz2 hb3.size
 have hBZ:=Nat.lt_of_lt_of_le hBZ2 hb3.size
 clear hb3 hBZ2
 have hzz:w.heap.size+1+1+1≤w3.heap.size:=Nat.le_trans hBA hz2
 obtain⟨DC_c,DC_f,DC_z⟩:=DC.all
 go_wp2_with fail
 clear DC_c DC_f DC_z
 with_reducible refine (HVC.out _).mono ?_
 rintro e w4 ⟨rfl,hb4⟩
 replace D1:=D1.below hb4
 replace DC:=DC.below hb4
 replace D2:=D2.below hb4
 replace DR:=DR.below hb4
 replace O1:=O1.below hb4
 replace hbw:=hbw.trans (hb4.mono hbw.size)
 replace hzz:=Nat.le_trans hzz hb4.size
 replace hBZ:=Nat.lt_of_lt_of_le hBZ hb4.size
 clear hb4 hz2
 cases bv
 · obtain⟨DC_c,DC_f,DC_z⟩:=DC.all
   obtain⟨DR_c,DR_f,DR_z⟩:=DR.all
   obtain⟨D2_c,D2_f,D2_z⟩:=D2.all
   go_wp2_with fail
   have nB:w.heap.size+1+1≠B:=by omega
   refine bodyPost_ret (v:=.tuple #[.agg #[.slice of1 n kf1',.slice or1 r kr1',.slice om1 m km1',.slice og1 q kg1',.int .i64 tx,.int .u64 dx,.int .i64 sx],.int .i64 3800]) (by simp [results,Tryz.results16,go_sem,D2_c]) rfl ?_
   have hcd:H.addC ⟨cr,cl,cs,cp,ca⟩ q0=3800:=(by unfold Ho.addC;exact if_pos (.inl HBV.out))
   have hto:HH=H:=by rw[←HHH.out];unfold Ho.addTo;rw[hcd,if_neg (by decide)]
   rw[hto,←HCODE.out,hcd]
   exact hoRet' (k:=fun v=>.tuple #[v,.int .i64 3800]) (H:=H) HN.out HR.out HM.out HQ.out HT.out HD.out HS.out (O1.fill7 (by omega) _ _ _ _ _ _ _) (Below.fill7 hbw (by omega) _ _ _ _ _ _ _)
 by_cases g1:cp=0
 rotate_left
 · have t1:(cp == 0)=false:=by rw[beq_eq_false_iff_ne];exact g1
   obtain⟨DC_c,DC_f,DC_z⟩:=DC.all
   obtain⟨DR_c,DR_f,DR_z⟩:=DR.all
   obtain⟨D2_c,D2_f,D2_z⟩:=D2.all
   go_wp2_with fail
   have nB:w.heap.size+1+1≠B:=by omega
   refine bodyPost_ret (v:=.tuple #[.agg #[.slice of1 n kf1',.slice or1 r kr1',.slice om1 m km1',.slice og1 q kg1',.int .i64 tx,.int .u64 dx,.int .i64 sx],.int .i64 3800]) (by simp [results,Tryz.results16,go_sem,D2_c]) rfl ?_
   have hcd:H.addC ⟨cr,cl,cs,cp,ca⟩ q0=3800:=(by unfold Ho.addC;exact if_pos (.inr (.inl g1)))
   have hto:HH=H:=by rw[←HHH.out];unfold Ho.addTo;rw[hcd,if_neg (by decide)]
   rw[hto,←HCODE.out,hcd]
   exact hoRet' (k:=fun v=>.tuple #[v,.int .i64 3800]) (H:=H) HN.out HR.out HM.out HQ.out HT.out HD.out HS.out (O1.fill7 (by omega) _ _ _ _ _ _ _) (Below.fill7 hbw (by omega) _ _ _ _ _ _ _)
 have t0:(cp == 0)=true:=by rw[beq_iff_eq];exact g1
 by_cases g2:q0<1
 · have t1:decide (q0<1)=true:=decide_eq_true g2
   obtain⟨DC_c,DC_f,DC_z⟩:=DC.all
   obtain⟨DR_c,DR_f,DR_z⟩:=DR.all
   obtain⟨D2_c,D2_f,D2_z⟩:=D2.all
   go_wp2_with fail
   have nB:w.heap.size+1+1≠B:=by omega
   refine bodyPost_ret (v:=.tuple #[.agg #[.slice of1 n kf1',.slice or1 r kr1',.slice om1 m km1',.slice og1 q kg1',.int .i64 tx,.int .u64 dx,.int .i64 sx],.int .i64 3800]) (by simp [results,Tryz.results16,go_sem,D2_c]) rfl ?_
   have hcd:H.addC ⟨cr,cl,cs,cp,ca⟩ q0=3800:=(by unfold Ho.addC;exact if_pos (.inr (.inr (.inl g2))))
   have hto:HH=H:=by rw[←HHH.out];unfold Ho.addTo;rw[hcd,if_neg (by decide)]
   rw[hto,←HCODE.out,hcd]
   exact hoRet' (k:=fun v=>.tuple #[v,.int .i64 3800]) (H:=H) HN.out HR.out HM.out HQ.out HT.out HD.out HS.out (O1.fill7 (by omega) _ _ _ _ _ _ _) (Below.fill7 hbw (by omega) _ _ _ _ _ _ _)
 have t2:decide (q0<1)=false:=decide_eq_false g2
 by_cases g3:32<q0
 · have t1:decide (q0>32)=true:=decide_eq_true g3
   have t1':decide (32<q0)=true:=decide_eq_true g3
   obtain⟨DC_c,DC_f,DC_z⟩:=DC.all
   obtain⟨DR_c,DR_f,DR_z⟩:=DR.all
   obtain⟨D2_c,D2_f,D2_z⟩:=D2.all
   go_wp2_with fail
   have nB:w.heap.size+1+1≠B:=by omega
   refine bodyPost_ret (v:=.tuple #[.agg #[.slice of1 n kf1',.slice or1 r kr1',.slice om1 m km1',.slice og1 q kg1',.int .i64 tx,.int .u64 dx,.int .i64 sx],.int .i64 3800]) (by simp [results,Tryz.results16,go_sem,D2_c]) rfl ?_
   have hcd:H.addC ⟨cr,cl,cs,cp,ca⟩ q0=3800:=(by unfold Ho.addC;exact if_pos (.inr (.inr (.inr g3))))
   have hto:HH=H:=by rw[←HHH.out];unfold Ho.addTo;rw[hcd,if_neg (by decide)]
   rw[hto,←HCODE.out,hcd]
   exact hoRet' (k:=fun v=>.tuple #[v,.int .i64 3800]) (H:=H) HN.out HR.out HM.out HQ.out HT.out HD.out HS.out (O1.fill7 (by omega) _ _ _ _ _ _ _) (Below.fill7 hbw (by omega) _ _ _ _ _ _ _)
 have t3:decide (q0>32)=false:=decide_eq_false g3
 have t3':decide (32<q0)=false:=decide_eq_false g3
 have hgood:¬(validB ⟨cr,cl,cs,cp,ca⟩=false∨cp≠0∨q0<1∨32<q0):=by
  rintro (h|h|h|h)
  · rw[HBV.out] at h;cases h
  · exact h g1
  · exact g2 h
  · exact g3 h
 have HGD:=lh hgood;clear hgood
 have HG1:=lh g1;clear g1
 by_cases g4:8≤q
 · have t4:decide ((q:Int) ≥ 8)=true:=decide_eq_true (by omega)
   have t4':decide ((8:Int)≤(q:Int))=true:=decide_eq_true (by omega)
   obtain⟨D1_c,D1_f,D1_z⟩:=D1.all
   obtain⟨DC_c,DC_f,DC_z⟩:=DC.all
   obtain⟨DR_c,DR_f,DR_z⟩:=DR.all
   obtain⟨D2_c,D2_f,D2_z⟩:=D2.all
   go_wp2_with fail
   have nB:w.heap.size+1+1≠B:=by omega
   refine bodyPost_ret (v:=.tuple #[.agg #[.slice of1 n kf1',.slice or1 r kr1',.slice om1 m km1',.slice og1 q kg1',.int .i64 tx,.int .u64 dx,.int .i64 sx],.int .i64 3802]) (by simp [results,Tryz.results16,go_sem,D2_c]) rfl ?_
   have hcd:H.addC ⟨cr,cl,cs,cp,ca⟩ q0=3802:=(by unfold Ho.addC;rw[if_neg HGD.out,if_pos (by rw[HQ.out];exact g4)])
   have hto:HH=H:=by rw[←HHH.out];unfold Ho.addTo;rw[hcd,if_neg (by decide)]
   rw[hto,←HCODE.out,hcd]
   exact hoRet' (k:=fun v=>.tuple #[v,.int .i64 3802]) (H:=H) HN.out HR.out HM.out HQ.out HT.out HD.out HS.out (O1.fill7 (by omega) _ _ _ _ _ _ _) (Below.fill7 hbw (by omega) _ _ _ _ _ _ _)
 have t4:decide ((q:Int) ≥ 8)=false:=decide_eq_false (by omega)
 have t4':decide ((8:Int)≤(q:Int))=false:=decide_eq_false (by omega)
 have hq8:q<8:=by omega
 have hvb:=(validB_iff _).1 HBV.out
 dsimp only at hvb
 have hsum:=HOK.out.sum
 rw[HQ.out] at hsum
 have HSUM:=lh hsum;clear hsum
 have hcr:1≤cr∧cr≤96:=by omega
 clear hvb
 obtain⟨D1_c,D1_f,D1_z⟩:=D1.all
 obtain⟨DC_c,DC_f,DC_z⟩:=DC.all
 go_wp2_with fail
 clear D1_c D1_f D1_z
 clear DC_c DC_f DC_z
 go_loopw [9,48] (fun sv iv wr=>∃ (i:Nat) (S:Int),i≤q∧iv=.int .i64 i∧sv=.int .i64 S∧Hid (S=cr+sumR (H.G.take i))∧Below w4.heap.size w4 wr) (fun _ iv _=>q - (intOf iv).toNat)
 case atStart=>exact⟨0,cr,Nat.zero_le _,rfl,rfl,lh (by unfold sumR;simp),Below.refl _ _⟩
 case round =>
  obtain⟨i,S,hi,rfl,rfl,HSS,hbr⟩:=hrel
  have hbwr:=hbw.trans (hbr.mono hbw.size)
  have hsb:=HSUM.out i hi
  have hSb:1≤S∧S≤1000:=by have:=HSS.out;omega
  by_cases hlt:i<q
  · obtain⟨g,hg⟩:=get_lt (xs:=H.G) (k:=i) (by rw[HQ.out];exact hlt)
    obtain⟨l,hl,hgo⟩:=HOK.out.page hg
    have hrb:=hgo.rb
    have hst:=sumR_take hg
    obtain⟨gb,goff,so,sc,uo,uc,eo,ec,rfl,hgb,s1,s2,u1,u2,e3,e4,cs',hS,hU,hE⟩:=H0.out.guest hg
    clear hS hU hE hg hl hgo s1 u1 e3
    obtain⟨⟨rr,cl',ss,pp,aa⟩,SS,U,hd,E⟩:=g
    dsimp only at cs' hrb hst
    have hrr:1≤rr∧rr≤96:=by omega
    have HST:=lh hst;clear hst hrb
    have c0:wr.cell? ⟨gb,goff+i*9,none⟩=_:=(hbwr.cell (p:=⟨gb,goff+i*9,none⟩) hgb).trans (cs' 0 _ rfl)
    have c1:wr.cell? ⟨gb,goff+i*9+1,none⟩=_:=(hbwr.cell (p:=⟨gb,goff+i*9+1,none⟩) hgb).trans (cs' 1 _ rfl)
    have c2:wr.cell? ⟨gb,goff+i*9+2,none⟩=_:=(hbwr.cell (p:=⟨gb,goff+i*9+2,none⟩) hgb).trans (cs' 2 _ rfl)
    have c3:wr.cell? ⟨gb,goff+i*9+3,none⟩=_:=(hbwr.cell (p:=⟨gb,goff+i*9+3,none⟩) hgb).trans (cs' 3 _ rfl)
    have c4:wr.cell? ⟨gb,goff+i*9+4,none⟩=_:=(hbwr.cell (p:=⟨gb,goff+i*9+4,none⟩) hgb).trans (cs' 4 _ rfl)
    have c5:wr.cell? ⟨gb,goff+i*9+5,none⟩=_:=(hbwr.cell (p:=⟨gb,goff+i*9+5,none⟩) hgb).trans (cs' 5 _ rfl)
    have c6:wr.cell? ⟨gb,goff+i*9+6,none⟩=_:=(hbwr.cell (p:=⟨gb,goff+i*9+6,none⟩) hgb).trans (cs' 6 _ rfl)
    have c7:wr.cell? ⟨gb,goff+i*9+7,none⟩=_:=(hbwr.cell (p:=⟨gb,goff+i*9+7,none⟩) hgb).trans (cs' 7 _ rfl)
    have c8:wr.cell? ⟨gb,goff+i*9+8,none⟩=_:=(hbwr.cell (p:=⟨gb,goff+i*9+8,none⟩) hgb).trans (cs' 8 _ rfl)
    clear cs'
    dsimp only at c0 c1 c2 c3 c4 c5 c6 c7 c8
    have i0':(0:Int)≤(i:Int):=by omega
    have iq:(i:Int)<(q:Int):=by omega
    have hgb2:gb<wr.heap.size:=by have:=hbwr.size;omega
    go_wp2_with fail
    clear c0 c1 c2 c3 c4 c5 c6 c7 c8
    go_roundw
    case rel=>exact⟨i+1,S+rr,by omega,by go_num,by go_num,lh (by rw[HST.out,HSS.out];omega),hbr.alloc hbr.size _⟩
    case measure=>simp [intOf];omega
  · obtain rfl:q=i:=by omega
    have hall:H.G.take q=H.G:=by rw[←HQ.out];exact List.take_length
    rw[hall] at HSS
    clear hall hsb hlt hi
    replace D1:=D1.below hbr
    replace DC:=DC.below hbr
    replace D2:=D2.below hbr
    replace DR:=DR.below hbr
    replace O1:=O1.below hbr
    replace hbw:=hbwr
    replace hzz:=Nat.le_trans hzz hbr.size
    replace hBZ:=Nat.lt_of_lt_of_le hBZ hbr.size
    clear hbwr hbr
    by_cases g5:(n:Int)<S
    · have t5:decide (S>(n:Int))=true:=decide_eq_true g5
      have t5':decide ((n:Int)<S)=true:=decide_eq_true g5
      have HCO:Hid (H.addC ⟨cr,cl,cs,cp,ca⟩ q0=3801):=lh (by
       unfold Ho.addC
       rw[if_neg HGD.out,if_neg (by rw[HQ.out];omega),if_pos]
       rw[HN.out,←HSS.out]
       exact g5)
      obtain⟨D1_c,D1_f,D1_z⟩:=D1.all
      obtain⟨DC_c,DC_f,DC_z⟩:=DC.all
      obtain⟨DR_c,DR_f,DR_z⟩:=DR.all
      obtain⟨D2_c,D2_f,D2_z⟩:=D2.all
      go_wp2_with fail
      have nB:w.heap.size+1+1≠B:=by omega
      refine bodyPost_ret (v:=.tuple #[.agg #[.slice of1 n kf1',.slice or1 r kr1',.slice om1 m km1',.slice og1 q kg1',.int .i64 tx,.int .u64 dx,.int .i64 sx],.int .i64 3801]) (by simp [results,Tryz.results16,go_sem,D2_c]) rfl ?_
      have hcd:H.addC ⟨cr,cl,cs,cp,ca⟩ q0=3801:=HCO.out
      have hto:HH=H:=by rw[←HHH.out];unfold Ho.addTo;rw[hcd,if_neg (by decide)]
      rw[hto,←HCODE.out,hcd]
      exact hoRet' (k:=fun v=>.tuple #[v,.int .i64 3801]) (H:=H) HN.out HR.out HM.out HQ.out HT.out HD.out HS.out (O1.fill7 (by omega) _ _ _ _ _ _ _) (Below.fill7 hbw (by omega) _ _ _ _ _ _ _)
    · have t5:decide (S>(n:Int))=false:=decide_eq_false g5
      have t5':decide ((n:Int)<S)=false:=decide_eq_false g5
      obtain⟨qn,rfl⟩:∃ qn:Nat,q0=qn:=⟨q0.toNat,by omega⟩
      have hq1:1≤qn∧qn≤32:=by omega
      have HCO:Hid (H.addC ⟨cr,cl,cs,cp,ca⟩ qn=0):=lh (by
       unfold Ho.addC
       rw[if_neg HGD.out,if_neg (by rw[HQ.out];omega),if_neg]
       rw[HN.out,←HSS.out]
       exact g5)
      have HTO:Hid (HH=H.addG ⟨cr,cl,cs,cp,ca⟩ qn):=lh (by
       rw[←HHH.out]
       unfold Ho.addTo
       rw[HCO.out,if_pos rfl,Int.toNat_natCast])
      have PA:=fun v w h=>padd_own v H.P qn w h HOK.out.p.fit HOK.out.p.small
      rw[goodA_of HOK.out.p (by rw[←HOK.out.m,HQ.out];exact hq8) hq1.1 hq1.2] at PA
      obtain⟨P2,hP2⟩:∃ P,H.P.add qn=P:=⟨_,rfl⟩
      rw[hP2] at PA
      have HPA:=lh PA;clear PA
      have HP2:=lh hP2;clear hP2
      clear g5 HSS hSb
      have H0B:=lh (H0.out.below hbw)
      obtain⟨D1_c,D1_f,D1_z⟩:=D1.all
      go_wp2_with fail
      clear D1_c D1_f D1_z
      with_reducible refine (HPA.out _ _ H0B.out.p).mono ?_
      rintro e w5 ⟨of5,or5,om5,kf5,kr5,km5,us5,rfl,O5,hb5⟩
      obtain⟨n5,hgn⟩:∃ n,(Pl.F P2).length=n:=⟨_,rfl⟩
      obtain⟨r5,hgr⟩:∃ n,(Pl.R P2).length=n:=⟨_,rfl⟩
      obtain⟨m5,hgm⟩:∃ n,(Pl.M P2).length=n:=⟨_,rfl⟩
      rw[hgn,hgr,hgm] at O5 ⊢
      have HG5:=lh (And.intro hgn (And.intro hgr hgm))
      clear hgn hgr hgm
      have hltG:=O1.ltG
      replace D1:=D1.below hb5
      replace DC:=DC.below hb5
      replace D2:=D2.below hb5
      replace DR:=DR.below hb5
      replace O1:=O1.below hb5
      replace hbw:=hbw.trans (hb5.mono hbw.size)
      replace hBZ:=Nat.lt_of_lt_of_le hBZ hb5.size
      have O5G:=O5.ge
      replace O5:=O5.lower hzz
      replace hzz:=Nat.le_trans hzz hb5.size
      clear hb5 D1
      have nB:w.heap.size+1+1≠B:=by omega
      have nC:w.heap.size+1≠B:=by omega
      have hmb:=make_bools qn (by omega)
      have hms:=makes_F qn (by omega)
      have DRk:=DR
      have Oa:=O1.newPool O5 hltG O5G
      have Ob:=((Oa.setbox (j:=0) DR hostT (.slice of5 n5 kf5)).setbox (j:=1) (DR.put7_0 (.slice of5 n5 kf5)) hostT (.slice or5 r5 kr5)).setbox (j:=2) ((DR.put7_0 (.slice of5 n5 kf5)).put7_1 (.slice or5 r5 kr5)) hostT (.slice om5 m5 km5)
      replace Ob:=Ob.alloc (.cells #[.slice of5 n5 kf5,.slice or5 r5 kr5,.slice om5 m5 km5] 26)
      have DR8:=(DRk.poolIn (.slice of5 n5 kf5) (.slice or5 r5 kr5) (.slice om5 m5 km5)).alloc (.cells #[.slice of5 n5 kf5,.slice or5 r5 kr5,.slice om5 m5 km5] 26)
      have D28:=(((D2.set_ne nB (j:=0) (.slice of5 n5 kf5)).set_ne nB (j:=1) (.slice or5 r5 kr5)).set_ne nB (j:=2) (.slice om5 m5 km5)).alloc (.cells #[.slice of5 n5 kf5,.slice or5 r5 kr5,.slice om5 m5 km5] 26)
      have DC8:=(((DC.set_ne nC (j:=0) (.slice of5 n5 kf5)).set_ne nC (j:=1) (.slice or5 r5 kr5)).set_ne nC (j:=2) (.slice om5 m5 km5)).alloc (.cells #[.slice of5 n5 kf5,.slice or5 r5 kr5,.slice om5 m5 km5] 26)
      have hbw8:=(((hbw.setCell (p:=⟨B,0,none⟩) (by dsimp only;omega) (.slice of5 n5 kf5)).setCell (p:=⟨B,1,none⟩) (by dsimp only;omega) (.slice or5 r5 kr5)).setCell (p:=⟨B,2,none⟩) (by dsimp only;omega) (.slice om5 m5 km5)).alloc (by simp only[sizes];omega) (.cells #[.slice of5 n5 kf5,.slice or5 r5 kr5,.slice om5 m5 km5] 26)
      clear Oa D2 DC hltG O5 O1
      obtain⟨DR_c,DR_f,DR_z⟩:=DR.all
      go_upto_region 18 with (fail)
      clear DR_c DR_f DR_z
      have hcp:=HG1.out
      subst hcp
      clear HG1 t0
      generalize hW:((((World.setCell w5 ⟨B,0,none⟩ (.slice of5 n5 kf5)).setCell ⟨B,1,none⟩ (.slice or5 r5 kr5)).setCell ⟨B,2,none⟩ (.slice om5 m5 km5)).alloc (.cells #[.slice of5 n5 kf5,.slice or5 r5 kr5,.slice om5 m5 km5] 26))=w8 at Ob DR8 D28 DC8 hbw8 ⊢
      clear hW DRk DR
      have hz8:w.heap.size+1+1+1≤w8.heap.size:=by have:=DR8.lt;omega
      obtain⟨i0,hi0,iz0,iz1,iz2⟩:=info_parts info_gm
      have HOW:Hid (w8.ownsRow (w.heap.size+1+1+1) 49 9 (.slice og1 q kg1') q (gmFlat H.G gs1)):=by
       have h:=Ob.g
       rw[show (H.setP P2).G.length=q from HQ.out] at h
       exact h
      have hrule:∀ w':World,Below (w.heap.size+1+1+1) w8 w'→∀ o,w'.cell? ⟨w.heap.size+1,o,none⟩=w8.cell? ⟨w.heap.size+1,o,none⟩:=fun w' h o=>h.cell (p:=⟨w.heap.size+1,o,none⟩) (by dsimp only;omega)
      have hruleB:∀ w':World,HasBlock w' B #[.slice of5 n5 kf5,.slice or5 r5 kr5,.slice om5 m5 km5,.slice og1 q kg1',.int .i64 tx,.int .u64 dx,.int .i64 sx] 30→∀ o,w'.cell? ⟨B,o,none⟩=#[.slice of5 n5 kf5,.slice or5 r5 kr5,.slice om5 m5 km5,.slice og1 q kg1',.int .i64 tx,.int .u64 dx,.int .i64 sx][o]?:=fun w' h o=>h.cell o
      have hruleF:∀ w':World,HasBlock w' B #[.slice of5 n5 kf5,.slice or5 r5 kr5,.slice om5 m5 km5,.slice og1 q kg1',.int .i64 tx,.int .u64 dx,.int .i64 sx] 30→∀ o,w'.frozen? ⟨B,o,none⟩=false:=fun w' h o=>h.free o
      obtain⟨DR8_c,DR8_f,DR8_z⟩:=DR8.all
      obtain⟨DC8_c,DC8_f,DC8_z⟩:=DC8.all
      clear hruleF
      refine wp_region_lastH (S:=fun w'=>Below (w.heap.size+1+1+1) w8 w'∧HasBlock w' B #[.slice of5 n5 kf5,.slice or5 r5 kr5,.slice om5 m5 km5,.slice og1 q kg1',.int .i64 tx,.int .u64 dx,.int .i64 sx] 30) 13 _ rfl rfl (by kernel_rfl) (by kernel_rfl) ⟨Below.mono bel3 hz8,by (repeat' (first|with_reducible assumption|(with_reducible refine HasBlock.drew ?_)|(with_reducible refine HasBlock.made' sz4)|(with_reducible refine HasBlock.alloc ?_ _)))⟩ (fun hHeld=>?_)
      simp only[List.take_succ_cons,List.take_zero]
      refine wpAnyH_take (i:=0) (v:=?_) rfl (by kernel_rfl) (by kernel_rfl) (by kernel_rfl) (fun _ _ _ h=>h) (Or.inl ⟨by rfl,?_⟩) (by assumption) ?_
      rotate_left
      · intro w' hSw
        (try dsimp only at hSw)
        first|(go_simp;done)|(go_simp;with_reducible rfl)
      (try simp only[List.getElem_toArray,List.getElem_cons_zero,Act.put,List.setIfInBounds_toArray,List.set_cons_zero,List.set_cons_succ])
      refine wpAnyH_take (i:=1) (v:=?_) rfl (by kernel_rfl) (by kernel_rfl) (by kernel_rfl) (fun _ _ _ h=>h) (Or.inl ⟨by rfl,?_⟩) (by assumption) ?_
      rotate_left
      · intro w' hSw
        (try dsimp only at hSw)
        first|(go_simp;done)|(go_simp;with_reducible rfl)
      (try simp only[List.getElem_toArray,List.getElem_cons_succ,List.getElem_cons_zero,Act.put,List.setIfInBounds_toArray,List.set_cons_zero,List.set_cons_succ])
      refine wpAnyH_take (i:=2) (v:=?_) rfl (by kernel_rfl) (by kernel_rfl) (by kernel_rfl) (fun _ _ _ h=>h) (Or.inl ⟨by rfl,?_⟩) (by assumption) ?_
      rotate_left
      · intro w' hSw
        (try dsimp only at hSw)
        first|(go_simp;done)|(go_simp;with_reducible rfl)
      (try simp only[List.getElem_toArray,List.getElem_cons_succ,List.getElem_cons_zero,Act.put,List.setIfInBounds_toArray,List.set_cons_zero,List.set_cons_succ])
      refine wpAnyH_take (i:=3) (v:=?_) rfl (by kernel_rfl) (by kernel_rfl) (by kernel_rfl) (fun _ _ _ h=>h) (Or.inl ⟨by rfl,?_⟩) (by assumption) ?_
      rotate_left
      · intro w' hSw
        (try dsimp only at hSw)
        first|(go_simp;done)|(go_simp;with_reducible rfl)
      (try simp only[List.getElem_toArray,List.getElem_cons_succ,List.getElem_cons_zero,Act.put,List.setIfInBounds_toArray,List.set_cons_zero,List.set_cons_succ])
      refine wpAnyH_take (i:=5) (v:=?_) rfl (by kernel_rfl) (by kernel_rfl) (by kernel_rfl) (fun _ _ _ h=>h) (Or.inl ⟨by rfl,?_⟩) (by assumption) ?_
      rotate_left
      · intro w' hSw
        (try dsimp only at hSw)
        first|(go_simp;done)|(go_simp;with_reducible rfl)
      (try simp only[List.getElem_toArray,List.getElem_cons_succ,List.getElem_cons_zero,Act.put,List.setIfInBounds_toArray,List.set_cons_zero,List.set_cons_succ])
      refine wpAnyH_take (i:=7) (v:=?_) rfl (by kernel_rfl) (by kernel_rfl) (by kernel_rfl) (fun _ _ _ h=>h) (Or.inl ⟨by rfl,?_⟩) (by assumption) ?_
      rotate_left
      · intro w' hSw
        (try dsimp only at hSw)
        first|(go_simp;done)|(go_simp;with_reducible rfl)
      (try simp only[List.getElem_toArray,List.getElem_cons_succ,List.getElem_cons_zero,Act.put,List.setIfInBounds_toArray,List.set_cons_zero,List.set_cons_succ])
      refine wpAnyH_ready (rs:=[4,6,8]) (by kernel_rfl) (by simp) ?_
      refine AllReadyH.cons rfl (fun K hK=>?_) (AllReadyH.cons rfl (fun K hK=>?_) (AllReadyH.cons rfl (fun K hK=>?_) AllReadyH.nil))
      go_simp
      clear hHeld
      refine hK.out _ _ ⟨Below.mono bel3 hz8,by (repeat' (first|with_reducible assumption|(with_reducible refine HasBlock.drew ?_)|(with_reducible refine HasBlock.made' sz4)|(with_reducible refine HasBlock.alloc ?_ _)))⟩ (fun hHeld=>?_)
      clear hK K
      (try simp only[List.getElem_toArray,List.getElem_cons_succ,List.getElem_cons_zero,Act.put,List.setIfInBounds_toArray,List.set_cons_zero,List.set_cons_succ])
      refine wpAnyH_ready (rs:=[6,8]) (by kernel_rfl) (by simp) ?_
      refine AllReadyH.cons rfl (fun K hK=>?_) (AllReadyH.cons rfl (fun K hK=>?_) AllReadyH.nil)
      go_simp
      clear hHeld
      refine hK.out _ _ ⟨Below.mono bel3 hz8,by (repeat' (first|with_reducible assumption|(with_reducible refine HasBlock.drew ?_)|(with_reducible refine HasBlock.made' sz4)|(with_reducible refine HasBlock.alloc ?_ _)))⟩ (fun hHeld=>?_)
      clear hK K
      (try simp only[List.getElem_toArray,List.getElem_cons_succ,List.getElem_cons_zero,Act.put,List.setIfInBounds_toArray,List.set_cons_zero,List.set_cons_succ])
      refine wpAnyH_ready (rs:=[8]) (by kernel_rfl) (by simp) ?_
      refine AllReadyH.cons rfl (fun K hK=>?_) AllReadyH.nil
      go_simp
      clear hHeld
      refine hK.out _ _ ⟨Below.mono bel3 hz8,by (repeat' (first|with_reducible assumption|(with_reducible refine HasBlock.drew ?_)|(with_reducible refine HasBlock.made' sz4)|(with_reducible refine HasBlock.alloc ?_ _)))⟩ (fun hHeld=>?_)
      clear hK K
      (try simp only[List.getElem_toArray,List.getElem_cons_succ,List.getElem_cons_zero,Act.put,List.setIfInBounds_toArray,List.set_cons_zero,List.set_cons_succ])
      rotate_left
      go_simp
      clear hHeld
      refine hK.out _ _ ⟨Below.mono bel3 hz8,by (repeat' (first|with_reducible assumption|(with_reducible refine HasBlock.drew ?_)|(with_reducible refine HasBlock.made' sz4)|(with_reducible refine HasBlock.alloc ?_ _)))⟩ (fun hHeld=>?_)
      clear hK K
      (try simp only[List.getElem_toArray,List.getElem_cons_succ,List.getElem_cons_zero,Act.put,List.setIfInBounds_toArray,List.set_cons_zero,List.set_cons_succ])
      refine wpAnyH_ready (rs:=[6]) (by kernel_rfl) (by simp) ?_
      refine AllReadyH.cons rfl (fun K hK=>?_) AllReadyH.nil
      go_simp
      clear hHeld
      refine hK.out _ _ ⟨Below.mono bel3 hz8,by (repeat' (first|with_reducible assumption|(with_reducible refine HasBlock.drew ?_)|(with_reducible refine HasBlock.made' sz4)|(with_reducible refine HasBlock.alloc ?_ _)))⟩ (fun hHeld=>?_)
      clear hK K
      (try simp only[List.getElem_toArray,List.getElem_cons_succ,List.getElem_cons_zero,Act.put,List.setIfInBounds_toArray,List.set_cons_zero,List.set_cons_succ])
      rotate_left
      go_simp
      clear hHeld
      refine hK.out _ _ ⟨Below.mono bel3 hz8,by (repeat' (first|with_reducible assumption|(with_reducible refine HasBlock.drew ?_)|(with_reducible refine HasBlock.made' sz4)|(with_reducible refine HasBlock.alloc ?_ _)))⟩ (fun hHeld=>?_)
      clear hK K
      (try simp only[List.getElem_toArray,List.getElem_cons_succ,List.getElem_cons_zero,Act.put,List.setIfInBounds_toArray,List.set_cons_zero,List.set_cons_succ])
      refine wpAnyH_ready (rs:=[4,8]) (by kernel_rfl) (by simp) ?_
      refine AllReadyH.cons rfl (fun K hK=>?_) (AllReadyH.cons rfl (fun K hK=>?_) AllReadyH.nil)
      go_simp
      clear hHeld
      refine hK.out _ _ ⟨Below.mono bel3 hz8,by (repeat' (first|with_reducible assumption|(with_reducible refine HasBlock.drew ?_)|(with_reducible refine HasBlock.made' sz4)|(with_reducible refine HasBlock.alloc ?_ _)))⟩ (fun hHeld=>?_)
      clear hK K
      (try simp only[List.getElem_toArray,List.getElem_cons_succ,List.getElem_cons_zero,Act.put,List.setIfInBounds_toArray,List.set_cons_zero,List.set_cons_succ])
      refine wpAnyH_ready (rs:=[8]) (by kernel_rfl) (by simp) ?_
      refine AllReadyH.cons rfl (fun K hK=>?_) AllReadyH.nil
      go_simp
      clear hHeld
      refine hK.out _ _ ⟨Below.mono bel3 hz8,by (repeat' (first|with_reducible assumption|(with_reducible refine HasBlock.drew ?_)|(with_reducible refine HasBlock.made' sz4)|(with_reducible refine HasBlock.alloc ?_ _)))⟩ (fun hHeld=>?_)
      clear hK K
      (try simp only[List.getElem_toArray,List.getElem_cons_succ,List.getElem_cons_zero,Act.put,List.setIfInBounds_toArray,List.set_cons_zero,List.set_cons_succ])
      rotate_left
      go_simp
      clear hHeld
      refine hK.out _ _ ⟨Below.mono bel3 hz8,by (repeat' (first|with_reducible assumption|(with_reducible refine HasBlock.drew ?_)|(with_reducible refine HasBlock.made' sz4)|(with_reducible refine HasBlock.alloc ?_ _)))⟩ (fun hHeld=>?_)
      clear hK K
      (try simp only[List.getElem_toArray,List.getElem_cons_succ,List.getElem_cons_zero,Act.put,List.setIfInBounds_toArray,List.set_cons_zero,List.set_cons_succ])
      refine wpAnyH_ready (rs:=[4]) (by kernel_rfl) (by simp) ?_
      refine AllReadyH.cons rfl (fun K hK=>?_) AllReadyH.nil
      go_simp
      clear hHeld
      refine hK.out _ _ ⟨Below.mono bel3 hz8,by (repeat' (first|with_reducible assumption|(with_reducible refine HasBlock.drew ?_)|(with_reducible refine HasBlock.made' sz4)|(with_reducible refine HasBlock.alloc ?_ _)))⟩ (fun hHeld=>?_)
      clear hK K
      (try simp only[List.getElem_toArray,List.getElem_cons_succ,List.getElem_cons_zero,Act.put,List.setIfInBounds_toArray,List.set_cons_zero,List.set_cons_succ])
      rotate_left
      go_simp
      clear hHeld
      refine hK.out _ _ ⟨Below.mono bel3 hz8,by (repeat' (first|with_reducible assumption|(with_reducible refine HasBlock.drew ?_)|(with_reducible refine HasBlock.made' sz4)|(with_reducible refine HasBlock.alloc ?_ _)))⟩ (fun hHeld=>?_)
      clear hK K
      (try simp only[List.getElem_toArray,List.getElem_cons_succ,List.getElem_cons_zero,Act.put,List.setIfInBounds_toArray,List.set_cons_zero,List.set_cons_succ])
      refine wpAnyH_ready (rs:=[4,6]) (by kernel_rfl) (by simp) ?_
      refine AllReadyH.cons rfl (fun K hK=>?_) (AllReadyH.cons rfl (fun K hK=>?_) AllReadyH.nil)
      go_simp
      clear hHeld
      refine hK.out _ _ ⟨Below.mono bel3 hz8,by (repeat' (first|with_reducible assumption|(with_reducible refine HasBlock.drew ?_)|(with_reducible refine HasBlock.made' sz4)|(with_reducible refine HasBlock.alloc ?_ _)))⟩ (fun hHeld=>?_)
      clear hK K
      (try simp only[List.getElem_toArray,List.getElem_cons_succ,List.getElem_cons_zero,Act.put,List.setIfInBounds_toArray,List.set_cons_zero,List.set_cons_succ])
      refine wpAnyH_ready (rs:=[6]) (by kernel_rfl) (by simp) ?_
      refine AllReadyH.cons rfl (fun K hK=>?_) AllReadyH.nil
      go_simp
      clear hHeld
      refine hK.out _ _ ⟨Below.mono bel3 hz8,by (repeat' (first|with_reducible assumption|(with_reducible refine HasBlock.drew ?_)|(with_reducible refine HasBlock.made' sz4)|(with_reducible refine HasBlock.alloc ?_ _)))⟩ (fun hHeld=>?_)
      clear hK K
      (try simp only[List.getElem_toArray,List.getElem_cons_succ,List.getElem_cons_zero,Act.put,List.setIfInBounds_toArray,List.set_cons_zero,List.set_cons_succ])
      rotate_left
      go_simp
      clear hHeld
      refine hK.out _ _ ⟨Below.mono bel3 hz8,by (repeat' (first|with_reducible assumption|(with_reducible refine HasBlock.drew ?_)|(with_reducible refine HasBlock.made' sz4)|(with_reducible refine HasBlock.alloc ?_ _)))⟩ (fun hHeld=>?_)
      clear hK K
      (try simp only[List.getElem_toArray,List.getElem_cons_succ,List.getElem_cons_zero,Act.put,List.setIfInBounds_toArray,List.set_cons_zero,List.set_cons_succ])
      refine wpAnyH_ready (rs:=[4]) (by kernel_rfl) (by simp) ?_
      refine AllReadyH.cons rfl (fun K hK=>?_) AllReadyH.nil
      go_simp
      clear hHeld
      refine hK.out _ _ ⟨Below.mono bel3 hz8,by (repeat' (first|with_reducible assumption|(with_reducible refine HasBlock.drew ?_)|(with_reducible refine HasBlock.made' sz4)|(with_reducible refine HasBlock.alloc ?_ _)))⟩ (fun hHeld=>?_)
      clear hK K
      (try simp only[List.getElem_toArray,List.getElem_cons_succ,List.getElem_cons_zero,Act.put,List.setIfInBounds_toArray,List.set_cons_zero,List.set_cons_succ])
      rotate_left
      all_goals
       refine wpAnyH_take (i:=9) (v:=?_) rfl (by kernel_rfl) (by kernel_rfl) (by kernel_rfl) (fun _ _ _ h=>h) (Or.inl ⟨by rfl,?_⟩) (by assumption) ?_
       rotate_left
       · intro w' hSw
         (try dsimp only at hSw)
         first|(go_simp;done)|(go_simp;with_reducible rfl)
       (try simp only[List.getElem_toArray,List.getElem_cons_succ,List.getElem_cons_zero,Act.put,List.setIfInBounds_toArray,List.set_cons_zero,List.set_cons_succ])
       refine wpAnyH_ready (rs:=[10]) (by kernel_rfl) (by simp) ?_
       refine AllReadyH.cons rfl (fun K hK=>?_) AllReadyH.nil
       go_simp
       clear hHeld
       refine hK.out _ _ ⟨Below.mono bel3 hz8,by (repeat' (first|with_reducible assumption|(with_reducible refine HasBlock.drew ?_)|(with_reducible refine HasBlock.made' sz4)|(with_reducible refine HasBlock.alloc ?_ _)))⟩ (fun hHeld=>?_)
       clear hK K
       (try simp only[List.getElem_toArray,List.getElem_cons_succ,List.getElem_cons_zero,Act.put,List.setIfInBounds_toArray,List.set_cons_zero,List.set_cons_succ])
       refine wpAnyH_ready (rs:=[11]) (by kernel_rfl) (by simp) ?_
       refine AllReadyH.cons rfl (fun K hK=>?_) AllReadyH.nil
       refine step_append_own rfl (.tmp 78) (.tmp 87) 27 rfl (w.heap.size+1+1+1) 49 i0 (.agg #[.int .i64 0,.int .i64 0,.int .i64 0,.int .i64 0,.int .i64 0,.slice none 0 0,.slice none 0 0,.int .i64 0,.slice none 0 0]) 9 120 Tryz.underlying27 hi0 iz0 iz1 iz2 rfl (by decide) (.slice og1 q kg1') q (gmFlat H.G gs1) rfl (owns_below HOW.out bel3) ⟨_,0,none⟩ 1 1 [.int .i64 cr,.int .i64 cl,.int .i64 cs,.int .i64 0,.int .i64 ca,.slice _ qn qn,.slice _ qn qn,.int .i64 0,.slice _ qn qn] rfl rfl (cells_made _ _ _ _ (by first|rfl|simp only[sizes])) (one_gm _ _ _ _ _ _ _ _ _ _ _ _ _ _ _) (by unfold maxLen;omega) (by omega) sz4 ?_
       intro v6 w6 hown6 hgrow6 _
       obtain⟨o6,c6,rfl,hc61,hc62⟩:=own_form' hown6
       obtain⟨F3,hbX⟩:=grown_all hgrow6 bel3 Ob DR8 hz8 rfl
       clear hHeld
       refine hK.out _ _ ⟨hbX,F3⟩ (fun hHeld=>?_)
       clear hK K
       (try simp only[List.getElem_toArray,List.getElem_cons_succ,List.getElem_cons_zero,Act.put,List.setIfInBounds_toArray,List.set_cons_zero,List.set_cons_succ])
       refine wpAnyH_take (i:=12) (v:=?_) rfl (by kernel_rfl) (by kernel_rfl) (by kernel_rfl) (fun _ _ _ h=>h) (Or.inl ⟨by rfl,?_⟩) (by assumption) ?_
       rotate_left
       · intro w' hSw
         (try dsimp only at hSw)
         first|(go_simp;done)|(go_simp;with_reducible rfl)
       (try simp only[List.getElem_toArray,List.getElem_cons_succ,List.getElem_cons_zero,Act.put,List.setIfInBounds_toArray,List.set_cons_zero,List.set_cons_succ])
       refine wpAnyH_done (by kernel_rfl) ?_ _
       change wpList _ _ _ _ _ _
       clear hHeld hrule hruleB DR8_c DR8_f DR8_z DC8_c DC8_f DC8_z
       have F2:=D28.under hbX (by omega)
       have HO6:=pushN (c:=⟨cr,cl,cs,0,ca⟩) hgrow6 Ob HQ.out hown6 bel3 (by (repeat' (first|with_reducible assumption|(with_reducible refine HasBlock.drew ?_)|(with_reducible refine HasBlock.made' sz4)|(with_reducible refine HasBlock.alloc ?_ _)))) (by (repeat' (first|with_reducible assumption|(with_reducible refine HasBlock.drew ?_)|(with_reducible refine HasBlock.made' sz4)|(with_reducible refine HasBlock.alloc ?_ _)))) (by (repeat' (first|with_reducible assumption|(with_reducible refine HasBlock.drew ?_)|(with_reducible refine HasBlock.made' sz4)|(with_reducible refine HasBlock.alloc ?_ _)))) (by omega) (by omega) (by omega) (by omega) hz8 (by omega)
       have F3k:=F3
       obtain⟨F3_c,F3_f,F3_z⟩:=F3.all
       obtain⟨F2_c,F2_f,F2_z⟩:=F2.all
       go_wp2_with fail
       refine bodyPost_ret (v:=.tuple #[.agg #[.slice of5 n5 kf5,.slice or5 r5 kr5,.slice om5 m5 km5,.slice o6 (q+1) c6,.int .i64 tx,.int .u64 dx,.int .i64 sx],.int .i64 0]) (by simp [results,Tryz.results16,go_sem,F2_c]) rfl ?_
       have hAG:H.addG ⟨cr,cl,cs,0,ca⟩ qn=⟨P2,H.G++[newG ⟨cr,cl,cs,0,ca⟩ qn],H.t,H.d,H.n⟩:=by unfold Ho.addG;rw[HP2.out]
       rw[HTO.out,←HCODE.out,HCO.out,hAG]
       exact hoRet' (k:=fun v=>.tuple #[v,.int .i64 0]) (H:=⟨P2,H.G++[newG ⟨cr,cl,cs,0,ca⟩ qn],H.t,H.d,H.n⟩) HG5.out.1 HG5.out.2.1 HG5.out.2.2 (by show (H.G++[_]).length=_;rw[List.length_append,HQ.out];rfl) HT.out HD.out HS.out ((HO6.setbox (j:=3) F3k hostT (.slice o6 (q+1) c6)).fill7 (by omega) _ _ _ _ _ _ _) (Below.fill7 ((hbw8.trans (hbX.mono (by omega))).setCell (p:=⟨B,3,none⟩) (by dsimp only;omega) _) (by omega) _ _ _ _ _ _ _)
end Go.Proofs.YtbnngjhnkegliaaGreat
