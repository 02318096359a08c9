/-
  Texts joined: HrAdd. No law is proved here.
-/
import Derived.Test.YtbnngjhnkegliaaGreatB30
namespace Go.Proofs.YtbnngjhnkegliaaGreat
open Go.RowKit
theorem add_ret {k:Value→Value} {v:Value} {H:Ho} {w w':World} {c:Value} (h:HoAt w v H) (e:c=k v) (hb:Below w.heap.size w w'):RetHoV k H w (.returned c) w':=by
 subst e
 obtain⟨of,or',om,og,kf,kr,km,kg,e,f1,f2,r1,r2,m1,m2,g1,g2,hr⟩:=h
 exact⟨v,rfl,⟨of,or',om,og,kf,kr,km,kg,e,f1,f2,r1,r2,m1,m2,g1,g2,hr.below hb⟩,hb⟩
set_option maxRecDepth 100000 in
set_option maxHeartbeats 8000000 in
theorem radd_ok (v:Value) (H:Ho) (cr cl cs cp ca q0:Int) (w:World) (ha:HoAt w v H) (hok:H.Ok):Calls Tryz.prog 27 #[v,.agg #[.int .i64 cr,.int .i64 cl,.int .i64 cs,.int .i64 cp,.int .i64 ca],.int .i64 q0] w (RetHoV (fun v=>.tuple #[v,.int .i64 (H.addC ⟨cr,cl,cs,cp,ca⟩ q0)]) (H.addTo ⟨cr,cl,cs,cp,ca⟩ q0) w):=by
 have HARG:=lh ha
 have VLc:=fun v w h=>rhvalid_any v H true w h hok.fitted hok.little (Iff.intro (fun _=>hok) (fun _=>rfl))
 have MNc:=fun v w h=>rmine_ok v H w h hok
 have HVL:=lh VLc;clear VLc
 have HMN:=lh MNc;clear MNc
 have hbd:=hok.bounds
 obtain⟨code,hcode⟩:∃ x,H.addC ⟨cr,cl,cs,cp,ca⟩ q0=x:=⟨_,rfl⟩
 obtain⟨HH,hHH⟩:∃ x,H.addTo ⟨cr,cl,cs,cp,ca⟩ q0=x:=⟨_,rfl⟩
 rw[hcode,hHH]
 have HCODE:=lh hcode;clear hcode
 have HHH:=lh hHH;clear hHH
 obtain⟨of,or',om,og,kf,kr,km,kg,n,r,m,q,tx,dx,sx,HN,HR,HM,HQ,HT,HD,HS,rfl,kf1,kf2,kr1,kr2,km1,km2,kg1,kg2,h⟩:=HoAt.opened ha
 rw[HN.out,HR.out,HM.out,HQ.out] at hbd
 have h0:=h
 have HA:Hid (∀ w':World,Below w.heap.size w w'→HoAt w' (.agg #[.slice of n kf,.slice or' r kr,.slice om m km,.slice og q kg,.int .i64 tx,.int .u64 dx,.int .i64 sx]) H):=lh (fun w' hb=>by
  have:=(h0.below hb).at_
  rwa[HT.out,HD.out,HS.out] at this)
 have H0:=lh h0
 clear h h0
 have D1:=((HasBlock.made w #[.slice of n kf,.slice or' r kr,.slice om m km,.slice og q kg,.int .i64 tx,.int .u64 dx,.int .i64 sx] 30).alloc (.cells #[.int .i64 cr,.int .i64 cl,.int .i64 cs,.int .i64 cp,.int .i64 ca] 32)).alloc (.cells #[.slice none 0 0,.slice none 0 0,.slice none 0 0,.slice none 0 0,.int .i64 0,.int .u64 0,.int .i64 0] 30)
 have DC:=(HasBlock.made (w.alloc (.cells #[.slice of n kf,.slice or' r kr,.slice om m km,.slice og q kg,.int .i64 tx,.int .u64 dx,.int .i64 sx] 30)) #[.int .i64 cr,.int .i64 cl,.int .i64 cs,.int .i64 cp,.int .i64 ca] 32).alloc (.cells #[.slice none 0 0,.slice none 0 0,.slice none 0 0,.slice none 0 0,.int .i64 0,.int .u64 0,.int .i64 0] 30)
 have D2:=HasBlock.made ((w.alloc (.cells #[.slice of n kf,.slice or' r kr,.slice om m km,.slice og q kg,.int .i64 tx,.int .u64 dx,.int .i64 sx] 30)).alloc (.cells #[.int .i64 cr,.int .i64 cl,.int .i64 cs,.int .i64 cp,.int .i64 ca] 32)) #[.slice none 0 0,.slice none 0 0,.slice none 0 0,.slice none 0 0,.int .i64 0,.int .u64 0,.int .i64 0] 30
 rw[World.size_alloc] at DC D2
 rw[World.size_alloc] at D2
 have hbw:Below w.heap.size w (((w.alloc (.cells #[.slice of n kf,.slice or' r kr,.slice om m km,.slice og q kg,.int .i64 tx,.int .u64 dx,.int .i64 sx] 30)).alloc (.cells #[.int .i64 cr,.int .i64 cl,.int .i64 cs,.int .i64 cp,.int .i64 ca] 32)).alloc (.cells #[.slice none 0 0,.slice none 0 0,.slice none 0 0,.slice none 0 0,.int .i64 0,.int .u64 0,.int .i64 0] 30)):=bel
 have HOK:=lh hok;clear hok
 have hz0:w.heap.size+1+1+1≤(((w.alloc (.cells #[.slice of n kf,.slice or' r kr,.slice om m km,.slice og q kg,.int .i64 tx,.int .u64 dx,.int .i64 sx] 30)).alloc (.cells #[.int .i64 cr,.int .i64 cl,.int .i64 cs,.int .i64 cp,.int .i64 ca] 32)).alloc (.cells #[.slice none 0 0,.slice none 0 0,.slice none 0 0,.slice none 0 0,.int .i64 0,.int .u64 0,.int .i64 0] 30)).heap.size:=by simp only[sizes];omega
 have VC:=fun w=>vmfleetref35_ValidClaim_any cr cl cs cp ca w
 obtain⟨bv,hbv⟩:∃ b,validB ⟨cr,cl,cs,cp,ca⟩=b:=⟨_,rfl⟩
 rw[hbv] at VC
 have HVC:=lh VC;clear VC
 have HBV:=lh hbv;clear hbv
 go_enter Tryz.func27,Tryz.ntmps27
 obtain⟨D1_c,D1_f,D1_z⟩:=D1.all
 go_wp2_with fail
 clear D1_c D1_f D1_z
 with_reducible refine (HVL.out _ _ (HA.out _ hbw)).mono ?_
 rintro e w1 ⟨rfl,hb1⟩
 replace D1:=D1.below hb1
 replace DC:=DC.below hb1
 replace D2:=D2.below hb1
 replace hbw:=hbw.trans (hb1.mono hbw.size)
 replace hz0:=Nat.le_trans hz0 hb1.size
 clear hb1
 obtain⟨DC_c,DC_f,DC_z⟩:=DC.all
 go_wp2_with fail
 clear DC_c DC_f DC_z
 with_reducible refine (HVC.out _).mono ?_
 rintro e w4 ⟨rfl,hb4⟩
 replace D1:=D1.below hb4
 replace DC:=DC.below hb4
 replace D2:=D2.below hb4
 replace hbw:=hbw.trans (hb4.mono hbw.size)
 replace hz0:=Nat.le_trans hz0 hb4.size
 clear hb4
 cases bv
 · obtain⟨D1_c,D1_f,D1_z⟩:=D1.all
   obtain⟨DC_c,DC_f,DC_z⟩:=DC.all
   obtain⟨D2_c,D2_f,D2_z⟩:=D2.all
   go_wp2_with fail
   refine bodyPost_ret (v:=.tuple #[.agg #[.slice of n kf,.slice or' r kr,.slice om m km,.slice og q kg,.int .i64 tx,.int .u64 dx,.int .i64 sx],.int .i64 3800]) (by simp [results,Tryz.results27,go_sem,D2_c]) rfl ?_
   have hcd:H.addC ⟨cr,cl,cs,cp,ca⟩ q0=3800:=(by unfold Ho.addC;exact if_pos (.inl HBV.out))
   have hto:HH=H:=by rw[←HHH.out];unfold Ho.addTo;rw[hcd,if_neg (by decide)]
   rw[hto,←HCODE.out,hcd]
   exact add_ret (k:=fun v=>.tuple #[v,.int .i64 3800]) HARG.out rfl (Below.fill7 hbw (by omega) _ _ _ _ _ _ _)
 by_cases g1:cp=0
 rotate_left
 · have t1:(cp == 0)=false:=by rw[beq_eq_false_iff_ne];exact g1
   obtain⟨D1_c,D1_f,D1_z⟩:=D1.all
   obtain⟨DC_c,DC_f,DC_z⟩:=DC.all
   obtain⟨D2_c,D2_f,D2_z⟩:=D2.all
   go_wp2_with fail
   refine bodyPost_ret (v:=.tuple #[.agg #[.slice of n kf,.slice or' r kr,.slice om m km,.slice og q kg,.int .i64 tx,.int .u64 dx,.int .i64 sx],.int .i64 3800]) (by simp [results,Tryz.results27,go_sem,D2_c]) rfl ?_
   have hcd:H.addC ⟨cr,cl,cs,cp,ca⟩ q0=3800:=(by unfold Ho.addC;exact if_pos (.inr (.inl g1)))
   have hto:HH=H:=by rw[←HHH.out];unfold Ho.addTo;rw[hcd,if_neg (by decide)]
   rw[hto,←HCODE.out,hcd]
   exact add_ret (k:=fun v=>.tuple #[v,.int .i64 3800]) HARG.out rfl (Below.fill7 hbw (by omega) _ _ _ _ _ _ _)
 have t0:(cp == 0)=true:=by rw[beq_iff_eq];exact g1
 by_cases g2:q0<1
 · have t1:decide (q0<1)=true:=decide_eq_true g2
   obtain⟨D1_c,D1_f,D1_z⟩:=D1.all
   obtain⟨DC_c,DC_f,DC_z⟩:=DC.all
   obtain⟨D2_c,D2_f,D2_z⟩:=D2.all
   go_wp2_with fail
   refine bodyPost_ret (v:=.tuple #[.agg #[.slice of n kf,.slice or' r kr,.slice om m km,.slice og q kg,.int .i64 tx,.int .u64 dx,.int .i64 sx],.int .i64 3800]) (by simp [results,Tryz.results27,go_sem,D2_c]) rfl ?_
   have hcd:H.addC ⟨cr,cl,cs,cp,ca⟩ q0=3800:=(by unfold Ho.addC;exact if_pos (.inr (.inr (.inl g2))))
   have hto:HH=H:=by rw[←HHH.out];unfold Ho.addTo;rw[hcd,if_neg (by decide)]
   rw[hto,←HCODE.out,hcd]
   exact add_ret (k:=fun v=>.tuple #[v,.int .i64 3800]) HARG.out rfl (Below.fill7 hbw (by omega) _ _ _ _ _ _ _)
 have t2:decide (q0<1)=false:=decide_eq_false g2
 by_cases g3:32<q0
 · have t1:decide (q0>32)=true:=decide_eq_true g3
   have t1':decide (32<q0)=true:=decide_eq_true g3
   obtain⟨D1_c,D1_f,D1_z⟩:=D1.all
   obtain⟨DC_c,DC_f,DC_z⟩:=DC.all
   obtain⟨D2_c,D2_f,D2_z⟩:=D2.all
   go_wp2_with fail
   refine bodyPost_ret (v:=.tuple #[.agg #[.slice of n kf,.slice or' r kr,.slice om m km,.slice og q kg,.int .i64 tx,.int .u64 dx,.int .i64 sx],.int .i64 3800]) (by simp [results,Tryz.results27,go_sem,D2_c]) rfl ?_
   have hcd:H.addC ⟨cr,cl,cs,cp,ca⟩ q0=3800:=(by unfold Ho.addC;exact if_pos (.inr (.inr (.inr g3))))
   have hto:HH=H:=by rw[←HHH.out];unfold Ho.addTo;rw[hcd,if_neg (by decide)]
   rw[hto,←HCODE.out,hcd]
   exact add_ret (k:=fun v=>.tuple #[v,.int .i64 3800]) HARG.out rfl (Below.fill7 hbw (by omega) _ _ _ _ _ _ _)
 have t3:decide (q0>32)=false:=decide_eq_false g3
 have t3':decide (32<q0)=false:=decide_eq_false g3
 have hgood:¬(validB ⟨cr,cl,cs,cp,ca⟩=false∨cp≠0∨q0<1∨32<q0):=by
  rintro (h|h|h|h)
  · rw[HBV.out] at h;cases h
  · exact h g1
  · exact g2 h
  · exact g3 h
 have HGD:=lh hgood;clear hgood
 have HG1:=lh g1;clear g1
 by_cases g4:8≤q
 · have t4:decide ((q:Int) ≥ 8)=true:=decide_eq_true (by omega)
   have t4':decide ((8:Int)≤(q:Int))=true:=decide_eq_true (by omega)
   obtain⟨D1_c,D1_f,D1_z⟩:=D1.all
   obtain⟨DC_c,DC_f,DC_z⟩:=DC.all
   obtain⟨D2_c,D2_f,D2_z⟩:=D2.all
   go_wp2_with fail
   refine bodyPost_ret (v:=.tuple #[.agg #[.slice of n kf,.slice or' r kr,.slice om m km,.slice og q kg,.int .i64 tx,.int .u64 dx,.int .i64 sx],.int .i64 3802]) (by simp [results,Tryz.results27,go_sem,D2_c]) rfl ?_
   have hcd:H.addC ⟨cr,cl,cs,cp,ca⟩ q0=3802:=(by unfold Ho.addC;rw[if_neg HGD.out,if_pos (by rw[HQ.out];exact g4)])
   have hto:HH=H:=by rw[←HHH.out];unfold Ho.addTo;rw[hcd,if_neg (by decide)]
   rw[hto,←HCODE.out,hcd]
   exact add_ret (k:=fun v=>.tuple #[v,.int .i64 3802]) HARG.out rfl (Below.fill7 hbw (by omega) _ _ _ _ _ _ _)
 have t4:decide ((q:Int) ≥ 8)=false:=decide_eq_false (by omega)
 have t4':decide ((8:Int)≤(q:Int))=false:=decide_eq_false (by omega)
 have hq8:q<8:=by omega
 have hvb:=(validB_iff _).1 HBV.out
 dsimp only at hvb
 have hsum:=HOK.out.sum
 rw[HQ.out] at hsum
 have HSUM:=lh hsum;clear hsum
 have hcr:1≤cr∧cr≤96:=by omega
 clear hvb
 obtain⟨D1_c,D1_f,D1_z⟩:=D1.all
 obtain⟨DC_c,DC_f,DC_z⟩:=DC.all
 go_wp2_with fail
 go_loop [8,9] (fun sv iv=>∃ (i:Nat) (S:Int),i≤q∧iv=.int .i64 i∧sv=.int .i64 S∧Hid (S=cr+sumR (H.G.take i))) (fun _ iv=>q - (intOf iv).toNat)
 case atStart=>exact⟨0,cr,Nat.zero_le _,rfl,rfl,lh (by unfold sumR;simp)⟩
 case round =>
  obtain⟨i,S,hi,rfl,rfl,HSS⟩:=hrel
  have hsb:=HSUM.out i hi
  have hSb:1≤S∧S≤1000:=by have:=HSS.out;omega
  by_cases hlt:i<q
  · obtain⟨g,hg⟩:=get_lt (xs:=H.G) (k:=i) (by rw[HQ.out];exact hlt)
    obtain⟨l,hl,hgo⟩:=HOK.out.page hg
    have hrb:=hgo.rb
    have hst:=sumR_take hg
    obtain⟨gb,goff,so,sc,uo,uc,eo,ec,rfl,hgb,s1,s2,u1,u2,e3,e4,cs',hS,hU,hE⟩:=(H0.out.below hbw).guest hg
    clear hS hU hE hg hl hgo s1 u1 e3
    obtain⟨⟨rr,cl',ss,pp,aa⟩,SS,U,hd,E⟩:=g
    dsimp only at cs' hrb hst
    have hrr:1≤rr∧rr≤96:=by omega
    have HST:=lh hst;clear hst hrb
    have c0:w4.cell? ⟨gb,goff+i*9,none⟩=_:=cs' 0 _ rfl
    dsimp only at c0
    clear cs'
    have i0':(0:Int)≤(i:Int):=by omega
    have iq:(i:Int)<(q:Int):=by omega
    go_wp2_with fail
    go_round
    case rel=>exact⟨i+1,S+rr,by omega,by go_num,by go_num,lh (by rw[HST.out,HSS.out];omega)⟩
    case measure=>simp [intOf];omega
  · obtain rfl:q=i:=by omega
    have hall:H.G.take q=H.G:=by rw[←HQ.out];exact List.take_length
    rw[hall] at HSS
    clear hall hsb hlt hi
    by_cases g5:(n:Int)<S
    · have t5:decide (S>(n:Int))=true:=decide_eq_true g5
      have t5':decide ((n:Int)<S)=true:=decide_eq_true g5
      have HCO:Hid (H.addC ⟨cr,cl,cs,cp,ca⟩ q0=3801):=lh (by
       unfold Ho.addC
       rw[if_neg HGD.out,if_neg (by rw[HQ.out];omega),if_pos]
       rw[HN.out,←HSS.out]
       exact g5)
      obtain⟨D2_c,D2_f,D2_z⟩:=D2.all
      go_wp2_with fail
      refine bodyPost_ret (v:=.tuple #[.agg #[.slice of n kf,.slice or' r kr,.slice om m km,.slice og q kg,.int .i64 tx,.int .u64 dx,.int .i64 sx],.int .i64 3801]) (by simp [results,Tryz.results27,go_sem,D2_c]) rfl ?_
      have hcd:H.addC ⟨cr,cl,cs,cp,ca⟩ q0=3801:=HCO.out
      have hto:HH=H:=by rw[←HHH.out];unfold Ho.addTo;rw[hcd,if_neg (by decide)]
      rw[hto,←HCODE.out,hcd]
      exact add_ret (k:=fun v=>.tuple #[v,.int .i64 3801]) HARG.out rfl (Below.fill7 hbw (by omega) _ _ _ _ _ _ _)
    · have t5:decide (S>(n:Int))=false:=decide_eq_false g5
      have t5':decide ((n:Int)<S)=false:=decide_eq_false g5
      obtain⟨qn,rfl⟩:∃ qn:Nat,q0=qn:=⟨q0.toNat,by omega⟩
      have hq1:1≤qn∧qn≤32:=by omega
      have HCO:Hid (H.addC ⟨cr,cl,cs,cp,ca⟩ qn=0):=lh (by
       unfold Ho.addC
       rw[if_neg HGD.out,if_neg (by rw[HQ.out];omega),if_neg]
       rw[HN.out,←HSS.out]
       exact g5)
      have HTO:Hid (HH=H.addG ⟨cr,cl,cs,cp,ca⟩ qn):=lh (by
       rw[←HHH.out]
       unfold Ho.addTo
       rw[HCO.out,if_pos rfl,Int.toNat_natCast])
      have PA:=fun v w h=>rpadd_own v H.P qn w h HOK.out.p (by rw[←HOK.out.m,HQ.out];exact hq8) hq1.1 hq1.2
      obtain⟨P2,hP2⟩:∃ P,H.P.add qn=P:=⟨_,rfl⟩
      rw[hP2] at PA
      have HPA:=lh PA;clear PA
      have HP2:=lh hP2;clear hP2
      clear g5 HSS hSb
      go_wp2_with fail
      clear D1_c D1_f D1_z DC_c DC_f DC_z D1
      with_reducible refine (HMN.out _ _ (HA.out _ hbw)).mono ?_
      rintro e w3 ⟨T,of1,or1,om1,og1,kf1',kr1',km1',kg1',us1,gs1,rfl,R1,hT1,hb3⟩
      rw[HN.out,HR.out,HM.out,HQ.out] at R1 ⊢
      rw[HT.out,HD.out,HS.out]
      replace R1:=R1.lower (base':=w.heap.size+1+1+1) hz0
      replace D2:=D2.below hb3
      replace DC:=DC.below hb3
      replace hbw:=hbw.trans (hb3.mono hbw.size)
      replace hz0:=Nat.le_trans hz0 hb3.size
      clear hb3 HVL HMN HA
      go_upto_region 13 with (fail)
      have DR:=HasBlock.made w3 #[.slice of1 n kf1',.slice or1 r kr1',.slice om1 m km1',.slice og1 q kg1',.int .i64 tx,.int .u64 dx,.int .i64 sx] 30
      have hbx:Below w3.heap.size w3 (w3.alloc (.cells #[.slice of1 n kf1',.slice or1 r kr1',.slice om1 m km1',.slice og1 q kg1',.int .i64 tx,.int .u64 dx,.int .i64 sx] 30)):=(Below.refl _ _).alloc (nlr _) _
      replace D2:=D2.below hbx
      replace DC:=DC.below hbx
      replace R1:=R1.below hbx
      replace hbw:=hbw.trans (hbx.mono hbw.size)
      have hz4:w3.heap.size<(w3.alloc (.cells #[.slice of1 n kf1',.slice or1 r kr1',.slice om1 m km1',.slice og1 q kg1',.int .i64 tx,.int .u64 dx,.int .i64 sx] 30)).heap.size:=by simp only[sizes];omega
      clear hbx
      generalize hW:w3.alloc (.cells #[.slice of1 n kf1',.slice or1 r kr1',.slice om1 m km1',.slice og1 q kg1',.int .i64 tx,.int .u64 dx,.int .i64 sx] 30)=w5' at D2 DC DR R1 hbw hz4 ⊢
      obtain⟨B,hB⟩:∃ B,w3.heap.size=B:=⟨_,rfl⟩
      rw[hB] at DR hz0 hT1 hz4 ⊢
      clear hW hB
      have O1:=R1.own
      clear R1
      have hzz:w.heap.size+1+1+1≤w5'.heap.size:=by omega
      have hBZ:B<w5'.heap.size:=hz4
      have H0B:=lh O1.row.p
      obtain⟨DR_c,DR_f,DR_z⟩:=DR.all
      go_wp2_with fail
      clear DR_c DR_f DR_z
      with_reducible refine (HPA.out _ _ H0B.out).mono ?_
      rintro e w5 ⟨of5,or5,om5,kf5,kr5,km5,us5,rfl,O5,hb5⟩
      obtain⟨n5,hgn⟩:∃ n,(Pl.F P2).length=n:=⟨_,rfl⟩
      obtain⟨r5,hgr⟩:∃ n,(Pl.R P2).length=n:=⟨_,rfl⟩
      obtain⟨m5,hgm⟩:∃ n,(Pl.M P2).length=n:=⟨_,rfl⟩
      rw[hgn,hgr,hgm] at O5 ⊢
      have HG5:=lh (And.intro hgn (And.intro hgr hgm))
      clear hgn hgr hgm
      have hltG:=O1.ltG
      replace DC:=DC.below hb5
      replace D2:=D2.below hb5
      replace DR:=DR.below hb5
      replace O1:=O1.below hb5
      replace hbw:=hbw.trans (hb5.mono hbw.size)
      replace hBZ:=Nat.lt_of_lt_of_le hBZ hb5.size
      have O5G:=O5.ge
      replace O5:=O5.lower hzz
      replace hzz:=Nat.le_trans hzz hb5.size
      clear hb5
      have nB:w.heap.size+1+1≠B:=by omega
      have nC:w.heap.size+1≠B:=by omega
      have hmb:=make_bools qn (by omega)
      have hms:=makes_F qn (by omega)
      have DRk:=DR
      have Oa:=O1.newPool O5 hltG O5G
      have Ob:=((Oa.setbox (j:=0) DR hostT (.slice of5 n5 kf5)).setbox (j:=1) (DR.put7_0 (.slice of5 n5 kf5)) hostT (.slice or5 r5 kr5)).setbox (j:=2) ((DR.put7_0 (.slice of5 n5 kf5)).put7_1 (.slice or5 r5 kr5)) hostT (.slice om5 m5 km5)
      have DR8:=DRk.poolIn (.slice of5 n5 kf5) (.slice or5 r5 kr5) (.slice om5 m5 km5)
      have D28:=((D2.set_ne nB (j:=0) (.slice of5 n5 kf5)).set_ne nB (j:=1) (.slice or5 r5 kr5)).set_ne nB (j:=2) (.slice om5 m5 km5)
      have DC8:=((DC.set_ne nC (j:=0) (.slice of5 n5 kf5)).set_ne nC (j:=1) (.slice or5 r5 kr5)).set_ne nC (j:=2) (.slice om5 m5 km5)
      have hbw8:=((hbw.setCell (p:=⟨B,0,none⟩) (by dsimp only;omega) (.slice of5 n5 kf5)).setCell (p:=⟨B,1,none⟩) (by dsimp only;omega) (.slice or5 r5 kr5)).setCell (p:=⟨B,2,none⟩) (by dsimp only;omega) (.slice om5 m5 km5)
      clear Oa D2 DC hltG O5 O1
      obtain⟨DR_c,DR_f,DR_z⟩:=DR.all
      go_upto_region 14 with (fail)
      clear DR_c DR_f DR_z
      have hcp:=HG1.out
      subst hcp
      clear HG1 t0
      generalize hW:((World.setCell w5 ⟨B,0,none⟩ (.slice of5 n5 kf5)).setCell ⟨B,1,none⟩ (.slice or5 r5 kr5)).setCell ⟨B,2,none⟩ (.slice om5 m5 km5)=w8 at Ob DR8 D28 DC8 hbw8 ⊢
      clear hW DRk DR
      have hz8:w.heap.size+1+1+1≤w8.heap.size:=by have:=DR8.lt;omega
      obtain⟨i0,hi0,iz0,iz1,iz2⟩:=info_parts info_gm
      have HOW:Hid (w8.ownsRow (w.heap.size+1+1+1) 49 9 (.slice og1 q kg1') q (gmFlat H.G gs1)):=by
       have h:=Ob.g
       rw[show (H.setP P2).G.length=q from HQ.out] at h
       exact h
      have hrule:∀ w':World,Below (w.heap.size+1+1+1) w8 w'→∀ o,w'.cell? ⟨w.heap.size+1,o,none⟩=w8.cell? ⟨w.heap.size+1,o,none⟩:=fun w' h o=>h.cell (p:=⟨w.heap.size+1,o,none⟩) (by dsimp only;omega)
      have hruleB:∀ w':World,HasBlock w' B #[.slice of5 n5 kf5,.slice or5 r5 kr5,.slice om5 m5 km5,.slice og1 q kg1',.int .i64 tx,.int .u64 dx,.int .i64 sx] 30→∀ o,w'.cell? ⟨B,o,none⟩=#[.slice of5 n5 kf5,.slice or5 r5 kr5,.slice om5 m5 km5,.slice og1 q kg1',.int .i64 tx,.int .u64 dx,.int .i64 sx][o]?:=fun w' h o=>h.cell o
      have hruleF:∀ w':World,HasBlock w' B #[.slice of5 n5 kf5,.slice or5 r5 kr5,.slice om5 m5 km5,.slice og1 q kg1',.int .i64 tx,.int .u64 dx,.int .i64 sx] 30→∀ o,w'.frozen? ⟨B,o,none⟩=false:=fun w' h o=>h.free o
      obtain⟨DR8_c,DR8_f,DR8_z⟩:=DR8.all
      obtain⟨DC8_c,DC8_f,DC8_z⟩:=DC8.all
      clear hruleF
      refine wp_region_lastH (S:=fun w'=>Below (w.heap.size+1+1+1) w8 w'∧HasBlock w' B #[.slice of5 n5 kf5,.slice or5 r5 kr5,.slice om5 m5 km5,.slice og1 q kg1',.int .i64 tx,.int .u64 dx,.int .i64 sx] 30) 13 _ rfl rfl (by kernel_rfl) (by kernel_rfl) ⟨Below.mono bel3 hz8,by (repeat' (first|with_reducible assumption|(with_reducible refine HasBlock.drew ?_)|(with_reducible refine HasBlock.made' sz4)|(with_reducible refine HasBlock.alloc ?_ _)))⟩ (fun hHeld=>?_)
      simp only[List.take_succ_cons,List.take_zero]
      refine wpAnyH_take (i:=0) (v:=?_) rfl (by kernel_rfl) (by kernel_rfl) (by kernel_rfl) (fun _ _ _ h=>h) (Or.inl ⟨by rfl,?_⟩) (by assumption) ?_
      rotate_left
      · intro w' hSw
        (try dsimp only at hSw)
        first|(go_simp;done)|(go_simp;with_reducible rfl)
      (try simp only[List.getElem_toArray,List.getElem_cons_zero,Act.put,List.setIfInBounds_toArray,List.set_cons_zero,List.set_cons_succ])
      refine wpAnyH_take (i:=1) (v:=?_) rfl (by kernel_rfl) (by kernel_rfl) (by kernel_rfl) (fun _ _ _ h=>h) (Or.inl ⟨by rfl,?_⟩) (by assumption) ?_
      rotate_left
      · intro w' hSw
        (try dsimp only at hSw)
        first|(go_simp;done)|(go_simp;with_reducible rfl)
      (try simp only[List.getElem_toArray,List.getElem_cons_succ,List.getElem_cons_zero,Act.put,List.setIfInBounds_toArray,List.set_cons_zero,List.set_cons_succ])
      refine wpAnyH_take (i:=2) (v:=?_) rfl (by kernel_rfl) (by kernel_rfl) (by kernel_rfl) (fun _ _ _ h=>h) (Or.inl ⟨by rfl,?_⟩) (by assumption) ?_
      rotate_left
      · intro w' hSw
        (try dsimp only at hSw)
        first|(go_simp;done)|(go_simp;with_reducible rfl)
      (try simp only[List.getElem_toArray,List.getElem_cons_succ,List.getElem_cons_zero,Act.put,List.setIfInBounds_toArray,List.set_cons_zero,List.set_cons_succ])
      refine wpAnyH_take (i:=3) (v:=?_) rfl (by kernel_rfl) (by kernel_rfl) (by kernel_rfl) (fun _ _ _ h=>h) (Or.inl ⟨by rfl,?_⟩) (by assumption) ?_
      rotate_left
      · intro w' hSw
        (try dsimp only at hSw)
        first|(go_simp;done)|(go_simp;with_reducible rfl)
      (try simp only[List.getElem_toArray,List.getElem_cons_succ,List.getElem_cons_zero,Act.put,List.setIfInBounds_toArray,List.set_cons_zero,List.set_cons_succ])
      refine wpAnyH_take (i:=5) (v:=?_) rfl (by kernel_rfl) (by kernel_rfl) (by kernel_rfl) (fun _ _ _ h=>h) (Or.inl ⟨by rfl,?_⟩) (by assumption) ?_
      rotate_left
      · intro w' hSw
        (try dsimp only at hSw)
        first|(go_simp;done)|(go_simp;with_reducible rfl)
      (try simp only[List.getElem_toArray,List.getElem_cons_succ,List.getElem_cons_zero,Act.put,List.setIfInBounds_toArray,List.set_cons_zero,List.set_cons_succ])
      refine wpAnyH_take (i:=7) (v:=?_) rfl (by kernel_rfl) (by kernel_rfl) (by kernel_rfl) (fun _ _ _ h=>h) (Or.inl ⟨by rfl,?_⟩) (by assumption) ?_
      rotate_left
      · intro w' hSw
        (try dsimp only at hSw)
        first|(go_simp;done)|(go_simp;with_reducible rfl)
      (try simp only[List.getElem_toArray,List.getElem_cons_succ,List.getElem_cons_zero,Act.put,List.setIfInBounds_toArray,List.set_cons_zero,List.set_cons_succ])
      refine wpAnyH_ready (rs:=[4,6,8]) (by kernel_rfl) (by simp) ?_
      refine AllReadyH.cons rfl (fun K hK=>?_) (AllReadyH.cons rfl (fun K hK=>?_) (AllReadyH.cons rfl (fun K hK=>?_) AllReadyH.nil))
      go_simp
      clear hHeld
      refine hK.out _ _ ⟨Below.mono bel3 hz8,by (repeat' (first|with_reducible assumption|(with_reducible refine HasBlock.drew ?_)|(with_reducible refine HasBlock.made' sz4)|(with_reducible refine HasBlock.alloc ?_ _)))⟩ (fun hHeld=>?_)
      clear hK K
      (try simp only[List.getElem_toArray,List.getElem_cons_succ,List.getElem_cons_zero,Act.put,List.setIfInBounds_toArray,List.set_cons_zero,List.set_cons_succ])
      refine wpAnyH_ready (rs:=[6,8]) (by kernel_rfl) (by simp) ?_
      refine AllReadyH.cons rfl (fun K hK=>?_) (AllReadyH.cons rfl (fun K hK=>?_) AllReadyH.nil)
      go_simp
      clear hHeld
      refine hK.out _ _ ⟨Below.mono bel3 hz8,by (repeat' (first|with_reducible assumption|(with_reducible refine HasBlock.drew ?_)|(with_reducible refine HasBlock.made' sz4)|(with_reducible refine HasBlock.alloc ?_ _)))⟩ (fun hHeld=>?_)
      clear hK K
      (try simp only[List.getElem_toArray,List.getElem_cons_succ,List.getElem_cons_zero,Act.put,List.setIfInBounds_toArray,List.set_cons_zero,List.set_cons_succ])
      refine wpAnyH_ready (rs:=[8]) (by kernel_rfl) (by simp) ?_
      refine AllReadyH.cons rfl (fun K hK=>?_) AllReadyH.nil
      go_simp
      clear hHeld
      refine hK.out _ _ ⟨Below.mono bel3 hz8,by (repeat' (first|with_reducible assumption|(with_reducible refine HasBlock.drew ?_)|(with_reducible refine HasBlock.made' sz4)|(with_reducible refine HasBlock.alloc ?_ _)))⟩ (fun hHeld=>?_)
      clear hK K
      (try simp only[List.getElem_toArray,List.getElem_cons_succ,List.getElem_cons_zero,Act.put,List.setIfInBounds_toArray,List.set_cons_zero,List.set_cons_succ])
      rotate_left
      go_simp
      clear hHeld
      refine hK.out _ _ ⟨Below.mono bel3 hz8,by (repeat' (first|with_reducible assumption|(with_reducible refine HasBlock.drew ?_)|(with_reducible refine HasBlock.made' sz4)|(with_reducible refine HasBlock.alloc ?_ _)))⟩ (fun hHeld=>?_)
      clear hK K
      (try simp only[List.getElem_toArray,List.getElem_cons_succ,List.getElem_cons_zero,Act.put,List.setIfInBounds_toArray,List.set_cons_zero,List.set_cons_succ])
      refine wpAnyH_ready (rs:=[6]) (by kernel_rfl) (by simp) ?_
      refine AllReadyH.cons rfl (fun K hK=>?_) AllReadyH.nil
      go_simp
      clear hHeld
      refine hK.out _ _ ⟨Below.mono bel3 hz8,by (repeat' (first|with_reducible assumption|(with_reducible refine HasBlock.drew ?_)|(with_reducible refine HasBlock.made' sz4)|(with_reducible refine HasBlock.alloc ?_ _)))⟩ (fun hHeld=>?_)
      clear hK K
      (try simp only[List.getElem_toArray,List.getElem_cons_succ,List.getElem_cons_zero,Act.put,List.setIfInBounds_toArray,List.set_cons_zero,List.set_cons_succ])
      rotate_left
      go_simp
      clear hHeld
      refine hK.out _ _ ⟨Below.mono bel3 hz8,by (repeat' (first|with_reducible assumption|(with_reducible refine HasBlock.drew ?_)|(with_reducible refine HasBlock.made' sz4)|(with_reducible refine HasBlock.alloc ?_ _)))⟩ (fun hHeld=>?_)
      clear hK K
      (try simp only[List.getElem_toArray,List.getElem_cons_succ,List.getElem_cons_zero,Act.put,List.setIfInBounds_toArray,List.set_cons_zero,List.set_cons_succ])
      refine wpAnyH_ready (rs:=[4,8]) (by kernel_rfl) (by simp) ?_
      refine AllReadyH.cons rfl (fun K hK=>?_) (AllReadyH.cons rfl (fun K hK=>?_) AllReadyH.nil)
      go_simp
      clear hHeld
      refine hK.out _ _ ⟨Below.mono bel3 hz8,by (repeat' (first|with_reducible assumption|(with_reducible refine HasBlock.drew ?_)|(with_reducible refine HasBlock.made' sz4)|(with_reducible refine HasBlock.alloc ?_ _)))⟩ (fun hHeld=>?_)
      clear hK K
      (try simp only[List.getElem_toArray,List.getElem_cons_succ,List.getElem_cons_zero,Act.put,List.setIfInBounds_toArray,List.set_cons_zero,List.set_cons_succ])
      refine wpAnyH_ready (rs:=[8]) (by kernel_rfl) (by simp) ?_
      refine AllReadyH.cons rfl (fun K hK=>?_) AllReadyH.nil
      go_simp
      clear hHeld
      refine hK.out _ _ ⟨Below.mono bel3 hz8,by (repeat' (first|with_reducible assumption|(with_reducible refine HasBlock.drew ?_)|(with_reducible refine HasBlock.made' sz4)|(with_reducible refine HasBlock.alloc ?_ _)))⟩ (fun hHeld=>?_)
      clear hK K
      (try simp only[List.getElem_toArray,List.getElem_cons_succ,List.getElem_cons_zero,Act.put,List.setIfInBounds_toArray,List.set_cons_zero,List.set_cons_succ])
      rotate_left
      go_simp
      clear hHeld
      refine hK.out _ _ ⟨Below.mono bel3 hz8,by (repeat' (first|with_reducible assumption|(with_reducible refine HasBlock.drew ?_)|(with_reducible refine HasBlock.made' sz4)|(with_reducible refine HasBlock.alloc ?_ _)))⟩ (fun hHeld=>?_)
      clear hK K
      (try simp only[List.getElem_toArray,List.getElem_cons_succ,List.getElem_cons_zero,Act.put,List.setIfInBounds_toArray,List.set_cons_zero,List.set_cons_succ])
      refine wpAnyH_ready (rs:=[4]) (by kernel_rfl) (by simp) ?_
      refine AllReadyH.cons rfl (fun K hK=>?_) AllReadyH.nil
      go_simp
      clear hHeld
      refine hK.out _ _ ⟨Below.mono bel3 hz8,by (repeat' (first|with_reducible assumption|(with_reducible refine HasBlock.drew ?_)|(with_reducible refine HasBlock.made' sz4)|(with_reducible refine HasBlock.alloc ?_ _)))⟩ (fun hHeld=>?_)
      clear hK K
      (try simp only[List.getElem_toArray,List.getElem_cons_succ,List.getElem_cons_zero,Act.put,List.setIfInBounds_toArray,List.set_cons_zero,List.set_cons_succ])
      rotate_left
      go_simp
      clear hHeld
      refine hK.out _ _ ⟨Below.mono bel3 hz8,by (repeat' (first|with_reducible assumption|(with_reducible refine HasBlock.drew ?_)|(with_reducible refine HasBlock.made' sz4)|(with_reducible refine HasBlock.alloc ?_ _)))⟩ (fun hHeld=>?_)
      clear hK K
      (try simp only[List.getElem_toArray,List.getElem_cons_succ,List.getElem_cons_zero,Act.put,List.setIfInBounds_toArray,List.set_cons_zero,List.set_cons_succ])
      refine wpAnyH_ready (rs:=[4,6]) (by kernel_rfl) (by simp) ?_
      refine AllReadyH.cons rfl (fun K hK=>?_) (AllReadyH.cons rfl (fun K hK=>?_) AllReadyH.nil)
      go_simp
      clear hHeld
      refine hK.out _ _ ⟨Below.mono bel3 hz8,by (repeat' (first|with_reducible assumption|(with_reducible refine HasBlock.drew ?_)|(with_reducible refine HasBlock.made' sz4)|(with_reducible refine HasBlock.alloc ?_ _)))⟩ (fun hHeld=>?_)
      clear hK K
      (try simp only[List.getElem_toArray,List.getElem_cons_succ,List.getElem_cons_zero,Act.put,List.setIfInBounds_toArray,List.set_cons_zero,List.set_cons_succ])
      refine wpAnyH_ready (rs:=[6]) (by kernel_rfl) (by simp) ?_
      refine AllReadyH.cons rfl (fun K hK=>?_) AllReadyH.nil
      go_simp
      clear hHeld
      refine hK.out _ _ ⟨Below.mono bel3 hz8,by (repeat' (first|with_reducible assumption|(with_reducible refine HasBlock.drew ?_)|(with_reducible refine HasBlock.made' sz4)|(with_reducible refine HasBlock.alloc ?_ _)))⟩ (fun hHeld=>?_)
      clear hK K
      (try simp only[List.getElem_toArray,List.getElem_cons_succ,List.getElem_cons_zero,Act.put,List.setIfInBounds_toArray,List.set_cons_zero,List.set_cons_succ])
      rotate_left
      go_simp
      clear hHeld
      refine hK.out _ _ ⟨Below.mono bel3 hz8,by (repeat' (first|with_reducible assumption|(with_reducible refine HasBlock.drew ?_)|(with_reducible refine HasBlock.made' sz4)|(with_reducible refine HasBlock.alloc ?_ _)))⟩ (fun hHeld=>?_)
      clear hK K
      (try simp only[List.getElem_toArray,List.getElem_cons_succ,List.getElem_cons_zero,Act.put,List.setIfInBounds_toArray,List.set_cons_zero,List.set_cons_succ])
      refine wpAnyH_ready (rs:=[4]) (by kernel_rfl) (by simp) ?_
      refine AllReadyH.cons rfl (fun K hK=>?_) AllReadyH.nil
      go_simp
      clear hHeld
      refine hK.out _ _ ⟨Below.mono bel3 hz8,by (repeat' (first|with_reducible assumption|(with_reducible refine HasBlock.drew ?_)|(with_reducible refine HasBlock.made' sz4)|(with_reducible refine HasBlock.alloc ?_ _)))⟩ (fun hHeld=>?_)
      clear hK K
      (try simp only[List.getElem_toArray,List.getElem_cons_succ,List.getElem_cons_zero,Act.put,List.setIfInBounds_toArray,List.set_cons_zero,List.set_cons_succ])
      rotate_left
      all_goals
       refine wpAnyH_take (i:=9) (v:=?_) rfl (by kernel_rfl) (by kernel_rfl) (by kernel_rfl) (fun _ _ _ h=>h) (Or.inl ⟨by rfl,?_⟩) (by assumption) ?_
       rotate_left
       · intro w' hSw
         (try dsimp only at hSw)
         first|(go_simp;done)|(go_simp;with_reducible rfl)
       (try simp only[List.getElem_toArray,List.getElem_cons_succ,List.getElem_cons_zero,Act.put,List.setIfInBounds_toArray,List.set_cons_zero,List.set_cons_succ])
       refine wpAnyH_ready (rs:=[10]) (by kernel_rfl) (by simp) ?_
       refine AllReadyH.cons rfl (fun K hK=>?_) AllReadyH.nil
       go_simp
       clear hHeld
       refine hK.out _ _ ⟨Below.mono bel3 hz8,by (repeat' (first|with_reducible assumption|(with_reducible refine HasBlock.drew ?_)|(with_reducible refine HasBlock.made' sz4)|(with_reducible refine HasBlock.alloc ?_ _)))⟩ (fun hHeld=>?_)
       clear hK K
       (try simp only[List.getElem_toArray,List.getElem_cons_succ,List.getElem_cons_zero,Act.put,List.setIfInBounds_toArray,List.set_cons_zero,List.set_cons_succ])
       refine wpAnyH_ready (rs:=[11]) (by kernel_rfl) (by simp) ?_
       refine AllReadyH.cons rfl (fun K hK=>?_) AllReadyH.nil
       refine step_append_own rfl (.tmp 74) (.tmp 83) 27 rfl (w.heap.size+1+1+1) 49 i0 (.agg #[.int .i64 0,.int .i64 0,.int .i64 0,.int .i64 0,.int .i64 0,.slice none 0 0,.slice none 0 0,.int .i64 0,.slice none 0 0]) 9 120 Tryz.underlying27 hi0 iz0 iz1 iz2 rfl (by decide) (.slice og1 q kg1') q (gmFlat H.G gs1) rfl (owns_below HOW.out bel3) ⟨_,0,none⟩ 1 1 [.int .i64 cr,.int .i64 cl,.int .i64 cs,.int .i64 0,.int .i64 ca,.slice _ qn qn,.slice _ qn qn,.int .i64 0,.slice _ qn qn] rfl rfl (cells_made _ _ _ _ (by first|rfl|simp only[sizes])) (one_gm _ _ _ _ _ _ _ _ _ _ _ _ _ _ _) (by unfold maxLen;omega) (by omega) sz4 ?_
       intro v6 w6 hown6 hgrow6 _
       obtain⟨o6,c6,rfl,hc61,hc62⟩:=own_form' hown6
       obtain⟨F3,hbX⟩:=grown_all hgrow6 bel3 Ob DR8 hz8 rfl
       clear hHeld
       refine hK.out _ _ ⟨hbX,F3⟩ (fun hHeld=>?_)
       clear hK K
       (try simp only[List.getElem_toArray,List.getElem_cons_succ,List.getElem_cons_zero,Act.put,List.setIfInBounds_toArray,List.set_cons_zero,List.set_cons_succ])
       refine wpAnyH_take (i:=12) (v:=?_) rfl (by kernel_rfl) (by kernel_rfl) (by kernel_rfl) (fun _ _ _ h=>h) (Or.inl ⟨by rfl,?_⟩) (by assumption) ?_
       rotate_left
       · intro w' hSw
         (try dsimp only at hSw)
         first|(go_simp;done)|(go_simp;with_reducible rfl)
       (try simp only[List.getElem_toArray,List.getElem_cons_succ,List.getElem_cons_zero,Act.put,List.setIfInBounds_toArray,List.set_cons_zero,List.set_cons_succ])
       refine wpAnyH_done (by kernel_rfl) ?_ _
       change wpList _ _ _ _ _ _
       clear hHeld hrule hruleB DR8_c DR8_f DR8_z DC8_c DC8_f DC8_z
       have F2:=D28.under hbX (by omega)
       have HO6:=pushN (c:=⟨cr,cl,cs,0,ca⟩) hgrow6 Ob HQ.out hown6 bel3 (by (repeat' (first|with_reducible assumption|(with_reducible refine HasBlock.drew ?_)|(with_reducible refine HasBlock.made' sz4)|(with_reducible refine HasBlock.alloc ?_ _)))) (by (repeat' (first|with_reducible assumption|(with_reducible refine HasBlock.drew ?_)|(with_reducible refine HasBlock.made' sz4)|(with_reducible refine HasBlock.alloc ?_ _)))) (by (repeat' (first|with_reducible assumption|(with_reducible refine HasBlock.drew ?_)|(with_reducible refine HasBlock.made' sz4)|(with_reducible refine HasBlock.alloc ?_ _)))) (by omega) (by omega) (by omega) (by omega) hz8 (by omega)
       have F3k:=F3
       obtain⟨F3_c,F3_f,F3_z⟩:=F3.all
       obtain⟨F2_c,F2_f,F2_z⟩:=F2.all
       go_wp2_with fail
       refine bodyPost_ret (v:=.tuple #[.agg #[.slice of5 n5 kf5,.slice or5 r5 kr5,.slice om5 m5 km5,.slice o6 (q+1) c6,.int .i64 tx,.int .u64 dx,.int .i64 sx],.int .i64 0]) (by simp [results,Tryz.results27,go_sem,F2_c]) rfl ?_
       have hAG:H.addG ⟨cr,cl,cs,0,ca⟩ qn=⟨P2,H.G++[newG ⟨cr,cl,cs,0,ca⟩ qn],H.t,H.d,H.n⟩:=by unfold Ho.addG;rw[HP2.out]
       rw[HTO.out,←HCODE.out,HCO.out,hAG]
       exact (hoRet' (k:=fun v=>.tuple #[v,.int .i64 0]) (H:=⟨P2,H.G++[newG ⟨cr,cl,cs,0,ca⟩ qn],H.t,H.d,H.n⟩) HG5.out.1 HG5.out.2.1 HG5.out.2.2 (by show (H.G++[_]).length=_;rw[List.length_append,HQ.out];rfl) HT.out HD.out HS.out ((HO6.setbox (j:=3) F3k hostT (.slice o6 (q+1) c6)).fill7 (by omega) _ _ _ _ _ _ _) (Below.fill7 ((hbw8.trans (hbX.mono (by omega))).setCell (p:=⟨B,3,none⟩) (by dsimp only;omega) _) (by omega) _ _ _ _ _ _ _)).v
end Go.Proofs.YtbnngjhnkegliaaGreat
