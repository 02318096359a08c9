/-
  Texts joined: HrRValid. No law is proved here.
-/
import Derived.Test.YtbnngjhnkegliaaGreatB10
import Derived.Test.YtbnngjhnkegliaaGreatB12
namespace Go.Proofs.YtbnngjhnkegliaaGreat
open Go.RowKit
set_option maxRecDepth 100000 in
set_option maxHeartbeats 8000000 in
theorem rhvalid_any (v:Value) (H:Ho) (bv:Bool) (w:World) (ha:HoAt w v H) (hf:H.Fit) (hsm:H.Small) (hb:bv=true↔H.Ok):Calls Tryz.prog 33 #[v] w (Ret w (.bool bv)):=by
 have VP:=fun v w h=>rvalid_pl v H.P w h hf.p
 obtain⟨vb,hvb⟩:∃ b,H.P.ok=b:=⟨_,rfl⟩
 rw[hvb] at VP
 have HVP:=lh VP;clear VP
 have HVB:=lh hvb;clear hvb
 obtain⟨fd,fn⟩:(0≤H.d∧H.d<18446744073709551616)∧I63 H.n:=⟨hf.d,hf.n⟩
 have hfp:=hf.p
 have HFP:=lh hfp
 have sq:=hsm.q
 have sm:=hsm.m
 have HSM:=lh hsm;clear hsm hf hfp
 obtain⟨of,or',om,og,kf,kr,km,kg,n,r,m,q,tx,dx,sx,HN,HR,HM,HQ,HT,HD,HS,rfl,kf1,kf2,kr1,kr2,km1,km2,kg1,kg2,h⟩:=HoAt.opened ha
 rw[HD.out] at fd
 rw[HS.out] at fn
 rw[HQ.out] at sq
 rw[HM.out] at sm
 unfold I63 at fn
 have h0:=h
 have HPL:=lh h.p
 have TXc:=fun w=>vmfleetref35_taxed_any tx w
 obtain⟨tb,htb⟩:∃ b,taxB tx=b:=⟨_,rfl⟩
 rw[htb] at TXc
 have HTX:=lh TXc;clear TXc
 have HTB:=lh htb;clear htb
 have D1:=HasBlock.made w #[.slice of n kf,.slice or' r kr,.slice om m km,.slice og q kg,.int .i64 tx,.int .u64 dx,.int .i64 sx] 30
 have hbw:Below w.heap.size w (w.alloc (.cells #[.slice of n kf,.slice or' r kr,.slice om m km,.slice og q kg,.int .i64 tx,.int .u64 dx,.int .i64 sx] 30)):=(Below.refl _ _).alloc (nlr _) _
 replace h:=h.below hbw
 go_enter Tryz.func33,Tryz.ntmps33
 obtain⟨D1_c,D1_f,D1_z⟩:=D1.all
 go_wp2_with fail
 clear D1_c D1_f D1_z
 with_reducible refine (HVP.out _ _ h.p).mono ?_
 rintro e w1 ⟨rfl,hbk⟩
 replace D1:=D1.below hbk
 replace h:=h.below hbk
 replace hbw:=hbw.trans (hbk.mono hbw.size)
 clear hbk
 cases vb
 · obtain rfl:bv=false:=no_of hb (fun h=>(by have:=Pl.ok_iff.2 h.p;rw[HVB.out] at this;cases this))
   clear hb
   obtain⟨D1_c,D1_f,D1_z⟩:=D1.all
   go_wp2_with fail
   go_ret
   exact Ret.mk hbw
 by_cases hmq:q=m
 case neg =>
  have e1:((q:Int) != (m:Int))=true:=int_ne (by omega)
  obtain rfl:bv=false:=no_of hb (fun h=>(by have:=h.m;rw[HQ.out,HM.out] at this;exact hmq this))
  clear hb
  obtain⟨D1_c,D1_f,D1_z⟩:=D1.all
  go_wp2_with fail
  go_ret
  exact Ret.mk hbw
 have e1:((q:Int) != (m:Int))=false:=int_eq (by omega)
 have e2:((m:Int) != (m:Int))=false:=int_eq rfl
 have HMQ:=lh hmq;clear hmq
 obtain⟨D1_c,D1_f,D1_z⟩:=D1.all
 go_wp2_with fail
 clear D1_c D1_f D1_z
 with_reducible refine (HTX.out _).mono ?_
 rintro e w2 ⟨rfl,hbk⟩
 replace D1:=D1.below hbk
 replace h:=h.below hbk
 replace hbw:=hbw.trans (hbk.mono hbw.size)
 clear hbk
 clear e1 e2
 cases tb
 · obtain rfl:bv=false:=no_of hb (fun h=>by have:=decide_eq_true h.t;rw[HT.out] at this;rw[show taxB tx=decide (0≤tx∧tx≤99) from rfl] at HTB;rw[HTB.out] at this;cases this)
   clear hb
   obtain⟨D1_c,D1_f,D1_z⟩:=D1.all
   go_wp2_with fail
   go_ret
   exact Ret.mk hbw
 have htx:=(taxB_iff tx).1 HTB.out
 have hpo:=Pl.ok_iff.1 HVB.out
 have hm8:m≤8:=by rw[←HM.out];exact hpo.m
 have hn96:n≤96:=by rw[←HN.out];exact hpo.n2
 have HPO:=lh hpo;clear hpo
 have HBV:Hid (bv=true↔(GuTo H q∧sumR H.G≤n∧0≤sx∧sx<max (lenM H.P.M:Int) 1)):=lh (hb.trans ⟨fun h=>⟨⟨fun i g l _ hg hl=>h.g i g l hg hl,(h.sum q (by rw[HQ.out];exact nlr _)).1,(h.sum q (by rw[HQ.out];exact nlr _)).2,h.len q (by rw[HM.out,HMQ.out];exact nlr _)⟩,by rw[←HN.out];exact h.r,by rw[←HS.out];exact h.n.1,by rw[←HS.out];exact h.n.2⟩,fun h=>⟨HPO.out,by rw[HQ.out,HM.out];exact HMQ.out,by rw[HT.out];exact htx,by rw[HD.out];exact fd,fun i g l hg hl=>h.1.g i g l (by rw[←HQ.out];exact lt_of_get hg) hg hl,by rw[HN.out];exact h.2.1,by rw[HS.out];exact h.2.2⟩⟩)
 clear hb h htx HTB
 obtain⟨D1_c,D1_f,D1_z⟩:=D1.all
 go_wp2_with fail
 clear D1_c D1_f D1_z
 go_loopw [3,4,5] (fun rv tv iv wr=>∃ i:Nat,i≤q∧rv=.int .i64 (sumR (H.G.take i))∧tv=.int .i64 ((lenM (H.P.M.take i):Nat):Int)∧iv=.int .i64 i∧Hid (GuTo H i)∧HasBlock wr w.heap.size #[.slice of n kf,.slice or' r kr,.slice om m km,.slice og q kg,.int .i64 tx,.int .u64 dx,.int .i64 sx] 30∧Below w.heap.size w wr) (fun _ _ iv _=>q - (intOf iv).toNat)
 case atStart=>exact⟨0,by omega,rfl,rfl,rfl,GuTo.zero H,D1,hbw⟩
 case round =>
  clear D1 hbw
  obtain⟨i,hi,rfl,rfl,rfl,HGT,D1,hbw⟩:=hrel
  by_cases hlt:i<q
  · obtain⟨g,hg⟩:=get_lt (xs:=H.G) (k:=i) (by rw[HQ.out];exact hlt)
    obtain⟨l,hl⟩:=get_lt (xs:=H.P.M) (k:=i) (by rw[HM.out,←HMQ.out];exact hlt)
    have hll:=HPO.out.l l (mem_at hl)
    have hsu0:=HGT.out.s0
    have hsu1:=HGT.out.s1
    have hle:=HGT.out.l1
    have hs1:=sumR_take hg
    have hl1:=lenM_take hl
    obtain⟨gb,goff,so,sc,uo,uc,eo,ec,rfl,hgb,s1,s2,u1,u2,e3,e4,cs,hS,hU,hE⟩:=h0.guest hg
    obtain⟨mb,moff,lo,lc,rfl,hmb,cm0,lc1,lc2,hL⟩:=h0.p.guest hl
    have hss:=HSM.out.g i g hg
    have CGc:=fun v w h=>rcharge_any v H.P i w h (lt_of_get hl) HFP.out
    have hchn:H.P.chargeN i=l.countP hasB:=by unfold Pl.chargeN;rw[Pl.pages_eq hl]
    have HST:Hid (GmOk g l→GuTo H (i+1)∧1≤g.c.r∧g.c.r≤96):=lh (fun hgo=>by
     have:=hgo.rb
     exact⟨HGT.out.step hg hl hgo hll.2,by omega,by omega⟩)
    have HNO:Hid (¬GmOk g l→bv=false):=lh (fun e=>no_of HBV.out (fun h=>e (h.1.g i g l hlt hg hl)))
    obtain⟨⟨r1,cl1,s1',p1,a1⟩,S,U,hd,E⟩:=g
    dsimp only at hs1 s1 u1 e3 hS hU hE HST hss
    have c0:wr.cell? ⟨gb,goff+i*9,none⟩=_:=(hbw.cell (p:=⟨gb,goff+i*9,none⟩) hgb).trans (cs 0 _ rfl)
    have c1:wr.cell? ⟨gb,goff+i*9+1,none⟩=_:=(hbw.cell (p:=⟨gb,goff+i*9+1,none⟩) hgb).trans (cs 1 _ rfl)
    have c2:wr.cell? ⟨gb,goff+i*9+2,none⟩=_:=(hbw.cell (p:=⟨gb,goff+i*9+2,none⟩) hgb).trans (cs 2 _ rfl)
    have c3:wr.cell? ⟨gb,goff+i*9+3,none⟩=_:=(hbw.cell (p:=⟨gb,goff+i*9+3,none⟩) hgb).trans (cs 3 _ rfl)
    have c4:wr.cell? ⟨gb,goff+i*9+4,none⟩=_:=(hbw.cell (p:=⟨gb,goff+i*9+4,none⟩) hgb).trans (cs 4 _ rfl)
    have c5:wr.cell? ⟨gb,goff+i*9+5,none⟩=_:=(hbw.cell (p:=⟨gb,goff+i*9+5,none⟩) hgb).trans (cs 5 _ rfl)
    have c6:wr.cell? ⟨gb,goff+i*9+6,none⟩=_:=(hbw.cell (p:=⟨gb,goff+i*9+6,none⟩) hgb).trans (cs 6 _ rfl)
    have c7:wr.cell? ⟨gb,goff+i*9+7,none⟩=_:=(hbw.cell (p:=⟨gb,goff+i*9+7,none⟩) hgb).trans (cs 7 _ rfl)
    have c8:wr.cell? ⟨gb,goff+i*9+8,none⟩=_:=(hbw.cell (p:=⟨gb,goff+i*9+8,none⟩) hgb).trans (cs 8 _ rfl)
    clear cs hE
    dsimp only at c0 c1 c2 c3 c4 c5 c6 c7 c8
    obtain⟨ql,hql⟩:∃ x,l.length=x:=⟨_,rfl⟩
    obtain⟨sl,hsl⟩:∃ x,S.length=x:=⟨_,rfl⟩
    obtain⟨ul,hul⟩:∃ x,U.length=x:=⟨_,rfl⟩
    obtain⟨el,hel⟩:∃ x,E.length=x:=⟨_,rfl⟩
    obtain⟨x,hx⟩:∃ x,l.countP hasB=x:=⟨_,rfl⟩
    rw[hchn,hx] at CGc
    rw[hql] at hll hl1 cm0 lc1 hL
    rw[hsl] at c5 hS s1 hss
    rw[hul] at c6 hU u1 hss
    rw[hel] at c8 e3 hss
    have hxq:x≤ql:=by rw[←hx,←hql];exact List.countP_le_length
    have VCc:=fun w=>vmfleetref35_ValidClaim_any r1 cl1 s1' p1 a1 w
    obtain⟨vc,hvc⟩:∃ b,validB ⟨r1,cl1,s1',p1,a1⟩=b:=⟨_,rfl⟩
    rw[hvc] at VCc
    have HVC:=lh VCc;clear VCc
    have HVB2:=lh hvc;clear hvc
    have HCG:=lh CGc;clear CGc
    obtain⟨sA,hsA⟩:∃ x,sumR (H.G.take i)=x:=⟨_,rfl⟩
    obtain⟨sL,hsL⟩:∃ x,lenM (H.P.M.take i)=x:=⟨_,rfl⟩
    rw[hsA] at hsu0 hsu1 hs1 ⊢
    rw[hsL] at hle hl1 ⊢
    have HS1:=lh hs1;clear hs1 hsA
    have HL1:=lh hl1;clear hl1 hsL
    have HQL:=lh hql;clear hql
    have HSL:=lh hsl;clear hsl
    have HUL:=lh hul;clear hul
    have HEL:=lh hel;clear hel
    have HX:=lh hx;clear hx
    have HSS:=lh hS;clear hS
    have HUU:=lh hU;clear hU
    have HLL:=lh hL;clear hL
    clear hg hl HGT hchn
    have i0:(0:Int)≤(i:Int):=by omega
    have im:(i:Int)<(m:Int):=by have:=HMQ.out;omega
    have iq:(i:Int)<(q:Int):=by omega
    obtain⟨D1_c,D1_f,D1_z⟩:=D1.all
    go_upto_region 8 with (fail)
    clear D1_c D1_f D1_z
    clear c0 c1 c2 c3 c4 c5 c6 c7 c8
    have hbx:Below wr.heap.size wr (wr.alloc (.cells #[.int .i64 r1,.int .i64 cl1,.int .i64 s1',.int .i64 p1,.int .i64 a1,.slice so sl sc,.slice uo ul uc,.int .i64 hd,.slice eo el ec] 49)):=(Below.refl _ _).alloc (nlr _) _
    have hwD2:=hbw.size
    have lD1:=D1.lt
    replace D1:=D1.below hbx
    have D2:=HasBlock.made wr #[.int .i64 r1,.int .i64 cl1,.int .i64 s1',.int .i64 p1,.int .i64 a1,.slice so sl sc,.slice uo ul uc,.int .i64 hd,.slice eo el ec] 49
    replace hbw:=hbw.trans (hbx.mono hbw.size)
    clear hbx
    obtain⟨B2,hB⟩:∃ B,wr.heap.size=B:=⟨_,rfl⟩
    rw[hB] at D2 hwD2 ⊢
    rw[hB] at lD1
    generalize hW:wr.alloc (.cells #[.int .i64 r1,.int .i64 cl1,.int .i64 s1',.int .i64 p1,.int .i64 a1,.slice so sl sc,.slice uo ul uc,.int .i64 hd,.slice eo el ec] 49)=w5 at D1 D2  hbw ⊢
    clear hW hB
    have cm:=(hbw.cell (p:=⟨mb,moff+i,none⟩) hmb).trans cm0
    obtain⟨D1_c,D1_f,D1_z⟩:=D1.all
    obtain⟨D2_c,D2_f,D2_z⟩:=D2.all
    go_wp2_with fail
    clear D1_c D1_f D1_z
    clear D2_c D2_f D2_z
    clear cm
    cases vc
    · obtain rfl:=HNO.out (fun h=>(by have:=h.cv;rw[HVB2.out] at this;cases this))
      obtain⟨D1_c,D1_f,D1_z⟩:=D1.all
      obtain⟨D2_c,D2_f,D2_z⟩:=D2.all
      refine wp_region_quiet_below (by kernel_rfl) (by kernel_rfl) ?_
      repeat (go_big_quiet_step (first|fail|(go_at_call 54;with_reducible exact quiet_ret (HVC.out _))|(go_at_call 69;with_reducible exact quiet_ret (HCG.out _ _ (HPL.out.below (hbw.trans ((below_regrown _ _ _).mono hbw.size)))))))
      refine wpQuiet_nil ?_
      intro w6 hw6
      have hb6:=below_of_regrown hw6
      clear hw6
      obtain⟨hc6,hf6⟩:=bcell hb6
      have hz6:=bsize hb6
      try simp only[sizes1] at hz6
      try simp only[sizes] at hc6 hf6
      clear hc6 hf6 hz6
      clear D1_c D1_f D1_z
      clear D2_c D2_f D2_z
      replace D1:=D1.below hb6
      replace D2:=D2.below hb6
      replace hbw:=hbw.trans (hb6.mono hbw.size)
      clear hb6
      obtain⟨D1_c,D1_f,D1_z⟩:=D1.all
      obtain⟨D2_c,D2_f,D2_z⟩:=D2.all
      go_wp2_with fail
      go_ret
      exact Ret.mk hbw
    by_cases h2:p1=0
    case neg =>
     have t0:=int_ne h2
     obtain rfl:=HNO.out (fun h=>h2 h.p0)
     obtain⟨D1_c,D1_f,D1_z⟩:=D1.all
     obtain⟨D2_c,D2_f,D2_z⟩:=D2.all
     refine wp_region_quiet_below (by kernel_rfl) (by kernel_rfl) ?_
     repeat (go_big_quiet_step (first|fail|(go_at_call 54;with_reducible exact quiet_ret (HVC.out _))|(go_at_call 69;with_reducible exact quiet_ret (HCG.out _ _ (HPL.out.below (hbw.trans ((below_regrown _ _ _).mono hbw.size)))))))
     refine wpQuiet_nil ?_
     intro w6 hw6
     have hb6:=below_of_regrown hw6
     clear hw6
     obtain⟨hc6,hf6⟩:=bcell hb6
     have hz6:=bsize hb6
     try simp only[sizes1] at hz6
     try simp only[sizes] at hc6 hf6
     clear hc6 hf6 hz6
     clear D1_c D1_f D1_z
     clear D2_c D2_f D2_z
     replace D1:=D1.below hb6
     replace D2:=D2.below hb6
     replace hbw:=hbw.trans (hb6.mono hbw.size)
     clear hb6
     obtain⟨D1_c,D1_f,D1_z⟩:=D1.all
     obtain⟨D2_c,D2_f,D2_z⟩:=D2.all
     go_wp2_with fail
     go_ret
     exact Ret.mk hbw
    subst h2
    by_cases h4:sl=ql
    case neg =>
     have t3:((sl:Int) != (ql:Int))=true:=int_ne (by omega)
     obtain rfl:=HNO.out (fun h=>(by have:=h.ls;rw[HSL.out,HQL.out] at this;exact h4 this))
     obtain⟨D1_c,D1_f,D1_z⟩:=D1.all
     obtain⟨D2_c,D2_f,D2_z⟩:=D2.all
     refine wp_region_quiet_below (by kernel_rfl) (by kernel_rfl) ?_
     repeat (go_big_quiet_step (first|fail|(go_at_call 54;with_reducible exact quiet_ret (HVC.out _))|(go_at_call 69;with_reducible exact quiet_ret (HCG.out _ _ (HPL.out.below (hbw.trans ((below_regrown _ _ _).mono hbw.size)))))))
     refine wpQuiet_nil ?_
     intro w6 hw6
     have hb6:=below_of_regrown hw6
     clear hw6
     obtain⟨hc6,hf6⟩:=bcell hb6
     have hz6:=bsize hb6
     try simp only[sizes1] at hz6
     try simp only[sizes] at hc6 hf6
     clear hc6 hf6 hz6
     clear D1_c D1_f D1_z
     clear D2_c D2_f D2_z
     replace D1:=D1.below hb6
     replace D2:=D2.below hb6
     replace hbw:=hbw.trans (hb6.mono hbw.size)
     clear hb6
     obtain⟨D1_c,D1_f,D1_z⟩:=D1.all
     obtain⟨D2_c,D2_f,D2_z⟩:=D2.all
     go_wp2_with fail
     go_ret
     exact Ret.mk hbw
    obtain rfl:=h4.symm
    have t3:((ql:Int) != (ql:Int))=false:=int_eq rfl
    by_cases h5:ul=ql
    case neg =>
     have t4:((ul:Int) != (ql:Int))=true:=int_ne (by omega)
     obtain rfl:=HNO.out (fun h=>(by have:=h.lu;rw[HUL.out,HQL.out] at this;exact h5 this))
     obtain⟨D1_c,D1_f,D1_z⟩:=D1.all
     obtain⟨D2_c,D2_f,D2_z⟩:=D2.all
     refine wp_region_quiet_below (by kernel_rfl) (by kernel_rfl) ?_
     repeat (go_big_quiet_step (first|fail|(go_at_call 54;with_reducible exact quiet_ret (HVC.out _))|(go_at_call 69;with_reducible exact quiet_ret (HCG.out _ _ (HPL.out.below (hbw.trans ((below_regrown _ _ _).mono hbw.size)))))))
     refine wpQuiet_nil ?_
     intro w6 hw6
     have hb6:=below_of_regrown hw6
     clear hw6
     obtain⟨hc6,hf6⟩:=bcell hb6
     have hz6:=bsize hb6
     try simp only[sizes1] at hz6
     try simp only[sizes] at hc6 hf6
     clear hc6 hf6 hz6
     clear D1_c D1_f D1_z
     clear D2_c D2_f D2_z
     replace D1:=D1.below hb6
     replace D2:=D2.below hb6
     replace hbw:=hbw.trans (hb6.mono hbw.size)
     clear hb6
     obtain⟨D1_c,D1_f,D1_z⟩:=D1.all
     obtain⟨D2_c,D2_f,D2_z⟩:=D2.all
     go_wp2_with fail
     go_ret
     exact Ret.mk hbw
    obtain rfl:=h5.symm
    by_cases h6:el=ql
    case neg =>
     have t4:((el:Int) != (ql:Int))=true:=int_ne (by omega)
     obtain rfl:=HNO.out (fun h=>(by have:=h.le;rw[HEL.out,HQL.out] at this;exact h6 this))
     obtain⟨D1_c,D1_f,D1_z⟩:=D1.all
     obtain⟨D2_c,D2_f,D2_z⟩:=D2.all
     refine wp_region_quiet_below (by kernel_rfl) (by kernel_rfl) ?_
     repeat (go_big_quiet_step (first|fail|(go_at_call 54;with_reducible exact quiet_ret (HVC.out _))|(go_at_call 69;with_reducible exact quiet_ret (HCG.out _ _ (HPL.out.below (hbw.trans ((below_regrown _ _ _).mono hbw.size)))))))
     refine wpQuiet_nil ?_
     intro w6 hw6
     have hb6:=below_of_regrown hw6
     clear hw6
     obtain⟨hc6,hf6⟩:=bcell hb6
     have hz6:=bsize hb6
     try simp only[sizes1] at hz6
     try simp only[sizes] at hc6 hf6
     clear hc6 hf6 hz6
     clear D1_c D1_f D1_z
     clear D2_c D2_f D2_z
     replace D1:=D1.below hb6
     replace D2:=D2.below hb6
     replace hbw:=hbw.trans (hb6.mono hbw.size)
     clear hb6
     obtain⟨D1_c,D1_f,D1_z⟩:=D1.all
     obtain⟨D2_c,D2_f,D2_z⟩:=D2.all
     go_wp2_with fail
     go_ret
     exact Ret.mk hbw
    obtain rfl:=h6.symm
    by_cases h7:0≤hd
    case neg =>
     have t4:decide (hd<0)=true:=decide_eq_true (by omega)
     obtain rfl:=HNO.out (fun h=>h7 h.hd.1)
     obtain⟨D1_c,D1_f,D1_z⟩:=D1.all
     obtain⟨D2_c,D2_f,D2_z⟩:=D2.all
     refine wp_region_quiet_below (by kernel_rfl) (by kernel_rfl) ?_
     repeat (go_big_quiet_step (first|fail|(go_at_call 54;with_reducible exact quiet_ret (HVC.out _))|(go_at_call 69;with_reducible exact quiet_ret (HCG.out _ _ (HPL.out.below (hbw.trans ((below_regrown _ _ _).mono hbw.size)))))))
     refine wpQuiet_nil ?_
     intro w6 hw6
     have hb6:=below_of_regrown hw6
     clear hw6
     obtain⟨hc6,hf6⟩:=bcell hb6
     have hz6:=bsize hb6
     try simp only[sizes1] at hz6
     try simp only[sizes] at hc6 hf6
     clear hc6 hf6 hz6
     clear D1_c D1_f D1_z
     clear D2_c D2_f D2_z
     replace D1:=D1.below hb6
     replace D2:=D2.below hb6
     replace hbw:=hbw.trans (hb6.mono hbw.size)
     clear hb6
     obtain⟨D1_c,D1_f,D1_z⟩:=D1.all
     obtain⟨D2_c,D2_f,D2_z⟩:=D2.all
     go_wp2_with fail
     go_ret
     exact Ret.mk hbw
    have t4:decide (hd<0)=false:=decide_eq_false (by omega)
    by_cases h8:hd<ql
    case neg =>
     have t5:decide (hd ≥ (ql:Int))=true:=decide_eq_true (by omega)
     have t6:decide ((ql:Int)≤hd)=true:=decide_eq_true (by omega)
     obtain rfl:=HNO.out (fun h=>(by have:=h.hd.2;rw[HQL.out] at this;exact h8 this))
     obtain⟨D1_c,D1_f,D1_z⟩:=D1.all
     obtain⟨D2_c,D2_f,D2_z⟩:=D2.all
     refine wp_region_quiet_below (by kernel_rfl) (by kernel_rfl) ?_
     repeat (go_big_quiet_step (first|fail|(go_at_call 54;with_reducible exact quiet_ret (HVC.out _))|(go_at_call 69;with_reducible exact quiet_ret (HCG.out _ _ (HPL.out.below (hbw.trans ((below_regrown _ _ _).mono hbw.size)))))))
     refine wpQuiet_nil ?_
     intro w6 hw6
     have hb6:=below_of_regrown hw6
     clear hw6
     obtain⟨hc6,hf6⟩:=bcell hb6
     have hz6:=bsize hb6
     try simp only[sizes1] at hz6
     try simp only[sizes] at hc6 hf6
     clear hc6 hf6 hz6
     clear D1_c D1_f D1_z
     clear D2_c D2_f D2_z
     replace D1:=D1.below hb6
     replace D2:=D2.below hb6
     replace hbw:=hbw.trans (hb6.mono hbw.size)
     clear hb6
     obtain⟨D1_c,D1_f,D1_z⟩:=D1.all
     obtain⟨D2_c,D2_f,D2_z⟩:=D2.all
     go_wp2_with fail
     go_ret
     exact Ret.mk hbw
    have t5:decide (hd ≥ (ql:Int))=false:=decide_eq_false (by omega)
    have t6:decide ((ql:Int)≤hd)=false:=decide_eq_false (by omega)
    by_cases h3:(x:Int)≤cl1
    case neg =>
     have t1:decide ((x:Int)>cl1)=true:=decide_eq_true (by omega)
     have t2:decide (cl1<(x:Int))=true:=decide_eq_true (by omega)
     obtain rfl:=HNO.out (fun h=>(by have:=h.lim;rw[HX.out] at this;exact h3 this))
     obtain⟨D1_c,D1_f,D1_z⟩:=D1.all
     obtain⟨D2_c,D2_f,D2_z⟩:=D2.all
     refine wp_region_quiet_below (by kernel_rfl) (by kernel_rfl) ?_
     repeat (go_big_quiet_step (first|fail|(go_at_call 54;with_reducible exact quiet_ret (HVC.out _))|(go_at_call 69;with_reducible exact quiet_ret (HCG.out _ _ (HPL.out.below (hbw.trans ((below_regrown _ _ _).mono hbw.size)))))))
     refine wpQuiet_nil ?_
     intro w6 hw6
     have hb6:=below_of_regrown hw6
     clear hw6
     obtain⟨hc6,hf6⟩:=bcell hb6
     have hz6:=bsize hb6
     try simp only[sizes1] at hz6
     try simp only[sizes] at hc6 hf6
     clear hc6 hf6 hz6
     clear D1_c D1_f D1_z
     clear D2_c D2_f D2_z
     replace D1:=D1.below hb6
     replace D2:=D2.below hb6
     replace hbw:=hbw.trans (hb6.mono hbw.size)
     clear hb6
     obtain⟨D1_c,D1_f,D1_z⟩:=D1.all
     obtain⟨D2_c,D2_f,D2_z⟩:=D2.all
     go_wp2_with fail
     go_ret
     exact Ret.mk hbw
    have t1:decide ((x:Int)>cl1)=false:=decide_eq_false (by omega)
    have t2:decide (cl1<(x:Int))=false:=decide_eq_false (by omega)
    have HGO:Hid (PgTo S U l ql→GmOk ⟨⟨r1,cl1,s1',0,a1⟩,S,U,hd,E⟩ l):=lh (fun h=>⟨HVB2.out,rfl,by rw[HX.out];exact h3,by rw[HQL.out];exact HSL.out,by rw[HQL.out];exact HUL.out,by rw[HQL.out];exact HEL.out,⟨h7,by rw[HQL.out];exact h8⟩,fun k f b hf hb h0=>(h k f (by rw[←HQL.out];exact lt_of_get hf) hf).1 b hb h0,fun k f t hf ht=>(h k f (by rw[←HQL.out];exact lt_of_get hf) hf).2 t ht⟩)
    have HGN:Hid (∀ (k:Nat) (f:Int),l[k]?=some f→((∃ b,U[k]?=some b∧f<0∧b=true)∨∃ t:ByteArray,S[k]?=some t∧¬(t.size=0∨(f<0∧t.size=128∧zeroB t=false)))→bv=false):=lh (fun k f hf h=>HNO.out (fun hg=>by
     rcases h with ⟨b,hb,h0,h1⟩|⟨t,ht,hn⟩
     · have:=hg.us k f b hf hb h0
       rw[this] at h1
       cases h1
     · exact hn (hg.sw k f t hf ht)))
    obtain⟨D1_c,D1_f,D1_z⟩:=D1.all
    obtain⟨D2_c,D2_f,D2_z⟩:=D2.all
    refine wp_region_quiet_below (by kernel_rfl) (by kernel_rfl) ?_
    repeat (go_big_quiet_step (first|fail|(go_at_call 54;with_reducible exact quiet_ret (HVC.out _))|(go_at_call 69;with_reducible exact quiet_ret (HCG.out _ _ (HPL.out.below (hbw.trans ((below_regrown _ _ _).mono hbw.size)))))))
    refine wpQuiet_nil ?_
    intro w6 hw6
    have hb6:=below_of_regrown hw6
    clear hw6
    obtain⟨hc6,hf6⟩:=bcell hb6
    have hz6:=bsize hb6
    try simp only[sizes1] at hz6
    try simp only[sizes] at hc6 hf6
    clear hc6 hf6 hz6 t1 t2 t3 t4 t5 t6 HVC HCG HVB2 HX HNO h3
    clear D1_c D1_f D1_z
    clear D2_c D2_f D2_z
    replace D1:=D1.below hb6
    replace D2:=D2.below hb6
    replace hbw:=hbw.trans (hb6.mono hbw.size)
    clear hb6
    obtain⟨D1_c,D1_f,D1_z⟩:=D1.all
    obtain⟨D2_c,D2_f,D2_z⟩:=D2.all
    go_wp2_with fail
    clear D1_c D1_f D1_z
    clear D2_c D2_f D2_z
    have hwB2:w.heap.size<B2:=by omega
    go_loopw [8,9] (fun kv _ wr=>∃ k:Nat,k≤ql∧kv=.int .i64 k∧Hid (PgTo S U l k)∧HasBlock wr w.heap.size #[.slice of n kf,.slice or' r kr,.slice (some ⟨mb,moff,none⟩) m km,.slice (some ⟨gb,goff,none⟩) q kg,.int .i64 tx,.int .u64 dx,.int .i64 sx] 30∧HasBlock wr B2 #[.int .i64 r1,.int .i64 cl1,.int .i64 s1',.int .i64 0,.int .i64 a1,.slice so ql sc,.slice uo ql uc,.int .i64 hd,.slice eo ql ec] 49∧Below w.heap.size w wr) (fun kv _ _=>ql - (intOf kv).toNat)
    case atStart=>exact⟨0,by omega,rfl,lh (fun j f hj=>absurd hj (Nat.not_lt_zero _)),D1,D2,hbw⟩
    case round =>
     clear D1 D2 hbw
     obtain⟨k,hk,rfl,HPG,D1,D2,hbw⟩:=hrel
     have cm:=(hbw.cell (p:=⟨mb,moff+i,none⟩) hmb).trans cm0
     by_cases hkt:k<ql
     · obtain⟨f,hf⟩:=get_lt (xs:=l) (k:=k) (by rw[HQL.out];exact hkt)
       obtain⟨t,ht⟩:=get_lt (xs:=S) (k:=k) (by rw[HSL.out];exact hkt)
       obtain⟨b,hb⟩:=get_lt (xs:=U) (k:=k) (by rw[HUL.out];exact hkt)
       have HNX:Hid ((f<0→b=false)→(t.size=0∨(f<0∧t.size=128∧zeroB t=false))→PgTo S U l (k+1)):=lh (fun h1 h2 j f' hj hf'=>by
        by_cases e:j=k
        · subst e
          rw[hf] at hf'
          injection hf' with hf'
          subst hf'
          refine ⟨fun b' hb'=>?_,fun t' ht'=>?_⟩
          · rw[hb] at hb'
            injection hb' with hb'
            subst hb'
            exact h1
          · rw[ht] at ht'
            injection ht' with ht'
            subst ht'
            exact h2
        · exact HPG.out j f' (by omega) hf')
       have HNO1:Hid ((f<0∧b=true)→bv=false):=lh (fun h=>HGN.out k f hf (.inl ⟨b,hb,h⟩))
       have HNO2:Hid (¬(t.size=0∨(f<0∧t.size=128∧zeroB t=false))→bv=false):=lh (fun h=>HGN.out k f hf (.inr ⟨t,ht,h⟩))
       obtain⟨fb,foff,rfl,hfb,cf⟩:=HLL.out.elem hf
       obtain⟨sb,soff,rfl,hsb,cs⟩:=HSS.out.elem ht
       obtain⟨ub,uoff,rfl,hub,cu⟩:=HUU.out.elem hb
       replace cf:=(hbw.cell (p:=⟨fb,foff+k,none⟩) hfb).trans cf
       replace cs:=(hbw.cell (p:=⟨sb,soff+k,none⟩) hsb).trans cs
       replace cu:=(hbw.cell (p:=⟨ub,uoff+k,none⟩) hub).trans cu
       have k0:(0:Int)≤(k:Int):=by omega
       have kq:(k:Int)<(ql:Int):=by omega
       have hii:=isEmpty_iff t
       obtain⟨zb,hzb⟩:∃ b,zeroB t=b:=⟨_,rfl⟩
       have HZB:=lh hzb
       rw[hzb] at HNX HNO2
       clear hf ht hb HPG hzb
       by_cases h1:f<0∧b=true
       · obtain rfl:=HNO1.out h1
         obtain⟨h1,rfl⟩:=h1
         obtain⟨D1_c,D1_f,D1_z⟩:=D1.all
         obtain⟨D2_c,D2_f,D2_z⟩:=D2.all
         go_wp2_with fail
         go_ret
         exact Ret.mk hbw
       have h1':f<0→b=false:=fun h=>by
        cases b
        · rfl
        · exact absurd ⟨h,rfl⟩ h1
       clear h1 HNO1
       by_cases h0:t.size=0
       · rw[decide_eq_true h0] at hii
         have HN:=lh (HNX.out h1' (.inl h0))
         clear HNX HNO2 h0 HZB
         by_cases hf0:f<0
         · obtain rfl:=h1' hf0
           obtain⟨D1_c,D1_f,D1_z⟩:=D1.all
           obtain⟨D2_c,D2_f,D2_z⟩:=D2.all
           go_wp2_with fail
           clear D1_c D1_f D1_z
           clear D2_c D2_f D2_z
           go_roundw
           case rel=>exact⟨k+1,by omega,by go_num,HN,D1,D2,hbw⟩
           case measure=>simp [intOf];omega
         · clear h1'
           obtain⟨D1_c,D1_f,D1_z⟩:=D1.all
           obtain⟨D2_c,D2_f,D2_z⟩:=D2.all
           go_wp2_with fail
           clear D1_c D1_f D1_z
           clear D2_c D2_f D2_z
           go_roundw
           case rel=>exact⟨k+1,by omega,by go_num,HN,D1,D2,hbw⟩
           case measure=>simp [intOf];omega
       · rw[decide_eq_false h0] at hii
         by_cases hf0:f<0
         · obtain rfl:=h1' hf0
           by_cases h128:t.size=128
           · have ZC:=fun w=>zero_any t w (by omega)
             rw[HZB.out] at ZC
             have HZC:=lh ZC
             clear ZC HZB
             cases zb
             · have HN:=lh (HNX.out h1' (.inr ⟨hf0,h128,rfl⟩))
               clear HNX HNO2 h0 h1'
               obtain⟨D1_c,D1_f,D1_z⟩:=D1.all
               obtain⟨D2_c,D2_f,D2_z⟩:=D2.all
               go_wp2_with fail
               with_reducible refine (HZC.out _).mono ?_
               rintro e w9 ⟨rfl,hbk⟩
               clear D1_c D1_f D1_z
               clear D2_c D2_f D2_z
               replace D1:=D1.below hbk
               replace D2:=D2.below hbk
               replace hbw:=hbw.trans (hbk.mono hbw.size)
               clear hbk
               obtain⟨D1_c,D1_f,D1_z⟩:=D1.all
               obtain⟨D2_c,D2_f,D2_z⟩:=D2.all
               go_wp2_with fail
               clear D1_c D1_f D1_z
               clear D2_c D2_f D2_z
               go_roundw
               case rel=>exact⟨k+1,by omega,by go_num,HN,D1,D2,hbw⟩
               case measure=>simp [intOf];omega
             · obtain rfl:=HNO2.out (by rintro (h|⟨_,_,h⟩) <;> first|exact h0 h|cases h)
               clear HNX HNO2 h0 h1'
               obtain⟨D1_c,D1_f,D1_z⟩:=D1.all
               obtain⟨D2_c,D2_f,D2_z⟩:=D2.all
               go_wp2_with fail
               with_reducible refine (HZC.out _).mono ?_
               rintro e w9 ⟨rfl,hbk⟩
               clear D1_c D1_f D1_z
               clear D2_c D2_f D2_z
               replace D1:=D1.below hbk
               replace D2:=D2.below hbk
               replace hbw:=hbw.trans (hbk.mono hbw.size)
               clear hbk
               obtain⟨D1_c,D1_f,D1_z⟩:=D1.all
               obtain⟨D2_c,D2_f,D2_z⟩:=D2.all
               go_wp2_with fail
               go_ret
               exact Ret.mk hbw
           · obtain rfl:=HNO2.out (by rintro (h|⟨_,h,_⟩) <;> first|exact h0 h|exact h128 h)
             clear HNX HNO2 h0 h1'
             obtain⟨D1_c,D1_f,D1_z⟩:=D1.all
             obtain⟨D2_c,D2_f,D2_z⟩:=D2.all
             go_wp2_with fail
             go_ret
             exact Ret.mk hbw
         · obtain rfl:=HNO2.out (by rintro (h|⟨h,_,_⟩) <;> first|exact h0 h|exact hf0 h)
           clear HNX HNO2 h0 h1'
           obtain⟨D1_c,D1_f,D1_z⟩:=D1.all
           obtain⟨D2_c,D2_f,D2_z⟩:=D2.all
           go_wp2_with fail
           go_ret
           exact Ret.mk hbw
     · obtain rfl:k=ql:=by omega
       obtain⟨hst,r1a,r1b⟩:=HST.out (HGO.out HPG.out)
       have HGN2:=lh hst
       clear hst HST HGO HGN HPG cm
       obtain⟨D1_c,D1_f,D1_z⟩:=D1.all
       obtain⟨D2_c,D2_f,D2_z⟩:=D2.all
       go_wp2_with fail
       clear D1_c D1_f D1_z
       clear D2_c D2_f D2_z
       go_roundw
       case rel=>exact⟨i+1,by omega,by rw[HS1.out] <;> go_num,by rw[HL1.out] <;> go_num,by go_num,HGN2,D1,hbw⟩
       case measure=>simp [intOf];omega
  · obtain rfl:i=q:=by omega
    have hallG:H.G.take i=H.G:=by rw[←HQ.out];exact List.take_length
    have hallM:H.P.M.take i=H.P.M:=by rw[HMQ.out,←HM.out];exact List.take_length
    have hl1:=HGT.out.l1
    have hs0:=HGT.out.s0
    have hs1:=HGT.out.s1
    rw[hallG] at hs0 hs1 ⊢
    rw[hallM] at hl1 ⊢
    clear hallG hallM
    have HBW:Hid (bv=true↔(sumR H.G≤n∧0≤sx∧sx<max (lenM H.P.M:Int) 1)):=lh (HBV.out.trans ⟨fun h=>h.2,fun h=>⟨HGT.out,h⟩⟩)
    obtain⟨sumA,hsa⟩:∃ x,sumR H.G=x:=⟨_,rfl⟩
    obtain⟨lenA,hla⟩:∃ x,lenM H.P.M=x:=⟨_,rfl⟩
    rw[hsa] at HBW hs0 hs1 ⊢
    rw[hla] at HBW hl1 ⊢
    clear hsa hla HBV HGT
    by_cases g1:sumA≤n
    case neg =>
     obtain rfl:=no_of HBW.out (fun h=>g1 h.1)
     have t1:decide (sumA≤(n:Int))=false:=decide_eq_false g1
     obtain⟨D1_c,D1_f,D1_z⟩:=D1.all
     go_wp2_with fail
     go_ret
     exact Ret.mk hbw
    have t1:decide (sumA≤(n:Int))=true:=decide_eq_true g1
    by_cases g2:0≤sx
    case neg =>
     obtain rfl:=no_of HBW.out (fun h=>g2 h.2.1)
     obtain⟨D1_c,D1_f,D1_z⟩:=D1.all
     go_wp2_with fail
     go_ret
     exact Ret.mk hbw
    by_cases g3:sx<lenA
    · obtain rfl:=yes_of HBW.out ⟨g1,g2,by omega⟩
      obtain⟨D1_c,D1_f,D1_z⟩:=D1.all
      go_wp2_with fail
      go_ret
      exact Ret.mk hbw
    have t2:decide (sx<(lenA:Int))=false:=decide_eq_false g3
    by_cases g4:sx=0
    · obtain rfl:=yes_of HBW.out ⟨g1,g2,by omega⟩
      have t3:(sx == 0)=true:=by rw[beq_iff_eq];exact g4
      have HG4:=lh g4
      clear g4
      obtain⟨D1_c,D1_f,D1_z⟩:=D1.all
      go_wp2_with fail
      go_ret
      exact Ret.mk hbw
    · obtain rfl:=no_of HBW.out (fun h=>by omega)
      have t3:(sx == 0)=false:=by rw[beq_eq_false_iff_ne];exact g4
      obtain⟨D1_c,D1_f,D1_z⟩:=D1.all
      go_wp2_with fail
      go_ret
      exact Ret.mk hbw
end Go.Proofs.YtbnngjhnkegliaaGreat
