/-
  Texts joined: HoClone HoCount HrHas. No law is proved here.
-/
import Derived.Test.YtbnngjhnkegliaaGreatB10
namespace Go.Proofs.YtbnngjhnkegliaaGreat
open Go.RowKit
theorem info_gm:(Tryz.prog.info? 49).map (fun i=>(i.zero,i.size,i.bytes))=some (some (.agg #[.int .i64 0,.int .i64 0,.int .i64 0,.int .i64 0,.int .i64 0,.slice none 0 0,.slice none 0 0,.int .i64 0,.slice none 0 0]),9,120):=by kernel_rfl
theorem one_gm (r l s p a h:Int) (so uo eo:Option Addr) (sl sc ul uc el ec:Nat):∀ u∈[Value.int .i64 r,.int .i64 l,.int .i64 s,.int .i64 p,.int .i64 a,.slice so sl sc,.slice uo ul uc,.int .i64 h,.slice eo el ec],u.oneCell'=true:=by
 intro u hu
 simp at hu
 rcases hu with rfl|rfl|rfl|rfl|rfl|rfl|rfl|rfl|rfl <;> rfl
theorem hoRet' {k:Value→Value} {H:Ho} {base n r m q:Nat} {w w':World} {of or' om og:Option Addr} {kf kr km kg:Nat} {us:List Value} {gs:List Gv} {t d s:Int} (h1:H.P.F.length=n) (h2:H.P.R.length=r) (h3:H.P.M.length=m) (h4:H.G.length=q) (ht:H.t=t) (hd:H.d=d) (hs:H.n=s) (h:OwnH base w' (.slice of n kf) (.slice or' r kr) (.slice om m km) us (.slice og q kg) gs H) (hb:Below w.heap.size w w') (hz:w.heap.size≤base:=by omega) :
    RetHoB k H w (.returned (k (.agg #[.slice of n kf,.slice or' r kr,.slice om m km,.slice og q kg,.int .i64 t,.int .u64 d,.int .i64 s]))) w':=hoRet rfl h1 h2 h3 h4 ht hd hs h hb hz
theorem OwnH.fill7 {base B:Nat} {w:World} {vf vr vm:Value} {us:List Value} {vg:Value} {gs:List Gv} {H:Ho} (h:OwnH base w vf vr vm us vg gs H) (hB:B<base) (x0 x1 x2 x3 x4 x5 x6:Value):OwnH base (((((((w.setCell ⟨B,0,none⟩ x0).setCell ⟨B,1,none⟩ x1).setCell ⟨B,2,none⟩ x2).setCell ⟨B,3,none⟩ x3).setCell ⟨B,4,none⟩ x4).setCell ⟨B,5,none⟩ x5).setCell ⟨B,6,none⟩ x6) vf vr vm us vg gs H :=
 ((((((h.setlow hB x0).setlow hB x1).setlow hB x2).setlow hB x3).setlow hB x4).setlow hB x5).setlow hB x6
theorem Below.fill7 {B b:Nat} {w w':World} (h:Below B w w') (hB:B≤b) (x0 x1 x2 x3 x4 x5 x6:Value):Below B w (((((((w'.setCell ⟨b,0,none⟩ x0).setCell ⟨b,1,none⟩ x1).setCell ⟨b,2,none⟩ x2).setCell ⟨b,3,none⟩ x3).setCell ⟨b,4,none⟩ x4).setCell ⟨b,5,none⟩ x5).setCell ⟨b,6,none⟩ x6) :=
 ((((((h.setCell (p:=⟨b,0,none⟩) hB x0).setCell (p:=⟨b,1,none⟩) hB x1).setCell (p:=⟨b,2,none⟩) hB x2).setCell (p:=⟨b,3,none⟩) hB x3).setCell (p:=⟨b,4,none⟩) hB x4).setCell (p:=⟨b,5,none⟩) hB x5).setCell (p:=⟨b,6,none⟩) hB x6
set_option maxRecDepth 100000 in
set_option maxHeartbeats 8000000 in
theorem hclone_any (v:Value) (H:Ho) (w:World) (ha:HoAt w v H) (hsm:H.Small):Calls Tryz.prog 41 #[v] w (RetHoB (fun v=>v) H w):=by
 obtain⟨s1,s2,s3,s4,s5,s6⟩:=hsm
 obtain⟨of,or',om,og,kf,kr,km,kg,n,r,m,q,tx,dx,sx,HN,HR,HM,HQ,HT,HD,HS,rfl,kf1,kf2,kr1,kr2,km1,km2,kg1,kg2,h⟩:=HoAt.opened ha
 rw[HN.out] at s1
 rw[HR.out] at s2
 rw[HM.out] at s3
 rw[HQ.out] at s5
 have h00:=h
 obtain⟨h1,h2,us,h3,h4,h5⟩:=h.p.parts
 obtain⟨om',km',e0,_,_,h3⟩:=h3
 injection e0 with e0 e9 e1
 clear e9
 subst e0 e1
 rw[HM.out] at h4
 have HF:=lh h1;clear h1
 have HI:=lh h2;clear h2
 have H4:=lh h4;clear h4
 have H5:=lh h5;clear h5
 have H3:=lh h3;clear h3
 have HZ:=lh s4;clear s4 h
 have H6:=lh s6;clear s6
 have H0:=lh h00;clear h00
 have D1:=((HasBlock.made w #[.slice of n kf,.slice or' r kr,.slice om m km,.slice og q kg,.int .i64 tx,.int .u64 dx,.int .i64 sx] 30).alloc (.cells #[.slice none 0 0,.slice none 0 0,.slice none 0 0,.slice none 0 0,.int .i64 0,.int .u64 0,.int .i64 0] 30)).alloc (.cells #[.slice of n kf,.slice or' r kr,.slice om m km,.slice og q kg,.int .i64 tx,.int .u64 dx,.int .i64 sx] 30)
 have D2:=(HasBlock.made (w.alloc (.cells #[.slice of n kf,.slice or' r kr,.slice om m km,.slice og q kg,.int .i64 tx,.int .u64 dx,.int .i64 sx] 30)) #[.slice none 0 0,.slice none 0 0,.slice none 0 0,.slice none 0 0,.int .i64 0,.int .u64 0,.int .i64 0] 30).alloc (.cells #[.slice of n kf,.slice or' r kr,.slice om m km,.slice og q kg,.int .i64 tx,.int .u64 dx,.int .i64 sx] 30)
 have D3:=HasBlock.made ((w.alloc (.cells #[.slice of n kf,.slice or' r kr,.slice om m km,.slice og q kg,.int .i64 tx,.int .u64 dx,.int .i64 sx] 30)).alloc (.cells #[.slice none 0 0,.slice none 0 0,.slice none 0 0,.slice none 0 0,.int .i64 0,.int .u64 0,.int .i64 0] 30)) #[.slice of n kf,.slice or' r kr,.slice om m km,.slice og q kg,.int .i64 tx,.int .u64 dx,.int .i64 sx] 30
 have hbw:Below w.heap.size w (((w.alloc (.cells #[.slice of n kf,.slice or' r kr,.slice om m km,.slice og q kg,.int .i64 tx,.int .u64 dx,.int .i64 sx] 30)).alloc (.cells #[.slice none 0 0,.slice none 0 0,.slice none 0 0,.slice none 0 0,.int .i64 0,.int .u64 0,.int .i64 0] 30)).alloc (.cells #[.slice of n kf,.slice or' r kr,.slice om m km,.slice og q kg,.int .i64 tx,.int .u64 dx,.int .i64 sx] 30)):=bel
 simp only[sizes] at D2 D3
 have hz:w.heap.size+1+1+1≤(((w.alloc (.cells #[.slice of n kf,.slice or' r kr,.slice om m km,.slice og q kg,.int .i64 tx,.int .u64 dx,.int .i64 sx] 30)).alloc (.cells #[.slice none 0 0,.slice none 0 0,.slice none 0 0,.slice none 0 0,.int .i64 0,.int .u64 0,.int .i64 0] 30)).alloc (.cells #[.slice of n kf,.slice or' r kr,.slice om m km,.slice og q kg,.int .i64 tx,.int .u64 dx,.int .i64 sx] 30)).heap.size:=by simp only[sizes];omega
 go_enter Tryz.func41,Tryz.ntmps41
 go_wp2_with fail
 with_reducible refine (clone_str _ H.P.F _ (HF.out.below hbw) (by rw[HN.out];omega)).mono ?_
 rintro e w1 ⟨v1,rfl,o1,hb1⟩
 simp only[sizes] at o1
 replace D1:=D1.below hb1
 replace D2:=D2.below hb1
 replace D3:=D3.below hb1
 replace hbw:=hbw.trans (hb1.mono hbw.size)
 replace hz:=Nat.le_trans hz hb1.size
 clear hb1
 obtain⟨of1,kf1',rfl,_,_⟩:=o1.form
 rw[HN.out] at o1 ⊢
 obtain⟨D1_c,D1_f,D1_z⟩:=D1.all
 obtain⟨D2_c,D2_f,D2_z⟩:=D2.all
 obtain⟨D3_c,D3_f,D3_z⟩:=D3.all
 go_wp2_with fail
 clear D1_c D1_f D1_z
 clear D2_c D2_f D2_z
 clear D3_c D3_f D3_z
 replace D3:=D3.put7_0 (.slice of1 n kf1')
 replace D1:=D1.set_ne (b':=w.heap.size+1+1) (j:=0) (by omega) (.slice of1 n kf1')
 replace D2:=D2.set_ne (b':=w.heap.size+1+1) (j:=0) (by omega) (.slice of1 n kf1')
 replace o1:=o1.setlow (b:=w.heap.size+1+1) (j:=0) (by omega) (.slice of1 n kf1')
 replace hbw:=hbw.setCell (p:=⟨w.heap.size+1+1,0,none⟩) (by dsimp only;omega) (.slice of1 n kf1')
 generalize hW:World.setCell w1 ⟨w.heap.size+1+1,0,none⟩ (.slice of1 n kf1')=w2 at D1 D2 D3 o1 hbw ⊢
 replace hz:=Nat.le_trans hz (Nat.le_of_eq ((World.size_setCell w1 ⟨w.heap.size+1+1,0,none⟩ (.slice of1 n kf1')).symm.trans (congrArg (fun x:World=>x.heap.size) hW)))
 clear hW
 with_reducible refine (clone_num _ H.P.R _ (HI.out.below hbw) (by rw[HR.out];omega)).mono ?_
 rintro e w3 ⟨v3,rfl,o3,hb3⟩
 replace o3:=o3.lower (base':=w.heap.size+1+1+1) hz
 replace D1:=D1.below hb3
 replace D2:=D2.below hb3
 replace D3:=D3.below hb3
 replace o1:=o1.below hb3
 replace hbw:=hbw.trans (hb3.mono hbw.size)
 replace hz:=Nat.le_trans hz hb3.size
 clear hb3
 obtain⟨or1,kr1',rfl,_,_⟩:=o3.form
 rw[HR.out] at o3 ⊢
 obtain⟨D1_c,D1_f,D1_z⟩:=D1.all
 obtain⟨D2_c,D2_f,D2_z⟩:=D2.all
 obtain⟨D3_c,D3_f,D3_z⟩:=D3.all
 go_wp2_with fail
 clear D1_c D1_f D1_z
 clear D2_c D2_f D2_z
 clear D3_c D3_f D3_z
 replace D3:=D3.put7_1 (.slice or1 r kr1')
 replace D1:=D1.set_ne (b':=w.heap.size+1+1) (j:=1) (by omega) (.slice or1 r kr1')
 replace D2:=D2.set_ne (b':=w.heap.size+1+1) (j:=1) (by omega) (.slice or1 r kr1')
 replace o1:=o1.setlow (b:=w.heap.size+1+1) (j:=1) (by omega) (.slice or1 r kr1')
 replace o3:=o3.setlow (b:=w.heap.size+1+1) (j:=1) (by omega) (.slice or1 r kr1')
 replace hbw:=hbw.setCell (p:=⟨w.heap.size+1+1,1,none⟩) (by dsimp only;omega) (.slice or1 r kr1')
 generalize hW:World.setCell w3 ⟨w.heap.size+1+1,1,none⟩ (.slice or1 r kr1')=w4' at D1 D2 D3 o1 o3 hbw ⊢
 replace hz:=Nat.le_trans hz (Nat.le_of_eq ((World.size_setCell w3 ⟨w.heap.size+1+1,1,none⟩ (.slice or1 r kr1')).symm.trans (congrArg (fun x:World=>x.heap.size) hW)))
 clear hW
 replace D3:=D3.put7_2 (.slice none 0 0)
 replace D1:=D1.set_ne (b':=w.heap.size+1+1) (j:=2) (by omega) (.slice none 0 0)
 replace D2:=D2.set_ne (b':=w.heap.size+1+1) (j:=2) (by omega) (.slice none 0 0)
 replace o1:=o1.setlow (b:=w.heap.size+1+1) (j:=2) (by omega) (.slice none 0 0)
 replace o3:=o3.setlow (b:=w.heap.size+1+1) (j:=2) (by omega) (.slice none 0 0)
 replace hbw:=hbw.setCell (p:=⟨w.heap.size+1+1,2,none⟩) (by dsimp only;omega) (.slice none 0 0)
 generalize hW:World.setCell w4' ⟨w.heap.size+1+1,2,none⟩ (.slice none 0 0)=w4 at D1 D2 D3 o1 o3 hbw ⊢
 replace hz:=Nat.le_trans hz (Nat.le_of_eq ((World.size_setCell w4' ⟨w.heap.size+1+1,2,none⟩ (.slice none 0 0)).symm.trans (congrArg (fun x:World=>x.heap.size) hW)))
 clear hW
 have HO:OwnP (w.heap.size+1+1+1) w4 (.slice of1 n kf1') (.slice or1 r kr1') (.slice none 0 0) [] ⟨H.P.F,H.P.R,H.P.M.take 0⟩:=⟨o1,o3,own_nil,OwnRows.nil _ _,fun i u hu=>by simp at hu⟩
 clear o1 o3
 go_loopw [27] (fun iv wr=>∃ (i:Nat) (o:Option Addr) (cp:Nat) (us':List Value),i≤m∧iv=.int .i64 i∧i≤cp∧cp≤9223372036854775807∧HasBlock wr w.heap.size #[.slice of n kf,.slice or' r kr,.slice om m km,.slice og q kg,.int .i64 tx,.int .u64 dx,.int .i64 sx] 30∧HasBlock wr (w.heap.size+1) #[.slice none 0 0,.slice none 0 0,.slice none 0 0,.slice none 0 0,.int .i64 0,.int .u64 0,.int .i64 0] 30∧HasBlock wr (w.heap.size+1+1) #[.slice of1 n kf1',.slice or1 r kr1',.slice o i cp,.slice og q kg,.int .i64 tx,.int .u64 dx,.int .i64 sx] 30∧OwnP (w.heap.size+1+1+1) wr (.slice of1 n kf1') (.slice or1 r kr1') (.slice o i cp) us' ⟨H.P.F,H.P.R,H.P.M.take i⟩∧Below w.heap.size w wr∧w.heap.size+1+1+1≤wr.heap.size) (fun iv _=>m - (intOf iv).toNat)
 case atStart=>exact⟨0,none,0,[],Nat.zero_le _,rfl,nlr _,by omega,D1,D2,D3,HO,hbw,hz⟩
 case round =>
  clear D1 D2 D3 HO hbw hz
  obtain⟨i,o,cp,us',hi,rfl,hc1,hc2,D1,D2,D3,HO,hbw,hz⟩:=hrel
  by_cases hlt:i<m
  · obtain⟨l,hl⟩:=get_lt (xs:=H.P.M) (k:=i) (by rw[HM.out];exact hlt)
    obtain⟨u,hu⟩:=get_lt (xs:=us) (k:=i) (by rw[H4.out];exact hlt)
    have hrow:=H5.out i u l hu hl
    have hll:=HZ.out l (List.mem_of_getElem? hl)
    obtain⟨mb,moff,rfl,hmb,hmc⟩:=H3.out.resolve_left (by intro e;rw[e] at hu;simp at hu)
    have cm:=(hbw.cell (p:=⟨mb,moff+i,none⟩) hmb).trans (hmc i _ hu)
    obtain⟨uo,uc,rfl,d1,d2,_⟩:=hrow.out
    have HROW:=lh hrow
    obtain⟨ql,hql⟩:∃ x,l.length=x:=⟨_,rfl⟩
    rw[hql] at hu cm HROW hll
    have HQL:=lh hql;clear hql
    have HL:=lh hl;clear hl hu hmc hrow d1 d2
    obtain⟨i0,hi0,iz0,iz1,iz2⟩:=info_parts info_ints
    obtain⟨D1_c,D1_f,D1_z⟩:=D1.all
    obtain⟨D2_c,D2_f,D2_z⟩:=D2.all
    obtain⟨D3_c,D3_f,D3_z⟩:=D3.all
    go_wp2_with fail
    have htl:(H.P.M.take i).length=i:=by rw[List.length_take,HM.out];omega
    have HTL:=lh htl;clear htl
    have HOM:Hid (wr.ownsRow (w.heap.size+1+1+1) 23 1 (.slice o i cp) i us'):=by
     have h:=HO.m
     rw[HTL.out] at h
     exact h
    go_region_law (go_loud (first
     | (refine step_append_own rfl (.tmp 33) (.tmp 36) 24 rfl (w.heap.size+1+1+1) 23 i0 (.slice none 0 0) 1 24 Tryz.underlying24 hi0 iz0 iz1 iz2 rfl (by decide) (.slice o i cp) i us' rfl (HOM5.out.alloc _) ⟨_,0,none⟩ 1 1 [.slice uo5 ql uk5] rfl rfl (cells_made _ [.slice uo5 ql uk5] _ _ rfl) (one_slice _ _ _) (by unfold maxLen;omega) (by omega) (by simp only[sizes];omega) ?_
        intro v6 w6 hown6 hgrow6 _
        obtain⟨o6,c6,rfl,hc61,hc62⟩:=own_form' hown6
        have hbg:=below_grown (w:=w5) (B:=w.heap.size+1+1+1) ((Below.refl _ _).alloc (by omega) (.cells #[.slice uo5 ql uk5] 23)) (HOM5.out.alloc _) hgrow6 (nlr _) (by simp only[sizes];omega)
        have HO6:=(HO5.alloc (.cells #[.slice uo5 ql uk5] 23)).push (l:=l) (O5.alloc _) hr5 hu5 (by rw[HTL.out];exact hown6) hgrow6
        have F1:=E1.under hbg (by omega)
        have F2:=E2.under hbg (by omega)
        have F3:=E3.under hbg (by omega)
        have hbw6:Below w.heap.size w w6:=hbw5.trans (hbg.mono (by omega))
        have hz6:w.heap.size+1+1+1≤w6.heap.size:=Nat.le_trans hz5 hbg.size
        clear hbg
        obtain⟨F3_c,F3_f,F3_z⟩:=F3.all)
     | (go_simp;go_at_call 74
        with_reducible refine (clone_num _ l _ (HROW.out.below ((hbw.drew))) (by rw[HQL.out];omega)).mono ?_
        rintro _ w5 ⟨v5,rfl,o5,hb5⟩
        obtain⟨uo5,uk5,rfl,_,_⟩:=o5.formN HQL.out
        have HB5:Below wr.heap.size wr w5:=(Below.drew (Below.refl _ wr)).trans hb5
        clear hb5
        have E1:=D1.below HB5
        have E2:=D2.below HB5
        have E3:=D3.below HB5
        have HO5:=HO.below HB5
        have hz5:w.heap.size+1+1+1≤w5.heap.size:=Nat.le_trans hz HB5.size
        have hbw5:Below w.heap.size w w5:=hbw.trans (HB5.mono hbw.size)
        have HOM5:Hid (w5.ownsRow (w.heap.size+1+1+1) 23 1 (.slice o i cp) i us'):=lh (owns_below HOM.out HB5)
        have hr5:Apart (.slice or1 r kr1') (.slice uo5 ql uk5):=apart_lt (B:=wr.heap.size) (fun k hk=>(World.ownsRow.lt HO.r.raw k hk).2) (fun k hk=>(World.ownsRow.lt o5.raw k hk).1)
        have hu5:∀ (j:Nat) (u':Value),us'[j]?=some u'→Apart u' (.slice uo5 ql uk5):=fun j u' hj=>apart_lt (B:=wr.heap.size) (fun k hk=>by
         obtain⟨xs,hxs⟩:=get_lt (xs:=H.P.M.take i) (k:=j) (by rw[←HO.u.1];exact lt_of_get hj)
         exact (World.ownsRow.lt (HO.u.2.1 j u' xs hj hxs).raw k hk).2) (fun k hk=>(World.ownsRow.lt o5.raw k hk).1)
        have O5:=OwnEnc.lower (base':=w.heap.size+1+1+1) o5 hz
        clear o5
        obtain⟨E3_c,E3_f,E3_z⟩:=E3.all)))
    all_goals
     go_wp2_with fail
     go_roundw
     case rel =>
      refine ⟨i+1,o6,c6,us'++[.slice uo5 ql uk5],by omega,by go_num,hc61,hc62,F1.set_ne (by omega) _,F2.set_ne (by omega) _,F3.put7_2 _,?_,hbw6.setCell (by dsimp only;omega) _,by rw[World.size_setCell];exact hz6⟩
      have h:=HO6.setlow (b:=w.heap.size+1+1) (j:=2) (by omega) (.slice o6 (i+1) c6)
      rw[List.take_add_one,HL.out]
      exact h
     case measure=>simp [intOf];omega
  · obtain rfl:i=m:=by omega
    have hall:H.P.M.take i=H.P.M:=by rw[←HM.out];exact List.take_length
    rw[hall] at HO
    clear hall
    obtain⟨D1_c,D1_f,D1_z⟩:=D1.all
    obtain⟨D2_c,D2_f,D2_z⟩:=D2.all
    obtain⟨D3_c,D3_f,D3_z⟩:=D3.all
    go_wp2_with fail
    clear D1_c D1_f D1_z
    clear D2_c D2_f D2_z
    clear D3_c D3_f D3_z
    replace D3:=D3.put7_3 (.slice none 0 0)
    replace D1:=D1.set_ne (b':=w.heap.size+1+1) (j:=3) (by omega) (.slice none 0 0)
    replace D2:=D2.set_ne (b':=w.heap.size+1+1) (j:=3) (by omega) (.slice none 0 0)
    replace HO:=HO.setlow (b:=w.heap.size+1+1) (j:=3) (by omega) (.slice none 0 0)
    replace hbw:=hbw.setCell (p:=⟨w.heap.size+1+1,3,none⟩) (by dsimp only;omega) (.slice none 0 0)
    generalize hW:World.setCell wr ⟨w.heap.size+1+1,3,none⟩ (.slice none 0 0)=w7 at D1 D2 D3 HO hbw ⊢
    replace hz:=Nat.le_trans hz (Nat.le_of_eq ((World.size_setCell wr ⟨w.heap.size+1+1,3,none⟩ (.slice none 0 0)).symm.trans (congrArg (fun x:World=>x.heap.size) hW)))
    clear hW
    have HOH:OwnH (w.heap.size+1+1+1) w7 (.slice of1 n kf1') (.slice or1 r kr1') (.slice o i cp) us' (.slice none 0 0) [] ⟨H.P,H.G.take 0,H.t,H.d,H.n⟩:=OwnH.start HO
    clear HO
    go_loopw [45] (fun iv wr=>∃ (j:Nat) (o2:Option Addr) (cp2:Nat) (gs:List Gv),j≤q∧iv=.int .i64 j∧j≤cp2∧cp2≤9223372036854775807∧HasBlock wr w.heap.size #[.slice of n kf,.slice or' r kr,.slice om i km,.slice og q kg,.int .i64 tx,.int .u64 dx,.int .i64 sx] 30∧HasBlock wr (w.heap.size+1) #[.slice none 0 0,.slice none 0 0,.slice none 0 0,.slice none 0 0,.int .i64 0,.int .u64 0,.int .i64 0] 30∧HasBlock wr (w.heap.size+1+1) #[.slice of1 n kf1',.slice or1 r kr1',.slice o i cp,.slice o2 j cp2,.int .i64 tx,.int .u64 dx,.int .i64 sx] 30∧OwnH (w.heap.size+1+1+1) wr (.slice of1 n kf1') (.slice or1 r kr1') (.slice o i cp) us' (.slice o2 j cp2) gs ⟨H.P,H.G.take j,H.t,H.d,H.n⟩∧Below w.heap.size w wr∧w.heap.size+1+1+1≤wr.heap.size) (fun iv _=>q - (intOf iv).toNat)
    case atStart=>exact⟨0,none,0,[],Nat.zero_le _,rfl,nlr _,by omega,D1,D2,D3,HOH,hbw,hz⟩
    case round =>
     clear D1 D2 D3 HOH hbw hz
     obtain⟨j,o2,cp2,gs,hj,rfl,hc21,hc22,D1,D2,D3,HOH,hbw,hz⟩:=hrel
     by_cases hjq:j<q
     · obtain⟨g,hg⟩:=get_lt (xs:=H.G) (k:=j) (by rw[HQ.out];exact hjq)
       obtain⟨g1,g2,g3⟩:=H6.out j g hg
       obtain⟨gb,goff,so,sc,uo,uc,eo,ec,rfl,hgb,t1,t2,u1,u2,e3,e4,cs,hS,hU,hE⟩:=H0.out.guest hg
       have htj:H.G.take (j+1)=H.G.take j++[g]:=by rw[List.take_add_one,hg];rfl
       have hlj:(H.G.take j).length=j:=by rw[List.length_take,HQ.out];omega
       have HTJ:=lh htj;clear htj
       have HLJ:=lh hlj;clear hlj
       have HGX:Hid (∃ g',g'=g):=lh ⟨g,rfl⟩
       clear HGX hg
       obtain⟨g0,hg0⟩:∃ g0,g0=g:=⟨_,rfl⟩
       rw[←hg0] at HTJ
       obtain⟨⟨rr,cl,ss,pp,aa⟩,S,U,hd,E⟩:=g
       dsimp only at g1 g2 g3 t1 u1 e3 hS hU hE
       have c0:wr.cell? ⟨gb,goff+j*9,none⟩=_:=(hbw.cell (p:=⟨gb,goff+j*9,none⟩) hgb).trans (cs 0 _ rfl)
       have c1:wr.cell? ⟨gb,goff+j*9+1,none⟩=_:=(hbw.cell (p:=⟨gb,goff+j*9+1,none⟩) hgb).trans (cs 1 _ rfl)
       have c2:wr.cell? ⟨gb,goff+j*9+2,none⟩=_:=(hbw.cell (p:=⟨gb,goff+j*9+2,none⟩) hgb).trans (cs 2 _ rfl)
       have c3:wr.cell? ⟨gb,goff+j*9+3,none⟩=_:=(hbw.cell (p:=⟨gb,goff+j*9+3,none⟩) hgb).trans (cs 3 _ rfl)
       have c4:wr.cell? ⟨gb,goff+j*9+4,none⟩=_:=(hbw.cell (p:=⟨gb,goff+j*9+4,none⟩) hgb).trans (cs 4 _ rfl)
       have c5:wr.cell? ⟨gb,goff+j*9+5,none⟩=_:=(hbw.cell (p:=⟨gb,goff+j*9+5,none⟩) hgb).trans (cs 5 _ rfl)
       have c6:wr.cell? ⟨gb,goff+j*9+6,none⟩=_:=(hbw.cell (p:=⟨gb,goff+j*9+6,none⟩) hgb).trans (cs 6 _ rfl)
       have c7:wr.cell? ⟨gb,goff+j*9+7,none⟩=_:=(hbw.cell (p:=⟨gb,goff+j*9+7,none⟩) hgb).trans (cs 7 _ rfl)
       have c8:wr.cell? ⟨gb,goff+j*9+8,none⟩=_:=(hbw.cell (p:=⟨gb,goff+j*9+8,none⟩) hgb).trans (cs 8 _ rfl)
       clear cs
       obtain⟨sl,hsl⟩:∃ x,S.length=x:=⟨_,rfl⟩
       obtain⟨ul,hul⟩:∃ x,U.length=x:=⟨_,rfl⟩
       obtain⟨el,hel⟩:∃ x,E.length=x:=⟨_,rfl⟩
       dsimp only at c0 c1 c2 c3 c4 c5 c6 c7 c8
       rw[hsl] at g1 t1 hS c5
       rw[hul] at g2 u1 hU c6
       rw[hel] at g3 e3 hE c8
       have HSL:=lh hsl;clear hsl
       have HUL:=lh hul;clear hul
       have HEL:=lh hel;clear hel
       have HG0:=lh hg0;clear hg0
       have HS':=lh hS;clear hS
       have HU':=lh hU;clear hU
       have HE':=lh hE;clear hE
       have hlt:=HOH.lt
       have HLT:=lh hlt;clear hlt
       obtain⟨D1_c,D1_f,D1_z⟩:=D1.all
       obtain⟨D2_c,D2_f,D2_z⟩:=D2.all
       obtain⟨D3_c,D3_f,D3_z⟩:=D3.all
       go_wp2_with fail
       clear D1_c D1_f D1_z
       clear D2_c D2_f D2_z
       clear D3_c D3_f D3_z
       clear c0 c1 c2 c3 c4 c5 c6 c7 c8
       have hbr:Below wr.heap.size wr (wr.alloc (.cells #[.int .i64 rr,.int .i64 cl,.int .i64 ss,.int .i64 pp,.int .i64 aa,.slice so sl sc,.slice uo ul uc,.int .i64 hd,.slice eo el ec] 49)):=(Below.refl _ _).alloc (nlr _) _
       have DG:=HasBlock.made wr #[.int .i64 rr,.int .i64 cl,.int .i64 ss,.int .i64 pp,.int .i64 aa,.slice so sl sc,.slice uo ul uc,.int .i64 hd,.slice eo el ec] 49
       generalize hW:wr.alloc (.cells #[.int .i64 rr,.int .i64 cl,.int .i64 ss,.int .i64 pp,.int .i64 aa,.slice so sl sc,.slice uo ul uc,.int .i64 hd,.slice eo el ec] 49)=w8 at hbr DG ⊢
       clear hW
       have l8:=DG.lt
       with_reducible refine (clone_str _ S _ (HS'.out.below (hbw.trans (hbr.mono hbw.size))) (by rw[HSL.out];omega)).mono ?_
       rintro e w9 ⟨v9,rfl,o5,hb9⟩
       obtain⟨so5,sc5,rfl,_,_⟩:=o5.formN HSL.out
       replace DG:=DG.below hb9
       replace hbr:=hbr.trans (hb9.mono hbr.size)
       clear hb9
       obtain⟨DG_c,DG_f,DG_z⟩:=DG.all
       go_wp2_with fail
       clear DG_c DG_f DG_z
       replace DG:=DG.put9_5 (.slice so5 sl sc5)
       replace hbr:=hbr.setCell (p:=⟨wr.heap.size,5,none⟩) (nlr _) (.slice so5 sl sc5)
       replace o5:=o5.setlow (j:=5) l8 (.slice so5 sl sc5)
       generalize hW:World.setCell w9 ⟨wr.heap.size,5,none⟩ (.slice so5 sl sc5)=w10 at hbr DG o5 ⊢
       clear hW
       have l10:=DG.lt
       with_reducible refine (clone_bool _ U _ (HU'.out.below (hbw.trans (hbr.mono hbw.size))) (by rw[HUL.out];omega)).mono ?_
       rintro e w11 ⟨v11,rfl,o6,hb11⟩
       obtain⟨uo6,uc6,rfl,_,_⟩:=o6.formN HUL.out
       replace DG:=DG.below hb11
       replace hbr:=hbr.trans (hb11.mono hbr.size)
       replace o5:=o5.below hb11
       clear hb11
       obtain⟨DG_c,DG_f,DG_z⟩:=DG.all
       go_wp2_with fail
       clear DG_c DG_f DG_z
       replace DG:=DG.put9_6 (.slice uo6 ul uc6)
       replace hbr:=hbr.setCell (p:=⟨wr.heap.size,6,none⟩) (nlr _) (.slice uo6 ul uc6)
       replace o5:=o5.setlow (j:=6) l8 (.slice uo6 ul uc6)
       replace o6:=o6.setlow (j:=6) l10 (.slice uo6 ul uc6)
       generalize hW:World.setCell w11 ⟨wr.heap.size,6,none⟩ (.slice uo6 ul uc6)=w12 at hbr DG o5 o6 ⊢
       clear hW
       have l12:=DG.lt
       have hul6:∀ k,(Value.slice uo6 ul uc6).ownBlock=some k→k<w12.heap.size:=fun k hk=>(World.ownsRow.lt o6.raw k hk).2
       with_reducible refine (clone_bool _ E _ (HE'.out.below (hbw.trans (hbr.mono hbw.size))) (by rw[HEL.out];omega)).mono ?_
       rintro e w13 ⟨v13,rfl,o7,hb13⟩
       obtain⟨eo7,ec7,rfl,_,_⟩:=o7.formN HEL.out
       replace DG:=DG.below hb13
       replace hbr:=hbr.trans (hb13.mono hbr.size)
       replace o5:=o5.below hb13
       replace o6:=o6.below hb13
       clear hb13
       have hbr14:=hbr.setCell (p:=⟨wr.heap.size,8,none⟩) (nlr _) (.slice eo7 el ec7)
       have HO14:=HOH.below hbr14
       have HGO:Hid ((World.setCell w13 ⟨wr.heap.size,8,none⟩ (.slice eo7 el ec7)).ownsRow (w.heap.size+1+1+1) 49 9 (.slice o2 j cp2) j (gmFlat (H.G.take j) gs)):=by
        have h:=HO14.g
        change World.ownsRow _ _ _ _ _ (H.G.take j).length (gmFlat (H.G.take j) gs) at h
        rw[HLJ.out] at h
        exact h
       have o5':=((o5.setlow (j:=8) l8 (.slice eo7 el ec7)).lower (base':=w.heap.size+1+1+1) (by omega)).alloc (.cells #[.int .i64 rr,.int .i64 cl,.int .i64 ss,.int .i64 pp,.int .i64 aa,.slice so5 sl sc5,.slice uo6 ul uc6,.int .i64 hd,.slice eo7 el ec7] 49)
       have hz10:wr.heap.size<w10.heap.size:=l10
       have hz12:wr.heap.size<w12.heap.size:=l12
       have o6':=((o6.setlow (j:=8) l10 (.slice eo7 el ec7)).lower (base':=w.heap.size+1+1+1) (by omega)).alloc (.cells #[.int .i64 rr,.int .i64 cl,.int .i64 ss,.int .i64 pp,.int .i64 aa,.slice so5 sl sc5,.slice uo6 ul uc6,.int .i64 hd,.slice eo7 el ec7] 49)
       have o7':=((o7.setlow (j:=8) l12 (.slice eo7 el ec7)).lower (base':=w.heap.size+1+1+1) (by omega)).alloc (.cells #[.int .i64 rr,.int .i64 cl,.int .i64 ss,.int .i64 pp,.int .i64 aa,.slice so5 sl sc5,.slice uo6 ul uc6,.int .i64 hd,.slice eo7 el ec7] 49)
       have ge5:∀ k,(Value.slice so5 sl sc5).ownBlock=some k→wr.heap.size≤k:=fun k hk=>by have:=o5.ge k hk;omega
       have ge6:∀ k,(Value.slice uo6 ul uc6).ownBlock=some k→wr.heap.size≤k:=fun k hk=>by have:=o6.ge k hk;omega
       have ge7:∀ k,(Value.slice eo7 el ec7).ownBlock=some k→wr.heap.size≤k:=fun k hk=>by have:=o7.ge k hk;omega
       have hne7:∀ k,(Value.slice uo6 ul uc6).ownBlock=some k→(Value.slice eo7 el ec7).ownBlock≠some k:=fun k hk hk'=>by
        have:=hul6 k hk
        have:=o7.ge k hk'
        omega
       have HO5:=lh o5';clear o5 o5'
       have HO6:=lh o6';clear o6 o6'
       have HO7:=lh o7';clear o7 o7'
       have HK:=lh (And.intro ge5 (And.intro ge6 (And.intro ge7 hne7)));clear ge5 ge6 ge7 hne7 hul6
       have hbw14:Below w.heap.size w (World.setCell w13 ⟨wr.heap.size,8,none⟩ (.slice eo7 el ec7)):=hbw.trans (hbr14.mono hbw.size)
       have hz14:w.heap.size+1+1+1≤w13.heap.size:=Nat.le_trans hz hbr.size
       obtain⟨i0,hi0,iz0,iz1,iz2⟩:=info_parts info_gm
       have E3:=D3.below hbr
       obtain⟨DG_c,DG_f,DG_z⟩:=DG.all
       obtain⟨E3_c,E3_f,E3_z⟩:=E3.all
       go_wp2_with (at_builtin;go_must (refine wpList_append_own _ rfl (.tmp 62) (.tmp 64) 27 rfl (w.heap.size+1+1+1) 49 i0 (.agg #[.int .i64 0,.int .i64 0,.int .i64 0,.int .i64 0,.int .i64 0,.slice none 0 0,.slice none 0 0,.int .i64 0,.slice none 0 0]) 9 120 Tryz.underlying27 hi0 iz0 iz1 iz2 rfl (by decide) _ j (gmFlat (H.G.take j) gs) rfl (HGO.out.alloc _) ⟨w13.heap.size,0,none⟩ 1 1 [.int .i64 rr,.int .i64 cl,.int .i64 ss,.int .i64 pp,.int .i64 aa,.slice so5 sl sc5,.slice uo6 ul uc6,.int .i64 hd,.slice eo7 el ec7] rfl rfl (cells_made _ [.int .i64 rr,.int .i64 cl,.int .i64 ss,.int .i64 pp,.int .i64 aa,.slice so5 sl sc5,.slice uo6 ul uc6,.int .i64 hd,.slice eo7 el ec7] _ _ (by first|rfl|simp only[sizes])) (one_gm _ _ _ _ _ _ _ _ _ _ _ _ _ _ _) (by unfold maxLen;omega) (by omega) (by simp only[sizes];omega) ?_;intro v15 w15 hown15 hgrow15 _;obtain⟨o15,c15,rfl,hc151,hc152⟩:=own_form' hown15;have F3:=((D3.below hbr14).alloc (.cells #[.int .i64 rr,.int .i64 cl,.int .i64 ss,.int .i64 pp,.int .i64 aa,.slice so5 sl sc5,.slice uo6 ul uc6,.int .i64 hd,.slice eo7 el ec7] 49)).append (HGO.out.alloc _) hgrow15 (by omega);obtain⟨F3_c,F3_f,F3_z⟩:=F3.all))
       have HPG:=OwnH.pushG (t:=H.t) (d:=H.d) (n:=H.n) (g:=⟨⟨rr,cl,ss,pp,aa⟩,S,U,hd,E⟩) (x:=⟨.slice so5 sl sc5,.slice uo6 ul uc6,.slice eo7 el ec7⟩) (HO14.alloc _) HO5.out HO6.out HO7.out HLT.out HK.out.1 HK.out.2.1 HK.out.2.2.1 HK.out.2.2.2 (by rw[HLJ.out];exact hown15) hgrow15
       have F1:=((D1.below hbr14).alloc (.cells #[.int .i64 rr,.int .i64 cl,.int .i64 ss,.int .i64 pp,.int .i64 aa,.slice so5 sl sc5,.slice uo6 ul uc6,.int .i64 hd,.slice eo7 el ec7] 49)).append (HGO.out.alloc _) hgrow15 (by omega)
       have F2:=((D2.below hbr14).alloc (.cells #[.int .i64 rr,.int .i64 cl,.int .i64 ss,.int .i64 pp,.int .i64 aa,.slice so5 sl sc5,.slice uo6 ul uc6,.int .i64 hd,.slice eo7 el ec7] 49)).append (HGO.out.alloc _) hgrow15 (by omega)
       have hbw15:Below w.heap.size w w15:=below_append' (Below.alloc' hbw14 (nlr _) _) (HGO.out.alloc _) hgrow15 (by omega)
       have hz15:w.heap.size+1+1+1≤w15.heap.size:=by
        have:=hgrow15.size
        simp only[sizes] at this
        omega
       go_roundw
       case rel =>
        refine ⟨j+1,o15,c15,gs++[⟨.slice so5 sl sc5,.slice uo6 ul uc6,.slice eo7 el ec7⟩],by omega,by go_num,hc151,hc152,F1.set_ne (by omega) _,F2.set_ne (by omega) _,F3.put7_3 _,?_,hbw15.setCell (by dsimp only;omega) _,by rw[World.size_setCell];exact hz15⟩
        rw[HTJ.out,HG0.out]
        exact HPG.setlow (by omega) _
       case measure=>simp [intOf];omega
     · obtain rfl:j=q:=by omega
       have hall:H.G.take j=H.G:=by rw[←HQ.out];exact List.take_length
       rw[hall] at HOH
       have HOH':OwnH (w.heap.size+1+1+1) wr (.slice of1 n kf1') (.slice or1 r kr1') (.slice o i cp) us' (.slice o2 j cp2) gs H:=HOH
       clear hall HOH
       obtain⟨D1_c,D1_f,D1_z⟩:=D1.all
       obtain⟨D2_c,D2_f,D2_z⟩:=D2.all
       obtain⟨D3_c,D3_f,D3_z⟩:=D3.all
       go_wp2_with fail
       refine bodyPost_ret (v:=.agg #[.slice of1 n kf1',.slice or1 r kr1',.slice o i cp,.slice o2 j cp2,.int .i64 tx,.int .u64 dx,.int .i64 sx]) (by simp [results,Tryz.results41,go_sem,D2_c]) rfl ?_
       exact hoRet' (k:=fun v=>v) HN.out HR.out HM.out HQ.out HT.out HD.out HS.out (HOH'.fill7 (by omega) _ _ _ _ _ _ _) (Below.fill7 hbw (by omega) _ _ _ _ _ _ _)
theorem hclone_ok (v:Value) (H:Ho) (w:World) (ha:HoAt w v H) (hok:H.Ok):Calls Tryz.prog 41 #[v] w (RetHoB (fun v=>v) H w):=hclone_any v H w ha hok.little
set_option maxHeartbeats 2000000 in
theorem hres_ok (v:Value) (H:Ho) (i:Nat) (w:World) (ha:HoAt w v H) (hok:H.Ok) (hi:i<H.G.length):Calls Tryz.prog 18 #[v,.int .i64 i] w (Ret w (.int .i64 ((H.P.chargeN i:Nat):Int))):=by
 have V:=fun v w h=>hhasG_ok v H i w h hok hi
 have HV:=lh V;clear V
 obtain⟨g,hg⟩:=get_lt hi
 obtain⟨l,hl,hgo⟩:=hok.page hg
 have hll:=hok.p.l l (mem_at hl)
 have hch:H.P.chargeN i=l.countP hasB:=by unfold Pl.chargeN;rw[Pl.pages_eq hl]
 rw[hch]
 clear hch hgo
 obtain⟨of,or',om,og,kf,kr,km,kg,n,r,m,q,tx,dx,sx,HN,HR,HM,HQ,HT,HD,HS,rfl,kf1,kf2,kr1,kr2,km1,km2,kg1,kg2,h⟩:=HoAt.opened ha
 have him:i<m:=by rw[←HM.out];exact lt_of_get hl
 have h0:=h
 have HA:Hid (∀ w':World,Below w.heap.size w w'→HoAt w' (.agg #[.slice of n kf,.slice or' r kr,.slice om m km,.slice og q kg,.int .i64 tx,.int .u64 dx,.int .i64 sx]) H):=lh (fun w' hb=>by
  have:=(h0.below hb).at_
  rwa[HT.out,HD.out,HS.out] at this)
 have D1:=HasBlock.made w #[.slice of n kf,.slice or' r kr,.slice om m km,.slice og q kg,.int .i64 tx,.int .u64 dx,.int .i64 sx] 30
 have hbw:Below w.heap.size w (w.alloc (.cells #[.slice of n kf,.slice or' r kr,.slice om m km,.slice og q kg,.int .i64 tx,.int .u64 dx,.int .i64 sx] 30)):=(Below.refl _ _).alloc (nlr _) _
 replace h:=h.below hbw
 obtain⟨mb,moff,lo,lc,rfl,hmb,cm0,lc1,lc2,hL⟩:=h0.p.guest hl
 have CHc:=fun w h=>hcharge_any lo lc l w h (by omega)
 obtain⟨ql,hql⟩:∃ x,l.length=x:=⟨_,rfl⟩
 rw[hql] at cm0 lc1 hL CHc
 have HCH:=lh CHc;clear CHc
 have HL:=lh hL;clear hL
 clear hl hg h0 hql h hi
 go_enter Tryz.func18,Tryz.ntmps18
 obtain⟨D1_c,D1_f,D1_z⟩:=D1.all
 go_wp2_with fail
 clear D1_c D1_f D1_z
 with_reducible refine (HV.out _ _ (HA.out _ hbw)).mono ?_
 rintro e w1 ⟨rfl,hbk⟩
 replace D1:=D1.below hbk
 replace hbw:=hbw.trans (hbk.mono hbw.size)
 clear hbk
 have i0:(0:Int)≤(i:Int):=by omega
 have im:(i:Int)<(m:Int):=by omega
 have cm:=(hbw.cell (p:=⟨mb,moff+i,none⟩) hmb).trans cm0
 obtain⟨D1_c,D1_f,D1_z⟩:=D1.all
 go_wp2_with fail
 clear D1_c D1_f D1_z
 with_reducible refine (HCH.out _ (HL.out.below hbw)).mono ?_
 rintro e w2 ⟨rfl,hbk⟩
 clear cm
 replace D1:=D1.below hbk
 replace hbw:=hbw.trans (hbk.mono hbw.size)
 clear hbk
 go_wp2_with fail
 go_ret
 exact Ret.mk hbw
def fullB (s:ByteArray):Bool := !emptyB s
def Gm.swapped (g:Gm):Nat:=g.s.countP fullB
set_option maxHeartbeats 4000000 in
theorem hswap_ok (v:Value) (H:Ho) (i:Nat) (g:Gm) (w:World) (ha:HoAt w v H) (hok:H.Ok) (hg:H.G[i]?=some g):Calls Tryz.prog 19 #[v,.int .i64 i] w (Ret w (.int .i64 ((g.swapped:Nat):Int))):=by
 have V:=fun v w h=>hhasG_ok v H i w h hok (lt_of_get hg)
 have HV:=lh V;clear V
 obtain⟨l,hl,hgo⟩:=hok.page hg
 have hll:=hok.p.l l (mem_at hl)
 have hsl:=hgo.ls
 obtain⟨of,or',om,og,kf,kr,km,kg,n,r,m,q,tx,dx,sx,HN,HR,HM,HQ,HT,HD,HS,rfl,kf1,kf2,kr1,kr2,km1,km2,kg1,kg2,h⟩:=HoAt.opened ha
 have hiq:i<q:=by rw[←HQ.out];exact lt_of_get hg
 have h0:=h
 have HA:Hid (∀ w':World,Below w.heap.size w w'→HoAt w' (.agg #[.slice of n kf,.slice or' r kr,.slice om m km,.slice og q kg,.int .i64 tx,.int .u64 dx,.int .i64 sx]) H):=lh (fun w' hb=>by
  have:=(h0.below hb).at_
  rwa[HT.out,HD.out,HS.out] at this)
 have D1:=HasBlock.made w #[.slice of n kf,.slice or' r kr,.slice om m km,.slice og q kg,.int .i64 tx,.int .u64 dx,.int .i64 sx] 30
 have hbw:Below w.heap.size w (w.alloc (.cells #[.slice of n kf,.slice or' r kr,.slice om m km,.slice og q kg,.int .i64 tx,.int .u64 dx,.int .i64 sx] 30)):=(Below.refl _ _).alloc (nlr _) _
 replace h:=h.below hbw
 obtain⟨gb,goff,so,sc,uo,uc,eo,ec,rfl,hgb,s1,s2,u1,u2,e3,e4,cs,hS,hU,hE⟩:=h0.guest hg
 have c50:w.cell? ⟨gb,goff+i*9+5,none⟩=_:=cs 5 _ rfl
 dsimp only at c50
 unfold Gm.swapped
 obtain⟨S,hS0⟩:∃ S,g.s=S:=⟨_,rfl⟩
 rw[hS0] at c50 hS s1 hsl ⊢
 obtain⟨ql,hql⟩:∃ x,S.length=x:=⟨_,rfl⟩
 rw[hql] at c50 hS s1 hsl
 have HQL:=lh hql;clear hql
 have HSS:=lh hS;clear hS
 have hq32:ql≤32:=by omega
 clear hU hE cs hl hgo hg h0 h hsl hll hS0 u1 e3
 go_enter Tryz.func19,Tryz.ntmps19
 obtain⟨D1_c,D1_f,D1_z⟩:=D1.all
 go_wp2_with fail
 clear D1_c D1_f D1_z
 with_reducible refine (HV.out _ _ (HA.out _ hbw)).mono ?_
 rintro e w1 ⟨rfl,hbk⟩
 replace D1:=D1.below hbk
 replace hbw:=hbw.trans (hbk.mono hbw.size)
 clear hbk
 have i0:(0:Int)≤(i:Int):=by omega
 have iq:(i:Int)<(q:Int):=by omega
 have c5:=(hbw.cell (p:=⟨gb,goff+i*9+5,none⟩) hgb).trans c50
 have HROW:=lh (HSS.out.below hbw)
 obtain⟨D1_c,D1_f,D1_z⟩:=D1.all
 go_wp2_with fail
 clear D1_c D1_f D1_z
 clear c5
 go_loop [5,19] (fun c i=>∃ k:Nat,k≤ql∧i=.int .i64 k∧c=.int .i64 ((S.take k).countP fullB:Nat)) (fun _ i=>ql - (intOf i).toNat)
 case atStart=>exact⟨0,Nat.zero_le _,rfl,rfl⟩
 case round =>
  obtain⟨k,hk,rfl,rfl⟩:=hrel
  have hcl:=countP_le fullB S k
  by_cases hlt:k<ql
  · obtain⟨s,hs⟩:=get_lt (xs:=S) (k:=k) (by rw[HQL.out];exact hlt)
    obtain⟨fb,foff,rfl,hfb,cf⟩:=HROW.out.elem hs
    have hsu:=countP_succ (q:=fullB) hs
    obtain⟨c,hc⟩:∃ c,(S.take k).countP fullB=c:=⟨_,rfl⟩
    rw[hc] at hsu hcl ⊢
    have hii:=isEmpty_iff s
    unfold fullB emptyB at hsu
    by_cases h0:s.size=0
    · rw[decide_eq_true h0] at hsu hii
      have HS:=lh hsu;clear hsu hs hc h0
      go_wp2_with fail
      go_round
      case rel=>exact⟨k+1,by omega,by go_num,by rw[show (S.take (k+1)).countP fullB=c from HS.out]⟩
      case measure=>simp [intOf];omega
    · rw[decide_eq_false h0] at hsu hii
      have HS:=lh hsu;clear hsu hs hc h0
      go_wp2_with fail
      go_round
      case rel=>exact⟨k+1,by omega,by go_num,by rw[show (S.take (k+1)).countP fullB=c+1 from HS.out];go_num⟩
      case measure=>simp [intOf];omega
  · obtain rfl:k=ql:=by omega
    have hall:S.take k=S:=by rw[←HQL.out];exact List.take_length
    rw[hall]
    clear hall
    go_wp2_with fail
    go_ret
    exact Ret.mk hbw
theorem HasBlock.fill7 {w:World} {b:Nat} {T:TypeId} {x0 x1 x2 x3 x4 x5 x6:Value} (h:HasBlock w b #[x0,x1,x2,x3,x4,x5,x6] T) (y0 y1 y2 y3 y4 y5 y6:Value):HasBlock (((((((w.setCell ⟨b,0,none⟩ y0).setCell ⟨b,1,none⟩ y1).setCell ⟨b,2,none⟩ y2).setCell ⟨b,3,none⟩ y3).setCell ⟨b,4,none⟩ y4).setCell ⟨b,5,none⟩ y5).setCell ⟨b,6,none⟩ y6) b #[y0,y1,y2,y3,y4,y5,y6] T:=by
 have:=((((((h.set_at 0 y0).set_at 1 y1).set_at 2 y2).set_at 3 y3).set_at 4 y4).set_at 5 y5).set_at 6 y6
 simpa using this
def newHo (n:Nat) (t d:Int):Ho:=⟨newPl n,[],t,d,0⟩
set_option maxRecDepth 100000 in
set_option maxHeartbeats 4000000 in
theorem hnew_ok (n:Nat) (t d:Int) (w:World) (h1:1≤n) (h2:n≤96) (ht:0≤t∧t≤99):Calls Tryz.prog 7 #[.int .i64 n,.int .i64 t,.int .u64 d] w (RetHoB (fun v=>.tuple #[v,.bool true]) (newHo n t d) w):=by
 have C1:=fun w=>pnew_any_own n w
 rw[show newOk n=true from decide_eq_true ⟨by omega,by omega⟩] at C1
 obtain⟨P,hP⟩:∃ P,newPl (n:Int)=P:=⟨_,rfl⟩
 have hN:newHo n t d=⟨P,[],t,d,0⟩:=by unfold newHo;rw[hP]
 rw[hN]
 rw[hP] at C1
 have HC:=lh C1;clear C1 hP hN
 obtain⟨ht0,ht9⟩:=ht
 have D2:=HasBlock.made w #[.slice none 0 0,.slice none 0 0,.slice none 0 0,.slice none 0 0,.int .i64 0,.int .u64 0,.int .i64 0] 30
 have hbw:Below w.heap.size w (w.alloc (.cells #[.slice none 0 0,.slice none 0 0,.slice none 0 0,.slice none 0 0,.int .i64 0,.int .u64 0,.int .i64 0] 30)):=(Below.refl _ _).alloc (nlr _) _
 go_enter Tryz.func7,Tryz.ntmps7
 go_wp2_with fail
 with_reducible refine (HC.out _).mono ?_
 rintro e w1 ⟨of0,or0,om0,kf0,kr0,km0,us0,rfl,O0,hbk⟩
 have hz1:=hbk.size
 simp only[sizes] at O0 hz1
 replace D2:=D2.below hbk
 replace hbw:=hbw.trans (hbk.mono hbw.size)
 clear hbk
 obtain⟨n0,hgn⟩:∃ n,(Pl.F P).length=n:=⟨_,rfl⟩
 obtain⟨r0,hgr⟩:∃ n,(Pl.R P).length=n:=⟨_,rfl⟩
 obtain⟨m0,hgm⟩:∃ n,(Pl.M P).length=n:=⟨_,rfl⟩
 rw[hgn,hgr,hgm] at O0 ⊢
 have HG0:=lh (And.intro hgn (And.intro hgr hgm))
 clear hgn hgr hgm
 obtain⟨D2_c,D2_f,D2_z⟩:=D2.all
 go_wp2_with fail
 have OS:OwnH (w.heap.size+1) w1 (.slice of0 n0 kf0) (.slice or0 r0 kr0) (.slice om0 m0 km0) us0 (.slice none 0 0) [] ⟨P,[],t,d,0⟩:=OwnH.start O0
 have OF:=(OS.fill7 (Nat.lt_succ_self _) (.slice of0 n0 kf0) (.slice or0 r0 kr0) (.slice om0 m0 km0) (.slice none 0 0) (.int .i64 t) (.int .u64 d) (.int .i64 0)).alloc (.cells #[.slice of0 n0 kf0,.slice or0 r0 kr0,.slice om0 m0 km0] 26)
 have DF:=(D2.fill7 (.slice of0 n0 kf0) (.slice or0 r0 kr0) (.slice om0 m0 km0) (.slice none 0 0) (.int .i64 t) (.int .u64 d) (.int .i64 0)).alloc (.cells #[.slice of0 n0 kf0,.slice or0 r0 kr0,.slice om0 m0 km0] 26)
 have BF:=(Below.fill7 hbw (nlr _) (.slice of0 n0 kf0) (.slice or0 r0 kr0) (.slice om0 m0 km0) (.slice none 0 0) (.int .i64 t) (.int .u64 d) (.int .i64 0)).alloc (by simp only[sizes];omega) (.cells #[.slice of0 n0 kf0,.slice or0 r0 kr0,.slice om0 m0 km0] 26)
 generalize hW:(((((((World.setCell w1 ⟨w.heap.size,0,none⟩ (.slice of0 n0 kf0)).setCell ⟨w.heap.size,1,none⟩ (.slice or0 r0 kr0)).setCell ⟨w.heap.size,2,none⟩ (.slice om0 m0 km0)).setCell ⟨w.heap.size,3,none⟩ (.slice none 0 0)).setCell ⟨w.heap.size,4,none⟩ (.int .i64 t)).setCell ⟨w.heap.size,5,none⟩ (.int .u64 d)).setCell ⟨w.heap.size,6,none⟩ (.int .i64 0)).alloc (.cells #[.slice of0 n0 kf0,.slice or0 r0 kr0,.slice om0 m0 km0] 26)=wf at OF DF BF ⊢
 clear D2_c D2_f D2_z hW
 obtain⟨DF_c,DF_f,DF_z⟩:=DF.all
 refine bodyPost_ret (v:=.tuple #[.agg #[.slice of0 n0 kf0,.slice or0 r0 kr0,.slice om0 m0 km0,.slice none 0 0,.int .i64 t,.int .u64 d,.int .i64 0],.bool true]) (by simp [results,Tryz.results7,go_sem,DF_c]) rfl ?_
 exact hoRet' (k:=fun v=>.tuple #[v,.bool true]) (H:=⟨P,[],t,d,0⟩) HG0.out.1 HG0.out.2.1 HG0.out.2.2 rfl rfl rfl rfl OF BF
def Ho.hasG (H:Ho) (i:Int):Prop:=H.Ok∧0≤i∧i<H.G.length
def Ho.has (H:Ho) (i p:Int):Prop:=H.Ok∧∃ a b:Nat,i=a∧p=b∧H.P.at a b
set_option maxHeartbeats 2000000 in
theorem hhasG_any (v:Value) (H:Ho) (i:Int) (bv:Bool) (w:World) (ha:HoAt w v H) (hf:H.Fit) (hsm:H.Small) (hb:bv=true↔H.hasG i):Calls Tryz.prog 50 #[v,.int .i64 i] w (Ret w (.bool bv)):=by
 obtain⟨vb,hvb⟩:=bool_of H.Ok
 have V:=fun v w h=>hvalid_any v H vb w h hf hsm hvb
 have HV:=lh V;clear V
 have HVB:=lh hvb;clear hvb
 obtain⟨of,or',om,og,kf,kr,km,kg,n,r,m,q,tx,dx,sx,HN,HR,HM,HQ,HT,HD,HS,rfl,kf1,kf2,kr1,kr2,km1,km2,kg1,kg2,h⟩:=HoAt.opened ha
 have h0:=h
 have HA:Hid (∀ w':World,Below w.heap.size w w'→HoAt w' (.agg #[.slice of n kf,.slice or' r kr,.slice om m km,.slice og q kg,.int .i64 tx,.int .u64 dx,.int .i64 sx]) H):=lh (fun w' hb=>by
  have:=(h0.below hb).at_
  rwa[HT.out,HD.out,HS.out] at this)
 clear h0 hf hsm
 unfold Ho.hasG at hb
 rw[HQ.out] at hb
 have HBV:=lh hb;clear hb
 have D1:=HasBlock.made w #[.slice of n kf,.slice or' r kr,.slice om m km,.slice og q kg,.int .i64 tx,.int .u64 dx,.int .i64 sx] 30
 have hbw:Below w.heap.size w (w.alloc (.cells #[.slice of n kf,.slice or' r kr,.slice om m km,.slice og q kg,.int .i64 tx,.int .u64 dx,.int .i64 sx] 30)):=(Below.refl _ _).alloc (nlr _) _
 replace h:=h.below hbw
 go_enter Tryz.func50,Tryz.ntmps50
 obtain⟨D1_c,D1_f,D1_z⟩:=D1.all
 go_wp2_with fail
 clear D1_c D1_f D1_z
 with_reducible refine (HV.out _ _ (HA.out _ hbw)).mono ?_
 rintro e w1 ⟨rfl,hbk⟩
 replace D1:=D1.below hbk
 replace h:=h.below hbk
 replace hbw:=hbw.trans (hbk.mono hbw.size)
 clear hbk
 clear HV HA
 cases vb
 · obtain rfl:=no_of HBV.out (fun h=>by have:=HVB.out.2 h.1;cases this)
   obtain⟨D1_c,D1_f,D1_z⟩:=D1.all
   go_wp2_with fail
   go_ret
   exact Ret.mk hbw
 by_cases g1:0≤i
 case neg =>
  obtain rfl:=no_of HBV.out (fun h=>g1 h.2.1)
  obtain⟨D1_c,D1_f,D1_z⟩:=D1.all
  go_wp2_with fail
  go_ret
  exact Ret.mk hbw
 by_cases g2:i<q
 case neg =>
  obtain rfl:=no_of HBV.out (fun h=>g2 h.2.2)
  have t1:decide (i<(q:Int))=false:=decide_eq_false g2
  obtain⟨D1_c,D1_f,D1_z⟩:=D1.all
  go_wp2_with fail
  go_ret
  exact Ret.mk hbw
 obtain rfl:=yes_of HBV.out ⟨HVB.out.1 rfl,g1,g2⟩
 obtain⟨D1_c,D1_f,D1_z⟩:=D1.all
 go_wp2_with fail
 go_ret
 exact Ret.mk hbw
set_option maxHeartbeats 2000000 in
theorem hhas_any (v:Value) (H:Ho) (i p:Int) (bv:Bool) (w:World) (ha:HoAt w v H) (hf:H.Fit) (hsm:H.Small) (hb:bv=true↔H.has i p):Calls Tryz.prog 44 #[v,.int .i64 i,.int .i64 p] w (Ret w (.bool bv)):=by
 obtain⟨vb,hvb⟩:=bool_of (H.hasG i)
 have V:=fun v w h=>hhasG_any v H i vb w h hf hsm hvb
 have HV:=lh V;clear V
 have HBV:=lh hb;clear hb
 cases vb
 · obtain rfl:=no_of HBV.out (fun h=>by
     obtain⟨h1,a,b,rfl,rfl,hat⟩:=h
     have:=hvb.2 ⟨h1,by omega,by have:=h1.at_lt hat;omega⟩
     cases this)
   clear hvb
   obtain⟨of,or',om,og,kf,kr,km,kg,n,r,m,q,tx,dx,sx,HN,HR,HM,HQ,HT,HD,HS,rfl,kf1,kf2,kr1,kr2,km1,km2,kg1,kg2,h⟩:=HoAt.opened ha
   have h0:=h
   have HA:Hid (∀ w':World,Below w.heap.size w w'→HoAt w' (.agg #[.slice of n kf,.slice or' r kr,.slice om m km,.slice og q kg,.int .i64 tx,.int .u64 dx,.int .i64 sx]) H):=lh (fun w' hb=>by
    have:=(h0.below hb).at_
    rwa[HT.out,HD.out,HS.out] at this)
   clear h0 hf hsm
   have D1:=HasBlock.made w #[.slice of n kf,.slice or' r kr,.slice om m km,.slice og q kg,.int .i64 tx,.int .u64 dx,.int .i64 sx] 30
   have hbw:Below w.heap.size w (w.alloc (.cells #[.slice of n kf,.slice or' r kr,.slice om m km,.slice og q kg,.int .i64 tx,.int .u64 dx,.int .i64 sx] 30)):=(Below.refl _ _).alloc (nlr _) _
   replace h:=h.below hbw
   go_enter Tryz.func44,Tryz.ntmps44
   obtain⟨D1_c,D1_f,D1_z⟩:=D1.all
   go_wp2_with fail
   clear D1_c D1_f D1_z
   with_reducible refine (HV.out _ _ (HA.out _ hbw)).mono ?_
   rintro e w1 ⟨rfl,hbk⟩
   replace D1:=D1.below hbk
   replace h:=h.below hbk
   replace hbw:=hbw.trans (hbk.mono hbw.size)
   clear hbk
   obtain⟨D1_c,D1_f,D1_z⟩:=D1.all
   go_wp2_with fail
   go_ret
   exact Ret.mk hbw
 · obtain⟨hok,hi0,hi1⟩:=hvb.1 rfl
   obtain⟨k,rfl⟩:∃ k:Nat,i=k:=⟨i.toNat,by omega⟩
   obtain⟨l,hl⟩:=get_lt (xs:=H.P.M) (k:=k) (by rw[←hok.m];omega)
   have hpl:bv=true↔0≤p∧p<l.length:=HBV.out.trans ⟨fun h=>by
    obtain⟨_,a,b,e1,rfl,l',f,hl',hf'⟩:=h
    obtain rfl:k=a:=by omega
    rw[hl] at hl'
    injection hl' with hl'
    subst hl'
    have:=lt_of_get hf'
    omega,fun h=>⟨hok,k,p.toNat,rfl,by omega,l,_,hl,(List.getElem?_eq_getElem (show p.toNat<l.length by omega))⟩⟩
   clear hvb HBV hi0 hi1
   have hll:=(hok.p.l l (mem_at hl)).2
   obtain⟨of,or',om,og,kf,kr,km,kg,n,r,m,q,tx,dx,sx,HN,HR,HM,HQ,HT,HD,HS,rfl,kf1,kf2,kr1,kr2,km1,km2,kg1,kg2,h⟩:=HoAt.opened ha
   have hi:k<m:=by rw[←HM.out];exact lt_of_get hl
   have h0:=h
   have HA:Hid (∀ w':World,Below w.heap.size w w'→HoAt w' (.agg #[.slice of n kf,.slice or' r kr,.slice om m km,.slice og q kg,.int .i64 tx,.int .u64 dx,.int .i64 sx]) H):=lh (fun w' hb=>by
    have:=(h0.below hb).at_
    rwa[HT.out,HD.out,HS.out] at this)
   clear h
   have h:=h0
   have D1:=HasBlock.made w #[.slice of n kf,.slice or' r kr,.slice om m km,.slice og q kg,.int .i64 tx,.int .u64 dx,.int .i64 sx] 30
   have hbw:Below w.heap.size w (w.alloc (.cells #[.slice of n kf,.slice or' r kr,.slice om m km,.slice og q kg,.int .i64 tx,.int .u64 dx,.int .i64 sx] 30)):=(Below.refl _ _).alloc (nlr _) _
   replace h:=h.below hbw
   obtain⟨mb,moff,lo,lc,rfl,hmb,cm0,lc1,lc2,hL⟩:=h0.p.guest hl
   clear hL
   obtain⟨ql,hql⟩:∃ x,l.length=x:=⟨_,rfl⟩
   rw[hql] at cm0 lc1 hpl hll
   have HBV:=lh hpl
   clear hl hql h0 hf hsm hok hpl
   go_enter Tryz.func44,Tryz.ntmps44
   obtain⟨D1_c,D1_f,D1_z⟩:=D1.all
   go_wp2_with fail
   clear D1_c D1_f D1_z
   with_reducible refine (HV.out _ _ (HA.out _ hbw)).mono ?_
   rintro e w1 ⟨rfl,hbk⟩
   replace D1:=D1.below hbk
   replace h:=h.below hbk
   replace hbw:=hbw.trans (hbk.mono hbw.size)
   clear hbk
   clear HV HA
   have iq:(k:Int)<(m:Int):=by omega
   have i0:(0:Int)≤(k:Int):=by omega
   have cm:=(hbw.cell (p:=⟨mb,moff+k,none⟩) hmb).trans cm0
   by_cases g1:0≤p
   case neg =>
    obtain rfl:=no_of HBV.out (fun h=>g1 h.1)
    obtain⟨D1_c,D1_f,D1_z⟩:=D1.all
    go_wp2_with fail
    go_ret
    exact Ret.mk hbw
   by_cases g2:p<ql
   case neg =>
    obtain rfl:=no_of HBV.out (fun h=>g2 h.2)
    have t1:decide (p<(ql:Int))=false:=decide_eq_false g2
    obtain⟨D1_c,D1_f,D1_z⟩:=D1.all
    go_wp2_with fail
    go_ret
    exact Ret.mk hbw
   obtain rfl:=yes_of HBV.out ⟨g1,g2⟩
   obtain⟨D1_c,D1_f,D1_z⟩:=D1.all
   go_wp2_with fail
   go_ret
   exact Ret.mk hbw
set_option maxHeartbeats 2000000 in
theorem hres_no (v:Value) (H:Ho) (i:Int) (w:World) (ha:HoAt w v H) (hf:H.Fit) (hsm:H.Small) (hb:¬H.hasG i):Calls Tryz.prog 18 #[v,.int .i64 i] w (Ret w (.int .i64 0)):=by
 have V:=fun v w h=>hhasG_any v H i false w h hf hsm (Iff.intro (fun e=>by cases e) (fun e=>absurd e hb))
 have HV:=lh V;clear V hb
 obtain⟨of,or',om,og,kf,kr,km,kg,n,r,m,q,tx,dx,sx,HN,HR,HM,HQ,HT,HD,HS,rfl,kf1,kf2,kr1,kr2,km1,km2,kg1,kg2,h⟩:=HoAt.opened ha
 have h0:=h
 have HA:Hid (∀ w':World,Below w.heap.size w w'→HoAt w' (.agg #[.slice of n kf,.slice or' r kr,.slice om m km,.slice og q kg,.int .i64 tx,.int .u64 dx,.int .i64 sx]) H):=lh (fun w' hb=>by
  have:=(h0.below hb).at_
  rwa[HT.out,HD.out,HS.out] at this)
 clear h0 hf hsm
 have D1:=HasBlock.made w #[.slice of n kf,.slice or' r kr,.slice om m km,.slice og q kg,.int .i64 tx,.int .u64 dx,.int .i64 sx] 30
 have hbw:Below w.heap.size w (w.alloc (.cells #[.slice of n kf,.slice or' r kr,.slice om m km,.slice og q kg,.int .i64 tx,.int .u64 dx,.int .i64 sx] 30)):=(Below.refl _ _).alloc (nlr _) _
 replace h:=h.below hbw
 go_enter Tryz.func18,Tryz.ntmps18
 obtain⟨D1_c,D1_f,D1_z⟩:=D1.all
 go_wp2_with fail
 clear D1_c D1_f D1_z
 with_reducible refine (HV.out _ _ (HA.out _ hbw)).mono ?_
 rintro e w1 ⟨rfl,hbk⟩
 replace D1:=D1.below hbk
 replace h:=h.below hbk
 replace hbw:=hbw.trans (hbk.mono hbw.size)
 clear hbk
 obtain⟨D1_c,D1_f,D1_z⟩:=D1.all
 go_wp2_with fail
 go_ret
 exact Ret.mk hbw
set_option maxHeartbeats 2000000 in
theorem hswap_no (v:Value) (H:Ho) (i:Int) (w:World) (ha:HoAt w v H) (hf:H.Fit) (hsm:H.Small) (hb:¬H.hasG i):Calls Tryz.prog 19 #[v,.int .i64 i] w (Ret w (.int .i64 0)):=by
 have V:=fun v w h=>hhasG_any v H i false w h hf hsm (Iff.intro (fun e=>by cases e) (fun e=>absurd e hb))
 have HV:=lh V;clear V hb
 obtain⟨of,or',om,og,kf,kr,km,kg,n,r,m,q,tx,dx,sx,HN,HR,HM,HQ,HT,HD,HS,rfl,kf1,kf2,kr1,kr2,km1,km2,kg1,kg2,h⟩:=HoAt.opened ha
 have h0:=h
 have HA:Hid (∀ w':World,Below w.heap.size w w'→HoAt w' (.agg #[.slice of n kf,.slice or' r kr,.slice om m km,.slice og q kg,.int .i64 tx,.int .u64 dx,.int .i64 sx]) H):=lh (fun w' hb=>by
  have:=(h0.below hb).at_
  rwa[HT.out,HD.out,HS.out] at this)
 clear h0 hf hsm
 have D1:=HasBlock.made w #[.slice of n kf,.slice or' r kr,.slice om m km,.slice og q kg,.int .i64 tx,.int .u64 dx,.int .i64 sx] 30
 have hbw:Below w.heap.size w (w.alloc (.cells #[.slice of n kf,.slice or' r kr,.slice om m km,.slice og q kg,.int .i64 tx,.int .u64 dx,.int .i64 sx] 30)):=(Below.refl _ _).alloc (nlr _) _
 replace h:=h.below hbw
 go_enter Tryz.func19,Tryz.ntmps19
 obtain⟨D1_c,D1_f,D1_z⟩:=D1.all
 go_wp2_with fail
 clear D1_c D1_f D1_z
 with_reducible refine (HV.out _ _ (HA.out _ hbw)).mono ?_
 rintro e w1 ⟨rfl,hbk⟩
 replace D1:=D1.below hbk
 replace h:=h.below hbk
 replace hbw:=hbw.trans (hbk.mono hbw.size)
 clear hbk
 obtain⟨D1_c,D1_f,D1_z⟩:=D1.all
 go_wp2_with fail
 go_ret
 exact Ret.mk hbw
end Go.Proofs.YtbnngjhnkegliaaGreat
