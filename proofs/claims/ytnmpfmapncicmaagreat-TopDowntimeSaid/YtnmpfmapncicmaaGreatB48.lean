/-
  Texts joined: TpUg. No law is proved here.
-/
import Derived.Test.YtnmpfmapncicmaaGreatB47
import Derived.WalkMore
namespace Go.Proofs.YtnmpfmapncicmaaGreat
set_option linter.all false
set_option maxRecDepth 100000
set_option maxHeartbeats 40000000
open Go.RowKit
section
set_option maxRecDepth 512
set_option maxHeartbeats 200000
section
variable {P:Program} {ops:Array Oper} {op:Oper} {a:Act} {B o:Nat} {ty:TypeId} {x:Operand} {vs:List Value} {d:TypeDesc} {sub:List Bx} {cs:List (Nat×Nat×Value)}
theorem yieldC_part (hw:Region.wanted op (yielded ops a.tmps)=true) (ho:op.op=.load ty x) (hx:a.eval x=.pointer (some ⟨B,o,none⟩))
    (hu:P.underlying ty=some d) (hd:d.isRow=true) (hi:(P.info? ty).map (·.size)=some vs.length) (hv:∀ (j:Nat) (u:Value),vs[j]?=some u→(B,o+j,u)∈cs):YieldsIf P ops (KeptC sub cs) op (.agg vs.toArray) a :=
 yieldsIf_load_mid hw ty x ho B o hx vs d (fun _ hS j u hu=>hS.2 _ (hv j u hu)) hu hd hi
end
theorem OwnMem.mach {base B:Nat} {w w':World} {v:Value} {xs:List Int} {cs:Array Value} (h:OwnMem base w v xs) (hB:HasBlock w B cs 43) (hn:But B w w'):OwnMem base w' v xs:=h.but hB (by decide) hn
theorem outs_one' (os:List Ou):∀ u∈os.flatMap ouL,u.oneCell'=true:=fun u hu=>by
 obtain⟨x,_,hx⟩:=List.mem_flatMap.1 hu
 exact ouL_one x u hx
set_option maxRecDepth 100000 in
set_option maxHeartbeats 8000000 in
theorem brun_any {M M':Mc} {v vs:Value} {w:World} {es rest:List En} {outs:List Ou} {tgt k:Nat} (hM:M.Ok) (ha:MemRow w v M.m) (hs:RdS enL 4 w vs es) (hlen:es.length≤1) (hseq:Sys.Seq M.n tgt es)
    (hval:∀ y∈es,0≤y.e.n∧y.e.n<4294967296) (h1:M.n≤tgt) (h2:tgt - M.n≤4000) (hR:sysM.scrT tgt k M es []=some (M',rest,outs)) :
    Calls Tryz.prog 36 #[.agg (mcL M v).toArray,vs,.int .u64 tgt] w (fun e w'=>∃ v' vo,e=.returned (.tuple #[.agg (mcL M' v').toArray,vo,.int .i64 ((es.length - rest.length:Nat):Int),.int .i64 0])∧OwnMem w.heap.size w' v' M'.m∧OutRow w.heap.size w' vo outs∧Below w.heap.size w w'):=by
 obtain⟨i0,hi,iz0,iz1,iz2⟩:=info_parts ou_info3
 obtain⟨ao,cap,rfl,hcap,hmax,hs⟩:=hs.open
 unfold maxLen at hmax
 have hn60:=hM.n
 have HA:=lh ha
 have HCK:=lh (fun w h h'=>bcheck_any (v:=v) (w:=w) (vs:=.slice ao es.length cap) hM h h' hlen hseq h1 h2)
 have HCL:=lh (fun w h=>At v M.m w h (by have:=hM.m.q;omega))
 have HES:=lh hs
 obtain⟨n,hn⟩:∃ n,es.length=n:=⟨_,rfl⟩
 have HN:=lh hn
 rw[hn] at hcap HES hlen HCK ⊢
 have HM:=lh hM
 have HSEQ:=lh hseq
 have HVAL:=lh hval
 have HR:=lh hR
 have hv1:=ha.cell1
 clear hs hn ha hM hseq hval hR
 have L:=Lay.start w
 go_enter Tryz.func36,Tryz.ntmps36
 go_wp2_with (first|(refine JD (ty:=43) L (mcL M v) rfl rfl rfl ?_;intro wz Lz Nz;clear Nz;replace L:=Lz;clear Lz;(try simp only[List.set_cons_zero,List.set_cons_succ] at L))|(refine AF (ty:=43) L (mcL mc0 (.slice none 0 0)) (.agg (List.toArray (mcL mc0 (.slice none 0 0)))) rfl rfl (by kernel_rfl) rfl ?_;intro wz Lz Nz;clear Nz;replace L:=Lz;clear Lz;(try simp only[List.set_cons_zero,List.set_cons_succ] at L)))
 go_step3
 go_wp2_with (first|(refine AQ (ty:=43) L 1 rfl (mcL M v) rfl rfl rfl Tryz.underlying43 rfl Aw rfl ?_)|(go_at_call 82;(with_reducible refine (HCK.out _ (HA.out.below L.bel) (HES.out.below L.bel)).mono ?_);rintro e wz ⟨rfl,hbz⟩;replace L:=L.below hbz;clear hbz)|(refine A7 (ty:=30) L 1 rfl rfl rfl rfl Tryz.underlying30 rfl rfl ?_))
 refine (HCL.out _ (HA.out.below L.bel)).mono ?_
 rintro e w1 ⟨v0,rfl,hom1,hb1⟩
 have hom2:=OwnMem.lower (base':=w.heap.size) hom1 L.bel.size
 replace L:=L.below hb1
 have hv0:=hom2.row.cell1
 obtain⟨B6,hb6⟩:=L.fst1
 dsimp only at hb6
 rw[hb6] at L ⊢
 clear hb6 hom1 hb1 HCK HCL HA hv1
 go_wp2_with (first|(refine Aq (ty:=30) (u:=v0) L 1 rfl (mcL M v0) rfl rfl rfl rfl GS hv0 rfl rfl ?_;intro wz Lz Nz;have hom:=hom2.mach (L.at (k:=1) rfl) Nz;clear Nz hom2;replace L:=Lz;clear Lz;simp only[List.set_cons_zero,List.set_cons_succ] at L))
 go_step3
 go_wp2_with fail
 have L1:=lh L
 have HOM:=lh hom
 clear L hom hv0
 go_loopw [11,12,13,14,15,16] (fun vl er i _ _ _ wr=>∃ (q k1:Nat) (M1:Mc) (o1:List Ou) (v1:Value),er=.int .i64 0∧i=.int .i64 q∧q≤n∧M1.Ok∧M.n≤M1.n∧M1.n≤tgt∧o1.length≤M1.n - M.n∧Sys.Seq M1.n tgt (es.drop q)∧sysM.scrT tgt k1 M1 (es.drop q) o1=some (M',rest,outs)∧Lay w wr [⟨B6,mcL mc0 (.slice none 0 0),43⟩,⟨w.heap.size,mcL M1 v1,43⟩]∧OwnMem w.heap.size wr v1 M1.m∧OutRow w.heap.size wr vl o1) (fun _ _ _ _ _ _ wr=>tgt - cntOf wr w.heap.size)
 case atStart=>exact⟨0,k,M,[],v0,rfl,rfl,Nat.zero_le _,HM.out,nlr _,h1,Nat.zero_le _,HSEQ.out,HR.out,L1.out,HOM.out,OutRow.nil _ _⟩
 case round =>
  obtain⟨q,k1,M1,o1,v1,rfl,rfl,hq,hM1,hlo,hhi,hol,hsq,hscr,L,hom,hout⟩:=hrel
  clear L1 HOM
  by_cases hlt:M1.n<tgt
  · obtain⟨k2,u,rr,_,hst,htk,hgo⟩:=Sys.scrT_step _ hscr hlt
    have HLT:=lh hlt
    have HCNT:=lh (Jc L (j:=1) rfl)
    have hdok:=Sys.due_ok sysM (es.drop q) M1 hM1
    have hdn:(sysM.due M1 (es.drop q)).1.n=M1.n:=Sys.due_cnt sysM (es.drop q) M1
    have h60:M1.n<1152921504606846976:=by have:=(FH hst).2;omega
    obtain⟨D,hD⟩:∃ D,sysM.due M1 (es.drop q)=D:=⟨_,rfl⟩
    rw[hD] at hdok hdn hst htk hgo
    have HD:=lh hD
    have HST:=lh hst
    have HTK:=lh htk
    have HSQ:=lh hsq
    have HSCR:=lh hgo
    have HM1:=lh hM1
    have HOM:=lh hom
    have HOUT:=lh hout
    have t1:decide (M1.n<tgt)=true:=decide_eq_true hlt
    have t1i:decide ((M1.n:Int)<(tgt:Int))=true:=decide_eq_true (by omega)
    have t2:decide ((M1.n:Int)<(1152921504606846976:Int))=true:=decide_eq_true (by omega)
    have t2n:decide (M1.n<1152921504606846976)=true:=decide_eq_true (by omega)
    clear hD hscr hgo hst htk hsq hdok hdn hM1 hom hout
    go_wp2_with (first|(refine A7 (ty:=41) L 1 rfl rfl rfl rfl Tryz.underlying41 rfl rfl ?_)|(refine Ca (ty:=41) L 1 rfl (by rfl) rfl rfl Tryz.underlying41 rfl rfl ?_))
    go_loopw [13] (fun i wr2=>∃ (q2:Nat) (M2:Mc) (v2:Value),i=.int .i64 q2∧q2≤n∧M2.Ok∧M2.n=M1.n∧Sys.Seq M1.n tgt (es.drop q2)∧sysM.due M2 (es.drop q2)=D∧Lay w wr2 [⟨B6,mcL mc0 (.slice none 0 0),43⟩,⟨w.heap.size,mcL M2 v2,43⟩]∧OwnMem w.heap.size wr2 v2 M2.m∧OutRow w.heap.size wr2 u11 o1) (fun i _=>n - (intOf i).toNat)
    case atStart=>exact⟨q,M1,v1,rfl,hq,HM1.out,rfl,HSQ.out,HD.out,L,HOM.out,HOUT.out⟩
    case round =>
     obtain⟨q2,M2,v2,rfl,hq2,hM2,hn2,hsq2,hdue,L,hom,hout⟩:=hrel
     have HM2:=lh hM2
     have HN2:=lh hn2
     have HSQ2:=lh hsq2
     have HDUE:=lh hdue
     clear hM2 hn2 hsq2 hdue
     go_upto_region 9 with fail
     go_cut [60] from 38 to 61 (fun b wx=>b=.bool (J0 M2 (es.drop q2))∧Lay w wx [⟨B6,mcL mc0 (.slice none 0 0),43⟩,⟨w.heap.size,mcL M2 v2,43⟩]∧OwnMem w.heap.size wx v2 M2.m∧OutRow w.heap.size wx u11 o1)
     case first =>
      clear t1 t1i t2 t2n hlt
      by_cases hlt2:q2<n
      · obtain⟨x,hx⟩:=A6 (xs:=es) (k:=q2) (by rw[HN.out];exact hlt2)
        have hdr:es.drop q2=x :: es.drop (q2+1):=FX hx
        obtain⟨hxx,b,off,rfl,hbl,_,_,hcell⟩:=HES.out.at (by omega)
        have hblr:=Nat.lt_of_lt_of_le hbl L.bel.size
        have HX0:=lh ((L.bel.cell (p:=⟨b,off+q2*4,none⟩) hbl).trans (show _=some (Value.int .u64 (x.p:Int)) by simpa using hcell q2 x hx 0 _ rfl))
        have HX1:=lh ((L.bel.cell (p:=⟨b,off+q2*4+1,none⟩) hbl).trans (show _=some (Value.int .i64 x.e.k) by simpa using hcell q2 x hx 1 _ rfl))
        obtain⟨c1,hc1⟩:∃ c,(x.p == M2.n)=c:=⟨_,rfl⟩
        have hc1i:((x.p:Int) == (M2.n:Int))=c1:=by rw[←hc1,Bool.eq_iff_iff,beq_iff_eq,beq_iff_eq];omega
        obtain⟨c2,hc2⟩:∃ c,(x.e.k != 1)=c:=⟨_,rfl⟩
        have l1:decide (q2<n)=true:=decide_eq_true hlt2
        have l1i:decide ((q2:Int)<(n:Int))=true:=decide_eq_true (by omega)
        have HDB:Hid (J0 M2 (es.drop q2)=(c1 && c2)):=lh (by rw[hdr,←hc1,←hc2];rfl)
        clear hxx hcell hx hdr
        cases c1 <;> cases c2
        all_goals
         (try simp only[Act.put,List.setIfInBounds_toArray,List.set_cons_zero,List.set_cons_succ])
         refine wp_region_quiet_below (by kernel_rfl) (by kernel_rfl) ?_
         repeat (first|(go_big_quiet_want;(first|fail|(refine AK (ty:=41) L (fun _ h=>Aa h) 1 rfl rfl rfl Tryz.underlying41 rfl rfl ?_)|(refine BN (ty:=41) (u:=(.int .u64 x.p)) (fun w' h=>((Aa h).cell (p:=⟨b,_,none⟩) hblr).trans HX0.out) rfl rfl Tryz.underlying41 rfl ?_)|(refine BN (ty:=3) (u:=(.int .i64 x.e.k)) (fun w' h=>((Aa h).cell (p:=⟨b,_,none⟩) hblr).trans HX1.out) rfl rfl Tryz.underlying3 rfl ?_));go_big_quiet_on;(try simp only[Act.put,List.setIfInBounds_toArray,List.set_cons_zero,List.set_cons_succ]))|go_big_quiet_step (first|fail|fail))
         refine wpQuiet_nil ?_
         intro wz hwz
         replace L:=L.below (Aa hwz)
         replace hom:=hom.below (Aa hwz)
         replace hout:=hout.below (Aa hwz)
         clear hwz
         go_wp2_with fail
         go_meet
         exact⟨congrArg Value.bool HDB.out.symm,L,hom,hout⟩
      · have l1:decide (q2<n)=false:=decide_eq_false hlt2
        have l1i:decide ((q2:Int)<(n:Int))=false:=decide_eq_false (by omega)
        have HDB:Hid (J0 M2 (es.drop q2)=false):=lh (by rw[List.drop_eq_nil_of_le (by rw[HN.out];omega)];rfl)
        clear hlt2
        (try simp only[Act.put,List.setIfInBounds_toArray,List.set_cons_zero,List.set_cons_succ])
        refine wp_region_quiet_below (by kernel_rfl) (by kernel_rfl) ?_
        repeat (first|(go_big_quiet_want;(first|fail|(refine AK (ty:=41) L (fun _ h=>Aa h) 1 rfl rfl rfl Tryz.underlying41 rfl rfl ?_));go_big_quiet_on;(try simp only[Act.put,List.setIfInBounds_toArray,List.set_cons_zero,List.set_cons_succ]))|go_big_quiet_step (first|fail|fail))
        refine wpQuiet_nil ?_
        intro wz hwz
        replace L:=L.below (Aa hwz)
        replace hom:=hom.below (Aa hwz)
        replace hout:=hout.below (Aa hwz)
        clear hwz
        go_wp2_with fail
        go_meet
        exact⟨congrArg Value.bool HDB.out.symm,L,hom,hout⟩
     case rest =>
      obtain⟨rfl,L,hom,hout⟩:=hcut
      cases hdb:J0 M2 (es.drop q2) with
      | true =>
        obtain⟨x,r,hdr,hxp,hxk⟩:=due_yes hdb
        have hx:es[q2]?=some x:=by
         have h0:(es.drop q2)[0]?=some x:=by rw[hdr];rfl
         rw[List.getElem?_drop,Nat.add_zero] at h0
         exact h0
        have hlt2:q2<n:=by rw[←HN.out];exact AJ hx
        have hdr2:es.drop q2=x :: es.drop (q2+1):=FX hx
        have hxv:=HVAL.out x (List.mem_of_getElem? hx)
        obtain⟨hxx,b,off,rfl,hbl,_,_,hcell⟩:=HES.out.at (by omega)
        have HPE:=lh (fun (jj:Nat) (uu:Value) (hu:(evL x.e)[jj]?=some uu) (w':World) (hb:Below w.heap.size w w')=>(hb.cell (p:=⟨b,off+q2*4+1+jj,none⟩) hbl).trans (show _=some uu by
         have:=hcell q2 x hx (jj+1) uu hu
         rw[show off+q2*4+1+jj=off+q2*4+(jj+1) by omega]
         exact this))
        have HRA:=lh (fun w' v' h=>apply_any (w:=w') (v:=v') (ev:=x.e) HM2.out h hxv.1)
        have HAO:=lh (appM_ok HM2.out hxv.1 hxv.2)
        have HAN:=lh ((appM_n M2 x.e).trans HN2.out)
        have HAS:Hid (Sys.Seq M1.n tgt (es.drop (q2+1))):=lh (by
         have h:=HSQ2.out
         rw[hdr2] at h
         exact h.2.2.2.low h.1)
        have HAD:Hid (sysM.due (EG M2 x.e).1 (es.drop (q2+1))=D):=lh (by
         have h:=HDUE.out
         rw[hdr2,Sys.due_cons sysM (m:=M2) ⟨Nat.le_of_eq hxp,hxk⟩,sys_app M2 hxv.1 hxv.2] at h
         exact h)
        clear hdb hdr hx hdr2 hxv hxx hcell hxp hxk t1 t1i t2 t2n hlt
        generalize EG M2 x.e=A at HRA HAO HAN HAD
        go_upto_region 10 with fail
        have KP:=lh (fun (w':World) (hb:Below w.heap.size w w')=>(KeptC.none (w:=w') (cs:=[(b,off+q2*4+1+0,.int .i64 x.e.k),(b,off+q2*4+1+1,.int .u32 x.e.n),(b,off+q2*4+1+2,.string x.e.d)]) (fun c hc=>by
         simp only[List.mem_cons,List.not_mem_nil,or_false] at hc
         rcases hc with rfl|rfl|rfl
         · exact HPE.out 0 _ rfl w' hb
         · exact HPE.out 1 _ rfl w' hb
         · exact HPE.out 2 _ rfl w' hb)))
        have HEV:Hid (∀ (j:Nat) (u:Value),(evL x.e)[j]?=some u→(b,off+q2*4+1+j,u)∈[(b,off+q2*4+1+0,Value.int .i64 x.e.k),(b,off+q2*4+1+1,.int .u32 x.e.n),(b,off+q2*4+1+2,.string x.e.d)]):=lh (fun j u hu=>by
         match j,hu with
         | 0,hu=>cases hu;exact List.mem_cons_self
         | 1,hu=>cases hu;exact List.mem_cons_of_mem _ List.mem_cons_self
         | 2,hu=>cases hu;exact List.mem_cons_of_mem _ (List.mem_cons_of_mem _ List.mem_cons_self)
         | (j+3),hu=>cases hu)
        (try simp only[Act.put,List.setIfInBounds_toArray,List.set_cons_zero,List.set_cons_succ])
        have hHeld:=(fun w' L=>KP.out w' (Lay.bel L)) _ L.drew
        refine wp_region_held_drew (by kernel_rfl) hHeld (fun hHeld=>?_)
        replace L:=L.drew
        replace hom:=hom.below (Below.drew (Below.refl _ _))
        replace hout:=hout.below (Below.drew (Below.refl _ _))
        refine wpAnyH_take (i:=1) (v:=?_) rfl (by kernel_rfl) (by kernel_rfl) (by kernel_rfl) (fun _ _ _ h=>h) (Or.inl ⟨by rfl,?_⟩) (by assumption) ?_
        rotate_left
        · intro w' hSw
          first|(go_simp;done)|(go_simp;with_reducible rfl)
        (try simp only[List.getElem_toArray,List.getElem_cons_succ,List.getElem_cons_zero,Act.put,List.setIfInBounds_toArray,List.set_cons_zero,List.set_cons_succ])
        refine wpAnyH_take (i:=2) (v:=?_) rfl (by kernel_rfl) (by kernel_rfl) (by kernel_rfl) (fun _ _ _ h=>h) (Or.inl ⟨by rfl,?_⟩) (by assumption) ?_
        rotate_left
        · intro w' hSw
          first|(go_simp;done)|(go_simp;with_reducible rfl)
        (try simp only[List.getElem_toArray,List.getElem_cons_succ,List.getElem_cons_zero,Act.put,List.setIfInBounds_toArray,List.set_cons_zero,List.set_cons_succ])
        refine wpAnyH_take (i:=3) (v:=?_) rfl (by kernel_rfl) (by kernel_rfl) (by kernel_rfl) (fun _ _ _ h=>h) (Or.inl ⟨by rfl,?_⟩) (by assumption) ?_
        rotate_left
        · intro w' hSw
          first|(go_simp;done)|(go_simp;with_reducible rfl)
        (try simp only[List.getElem_toArray,List.getElem_cons_succ,List.getElem_cons_zero,Act.put,List.setIfInBounds_toArray,List.set_cons_zero,List.set_cons_succ])
        refine wpAnyH_take (i:=4) (v:=?_) rfl (by kernel_rfl) (by kernel_rfl) (by kernel_rfl) (fun _ _ _ h=>h) (Or.inl ⟨by rfl,?_⟩) (by assumption) ?_
        rotate_left
        · intro w' hSw
          first|(go_simp;done)|(go_simp;with_reducible rfl)
        (try simp only[List.getElem_toArray,List.getElem_cons_succ,List.getElem_cons_zero,Act.put,List.setIfInBounds_toArray,List.set_cons_zero,List.set_cons_succ])
        refine wpAnyH_take (i:=5) (v:=.agg (evL x.e).toArray) rfl (by kernel_rfl) (by kernel_rfl) (by kernel_rfl) (fun _ _ _ h=>h) (yieldC_part (ty:=111) (by rfl) rfl rfl Tryz.underlying111 rfl CV HEV.out) (by assumption) ?_
        (try simp only[List.getElem_toArray,List.getElem_cons_succ,List.getElem_cons_zero,Act.put,List.setIfInBounds_toArray,List.set_cons_zero,List.set_cons_succ])
        refine wpAnyH_ready (rs:=[0]) (by kernel_rfl) (by simp) ?_
        refine AllReadyH.cons rfl (fun K hK=>?_) AllReadyH.nil
        refine Ae (by rfl) (C7 (ty:=43) L 1 rfl (mcL M2 v2) rfl rfl Tryz.underlying43 rfl Aw rfl ?_)
        refine hK.out _ _ (KP.out _ L.bel) (fun hHeld'=>?_)
        replace hHeld:=hHeld'
        clear hK K hHeld'
        (try simp only[List.getElem_toArray,List.getElem_cons_succ,List.getElem_cons_zero,Act.put,List.setIfInBounds_toArray,List.set_cons_zero,List.set_cons_succ])
        refine wpAnyH_ready (rs:=[6]) (by kernel_rfl) (by simp) ?_
        refine AllReadyH.cons rfl (fun K hK=>?_) AllReadyH.nil
        go_simp
        with_reducible refine (HRA.out _ _ hom.row).mono ?_
        rintro ee wz ⟨v3,rfl,hom3,hbz⟩
        replace hom:=OwnMem.lower (base':=w.heap.size) hom3 L.bel.size
        replace L:=L.below hbz
        replace hout:=hout.below hbz
        have hv3:=hom.row.cell1
        clear hbz hom3
        go_simp
        refine hK.out _ _ (KP.out _ L.bel) (fun hHeld'=>?_)
        replace hHeld:=hHeld'
        clear hK K hHeld'
        (try simp only[List.getElem_toArray,List.getElem_cons_succ,List.getElem_cons_zero,Act.put,List.setIfInBounds_toArray,List.set_cons_zero,List.set_cons_succ])
        refine wpAnyH_take (i:=7) (v:=?_) rfl (by kernel_rfl) (by kernel_rfl) (by kernel_rfl) (fun _ _ _ h=>h) (Or.inl ⟨by rfl,?_⟩) (by assumption) ?_
        rotate_left
        · intro w' hSw
          first|(go_simp;done)|(go_simp;with_reducible rfl)
        (try simp only[List.getElem_toArray,List.getElem_cons_succ,List.getElem_cons_zero,Act.put,List.setIfInBounds_toArray,List.set_cons_zero,List.set_cons_succ])
        refine wpAnyH_take (i:=8) (v:=?_) rfl (by kernel_rfl) (by kernel_rfl) (by kernel_rfl) (fun _ _ _ h=>h) (Or.inl ⟨by rfl,?_⟩) (by assumption) ?_
        rotate_left
        · intro w' hSw
          first|(go_simp;done)|(go_simp;with_reducible rfl)
        (try simp only[List.getElem_toArray,List.getElem_cons_succ,List.getElem_cons_zero,Act.put,List.setIfInBounds_toArray,List.set_cons_zero,List.set_cons_succ])
        refine wpAnyH_take (i:=9) (v:=?_) rfl (by kernel_rfl) (by kernel_rfl) (by kernel_rfl) (fun _ _ _ h=>h) (Or.inl ⟨by rfl,?_⟩) (by assumption) ?_
        rotate_left
        · intro w' hSw
          first|(go_simp;done)|(go_simp;with_reducible rfl)
        (try simp only[List.getElem_toArray,List.getElem_cons_succ,List.getElem_cons_zero,Act.put,List.setIfInBounds_toArray,List.set_cons_zero,List.set_cons_succ])
        refine wpAnyH_ready (rs:=[10]) (by kernel_rfl) (by simp) ?_
        refine AllReadyH.cons rfl (fun K hK=>?_) AllReadyH.nil
        refine Ae (by rfl) (Am (ty:=43) L 1 rfl (mcL A.1 v3) (mcL A.1 v3) rfl rfl rfl Aw (Bp _ hv3) rfl rfl ?_)
        intro wy Ly Ny
        replace hom:=hom.mach (L.at (k:=1) rfl) Ny
        have hout2:=Ai hout (L.at (k:=1) rfl) (by decide) Ny
        clear Ny hout
        replace L:=Ly
        clear Ly
        simp only[List.set_cons_zero,List.set_cons_succ] at L
        refine hK.out _ _ (KP.out _ L.bel) (fun hHeld'=>?_)
        replace hHeld:=hHeld'
        clear hK K hHeld'
        (try simp only[List.getElem_toArray,List.getElem_cons_succ,List.getElem_cons_zero,Act.put,List.setIfInBounds_toArray,List.set_cons_zero,List.set_cons_succ])
        refine wpAnyH_done (by kernel_rfl) ?_ _
        clear hHeld
        go_wp2_with fail
        go_roundw
        case rel=>exact⟨q2+1,A.1,v3,by go_num,by omega,HAO.out,HAN.out,HAS.out,HAD.out,L,hom,hout2⟩
        case measure=>simp [intOf];omega
      | false =>
        have hD2:=due_no (hi:=tgt) (M:=M2) (by rw[HN2.out];exact HSQ2.out) hdb
        have hDD:D=(M2,es.drop q2):=HDUE.out.symm.trans hD2
        subst hDD
        have hst2:Ba M2=false:=HST.out
        have HTOOK:=lh (Sys.took sysM (m:=M2) (m':=M2) (l:=es.drop q2) (hi:=tgt) hD2 (show Sys.Seq M2.n tgt (es.drop q2) by rw[HN2.out];exact HSQ2.out) HTK.out)
        have hidle:Jm M2=false:=by
         have h:=hst2
         unfold Ba at h
         rw[Bool.or_eq_false_iff,Bool.or_eq_false_iff] at h
         exact h.1.2
        have hc48:(mcL M2 v2)[48]?=some (.bool false):=by rw[←(FH hst2).1];rfl
        have HRI:=lh (fun w=>idle_any (v:=v2) (w:=w) HM2.out)
        rw[hidle] at HRI
        have HST2:=lh hst2
        clear hdb hD2 hst2 hidle hlt t1 t1i t2 t2n
        go_upto_region 17 with (first|(refine A7 (ty:=4) (u:=.bool false) L 1 rfl rfl rfl rfl Tryz.underlying4 rfl hc48 ?_)|(refine AQ (ty:=43) L 1 rfl (mcL M2 v2) rfl rfl rfl Tryz.underlying43 rfl Aw rfl ?_)|(go_at_call 67;(with_reducible refine (HRI.out _).mono ?_);rintro e wz ⟨rfl,hbz⟩;replace L:=L.below hbz;replace hom:=hom.below hbz;replace hout:=hout.below hbz;clear hbz))
        go_cut [15] from 83 to 97 (fun b wx=>b=.bool (rdB M2)∧Lay w wx [⟨B6,mcL mc0 (.slice none 0 0),43⟩,⟨w.heap.size,mcL M2 v2,43⟩]∧OwnMem w.heap.size wx v2 M2.m∧OutRow w.heap.size wx u11 o1)
        case first =>
         cases HTOOK.out.1 with
         | clock x hl hp hk hrd hv =>
           have hp:x.p=M2.n:=hp
           have hrd:rdB M2=true:=hrd
           have hx:es[q2]?=some x:=by
            have h0:(es.drop q2)[0]?=some x:=by rw[hl];rfl
            rw[List.getElem?_drop,Nat.add_zero] at h0
            exact h0
           have hlt2:q2<n:=by rw[←HN.out];exact AJ hx
           obtain⟨hxx,b,off,rfl,hbl,_,_,hcell⟩:=HES.out.at (by omega)
           have hblr:=Nat.lt_of_lt_of_le hbl L.bel.size
           have HX0:=lh ((L.bel.cell (p:=⟨b,off+q2*4,none⟩) hbl).trans (show _=some (Value.int .u64 (M2.n:Int)) by rw[←hp];simpa using hcell q2 x hx 0 _ rfl))
           have l1:decide (q2<n)=true:=decide_eq_true hlt2
           have l1i:decide ((q2:Int)<(n:Int))=true:=decide_eq_true (by omega)
           have HRD:=lh hrd
           clear hl hp hk hrd hv hx hxx hcell
           (try simp only[Act.put,List.setIfInBounds_toArray,List.set_cons_zero,List.set_cons_succ])
           refine wp_region_quiet_below (by kernel_rfl) (by kernel_rfl) ?_
           repeat (first|(go_big_quiet_want;(first|fail|(refine AK (ty:=41) L (fun _ h=>Aa h) 1 rfl rfl rfl Tryz.underlying41 rfl rfl ?_)|(refine BN (ty:=41) (u:=(.int .u64 M2.n)) (fun w' h=>((Aa h).cell (p:=⟨b,_,none⟩) hblr).trans HX0.out) rfl rfl Tryz.underlying41 rfl ?_));go_big_quiet_on;(try simp only[Act.put,List.setIfInBounds_toArray,List.set_cons_zero,List.set_cons_succ]))|go_big_quiet_step (first|fail|fail))
           refine wpQuiet_nil ?_
           intro wz hwz
           replace L:=L.below (Aa hwz)
           replace hom:=hom.below (Aa hwz)
           replace hout:=hout.below (Aa hwz)
           clear hwz
           go_wp2_with fail
           go_meet
           exact⟨congrArg Value.bool HRD.out.symm,L,hom,hout⟩
         | none hrd hv hr hhd =>
           have hrd:rdB M2=false:=hrd
           have HRD:=lh hrd
           by_cases hlt2:q2<n
           · obtain⟨x,hx⟩:=A6 (xs:=es) (k:=q2) (by rw[HN.out];exact hlt2)
             have hp:M2.n<x.p:=hhd x (es.drop (q2+1)) (FX hx)
             obtain⟨hxx,b,off,rfl,hbl,_,_,hcell⟩:=HES.out.at (by omega)
             have hblr:=Nat.lt_of_lt_of_le hbl L.bel.size
             have HX0:=lh ((L.bel.cell (p:=⟨b,off+q2*4,none⟩) hbl).trans (show _=some (Value.int .u64 (x.p:Int)) by simpa using hcell q2 x hx 0 _ rfl))
             have l1:decide (q2<n)=true:=decide_eq_true hlt2
             have l1i:decide ((q2:Int)<(n:Int))=true:=decide_eq_true (by omega)
             have l2:(x.p == M2.n)=false:=by rw[beq_eq_false_iff_ne];omega
             have l2i:((x.p:Int) == (M2.n:Int))=false:=by rw[beq_eq_false_iff_ne];omega
             clear hhd hrd hv hr hx hxx hcell hp
             (try simp only[Act.put,List.setIfInBounds_toArray,List.set_cons_zero,List.set_cons_succ])
             refine wp_region_quiet_below (by kernel_rfl) (by kernel_rfl) ?_
             repeat (first|(go_big_quiet_want;(first|fail|(refine AK (ty:=41) L (fun _ h=>Aa h) 1 rfl rfl rfl Tryz.underlying41 rfl rfl ?_)|(refine BN (ty:=41) (u:=(.int .u64 x.p)) (fun w' h=>((Aa h).cell (p:=⟨b,_,none⟩) hblr).trans HX0.out) rfl rfl Tryz.underlying41 rfl ?_));go_big_quiet_on;(try simp only[Act.put,List.setIfInBounds_toArray,List.set_cons_zero,List.set_cons_succ]))|go_big_quiet_step (first|fail|fail))
             refine wpQuiet_nil ?_
             intro wz hwz
             replace L:=L.below (Aa hwz)
             replace hom:=hom.below (Aa hwz)
             replace hout:=hout.below (Aa hwz)
             clear hwz
             go_wp2_with fail
             go_meet
             exact⟨congrArg Value.bool HRD.out.symm,L,hom,hout⟩
           · have l1:decide (q2<n)=false:=decide_eq_false hlt2
             have l1i:decide ((q2:Int)<(n:Int))=false:=decide_eq_false (by omega)
             clear hhd hrd hv hr hlt2
             (try simp only[Act.put,List.setIfInBounds_toArray,List.set_cons_zero,List.set_cons_succ])
             refine wp_region_quiet_below (by kernel_rfl) (by kernel_rfl) ?_
             repeat (first|(go_big_quiet_want;(first|fail|(refine AK (ty:=41) L (fun _ h=>Aa h) 1 rfl rfl rfl Tryz.underlying41 rfl rfl ?_));go_big_quiet_on;(try simp only[Act.put,List.setIfInBounds_toArray,List.set_cons_zero,List.set_cons_succ]))|go_big_quiet_step (first|fail|fail))
             refine wpQuiet_nil ?_
             intro wz hwz
             replace L:=L.below (Aa hwz)
             replace hom:=hom.below (Aa hwz)
             replace hout:=hout.below (Aa hwz)
             clear hwz
             go_wp2_with fail
             go_meet
             exact⟨congrArg Value.bool HRD.out.symm,L,hom,hout⟩
        case rest =>
         obtain⟨rfl,L,hom,hout⟩:=hcut
         have HRK:=lh (fun w h=>reads_any (v:=v2) (w:=w) HM2.out h)
         cases hrd:rdB M2 with
         | true =>
           obtain⟨x,hl,hp,hv⟩:∃ x,es.drop q2=x :: rr∧x.p=M2.n∧u=x.e.n:=by
            cases HTOOK.out.1 with
            | clock x hl hp hk _ hv=>exact⟨x,hl,hp,hv⟩
            | none h _ _ _=>rw[show sysM.rd M2=rdB M2 from rfl,hrd] at h;cases h
           have hx:es[q2]?=some x:=by
            have h0:(es.drop q2)[0]?=some x:=by rw[hl];rfl
            rw[List.getElem?_drop,Nat.add_zero] at h0
            exact h0
           have hlt2:q2<n:=by rw[←HN.out];exact AJ hx
           have hrr:rr=es.drop (q2+1):=by
            have h:=hl.symm.trans (FX hx)
            injection h
           have hxv:=HVAL.out x (List.mem_of_getElem? hx)
           subst hrr
           subst hv
           obtain⟨hxx,b,off,rfl,hbl,_,_,hcell⟩:=HES.out.at (by omega)
           have HXN:=lh (fun (w':World) (hb:Below w.heap.size w w')=>(hb.cell (p:=⟨b,off+q2*4+2,none⟩) hbl).trans (show _=some (Value.int .u32 x.e.n) by simpa using hcell q2 x hx 2 _ rfl))
           rw[hrd] at HRK
           have HAV:=lh (fun (w':World) h=>step_any (M:=M2) (v:=v2) (w:=w') (clk:=x.e.n) HM2.out h hxv.1 hxv.2)
           have HSO:=lh (Et HM2.out (clk:=x.e.n) ⟨hxv.1,hxv.2⟩)
           have HSN:Hid ((AZ M2 (x.e.n)).1.n=M1.n+1):=lh (by rw[GO _ HST2.out,HN2.out])
           have HSU:=lh (Fn M2 (x.e.n))
           have HSC:=lh HSCR.out
           rw[show sysM.step (M2,es.drop q2).1 (x.e.n)=AZ M2 (x.e.n) from GM M2 hxv.1 hxv.2] at HSC
           clear hl hp hx hxx hcell hrd
           generalize AZ M2 x.e.n=S at HAV HSO HSN HSU HSC
           go_wp2_with (first|(refine AQ (ty:=43) L 1 rfl (mcL M2 v2) rfl rfl rfl Tryz.underlying43 rfl Aw rfl ?_)|(go_at_call 83;(with_reducible refine (HRK.out _ hom.row).mono ?_);rintro e wz ⟨rfl,hbz⟩;replace L:=L.below hbz;replace hom:=hom.below hbz;replace hout:=hout.below hbz;clear hbz)|(refine Ad rfl (Au (ty:=25) (u:=.int .u32 x.e.n) rfl rfl Tryz.underlying25 rfl (HXN.out _ L.bel)) ?_)|(go_at_call 16;(with_reducible refine (HAV.out _ hom.row).mono ?_);rintro ee wz ⟨v3,vo,rfl,hom3,hoo3,hbz⟩;have homn:=OwnMem.lower (base':=w.heap.size) hom3 L.bel.size;have hoon:=Ay (base':=w.heap.size) hoo3 L.bel.size;replace L:=L.below hbz;replace hout:=hout.below hbz;have hv3:=homn.row.cell1;clear hbz hom hom3 hoo3)|(refine Ag (ty:=43) L 1 rfl (mcL S.1 v3) (mcL S.1 v3) rfl rfl rfl rfl Aw (Bp _ hv3) rfl rfl ?_;intro wy Ly Ny;have homs:=homn.mach (L.at (k:=1) rfl) Ny;have hoos:=Ai hoon (L.at (k:=1) rfl) (by decide) Ny;have ho1:=Ai hout (L.at (k:=1) rfl) (by decide) Ny;clear Ny hout homn hoon;replace L:=Ly;clear Ly;simp only[List.set_cons_zero,List.set_cons_succ] at L)|(at_builtin;refine DU rfl (.tmp 116) (.tmp 117) 59 rfl w.heap.size w.heap.size 103 i0 (.agg (ouL ou0).toArray) 4 40 Tryz.underlying59 hi iz0 iz1 iz2 rfl (by decide) _ o1.length (o1.flatMap ouL) rfl ho1 _ S.2.length (S.2.flatMap ouL) rfl hoos (outs_one' _) (by have:=HSU.out;unfold maxLen;omega) (by have:=HSU.out;omega) L.bel.size ?_;intro vn w3 hown3 hgrow3))
           have homf:OwnMem w.heap.size w3 v3 S.1.m:=⟨Cl homs.1 ho1 (by decide) hgrow3,homs.2⟩
           have L3:=L.grown ho1 (nlr _) hgrow3 (fun x hx=>Ce ho1 (L.has x hx).1 (by
            simp only[List.mem_cons,List.not_mem_nil,or_false] at hx
            rcases hx with rfl|rfl <;> (dsimp only;decide)))
           have hm1:=Jc L3 (j:=1) rfl
           have hm2:=HCNT.out
           have hm3:=HSN.out
           have hlt:=HLT.out
           go_roundw
           case rel=>exact⟨q2+1,k2,S.1,o1++S.2,v3,rfl,by go_num,hlt2,HSO.out,by rw[HSN.out];omega,by rw[HSN.out];omega,by rw[List.length_append,HSN.out];have:=HSU.out;omega,by rw[HSN.out,←HN2.out];exact HTOOK.out.2,HSC.out,L3,homf,by unfold OutRow;rw[List.flatMap_append,List.length_append];exact hown3⟩
           case measure=>rw[hm1,hm2];omega
         | false =>
           have hv:u=0∧rr=es.drop q2:=by
            cases HTOOK.out.1 with
            | clock _ _ _ _ h _=>rw[show sysM.rd M2=rdB M2 from rfl,hrd] at h;cases h
            | none _ h1 h2 _=>exact⟨h1,h2⟩
           obtain⟨rfl,rfl⟩:=hv
           rw[hrd] at HRK
           have HAV:=lh (fun (w':World) h=>step_any (M:=M2) (v:=v2) (w:=w') (clk:=0) HM2.out h (Int.le_refl 0) (by decide))
           have HSO:=lh (Et HM2.out (clk:=0) ⟨(Int.le_refl 0),(by decide)⟩)
           have HSN:Hid ((AZ M2 (0)).1.n=M1.n+1):=lh (by rw[GO _ HST2.out,HN2.out])
           have HSU:=lh (Fn M2 (0))
           have HSC:=lh HSCR.out
           rw[show sysM.step (M2,es.drop q2).1 (0)=AZ M2 (0) from GM M2 (Int.le_refl 0) (by decide)] at HSC
           clear hrd
           generalize AZ M2 0=S at HAV HSO HSN HSU HSC
           go_wp2_with (first|(refine AQ (ty:=43) L 1 rfl (mcL M2 v2) rfl rfl rfl Tryz.underlying43 rfl Aw rfl ?_)|(go_at_call 83;(with_reducible refine (HRK.out _ hom.row).mono ?_);rintro e wz ⟨rfl,hbz⟩;replace L:=L.below hbz;replace hom:=hom.below hbz;replace hout:=hout.below hbz;clear hbz)|(go_at_call 16;(with_reducible refine (HAV.out _ hom.row).mono ?_);rintro ee wz ⟨v3,vo,rfl,hom3,hoo3,hbz⟩;have homn:=OwnMem.lower (base':=w.heap.size) hom3 L.bel.size;have hoon:=Ay (base':=w.heap.size) hoo3 L.bel.size;replace L:=L.below hbz;replace hout:=hout.below hbz;have hv3:=homn.row.cell1;clear hbz hom hom3 hoo3)|(refine Ag (ty:=43) L 1 rfl (mcL S.1 v3) (mcL S.1 v3) rfl rfl rfl rfl Aw (Bp _ hv3) rfl rfl ?_;intro wy Ly Ny;have homs:=homn.mach (L.at (k:=1) rfl) Ny;have hoos:=Ai hoon (L.at (k:=1) rfl) (by decide) Ny;have ho1:=Ai hout (L.at (k:=1) rfl) (by decide) Ny;clear Ny hout homn hoon;replace L:=Ly;clear Ly;simp only[List.set_cons_zero,List.set_cons_succ] at L)|(at_builtin;refine DU rfl (.tmp 116) (.tmp 117) 59 rfl w.heap.size w.heap.size 103 i0 (.agg (ouL ou0).toArray) 4 40 Tryz.underlying59 hi iz0 iz1 iz2 rfl (by decide) _ o1.length (o1.flatMap ouL) rfl ho1 _ S.2.length (S.2.flatMap ouL) rfl hoos (outs_one' _) (by have:=HSU.out;unfold maxLen;omega) (by have:=HSU.out;omega) L.bel.size ?_;intro vn w3 hown3 hgrow3))
           have homf:OwnMem w.heap.size w3 v3 S.1.m:=⟨Cl homs.1 ho1 (by decide) hgrow3,homs.2⟩
           have L3:=L.grown ho1 (nlr _) hgrow3 (fun x hx=>Ce ho1 (L.has x hx).1 (by
            simp only[List.mem_cons,List.not_mem_nil,or_false] at hx
            rcases hx with rfl|rfl <;> (dsimp only;decide)))
           have hm1:=Jc L3 (j:=1) rfl
           have hm2:=HCNT.out
           have hm3:=HSN.out
           have hlt:=HLT.out
           go_roundw
           case rel=>exact⟨q2,k2,S.1,o1++S.2,v3,rfl,by go_num,hq2,HSO.out,by rw[HSN.out];omega,by rw[HSN.out];omega,by rw[List.length_append,HSN.out];have:=HSU.out;omega,by rw[HSN.out,←HN2.out];exact HTOOK.out.2,HSC.out,L3,homf,by unfold OutRow;rw[List.flatMap_append,List.length_append];exact hown3⟩
           case measure=>rw[hm1,hm2];omega
  · obtain rfl:M1.n=tgt:=by omega
    have hend:=Sys.scrT_end _ hscr rfl
    injection hend with e1 e2
    injection e2 with e2 e3
    have hql:(es.drop q).length=n - q:=by rw[List.length_drop,HN.out]
    have HE1:=lh e1
    have HE2:=lh e2
    have HE3:=lh e3
    have HOUT:=lh hout
    have HOM:=lh hom
    have HQL:=lh hql
    have hv1:=hom.row.cell1
    clear e1 e2 e3 hscr hsq hout hM1 hlt hom hql
    go_wp2_with (first|(refine A7 (ty:=41) L 1 rfl rfl rfl rfl Tryz.underlying41 rfl rfl ?_)|(refine AQ (ty:=43) L 1 rfl (mcL M1 v1) rfl rfl rfl Tryz.underlying43 rfl Aw rfl ?_)|(refine Ag (ty:=43) L 0 rfl (mcL M1 v1) (mcL M1 v1) rfl rfl rfl rfl Aw (Bp _ hv1) rfl rfl ?_;intro wz Lz Nz;have ho2:=Ai HOUT.out (L.at (k:=0) rfl) (by decide) Nz;have hom2:=HOM.out.mach (L.at (k:=0) rfl) Nz;clear Nz;replace L:=Lz;clear Lz;simp only[List.set_cons_zero] at L))
    try rw[Exit.noGoto_ret]
    try go_simp
    have hl1:=AU L 0 rfl (mcL M1 v1) rfl Tryz.underlying43 rfl Aw
    have hqq:((n - rest.length:Nat):Int)=(q:Int):=by have:=HQL.out;rw[HE2.out];omega
    rw[←HE3.out] at ho2
    rw[←HE1.out] at hom2 hl1
    exact bodyPost_ret (v:=.tuple #[.agg (mcL M' v1).toArray,_,.int .i64 ((n - rest.length:Nat):Int),.int .i64 0]) (by rw[hqq];simp [results,Tryz.results36,asAddr,hl1] <;> rfl) rfl ⟨v1,_,rfl,hom2,ho2,L.bel⟩
end
end Go.Proofs.YtnmpfmapncicmaaGreat
