/-
  Texts joined: PlRefValid PlRefRead. No law is proved here.
-/
import Derived.Test.YtbnngjhnkegliaaGreatB8
namespace Go.Proofs.YtbnngjhnkegliaaGreat
open Go.RowKit
set_option maxRecDepth 100000 in
set_option maxHeartbeats 8000000 in
theorem rvalid_any (vf vr vm:Value) (F:List ByteArray) (R:List Int) (M:List (List Int)) (w:World) (ha:StrRow w vf F) (hb:NumRow w vr R) (hc:MapRow w vm M) (hR:∀ x∈R,-9223372036854775808≤x∧x≤9223372036854775807) (hM:∀ l∈M,∀ x∈l,-9223372036854775808≤x∧x≤9223372036854775807):Calls Tryz.prog 68 #[.agg #[vf,vr,vm]] w (Ret w (.bool (poolB F R M))):=by
 obtain⟨ao,ca,rfl,a1,a2,a3⟩:=ha.out
 obtain⟨bo,cb,rfl,b1,b2,b3⟩:=hb.out
 obtain⟨us,hu1,hu2,hu3⟩:=hc
 obtain⟨co,cc,rfl,c1,c2,c3⟩:=hu1
 unfold maxLen at a2 b2 c2
 clear ha hb
 obtain⟨n,hn⟩:∃ n,F.length=n:=⟨_,rfl⟩
 obtain⟨r,hr⟩:∃ n,R.length=n:=⟨_,rfl⟩
 obtain⟨m,hm⟩:∃ n,M.length=n:=⟨_,rfl⟩
 have HN:=lh hn
 have HR:=lh hr
 have HM:=lh hm
 rw[hn] at a1 a3
 rw[hr] at b1 b3
 rw[hm] at c1 hu2
 have HU2:=lh hu2;clear hu2
 have HU3:=lh hu3;clear hu3
 unfold poolB poolHead
 rw[hn,hr,hm]
 clear hn hr hm
 by_cases h1:1≤n∧n≤96∧r=n∧m≤8
 rotate_left
 · rw[decide_eq_false h1,Bool.false_and]
   by_cases g1:n<1
   · clear h1
     go_enter Tryz.func68,Tryz.ntmps68
     go_wp2_with fail
     go_ret
     exact Ret.mk bel
   by_cases g2:96<n
   · clear h1
     go_enter Tryz.func68,Tryz.ntmps68
     go_wp2_with fail
     go_ret
     exact Ret.mk bel
   by_cases g3:r=n
   · have g4:8<m:=by omega
     clear h1
     subst g3
     go_enter Tryz.func68,Tryz.ntmps68
     go_wp2_with fail
     go_ret
     exact Ret.mk bel
   · have e1:((r:Int) != n)=true:=by rw[bne_iff_ne];omega
     have e2:(r != n)=true:=by rw[bne_iff_ne];omega
     clear h1
     go_enter Tryz.func68,Tryz.ntmps68
     go_wp2_with fail
     go_ret
     exact Ret.mk bel
 rw[decide_eq_true h1,Bool.true_and]
 obtain⟨h1,h2,hrn,h4⟩:=h1
 subst hrn
 have hmk:=makes_num r (by omega)
 have HPR:=lh hR;clear hR
 have HPM:=lh hM;clear hM
 go_enter Tryz.func68,Tryz.ntmps68
 go_wp2_with fail
 have D0:=(HasBlock.made w #[.slice ao r ca,.slice bo r cb,.slice co m cc] 26).alloc (.cells ((cntRow r []).map (Value.int .i64)).toArray 3)
 have D9:=HasBlock.made (w.alloc (.cells #[.slice ao r ca,.slice bo r cb,.slice co m cc] 26)) ((cntRow r []).map (Value.int .i64)).toArray 3
 simp only[sizes] at D9
 have o0:=lh (own_num D9 (cntRow_len _ _) (by omega) (nlr _))
 have hbw0:Below w.heap.size w ((w.alloc (.cells #[.slice ao r ca,.slice bo r cb,.slice co m cc] 26)).alloc (.cells ((cntRow r []).map (Value.int .i64)).toArray 3)):=bel
 clear D9 hmk
 go_loopw [5] (fun iv wr=>∃ i:Nat,i≤m∧iv=.int .i64 i∧Hid (mapUp r M i=true)∧HasBlock wr w.heap.size #[.slice ao r ca,.slice bo r cb,.slice co m cc] 26∧OwnNum (w.heap.size+1) wr (.slice (some ⟨w.heap.size+1,0,none⟩) r r) (cntRow r (M.take i).flatten)∧Below w.heap.size w wr) (fun iv _=>m - (intOf iv).toNat)
 case atStart=>exact⟨0,Nat.zero_le _,rfl,rfl,D0,o0.out,hbw0⟩
 case round =>
  obtain⟨i,hi,rfl,hU,D,hown,hbw⟩:=hrel
  clear D0 o0 hbw0
  have hz0:=hbw.size
  have HO:=lh hown;clear hown
  have x0:=(D.cell 0).trans rfl
  have x1:=(D.cell 1).trans rfl
  have x2:=(D.cell 2).trans rfl
  have xf:=D.free
  have xz:=D.lt
  by_cases hlt:i<m
  · obtain⟨l,hl⟩:=get_lt (xs:=M) (k:=i) (by rw[HM.out];exact hlt)
    obtain⟨u,hu⟩:=get_lt (xs:=us) (k:=i) (by rw[HU2.out];exact hlt)
    have hrow:=HU3.out i u l hu hl
    obtain⟨uo,uc,rfl,d1,d2,d3⟩:=hrow.out
    unfold maxLen at d2
    have hlb:=HPM.out l (List.mem_of_getElem? hl)
    obtain⟨q,hq⟩:∃ q,l.length=q:=⟨_,rfl⟩
    rw[hq] at d1 d3 hu
    have HQ:=lh hq;clear hq
    obtain⟨mb,moff,rfl,hmb,hmc⟩:=c3.resolve_left (by intro e;rw[e] at hu;simp at hu)
    have cm:=(hbw.cell (p:=⟨mb,moff+i,none⟩) hmb).trans (hmc i _ hu)
    have HCM:=lh (hmc i _ hu)
    have HLB:=lh hlb;clear hlb
    have HL:=lh hl;clear hl hu hmc c3 hrow
    by_cases g1:1≤q∧q≤32
    rotate_left
    · have hf:mapOk r M=false:=mapOk_false HL.out (rowOk_len (by rw[HQ.out];exact g1))
      have HF:=lh hf;clear hf
      by_cases g2:q<1
      · clear g1
        go_wp2_with fail
        go_ret
        exact Ret.mk' (by rw[HF.out];rfl) bel
      · have g3:32<q:=by omega
        clear g1
        go_wp2_with fail
        go_ret
        exact Ret.mk' (by rw[HF.out];rfl) bel
    obtain⟨g1,g2⟩:=g1
    have hflat:=flat_len (n:=r) i (by rw[HM.out];exact hi) hU.out
    go_wp2_with fail
    obtain⟨wo,rfl⟩:∃ wo:World,wo=wr:=⟨_,rfl⟩
    go_loopw [6] (fun kv wi=>∃ k:Nat,k≤q∧kv=.int .i64 k∧Hid ((l.take k).all (pageOk r)=true)∧HasBlock wi w.heap.size #[.slice ao r ca,.slice bo r cb,.slice (some ⟨mb,moff,none⟩) m cc] 26∧OwnNum (w.heap.size+1) wi (.slice (some ⟨w.heap.size+1,0,none⟩) r r) (cntRow r ((M.take i).flatten++l.take k))∧Below w.heap.size w wi) (fun kv _=>q - (intOf kv).toNat)
    case atStart=>exact⟨0,Nat.zero_le _,rfl,rfl,D,by simpa using HO.out,hbw⟩
    case round =>
     obtain⟨k,hk,rfl,hA,E,hown,hbi⟩:=hrel
     clear D HO hbw cm x0 x1 x2 xf xz
     have cm:=(hbi.cell (p:=⟨mb,moff+i,none⟩) hmb).trans HCM.out
     have hz1:=hbi.size
     have HO:=lh hown;clear hown
     have x0:=(E.cell 0).trans rfl
     have x1:=(E.cell 1).trans rfl
     have x2:=(E.cell 2).trans rfl
     have xf:=E.free
     have xz:=E.lt
     by_cases hkq:k<q
     · obtain⟨f,hf⟩:=get_lt (xs:=l) (k:=k) (by rw[HQ.out];exact hkq)
       have hfb:=HLB.out f (List.mem_of_getElem? hf)
       obtain⟨lb,loff,rfl,hlbs,hlc⟩:=d3.resolve_left (by omega)
       have cf:=(hbi.cell (p:=⟨lb,loff+k,none⟩) (show lb<w.heap.size by omega)).trans (hlc k f hf)
       have HFK:=lh hf;clear hf hlc d3
       by_cases hf1:f = -1
       · subst hf1
         have hup:=rowUp_succ (n:=r) HFK.out hA.out (by unfold pageOk;exact decide_eq_true (by omega))
         have HUP:=lh hup;clear hup
         go_wp2_with fail
         go_roundw
         case rel =>
          refine ⟨k+1,by omega,by go_num,HUP.out,E,?_,hbi⟩
          have h:=HO.out
          rw[take_succ' HFK.out,←List.append_assoc,cntRow_neg]
          exact h
         case measure=>simp [intOf];omega
       have e1:(f == -1)=false:=by rw[beq_eq_false_iff_ne];exact hf1
       by_cases hf0:f<0
       · have hno:mapOk r M=false:=mapOk_false HL.out (rowOk_at HFK.out (by unfold pageOk;exact decide_eq_false (by omega)))
         have hf3:f < -1:=by omega
         have HF:=lh hno;clear hno hf1
         go_wp2_with fail
         go_ret
         exact Ret.mk' (by rw[HF.out];rfl) bel
       by_cases hfr:(r:Int)≤f
       · have hno:mapOk r M=false:=mapOk_false HL.out (rowOk_at HFK.out (by unfold pageOk;exact decide_eq_false (by omega)))
         have HF:=lh hno;clear hno hf1
         go_wp2_with fail
         go_ret
         exact Ret.mk' (by rw[HF.out];rfl) bel
       obtain⟨j,rfl⟩:∃ j:Nat,f=j:=⟨f.toNat,by omega⟩
       have hjr:j<r:=by omega
       have hup:=rowUp_succ (n:=r) HFK.out hA.out (by unfold pageOk;exact decide_eq_true (by omega))
       have HUP:=lh hup;clear hup hf1
       have hcnt:=count_le_len ((M.take i).flatten++l.take k) (j:Int)
       rw[List.length_append,List.length_take] at hcnt
       have hinc:=cntRow_inc ((M.take i).flatten++l.take k) hjr
       obtain⟨t1,t2⟩:=HO.out.at (cntRow_at ((M.take i).flatten++l.take k) hjr)
       obtain⟨ct,hct⟩:∃ c,((M.take i).flatten++l.take k).count (j:Int)=c:=⟨_,rfl⟩
       rw[hct] at hcnt hinc t1
       have hcb:ct≤1000:=by omega
       have HINC:=lh hinc;clear hinc hct hcnt
       have hgw:=(World.ownsRow.lt HO.out.raw (w.heap.size+1) rfl).2
       go_wp2_with fail
       go_roundw
       case rel =>
        refine ⟨k+1,by omega,by go_num,HUP.out,E.set_ne (by omega) _,?_,bel⟩
        rw[take_succ' HFK.out,←List.append_assoc,HINC.out]
        exact HO.out.put j _
       case measure=>simp [intOf];omega
     · obtain rfl:k=q:=by omega
       have hrow:=rowUp_all (n:=r) (l:=l) (by rw[HQ.out];exact⟨g1,g2⟩) (by rw[HQ.out];exact hA.out)
       have hup:=mapUp_succ HL.out hU.out hrow
       have hfl:=flat_succ HL.out
       have HUP:=lh hup;clear hup hrow
       have HFL:=lh hfl;clear hfl
       go_wp2_with fail
       go_roundw
       case rel =>
        refine ⟨i+1,by omega,by go_num,HUP.out,E,?_,hbi⟩
        rw[HFL.out]
        have h:=HO.out
        rw[List.take_of_length_le (l:=l) (by rw[HQ.out];exact nlr _)] at h
        exact h
       case measure=>simp [intOf];omega
  · obtain rfl:i=m:=by omega
    have hall:M.take i=M:=by rw[←HM.out];exact List.take_length
    have hmap:mapOk r M=true:=by have h:=hU.out;unfold mapUp at h;rwa[hall] at h
    have HO':=HO.out
    rw[hall] at HO'
    obtain⟨P,hP⟩:∃ P,M.flatten=P:=⟨_,rfl⟩
    rw[hP] at HO'
    have HMAP:=lh hmap
    have HPF:=lh hP
    have HOP:=lh HO';clear HO' HO hall hmap hP hU HM HU2 HU3 HPM
    obtain⟨fb,foff,rfl,hfb,hfc⟩:=a3.resolve_left (by omega)
    obtain⟨rb,roff,rfl,hrb,hrc⟩:=b3.resolve_left (by omega)
    have HFC:=lh hfc;clear hfc a3
    have HRC:=lh hrc;clear hrc b3
    go_wp2_with fail
    obtain⟨wo,rfl⟩:∃ wo:World,wo=wr:=⟨_,rfl⟩
    go_loopw [8] (fun kv wi=>∃ k:Nat,k≤r∧kv=.int .i64 k∧Hid (framesOk F R P k=true)∧HasBlock wi w.heap.size #[.slice (some ⟨fb,foff,none⟩) r ca,.slice (some ⟨rb,roff,none⟩) r cb,.slice co i cc] 26∧OwnNum (w.heap.size+1) wi (.slice (some ⟨w.heap.size+1,0,none⟩) r r) (cntRow r P)∧Below w.heap.size w wi) (fun kv _=>r - (intOf kv).toNat)
    case atStart=>exact⟨0,Nat.zero_le _,rfl,rfl,D,HOP.out,hbw⟩
    case round =>
     obtain⟨k,hk,rfl,hA,E,hown,hbi⟩:=hrel
     clear D HOP hbw x0 x1 x2 xf xz
     have hz1:=hbi.size
     have HO:=lh hown;clear hown
     have x0:=(E.cell 0).trans rfl
     have x1:=(E.cell 1).trans rfl
     have x2:=(E.cell 2).trans rfl
     have xf:=E.free
     have xz:=E.lt
     by_cases hkr:k<r
     · obtain⟨s,hs⟩:=get_lt (xs:=F) (k:=k) (by rw[HN.out];exact hkr)
       obtain⟨x,hx⟩:=get_lt (xs:=R) (k:=k) (by rw[HR.out];exact hkr)
       have hxb:=HPR.out x (List.mem_of_getElem? hx)
       have q1:=(hbi.cell (p:=⟨fb,foff+k,none⟩) hfb).trans (HFC.out k s hs)
       have q2:=(hbi.cell (p:=⟨rb,roff+k,none⟩) hrb).trans (HRC.out k x hx)
       obtain⟨t1,_⟩:=HO.out.at (cntRow_at P hkr)
       have hgw:=(World.ownsRow.lt HO.out.raw (w.heap.size+1) rfl).2
       have hfb2:fb<wr.heap.size:=by omega
       have hrb2:rb<wr.heap.size:=by omega
       have hfr:frameOk F R P k=(decide (x=((P.count (k:Int):Nat):Int)) && (decide (P.count (k:Int)=0) == decide (s.size=0)) && (decide (s.size=0) || (decide (s.size=128) && !zeroB s))):=by unfold frameOk;rw[hs,hx]
       obtain⟨ct,hct⟩:∃ c,P.count (k:Int)=c:=⟨_,rfl⟩
       rw[hct] at t1 hfr
       have HFR:=lh hfr;clear hfr hct hs hx
       by_cases hxc:x=(ct:Int)
       rotate_left
       · have e1:(x != (ct:Int))=true:=by rw[bne_iff_ne];exact hxc
         have e4:((ct:Int) != x)=true:=by rw[bne_iff_ne];exact fun e=>hxc e.symm
         have hno:frameOk F R P k=false:=by (rw[HFR.out,decide_eq_false hxc,Bool.false_and,Bool.false_and])
         have HF:=lh (framesOk_false hno hkr);clear hno
         go_wp2_with fail
         refine wp_region_quiet_below (by kernel_rfl) (by kernel_rfl) ?_
         repeat (go_big_quiet_step (first|fail|fail))
         refine wpQuiet_nil ?_
         intro w3 hw3
         have hb3:=below_of_regrown hw3
         clear hw3
         obtain⟨hc3,hf3⟩:=bcell hb3
         have hz3:=bsize hb3
         try simp only[sizes1] at hz3
         try simp only[sizes] at hc3 hf3
         go_wp2_with fail
         go_ret
         exact Ret.mk' (by rw[HMAP.out,HPF.out,HF.out];rfl) bel
       subst hxc
       have hii:=isEmpty_iff s
       by_cases h0:ct=0
       · have e2:((ct:Int) == 0)=true:=by rw[beq_iff_eq];omega
         have e3:(ct == 0)=true:=by rw[beq_iff_eq];exact h0
         by_cases hs0:s.size=0
         · rw[decide_eq_true hs0] at hii
           have hyes:framesOk F R P (k+1)=true:=by rw[framesOk,hA.out,HFR.out,decide_eq_true h0,decide_eq_true hs0];simp
           have HY:=lh hyes;clear hyes h0 hs0
           go_wp2_with fail
           refine wp_region_quiet_below (by kernel_rfl) (by kernel_rfl) ?_
           repeat (go_big_quiet_step (first|fail|fail))
           refine wpQuiet_nil ?_
           intro w3 hw3
           have hb3:=below_of_regrown hw3
           clear hw3
           obtain⟨hc3,hf3⟩:=bcell hb3
           have hz3:=bsize hb3
           try simp only[sizes1] at hz3
           try simp only[sizes] at hc3 hf3
           have E3:=E.below hb3
           have P3:=HO.out.below hb3
           have hbw3:Below w.heap.size w w3:=hbi.trans (hb3.mono hbi.size)
           clear x0 x1 x2 xf xz
           clear hc3 hf3 hb3 E HO hbi q1 q2 t1
           have x0:=(E3.cell 0).trans rfl
           have x1:=(E3.cell 1).trans rfl
           have x2:=(E3.cell 2).trans rfl
           have xf:=E3.free
           have xz:=E3.lt
           go_wp2_with fail
           go_roundw
           case rel=>exact⟨k+1,by omega,by go_num,HY.out,E3,P3,hbw3⟩
           case measure=>simp [intOf];omega
         · rw[decide_eq_false hs0] at hii
           have hno2:frameOk F R P k=false:=by rw[HFR.out,decide_eq_true h0,decide_eq_false hs0];simp
           have HN2:=lh hno2;clear hno2 h0 hs0
           have hno:frameOk F R P k=false:=by exact HN2.out
           have HF:=lh (framesOk_false hno hkr);clear hno
           go_wp2_with fail
           refine wp_region_quiet_below (by kernel_rfl) (by kernel_rfl) ?_
           repeat (go_big_quiet_step (first|fail|fail))
           refine wpQuiet_nil ?_
           intro w3 hw3
           have hb3:=below_of_regrown hw3
           clear hw3
           obtain⟨hc3,hf3⟩:=bcell hb3
           have hz3:=bsize hb3
           try simp only[sizes1] at hz3
           try simp only[sizes] at hc3 hf3
           go_wp2_with fail
           go_ret
           exact Ret.mk' (by rw[HMAP.out,HPF.out,HF.out];rfl) bel
       · have e2:((ct:Int) == 0)=false:=by rw[beq_eq_false_iff_ne];omega
         have e3:(ct == 0)=false:=by rw[beq_eq_false_iff_ne];exact h0
         by_cases hs0:s.size=0
         · rw[decide_eq_true hs0] at hii
           have hno2:frameOk F R P k=false:=by rw[HFR.out,decide_eq_false h0,decide_eq_true hs0];simp
           have HN2:=lh hno2;clear hno2 h0 hs0
           have hno:frameOk F R P k=false:=by exact HN2.out
           have HF:=lh (framesOk_false hno hkr);clear hno
           go_wp2_with fail
           refine wp_region_quiet_below (by kernel_rfl) (by kernel_rfl) ?_
           repeat (go_big_quiet_step (first|fail|fail))
           refine wpQuiet_nil ?_
           intro w3 hw3
           have hb3:=below_of_regrown hw3
           clear hw3
           obtain⟨hc3,hf3⟩:=bcell hb3
           have hz3:=bsize hb3
           try simp only[sizes1] at hz3
           try simp only[sizes] at hc3 hf3
           go_wp2_with fail
           go_ret
           exact Ret.mk' (by rw[HMAP.out,HPF.out,HF.out];rfl) bel
         · rw[decide_eq_false hs0] at hii
           by_cases q128:s.size=128
           rotate_left
           · have hno2:frameOk F R P k=false:=by rw[HFR.out,decide_eq_false hs0,decide_eq_false q128];simp
             have HN2:=lh hno2;clear hno2 h0 hs0
             have se1:((s.size:Int) != 128)=true:=by rw[bne_iff_ne];omega
             have se2:(s.size != 128)=true:=by rw[bne_iff_ne];omega
             clear q128
             have hno:frameOk F R P k=false:=by exact HN2.out
             have HF:=lh (framesOk_false hno hkr);clear hno
             go_wp2_with fail
             refine wp_region_quiet_below (by kernel_rfl) (by kernel_rfl) ?_
             repeat (go_big_quiet_step (first|fail|fail))
             refine wpQuiet_nil ?_
             intro w3 hw3
             have hb3:=below_of_regrown hw3
             clear hw3
             obtain⟨hc3,hf3⟩:=bcell hb3
             have hz3:=bsize hb3
             try simp only[sizes1] at hz3
             try simp only[sizes] at hc3 hf3
             go_wp2_with fail
             go_ret
             exact Ret.mk' (by rw[HMAP.out,HPF.out,HF.out];rfl) bel
           have Z:=fun w=>zero_any s w (by omega)
           cases hzb:zeroB s
           · have hyes:framesOk F R P (k+1)=true:=by rw[framesOk,hA.out,HFR.out,decide_eq_false h0,decide_eq_false hs0,decide_eq_true q128,hzb];simp
             rw[hzb] at Z
             have HZ:=lh Z
             have HY:=lh hyes
             have se1:((s.size:Int) != 128)=false:=by rw[bne_eq_false_iff_eq];omega
             have se2:(s.size != 128)=false:=by rw[bne_eq_false_iff_eq];omega
             clear Z hyes h0 hs0 hzb q128
             go_wp2_with fail
             refine wp_region_quiet_below (by kernel_rfl) (by kernel_rfl) ?_
             repeat (go_big_quiet_step (first|fail|(go_at_call 61;exact quiet_ret (HZ.out _))))
             refine wpQuiet_nil ?_
             intro w3 hw3
             have hb3:=below_of_regrown hw3
             clear hw3
             obtain⟨hc3,hf3⟩:=bcell hb3
             have hz3:=bsize hb3
             try simp only[sizes1] at hz3
             try simp only[sizes] at hc3 hf3
             have E3:=E.below hb3
             have P3:=HO.out.below hb3
             have hbw3:Below w.heap.size w w3:=hbi.trans (hb3.mono hbi.size)
             clear x0 x1 x2 xf xz
             clear hc3 hf3 hb3 E HO hbi q1 q2 t1
             have x0:=(E3.cell 0).trans rfl
             have x1:=(E3.cell 1).trans rfl
             have x2:=(E3.cell 2).trans rfl
             have xf:=E3.free
             have xz:=E3.lt
             go_wp2_with fail
             go_roundw
             case rel=>exact⟨k+1,by omega,by go_num,HY.out,E3,P3,hbw3⟩
             case measure=>simp [intOf];omega
           · have hno2:frameOk F R P k=false:=by rw[HFR.out,decide_eq_false hs0,hzb];simp
             rw[hzb] at Z
             have HZ:=lh Z
             have HF:=lh (framesOk_false hno2 hkr)
             have se1:((s.size:Int) != 128)=false:=by rw[bne_eq_false_iff_eq];omega
             have se2:(s.size != 128)=false:=by rw[bne_eq_false_iff_eq];omega
             clear Z hno2 h0 hs0 hzb q128
             go_wp2_with fail
             refine wp_region_quiet_below (by kernel_rfl) (by kernel_rfl) ?_
             repeat (go_big_quiet_step (first|fail|(go_at_call 61;exact quiet_ret (HZ.out _))))
             refine wpQuiet_nil ?_
             intro w3 hw3
             have hb3:=below_of_regrown hw3
             clear hw3
             obtain⟨hc3,hf3⟩:=bcell hb3
             have hz3:=bsize hb3
             try simp only[sizes1] at hz3
             try simp only[sizes] at hc3 hf3
             have hbw3:Below w.heap.size w w3:=hbi.trans (hb3.mono hbi.size)
             go_wp2_with fail
             go_ret
             exact Ret.mk' (by rw[HMAP.out,HPF.out,HF.out];rfl) hbw3
     · obtain rfl:k=r:=by omega
       go_wp2_with fail
       go_ret
       exact Ret.mk' (by rw[HMAP.out,HPF.out,hA.out];rfl) bel
theorem rvalid_pl (v:Value) (P:Pl) (w:World) (h:PlRow w v P) (hf:P.fit):Calls Tryz.prog 68 #[v] w (Ret w (.bool P.ok)):=by
 obtain⟨vf,vr,vm,rfl,h1,h2,h3⟩:=h
 exact rvalid_any vf vr vm P.F P.R P.M w h1 h2 h3 hf.1 hf.2
theorem countP_map_eq {α β:Type} {f:α→Bool} {g:β→Bool}:∀ (xs:List α) (ys:List β),xs.length=ys.length→(∀ (i:Nat) x y,xs[i]?=some x→ys[i]?=some y→f x=g y)→xs.countP f=ys.countP g
 | [],[],_,_=>rfl
 | x :: xs,y :: ys,h,hh=>by
   rw[List.countP_cons,List.countP_cons,countP_map_eq xs ys (by simpa using h) (fun i a b ha hb=>hh (i+1) a b ha hb),hh 0 x y rfl rfl]
 | [],_ :: _,h,_=>by simp at h
 | _ :: _,[],h,_=>by simp at h
theorem Pl.Ok.free_eq {P:Pl} (H:P.Ok):P.freeR=P.freeN:=by
 unfold Pl.freeR Pl.freeN
 refine (countP_map_eq P.F P.R (by rw[H.r]) (fun i s x hs hx=>?_)).symm
 obtain⟨s',hs',hx',h1,_⟩:=H.fr i (lt_of_get hs)
 rw[hs] at hs'
 rw[hx] at hx'
 injection hs' with hs'
 injection hx' with hx'
 subst hs' hx'
 unfold emptyB zeroI
 rw[Bool.eq_iff_iff,decide_eq_true_eq,decide_eq_true_eq]
 omega
set_option maxHeartbeats 2000000 in
theorem rfree_any (v:Value) (P:Pl) (w:World) (h:PlRow w v P):Calls Tryz.prog 89 #[v] w (Ret w (.int .i64 P.freeR)):=by
 have hrd:P.freeR=P.R.countP zeroI:=rfl
 have HRD:=lh hrd;clear hrd
 obtain⟨of,or',om,kf,kr,km,rfl,kf1,kf2,kr1,kr2,km1,km2⟩:=h.form
 obtain⟨n,hn⟩:∃ n,P.F.length=n:=⟨_,rfl⟩
 obtain⟨r,hr⟩:∃ n,P.R.length=n:=⟨_,rfl⟩
 obtain⟨m,hm⟩:∃ n,P.M.length=n:=⟨_,rfl⟩
 rw[hn] at h kf1 ⊢
 rw[hr] at h kr1 ⊢
 rw[hm] at h km1 ⊢
 have HN:=lh hn;clear hn
 have HR:=lh hr;clear hr
 have HM:=lh hm;clear hm
 go_enter Tryz.func89,Tryz.ntmps89
 go_wp2_with fail
 have D1:=HasBlock.made w #[.slice of n kf,.slice or' r kr,.slice om m km] 26
 have hbw:Below w.heap.size w (w.alloc (.cells #[.slice of n kf,.slice or' r kr,.slice om m km] 26)):=(Below.refl _ _).alloc (nlr _) _
 have hrow:=h.below hbw
 clear h
 generalize hW:w.alloc (.cells #[.slice of n kf,.slice or' r kr,.slice om m km] 26)=w1 at D1 hbw hrow ⊢
 clear hW
 obtain⟨D1_c,D1_f,D1_z⟩:=D1.all
 go_loop [3,4] (fun c i=>∃ k:Nat,k≤r∧i=.int .i64 k∧c=.int .i64 ((P.R.take k).countP zeroI:Nat)) (fun _ i=>r - (intOf i).toNat)
 case atStart=>exact⟨0,Nat.zero_le _,rfl,rfl⟩
 case round =>
  obtain⟨k,hk,rfl,rfl⟩:=hrel
  have hcl:=countP_le zeroI P.R k
  by_cases hlt:k<r
  · obtain⟨s,hs⟩:=get_lt (xs:=P.R) (k:=k) (by rw[HR.out];exact hlt)
    obtain⟨fb,foff,rfl,hfb,cf⟩:=hrow.parts.2.1.elem hs
    have hsu:=countP_succ (q:=zeroI) hs
    obtain⟨c,hc⟩:∃ c,(P.R.take k).countP zeroI=c:=⟨_,rfl⟩
    rw[hc] at hsu hcl ⊢
    unfold zeroI at hsu
    by_cases h0:s=0
    · have e1:(s == 0)=true:=by rw[beq_iff_eq];exact h0
      rw[decide_eq_true h0] at hsu
      have HS:=lh hsu;clear hsu hs hc h0
      go_wp2_with fail
      go_round
      case rel=>exact⟨k+1,by omega,by go_num,by rw[show (P.R.take (k+1)).countP zeroI=c+1 from HS.out];go_num⟩
      case measure=>simp [intOf];omega
    · have e1:(s == 0)=false:=by rw[beq_eq_false_iff_ne];exact h0
      rw[decide_eq_false h0] at hsu
      have HS:=lh hsu;clear hsu hs hc h0
      go_wp2_with fail
      go_round
      case rel=>exact⟨k+1,by omega,by go_num,by rw[show (P.R.take (k+1)).countP zeroI=c from HS.out]⟩
      case measure=>simp [intOf];omega
  · obtain rfl:k=r:=by omega
    have hall:P.R.take k=P.R:=by rw[←HR.out];exact List.take_length
    rw[hall,←HRD.out]
    clear hall
    go_wp2_with fail
    go_ret
    exact Ret.mk hbw
set_option maxHeartbeats 2000000 in
theorem rcharge_any (v:Value) (P:Pl) (i:Nat) (w:World) (h:PlRow w v P) (hi:i<P.M.length) (hf:P.fit):Calls Tryz.prog 69 #[v,.int .i64 i] w (Ret w (.int .i64 (P.chargeN i))):=by
 have hrd:P.chargeN i=(P.pages i).countP hasB:=rfl
 obtain⟨l,hl⟩:=get_lt (xs:=P.M) (k:=i) hi
 rw[Pl.pages_eq hl] at hrd
 have hfb:=hf.2 l (mem_at hl)
 have HFB:=lh hfb;clear hfb
 have HRD:=lh hrd;clear hrd hf
 obtain⟨of,or',om,kf,kr,km,rfl,kf1,kf2,kr1,kr2,km1,km2⟩:=h.form
 obtain⟨n,hn⟩:∃ n,P.F.length=n:=⟨_,rfl⟩
 obtain⟨r,hr⟩:∃ n,P.R.length=n:=⟨_,rfl⟩
 obtain⟨m,hm⟩:∃ n,P.M.length=n:=⟨_,rfl⟩
 rw[hn] at h kf1 ⊢
 rw[hr] at h kr1 ⊢
 rw[hm] at h km1 ⊢
 have HN:=lh hn;clear hn
 have HR:=lh hr;clear hr
 have HM:=lh hm;clear hm
 rw[HM.out] at hi
 go_enter Tryz.func69,Tryz.ntmps69
 go_wp2_with fail
 have D1:=HasBlock.made w #[.slice of n kf,.slice or' r kr,.slice om m km] 26
 have hbw:Below w.heap.size w (w.alloc (.cells #[.slice of n kf,.slice or' r kr,.slice om m km] 26)):=(Below.refl _ _).alloc (nlr _) _
 have hrow:=h.below hbw
 clear h
 generalize hW:w.alloc (.cells #[.slice of n kf,.slice or' r kr,.slice om m km] 26)=w1 at D1 hbw hrow ⊢
 clear hW
 obtain⟨mb,moff,uo,uc,rfl,hmb,cm,u1,u2,hr⟩:=hrow.guest hl
 have HR2:=lh hr;clear hr hl hrow
 obtain⟨q,hq⟩:∃ q,l.length=q:=⟨_,rfl⟩
 rw[hq] at cm u1 HR2
 have HQ:=lh hq;clear hq
 obtain⟨D1_c,D1_f,D1_z⟩:=D1.all
 go_loop [5,6] (fun c i=>∃ k:Nat,k≤q∧i=.int .i64 k∧c=.int .i64 ((l.take k).countP hasB:Nat)) (fun _ i=>q - (intOf i).toNat)
 case atStart=>exact⟨0,Nat.zero_le _,rfl,rfl⟩
 case round =>
  obtain⟨k,hk,rfl,rfl⟩:=hrel
  have hcl:=countP_le hasB l k
  by_cases hlt:k<q
  · obtain⟨f,hs⟩:=get_lt (xs:=l) (k:=k) (by rw[HQ.out];exact hlt)
    obtain⟨fb,foff,rfl,hfb,cf⟩:=HR2.out.elem hs
    have hsu:=countP_succ (q:=hasB) hs
    have hfbd:=HFB.out f (mem_at hs)
    obtain⟨c,hc⟩:∃ c,(l.take k).countP hasB=c:=⟨_,rfl⟩
    rw[hc] at hsu hcl ⊢
    unfold hasB at hsu
    by_cases h0:0≤f
    · rw[decide_eq_true h0] at hsu
      have HS:=lh hsu;clear hsu hs hc
      go_wp2_with fail
      go_round
      case rel=>exact⟨k+1,by omega,by go_num,by rw[show (l.take (k+1)).countP hasB=c+1 from HS.out];go_num⟩
      case measure=>simp [intOf];omega
    · rw[decide_eq_false h0] at hsu
      have HS:=lh hsu;clear hsu hs hc
      go_wp2_with fail
      go_round
      case rel=>exact⟨k+1,by omega,by go_num,by rw[show (l.take (k+1)).countP hasB=c from HS.out]⟩
      case measure=>simp [intOf];omega
  · obtain rfl:k=q:=by omega
    have hall:l.take k=l:=by rw[←HQ.out];exact List.take_length
    rw[hall,←HRD.out]
    clear hall
    go_wp2_with fail
    go_ret
    exact Ret.mk hbw
end Go.Proofs.YtbnngjhnkegliaaGreat
