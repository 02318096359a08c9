/-
  Texts joined: TpBb. No law is proved here.
-/
import Derived.Test.YtnmpfmapncicmaaGreatB32
namespace Go.Proofs.YtnmpfmapncicmaaGreat
set_option linter.all false
set_option maxRecDepth 100000
set_option maxHeartbeats 40000000
open Go.RowKit
section
set_option maxRecDepth 512
set_option maxHeartbeats 200000
def Fx (w:World) (lab:List UInt8) (o:Option St) (e:Ending) (w':World):Prop :=
 ∃ v,e=.returned (.tuple #[.string (bsL lab),.agg (stL (o.getD st0) v).toArray,.bool true])∧w'.ownsRow w.heap.size 211 3 v (o.getD st0).l.length ((o.getD st0).l.flatMap arL)∧Below w.heap.size w w'
inductive ParseIs (s:List UInt8) (lab:List UInt8) (o:Option St):Prop
 | empty:FF s=[]→lab=[]→o=none→ParseIs s lab o
 | plain (t:Tk) (rest:List Tk) (st:St):FF s=t :: rest→(∀ b ts,rest=b :: ts→b.t≠[58])→CY (t :: rest)=some st→lab=[]→o=some st→ParseIs s lab o
 | label (a b:Tk):FF s=[a,b]→b.t=[58]→a.k=1→Fd a.t=true→lab=a.t→o=none→ParseIs s lab o
 | both (a b t:Tk) (rest:List Tk) (st:St):FF s=a :: b :: t :: rest→b.t=[58]→a.k=1→Fd a.t=true→CY (t :: rest)=some st→lab=a.t→o=some st→ParseIs s lab o
theorem parse_is {s lab:List UInt8} {o:Option St} (h:GD s=some (lab,o)):s.all J5=true∧ParseIs s lab o:=by
 unfold GD at h
 by_cases h0:s.all J5=false
 · rw[if_pos h0] at h;cases h
 rw[if_neg h0] at h
 refine ⟨by cases hh:s.all J5 with
  | true=>rfl
  | false=>exact absurd hh h0,?_⟩
 cases ht:FF s with
 | nil =>
   rw[ht] at h
   dsimp only at h
   cases h
   exact .empty ht rfl rfl
 | cons a rest =>
   rw[ht] at h
   cases rest with
   | nil =>
     dsimp only at h
     cases hst:CY [a] with
     | none=>rw[hst] at h;cases h
     | some st =>
       rw[hst] at h
       cases h
       exact .plain a [] st ht (fun b ts e=>by cases e) hst rfl rfl
   | cons b ts =>
     dsimp only at h
     by_cases hb:b.t=[58]
     · rw[if_pos hb] at h
       by_cases ha:a.k=1∧Fd a.t=true
       · rw[if_pos ha] at h
         cases ts with
         | nil =>
           rw[if_pos (by rfl)] at h
           cases h
           exact .label a b ht hb ha.1 ha.2 rfl rfl
         | cons t rest =>
           rw[if_neg (by simp)] at h
           cases hst:CY (t :: rest) with
           | none=>rw[hst] at h;cases h
           | some st =>
             rw[hst] at h
             cases h
             exact .both a b t rest st ht hb ha.1 ha.2 hst rfl rfl
       · rw[if_neg ha] at h;cases h
     · rw[if_neg hb] at h
       cases hst:CY (a :: b :: ts) with
       | none=>rw[hst] at h;cases h
       | some st =>
         rw[hst] at h
         cases h
         exact .plain a (b :: ts) st ht (fun b' ts' e=>by cases e;exact hb) hst rfl rfl
set_option maxRecDepth 100000 in
set_option maxHeartbeats 4000000 in
theorem parsed_empty (s:List UInt8) (w:World) (hall:s.all J5=true) (ht:FF s=[]) (hl:s.length≤1000):Calls Tryz.prog 179 #[.string (bsL s)] w (Fx w [] none):=by
 obtain⟨n,hn⟩:∃ n,s.length=n:=⟨_,rfl⟩
 have hsz:=BI s
 rw[hn] at hsz
 have HN:=lh hn
 have HTK:=lh (fun w=>Dy s w (by omega) (fun c hc=>List.all_eq_true.1 hall c hc))
 rw[ht] at HTK
 have hsm:=Dx s
 rw[ht,hn] at hsm
 rw[hn] at hl
 have HSM:=lh hsm
 clear hn ht hsm
 have HALL:=lh hall
 clear hall
 have L0:=Lay.start w
 go_enter Tryz.func179,Tryz.ntmps179
 go_wp2_with (refine AF (ty:=209) L0 ([.string ⟨#[]⟩,.int .i64 0,.slice none 0 0,.int .i64 0,.int .i64 0,.int .i64 0]) (.agg (List.toArray ([.string ⟨#[]⟩,.int .i64 0,.slice none 0 0,.int .i64 0,.int .i64 0,.int .i64 0]))) rfl rfl (by kernel_rfl) rfl ?_;intro wy Lz Nz;clear Nz;replace L0:=Lz;clear Lz)
 go_loopw [0,5] (fun v i wq=>∃ k:Nat,k≤n∧v=.string (bsL s)∧i=.int .i64 k∧wq=wy) (fun _ i _=>n - (intOf i).toNat)
 case atStart=>exact⟨0,Nat.zero_le _,rfl,rfl,rfl⟩
 case round =>
  obtain⟨k,hk,rfl,rfl,rfl⟩:=hrel
  by_cases hlt:k<n
  · obtain⟨c,hc⟩:=A6 (xs:=s) (k:=k) (by rw[HN.out];exact hlt)
    have hch:=List.all_eq_true.1 HALL.out c (List.mem_of_getElem? hc)
    have h59:c.toNat≠59:=by
     intro e
     have:c=59:=by apply UInt8.toNat_inj.1;exact e
     rw[this] at hch
     revert hch;decide
    have b5:((c.toNat:Int) == 59)=false:=by simp;omega
    have HC:=lh hc
    clear hc hch h59
    go_wp2_with (first|(refine Ad rfl (Ax (l:=s) rfl rfl rfl Tryz.underlying9 HC.out) ?_))
    go_roundw
    case rel=>exact⟨k+1,by omega,rfl,by go_num,trivial⟩
    case measure=>simp [intOf];omega
  · obtain rfl:k=n:=by omega
    go_wp2_with fail
    refine (HTK.out _).mono ?_
    rintro e w1 ⟨vt,rfl,hot,hb1⟩
    have hrd:=RdS.of_owns Ge hot
    replace L0:=L0.below hb1
    clear hot hb1 HTK
    (obtain⟨ao,cap,rfl,hcap,hmax,HRD⟩:=hrd.open;clear hrd HRD hcap hmax)
    go_wp2_with (refine Ag (ty:=209) L0 0 rfl ([.string ⟨#[]⟩,.int .i64 0,.slice none 0 0,.int .i64 0,.int .i64 0,.int .i64 0]) ([.string ⟨#[]⟩,.int .i64 0,.slice none 0 0,.int .i64 0,.int .i64 0,.int .i64 0]) rfl rfl rfl rfl Az (by decide) rfl rfl ?_;intro wx Lz Nz;clear Nz;replace L0:=Lz;clear Lz)
    go_simp
    have hl1:=AU L0 0 rfl ([.string ⟨#[]⟩,.int .i64 0,.slice none 0 0,.int .i64 0,.int .i64 0,.int .i64 0]) rfl Tryz.underlying209 rfl Az
    exact bodyPost_ret (v:=.tuple #[.string (bsL []),.agg (List.toArray ([.string ⟨#[]⟩,.int .i64 0,.slice none 0 0,.int .i64 0,.int .i64 0,.int .i64 0])),.bool true]) (by simp [results,Tryz.results179,asAddr,hl1] <;> rfl) rfl ⟨_,rfl,World.ownsRow_nil _ _ _ _,L0.bel⟩
theorem CA {t:List UInt8} {c:UInt8} {cs:List UInt8} (h:F3 t=true) (hc:Hb c=false):(t == c :: cs)=false:=by
 cases t with
 | nil=>rfl
 | cons x xs =>
   have hx:Hb x=true:=h
   rw[beq_eq_false_iff_ne]
   intro e
   injection e with e1 _
   rw[e1,hc] at hx
   cases hx
theorem RdS.of_own {α:Type} {enc:α→List Value} {k:Nat} (hk:∀ x,(enc x).length=k) {w:World} {base:Nat} {e:TypeId} {v:Value} {xs:List α} (h:w.ownsRow base e k v xs.length (xs.flatMap enc)):∃ ao cap,v=.slice ao xs.length cap∧RdS enc k w (.slice ao xs.length cap) xs:=by
 obtain⟨ao,cap,hv,_,_,h⟩:=(RdS.of_owns hk h).open
 exact⟨ao,cap,hv,h⟩
set_option maxRecDepth 100000 in
set_option maxHeartbeats 4000000 in
theorem parsed_one (s:List UInt8) (t:Tk) (st:St) (w:World) (hall:s.all J5=true) (ht:FF s=[t]) (hl:s.length≤1000) (hst:CY [t]=some st):Calls Tryz.prog 179 #[.string (bsL s)] w (Fx w [] (some st)):=by
 obtain⟨hk,hh,hgap,p,ar,hp,hm,rfl⟩:=GN hst
 have H46:=lh (CA (cs:=[]) hh (c:=46) (by decide))
 have HSP:=lh (CA (cs:=[115,112,97,99,101]) hh (c:=46) (by decide))
 have HWD:=CA (cs:=[119,111,114,100]) hh (c:=46) (by decide)
 have HPT:=lh (fun w=>EL t.t p w hp (by intro e;rw[e] at HWD;simp at HWD) (by intro e;have:=HSP.out;rw[e] at this;simp at this))
 have HOP:=lh (fun w=>FR t.t w)
 have HGP:=lh hgap
 clear hk hh hgap hp HWD hst
 generalize Jw t.t=op at *
 obtain⟨z,hz⟩:∃ z:Nat,(if t.t=[108,105] then 2 else 1)=z:=⟨_,rfl⟩
 rw[hz]
 have HLI:∃ q:Bool,(t.t == [108,105])=q∧z=if q then 2 else 1:=by
  refine ⟨_,rfl,?_⟩
  rw[←hz]
  by_cases e:t.t=[108,105]
  · rw[if_pos e,if_pos (by rw[e];rfl)]
  · rw[if_neg e,if_neg (by simpa using e)]
 obtain⟨q,hq,hzq⟩:=HLI
 have HQ:=lh hq
 have HZQ:=lh hzq
 clear hq hz hzq
 obtain⟨n,hn⟩:∃ n,s.length=n:=⟨_,rfl⟩
 have hsz:=BI s
 rw[hn] at hsz
 have HN:=lh hn
 have HTK:=lh (fun w=>Dy s w (by omega) (fun c hc=>List.all_eq_true.1 hall c hc))
 rw[ht] at HTK
 have hsm:=Dx s
 rw[ht,hn] at hsm
 rw[hn] at hl
 have HSM:=lh hsm
 clear hn ht hsm
 have HALL:=lh hall
 clear hall
 have L0:=Lay.start w
 go_enter Tryz.func179,Tryz.ntmps179
 go_wp2_with (refine AF (ty:=209) L0 ([.string ⟨#[]⟩,.int .i64 0,.slice none 0 0,.int .i64 0,.int .i64 0,.int .i64 0]) (.agg (List.toArray ([.string ⟨#[]⟩,.int .i64 0,.slice none 0 0,.int .i64 0,.int .i64 0,.int .i64 0]))) rfl rfl (by kernel_rfl) rfl ?_;intro wy Lz Nz;clear Nz;replace L0:=Lz;clear Lz)
 go_loopw [0,5] (fun v i wq=>∃ k:Nat,k≤n∧v=.string (bsL s)∧i=.int .i64 k∧wq=wy) (fun _ i _=>n - (intOf i).toNat)
 case atStart=>exact⟨0,Nat.zero_le _,rfl,rfl,rfl⟩
 case round =>
  obtain⟨k,hk,rfl,rfl,rfl⟩:=hrel
  by_cases hlt:k<n
  · obtain⟨c,hc⟩:=A6 (xs:=s) (k:=k) (by rw[HN.out];exact hlt)
    have hch:=List.all_eq_true.1 HALL.out c (List.mem_of_getElem? hc)
    have h59:c.toNat≠59:=by
     intro e
     have:c=59:=by apply UInt8.toNat_inj.1;exact e
     rw[this] at hch
     revert hch;decide
    have b5:((c.toNat:Int) == 59)=false:=by simp;omega
    have HC:=lh hc
    clear hc hch h59
    go_wp2_with (first|(refine Ad rfl (Ax (l:=s) rfl rfl rfl Tryz.underlying9 HC.out) ?_))
    go_roundw
    case rel=>exact⟨k+1,by omega,rfl,by go_num,trivial⟩
    case measure=>simp [intOf];omega
  · obtain rfl:k=n:=by omega
    go_wp2_with fail
    refine (HTK.out _).mono ?_
    rintro e w1 ⟨vt,rfl,hot,hb1⟩
    have hrd:=RdS.of_owns Ge hot
    replace L0:=L0.below hb1
    clear hot hb1 HTK
    (obtain⟨ao,cap,rfl,hcap,hmax,HRD⟩:=hrd.open;clear hrd)
    obtain⟨_,b,off,rfl,hbl,_,_,hcell⟩:=HRD.at (Nat.succ_pos _)
    have HP:=lh hcell
    have L:=Lay.start w1
    unfold maxLen at hmax
    obtain⟨ao2,cap2,hv2,hcap2,hmax2,HRD2⟩:=(HRD.tail 1 (Nat.succ_le_succ (Nat.zero_le _))).open
    have HRD2:=lh HRD2
    have HV2:=lh hv2
    have HMT:=lh (fun w h=>EO [] p ar (.slice ao2 0 cap2) w hm h (by decide) (fun t h=>by cases h))
    clear hcell HRD hv2 hm
    cases q with
    | true =>
      have hz2:=lh (show z=2 from HZQ.out)
      go_wp2_with (first|(refine Ad rfl (Au (ty:=9) (u:=.string (bsL t.t)) rfl rfl Tryz.underlying9 rfl ((L.bel.cell (p:=⟨b,_,none⟩) hbl).trans (HP.out 0 _ rfl 1 _ rfl))) ?_)|(refine A1 (by rfl) (Au (ty:=9) (u:=.string (bsL t.t)) rfl rfl Tryz.underlying9 rfl ((L.bel.cell (p:=⟨b,_,none⟩) hbl).trans (HP.out 0 _ rfl 1 _ rfl))) ?_)|(refine Ad rfl (Cp (k:=1) (size:=3) rfl rfl rfl Tryz.underlying318 AP (by omega) HV2.out) ?_)|(refine Ad rfl (Aj (B:=[108,105]) rfl rfl rfl HQ.out) ?_)|(refine Ad rfl (Aj (B:=[46]) rfl rfl rfl H46.out) ?_)|(refine Ad rfl (Aj (B:=[46,115,112,97,99,101]) rfl rfl rfl HSP.out) ?_)|(go_at_call 231;(with_reducible refine (HPT.out _).mono ?_);rintro e wz ⟨rfl,hbz⟩;replace L:=L.below hbz;clear hbz)|(go_at_call 232;(with_reducible refine (HMT.out _ (HRD2.out.below L.bel)).mono ?_);rintro e wz ⟨va,rfl,hoa,hbz⟩;replace hoa:=Ay (base':=w.heap.size) hoa (Nat.le_trans L0.bel.size L.bel.size);replace L:=L.below hbz;clear hbz;obtain⟨aa,ca,rfl,hra⟩:=RdS.of_own Dp hoa;clear hra)|(go_at_call 233;(with_reducible refine (HOP.out _).mono ?_);rintro e wz ⟨rfl,hbz⟩;replace L:=L.below hbz;replace hoa:=Af hoa hbz;clear hbz)|(refine AF (ty:=209) L ([.string ⟨#[]⟩,.int .i64 0,.slice none 0 0,.int .i64 0,.int .i64 0,.int .i64 0]) (.agg (List.toArray ([.string ⟨#[]⟩,.int .i64 0,.slice none 0 0,.int .i64 0,.int .i64 0,.int .i64 0]))) rfl rfl (by kernel_rfl) rfl ?_;intro wq Lz Nz;replace hoa:=Af hoa Nz.bel;clear Nz;replace L:=Lz;clear Lz)|(refine Ag (ty:=209) L 0 rfl (stL ⟨t.t,op,ar,0,0,1⟩ (.slice aa ar.length ca)) (stL ⟨t.t,op,ar,0,0,1⟩ (.slice aa ar.length ca)) rfl rfl rfl rfl Az (BB _ _ rfl) rfl rfl ?_;intro wq Lz Nz;replace hoa:=Ai hoa (L.at (k:=0) rfl) (by decide) Nz;clear Nz;replace L:=Lz;clear Lz;(try simp only[List.set_cons_zero,List.set_cons_succ] at L))|(refine Aq (ty:=3) (u:=.int .i64 2) L 0 rfl (stL ⟨t.t,op,ar,0,0,2⟩ (.slice aa ar.length ca)) rfl rfl rfl rfl AW rfl rfl rfl ?_;intro wq Lz Nz;replace hoa:=Ai hoa (L.at (k:=0) rfl) (by decide) Nz;clear Nz;replace L:=Lz;clear Lz;(try simp only[List.set_cons_zero,List.set_cons_succ] at L)))
      have LJ:=L0.join L
      clear L
      have L:=LJ
      clear LJ
      simp only[List.cons_append,List.nil_append] at L
      (try simp only[Act.put,List.setIfInBounds_toArray,List.set_cons_zero,List.set_cons_succ])
      have hHeld:=L.drew.kept [0] rfl
      refine wp_region_held_drew (S:=Kept _) (by kernel_rfl) hHeld (fun hHeld=>?_)
      replace L:=L.drew
      replace hoa:=Af hoa (Below.drew (Below.refl _ _))
      refine wpAnyH_take (i:=0) (v:=?_) rfl (by kernel_rfl) (by kernel_rfl) (by kernel_rfl) (fun _ _ _ h=>h) (Or.inl ⟨by rfl,?_⟩) (by assumption) ?_
      rotate_left
      · intro w' hSw
        first|(go_simp;done)|(go_simp;with_reducible rfl)
      (try simp only[List.getElem_toArray,List.getElem_cons_succ,List.getElem_cons_zero,Act.put,List.setIfInBounds_toArray,List.set_cons_zero,List.set_cons_succ])
      refine wpAnyH_take (i:=1) (v:=.agg (List.toArray (stL ⟨t.t,op,ar,0,0,2⟩ (.slice aa ar.length ca)))) rfl (by kernel_rfl) (by kernel_rfl) (by kernel_rfl) (fun _ _ _ h=>h) (Ck (ty:=209) 0 rfl (stL ⟨t.t,op,ar,0,0,2⟩ (.slice aa ar.length ca)) (by rfl) rfl rfl Tryz.underlying209 rfl Az rfl) (by assumption) ?_
      (try simp only[List.getElem_toArray,List.getElem_cons_succ,List.getElem_cons_zero,Act.put,List.setIfInBounds_toArray,List.set_cons_zero,List.set_cons_succ])
      refine wpAnyH_take (i:=2) (v:=?_) rfl (by kernel_rfl) (by kernel_rfl) (by kernel_rfl) (fun _ _ _ h=>h) (Or.inl ⟨by rfl,?_⟩) (by assumption) ?_
      rotate_left
      · intro w' hSw
        first|(go_simp;done)|(go_simp;with_reducible rfl)
      (try simp only[List.getElem_toArray,List.getElem_cons_succ,List.getElem_cons_zero,Act.put,List.setIfInBounds_toArray,List.set_cons_zero,List.set_cons_succ])
      refine wpAnyH_ready (rs:=[3]) (by kernel_rfl) (by simp) ?_
      refine AllReadyH.cons rfl (fun K hK=>?_) AllReadyH.nil
      refine Ae (by rfl) (Am (ty:=209) L 1 rfl (stL ⟨t.t,op,ar,0,0,2⟩ (.slice aa ar.length ca)) (stL ⟨t.t,op,ar,0,0,2⟩ (.slice aa ar.length ca)) rfl rfl rfl Az (BB _ _ rfl) rfl rfl ?_)
      intro wq Lz Nz
      replace hoa:=Ai hoa (L.at (k:=1) rfl) (by decide) Nz
      clear Nz
      replace L:=Lz
      clear Lz
      simp only[List.set_cons_zero,List.set_cons_succ] at L
      refine hK.out _ _ (L.kept [0] rfl) (fun hHeld'=>?_)
      replace hHeld:=hHeld'
      clear hK K hHeld'
      (try simp only[List.getElem_toArray,List.getElem_cons_succ,List.getElem_cons_zero,Act.put,List.setIfInBounds_toArray,List.set_cons_zero,List.set_cons_succ])
      refine wpAnyH_take (i:=4) (v:=?_) rfl (by kernel_rfl) (by kernel_rfl) (by kernel_rfl) (fun _ _ _ h=>h) (Or.inl ⟨by rfl,?_⟩) (by assumption) ?_
      rotate_left
      · intro w' hSw
        first|(go_simp;done)|(go_simp;with_reducible rfl)
      (try simp only[List.getElem_toArray,List.getElem_cons_succ,List.getElem_cons_zero,Act.put,List.setIfInBounds_toArray,List.set_cons_zero,List.set_cons_succ])
      refine wpAnyH_done (by kernel_rfl) ?_ _
      clear hHeld
      go_wp2_with fail
      try go_simp
      have hl1:=AU L 1 rfl (stL ⟨t.t,op,ar,0,0,2⟩ (.slice aa ar.length ca)) rfl Tryz.underlying209 rfl Az
      rw[hz2.out]
      exact bodyPost_ret (v:=.tuple #[.string (bsL []),.agg (stL ⟨t.t,op,ar,0,0,2⟩ (.slice aa ar.length ca)).toArray,.bool true]) (by simp [results,Tryz.results179,asAddr,hl1] <;> rfl) rfl ⟨_,rfl,hoa,L.bel⟩
    | false =>
      have hz2:=lh (show z=1 from HZQ.out)
      go_wp2_with (first|(refine Ad rfl (Au (ty:=9) (u:=.string (bsL t.t)) rfl rfl Tryz.underlying9 rfl ((L.bel.cell (p:=⟨b,_,none⟩) hbl).trans (HP.out 0 _ rfl 1 _ rfl))) ?_)|(refine A1 (by rfl) (Au (ty:=9) (u:=.string (bsL t.t)) rfl rfl Tryz.underlying9 rfl ((L.bel.cell (p:=⟨b,_,none⟩) hbl).trans (HP.out 0 _ rfl 1 _ rfl))) ?_)|(refine Ad rfl (Cp (k:=1) (size:=3) rfl rfl rfl Tryz.underlying318 AP (by omega) HV2.out) ?_)|(refine Ad rfl (Aj (B:=[108,105]) rfl rfl rfl HQ.out) ?_)|(refine Ad rfl (Aj (B:=[46]) rfl rfl rfl H46.out) ?_)|(refine Ad rfl (Aj (B:=[46,115,112,97,99,101]) rfl rfl rfl HSP.out) ?_)|(go_at_call 231;(with_reducible refine (HPT.out _).mono ?_);rintro e wz ⟨rfl,hbz⟩;replace L:=L.below hbz;clear hbz)|(go_at_call 232;(with_reducible refine (HMT.out _ (HRD2.out.below L.bel)).mono ?_);rintro e wz ⟨va,rfl,hoa,hbz⟩;replace hoa:=Ay (base':=w.heap.size) hoa (Nat.le_trans L0.bel.size L.bel.size);replace L:=L.below hbz;clear hbz;obtain⟨aa,ca,rfl,hra⟩:=RdS.of_own Dp hoa;clear hra)|(go_at_call 233;(with_reducible refine (HOP.out _).mono ?_);rintro e wz ⟨rfl,hbz⟩;replace L:=L.below hbz;replace hoa:=Af hoa hbz;clear hbz)|(refine AF (ty:=209) L ([.string ⟨#[]⟩,.int .i64 0,.slice none 0 0,.int .i64 0,.int .i64 0,.int .i64 0]) (.agg (List.toArray ([.string ⟨#[]⟩,.int .i64 0,.slice none 0 0,.int .i64 0,.int .i64 0,.int .i64 0]))) rfl rfl (by kernel_rfl) rfl ?_;intro wq Lz Nz;replace hoa:=Af hoa Nz.bel;clear Nz;replace L:=Lz;clear Lz)|(refine Ag (ty:=209) L 0 rfl (stL ⟨t.t,op,ar,0,0,1⟩ (.slice aa ar.length ca)) (stL ⟨t.t,op,ar,0,0,1⟩ (.slice aa ar.length ca)) rfl rfl rfl rfl Az (BB _ _ rfl) rfl rfl ?_;intro wq Lz Nz;replace hoa:=Ai hoa (L.at (k:=0) rfl) (by decide) Nz;clear Nz;replace L:=Lz;clear Lz;(try simp only[List.set_cons_zero,List.set_cons_succ] at L)))
      have LJ:=L0.join L
      clear L
      have L:=LJ
      clear LJ
      simp only[List.cons_append,List.nil_append] at L
      (try simp only[Act.put,List.setIfInBounds_toArray,List.set_cons_zero,List.set_cons_succ])
      have hHeld:=L.drew.kept [0] rfl
      refine wp_region_held_drew (S:=Kept _) (by kernel_rfl) hHeld (fun hHeld=>?_)
      replace L:=L.drew
      replace hoa:=Af hoa (Below.drew (Below.refl _ _))
      refine wpAnyH_take (i:=0) (v:=?_) rfl (by kernel_rfl) (by kernel_rfl) (by kernel_rfl) (fun _ _ _ h=>h) (Or.inl ⟨by rfl,?_⟩) (by assumption) ?_
      rotate_left
      · intro w' hSw
        first|(go_simp;done)|(go_simp;with_reducible rfl)
      (try simp only[List.getElem_toArray,List.getElem_cons_succ,List.getElem_cons_zero,Act.put,List.setIfInBounds_toArray,List.set_cons_zero,List.set_cons_succ])
      refine wpAnyH_take (i:=1) (v:=.agg (List.toArray (stL ⟨t.t,op,ar,0,0,1⟩ (.slice aa ar.length ca)))) rfl (by kernel_rfl) (by kernel_rfl) (by kernel_rfl) (fun _ _ _ h=>h) (Ck (ty:=209) 0 rfl (stL ⟨t.t,op,ar,0,0,1⟩ (.slice aa ar.length ca)) (by rfl) rfl rfl Tryz.underlying209 rfl Az rfl) (by assumption) ?_
      (try simp only[List.getElem_toArray,List.getElem_cons_succ,List.getElem_cons_zero,Act.put,List.setIfInBounds_toArray,List.set_cons_zero,List.set_cons_succ])
      refine wpAnyH_take (i:=2) (v:=?_) rfl (by kernel_rfl) (by kernel_rfl) (by kernel_rfl) (fun _ _ _ h=>h) (Or.inl ⟨by rfl,?_⟩) (by assumption) ?_
      rotate_left
      · intro w' hSw
        first|(go_simp;done)|(go_simp;with_reducible rfl)
      (try simp only[List.getElem_toArray,List.getElem_cons_succ,List.getElem_cons_zero,Act.put,List.setIfInBounds_toArray,List.set_cons_zero,List.set_cons_succ])
      refine wpAnyH_ready (rs:=[3]) (by kernel_rfl) (by simp) ?_
      refine AllReadyH.cons rfl (fun K hK=>?_) AllReadyH.nil
      refine Ae (by rfl) (Am (ty:=209) L 1 rfl (stL ⟨t.t,op,ar,0,0,1⟩ (.slice aa ar.length ca)) (stL ⟨t.t,op,ar,0,0,1⟩ (.slice aa ar.length ca)) rfl rfl rfl Az (BB _ _ rfl) rfl rfl ?_)
      intro wq Lz Nz
      replace hoa:=Ai hoa (L.at (k:=1) rfl) (by decide) Nz
      clear Nz
      replace L:=Lz
      clear Lz
      simp only[List.set_cons_zero,List.set_cons_succ] at L
      refine hK.out _ _ (L.kept [0] rfl) (fun hHeld'=>?_)
      replace hHeld:=hHeld'
      clear hK K hHeld'
      (try simp only[List.getElem_toArray,List.getElem_cons_succ,List.getElem_cons_zero,Act.put,List.setIfInBounds_toArray,List.set_cons_zero,List.set_cons_succ])
      refine wpAnyH_take (i:=4) (v:=?_) rfl (by kernel_rfl) (by kernel_rfl) (by kernel_rfl) (fun _ _ _ h=>h) (Or.inl ⟨by rfl,?_⟩) (by assumption) ?_
      rotate_left
      · intro w' hSw
        first|(go_simp;done)|(go_simp;with_reducible rfl)
      (try simp only[List.getElem_toArray,List.getElem_cons_succ,List.getElem_cons_zero,Act.put,List.setIfInBounds_toArray,List.set_cons_zero,List.set_cons_succ])
      refine wpAnyH_done (by kernel_rfl) ?_ _
      clear hHeld
      go_wp2_with fail
      try go_simp
      have hl1:=AU L 1 rfl (stL ⟨t.t,op,ar,0,0,1⟩ (.slice aa ar.length ca)) rfl Tryz.underlying209 rfl Az
      rw[hz2.out]
      exact bodyPost_ret (v:=.tuple #[.string (bsL []),.agg (stL ⟨t.t,op,ar,0,0,1⟩ (.slice aa ar.length ca)).toArray,.bool true]) (by simp [results,Tryz.results179,asAddr,hl1] <;> rfl) rfl ⟨_,rfl,hoa,L.bel⟩
set_option maxRecDepth 100000 in
set_option maxHeartbeats 4000000 in
theorem parsed_more (s:List UInt8) (t r:Tk) (rs:List Tk) (st:St) (w:World) (hall:s.all J5=true) (ht:FF s=t :: r :: rs) (hl:s.length≤1000) (hst:CY (t :: r :: rs)=some st) (hr:r.t≠[58]):Calls Tryz.prog 179 #[.string (bsL s)] w (Fx w [] (some st)):=by
 obtain⟨hk,hh,hgap,p,ar,hp,hm,rfl⟩:=GN hst
 have H46:=lh (CA (cs:=[]) hh (c:=46) (by decide))
 have HSP:=lh (CA (cs:=[115,112,97,99,101]) hh (c:=46) (by decide))
 have HWD:=CA (cs:=[119,111,114,100]) hh (c:=46) (by decide)
 have HPT:=lh (fun w=>EL t.t p w hp (by intro e;rw[e] at HWD;simp at HWD) (by intro e;have:=HSP.out;rw[e] at this;simp at this))
 have HOP:=lh (fun w=>FR t.t w)
 have HGP:=lh hgap
 clear hk hh hgap hp HWD hst
 generalize Jw t.t=op at *
 obtain⟨z,hz⟩:∃ z:Nat,(if t.t=[108,105] then 2 else 1)=z:=⟨_,rfl⟩
 rw[hz]
 have HLI:∃ q:Bool,(t.t == [108,105])=q∧z=if q then 2 else 1:=by
  refine ⟨_,rfl,?_⟩
  rw[←hz]
  by_cases e:t.t=[108,105]
  · rw[if_pos e,if_pos (by rw[e];rfl)]
  · rw[if_neg e,if_neg (by simpa using e)]
 obtain⟨q,hq,hzq⟩:=HLI
 have HQ:=lh hq
 have HZQ:=lh hzq
 clear hq hz hzq
 have hg:r.g=true:=HGP.out r rs rfl
 have HR58:=lh (show (r.t == [58])=false by simpa using hr)
 clear hr
 obtain⟨n,hn⟩:∃ n,s.length=n:=⟨_,rfl⟩
 have hsz:=BI s
 rw[hn] at hsz
 have HN:=lh hn
 have HTK:=lh (fun w=>Dy s w (by omega) (fun c hc=>List.all_eq_true.1 hall c hc))
 rw[ht] at HTK
 have hsm:=Dx s
 rw[ht,hn] at hsm
 rw[hn] at hl
 have HSM:=lh hsm
 clear hn ht hsm
 have HALL:=lh hall
 clear hall
 have L0:=Lay.start w
 go_enter Tryz.func179,Tryz.ntmps179
 go_wp2_with (refine AF (ty:=209) L0 ([.string ⟨#[]⟩,.int .i64 0,.slice none 0 0,.int .i64 0,.int .i64 0,.int .i64 0]) (.agg (List.toArray ([.string ⟨#[]⟩,.int .i64 0,.slice none 0 0,.int .i64 0,.int .i64 0,.int .i64 0]))) rfl rfl (by kernel_rfl) rfl ?_;intro wy Lz Nz;clear Nz;replace L0:=Lz;clear Lz)
 go_loopw [0,5] (fun v i wq=>∃ k:Nat,k≤n∧v=.string (bsL s)∧i=.int .i64 k∧wq=wy) (fun _ i _=>n - (intOf i).toNat)
 case atStart=>exact⟨0,Nat.zero_le _,rfl,rfl,rfl⟩
 case round =>
  obtain⟨k,hk,rfl,rfl,rfl⟩:=hrel
  by_cases hlt:k<n
  · obtain⟨c,hc⟩:=A6 (xs:=s) (k:=k) (by rw[HN.out];exact hlt)
    have hch:=List.all_eq_true.1 HALL.out c (List.mem_of_getElem? hc)
    have h59:c.toNat≠59:=by
     intro e
     have:c=59:=by apply UInt8.toNat_inj.1;exact e
     rw[this] at hch
     revert hch;decide
    have b5:((c.toNat:Int) == 59)=false:=by simp;omega
    have HC:=lh hc
    clear hc hch h59
    go_wp2_with (first|(refine Ad rfl (Ax (l:=s) rfl rfl rfl Tryz.underlying9 HC.out) ?_))
    go_roundw
    case rel=>exact⟨k+1,by omega,rfl,by go_num,trivial⟩
    case measure=>simp [intOf];omega
  · obtain rfl:k=n:=by omega
    go_wp2_with fail
    refine (HTK.out _).mono ?_
    rintro e w1 ⟨vt,rfl,hot,hb1⟩
    have hrd:=RdS.of_owns Ge hot
    replace L0:=L0.below hb1
    clear hot hb1 HTK
    (obtain⟨ao,cap,rfl,hcap,hmax,HRD⟩:=hrd.open;clear hrd)
    obtain⟨_,b,off,rfl,hbl,_,_,hcell⟩:=HRD.at (Nat.succ_pos _)
    have HP:=lh hcell
    have L:=Lay.start w1
    unfold maxLen at hmax
    obtain⟨ao2,cap2,hv2,hcap2,hmax2,HRD2⟩:=(HRD.tail 1 (Nat.succ_le_succ (Nat.zero_le _))).open
    rw[show (t :: r :: rs).drop 1=r :: rs from rfl] at hv2 HRD2 hcap2
    obtain⟨_,b2,off2,rfl,hbl2,_,_,hcell2⟩:=HRD2.at (Nat.succ_pos _)
    have HP2:=lh hcell2
    have HRD2:=lh HRD2
    have HV2:=lh hv2
    obtain⟨hsm1,hsm2⟩:=HSM.out
    obtain⟨m,hmm⟩:∃ m,rs.length=m:=⟨_,rfl⟩
    have HMT:=lh (fun w h=>EO (r :: rs) p ar (.slice (some ⟨b2,off2,none⟩) (r :: rs).length cap2) w hm h (by rw[List.length_cons] at hsm1;omega) (fun t' h'=>Nat.le_trans (hsm2 t' (List.mem_cons_of_mem _ h')) hl))
    clear hcell HRD hv2 hm hsm1 hsm2 hcell2
    have e1:(t :: r :: rs).length=m+2:=by rw[List.length_cons,List.length_cons,hmm]
    have e2:(r :: rs).length=m+1:=by rw[List.length_cons,hmm]
    rw[e1] at hcap HV2 ⊢
    rw[e2] at HMT hcap2 HV2 HRD2
    clear hmm e1 e2
    cases q with
    | true =>
      have hz2:=lh (show z=2 from HZQ.out)
      go_wp2_with (first|(refine Ad rfl (Au (ty:=9) (u:=.string (bsL t.t)) rfl rfl Tryz.underlying9 rfl ((L.bel.cell (p:=⟨b,_,none⟩) hbl).trans (HP.out 0 _ rfl 1 _ rfl))) ?_)|(refine A1 (by rfl) (Au (ty:=9) (u:=.string (bsL t.t)) rfl rfl Tryz.underlying9 rfl ((L.bel.cell (p:=⟨b,_,none⟩) hbl).trans (HP.out 0 _ rfl 1 _ rfl))) ?_)|(refine Ad rfl (Au (ty:=9) (u:=.string (bsL r.t)) rfl rfl Tryz.underlying9 rfl ((L.bel.cell (p:=⟨b,_,none⟩) hbl).trans (HP.out 1 _ rfl 1 _ rfl))) ?_)|(refine A1 (by rfl) (Au (ty:=9) (u:=.string (bsL r.t)) rfl rfl Tryz.underlying9 rfl ((L.bel.cell (p:=⟨b,_,none⟩) hbl).trans (HP.out 1 _ rfl 1 _ rfl))) ?_)|(refine Ad rfl (Au (ty:=4) (u:=.bool r.g) rfl rfl Tryz.underlying4 rfl ((L.bel.cell (p:=⟨b2,_,none⟩) hbl2).trans (HP2.out 0 _ rfl 2 _ rfl))) ?_)|(refine A1 (by rfl) (Au (ty:=4) (u:=.bool r.g) rfl rfl Tryz.underlying4 rfl ((L.bel.cell (p:=⟨b2,_,none⟩) hbl2).trans (HP2.out 0 _ rfl 2 _ rfl))) ?_)|(refine A1 (by rfl) (Aj (B:=[58]) rfl rfl rfl HR58.out) ?_)|(refine Ad rfl (Cp (k:=1) (size:=3) rfl rfl rfl Tryz.underlying318 AP (by omega) HV2.out) ?_)|(refine Ad rfl (Aj (B:=[108,105]) rfl rfl rfl HQ.out) ?_)|(refine Ad rfl (Aj (B:=[46]) rfl rfl rfl H46.out) ?_)|(refine Ad rfl (Aj (B:=[46,115,112,97,99,101]) rfl rfl rfl HSP.out) ?_)|(go_at_call 231;(with_reducible refine (HPT.out _).mono ?_);rintro e wz ⟨rfl,hbz⟩;replace L:=L.below hbz;clear hbz)|(go_at_call 232;(with_reducible refine (HMT.out _ (HRD2.out.below L.bel)).mono ?_);rintro e wz ⟨va,rfl,hoa,hbz⟩;replace hoa:=Ay (base':=w.heap.size) hoa (Nat.le_trans L0.bel.size L.bel.size);replace L:=L.below hbz;clear hbz;obtain⟨aa,ca,rfl,hra⟩:=RdS.of_own Dp hoa;clear hra)|(go_at_call 233;(with_reducible refine (HOP.out _).mono ?_);rintro e wz ⟨rfl,hbz⟩;replace L:=L.below hbz;replace hoa:=Af hoa hbz;clear hbz)|(refine AF (ty:=209) L ([.string ⟨#[]⟩,.int .i64 0,.slice none 0 0,.int .i64 0,.int .i64 0,.int .i64 0]) (.agg (List.toArray ([.string ⟨#[]⟩,.int .i64 0,.slice none 0 0,.int .i64 0,.int .i64 0,.int .i64 0]))) rfl rfl (by kernel_rfl) rfl ?_;intro wq Lz Nz;replace hoa:=Af hoa Nz.bel;clear Nz;replace L:=Lz;clear Lz)|(refine Ag (ty:=209) L 0 rfl (stL ⟨t.t,op,ar,0,0,1⟩ (.slice aa ar.length ca)) (stL ⟨t.t,op,ar,0,0,1⟩ (.slice aa ar.length ca)) rfl rfl rfl rfl Az (BB _ _ rfl) rfl rfl ?_;intro wq Lz Nz;replace hoa:=Ai hoa (L.at (k:=0) rfl) (by decide) Nz;clear Nz;replace L:=Lz;clear Lz;(try simp only[List.set_cons_zero,List.set_cons_succ] at L))|(refine Aq (ty:=3) (u:=.int .i64 2) L 0 rfl (stL ⟨t.t,op,ar,0,0,2⟩ (.slice aa ar.length ca)) rfl rfl rfl rfl AW rfl rfl rfl ?_;intro wq Lz Nz;replace hoa:=Ai hoa (L.at (k:=0) rfl) (by decide) Nz;clear Nz;replace L:=Lz;clear Lz;(try simp only[List.set_cons_zero,List.set_cons_succ] at L)))
      have LJ:=L0.join L
      clear L
      have L:=LJ
      clear LJ
      simp only[List.cons_append,List.nil_append] at L
      (try simp only[Act.put,List.setIfInBounds_toArray,List.set_cons_zero,List.set_cons_succ])
      have hHeld:=L.drew.kept [0] rfl
      refine wp_region_held_drew (S:=Kept _) (by kernel_rfl) hHeld (fun hHeld=>?_)
      replace L:=L.drew
      replace hoa:=Af hoa (Below.drew (Below.refl _ _))
      refine wpAnyH_take (i:=0) (v:=?_) rfl (by kernel_rfl) (by kernel_rfl) (by kernel_rfl) (fun _ _ _ h=>h) (Or.inl ⟨by rfl,?_⟩) (by assumption) ?_
      rotate_left
      · intro w' hSw
        first|(go_simp;done)|(go_simp;with_reducible rfl)
      (try simp only[List.getElem_toArray,List.getElem_cons_succ,List.getElem_cons_zero,Act.put,List.setIfInBounds_toArray,List.set_cons_zero,List.set_cons_succ])
      refine wpAnyH_take (i:=1) (v:=.agg (List.toArray (stL ⟨t.t,op,ar,0,0,2⟩ (.slice aa ar.length ca)))) rfl (by kernel_rfl) (by kernel_rfl) (by kernel_rfl) (fun _ _ _ h=>h) (Ck (ty:=209) 0 rfl (stL ⟨t.t,op,ar,0,0,2⟩ (.slice aa ar.length ca)) (by rfl) rfl rfl Tryz.underlying209 rfl Az rfl) (by assumption) ?_
      (try simp only[List.getElem_toArray,List.getElem_cons_succ,List.getElem_cons_zero,Act.put,List.setIfInBounds_toArray,List.set_cons_zero,List.set_cons_succ])
      refine wpAnyH_take (i:=2) (v:=?_) rfl (by kernel_rfl) (by kernel_rfl) (by kernel_rfl) (fun _ _ _ h=>h) (Or.inl ⟨by rfl,?_⟩) (by assumption) ?_
      rotate_left
      · intro w' hSw
        first|(go_simp;done)|(go_simp;with_reducible rfl)
      (try simp only[List.getElem_toArray,List.getElem_cons_succ,List.getElem_cons_zero,Act.put,List.setIfInBounds_toArray,List.set_cons_zero,List.set_cons_succ])
      refine wpAnyH_ready (rs:=[3]) (by kernel_rfl) (by simp) ?_
      refine AllReadyH.cons rfl (fun K hK=>?_) AllReadyH.nil
      refine Ae (by rfl) (Am (ty:=209) L 1 rfl (stL ⟨t.t,op,ar,0,0,2⟩ (.slice aa ar.length ca)) (stL ⟨t.t,op,ar,0,0,2⟩ (.slice aa ar.length ca)) rfl rfl rfl Az (BB _ _ rfl) rfl rfl ?_)
      intro wq Lz Nz
      replace hoa:=Ai hoa (L.at (k:=1) rfl) (by decide) Nz
      clear Nz
      replace L:=Lz
      clear Lz
      simp only[List.set_cons_zero,List.set_cons_succ] at L
      refine hK.out _ _ (L.kept [0] rfl) (fun hHeld'=>?_)
      replace hHeld:=hHeld'
      clear hK K hHeld'
      (try simp only[List.getElem_toArray,List.getElem_cons_succ,List.getElem_cons_zero,Act.put,List.setIfInBounds_toArray,List.set_cons_zero,List.set_cons_succ])
      refine wpAnyH_take (i:=4) (v:=?_) rfl (by kernel_rfl) (by kernel_rfl) (by kernel_rfl) (fun _ _ _ h=>h) (Or.inl ⟨by rfl,?_⟩) (by assumption) ?_
      rotate_left
      · intro w' hSw
        first|(go_simp;done)|(go_simp;with_reducible rfl)
      (try simp only[List.getElem_toArray,List.getElem_cons_succ,List.getElem_cons_zero,Act.put,List.setIfInBounds_toArray,List.set_cons_zero,List.set_cons_succ])
      refine wpAnyH_done (by kernel_rfl) ?_ _
      clear hHeld
      go_wp2_with fail
      try go_simp
      have hl1:=AU L 1 rfl (stL ⟨t.t,op,ar,0,0,2⟩ (.slice aa ar.length ca)) rfl Tryz.underlying209 rfl Az
      rw[hz2.out]
      exact bodyPost_ret (v:=.tuple #[.string (bsL []),.agg (stL ⟨t.t,op,ar,0,0,2⟩ (.slice aa ar.length ca)).toArray,.bool true]) (by simp [results,Tryz.results179,asAddr,hl1] <;> rfl) rfl ⟨_,rfl,hoa,L.bel⟩
    | false =>
      have hz2:=lh (show z=1 from HZQ.out)
      go_wp2_with (first|(refine Ad rfl (Au (ty:=9) (u:=.string (bsL t.t)) rfl rfl Tryz.underlying9 rfl ((L.bel.cell (p:=⟨b,_,none⟩) hbl).trans (HP.out 0 _ rfl 1 _ rfl))) ?_)|(refine A1 (by rfl) (Au (ty:=9) (u:=.string (bsL t.t)) rfl rfl Tryz.underlying9 rfl ((L.bel.cell (p:=⟨b,_,none⟩) hbl).trans (HP.out 0 _ rfl 1 _ rfl))) ?_)|(refine Ad rfl (Au (ty:=9) (u:=.string (bsL r.t)) rfl rfl Tryz.underlying9 rfl ((L.bel.cell (p:=⟨b,_,none⟩) hbl).trans (HP.out 1 _ rfl 1 _ rfl))) ?_)|(refine A1 (by rfl) (Au (ty:=9) (u:=.string (bsL r.t)) rfl rfl Tryz.underlying9 rfl ((L.bel.cell (p:=⟨b,_,none⟩) hbl).trans (HP.out 1 _ rfl 1 _ rfl))) ?_)|(refine Ad rfl (Au (ty:=4) (u:=.bool r.g) rfl rfl Tryz.underlying4 rfl ((L.bel.cell (p:=⟨b2,_,none⟩) hbl2).trans (HP2.out 0 _ rfl 2 _ rfl))) ?_)|(refine A1 (by rfl) (Au (ty:=4) (u:=.bool r.g) rfl rfl Tryz.underlying4 rfl ((L.bel.cell (p:=⟨b2,_,none⟩) hbl2).trans (HP2.out 0 _ rfl 2 _ rfl))) ?_)|(refine A1 (by rfl) (Aj (B:=[58]) rfl rfl rfl HR58.out) ?_)|(refine Ad rfl (Cp (k:=1) (size:=3) rfl rfl rfl Tryz.underlying318 AP (by omega) HV2.out) ?_)|(refine Ad rfl (Aj (B:=[108,105]) rfl rfl rfl HQ.out) ?_)|(refine Ad rfl (Aj (B:=[46]) rfl rfl rfl H46.out) ?_)|(refine Ad rfl (Aj (B:=[46,115,112,97,99,101]) rfl rfl rfl HSP.out) ?_)|(go_at_call 231;(with_reducible refine (HPT.out _).mono ?_);rintro e wz ⟨rfl,hbz⟩;replace L:=L.below hbz;clear hbz)|(go_at_call 232;(with_reducible refine (HMT.out _ (HRD2.out.below L.bel)).mono ?_);rintro e wz ⟨va,rfl,hoa,hbz⟩;replace hoa:=Ay (base':=w.heap.size) hoa (Nat.le_trans L0.bel.size L.bel.size);replace L:=L.below hbz;clear hbz;obtain⟨aa,ca,rfl,hra⟩:=RdS.of_own Dp hoa;clear hra)|(go_at_call 233;(with_reducible refine (HOP.out _).mono ?_);rintro e wz ⟨rfl,hbz⟩;replace L:=L.below hbz;replace hoa:=Af hoa hbz;clear hbz)|(refine AF (ty:=209) L ([.string ⟨#[]⟩,.int .i64 0,.slice none 0 0,.int .i64 0,.int .i64 0,.int .i64 0]) (.agg (List.toArray ([.string ⟨#[]⟩,.int .i64 0,.slice none 0 0,.int .i64 0,.int .i64 0,.int .i64 0]))) rfl rfl (by kernel_rfl) rfl ?_;intro wq Lz Nz;replace hoa:=Af hoa Nz.bel;clear Nz;replace L:=Lz;clear Lz)|(refine Ag (ty:=209) L 0 rfl (stL ⟨t.t,op,ar,0,0,1⟩ (.slice aa ar.length ca)) (stL ⟨t.t,op,ar,0,0,1⟩ (.slice aa ar.length ca)) rfl rfl rfl rfl Az (BB _ _ rfl) rfl rfl ?_;intro wq Lz Nz;replace hoa:=Ai hoa (L.at (k:=0) rfl) (by decide) Nz;clear Nz;replace L:=Lz;clear Lz;(try simp only[List.set_cons_zero,List.set_cons_succ] at L)))
      have LJ:=L0.join L
      clear L
      have L:=LJ
      clear LJ
      simp only[List.cons_append,List.nil_append] at L
      (try simp only[Act.put,List.setIfInBounds_toArray,List.set_cons_zero,List.set_cons_succ])
      have hHeld:=L.drew.kept [0] rfl
      refine wp_region_held_drew (S:=Kept _) (by kernel_rfl) hHeld (fun hHeld=>?_)
      replace L:=L.drew
      replace hoa:=Af hoa (Below.drew (Below.refl _ _))
      refine wpAnyH_take (i:=0) (v:=?_) rfl (by kernel_rfl) (by kernel_rfl) (by kernel_rfl) (fun _ _ _ h=>h) (Or.inl ⟨by rfl,?_⟩) (by assumption) ?_
      rotate_left
      · intro w' hSw
        first|(go_simp;done)|(go_simp;with_reducible rfl)
      (try simp only[List.getElem_toArray,List.getElem_cons_succ,List.getElem_cons_zero,Act.put,List.setIfInBounds_toArray,List.set_cons_zero,List.set_cons_succ])
      refine wpAnyH_take (i:=1) (v:=.agg (List.toArray (stL ⟨t.t,op,ar,0,0,1⟩ (.slice aa ar.length ca)))) rfl (by kernel_rfl) (by kernel_rfl) (by kernel_rfl) (fun _ _ _ h=>h) (Ck (ty:=209) 0 rfl (stL ⟨t.t,op,ar,0,0,1⟩ (.slice aa ar.length ca)) (by rfl) rfl rfl Tryz.underlying209 rfl Az rfl) (by assumption) ?_
      (try simp only[List.getElem_toArray,List.getElem_cons_succ,List.getElem_cons_zero,Act.put,List.setIfInBounds_toArray,List.set_cons_zero,List.set_cons_succ])
      refine wpAnyH_take (i:=2) (v:=?_) rfl (by kernel_rfl) (by kernel_rfl) (by kernel_rfl) (fun _ _ _ h=>h) (Or.inl ⟨by rfl,?_⟩) (by assumption) ?_
      rotate_left
      · intro w' hSw
        first|(go_simp;done)|(go_simp;with_reducible rfl)
      (try simp only[List.getElem_toArray,List.getElem_cons_succ,List.getElem_cons_zero,Act.put,List.setIfInBounds_toArray,List.set_cons_zero,List.set_cons_succ])
      refine wpAnyH_ready (rs:=[3]) (by kernel_rfl) (by simp) ?_
      refine AllReadyH.cons rfl (fun K hK=>?_) AllReadyH.nil
      refine Ae (by rfl) (Am (ty:=209) L 1 rfl (stL ⟨t.t,op,ar,0,0,1⟩ (.slice aa ar.length ca)) (stL ⟨t.t,op,ar,0,0,1⟩ (.slice aa ar.length ca)) rfl rfl rfl Az (BB _ _ rfl) rfl rfl ?_)
      intro wq Lz Nz
      replace hoa:=Ai hoa (L.at (k:=1) rfl) (by decide) Nz
      clear Nz
      replace L:=Lz
      clear Lz
      simp only[List.set_cons_zero,List.set_cons_succ] at L
      refine hK.out _ _ (L.kept [0] rfl) (fun hHeld'=>?_)
      replace hHeld:=hHeld'
      clear hK K hHeld'
      (try simp only[List.getElem_toArray,List.getElem_cons_succ,List.getElem_cons_zero,Act.put,List.setIfInBounds_toArray,List.set_cons_zero,List.set_cons_succ])
      refine wpAnyH_take (i:=4) (v:=?_) rfl (by kernel_rfl) (by kernel_rfl) (by kernel_rfl) (fun _ _ _ h=>h) (Or.inl ⟨by rfl,?_⟩) (by assumption) ?_
      rotate_left
      · intro w' hSw
        first|(go_simp;done)|(go_simp;with_reducible rfl)
      (try simp only[List.getElem_toArray,List.getElem_cons_succ,List.getElem_cons_zero,Act.put,List.setIfInBounds_toArray,List.set_cons_zero,List.set_cons_succ])
      refine wpAnyH_done (by kernel_rfl) ?_ _
      clear hHeld
      go_wp2_with fail
      try go_simp
      have hl1:=AU L 1 rfl (stL ⟨t.t,op,ar,0,0,1⟩ (.slice aa ar.length ca)) rfl Tryz.underlying209 rfl Az
      rw[hz2.out]
      exact bodyPost_ret (v:=.tuple #[.string (bsL []),.agg (stL ⟨t.t,op,ar,0,0,1⟩ (.slice aa ar.length ca)).toArray,.bool true]) (by simp [results,Tryz.results179,asAddr,hl1] <;> rfl) rfl ⟨_,rfl,hoa,L.bel⟩
set_option maxRecDepth 100000 in
set_option maxHeartbeats 4000000 in
theorem parsed_label (s:List UInt8) (a0 b0:Tk) (w:World) (hall:s.all J5=true) (ht:FF s=[a0,b0]) (hl:s.length≤1000) (hb:b0.t=[58]) (ha:a0.k=1) (hn:Fd a0.t=true):Calls Tryz.prog 179 #[.string (bsL s)] w (Fx w a0.t none):=by
 have HB58:=lh (show (b0.t == [58])=true by rw[hb];rfl)
 have q1:((a0.k:Int) != 1)=false:=by rw[ha];rfl
 clear hb ha
 have HNA:=lh hn
 clear hn
 obtain⟨n,hn⟩:∃ n,s.length=n:=⟨_,rfl⟩
 have hsz:=BI s
 rw[hn] at hsz
 have HN:=lh hn
 have HTK:=lh (fun w=>Dy s w (by omega) (fun c hc=>List.all_eq_true.1 hall c hc))
 rw[ht] at HTK
 have hsm:=Dx s
 rw[ht,hn] at hsm
 rw[hn] at hl
 have HSM:=lh hsm
 clear hn ht hsm
 have HALL:=lh hall
 clear hall
 have L0:=Lay.start w
 go_enter Tryz.func179,Tryz.ntmps179
 go_wp2_with (refine AF (ty:=209) L0 ([.string ⟨#[]⟩,.int .i64 0,.slice none 0 0,.int .i64 0,.int .i64 0,.int .i64 0]) (.agg (List.toArray ([.string ⟨#[]⟩,.int .i64 0,.slice none 0 0,.int .i64 0,.int .i64 0,.int .i64 0]))) rfl rfl (by kernel_rfl) rfl ?_;intro wy Lz Nz;clear Nz;replace L0:=Lz;clear Lz)
 go_loopw [0,5] (fun v i wq=>∃ k:Nat,k≤n∧v=.string (bsL s)∧i=.int .i64 k∧wq=wy) (fun _ i _=>n - (intOf i).toNat)
 case atStart=>exact⟨0,Nat.zero_le _,rfl,rfl,rfl⟩
 case round =>
  obtain⟨k,hk,rfl,rfl,rfl⟩:=hrel
  by_cases hlt:k<n
  · obtain⟨c,hc⟩:=A6 (xs:=s) (k:=k) (by rw[HN.out];exact hlt)
    have hch:=List.all_eq_true.1 HALL.out c (List.mem_of_getElem? hc)
    have h59:c.toNat≠59:=by
     intro e
     have:c=59:=by apply UInt8.toNat_inj.1;exact e
     rw[this] at hch
     revert hch;decide
    have b5:((c.toNat:Int) == 59)=false:=by simp;omega
    have HC:=lh hc
    clear hc hch h59
    go_wp2_with (first|(refine Ad rfl (Ax (l:=s) rfl rfl rfl Tryz.underlying9 HC.out) ?_))
    go_roundw
    case rel=>exact⟨k+1,by omega,rfl,by go_num,trivial⟩
    case measure=>simp [intOf];omega
  · obtain rfl:k=n:=by omega
    go_wp2_with fail
    refine (HTK.out _).mono ?_
    rintro e w1 ⟨vt,rfl,hot,hb1⟩
    have hrd:=RdS.of_owns Ge hot
    replace L0:=L0.below hb1
    clear hot hb1 HTK
    (obtain⟨ao,cap,rfl,hcap,hmax,HRD⟩:=hrd.open;clear hrd)
    obtain⟨_,b,off,rfl,hbl,_,_,hcell⟩:=HRD.at (Nat.succ_pos _)
    have HP:=lh hcell
    have L:=Lay.start w1
    unfold maxLen at hmax
    have htl:=HSM.out.2 a0 (List.mem_cons_self ..)
    have HNM:=lh (fun w=>GZ a0.t w (Nat.le_trans htl hl))
    rw[HNA.out] at HNM
    obtain⟨aoT,capT,hvT,hcapT,hmaxT,HRDT⟩:=(HRD.tail 2 (Nat.succ_le_succ (Nat.succ_le_succ (Nat.zero_le _)))).open
    have HVT:=lh hvT
    clear hcell htl hvT HRDT
    go_wp2_with (first|(refine Ad rfl (Au (ty:=9) (u:=.string (bsL b0.t)) rfl rfl Tryz.underlying9 rfl ((L.bel.cell (p:=⟨b,_,none⟩) hbl).trans (HP.out 1 _ rfl 1 _ rfl))) ?_)|(refine A1 (by rfl) (Au (ty:=9) (u:=.string (bsL b0.t)) rfl rfl Tryz.underlying9 rfl ((L.bel.cell (p:=⟨b,_,none⟩) hbl).trans (HP.out 1 _ rfl 1 _ rfl))) ?_)|(refine Ad rfl (Au (ty:=9) (u:=.string (bsL a0.t)) rfl rfl Tryz.underlying9 rfl ((L.bel.cell (p:=⟨b,_,none⟩) hbl).trans (HP.out 0 _ rfl 1 _ rfl))) ?_)|(refine A1 (by rfl) (Au (ty:=9) (u:=.string (bsL a0.t)) rfl rfl Tryz.underlying9 rfl ((L.bel.cell (p:=⟨b,_,none⟩) hbl).trans (HP.out 0 _ rfl 1 _ rfl))) ?_)|(refine Ad rfl (Au (ty:=3) (u:=.int .i64 a0.k) rfl rfl Tryz.underlying3 rfl ((L.bel.cell (p:=⟨b,_,none⟩) hbl).trans (HP.out 0 _ rfl 0 _ rfl))) ?_)|(refine A1 (by rfl) (Au (ty:=3) (u:=.int .i64 a0.k) rfl rfl Tryz.underlying3 rfl ((L.bel.cell (p:=⟨b,_,none⟩) hbl).trans (HP.out 0 _ rfl 0 _ rfl))) ?_)|(refine A1 (by rfl) (Aj (B:=[58]) rfl rfl rfl HB58.out) ?_)|(go_at_call 230;(with_reducible refine (HNM.out _).mono ?_);rintro e wz ⟨rfl,hbz⟩;replace L:=L.below hbz;clear hbz)|(refine Ad rfl (Cp (k:=2) (size:=3) rfl rfl rfl Tryz.underlying318 AP (by omega) HVT.out) ?_)|(refine Ag (ty:=209) (L0.below L.bel) 0 rfl ([.string ⟨#[]⟩,.int .i64 0,.slice none 0 0,.int .i64 0,.int .i64 0,.int .i64 0]) ([.string ⟨#[]⟩,.int .i64 0,.slice none 0 0,.int .i64 0,.int .i64 0,.int .i64 0]) rfl rfl rfl rfl Az (by decide) rfl rfl ?_;intro wx Lz Nz;clear Nz L;have L:=Lz;clear Lz))
    go_simp
    have hl1:=AU L 0 rfl ([.string ⟨#[]⟩,.int .i64 0,.slice none 0 0,.int .i64 0,.int .i64 0,.int .i64 0]) rfl Tryz.underlying209 rfl Az
    exact bodyPost_ret (v:=.tuple #[.string (bsL a0.t),.agg (List.toArray ([.string ⟨#[]⟩,.int .i64 0,.slice none 0 0,.int .i64 0,.int .i64 0,.int .i64 0])),.bool true]) (by simp [results,Tryz.results179,asAddr,hl1] <;> rfl) rfl ⟨_,rfl,World.ownsRow_nil _ _ _ _,L.bel⟩
set_option maxRecDepth 100000 in
set_option maxHeartbeats 4000000 in
theorem parsed_both1 (s:List UInt8) (a0 b0 t:Tk) (st:St) (w:World) (hall:s.all J5=true) (ht:FF s=[a0,b0,t]) (hl:s.length≤1000) (hb:b0.t=[58]) (ha:a0.k=1) (hn:Fd a0.t=true) (hst:CY [t]=some st):Calls Tryz.prog 179 #[.string (bsL s)] w (Fx w a0.t (some st)):=by
 have HB58:=lh (show (b0.t == [58])=true by rw[hb];rfl)
 have q1:((a0.k:Int) != 1)=false:=by rw[ha];rfl
 clear hb ha
 have HNA:=lh hn
 clear hn
 obtain⟨hk,hh,hgap,p,ar,hp,hm,rfl⟩:=GN hst
 have H46:=lh (CA (cs:=[]) hh (c:=46) (by decide))
 have HSP:=lh (CA (cs:=[115,112,97,99,101]) hh (c:=46) (by decide))
 have HWD:=CA (cs:=[119,111,114,100]) hh (c:=46) (by decide)
 have HPT:=lh (fun w=>EL t.t p w hp (by intro e;rw[e] at HWD;simp at HWD) (by intro e;have:=HSP.out;rw[e] at this;simp at this))
 have HOP:=lh (fun w=>FR t.t w)
 have HGP:=lh hgap
 clear hk hh hgap hp HWD hst
 generalize Jw t.t=op at *
 obtain⟨z,hz⟩:∃ z:Nat,(if t.t=[108,105] then 2 else 1)=z:=⟨_,rfl⟩
 rw[hz]
 have HLI:∃ q:Bool,(t.t == [108,105])=q∧z=if q then 2 else 1:=by
  refine ⟨_,rfl,?_⟩
  rw[←hz]
  by_cases e:t.t=[108,105]
  · rw[if_pos e,if_pos (by rw[e];rfl)]
  · rw[if_neg e,if_neg (by simpa using e)]
 obtain⟨q,hq,hzq⟩:=HLI
 have HQ:=lh hq
 have HZQ:=lh hzq
 clear hq hz hzq
 obtain⟨n,hn⟩:∃ n,s.length=n:=⟨_,rfl⟩
 have hsz:=BI s
 rw[hn] at hsz
 have HN:=lh hn
 have HTK:=lh (fun w=>Dy s w (by omega) (fun c hc=>List.all_eq_true.1 hall c hc))
 rw[ht] at HTK
 have hsm:=Dx s
 rw[ht,hn] at hsm
 rw[hn] at hl
 have HSM:=lh hsm
 clear hn ht hsm
 have HALL:=lh hall
 clear hall
 have L0:=Lay.start w
 go_enter Tryz.func179,Tryz.ntmps179
 go_wp2_with (refine AF (ty:=209) L0 ([.string ⟨#[]⟩,.int .i64 0,.slice none 0 0,.int .i64 0,.int .i64 0,.int .i64 0]) (.agg (List.toArray ([.string ⟨#[]⟩,.int .i64 0,.slice none 0 0,.int .i64 0,.int .i64 0,.int .i64 0]))) rfl rfl (by kernel_rfl) rfl ?_;intro wy Lz Nz;clear Nz;replace L0:=Lz;clear Lz)
 go_loopw [0,5] (fun v i wq=>∃ k:Nat,k≤n∧v=.string (bsL s)∧i=.int .i64 k∧wq=wy) (fun _ i _=>n - (intOf i).toNat)
 case atStart=>exact⟨0,Nat.zero_le _,rfl,rfl,rfl⟩
 case round =>
  obtain⟨k,hk,rfl,rfl,rfl⟩:=hrel
  by_cases hlt:k<n
  · obtain⟨c,hc⟩:=A6 (xs:=s) (k:=k) (by rw[HN.out];exact hlt)
    have hch:=List.all_eq_true.1 HALL.out c (List.mem_of_getElem? hc)
    have h59:c.toNat≠59:=by
     intro e
     have:c=59:=by apply UInt8.toNat_inj.1;exact e
     rw[this] at hch
     revert hch;decide
    have b5:((c.toNat:Int) == 59)=false:=by simp;omega
    have HC:=lh hc
    clear hc hch h59
    go_wp2_with (first|(refine Ad rfl (Ax (l:=s) rfl rfl rfl Tryz.underlying9 HC.out) ?_))
    go_roundw
    case rel=>exact⟨k+1,by omega,rfl,by go_num,trivial⟩
    case measure=>simp [intOf];omega
  · obtain rfl:k=n:=by omega
    go_wp2_with fail
    refine (HTK.out _).mono ?_
    rintro e w1 ⟨vt,rfl,hot,hb1⟩
    have hrd:=RdS.of_owns Ge hot
    replace L0:=L0.below hb1
    clear hot hb1 HTK
    (obtain⟨ao,cap,rfl,hcap,hmax,HRD⟩:=hrd.open;clear hrd)
    obtain⟨_,b,off,rfl,hbl,_,_,hcell⟩:=HRD.at (Nat.succ_pos _)
    have HP:=lh hcell
    have L:=Lay.start w1
    unfold maxLen at hmax
    have htl:=HSM.out.2 a0 (List.mem_cons_self ..)
    have HNM:=lh (fun w=>GZ a0.t w (Nat.le_trans htl hl))
    rw[HNA.out] at HNM
    clear htl
    obtain⟨aoT,capT,hvT,hcapT,hmaxT,HRDT⟩:=(HRD.tail 2 (Nat.succ_le_succ (Nat.succ_le_succ (Nat.zero_le _)))).open
    rw[show (a0 :: b0 :: t :: []).drop 2=t :: [] from rfl] at hvT HRDT hcapT
    obtain⟨_,bT,offT,rfl,hblT,_,_,hcellT⟩:=HRDT.at (Nat.succ_pos _)
    have HPT2:=lh hcellT
    have HVT:=lh hvT
    obtain⟨ao2,cap2,hv2,hcap2,hmax2,HRD2⟩:=(HRDT.tail 1 (Nat.succ_le_succ (Nat.zero_le _))).open
    have HRD2:=lh HRD2
    have HV2:=lh hv2
    have HMT:=lh (fun w h=>EO [] p ar (.slice ao2 0 cap2) w hm h (by decide) (fun t h=>by cases h))
    clear hcell HRD hv2 hm hvT hcellT HRDT
    cases q with
    | true =>
      have hz2:=lh (show z=2 from HZQ.out)
      go_wp2_with (first|(refine Ad rfl (Au (ty:=9) (u:=.string (bsL b0.t)) rfl rfl Tryz.underlying9 rfl ((L.bel.cell (p:=⟨b,_,none⟩) hbl).trans (HP.out 1 _ rfl 1 _ rfl))) ?_)|(refine A1 (by rfl) (Au (ty:=9) (u:=.string (bsL b0.t)) rfl rfl Tryz.underlying9 rfl ((L.bel.cell (p:=⟨b,_,none⟩) hbl).trans (HP.out 1 _ rfl 1 _ rfl))) ?_)|(refine Ad rfl (Au (ty:=9) (u:=.string (bsL a0.t)) rfl rfl Tryz.underlying9 rfl ((L.bel.cell (p:=⟨b,_,none⟩) hbl).trans (HP.out 0 _ rfl 1 _ rfl))) ?_)|(refine A1 (by rfl) (Au (ty:=9) (u:=.string (bsL a0.t)) rfl rfl Tryz.underlying9 rfl ((L.bel.cell (p:=⟨b,_,none⟩) hbl).trans (HP.out 0 _ rfl 1 _ rfl))) ?_)|(refine Ad rfl (Au (ty:=3) (u:=.int .i64 a0.k) rfl rfl Tryz.underlying3 rfl ((L.bel.cell (p:=⟨b,_,none⟩) hbl).trans (HP.out 0 _ rfl 0 _ rfl))) ?_)|(refine A1 (by rfl) (Au (ty:=3) (u:=.int .i64 a0.k) rfl rfl Tryz.underlying3 rfl ((L.bel.cell (p:=⟨b,_,none⟩) hbl).trans (HP.out 0 _ rfl 0 _ rfl))) ?_)|(refine A1 (by rfl) (Aj (B:=[58]) rfl rfl rfl HB58.out) ?_)|(go_at_call 230;(with_reducible refine (HNM.out _).mono ?_);rintro e wz ⟨rfl,hbz⟩;replace L:=L.below hbz;clear hbz)|(refine Ad rfl (Cp (k:=2) (size:=3) rfl rfl rfl Tryz.underlying318 AP (by omega) HVT.out) ?_)|(refine Ad rfl (Au (ty:=9) (u:=.string (bsL t.t)) rfl rfl Tryz.underlying9 rfl ((L.bel.cell (p:=⟨bT,_,none⟩) hblT).trans (HPT2.out 0 _ rfl 1 _ rfl))) ?_)|(refine Ad rfl (Cp (k:=1) (size:=3) rfl rfl rfl Tryz.underlying318 AP (by omega) HV2.out) ?_)|(refine Ad rfl (Aj (B:=[108,105]) rfl rfl rfl HQ.out) ?_)|(refine Ad rfl (Aj (B:=[46]) rfl rfl rfl H46.out) ?_)|(refine Ad rfl (Aj (B:=[46,115,112,97,99,101]) rfl rfl rfl HSP.out) ?_)|(go_at_call 231;(with_reducible refine (HPT.out _).mono ?_);rintro e wz ⟨rfl,hbz⟩;replace L:=L.below hbz;clear hbz)|(go_at_call 232;(with_reducible refine (HMT.out _ (HRD2.out.below L.bel)).mono ?_);rintro e wz ⟨va,rfl,hoa,hbz⟩;replace hoa:=Ay (base':=w.heap.size) hoa (Nat.le_trans L0.bel.size L.bel.size);replace L:=L.below hbz;clear hbz;obtain⟨aa,ca,rfl,hra⟩:=RdS.of_own Dp hoa;clear hra)|(go_at_call 233;(with_reducible refine (HOP.out _).mono ?_);rintro e wz ⟨rfl,hbz⟩;replace L:=L.below hbz;replace hoa:=Af hoa hbz;clear hbz)|(refine AF (ty:=209) L ([.string ⟨#[]⟩,.int .i64 0,.slice none 0 0,.int .i64 0,.int .i64 0,.int .i64 0]) (.agg (List.toArray ([.string ⟨#[]⟩,.int .i64 0,.slice none 0 0,.int .i64 0,.int .i64 0,.int .i64 0]))) rfl rfl (by kernel_rfl) rfl ?_;intro wq Lz Nz;replace hoa:=Af hoa Nz.bel;clear Nz;replace L:=Lz;clear Lz)|(refine Ag (ty:=209) L 0 rfl (stL ⟨t.t,op,ar,0,0,1⟩ (.slice aa ar.length ca)) (stL ⟨t.t,op,ar,0,0,1⟩ (.slice aa ar.length ca)) rfl rfl rfl rfl Az (BB _ _ rfl) rfl rfl ?_;intro wq Lz Nz;replace hoa:=Ai hoa (L.at (k:=0) rfl) (by decide) Nz;clear Nz;replace L:=Lz;clear Lz;(try simp only[List.set_cons_zero,List.set_cons_succ] at L))|(refine Aq (ty:=3) (u:=.int .i64 2) L 0 rfl (stL ⟨t.t,op,ar,0,0,2⟩ (.slice aa ar.length ca)) rfl rfl rfl rfl AW rfl rfl rfl ?_;intro wq Lz Nz;replace hoa:=Ai hoa (L.at (k:=0) rfl) (by decide) Nz;clear Nz;replace L:=Lz;clear Lz;(try simp only[List.set_cons_zero,List.set_cons_succ] at L)))
      have LJ:=L0.join L
      clear L
      have L:=LJ
      clear LJ
      simp only[List.cons_append,List.nil_append] at L
      (try simp only[Act.put,List.setIfInBounds_toArray,List.set_cons_zero,List.set_cons_succ])
      have hHeld:=L.drew.kept [0] rfl
      refine wp_region_held_drew (S:=Kept _) (by kernel_rfl) hHeld (fun hHeld=>?_)
      replace L:=L.drew
      replace hoa:=Af hoa (Below.drew (Below.refl _ _))
      refine wpAnyH_take (i:=0) (v:=?_) rfl (by kernel_rfl) (by kernel_rfl) (by kernel_rfl) (fun _ _ _ h=>h) (Or.inl ⟨by rfl,?_⟩) (by assumption) ?_
      rotate_left
      · intro w' hSw
        first|(go_simp;done)|(go_simp;with_reducible rfl)
      (try simp only[List.getElem_toArray,List.getElem_cons_succ,List.getElem_cons_zero,Act.put,List.setIfInBounds_toArray,List.set_cons_zero,List.set_cons_succ])
      refine wpAnyH_take (i:=1) (v:=.agg (List.toArray (stL ⟨t.t,op,ar,0,0,2⟩ (.slice aa ar.length ca)))) rfl (by kernel_rfl) (by kernel_rfl) (by kernel_rfl) (fun _ _ _ h=>h) (Ck (ty:=209) 0 rfl (stL ⟨t.t,op,ar,0,0,2⟩ (.slice aa ar.length ca)) (by rfl) rfl rfl Tryz.underlying209 rfl Az rfl) (by assumption) ?_
      (try simp only[List.getElem_toArray,List.getElem_cons_succ,List.getElem_cons_zero,Act.put,List.setIfInBounds_toArray,List.set_cons_zero,List.set_cons_succ])
      refine wpAnyH_take (i:=2) (v:=?_) rfl (by kernel_rfl) (by kernel_rfl) (by kernel_rfl) (fun _ _ _ h=>h) (Or.inl ⟨by rfl,?_⟩) (by assumption) ?_
      rotate_left
      · intro w' hSw
        first|(go_simp;done)|(go_simp;with_reducible rfl)
      (try simp only[List.getElem_toArray,List.getElem_cons_succ,List.getElem_cons_zero,Act.put,List.setIfInBounds_toArray,List.set_cons_zero,List.set_cons_succ])
      refine wpAnyH_ready (rs:=[3]) (by kernel_rfl) (by simp) ?_
      refine AllReadyH.cons rfl (fun K hK=>?_) AllReadyH.nil
      refine Ae (by rfl) (Am (ty:=209) L 1 rfl (stL ⟨t.t,op,ar,0,0,2⟩ (.slice aa ar.length ca)) (stL ⟨t.t,op,ar,0,0,2⟩ (.slice aa ar.length ca)) rfl rfl rfl Az (BB _ _ rfl) rfl rfl ?_)
      intro wq Lz Nz
      replace hoa:=Ai hoa (L.at (k:=1) rfl) (by decide) Nz
      clear Nz
      replace L:=Lz
      clear Lz
      simp only[List.set_cons_zero,List.set_cons_succ] at L
      refine hK.out _ _ (L.kept [0] rfl) (fun hHeld'=>?_)
      replace hHeld:=hHeld'
      clear hK K hHeld'
      (try simp only[List.getElem_toArray,List.getElem_cons_succ,List.getElem_cons_zero,Act.put,List.setIfInBounds_toArray,List.set_cons_zero,List.set_cons_succ])
      refine wpAnyH_take (i:=4) (v:=?_) rfl (by kernel_rfl) (by kernel_rfl) (by kernel_rfl) (fun _ _ _ h=>h) (Or.inl ⟨by rfl,?_⟩) (by assumption) ?_
      rotate_left
      · intro w' hSw
        first|(go_simp;done)|(go_simp;with_reducible rfl)
      (try simp only[List.getElem_toArray,List.getElem_cons_succ,List.getElem_cons_zero,Act.put,List.setIfInBounds_toArray,List.set_cons_zero,List.set_cons_succ])
      refine wpAnyH_done (by kernel_rfl) ?_ _
      clear hHeld
      go_wp2_with fail
      try go_simp
      have hl1:=AU L 1 rfl (stL ⟨t.t,op,ar,0,0,2⟩ (.slice aa ar.length ca)) rfl Tryz.underlying209 rfl Az
      rw[hz2.out]
      exact bodyPost_ret (v:=.tuple #[.string (bsL a0.t),.agg (stL ⟨t.t,op,ar,0,0,2⟩ (.slice aa ar.length ca)).toArray,.bool true]) (by simp [results,Tryz.results179,asAddr,hl1] <;> rfl) rfl ⟨_,rfl,hoa,L.bel⟩
    | false =>
      have hz2:=lh (show z=1 from HZQ.out)
      go_wp2_with (first|(refine Ad rfl (Au (ty:=9) (u:=.string (bsL b0.t)) rfl rfl Tryz.underlying9 rfl ((L.bel.cell (p:=⟨b,_,none⟩) hbl).trans (HP.out 1 _ rfl 1 _ rfl))) ?_)|(refine A1 (by rfl) (Au (ty:=9) (u:=.string (bsL b0.t)) rfl rfl Tryz.underlying9 rfl ((L.bel.cell (p:=⟨b,_,none⟩) hbl).trans (HP.out 1 _ rfl 1 _ rfl))) ?_)|(refine Ad rfl (Au (ty:=9) (u:=.string (bsL a0.t)) rfl rfl Tryz.underlying9 rfl ((L.bel.cell (p:=⟨b,_,none⟩) hbl).trans (HP.out 0 _ rfl 1 _ rfl))) ?_)|(refine A1 (by rfl) (Au (ty:=9) (u:=.string (bsL a0.t)) rfl rfl Tryz.underlying9 rfl ((L.bel.cell (p:=⟨b,_,none⟩) hbl).trans (HP.out 0 _ rfl 1 _ rfl))) ?_)|(refine Ad rfl (Au (ty:=3) (u:=.int .i64 a0.k) rfl rfl Tryz.underlying3 rfl ((L.bel.cell (p:=⟨b,_,none⟩) hbl).trans (HP.out 0 _ rfl 0 _ rfl))) ?_)|(refine A1 (by rfl) (Au (ty:=3) (u:=.int .i64 a0.k) rfl rfl Tryz.underlying3 rfl ((L.bel.cell (p:=⟨b,_,none⟩) hbl).trans (HP.out 0 _ rfl 0 _ rfl))) ?_)|(refine A1 (by rfl) (Aj (B:=[58]) rfl rfl rfl HB58.out) ?_)|(go_at_call 230;(with_reducible refine (HNM.out _).mono ?_);rintro e wz ⟨rfl,hbz⟩;replace L:=L.below hbz;clear hbz)|(refine Ad rfl (Cp (k:=2) (size:=3) rfl rfl rfl Tryz.underlying318 AP (by omega) HVT.out) ?_)|(refine Ad rfl (Au (ty:=9) (u:=.string (bsL t.t)) rfl rfl Tryz.underlying9 rfl ((L.bel.cell (p:=⟨bT,_,none⟩) hblT).trans (HPT2.out 0 _ rfl 1 _ rfl))) ?_)|(refine Ad rfl (Cp (k:=1) (size:=3) rfl rfl rfl Tryz.underlying318 AP (by omega) HV2.out) ?_)|(refine Ad rfl (Aj (B:=[108,105]) rfl rfl rfl HQ.out) ?_)|(refine Ad rfl (Aj (B:=[46]) rfl rfl rfl H46.out) ?_)|(refine Ad rfl (Aj (B:=[46,115,112,97,99,101]) rfl rfl rfl HSP.out) ?_)|(go_at_call 231;(with_reducible refine (HPT.out _).mono ?_);rintro e wz ⟨rfl,hbz⟩;replace L:=L.below hbz;clear hbz)|(go_at_call 232;(with_reducible refine (HMT.out _ (HRD2.out.below L.bel)).mono ?_);rintro e wz ⟨va,rfl,hoa,hbz⟩;replace hoa:=Ay (base':=w.heap.size) hoa (Nat.le_trans L0.bel.size L.bel.size);replace L:=L.below hbz;clear hbz;obtain⟨aa,ca,rfl,hra⟩:=RdS.of_own Dp hoa;clear hra)|(go_at_call 233;(with_reducible refine (HOP.out _).mono ?_);rintro e wz ⟨rfl,hbz⟩;replace L:=L.below hbz;replace hoa:=Af hoa hbz;clear hbz)|(refine AF (ty:=209) L ([.string ⟨#[]⟩,.int .i64 0,.slice none 0 0,.int .i64 0,.int .i64 0,.int .i64 0]) (.agg (List.toArray ([.string ⟨#[]⟩,.int .i64 0,.slice none 0 0,.int .i64 0,.int .i64 0,.int .i64 0]))) rfl rfl (by kernel_rfl) rfl ?_;intro wq Lz Nz;replace hoa:=Af hoa Nz.bel;clear Nz;replace L:=Lz;clear Lz)|(refine Ag (ty:=209) L 0 rfl (stL ⟨t.t,op,ar,0,0,1⟩ (.slice aa ar.length ca)) (stL ⟨t.t,op,ar,0,0,1⟩ (.slice aa ar.length ca)) rfl rfl rfl rfl Az (BB _ _ rfl) rfl rfl ?_;intro wq Lz Nz;replace hoa:=Ai hoa (L.at (k:=0) rfl) (by decide) Nz;clear Nz;replace L:=Lz;clear Lz;(try simp only[List.set_cons_zero,List.set_cons_succ] at L)))
      have LJ:=L0.join L
      clear L
      have L:=LJ
      clear LJ
      simp only[List.cons_append,List.nil_append] at L
      (try simp only[Act.put,List.setIfInBounds_toArray,List.set_cons_zero,List.set_cons_succ])
      have hHeld:=L.drew.kept [0] rfl
      refine wp_region_held_drew (S:=Kept _) (by kernel_rfl) hHeld (fun hHeld=>?_)
      replace L:=L.drew
      replace hoa:=Af hoa (Below.drew (Below.refl _ _))
      refine wpAnyH_take (i:=0) (v:=?_) rfl (by kernel_rfl) (by kernel_rfl) (by kernel_rfl) (fun _ _ _ h=>h) (Or.inl ⟨by rfl,?_⟩) (by assumption) ?_
      rotate_left
      · intro w' hSw
        first|(go_simp;done)|(go_simp;with_reducible rfl)
      (try simp only[List.getElem_toArray,List.getElem_cons_succ,List.getElem_cons_zero,Act.put,List.setIfInBounds_toArray,List.set_cons_zero,List.set_cons_succ])
      refine wpAnyH_take (i:=1) (v:=.agg (List.toArray (stL ⟨t.t,op,ar,0,0,1⟩ (.slice aa ar.length ca)))) rfl (by kernel_rfl) (by kernel_rfl) (by kernel_rfl) (fun _ _ _ h=>h) (Ck (ty:=209) 0 rfl (stL ⟨t.t,op,ar,0,0,1⟩ (.slice aa ar.length ca)) (by rfl) rfl rfl Tryz.underlying209 rfl Az rfl) (by assumption) ?_
      (try simp only[List.getElem_toArray,List.getElem_cons_succ,List.getElem_cons_zero,Act.put,List.setIfInBounds_toArray,List.set_cons_zero,List.set_cons_succ])
      refine wpAnyH_take (i:=2) (v:=?_) rfl (by kernel_rfl) (by kernel_rfl) (by kernel_rfl) (fun _ _ _ h=>h) (Or.inl ⟨by rfl,?_⟩) (by assumption) ?_
      rotate_left
      · intro w' hSw
        first|(go_simp;done)|(go_simp;with_reducible rfl)
      (try simp only[List.getElem_toArray,List.getElem_cons_succ,List.getElem_cons_zero,Act.put,List.setIfInBounds_toArray,List.set_cons_zero,List.set_cons_succ])
      refine wpAnyH_ready (rs:=[3]) (by kernel_rfl) (by simp) ?_
      refine AllReadyH.cons rfl (fun K hK=>?_) AllReadyH.nil
      refine Ae (by rfl) (Am (ty:=209) L 1 rfl (stL ⟨t.t,op,ar,0,0,1⟩ (.slice aa ar.length ca)) (stL ⟨t.t,op,ar,0,0,1⟩ (.slice aa ar.length ca)) rfl rfl rfl Az (BB _ _ rfl) rfl rfl ?_)
      intro wq Lz Nz
      replace hoa:=Ai hoa (L.at (k:=1) rfl) (by decide) Nz
      clear Nz
      replace L:=Lz
      clear Lz
      simp only[List.set_cons_zero,List.set_cons_succ] at L
      refine hK.out _ _ (L.kept [0] rfl) (fun hHeld'=>?_)
      replace hHeld:=hHeld'
      clear hK K hHeld'
      (try simp only[List.getElem_toArray,List.getElem_cons_succ,List.getElem_cons_zero,Act.put,List.setIfInBounds_toArray,List.set_cons_zero,List.set_cons_succ])
      refine wpAnyH_take (i:=4) (v:=?_) rfl (by kernel_rfl) (by kernel_rfl) (by kernel_rfl) (fun _ _ _ h=>h) (Or.inl ⟨by rfl,?_⟩) (by assumption) ?_
      rotate_left
      · intro w' hSw
        first|(go_simp;done)|(go_simp;with_reducible rfl)
      (try simp only[List.getElem_toArray,List.getElem_cons_succ,List.getElem_cons_zero,Act.put,List.setIfInBounds_toArray,List.set_cons_zero,List.set_cons_succ])
      refine wpAnyH_done (by kernel_rfl) ?_ _
      clear hHeld
      go_wp2_with fail
      try go_simp
      have hl1:=AU L 1 rfl (stL ⟨t.t,op,ar,0,0,1⟩ (.slice aa ar.length ca)) rfl Tryz.underlying209 rfl Az
      rw[hz2.out]
      exact bodyPost_ret (v:=.tuple #[.string (bsL a0.t),.agg (stL ⟨t.t,op,ar,0,0,1⟩ (.slice aa ar.length ca)).toArray,.bool true]) (by simp [results,Tryz.results179,asAddr,hl1] <;> rfl) rfl ⟨_,rfl,hoa,L.bel⟩
set_option maxRecDepth 100000 in
set_option maxHeartbeats 4000000 in
theorem parsed_both2 (s:List UInt8) (a0 b0 t r:Tk) (rs:List Tk) (st:St) (w:World) (hall:s.all J5=true) (ht:FF s=a0 :: b0 :: t :: r :: rs) (hl:s.length≤1000) (hb:b0.t=[58]) (ha:a0.k=1) (hn:Fd a0.t=true) (hst:CY (t :: r :: rs)=some st):Calls Tryz.prog 179 #[.string (bsL s)] w (Fx w a0.t (some st)):=by
 have HB58:=lh (show (b0.t == [58])=true by rw[hb];rfl)
 have q1:((a0.k:Int) != 1)=false:=by rw[ha];rfl
 clear hb ha
 have HNA:=lh hn
 clear hn
 obtain⟨hk,hh,hgap,p,ar,hp,hm,rfl⟩:=GN hst
 have H46:=lh (CA (cs:=[]) hh (c:=46) (by decide))
 have HSP:=lh (CA (cs:=[115,112,97,99,101]) hh (c:=46) (by decide))
 have HWD:=CA (cs:=[119,111,114,100]) hh (c:=46) (by decide)
 have HPT:=lh (fun w=>EL t.t p w hp (by intro e;rw[e] at HWD;simp at HWD) (by intro e;have:=HSP.out;rw[e] at this;simp at this))
 have HOP:=lh (fun w=>FR t.t w)
 have HGP:=lh hgap
 clear hk hh hgap hp HWD hst
 generalize Jw t.t=op at *
 obtain⟨z,hz⟩:∃ z:Nat,(if t.t=[108,105] then 2 else 1)=z:=⟨_,rfl⟩
 rw[hz]
 have HLI:∃ q:Bool,(t.t == [108,105])=q∧z=if q then 2 else 1:=by
  refine ⟨_,rfl,?_⟩
  rw[←hz]
  by_cases e:t.t=[108,105]
  · rw[if_pos e,if_pos (by rw[e];rfl)]
  · rw[if_neg e,if_neg (by simpa using e)]
 obtain⟨q,hq,hzq⟩:=HLI
 have HQ:=lh hq
 have HZQ:=lh hzq
 clear hq hz hzq
 have hg:r.g=true:=HGP.out r rs rfl
 obtain⟨n,hn⟩:∃ n,s.length=n:=⟨_,rfl⟩
 have hsz:=BI s
 rw[hn] at hsz
 have HN:=lh hn
 have HTK:=lh (fun w=>Dy s w (by omega) (fun c hc=>List.all_eq_true.1 hall c hc))
 rw[ht] at HTK
 have hsm:=Dx s
 rw[ht,hn] at hsm
 rw[hn] at hl
 have HSM:=lh hsm
 clear hn ht hsm
 have HALL:=lh hall
 clear hall
 have L0:=Lay.start w
 go_enter Tryz.func179,Tryz.ntmps179
 go_wp2_with (refine AF (ty:=209) L0 ([.string ⟨#[]⟩,.int .i64 0,.slice none 0 0,.int .i64 0,.int .i64 0,.int .i64 0]) (.agg (List.toArray ([.string ⟨#[]⟩,.int .i64 0,.slice none 0 0,.int .i64 0,.int .i64 0,.int .i64 0]))) rfl rfl (by kernel_rfl) rfl ?_;intro wy Lz Nz;clear Nz;replace L0:=Lz;clear Lz)
 go_loopw [0,5] (fun v i wq=>∃ k:Nat,k≤n∧v=.string (bsL s)∧i=.int .i64 k∧wq=wy) (fun _ i _=>n - (intOf i).toNat)
 case atStart=>exact⟨0,Nat.zero_le _,rfl,rfl,rfl⟩
 case round =>
  obtain⟨k,hk,rfl,rfl,rfl⟩:=hrel
  by_cases hlt:k<n
  · obtain⟨c,hc⟩:=A6 (xs:=s) (k:=k) (by rw[HN.out];exact hlt)
    have hch:=List.all_eq_true.1 HALL.out c (List.mem_of_getElem? hc)
    have h59:c.toNat≠59:=by
     intro e
     have:c=59:=by apply UInt8.toNat_inj.1;exact e
     rw[this] at hch
     revert hch;decide
    have b5:((c.toNat:Int) == 59)=false:=by simp;omega
    have HC:=lh hc
    clear hc hch h59
    go_wp2_with (first|(refine Ad rfl (Ax (l:=s) rfl rfl rfl Tryz.underlying9 HC.out) ?_))
    go_roundw
    case rel=>exact⟨k+1,by omega,rfl,by go_num,trivial⟩
    case measure=>simp [intOf];omega
  · obtain rfl:k=n:=by omega
    go_wp2_with fail
    refine (HTK.out _).mono ?_
    rintro e w1 ⟨vt,rfl,hot,hb1⟩
    have hrd:=RdS.of_owns Ge hot
    replace L0:=L0.below hb1
    clear hot hb1 HTK
    (obtain⟨ao,cap,rfl,hcap,hmax,HRD⟩:=hrd.open;clear hrd)
    obtain⟨_,b,off,rfl,hbl,_,_,hcell⟩:=HRD.at (Nat.succ_pos _)
    have HP:=lh hcell
    have L:=Lay.start w1
    unfold maxLen at hmax
    have htl:=HSM.out.2 a0 (List.mem_cons_self ..)
    have HNM:=lh (fun w=>GZ a0.t w (Nat.le_trans htl hl))
    rw[HNA.out] at HNM
    clear htl
    obtain⟨aoT,capT,hvT,hcapT,hmaxT,HRDT⟩:=(HRD.tail 2 (Nat.succ_le_succ (Nat.succ_le_succ (Nat.zero_le _)))).open
    rw[show (a0 :: b0 :: t :: r :: rs).drop 2=t :: r :: rs from rfl] at hvT HRDT hcapT
    obtain⟨_,bT,offT,rfl,hblT,_,_,hcellT⟩:=HRDT.at (Nat.succ_pos _)
    have HPT2:=lh hcellT
    have HVT:=lh hvT
    obtain⟨ao2,cap2,hv2,hcap2,hmax2,HRD2⟩:=(HRDT.tail 1 (Nat.succ_le_succ (Nat.zero_le _))).open
    rw[show (t :: r :: rs).drop 1=r :: rs from rfl] at hv2 HRD2 hcap2
    obtain⟨_,b2,off2,rfl,hbl2,_,_,hcell2⟩:=HRD2.at (Nat.succ_pos _)
    have HP2:=lh hcell2
    have HRD2:=lh HRD2
    have HV2:=lh hv2
    obtain⟨hsm1,hsm2⟩:=HSM.out
    obtain⟨m,hmm⟩:∃ m,rs.length=m:=⟨_,rfl⟩
    have HMT:=lh (fun w h=>EO (r :: rs) p ar (.slice (some ⟨b2,off2,none⟩) (r :: rs).length cap2) w hm h (by rw[List.length_cons,List.length_cons,List.length_cons] at hsm1;omega) (fun t' h'=>Nat.le_trans (hsm2 t' (List.mem_cons_of_mem _ (List.mem_cons_of_mem _ (List.mem_cons_of_mem _ h')))) hl))
    clear hcell HRD hv2 hm hsm1 hsm2 hcell2 hvT hcellT HRDT
    have e0:(a0 :: b0 :: t :: r :: rs).length=m+4:=by rw[List.length_cons,List.length_cons,List.length_cons,List.length_cons,hmm]
    have e1:(t :: r :: rs).length=m+2:=by rw[List.length_cons,List.length_cons,hmm]
    have e2:(r :: rs).length=m+1:=by rw[List.length_cons,hmm]
    rw[e0] at hcap HVT ⊢
    rw[e1] at hcapT HVT HV2
    rw[e2] at HMT hcap2 HV2 HRD2
    clear hmm e1 e2 e0
    cases q with
    | true =>
      have hz2:=lh (show z=2 from HZQ.out)
      go_wp2_with (first|(refine Ad rfl (Au (ty:=9) (u:=.string (bsL b0.t)) rfl rfl Tryz.underlying9 rfl ((L.bel.cell (p:=⟨b,_,none⟩) hbl).trans (HP.out 1 _ rfl 1 _ rfl))) ?_)|(refine A1 (by rfl) (Au (ty:=9) (u:=.string (bsL b0.t)) rfl rfl Tryz.underlying9 rfl ((L.bel.cell (p:=⟨b,_,none⟩) hbl).trans (HP.out 1 _ rfl 1 _ rfl))) ?_)|(refine Ad rfl (Au (ty:=9) (u:=.string (bsL a0.t)) rfl rfl Tryz.underlying9 rfl ((L.bel.cell (p:=⟨b,_,none⟩) hbl).trans (HP.out 0 _ rfl 1 _ rfl))) ?_)|(refine A1 (by rfl) (Au (ty:=9) (u:=.string (bsL a0.t)) rfl rfl Tryz.underlying9 rfl ((L.bel.cell (p:=⟨b,_,none⟩) hbl).trans (HP.out 0 _ rfl 1 _ rfl))) ?_)|(refine Ad rfl (Au (ty:=3) (u:=.int .i64 a0.k) rfl rfl Tryz.underlying3 rfl ((L.bel.cell (p:=⟨b,_,none⟩) hbl).trans (HP.out 0 _ rfl 0 _ rfl))) ?_)|(refine A1 (by rfl) (Au (ty:=3) (u:=.int .i64 a0.k) rfl rfl Tryz.underlying3 rfl ((L.bel.cell (p:=⟨b,_,none⟩) hbl).trans (HP.out 0 _ rfl 0 _ rfl))) ?_)|(refine A1 (by rfl) (Aj (B:=[58]) rfl rfl rfl HB58.out) ?_)|(go_at_call 230;(with_reducible refine (HNM.out _).mono ?_);rintro e wz ⟨rfl,hbz⟩;replace L:=L.below hbz;clear hbz)|(refine Ad rfl (Cp (k:=2) (size:=3) rfl rfl rfl Tryz.underlying318 AP (by omega) HVT.out) ?_)|(refine Ad rfl (Au (ty:=9) (u:=.string (bsL t.t)) rfl rfl Tryz.underlying9 rfl ((L.bel.cell (p:=⟨bT,_,none⟩) hblT).trans (HPT2.out 0 _ rfl 1 _ rfl))) ?_)|(refine Ad rfl (Au (ty:=4) (u:=.bool r.g) rfl rfl Tryz.underlying4 rfl ((L.bel.cell (p:=⟨b2,_,none⟩) hbl2).trans (HP2.out 0 _ rfl 2 _ rfl))) ?_)|(refine A1 (by rfl) (Au (ty:=4) (u:=.bool r.g) rfl rfl Tryz.underlying4 rfl ((L.bel.cell (p:=⟨b2,_,none⟩) hbl2).trans (HP2.out 0 _ rfl 2 _ rfl))) ?_)|(refine Ad rfl (Cp (k:=1) (size:=3) rfl rfl rfl Tryz.underlying318 AP (by omega) HV2.out) ?_)|(refine Ad rfl (Aj (B:=[108,105]) rfl rfl rfl HQ.out) ?_)|(refine Ad rfl (Aj (B:=[46]) rfl rfl rfl H46.out) ?_)|(refine Ad rfl (Aj (B:=[46,115,112,97,99,101]) rfl rfl rfl HSP.out) ?_)|(go_at_call 231;(with_reducible refine (HPT.out _).mono ?_);rintro e wz ⟨rfl,hbz⟩;replace L:=L.below hbz;clear hbz)|(go_at_call 232;(with_reducible refine (HMT.out _ (HRD2.out.below L.bel)).mono ?_);rintro e wz ⟨va,rfl,hoa,hbz⟩;replace hoa:=Ay (base':=w.heap.size) hoa (Nat.le_trans L0.bel.size L.bel.size);replace L:=L.below hbz;clear hbz;obtain⟨aa,ca,rfl,hra⟩:=RdS.of_own Dp hoa;clear hra)|(go_at_call 233;(with_reducible refine (HOP.out _).mono ?_);rintro e wz ⟨rfl,hbz⟩;replace L:=L.below hbz;replace hoa:=Af hoa hbz;clear hbz)|(refine AF (ty:=209) L ([.string ⟨#[]⟩,.int .i64 0,.slice none 0 0,.int .i64 0,.int .i64 0,.int .i64 0]) (.agg (List.toArray ([.string ⟨#[]⟩,.int .i64 0,.slice none 0 0,.int .i64 0,.int .i64 0,.int .i64 0]))) rfl rfl (by kernel_rfl) rfl ?_;intro wq Lz Nz;replace hoa:=Af hoa Nz.bel;clear Nz;replace L:=Lz;clear Lz)|(refine Ag (ty:=209) L 0 rfl (stL ⟨t.t,op,ar,0,0,1⟩ (.slice aa ar.length ca)) (stL ⟨t.t,op,ar,0,0,1⟩ (.slice aa ar.length ca)) rfl rfl rfl rfl Az (BB _ _ rfl) rfl rfl ?_;intro wq Lz Nz;replace hoa:=Ai hoa (L.at (k:=0) rfl) (by decide) Nz;clear Nz;replace L:=Lz;clear Lz;(try simp only[List.set_cons_zero,List.set_cons_succ] at L))|(refine Aq (ty:=3) (u:=.int .i64 2) L 0 rfl (stL ⟨t.t,op,ar,0,0,2⟩ (.slice aa ar.length ca)) rfl rfl rfl rfl AW rfl rfl rfl ?_;intro wq Lz Nz;replace hoa:=Ai hoa (L.at (k:=0) rfl) (by decide) Nz;clear Nz;replace L:=Lz;clear Lz;(try simp only[List.set_cons_zero,List.set_cons_succ] at L)))
      have LJ:=L0.join L
      clear L
      have L:=LJ
      clear LJ
      simp only[List.cons_append,List.nil_append] at L
      (try simp only[Act.put,List.setIfInBounds_toArray,List.set_cons_zero,List.set_cons_succ])
      have hHeld:=L.drew.kept [0] rfl
      refine wp_region_held_drew (S:=Kept _) (by kernel_rfl) hHeld (fun hHeld=>?_)
      replace L:=L.drew
      replace hoa:=Af hoa (Below.drew (Below.refl _ _))
      refine wpAnyH_take (i:=0) (v:=?_) rfl (by kernel_rfl) (by kernel_rfl) (by kernel_rfl) (fun _ _ _ h=>h) (Or.inl ⟨by rfl,?_⟩) (by assumption) ?_
      rotate_left
      · intro w' hSw
        first|(go_simp;done)|(go_simp;with_reducible rfl)
      (try simp only[List.getElem_toArray,List.getElem_cons_succ,List.getElem_cons_zero,Act.put,List.setIfInBounds_toArray,List.set_cons_zero,List.set_cons_succ])
      refine wpAnyH_take (i:=1) (v:=.agg (List.toArray (stL ⟨t.t,op,ar,0,0,2⟩ (.slice aa ar.length ca)))) rfl (by kernel_rfl) (by kernel_rfl) (by kernel_rfl) (fun _ _ _ h=>h) (Ck (ty:=209) 0 rfl (stL ⟨t.t,op,ar,0,0,2⟩ (.slice aa ar.length ca)) (by rfl) rfl rfl Tryz.underlying209 rfl Az rfl) (by assumption) ?_
      (try simp only[List.getElem_toArray,List.getElem_cons_succ,List.getElem_cons_zero,Act.put,List.setIfInBounds_toArray,List.set_cons_zero,List.set_cons_succ])
      refine wpAnyH_take (i:=2) (v:=?_) rfl (by kernel_rfl) (by kernel_rfl) (by kernel_rfl) (fun _ _ _ h=>h) (Or.inl ⟨by rfl,?_⟩) (by assumption) ?_
      rotate_left
      · intro w' hSw
        first|(go_simp;done)|(go_simp;with_reducible rfl)
      (try simp only[List.getElem_toArray,List.getElem_cons_succ,List.getElem_cons_zero,Act.put,List.setIfInBounds_toArray,List.set_cons_zero,List.set_cons_succ])
      refine wpAnyH_ready (rs:=[3]) (by kernel_rfl) (by simp) ?_
      refine AllReadyH.cons rfl (fun K hK=>?_) AllReadyH.nil
      refine Ae (by rfl) (Am (ty:=209) L 1 rfl (stL ⟨t.t,op,ar,0,0,2⟩ (.slice aa ar.length ca)) (stL ⟨t.t,op,ar,0,0,2⟩ (.slice aa ar.length ca)) rfl rfl rfl Az (BB _ _ rfl) rfl rfl ?_)
      intro wq Lz Nz
      replace hoa:=Ai hoa (L.at (k:=1) rfl) (by decide) Nz
      clear Nz
      replace L:=Lz
      clear Lz
      simp only[List.set_cons_zero,List.set_cons_succ] at L
      refine hK.out _ _ (L.kept [0] rfl) (fun hHeld'=>?_)
      replace hHeld:=hHeld'
      clear hK K hHeld'
      (try simp only[List.getElem_toArray,List.getElem_cons_succ,List.getElem_cons_zero,Act.put,List.setIfInBounds_toArray,List.set_cons_zero,List.set_cons_succ])
      refine wpAnyH_take (i:=4) (v:=?_) rfl (by kernel_rfl) (by kernel_rfl) (by kernel_rfl) (fun _ _ _ h=>h) (Or.inl ⟨by rfl,?_⟩) (by assumption) ?_
      rotate_left
      · intro w' hSw
        first|(go_simp;done)|(go_simp;with_reducible rfl)
      (try simp only[List.getElem_toArray,List.getElem_cons_succ,List.getElem_cons_zero,Act.put,List.setIfInBounds_toArray,List.set_cons_zero,List.set_cons_succ])
      refine wpAnyH_done (by kernel_rfl) ?_ _
      clear hHeld
      go_wp2_with fail
      try go_simp
      have hl1:=AU L 1 rfl (stL ⟨t.t,op,ar,0,0,2⟩ (.slice aa ar.length ca)) rfl Tryz.underlying209 rfl Az
      rw[hz2.out]
      exact bodyPost_ret (v:=.tuple #[.string (bsL a0.t),.agg (stL ⟨t.t,op,ar,0,0,2⟩ (.slice aa ar.length ca)).toArray,.bool true]) (by simp [results,Tryz.results179,asAddr,hl1] <;> rfl) rfl ⟨_,rfl,hoa,L.bel⟩
    | false =>
      have hz2:=lh (show z=1 from HZQ.out)
      go_wp2_with (first|(refine Ad rfl (Au (ty:=9) (u:=.string (bsL b0.t)) rfl rfl Tryz.underlying9 rfl ((L.bel.cell (p:=⟨b,_,none⟩) hbl).trans (HP.out 1 _ rfl 1 _ rfl))) ?_)|(refine A1 (by rfl) (Au (ty:=9) (u:=.string (bsL b0.t)) rfl rfl Tryz.underlying9 rfl ((L.bel.cell (p:=⟨b,_,none⟩) hbl).trans (HP.out 1 _ rfl 1 _ rfl))) ?_)|(refine Ad rfl (Au (ty:=9) (u:=.string (bsL a0.t)) rfl rfl Tryz.underlying9 rfl ((L.bel.cell (p:=⟨b,_,none⟩) hbl).trans (HP.out 0 _ rfl 1 _ rfl))) ?_)|(refine A1 (by rfl) (Au (ty:=9) (u:=.string (bsL a0.t)) rfl rfl Tryz.underlying9 rfl ((L.bel.cell (p:=⟨b,_,none⟩) hbl).trans (HP.out 0 _ rfl 1 _ rfl))) ?_)|(refine Ad rfl (Au (ty:=3) (u:=.int .i64 a0.k) rfl rfl Tryz.underlying3 rfl ((L.bel.cell (p:=⟨b,_,none⟩) hbl).trans (HP.out 0 _ rfl 0 _ rfl))) ?_)|(refine A1 (by rfl) (Au (ty:=3) (u:=.int .i64 a0.k) rfl rfl Tryz.underlying3 rfl ((L.bel.cell (p:=⟨b,_,none⟩) hbl).trans (HP.out 0 _ rfl 0 _ rfl))) ?_)|(refine A1 (by rfl) (Aj (B:=[58]) rfl rfl rfl HB58.out) ?_)|(go_at_call 230;(with_reducible refine (HNM.out _).mono ?_);rintro e wz ⟨rfl,hbz⟩;replace L:=L.below hbz;clear hbz)|(refine Ad rfl (Cp (k:=2) (size:=3) rfl rfl rfl Tryz.underlying318 AP (by omega) HVT.out) ?_)|(refine Ad rfl (Au (ty:=9) (u:=.string (bsL t.t)) rfl rfl Tryz.underlying9 rfl ((L.bel.cell (p:=⟨bT,_,none⟩) hblT).trans (HPT2.out 0 _ rfl 1 _ rfl))) ?_)|(refine Ad rfl (Au (ty:=4) (u:=.bool r.g) rfl rfl Tryz.underlying4 rfl ((L.bel.cell (p:=⟨b2,_,none⟩) hbl2).trans (HP2.out 0 _ rfl 2 _ rfl))) ?_)|(refine A1 (by rfl) (Au (ty:=4) (u:=.bool r.g) rfl rfl Tryz.underlying4 rfl ((L.bel.cell (p:=⟨b2,_,none⟩) hbl2).trans (HP2.out 0 _ rfl 2 _ rfl))) ?_)|(refine Ad rfl (Cp (k:=1) (size:=3) rfl rfl rfl Tryz.underlying318 AP (by omega) HV2.out) ?_)|(refine Ad rfl (Aj (B:=[108,105]) rfl rfl rfl HQ.out) ?_)|(refine Ad rfl (Aj (B:=[46]) rfl rfl rfl H46.out) ?_)|(refine Ad rfl (Aj (B:=[46,115,112,97,99,101]) rfl rfl rfl HSP.out) ?_)|(go_at_call 231;(with_reducible refine (HPT.out _).mono ?_);rintro e wz ⟨rfl,hbz⟩;replace L:=L.below hbz;clear hbz)|(go_at_call 232;(with_reducible refine (HMT.out _ (HRD2.out.below L.bel)).mono ?_);rintro e wz ⟨va,rfl,hoa,hbz⟩;replace hoa:=Ay (base':=w.heap.size) hoa (Nat.le_trans L0.bel.size L.bel.size);replace L:=L.below hbz;clear hbz;obtain⟨aa,ca,rfl,hra⟩:=RdS.of_own Dp hoa;clear hra)|(go_at_call 233;(with_reducible refine (HOP.out _).mono ?_);rintro e wz ⟨rfl,hbz⟩;replace L:=L.below hbz;replace hoa:=Af hoa hbz;clear hbz)|(refine AF (ty:=209) L ([.string ⟨#[]⟩,.int .i64 0,.slice none 0 0,.int .i64 0,.int .i64 0,.int .i64 0]) (.agg (List.toArray ([.string ⟨#[]⟩,.int .i64 0,.slice none 0 0,.int .i64 0,.int .i64 0,.int .i64 0]))) rfl rfl (by kernel_rfl) rfl ?_;intro wq Lz Nz;replace hoa:=Af hoa Nz.bel;clear Nz;replace L:=Lz;clear Lz)|(refine Ag (ty:=209) L 0 rfl (stL ⟨t.t,op,ar,0,0,1⟩ (.slice aa ar.length ca)) (stL ⟨t.t,op,ar,0,0,1⟩ (.slice aa ar.length ca)) rfl rfl rfl rfl Az (BB _ _ rfl) rfl rfl ?_;intro wq Lz Nz;replace hoa:=Ai hoa (L.at (k:=0) rfl) (by decide) Nz;clear Nz;replace L:=Lz;clear Lz;(try simp only[List.set_cons_zero,List.set_cons_succ] at L)))
      have LJ:=L0.join L
      clear L
      have L:=LJ
      clear LJ
      simp only[List.cons_append,List.nil_append] at L
      (try simp only[Act.put,List.setIfInBounds_toArray,List.set_cons_zero,List.set_cons_succ])
      have hHeld:=L.drew.kept [0] rfl
      refine wp_region_held_drew (S:=Kept _) (by kernel_rfl) hHeld (fun hHeld=>?_)
      replace L:=L.drew
      replace hoa:=Af hoa (Below.drew (Below.refl _ _))
      refine wpAnyH_take (i:=0) (v:=?_) rfl (by kernel_rfl) (by kernel_rfl) (by kernel_rfl) (fun _ _ _ h=>h) (Or.inl ⟨by rfl,?_⟩) (by assumption) ?_
      rotate_left
      · intro w' hSw
        first|(go_simp;done)|(go_simp;with_reducible rfl)
      (try simp only[List.getElem_toArray,List.getElem_cons_succ,List.getElem_cons_zero,Act.put,List.setIfInBounds_toArray,List.set_cons_zero,List.set_cons_succ])
      refine wpAnyH_take (i:=1) (v:=.agg (List.toArray (stL ⟨t.t,op,ar,0,0,1⟩ (.slice aa ar.length ca)))) rfl (by kernel_rfl) (by kernel_rfl) (by kernel_rfl) (fun _ _ _ h=>h) (Ck (ty:=209) 0 rfl (stL ⟨t.t,op,ar,0,0,1⟩ (.slice aa ar.length ca)) (by rfl) rfl rfl Tryz.underlying209 rfl Az rfl) (by assumption) ?_
      (try simp only[List.getElem_toArray,List.getElem_cons_succ,List.getElem_cons_zero,Act.put,List.setIfInBounds_toArray,List.set_cons_zero,List.set_cons_succ])
      refine wpAnyH_take (i:=2) (v:=?_) rfl (by kernel_rfl) (by kernel_rfl) (by kernel_rfl) (fun _ _ _ h=>h) (Or.inl ⟨by rfl,?_⟩) (by assumption) ?_
      rotate_left
      · intro w' hSw
        first|(go_simp;done)|(go_simp;with_reducible rfl)
      (try simp only[List.getElem_toArray,List.getElem_cons_succ,List.getElem_cons_zero,Act.put,List.setIfInBounds_toArray,List.set_cons_zero,List.set_cons_succ])
      refine wpAnyH_ready (rs:=[3]) (by kernel_rfl) (by simp) ?_
      refine AllReadyH.cons rfl (fun K hK=>?_) AllReadyH.nil
      refine Ae (by rfl) (Am (ty:=209) L 1 rfl (stL ⟨t.t,op,ar,0,0,1⟩ (.slice aa ar.length ca)) (stL ⟨t.t,op,ar,0,0,1⟩ (.slice aa ar.length ca)) rfl rfl rfl Az (BB _ _ rfl) rfl rfl ?_)
      intro wq Lz Nz
      replace hoa:=Ai hoa (L.at (k:=1) rfl) (by decide) Nz
      clear Nz
      replace L:=Lz
      clear Lz
      simp only[List.set_cons_zero,List.set_cons_succ] at L
      refine hK.out _ _ (L.kept [0] rfl) (fun hHeld'=>?_)
      replace hHeld:=hHeld'
      clear hK K hHeld'
      (try simp only[List.getElem_toArray,List.getElem_cons_succ,List.getElem_cons_zero,Act.put,List.setIfInBounds_toArray,List.set_cons_zero,List.set_cons_succ])
      refine wpAnyH_take (i:=4) (v:=?_) rfl (by kernel_rfl) (by kernel_rfl) (by kernel_rfl) (fun _ _ _ h=>h) (Or.inl ⟨by rfl,?_⟩) (by assumption) ?_
      rotate_left
      · intro w' hSw
        first|(go_simp;done)|(go_simp;with_reducible rfl)
      (try simp only[List.getElem_toArray,List.getElem_cons_succ,List.getElem_cons_zero,Act.put,List.setIfInBounds_toArray,List.set_cons_zero,List.set_cons_succ])
      refine wpAnyH_done (by kernel_rfl) ?_ _
      clear hHeld
      go_wp2_with fail
      try go_simp
      have hl1:=AU L 1 rfl (stL ⟨t.t,op,ar,0,0,1⟩ (.slice aa ar.length ca)) rfl Tryz.underlying209 rfl Az
      rw[hz2.out]
      exact bodyPost_ret (v:=.tuple #[.string (bsL a0.t),.agg (stL ⟨t.t,op,ar,0,0,1⟩ (.slice aa ar.length ca)).toArray,.bool true]) (by simp [results,Tryz.results179,asAddr,hl1] <;> rfl) rfl ⟨_,rfl,hoa,L.bel⟩
theorem parsed_any (s lab:List UInt8) (o:Option St) (w:World) (hp:GD s=some (lab,o)) (hl:s.length≤1000):Calls Tryz.prog 179 #[.string (bsL s)] w (Fx w lab o):=by
 obtain⟨hall,hp⟩:=parse_is hp
 cases hp with
 | empty h1 h2 h3=>subst h2 h3;exact parsed_empty s w hall h1 hl
 | plain t rest st h1 h2 h3 h4 h5 =>
   subst h4 h5
   cases rest with
   | nil=>exact parsed_one s t st w hall h1 hl h3
   | cons r rs=>exact parsed_more s t r rs st w hall h1 hl h3 (h2 r rs rfl)
 | label a b h1 h2 h3 h4 h5 h6=>subst h5 h6;exact parsed_label s a b w hall h1 hl h2 h3 h4
 | both a b t rest st h1 h2 h3 h4 h5 h6 h7 =>
   subst h6 h7
   cases rest with
   | nil=>exact parsed_both1 s a b t st w hall h1 hl h2 h3 h4 h5
   | cons r rs=>exact parsed_both2 s a b t r rs st w hall h1 hl h2 h3 h4 h5
end
end Go.Proofs.YtnmpfmapncicmaaGreat
