/-
  Texts joined: TaxVictim HoChosen HoMark. No law is proved here.
-/
import Derived.Test.YtbnngjhnkegliaaGreatB17
namespace Go.Proofs.YtbnngjhnkegliaaGreat
open Go.RowKit
def vicOk (l:List Clm) (t best:Int) (c:Clm):Bool:=validB c && decide (c.r<c.p) && (decide (best<0) || (match l[best.toNat]? with|some d=>poorB c d t|none=>false))
def vicF (l:List Clm) (t:Int):Nat→Int
 | 0 => -1
 | k+1=>match l[k]? with
   | some c=>if vicOk l t (vicF l t k) c then k else vicF l t k
   | none=>vicF l t k
theorem vicF_bd (l:List Clm) (t:Int):∀ k:Nat,-1≤vicF l t k∧vicF l t k<k
 | 0=>by simp [vicF]
 | k+1=>by
   have:=vicF_bd l t k
   unfold vicF
   split
   · split <;> omega
   · omega
theorem vicF_hit {l:List Clm} {t best:Int} {k:Nat} {c:Clm} (h:best=vicF l t k) (hc:l[k]?=some c) (ho:vicOk l t best c=true):(k:Int)=vicF l t (k+1):=by
 rw[vicF,hc];dsimp only;rw[←h,ho,if_pos rfl]
theorem vicF_miss {l:List Clm} {t best:Int} {k:Nat} {c:Clm} (h:best=vicF l t k) (hc:l[k]?=some c) (ho:vicOk l t best c=false):best=vicF l t (k+1):=by
 rw[vicF,hc];dsimp only;rw[←h,ho,if_neg (by simp)]
theorem vicOk_inv {l:List Clm} {t best:Int} {c:Clm} (h:validB c=false):vicOk l t best c=false:=by unfold vicOk;rw[h,Bool.false_and,Bool.false_and]
theorem vicOk_few {l:List Clm} {t best:Int} {c:Clm} (h:¬c.r<c.p):vicOk l t best c=false:=by unfold vicOk;rw[decide_eq_false h,Bool.and_false,Bool.false_and]
theorem vicOk_first {l:List Clm} {t best:Int} {c:Clm} (h1:validB c=true) (h2:c.r<c.p) (h3:best<0):vicOk l t best c=true:=by unfold vicOk;rw[h1,decide_eq_true h2,decide_eq_true h3];rfl
theorem vicOk_next {l:List Clm} {t:Int} {j:Nat} {c d:Clm} (h1:validB c=true) (h2:c.r<c.p) (h3:l[j]?=some d):vicOk l t (j:Int) c=poorB c d t:=by
 unfold vicOk;rw[h1,decide_eq_true h2,decide_eq_false (by omega),Int.toNat_natCast,h3];rfl
def victimR (l:List Clm) (t:Int):Int×Bool:=if taxB t=true∧0≤vicF l t l.length then (vicF l t l.length,true) else (0,false)
theorem poor_is {r l s p a r' l' s' p' a' t:Int} {x:Bool} (h:poorB ⟨r,l,s,p,a⟩ ⟨r',l',s',p',a'⟩ t=x) (w:World) :
    Calls Tryz.prog 112 #[.agg #[.int .i64 r,.int .i64 l,.int .i64 s,.int .i64 p,.int .i64 a],.agg #[.int .i64 r',.int .i64 l',.int .i64 s',.int .i64 p',.int .i64 a'],.int .i64 t] w (Ret w (.bool x)):=by subst h;exact idletax_Poorer_any _ _ _ _ _ _ _ _ _ _ _ w
theorem rpoor_is {r l s p a r' l' s' p' a' t:Int} {x:Bool} (h:poorB ⟨r,l,s,p,a⟩ ⟨r',l',s',p',a'⟩ t=x) (w:World) :
    Calls Tryz.prog 107 #[.agg #[.int .i64 r,.int .i64 l,.int .i64 s,.int .i64 p,.int .i64 a],.agg #[.int .i64 r',.int .i64 l',.int .i64 s',.int .i64 p',.int .i64 a'],.int .i64 t] w (Ret w (.bool x)):=by subst h;exact vmfleetref35_Poorer_any _ _ _ _ _ _ _ _ _ _ _ w
theorem victim_notax (va:Value) (_cs:List Clm) (t:Int) (w:World) (h:taxB t=false):Calls Tryz.prog 100 #[va,.int .i64 t] w (Ret w (.tuple #[.int .i64 0,.bool false])):=by
 have H:=lh h;clear h
 go_enter Tryz.func100,Tryz.ntmps100
 go_wp2_with fail
 refine (idletax_validTax_is H.out _).mono ?_
 rintro e w1 ⟨rfl,hb1⟩
 obtain⟨hc1,hf1⟩:=bcell hb1
 have hz1:=bsize hb1
 try simp only[sizes1] at hz1
 try simp only[sizes] at hc1 hf1
 go_wp2_with fail
 go_ret2
 exact Ret.mk bel
set_option maxHeartbeats 2000000 in
theorem victim_tax (va:Value) (cs:List Clm) (t:Int) (w:World) (ha:ClmRow w va cs) (h:taxB t=true):Calls Tryz.prog 100 #[va,.int .i64 t] w (Ret w (.tuple #[.int .i64 (victimR cs t).1,.bool (victimR cs t).2])):=by
 obtain⟨ao,ca,rfl,a1,a2,a3⟩:=ha.out
 unfold maxLen at a2
 clear ha
 obtain⟨n,hn⟩:∃ n,cs.length=n:=⟨_,rfl⟩
 rw[hn] at a1 a3 ⊢
 have hres:victimR cs t=if 0≤vicF cs t n then (vicF cs t n,true) else (0,false):=by unfold victimR;rw[hn];simp only[h,true_and]
 have HR:=lh hres;clear hres
 have HN:=lh hn;clear hn
 have H:=lh h;clear h
 go_enter Tryz.func100,Tryz.ntmps100
 go_wp2_with fail
 refine (idletax_validTax_is H.out _).mono ?_
 rintro e w1 ⟨rfl,hb1⟩
 obtain⟨hc1,hf1⟩:=bcell hb1
 have hz1:=bsize hb1
 try simp only[sizes1] at hz1
 try simp only[sizes] at hc1 hf1
 go_wp2_with fail
 go_loopw [6,14] (fun b i wr=>∃ (k:Nat) (best:Int),k≤n∧i=.int .i64 k∧b=.int .i64 best∧Hid (best=vicF cs t k) ∧ -1≤best∧best<k∧Below w.heap.size w wr) (fun _ i _=>n - (intOf i).toNat)
 case atStart=>exact⟨0,-1,Nat.zero_le _,rfl,rfl,rfl,by omega,by omega,bel⟩
 case round =>
  obtain⟨k,best,hk,rfl,rfl,HB,hb0,hbk,hbw⟩:=hrel
  clear hc1 hf1 hb1 hz1
  have hbs0:=hbw.size
  by_cases hlt:k<n
  · obtain⟨⟨r,l,s,p,a⟩,hx⟩:=get_lt (xs:=cs) (k:=k) (by rw[HN.out];exact hlt)
    obtain⟨b,off,rfl,hbs,hbc⟩:=a3.resolve_left (by omega)
    obtain⟨d0',d1',d2',d3',d4'⟩:=hbc k _ hx
    dsimp only at d0' d1' d2' d3' d4'
    have d0:=(hbw.cell (p:=⟨b,off+k*5,none⟩) hbs).trans d0'
    have d1:=(hbw.cell (p:=⟨b,off+k*5+1,none⟩) hbs).trans d1'
    have d2:=(hbw.cell (p:=⟨b,off+k*5+2,none⟩) hbs).trans d2'
    have d3:=(hbw.cell (p:=⟨b,off+k*5+3,none⟩) hbs).trans d3'
    have d4:=(hbw.cell (p:=⟨b,off+k*5+4,none⟩) hbs).trans d4'
    clear d0' d1' d2' d3' d4'
    have HX:=lh hx;clear hx
    have hbs1:b<wr.heap.size:=by omega
    cases hv:validB ⟨r,l,s,p,a⟩
    · have HV:=lh hv;clear hv
      go_wp2_with fail
      refine (idletax_Valid_is HV.out _).mono ?_
      rintro e w2 ⟨rfl,hb2⟩
      obtain⟨hc2,hf2⟩:=bcell hb2
      have hz2:=bsize hb2
      try simp only[sizes1] at hz2
      try simp only[sizes] at hc2 hf2
      go_wp2_with fail
      go_roundw
      case rel=>exact⟨k+1,_,by omega,by go_num,rfl,vicF_miss HB.out HX.out (vicOk_inv HV.out),by omega,by omega,bel⟩
      case measure=>simp [intOf];omega
    · have HV:=lh hv;clear hv
      by_cases hp:r<p
      · by_cases hneg:best<0
        · go_wp2_with fail
          refine (idletax_Valid_is HV.out _).mono ?_
          rintro e w2 ⟨rfl,hb2⟩
          obtain⟨hc2,hf2⟩:=bcell hb2
          have hz2:=bsize hb2
          try simp only[sizes1] at hz2
          try simp only[sizes] at hc2 hf2
          go_wp2_with fail
          refine wp_region_quiet_below (by kernel_rfl) (by kernel_rfl) ?_
          repeat (go_big_quiet_step (first|fail|fail))
          refine wpQuiet_nil ?_
          intro w3 hw3
          have hb3:=below_of_regrown hw3
          clear hw3
          obtain⟨hc3,hf3⟩:=bcell hb3
          have hz3:=bsize hb3
          try simp only[sizes1] at hz3
          try simp only[sizes] at hc3 hf3
          go_wp2_with fail
          go_roundw
          case rel=>exact⟨k+1,_,by omega,by go_num,rfl,vicF_hit HB.out HX.out (vicOk_first HV.out hp hneg),by omega,by omega,bel⟩
          case measure=>simp [intOf];omega
        · obtain⟨j,rfl⟩:∃ j:Nat,best=j:=⟨best.toNat,by omega⟩
          have hjk:j<k:=by omega
          have hdn:decide ((j:Int)<0)=false:=decide_eq_false (by omega)
          obtain⟨⟨r',l',s',p',a'⟩,hy⟩:=get_lt (xs:=cs) (k:=j) (by rw[HN.out];omega)
          obtain⟨e0',e1',e2',e3',e4'⟩:=hbc j _ hy
          dsimp only at e0' e1' e2' e3' e4'
          have e0:=(hbw.cell (p:=⟨b,off+j*5,none⟩) hbs).trans e0'
          have e1:=(hbw.cell (p:=⟨b,off+j*5+1,none⟩) hbs).trans e1'
          have e2:=(hbw.cell (p:=⟨b,off+j*5+2,none⟩) hbs).trans e2'
          have e3:=(hbw.cell (p:=⟨b,off+j*5+3,none⟩) hbs).trans e3'
          have e4:=(hbw.cell (p:=⟨b,off+j*5+4,none⟩) hbs).trans e4'
          clear e0' e1' e2' e3' e4'
          have HY:=lh hy;clear hy
          cases hpo:poorB ⟨r,l,s,p,a⟩ ⟨r',l',s',p',a'⟩ t
          · have HP:=lh hpo;clear hpo
            go_wp2_with fail
            refine (idletax_Valid_is HV.out _).mono ?_
            rintro e w2 ⟨rfl,hb2⟩
            obtain⟨hc2,hf2⟩:=bcell hb2
            have hz2:=bsize hb2
            try simp only[sizes1] at hz2
            try simp only[sizes] at hc2 hf2
            have hb2b:b<w2.heap.size:=by omega
            go_wp2_with fail
            refine wp_region_quiet_below (by kernel_rfl) (by kernel_rfl) ?_
            repeat (go_big_quiet_step (first|fail|(go_at_call 112;exact quiet_ret (poor_is HP.out _))))
            refine wpQuiet_nil ?_
            intro w3 hw3
            have hb3:=below_of_regrown hw3
            clear hw3
            obtain⟨hc3,hf3⟩:=bcell hb3
            have hz3:=bsize hb3
            try simp only[sizes1] at hz3
            try simp only[sizes] at hc3 hf3
            go_wp2_with fail
            go_roundw
            case rel=>exact⟨k+1,_,by omega,by go_num,rfl,vicF_miss HB.out HX.out ((vicOk_next HV.out hp HY.out).trans HP.out),by omega,by omega,bel⟩
            case measure=>simp [intOf];omega
          · have HP:=lh hpo;clear hpo
            go_wp2_with fail
            refine (idletax_Valid_is HV.out _).mono ?_
            rintro e w2 ⟨rfl,hb2⟩
            obtain⟨hc2,hf2⟩:=bcell hb2
            have hz2:=bsize hb2
            try simp only[sizes1] at hz2
            try simp only[sizes] at hc2 hf2
            have hb2b:b<w2.heap.size:=by omega
            go_wp2_with fail
            refine wp_region_quiet_below (by kernel_rfl) (by kernel_rfl) ?_
            repeat (go_big_quiet_step (first|fail|(go_at_call 112;exact quiet_ret (poor_is HP.out _))))
            refine wpQuiet_nil ?_
            intro w3 hw3
            have hb3:=below_of_regrown hw3
            clear hw3
            obtain⟨hc3,hf3⟩:=bcell hb3
            have hz3:=bsize hb3
            try simp only[sizes1] at hz3
            try simp only[sizes] at hc3 hf3
            go_wp2_with fail
            go_roundw
            case rel=>exact⟨k+1,_,by omega,by go_num,rfl,vicF_hit HB.out HX.out ((vicOk_next HV.out hp HY.out).trans HP.out),by omega,by omega,bel⟩
            case measure=>simp [intOf];omega
      · go_wp2_with fail
        refine (idletax_Valid_is HV.out _).mono ?_
        rintro e w2 ⟨rfl,hb2⟩
        obtain⟨hc2,hf2⟩:=bcell hb2
        have hz2:=bsize hb2
        try simp only[sizes1] at hz2
        try simp only[sizes] at hc2 hf2
        go_wp2_with fail
        go_roundw
        case rel=>exact⟨k+1,_,by omega,by go_num,rfl,vicF_miss HB.out HX.out (vicOk_few (show ¬r<p from by omega)),by omega,by omega,bel⟩
        case measure=>simp [intOf];omega
  · obtain rfl:k=n:=by omega
    by_cases hneg:best<0
    · go_wp2_with fail
      go_ret2
      exact Ret.mk' (by rw[HR.out,←HB.out,if_neg (by omega)];rfl) bel
    · go_wp2_with fail
      go_ret2
      exact Ret.mk' (by rw[HR.out,←HB.out,if_pos (by omega)];rfl) bel
theorem idletax_Victim_any (va:Value) (cs:List Clm) (t:Int) (w:World) (ha:ClmRow w va cs):Calls Tryz.prog 100 #[va,.int .i64 t] w (Ret w (.tuple #[.int .i64 (victimR cs t).1,.bool (victimR cs t).2])):=by
 cases h:taxB t
 · have e:victimR cs t=(0,false):=by unfold victimR;rw[if_neg (by simp [h])]
   rw[e]
   exact victim_notax va cs t w h
 · exact victim_tax va cs t w ha h
theorem payer_notax (va:Value) (cs:List Clm) (t:Int) (w:World) (ha:ClmRow w va cs) (h:taxB t=false):Calls Tryz.prog 90 #[va,.int .i64 t] w (Ret w (.tuple #[.int .i64 0,.bool false])):=by
 obtain⟨ao,ca,rfl,a1,a2,a3⟩:=ha.out
 unfold maxLen at a2
 clear ha
 obtain⟨n,hn⟩:∃ n,cs.length=n:=⟨_,rfl⟩
 rw[hn] at a1 a3 ⊢
 have H:=lh h;clear h
 by_cases h0:0<n
 · go_enter Tryz.func90,Tryz.ntmps90
   go_wp2_with fail
   refine wp_loop_rounds 1 ?_
   rw[rounds_succ]
   go_wp2_with fail
   refine (vmfleetref35_taxed_is H.out _).mono ?_
   rintro e w1 ⟨rfl,hb1⟩
   obtain⟨hc1,hf1⟩:=bcell hb1
   have hz1:=bsize hb1
   try simp only[sizes1] at hz1
   try simp only[sizes] at hc1 hf1
   go_wp2_with fail
   go_ret2
   exact Ret.mk bel
 · obtain rfl:n=0:=by omega
   go_enter Tryz.func90,Tryz.ntmps90
   go_wp2_with fail
   refine wp_loop_rounds 1 ?_
   rw[rounds_succ]
   go_wp2_with fail
   go_ret2
   exact Ret.mk bel
set_option maxHeartbeats 2000000 in
theorem payer_tax (va:Value) (cs:List Clm) (t:Int) (w:World) (ha:ClmRow w va cs) (h:taxB t=true):Calls Tryz.prog 90 #[va,.int .i64 t] w (Ret w (.tuple #[.int .i64 (victimR cs t).1,.bool (victimR cs t).2])):=by
 obtain⟨ao,ca,rfl,a1,a2,a3⟩:=ha.out
 unfold maxLen at a2
 clear ha
 obtain⟨n,hn⟩:∃ n,cs.length=n:=⟨_,rfl⟩
 rw[hn] at a1 a3 ⊢
 have hres:victimR cs t=if 0≤vicF cs t n then (vicF cs t n,true) else (0,false):=by unfold victimR;rw[hn];simp only[h,true_and]
 have HR:=lh hres;clear hres
 have HN:=lh hn;clear hn
 have H:=lh h;clear h
 go_enter Tryz.func90,Tryz.ntmps90
 go_wp2_with fail
 go_loopw [6,7] (fun b i wr=>∃ (k:Nat) (best:Int),k≤n∧i=.int .i64 k∧b=.int .i64 best∧Hid (best=vicF cs t k) ∧ -1≤best∧best<k∧Below w.heap.size w wr) (fun _ i _=>n - (intOf i).toNat)
 case atStart=>exact⟨0,-1,Nat.zero_le _,rfl,rfl,rfl,by omega,by omega,bel⟩
 case round =>
  obtain⟨k,best,hk,rfl,rfl,HB,hb0,hbk,hbw⟩:=hrel
  have hbs0:=hbw.size
  by_cases hlt:k<n
  · obtain⟨⟨r,l,s,p,a⟩,hx⟩:=get_lt (xs:=cs) (k:=k) (by rw[HN.out];exact hlt)
    obtain⟨b,off,rfl,hbs,hbc⟩:=a3.resolve_left (by omega)
    obtain⟨d0',d1',d2',d3',d4'⟩:=hbc k _ hx
    dsimp only at d0' d1' d2' d3' d4'
    have d0:=(hbw.cell (p:=⟨b,off+k*5,none⟩) hbs).trans d0'
    have d1:=(hbw.cell (p:=⟨b,off+k*5+1,none⟩) hbs).trans d1'
    have d2:=(hbw.cell (p:=⟨b,off+k*5+2,none⟩) hbs).trans d2'
    have d3:=(hbw.cell (p:=⟨b,off+k*5+3,none⟩) hbs).trans d3'
    have d4:=(hbw.cell (p:=⟨b,off+k*5+4,none⟩) hbs).trans d4'
    clear d0' d1' d2' d3' d4'
    have HX:=lh hx;clear hx a3
    have hbs1:b<wr.heap.size:=by omega
    cases hv:validB ⟨r,l,s,p,a⟩
    · have HV:=lh hv;clear hv
      go_wp2_with fail
      refine (vmfleetref35_taxed_is H.out _).mono ?_
      rintro e w2 ⟨rfl,hb2⟩
      obtain⟨hc2,hf2⟩:=bcell hb2
      have hz2:=bsize hb2
      try simp only[sizes1] at hz2
      try simp only[sizes] at hc2 hf2
      have hb2b:b<w2.heap.size:=by omega
      go_wp2_with fail
      refine wp_region_quiet_below (by kernel_rfl) (by kernel_rfl) ?_
      repeat (go_big_quiet_step (first|fail|(go_at_call 54;exact quiet_ret (vmfleetref35_ValidClaim_is HV.out _))))
      refine wpQuiet_nil ?_
      intro w3 hw3
      have hb3:=below_of_regrown hw3
      clear hw3
      obtain⟨hc3,hf3⟩:=bcell hb3
      have hz3:=bsize hb3
      try simp only[sizes1] at hz3
      try simp only[sizes] at hc3 hf3
      go_wp2_with fail
      go_roundw
      case rel=>exact⟨k+1,_,by omega,by go_num,rfl,vicF_miss HB.out HX.out (vicOk_inv HV.out),by omega,by omega,bel⟩
      case measure=>simp [intOf];omega
    · have HV:=lh hv;clear hv
      by_cases hp:r<p
      · have hpd:decide (r<p)=true:=decide_eq_true hp
        by_cases hneg:best<0
        · obtain rfl:best = -1:=by omega
          go_wp2_with fail
          refine (vmfleetref35_taxed_is H.out _).mono ?_
          rintro e w2 ⟨rfl,hb2⟩
          obtain⟨hc2,hf2⟩:=bcell hb2
          have hz2:=bsize hb2
          try simp only[sizes1] at hz2
          try simp only[sizes] at hc2 hf2
          have hb2b:b<w2.heap.size:=by omega
          go_wp2_with fail
          refine wp_region_quiet_below (by kernel_rfl) (by kernel_rfl) ?_
          repeat (go_big_quiet_step (first|fail|(go_at_call 54;exact quiet_ret (vmfleetref35_ValidClaim_is HV.out _))))
          refine wpQuiet_nil ?_
          intro w3 hw3
          have hb3:=below_of_regrown hw3
          clear hw3
          obtain⟨hc3,hf3⟩:=bcell hb3
          have hz3:=bsize hb3
          try simp only[sizes1] at hz3
          try simp only[sizes] at hc3 hf3
          go_wp2_with fail
          go_roundw
          case rel=>exact⟨k+1,_,by omega,by go_num,rfl,vicF_hit HB.out HX.out (vicOk_first HV.out hp hneg),by omega,by omega,bel⟩
          case measure=>simp [intOf];omega
        · obtain⟨j,rfl⟩:∃ j:Nat,best=j:=⟨best.toNat,by omega⟩
          have hjk:j<k:=by omega
          have hdn:decide ((j:Int)<0)=false:=decide_eq_false (by omega)
          obtain⟨⟨r',l',s',p',a'⟩,hy⟩:=get_lt (xs:=cs) (k:=j) (by rw[HN.out];omega)
          obtain⟨e0',e1',e2',e3',e4'⟩:=hbc j _ hy
          dsimp only at e0' e1' e2' e3' e4'
          have e0:=(hbw.cell (p:=⟨b,off+j*5,none⟩) hbs).trans e0'
          have e1:=(hbw.cell (p:=⟨b,off+j*5+1,none⟩) hbs).trans e1'
          have e2:=(hbw.cell (p:=⟨b,off+j*5+2,none⟩) hbs).trans e2'
          have e3:=(hbw.cell (p:=⟨b,off+j*5+3,none⟩) hbs).trans e3'
          have e4:=(hbw.cell (p:=⟨b,off+j*5+4,none⟩) hbs).trans e4'
          clear e0' e1' e2' e3' e4'
          have HY:=lh hy;clear hy
          cases hpo:poorB ⟨r,l,s,p,a⟩ ⟨r',l',s',p',a'⟩ t
          · have HP:=lh hpo;clear hpo
            go_wp2_with fail
            refine (vmfleetref35_taxed_is H.out _).mono ?_
            rintro e w2 ⟨rfl,hb2⟩
            obtain⟨hc2,hf2⟩:=bcell hb2
            have hz2:=bsize hb2
            try simp only[sizes1] at hz2
            try simp only[sizes] at hc2 hf2
            have hb2b:b<w2.heap.size:=by omega
            go_wp2_with fail
            refine wp_region_quiet_below (by kernel_rfl) (by kernel_rfl) ?_
            repeat (go_big_quiet_step (first|fail|(go_at_call 54;exact quiet_ret (vmfleetref35_ValidClaim_is HV.out _))|(go_at_call 107;exact quiet_ret (rpoor_is HP.out _))))
            refine wpQuiet_nil ?_
            intro w3 hw3
            have hb3:=below_of_regrown hw3
            clear hw3
            obtain⟨hc3,hf3⟩:=bcell hb3
            have hz3:=bsize hb3
            try simp only[sizes1] at hz3
            try simp only[sizes] at hc3 hf3
            go_wp2_with fail
            go_roundw
            case rel=>exact⟨k+1,_,by omega,by go_num,rfl,vicF_miss HB.out HX.out ((vicOk_next HV.out hp HY.out).trans HP.out),by omega,by omega,bel⟩
            case measure=>simp [intOf];omega
          · have HP:=lh hpo;clear hpo
            go_wp2_with fail
            refine (vmfleetref35_taxed_is H.out _).mono ?_
            rintro e w2 ⟨rfl,hb2⟩
            obtain⟨hc2,hf2⟩:=bcell hb2
            have hz2:=bsize hb2
            try simp only[sizes1] at hz2
            try simp only[sizes] at hc2 hf2
            have hb2b:b<w2.heap.size:=by omega
            go_wp2_with fail
            refine wp_region_quiet_below (by kernel_rfl) (by kernel_rfl) ?_
            repeat (go_big_quiet_step (first|fail|(go_at_call 54;exact quiet_ret (vmfleetref35_ValidClaim_is HV.out _))|(go_at_call 107;exact quiet_ret (rpoor_is HP.out _))))
            refine wpQuiet_nil ?_
            intro w3 hw3
            have hb3:=below_of_regrown hw3
            clear hw3
            obtain⟨hc3,hf3⟩:=bcell hb3
            have hz3:=bsize hb3
            try simp only[sizes1] at hz3
            try simp only[sizes] at hc3 hf3
            go_wp2_with fail
            go_roundw
            case rel=>exact⟨k+1,_,by omega,by go_num,rfl,vicF_hit HB.out HX.out ((vicOk_next HV.out hp HY.out).trans HP.out),by omega,by omega,bel⟩
            case measure=>simp [intOf];omega
      · have hpd:decide (r<p)=false:=decide_eq_false hp
        go_wp2_with fail
        refine (vmfleetref35_taxed_is H.out _).mono ?_
        rintro e w2 ⟨rfl,hb2⟩
        obtain⟨hc2,hf2⟩:=bcell hb2
        have hz2:=bsize hb2
        try simp only[sizes1] at hz2
        try simp only[sizes] at hc2 hf2
        have hb2b:b<w2.heap.size:=by omega
        go_wp2_with fail
        refine wp_region_quiet_below (by kernel_rfl) (by kernel_rfl) ?_
        repeat (go_big_quiet_step (first|fail|(go_at_call 54;exact quiet_ret (vmfleetref35_ValidClaim_is HV.out _))))
        refine wpQuiet_nil ?_
        intro w3 hw3
        have hb3:=below_of_regrown hw3
        clear hw3
        obtain⟨hc3,hf3⟩:=bcell hb3
        have hz3:=bsize hb3
        try simp only[sizes1] at hz3
        try simp only[sizes] at hc3 hf3
        go_wp2_with fail
        go_roundw
        case rel=>exact⟨k+1,_,by omega,by go_num,rfl,vicF_miss HB.out HX.out (vicOk_few (show ¬r<p from by omega)),by omega,by omega,bel⟩
        case measure=>simp [intOf];omega
  · obtain rfl:k=n:=by omega
    by_cases hneg:best<0
    · go_wp2_with fail
      go_ret2
      exact Ret.mk' (by rw[HR.out,←HB.out,if_neg (by omega)];rfl) bel
    · go_wp2_with fail
      go_ret2
      exact Ret.mk' (by rw[HR.out,←HB.out,if_pos (by omega)];rfl) bel
theorem vmfleetref35_Payer_any (va:Value) (cs:List Clm) (t:Int) (w:World) (ha:ClmRow w va cs):Calls Tryz.prog 90 #[va,.int .i64 t] w (Ret w (.tuple #[.int .i64 (victimR cs t).1,.bool (victimR cs t).2])):=by
 cases h:taxB t
 · have e:victimR cs t=(0,false):=by unfold victimR;rw[if_neg (by simp [h])]
   rw[e]
   exact payer_notax va cs t w ha h
 · exact payer_tax va cs t w ha h
def Ho.claims (H:Ho):List Clm:=List.zipWith (fun g l=>{ g.c with p:=((l.countP hasB:Nat):Int) }) H.G H.P.M
def Ho.chosen (H:Ho) (i:Nat):Int:=if (victimR H.claims H.t).2 then (victimR H.claims H.t).1 else i
theorem info_clm:(Tryz.prog.info? 32).map (fun i=>(i.zero,i.size,i.bytes))=some (some (.agg #[.int .i64 0,.int .i64 0,.int .i64 0,.int .i64 0,.int .i64 0]),5,40):=by kernel_rfl
theorem one_clm (r l s p a:Int):∀ u∈[Value.int .i64 r,.int .i64 l,.int .i64 s,.int .i64 p,.int .i64 a],u.oneCell'=true:=by
 intro u hu
 simp at hu
 rcases hu with rfl|rfl|rfl|rfl|rfl <;> rfl
set_option maxRecDepth 100000 in
set_option maxHeartbeats 8000000 in
theorem hchosen_ok (v:Value) (H:Ho) (gi:Nat) (w:World) (ha:HoAt w v H) (hok:H.Ok):Calls Tryz.prog 81 #[v,.int .i64 gi] w (Ret w (.int .i64 (H.chosen gi))):=by
 have hcl:H.claims.length=H.G.length:=by unfold Ho.claims;rw[List.length_zipWith,hok.m,Nat.min_self]
 have hce:∀ (i:Nat) (g:Gm) (l:List Int),H.G[i]?=some g→H.P.M[i]?=some l→H.claims[i]?=some { g.c with p:=((l.countP hasB:Nat):Int) }:=fun i g l hg hl=>by
  unfold Ho.claims
  rw[List.getElem?_zipWith,hg,hl]
 unfold Ho.chosen
 obtain⟨cs,hcs⟩:∃ cs,H.claims=cs:=⟨_,rfl⟩
 rw[hcs] at hcl hce ⊢
 have hbd:=hok.bounds
 obtain⟨of,or',om,og,kf,kr,km,kg,n,r,m,q,tx,dx,sx,HN,HR,HM,HQ,HT,HD,HS,rfl,kf1,kf2,kr1,kr2,km1,km2,kg1,kg2,h⟩:=HoAt.opened ha
 rw[HT.out]
 have hmq:m=q:=by rw[←HM.out,←HQ.out,hok.m]
 have HMQ:=lh hmq;clear hmq
 rw[HN.out,HM.out,HQ.out] at hbd
 rw[HQ.out] at hcl
 have VC:=fun va w (h:ClmRow w va cs)=>idletax_Victim_any va cs tx w h
 obtain⟨v1,hv1⟩:∃ x,(victimR cs tx).1=x:=⟨_,rfl⟩
 obtain⟨v2,hv2⟩:∃ x,(victimR cs tx).2=x:=⟨_,rfl⟩
 rw[hv1,hv2] at VC ⊢
 have HVC:=lh VC;clear VC hv1 hv2 hcs
 have HCL:=lh hcl;clear hcl
 have HCE:=lh hce;clear hce
 have HOK:=lh hok;clear hok
 have H0:=lh h
 obtain⟨i0,hi0,iz0,iz1,iz2⟩:=info_parts info_clm
 have D1:=HasBlock.made w #[.slice of n kf,.slice or' r kr,.slice om m km,.slice og q kg,.int .i64 tx,.int .u64 dx,.int .i64 sx] 30
 have hbw:Below w.heap.size w (w.alloc (.cells #[.slice of n kf,.slice or' r kr,.slice om m km,.slice og q kg,.int .i64 tx,.int .u64 dx,.int .i64 sx] 30)):=(Below.refl _ _).alloc (nlr _) _
 replace h:=h.below hbw
 clear h
 have hz:w.heap.size+1≤(w.alloc (.cells #[.slice of n kf,.slice or' r kr,.slice om m km,.slice og q kg,.int .i64 tx,.int .u64 dx,.int .i64 sx] 30)).heap.size:=by simp only[sizes];omega
 cases v2
 · rw[if_neg (by decide)]
   go_enter Tryz.func81,Tryz.ntmps81
   go_wp2_with fail
   go_loopw [5,14] (fun sv iv wr=>∃ (i:Nat) (o:Option Addr) (cp:Nat),i≤q∧sv=.slice o i cp∧iv=.int .i64 i∧i≤cp∧cp≤9223372036854775807∧HasBlock wr w.heap.size #[.slice of n kf,.slice or' r kr,.slice om m km,.slice og q kg,.int .i64 tx,.int .u64 dx,.int .i64 sx] 30∧wr.ownsRow (w.heap.size+1) 32 5 (.slice o i cp) i ((cs.take i).flatMap clmCells)∧Below w.heap.size w wr∧w.heap.size+1≤wr.heap.size) (fun _ iv _=>q - (intOf iv).toNat)
   case atStart=>exact⟨0,none,0,by omega,rfl,rfl,nlr _,by omega,D1,World.ownsRow_nil _ _ _ _,hbw,hz⟩
   case round =>
    clear D1 hbw hz
    obtain⟨i,o,cp,hi,rfl,rfl,hc1,hc2,D1,hO,hbw,hz⟩:=hrel
    by_cases hlt:i<q
    · obtain⟨g,hg⟩:=get_lt (xs:=H.G) (k:=i) (by rw[HQ.out];exact hlt)
      obtain⟨l,hl,hgo⟩:=HOK.out.page hg
      have hll:=HOK.out.p.l l (mem_at hl)
      have hce:=HCE.out i g l hg hl
      have htk:(cs.take (i+1)).flatMap clmCells=(cs.take i).flatMap clmCells++clmCells { g.c with p:=((l.countP hasB:Nat):Int) }:=by
       rw[List.take_add_one,hce,List.flatMap_append]
       simp
      obtain⟨gb,goff,so,sc,uo,uc,eo,ec,rfl,hgb,s1,s2,u1,u2,e3,e4,cs',hS,hU,hE⟩:=H0.out.guest hg
      obtain⟨mb,moff,lo,lc,rfl,hmb,cm0,lc1,lc2,hL⟩:=H0.out.p.guest hl
      have CHc:=fun w h=>hcharge_any lo lc l w h (by omega)
      clear hS hU hE hce hg hl hgo s1 u1 e3
      obtain⟨⟨rr,cl,ss,pp,aa⟩,S,U,hd,E⟩:=g
      dsimp only at htk cs'
      obtain⟨x,hx⟩:∃ x,l.countP hasB=x:=⟨_,rfl⟩
      obtain⟨ql,hql⟩:∃ x,l.length=x:=⟨_,rfl⟩
      rw[hx] at CHc htk
      rw[hql] at CHc cm0 lc1 hL hll
      have HTK:=lh htk;clear htk hx hql
      have HCH:=lh CHc;clear CHc
      have HLL:=lh hL;clear hL
      have c0:wr.cell? ⟨gb,goff+i*9,none⟩=_:=(hbw.cell (p:=⟨gb,goff+i*9,none⟩) hgb).trans (cs' 0 _ rfl)
      have c1:wr.cell? ⟨gb,goff+i*9+1,none⟩=_:=(hbw.cell (p:=⟨gb,goff+i*9+1,none⟩) hgb).trans (cs' 1 _ rfl)
      have c2:wr.cell? ⟨gb,goff+i*9+2,none⟩=_:=(hbw.cell (p:=⟨gb,goff+i*9+2,none⟩) hgb).trans (cs' 2 _ rfl)
      have c3:wr.cell? ⟨gb,goff+i*9+3,none⟩=_:=(hbw.cell (p:=⟨gb,goff+i*9+3,none⟩) hgb).trans (cs' 3 _ rfl)
      have c4:wr.cell? ⟨gb,goff+i*9+4,none⟩=_:=(hbw.cell (p:=⟨gb,goff+i*9+4,none⟩) hgb).trans (cs' 4 _ rfl)
      have c5:wr.cell? ⟨gb,goff+i*9+5,none⟩=_:=(hbw.cell (p:=⟨gb,goff+i*9+5,none⟩) hgb).trans (cs' 5 _ rfl)
      have c6:wr.cell? ⟨gb,goff+i*9+6,none⟩=_:=(hbw.cell (p:=⟨gb,goff+i*9+6,none⟩) hgb).trans (cs' 6 _ rfl)
      have c7:wr.cell? ⟨gb,goff+i*9+7,none⟩=_:=(hbw.cell (p:=⟨gb,goff+i*9+7,none⟩) hgb).trans (cs' 7 _ rfl)
      have c8:wr.cell? ⟨gb,goff+i*9+8,none⟩=_:=(hbw.cell (p:=⟨gb,goff+i*9+8,none⟩) hgb).trans (cs' 8 _ rfl)
      clear cs'
      dsimp only at c0 c1 c2 c3 c4 c5 c6 c7 c8
      have HOW:=lh hO;clear hO
      have i0':(0:Int)≤(i:Int):=by omega
      have im:(i:Int)<(m:Int):=by have:=HMQ.out;omega
      have iq:(i:Int)<(q:Int):=by omega
      have cm:=(hbw.cell (p:=⟨mb,moff+i,none⟩) hmb).trans cm0
      have hmb2:mb<wr.heap.size:=by have:=hbw.size;omega
      obtain⟨D1_c,D1_f,D1_z⟩:=D1.all
      go_wp2_with fail
      clear D1_c D1_f D1_z
      clear c0 c1 c2 c3 c4 c5 c6 c7 c8
      have DC:=HasBlock.made (wr.alloc (.cells #[.int .i64 rr,.int .i64 cl,.int .i64 ss,.int .i64 pp,.int .i64 aa,.slice so S.length sc,.slice uo U.length uc,.int .i64 hd,.slice eo E.length ec] 49)) #[.int .i64 rr,.int .i64 cl,.int .i64 ss,.int .i64 pp,.int .i64 aa] 32
      rw[World.size_alloc] at DC
      have hbr:Below wr.heap.size wr ((wr.alloc (.cells #[.int .i64 rr,.int .i64 cl,.int .i64 ss,.int .i64 pp,.int .i64 aa,.slice so S.length sc,.slice uo U.length uc,.int .i64 hd,.slice eo E.length ec] 49)).alloc (.cells #[.int .i64 rr,.int .i64 cl,.int .i64 ss,.int .i64 pp,.int .i64 aa] 32)):=bel
      generalize hW:(wr.alloc (.cells #[.int .i64 rr,.int .i64 cl,.int .i64 ss,.int .i64 pp,.int .i64 aa,.slice so S.length sc,.slice uo U.length uc,.int .i64 hd,.slice eo E.length ec] 49)).alloc (.cells #[.int .i64 rr,.int .i64 cl,.int .i64 ss,.int .i64 pp,.int .i64 aa] 32)=w5 at DC hbr ⊢
      clear hW
      with_reducible refine (HCH.out _ (HLL.out.below (hbw.trans (hbr.mono hbw.size)))).mono ?_
      rintro e w6 ⟨rfl,hb6⟩
      replace DC:=DC.below hb6
      replace hbr:=hbr.trans (hb6.mono hbr.size)
      clear hb6
      have hbr7:=hbr.setCell (p:=⟨wr.heap.size+1,3,none⟩) (by dsimp only;omega) (.int .i64 (x:Int))
      have HOX:Hid ((World.setCell w6 ⟨wr.heap.size+1,3,none⟩ (.int .i64 (x:Int))).ownsRow (w.heap.size+1) 32 5 (.slice o i cp) i ((cs.take i).flatMap clmCells)):=lh (owns_below HOW.out hbr7)
      have hz6:w.heap.size+1≤w6.heap.size:=Nat.le_trans hz hbr.size
      obtain⟨DC_c,DC_f,DC_z⟩:=DC.all
      go_wp2_with (at_builtin;go_must (refine wpList_append_own _ rfl (.tmp 29) (.tmp 31) 106 rfl (w.heap.size+1) 32 i0 (.agg #[.int .i64 0,.int .i64 0,.int .i64 0,.int .i64 0,.int .i64 0]) 5 40 Tryz.underlying106 hi0 iz0 iz1 iz2 rfl (by decide) _ i ((cs.take i).flatMap clmCells) rfl (HOX.out.alloc _) ⟨w6.heap.size,0,none⟩ 1 1 [.int .i64 rr,.int .i64 cl,.int .i64 ss,.int .i64 (x:Int),.int .i64 aa] rfl rfl (cells_made _ [.int .i64 rr,.int .i64 cl,.int .i64 ss,.int .i64 (x:Int),.int .i64 aa] _ _ (by first|rfl|simp only[sizes])) (one_clm _ _ _ _ _) (by unfold maxLen;omega) (by omega) (by simp only[sizes];omega) ?_;intro v7 w7 hown7 hgrow7 _;obtain⟨o7,c7',rfl,hc71,hc72⟩:=own_form' hown7))
      have F1:=((D1.below hbr7).alloc (.cells #[.int .i64 rr,.int .i64 cl,.int .i64 ss,.int .i64 (x:Int),.int .i64 aa] 32)).append (HOX.out.alloc _) hgrow7 (by omega)
      have hbw7:Below w.heap.size w w7:=below_append' (Below.alloc' (hbw.trans (hbr7.mono hbw.size)) (nlr _) _) (HOX.out.alloc _) hgrow7 (by omega)
      have hz7:w.heap.size+1≤w7.heap.size:=by
       have:=hgrow7.size
       simp only[sizes] at this
       omega
      go_roundw
      case rel=>exact⟨i+1,o7,c7',by omega,rfl,by go_num,hc71,hc72,F1,by rw[HTK.out];exact hown7,hbw7,hz7⟩
      case measure=>simp [intOf];omega
    · obtain rfl:i=q:=by omega
      have hall:cs.take i=cs:=by rw[←HCL.out];exact List.take_length
      rw[hall] at hO
      have hrow:ClmRow wr (.slice o i cp) cs:=by
       unfold ClmRow
       rw[HCL.out]
       exact RowAt.of_owns hO
      clear hall hO
      obtain⟨D1_c,D1_f,D1_z⟩:=D1.all
      go_wp2_with fail
      with_reducible refine (HVC.out _ _ hrow).mono ?_
      rintro e w8 ⟨rfl,hb8⟩
      replace hbw:=hbw.trans (hb8.mono hbw.size)
      go_wp2_with fail
      go_ret
      exact Ret.mk hbw
 · rw[if_pos rfl]
   go_enter Tryz.func81,Tryz.ntmps81
   go_wp2_with fail
   go_loopw [5,14] (fun sv iv wr=>∃ (i:Nat) (o:Option Addr) (cp:Nat),i≤q∧sv=.slice o i cp∧iv=.int .i64 i∧i≤cp∧cp≤9223372036854775807∧HasBlock wr w.heap.size #[.slice of n kf,.slice or' r kr,.slice om m km,.slice og q kg,.int .i64 tx,.int .u64 dx,.int .i64 sx] 30∧wr.ownsRow (w.heap.size+1) 32 5 (.slice o i cp) i ((cs.take i).flatMap clmCells)∧Below w.heap.size w wr∧w.heap.size+1≤wr.heap.size) (fun _ iv _=>q - (intOf iv).toNat)
   case atStart=>exact⟨0,none,0,by omega,rfl,rfl,nlr _,by omega,D1,World.ownsRow_nil _ _ _ _,hbw,hz⟩
   case round =>
    clear D1 hbw hz
    obtain⟨i,o,cp,hi,rfl,rfl,hc1,hc2,D1,hO,hbw,hz⟩:=hrel
    by_cases hlt:i<q
    · obtain⟨g,hg⟩:=get_lt (xs:=H.G) (k:=i) (by rw[HQ.out];exact hlt)
      obtain⟨l,hl,hgo⟩:=HOK.out.page hg
      have hll:=HOK.out.p.l l (mem_at hl)
      have hce:=HCE.out i g l hg hl
      have htk:(cs.take (i+1)).flatMap clmCells=(cs.take i).flatMap clmCells++clmCells { g.c with p:=((l.countP hasB:Nat):Int) }:=by
       rw[List.take_add_one,hce,List.flatMap_append]
       simp
      obtain⟨gb,goff,so,sc,uo,uc,eo,ec,rfl,hgb,s1,s2,u1,u2,e3,e4,cs',hS,hU,hE⟩:=H0.out.guest hg
      obtain⟨mb,moff,lo,lc,rfl,hmb,cm0,lc1,lc2,hL⟩:=H0.out.p.guest hl
      have CHc:=fun w h=>hcharge_any lo lc l w h (by omega)
      clear hS hU hE hce hg hl hgo s1 u1 e3
      obtain⟨⟨rr,cl,ss,pp,aa⟩,S,U,hd,E⟩:=g
      dsimp only at htk cs'
      obtain⟨x,hx⟩:∃ x,l.countP hasB=x:=⟨_,rfl⟩
      obtain⟨ql,hql⟩:∃ x,l.length=x:=⟨_,rfl⟩
      rw[hx] at CHc htk
      rw[hql] at CHc cm0 lc1 hL hll
      have HTK:=lh htk;clear htk hx hql
      have HCH:=lh CHc;clear CHc
      have HLL:=lh hL;clear hL
      have c0:wr.cell? ⟨gb,goff+i*9,none⟩=_:=(hbw.cell (p:=⟨gb,goff+i*9,none⟩) hgb).trans (cs' 0 _ rfl)
      have c1:wr.cell? ⟨gb,goff+i*9+1,none⟩=_:=(hbw.cell (p:=⟨gb,goff+i*9+1,none⟩) hgb).trans (cs' 1 _ rfl)
      have c2:wr.cell? ⟨gb,goff+i*9+2,none⟩=_:=(hbw.cell (p:=⟨gb,goff+i*9+2,none⟩) hgb).trans (cs' 2 _ rfl)
      have c3:wr.cell? ⟨gb,goff+i*9+3,none⟩=_:=(hbw.cell (p:=⟨gb,goff+i*9+3,none⟩) hgb).trans (cs' 3 _ rfl)
      have c4:wr.cell? ⟨gb,goff+i*9+4,none⟩=_:=(hbw.cell (p:=⟨gb,goff+i*9+4,none⟩) hgb).trans (cs' 4 _ rfl)
      have c5:wr.cell? ⟨gb,goff+i*9+5,none⟩=_:=(hbw.cell (p:=⟨gb,goff+i*9+5,none⟩) hgb).trans (cs' 5 _ rfl)
      have c6:wr.cell? ⟨gb,goff+i*9+6,none⟩=_:=(hbw.cell (p:=⟨gb,goff+i*9+6,none⟩) hgb).trans (cs' 6 _ rfl)
      have c7:wr.cell? ⟨gb,goff+i*9+7,none⟩=_:=(hbw.cell (p:=⟨gb,goff+i*9+7,none⟩) hgb).trans (cs' 7 _ rfl)
      have c8:wr.cell? ⟨gb,goff+i*9+8,none⟩=_:=(hbw.cell (p:=⟨gb,goff+i*9+8,none⟩) hgb).trans (cs' 8 _ rfl)
      clear cs'
      dsimp only at c0 c1 c2 c3 c4 c5 c6 c7 c8
      have HOW:=lh hO;clear hO
      have i0':(0:Int)≤(i:Int):=by omega
      have im:(i:Int)<(m:Int):=by have:=HMQ.out;omega
      have iq:(i:Int)<(q:Int):=by omega
      have cm:=(hbw.cell (p:=⟨mb,moff+i,none⟩) hmb).trans cm0
      have hmb2:mb<wr.heap.size:=by have:=hbw.size;omega
      obtain⟨D1_c,D1_f,D1_z⟩:=D1.all
      go_wp2_with fail
      clear D1_c D1_f D1_z
      clear c0 c1 c2 c3 c4 c5 c6 c7 c8
      have DC:=HasBlock.made (wr.alloc (.cells #[.int .i64 rr,.int .i64 cl,.int .i64 ss,.int .i64 pp,.int .i64 aa,.slice so S.length sc,.slice uo U.length uc,.int .i64 hd,.slice eo E.length ec] 49)) #[.int .i64 rr,.int .i64 cl,.int .i64 ss,.int .i64 pp,.int .i64 aa] 32
      rw[World.size_alloc] at DC
      have hbr:Below wr.heap.size wr ((wr.alloc (.cells #[.int .i64 rr,.int .i64 cl,.int .i64 ss,.int .i64 pp,.int .i64 aa,.slice so S.length sc,.slice uo U.length uc,.int .i64 hd,.slice eo E.length ec] 49)).alloc (.cells #[.int .i64 rr,.int .i64 cl,.int .i64 ss,.int .i64 pp,.int .i64 aa] 32)):=bel
      generalize hW:(wr.alloc (.cells #[.int .i64 rr,.int .i64 cl,.int .i64 ss,.int .i64 pp,.int .i64 aa,.slice so S.length sc,.slice uo U.length uc,.int .i64 hd,.slice eo E.length ec] 49)).alloc (.cells #[.int .i64 rr,.int .i64 cl,.int .i64 ss,.int .i64 pp,.int .i64 aa] 32)=w5 at DC hbr ⊢
      clear hW
      with_reducible refine (HCH.out _ (HLL.out.below (hbw.trans (hbr.mono hbw.size)))).mono ?_
      rintro e w6 ⟨rfl,hb6⟩
      replace DC:=DC.below hb6
      replace hbr:=hbr.trans (hb6.mono hbr.size)
      clear hb6
      have hbr7:=hbr.setCell (p:=⟨wr.heap.size+1,3,none⟩) (by dsimp only;omega) (.int .i64 (x:Int))
      have HOX:Hid ((World.setCell w6 ⟨wr.heap.size+1,3,none⟩ (.int .i64 (x:Int))).ownsRow (w.heap.size+1) 32 5 (.slice o i cp) i ((cs.take i).flatMap clmCells)):=lh (owns_below HOW.out hbr7)
      have hz6:w.heap.size+1≤w6.heap.size:=Nat.le_trans hz hbr.size
      obtain⟨DC_c,DC_f,DC_z⟩:=DC.all
      go_wp2_with (at_builtin;go_must (refine wpList_append_own _ rfl (.tmp 29) (.tmp 31) 106 rfl (w.heap.size+1) 32 i0 (.agg #[.int .i64 0,.int .i64 0,.int .i64 0,.int .i64 0,.int .i64 0]) 5 40 Tryz.underlying106 hi0 iz0 iz1 iz2 rfl (by decide) _ i ((cs.take i).flatMap clmCells) rfl (HOX.out.alloc _) ⟨w6.heap.size,0,none⟩ 1 1 [.int .i64 rr,.int .i64 cl,.int .i64 ss,.int .i64 (x:Int),.int .i64 aa] rfl rfl (cells_made _ [.int .i64 rr,.int .i64 cl,.int .i64 ss,.int .i64 (x:Int),.int .i64 aa] _ _ (by first|rfl|simp only[sizes])) (one_clm _ _ _ _ _) (by unfold maxLen;omega) (by omega) (by simp only[sizes];omega) ?_;intro v7 w7 hown7 hgrow7 _;obtain⟨o7,c7',rfl,hc71,hc72⟩:=own_form' hown7))
      have F1:=((D1.below hbr7).alloc (.cells #[.int .i64 rr,.int .i64 cl,.int .i64 ss,.int .i64 (x:Int),.int .i64 aa] 32)).append (HOX.out.alloc _) hgrow7 (by omega)
      have hbw7:Below w.heap.size w w7:=below_append' (Below.alloc' (hbw.trans (hbr7.mono hbw.size)) (nlr _) _) (HOX.out.alloc _) hgrow7 (by omega)
      have hz7:w.heap.size+1≤w7.heap.size:=by
       have:=hgrow7.size
       simp only[sizes] at this
       omega
      go_roundw
      case rel=>exact⟨i+1,o7,c7',by omega,rfl,by go_num,hc71,hc72,F1,by rw[HTK.out];exact hown7,hbw7,hz7⟩
      case measure=>simp [intOf];omega
    · obtain rfl:i=q:=by omega
      have hall:cs.take i=cs:=by rw[←HCL.out];exact List.take_length
      rw[hall] at hO
      have hrow:ClmRow wr (.slice o i cp) cs:=by
       unfold ClmRow
       rw[HCL.out]
       exact RowAt.of_owns hO
      clear hall hO
      obtain⟨D1_c,D1_f,D1_z⟩:=D1.all
      go_wp2_with fail
      with_reducible refine (HVC.out _ _ hrow).mono ?_
      rintro e w8 ⟨rfl,hb8⟩
      replace hbw:=hbw.trans (hb8.mono hbw.size)
      go_wp2_with fail
      go_ret
      exact Ret.mk hbw
def Gm.mark (g:Gm) (k:Nat) (b:Bool):Gm:={ g with e:=g.e.set k true,u:=g.u.set k b }
def Ho.mark (H:Ho) (i k:Nat):Ho:=match H.G[i]? with
 | none=>H
 | some g=>H.setG i (g.mark k (decide (0≤H.P.fr i k)))
def RetAt (base B:Nat) (H:Ho) (w:World) (e:Ending) (w':World):Prop:=e=.returned (.tuple #[])∧HostAt base B w' H∧Below base w w'
set_option maxRecDepth 100000 in
set_option maxHeartbeats 8000000 in
theorem hmark_ok (base B:Nat) (H:Ho) (i k:Nat) (w:World) (hA:HostAt base B w H) (g:Gm) (l:List Int) (f:Int) (hg:H.G[i]?=some g) (hl:H.P.M[i]?=some l) (hf:l[k]?=some f) (hul:g.u.length=l.length) (hel:g.e.length=l.length) (hll:l.length≤32) (hz:base≤w.heap.size):Calls Tryz.prog 49 #[.pointer (some ⟨B,0,none⟩),.int .i64 i,.int .i64 k] w (RetAt base B (H.mark i k) w):=by
 have hmk:H.mark i k=H.setG i (g.mark k (decide (0≤f))):=by unfold Ho.mark;rw[hg,Pl.fr_eq hl hf]
 rw[hmk]
 clear hmk
 obtain⟨of,or',om,og,kf,kr,km,kg,us,gs,D,O⟩:=hA
 obtain⟨n,hn⟩:∃ n,H.P.F.length=n:=⟨_,rfl⟩
 obtain⟨r,hr⟩:∃ n,H.P.R.length=n:=⟨_,rfl⟩
 obtain⟨m,hm⟩:∃ n,H.P.M.length=n:=⟨_,rfl⟩
 obtain⟨q,hq⟩:∃ n,H.G.length=n:=⟨_,rfl⟩
 obtain⟨tx,htx⟩:∃ n,H.t=n:=⟨_,rfl⟩
 obtain⟨dx,hdx⟩:∃ n,H.d=n:=⟨_,rfl⟩
 obtain⟨sx,hsx⟩:∃ n,H.n=n:=⟨_,rfl⟩
 rw[hn,hr,hm,hq,htx,hdx,hsx] at D
 rw[hn,hr,hm,hq] at O
 have HN:=lh hn;clear hn
 have HR:=lh hr;clear hr
 have HM:=lh hm;clear hm
 have HQ:=lh hq;clear hq
 have HT:=lh htx;clear htx
 have HD:=lh hdx;clear hdx
 have HS:=lh hsx;clear hsx
 have hAB:=D.lt
 obtain⟨bG,cG,y,so,sc,uo,uc,eo,ec,e0,b1,b2,hy,ys,yu,ye,_,cg2,_,sc2,_,uc2,_,ec2,cs,cfz⟩:=O.guest hg
 injection e0 with e0 e9 e10
 subst e0 e10
 clear e9
 obtain⟨mb,km',fb,lc,e0,hus,cm0,cf0,_,_,hmb,_,hfb,_⟩:=O.p.page hl hf
 injection e0 with e0 e9 e10
 subst e0 e10
 clear e9
 obtain⟨ys1,yu1,ye1⟩:=y
 dsimp only at ys yu ye
 subst ys yu ye
 obtain⟨rs1,rs2,rs3⟩:=O.r i _ g hy hg
 dsimp only at rs1 rs2 rs3
 have c6:w.cell? ⟨bG,i*9+6,none⟩=_:=cs 6 _ rfl
 have c8:w.cell? ⟨bG,i*9+8,none⟩=_:=cs 8 _ rfl
 clear cs
 dsimp only at c6 c8
 have hk:=lt_of_get hf
 have hiq:i<q:=by rw[←HQ.out];exact lt_of_get hg
 have him:i<m:=by rw[←HM.out];exact lt_of_get hl
 obtain⟨ql,hql⟩:∃ k,l.length=k:=⟨_,rfl⟩
 rw[hql] at hll cm0 hul hel hk hus
 rw[hul] at c6 rs2 hy
 rw[hel] at c8 rs3 hy
 obtain⟨gU,rfl,gu1,gu2⟩:=rs2.addr hul (by omega)
 obtain⟨gE,rfl,ge1,ge2⟩:=rs3.addr hel (by omega)
 obtain⟨u0,hu0⟩:=get_lt (xs:=g.u) (k:=k) (by omega)
 obtain⟨x0,hx0⟩:=get_lt (xs:=g.e) (k:=k) (by omega)
 obtain⟨cU,fU⟩:=rs2.at hu0
 obtain⟨cE,fE⟩:=rs3.at hx0
 have n1:gU≠gE:=fun e=>by
  obtain⟨tag,_,t1⟩:=O.t
  obtain⟨_,q2,q3⟩:=t1 i _ hy
  have h2:=q2 gU rfl
  have h3:=q3 gE rfl
  rw[e] at h2
  omega
 have n2:gE≠bG:=fun e=>own_ne_type rs3 O.g (by decide) rfl (by rw[e];rfl)
 have n3:gE≠B:=fun e=>own_off rs3 D (by decide) (by rw[e];rfl)
 have n4:gU≠B:=fun e=>own_off rs2 D (by decide) (by rw[e];rfl)
 have hpu:=O.p.u.2.1 i _ l hus hl
 have n5:gE≠fb:=fun e=>own_ne_type rs3 hpu (by decide) rfl (by rw[e];rfl)
 have n6:gE≠mb:=fun e=>own_ne_type rs3 O.p.m (by decide) rfl (by rw[e];rfl)
 have O1:=O.putE hg hy rfl k true
 have hg2:(H.setG i { g with e:=g.e.set k true }).G[i]?=some { g with e:=g.e.set k true }:=by
  show (H.G.set i _)[i]?=_
  rw[List.getElem?_set,if_pos rfl,if_pos (lt_of_get hg)]
 have hHe:(H.setG i { g with e:=g.e.set k true }).setG i { g with e:=g.e.set k true,u:=g.u.set k (decide (0≤f)) }=H.setG i (g.mark k (decide (0≤f))):=by
  unfold Ho.setG Gm.mark
  dsimp only
  rw[List.set_set]
 have D1:=D.set_ne (fun e=>n3 e.symm) (j:=k) (.bool true)
 have HO1:=lh O1;clear O1
 have HD1:=lh D1;clear D1
 have HG2:=lh hg2;clear hg2
 have HYY:=lh hy;clear hy
 have HHE:=lh hHe;clear hHe
 clear O rs1 rs2 rs3 hpu hus hg hl hf hul hel hql hu0 hx0
 have i0:(0:Int)≤(i:Int):=by omega
 have k0:(0:Int)≤(k:Int):=by omega
 have iq:(i:Int)<(q:Int):=by omega
 have im:(i:Int)<(m:Int):=by omega
 have kq:(k:Int)<(ql:Int):=by omega
 have n7:gE≠gU:=fun e=>n1 e.symm
 have hbE:Below base w (World.setCell w ⟨gE,k,none⟩ (.bool true)):=(Below.refl base w).setCell (p:=⟨gE,k,none⟩) ge1 _
 obtain⟨D_c,D_f,D_z⟩:=D.all
 go_enter Tryz.func49,Tryz.ntmps49
 go_wp2_with fail
 refine wp_region_tail_below 22 (by kernel_rfl) (by kernel_rfl) ?_
 simp only[List.take_succ_cons,List.take_zero,List.drop_succ_cons,List.drop_zero]
 repeat (go_big_quiet_step (first|fail|fail))
 refine wpQuiet_nil ?_
 intro w3 hw3
 have hb3:=below_of_regrown hw3
 clear hw3
 obtain⟨hc3,hf3⟩:=bcell hb3
 have hz3:=bsize hb3
 try simp only[sizes1] at hz3
 try simp only[sizes] at hc3 hf3
 have HO3:=HO1.out.below hb3
 have HD3:=HD1.out.below hb3
 have hbw3:Below base w w3:=hbE.trans (hb3.mono (by rw[World.size_setCell];exact hz))
 go_wp2_with fail
 go_end0
 have O2:=HO3.putU HG2.out HYY.out rfl k (decide (0≤f))
 dsimp only at O2
 rw[HHE.out] at O2
 have D4:=HD3.set_ne (fun e=>n4 e.symm) (j:=k) (.bool (decide (0≤f)))
 have HA':=HostAt.mk (H:=H.setG i (g.mark k (decide (0≤f)))) HN.out HR.out HM.out ((List.length_set ..).trans HQ.out) HT.out HD.out HS.out D4 O2
 exact⟨rfl,HA',hbw3.setCell (p:=⟨gU,k,none⟩) gu1 _⟩
end Go.Proofs.YtbnngjhnkegliaaGreat
