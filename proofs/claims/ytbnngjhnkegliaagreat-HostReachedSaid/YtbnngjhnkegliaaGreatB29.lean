/-
  Texts joined: HoOne HrPair PlRefAdd HrPAdd HoPAdd. No law is proved here.
-/
import Derived.Test.YtbnngjhnkegliaaGreatB28
namespace Go.Proofs.YtbnngjhnkegliaaGreat
open Go.RowKit
def Halt (i p:Nat) (K:Ho):Prop:=K.full i p=false∨(K.full i p=true∧K.evictC i p=none)
theorem Halt.no {i p:Nat} {K L:Ho} (h:Halt i p K) (hf:K.full i p=true) (he:K.evictC i p=some L):False:=by
 rcases h with h|⟨_,h⟩
 · rw[h] at hf
   cases hf
 · rw[h] at he
   cases he
theorem Steps.both {i p:Nat} {H K L:Ho} (h1:Steps i p H K) (h2:Steps i p H L):Steps i p K L∨Steps i p L K:=by
 induction h1 with
 | refl=>exact .inl h2
 | step a hf he ih =>
   rename_i M N
   rcases ih with h|h
   · have key:∀ {L:Ho},Steps i p M L→L=M∨Steps i p N L:=by
       intro L h
       induction h with
       | refl=>exact .inl rfl
       | step _ hf2 he2 ih2 =>
         rcases ih2 with e|e
         · subst e
           rw[he] at he2
           injection he2 with e
           subst e
           exact .inr .refl
         · exact .inr (.step e hf2 he2)
     rcases key h with e|e
     · subst e
       exact .inr (.step .refl hf he)
     · exact .inl e
   · exact .inr (.step h hf he)
theorem Steps.halt {i p:Nat} {K L:Ho} (h:Steps i p K L) (hk:Halt i p K):L=K:=by
 induction h with
 | refl=>rfl
 | step _ hf he ih =>
   subst ih
   exact (hk.no hf he).elim
theorem Roomed.one {i p:Nat} {H K L:Ho} (h1:Roomed i p H K) (h2:Roomed i p H L):K=L:=by
 rcases h1.1.both h2.1 with h|h
 · exact (h.halt h1.2).symm
 · exact h.halt h2.2
theorem ReadTo.one {i p:Nat} {H K L:Ho} (h1:ReadTo H i p K) (h2:ReadTo H i p L):K=L:=by
 obtain⟨g,t,hg,ht,h1⟩:=h1
 obtain⟨g',t',hg',ht',h2⟩:=h2
 rw[hg] at hg'
 injection hg' with e
 subst e
 rw[ht] at ht'
 injection ht' with e
 subst e
 rcases h1 with ⟨a,b⟩|⟨a,M,b,c⟩
 · rcases h2 with ⟨a',b'⟩|⟨a',_⟩
   · rw[b,b']
   · exact absurd a a'
 · rcases h2 with ⟨a',_⟩|⟨_,M',b',c'⟩
   · exact absurd a' a
   · obtain rfl:=b.one b'
     rw[c,c']
theorem WriteTo.one {i p:Nat} {d:ByteArray} {H K L:Ho} (h1:WriteTo H i p d K) (h2:WriteTo H i p d L):K=L:=by
 obtain⟨M,h1,e1⟩:=h1
 obtain⟨M',h2,e2⟩:=h2
 have e:M=M':=by
  rcases h1 with ⟨a,b,c⟩|⟨a,b⟩
  · rcases h2 with ⟨_,_,c'⟩|⟨a',_⟩
    · exact c.one c'
    · rcases a' with a'|a'
      · rw[a] at a'
        cases a'
      · rw[b] at a'
        cases a'
  · rcases h2 with ⟨a',b',_⟩|⟨_,b'⟩
    · rcases a with a|a
      · rw[a'] at a
        cases a
      · rw[b'] at a
        cases a
    · rw[b,b']
 subst e
 rw[e1,e2]
theorem HoAt.below {w w':World} {v:Value} {H:Ho} (h:HoAt w v H) (hb:Below w.heap.size w w'):HoAt w' v H:=by
 obtain⟨of,or',om,og,kf,kr,km,kg,e,f1,f2,r1,r2,m1,m2,g1,g2,hr⟩:=h
 exact⟨of,or',om,og,kf,kr,km,kg,e,f1,f2,r1,r2,m1,m2,g1,g2,hr.below hb⟩
theorem ret_v {k:Value→Value} {v:Value} {H:Ho} {w w':World} {e:Ending} (h:HoAt w v H) (hr:Ret w (k v) e w'):RetHoV k H w e w':=⟨v,hr.1,h.below hr.2,hr.2⟩
theorem pair_read (H:Ho) (i p:Int) (hf:H.Fit) (hsm:H.Small):∃ (K:Ho) (s:ByteArray) (c:Int),
    (∀ v w,HoAt w v H→Calls Tryz.prog 20 #[v,.int .i64 i,.int .i64 p] w (RetHoV (fun v=>.tuple #[v,.string s,.int .i64 c]) K w)) ∧
    (∀ v w,HoAt w v H→Calls Tryz.prog 28 #[v,.int .i64 i,.int .i64 p] w (RetHoV (fun v=>.tuple #[v,.string s,.int .i64 c]) K w)):=by
 by_cases hb:H.has i p
 · obtain⟨hok,a,b,rfl,rfl,hat⟩:=hb
   by_cases hx:∃ K,ReadTo H a b K
   · obtain⟨K,hK⟩:=hx
     refine ⟨K,K.P.text a b,0,fun v w h=>(hread_ok v H a b w h hok hat).mono ?_,fun v w h=>(rread_ok v H a b w h hok hat).mono ?_⟩
     all_goals
      rintro e w' ⟨L,hL,hr⟩
      obtain rfl:=hL.one hK
      exact hr.v
   · refine ⟨H,⟨#[]⟩,0,fun v w h=>(hread_ok v H a b w h hok hat).mono ?_,fun v w h=>(rread_ok v H a b w h hok hat).mono ?_⟩
     all_goals
      rintro e w' ⟨L,hL,_⟩
      exact absurd ⟨L,hL⟩ hx
 · exact⟨H,⟨#[]⟩,3800,fun v w h=>(hread_no v H i p w h hf hsm hb).mono fun _ _ h=>h.v,fun v w h=>(rread_no v H i p w h hf hsm hb).mono fun _ _ hr=>ret_v (k:=fun v=>.tuple #[v,.string ⟨#[]⟩,.int .i64 3800]) h hr⟩
theorem pair_write (H:Ho) (i p:Int) (d:ByteArray) (hf:H.Fit) (hsm:H.Small):∃ (K:Ho) (c:Int),
    (∀ v w,HoAt w v H→Calls Tryz.prog 17 #[v,.int .i64 i,.int .i64 p,.string d] w (RetHoV (fun v=>.tuple #[v,.int .i64 c]) K w)) ∧
    (∀ v w,HoAt w v H→Calls Tryz.prog 29 #[v,.int .i64 i,.int .i64 p,.string d] w (RetHoV (fun v=>.tuple #[v,.int .i64 c]) K w)):=by
 by_cases hb:H.has i p∧d.size=128
 · obtain⟨⟨hok,a,b,rfl,rfl,hat⟩,hd⟩:=hb
   by_cases hx:∃ K,WriteTo H a b d K
   · obtain⟨K,hK⟩:=hx
     refine ⟨K,0,fun v w h=>(hwrite_ok v H a b d w h hok hat hd).mono ?_,fun v w h=>(rwrite_ok v H a b d w h hok hat hd).mono ?_⟩
     all_goals
      rintro e w' ⟨L,hL,hr⟩
      obtain rfl:=hL.one hK
      exact hr.v
   · refine ⟨H,0,fun v w h=>(hwrite_ok v H a b d w h hok hat hd).mono ?_,fun v w h=>(rwrite_ok v H a b d w h hok hat hd).mono ?_⟩
     all_goals
      rintro e w' ⟨L,hL,_⟩
      exact absurd ⟨L,hL⟩ hx
 · exact⟨H,3800,fun v w h=>(hwrite_no v H i p d w h hf hsm hb).mono fun _ _ h=>h.v,fun v w h=>(rwrite_no v H i p d w h hf hsm hb).mono fun _ _ hr=>ret_v (k:=fun v=>.tuple #[v,.int .i64 3800]) h hr⟩
theorem pair_sample (H:Ho) (i k:Int) (hf:H.Fit) (hsm:H.Small) (hk:k≤9223372036854775807):∃ (K:Ho) (b:Bool),
    (∀ v w,HoAt w v H→Calls Tryz.prog 30 #[v,.int .i64 i,.int .i64 k] w (RetHoV (fun v=>.tuple #[v,.bool b]) K w)) ∧
    (∀ v w,HoAt w v H→Calls Tryz.prog 31 #[v,.int .i64 i,.int .i64 k] w (RetHoV (fun v=>.tuple #[v,.bool b]) K w)):=by
 by_cases hb:H.hasG i∧1≤k
 · obtain⟨⟨hok,h0,h1⟩,hk1⟩:=hb
   obtain⟨a,rfl⟩:∃ a:Nat,i=a:=⟨i.toNat,by omega⟩
   obtain⟨n,rfl⟩:∃ n:Nat,k=n:=⟨k.toNat,by omega⟩
   exact⟨H.sample a n,true,fun v w h=>(hsample_ok v H a n w h hok (by omega) (by omega) (by omega)).mono fun _ _ h=>h.v,fun v w h=>(rsample_ok v H a n w h hok (by omega) (by omega) (by omega)).mono fun _ _ h=>h.v⟩
 · exact⟨H,false,fun v w h=>(hsample_no v H i k w h hf hsm hb).mono fun _ _ h=>h.v,fun v w h=>(rsample_no v H i k w h hf hsm hb).mono fun _ _ hr=>ret_v (k:=fun v=>.tuple #[v,.bool false]) h hr⟩
theorem scan_none {H:Ho} (hok:H.Ok) {k:Int} (h:¬(1≤k∧0<H.G.length)):H.scan k=H:=by
 unfold Ho.scan
 by_cases h1:k<1
 · rw[if_pos h1]
 · rw[if_neg h1]
   have h2:H.ord.length=0:=by
    have hm:=hok.m
    rw[ord_len,show H.P.M=[] from List.eq_nil_of_length_eq_zero (by omega)]
    rfl
   rw[h2,Nat.min_zero]
   rfl
theorem pair_scan (H:Ho) (k:Int) (hf:H.Fit) (hsm:H.Small) (hk : -9223372036854775808≤k∧k≤9223372036854775807):∃ K:Ho,
    (∀ v w,HoAt w v H→Calls Tryz.prog 36 #[v,.int .i64 k] w (RetHoV (fun v=>v) K w)) ∧
    (∀ v w,HoAt w v H→Calls Tryz.prog 37 #[v,.int .i64 k] w (RetHoV (fun v=>v) K w)):=by
 by_cases hok:H.Ok
 · refine ⟨H.scan k,fun v w h=>(hscan_ok v H k w h hok hk).mono fun _ _ h=>h.v,fun v w h=>?_⟩
   by_cases hb:1≤k∧0<H.G.length
   · exact (rscan_ok v H k w h hok ⟨hb.1,hk.2⟩ hb.2).mono fun _ _ h=>h.v
   · rw[scan_none hok hb]
     exact (rscan_no v H k w h hf hsm (fun hc=>hb hc.2)).mono fun _ _ hr=>ret_v (k:=fun v=>v) h hr
 · exact⟨H,fun v w h=>(hscan_no v H k w h hf hsm hok).mono fun _ _ h=>h.v,fun v w h=>(rscan_no v H k w h hf hsm (fun hc=>hok hc.1)).mono fun _ _ hr=>ret_v (k:=fun v=>v) h hr⟩
theorem repI_succ {k K:Nat} (h:k<K):(repI k K).set k (-1)=repI (k+1) K:=by
 apply List.ext_getElem?
 intro j
 rw[List.getElem?_set,repI_len (by omega)]
 unfold repI
 rw[List.getElem?_append,List.getElem?_append,List.length_replicate,List.length_replicate,List.getElem?_replicate,List.getElem?_replicate,List.getElem?_replicate,List.getElem?_replicate]
 by_cases e:k=j
 · subst e
   rw[if_pos rfl,if_pos h,if_pos (by omega),if_pos (by omega)]
 · rw[if_neg e]
   by_cases h1:j<k
   · rw[if_pos h1,if_pos h1,if_pos (by omega),if_pos (by omega)]
   · rw[if_neg h1,if_neg (show ¬j<k+1 by omega)]
     by_cases h2:j<K
     · rw[if_pos (by omega),if_pos (by omega)]
     · rw[if_neg (by omega),if_neg (by omega)]
theorem repI_at {k K:Nat} (h:k<K):(repI k K)[k]?=some 0:=by
 unfold repI
 rw[List.getElem?_append,List.length_replicate,if_neg (Nat.lt_irrefl _),Nat.sub_self,List.getElem?_replicate,if_pos (by omega)]
set_option maxRecDepth 100000 in
set_option maxHeartbeats 4000000 in
theorem rpadd_own (v:Value) (P:Pl) (K:Nat) (w:World) (h:PlRow w v P) (H:P.Ok) (hm8:P.M.length<8) (g2:1≤K) (g3:K≤32):Calls Tryz.prog 56 #[v,.int .i64 K] w (RetPoolB (P.add K) true w):=by
 obtain⟨of,or',om,kf,kr,km,rfl,kf1,kf2,kr1,kr2,km1,km2⟩:=h.form
 obtain⟨n,hn⟩:∃ n,P.F.length=n:=⟨_,rfl⟩
 obtain⟨r,hr⟩:∃ n,P.R.length=n:=⟨_,rfl⟩
 obtain⟨m,hm⟩:∃ n,P.M.length=n:=⟨_,rfl⟩
 rw[hn] at h kf1 ⊢
 rw[hr] at h kr1 ⊢
 rw[hm] at h km1 ⊢
 have HN:=lh hn;clear hn
 have HR:=lh hr;clear hr
 have HM:=lh hm;clear hm
 have hvb:P.ok=true:=Pl.ok_iff.2 H
 have V:=fun w h=>rvalid_pl (.agg #[.slice of n kf,.slice or' r kr,.slice om m km]) P w h H.fit
 rw[hvb] at V
 have HV:=lh V;clear V
 have HVB:=lh hvb;clear hvb
 rw[HM.out] at hm8
 have g1':m<8:=hm8
 have g1:m≠8:=by omega
 have D1:=(HasBlock.made w #[.slice of n kf,.slice or' r kr,.slice om m km] 26).alloc (.cells #[.slice none 0 0,.slice none 0 0,.slice none 0 0] 26)
 have D2:=HasBlock.made (w.alloc (.cells #[.slice of n kf,.slice or' r kr,.slice om m km] 26)) #[.slice none 0 0,.slice none 0 0,.slice none 0 0] 26
 have hbw:Below w.heap.size w ((w.alloc (.cells #[.slice of n kf,.slice or' r kr,.slice om m km] 26)).alloc (.cells #[.slice none 0 0,.slice none 0 0,.slice none 0 0] 26)):=bel
 have hz:w.heap.size+1+1≤((w.alloc (.cells #[.slice of n kf,.slice or' r kr,.slice om m km] 26)).alloc (.cells #[.slice none 0 0,.slice none 0 0,.slice none 0 0] 26)).heap.size:=by simp only[sizes];omega
 simp only[sizes] at D2
 replace h:=h.below hbw
 go_enter Tryz.func56,Tryz.ntmps56
 go_wp2_with fail
 with_reducible refine (HV.out _ h).mono ?_
 rintro e w1 ⟨rfl,hb1⟩
 replace D1:=D1.below hb1
 replace D2:=D2.below hb1
 replace h:=h.below hb1
 replace hbw:=hbw.trans (hb1.mono hbw.size)
 replace hz:=Nat.le_trans hz hb1.size
 clear hb1
 have hyes:P.goodA K=true:=by unfold Pl.goodA;rw[HVB.out,decide_eq_true ⟨by rw[HM.out];exact g1,by omega,by omega⟩];rfl
 have hadd:P.add K=⟨P.F,P.R,P.M++[List.replicate K (-1)]⟩:=by unfold Pl.add;rw[hyes,Int.toNat_natCast];rfl
 clear hyes
 have HADD:=lh hadd;clear hadd
 have C:=fun w h=>rown_any (.agg #[.slice of n kf,.slice or' r kr,.slice om m km]) P w h H
 have HC:=lh C;clear C
 have d1:decide ((K:Int)<1)=false:=decide_eq_false (by omega)
 have d2:decide ((32:Int)<(K:Int))=false:=decide_eq_false (by omega)
 have d3:decide ((8:Int)≤(m:Int))=false:=decide_eq_false (by omega)
 have hmk:=makes_rep K (by omega)
 obtain⟨pg,hpg⟩:∃ f:Nat→List Int,(fun i=>repI i K)=f:=⟨_,rfl⟩
 have hpgi:∀ i,repI i K=pg i:=fun i=>by rw[←hpg]
 have HPGI:=lh hpgi
 rw[hpgi] at hmk
 clear hpg hpgi
 clear g1
 obtain⟨D1_c,D1_f,D1_z⟩:=D1.all
 obtain⟨D2_c,D2_f,D2_z⟩:=D2.all
 go_wp2_with fail
 clear D1_c D1_f D1_z
 clear D2_c D2_f D2_z
 with_reducible refine (HC.out _ h).mono ?_
 rintro e w4 ⟨of1,or1,om1,kf1',kr1',km1',us,rfl,hO,hb4⟩
 rw[HN.out,HR.out,HM.out] at hO ⊢
 replace hO:=hO.lower hz
 replace D1:=D1.below hb4
 replace D2:=D2.below hb4
 replace hbw:=hbw.trans (hb4.mono hbw.size)
 replace hz:=Nat.le_trans hz hb4.size
 clear hb4 h
 obtain⟨D1_c,D1_f,D1_z⟩:=D1.all
 obtain⟨D2_c,D2_f,D2_z⟩:=D2.all
 go_wp2_with fail
 clear D1_c D1_f D1_z
 clear D2_c D2_f D2_z
 have D3:=(HasBlock.made w4 #[.slice of1 n kf1',.slice or1 r kr1',.slice om1 m km1'] 26).alloc (.cells ((pg 0).map (Value.int .i64)).toArray 3)
 have D4:=HasBlock.made (w4.alloc (.cells #[.slice of1 n kf1',.slice or1 r kr1',.slice om1 m km1'] 26)) ((pg 0).map (Value.int .i64)).toArray 3
 replace D1:=(D1.alloc (.cells #[.slice of1 n kf1',.slice or1 r kr1',.slice om1 m km1'] 26)).alloc (.cells ((pg 0).map (Value.int .i64)).toArray 3)
 replace D2:=(D2.alloc (.cells #[.slice of1 n kf1',.slice or1 r kr1',.slice om1 m km1'] 26)).alloc (.cells ((pg 0).map (Value.int .i64)).toArray 3)
 have hT:=hO.lt
 replace hO:=(hO.alloc (.cells #[.slice of1 n kf1',.slice or1 r kr1',.slice om1 m km1'] 26)).alloc (.cells ((pg 0).map (Value.int .i64)).toArray 3)
 replace hbw:=(hbw.alloc hbw.size (.cells #[.slice of1 n kf1',.slice or1 r kr1',.slice om1 m km1'] 26)).alloc (by simp only[sizes];have:=hbw.size;omega) (.cells ((pg 0).map (Value.int .i64)).toArray 3)
 simp only[sizes] at D4
 obtain⟨B,hB⟩:∃ B,w4.heap.size=B:=⟨_,rfl⟩
 rw[hB] at D3 D4 hz hT ⊢
 generalize hW:(w4.alloc (.cells #[.slice of1 n kf1',.slice or1 r kr1',.slice om1 m km1'] 26)).alloc (.cells ((pg 0).map (Value.int .i64)).toArray 3)=w5 at D1 D2 D3 D4 hO hbw ⊢
 clear hW hB hmk
 go_loopw [8] (fun iv wr=>∃ k:Nat,k≤K∧iv=.int .i64 k∧HasBlock wr w.heap.size #[.slice of n kf,.slice or' r kr,.slice om m km] 26∧HasBlock wr (w.heap.size+1) #[.slice none 0 0,.slice none 0 0,.slice none 0 0] 26∧HasBlock wr B #[.slice of1 n kf1',.slice or1 r kr1',.slice om1 m km1'] 26∧HasBlock wr (B+1) ((pg k).map (Value.int .i64)).toArray 3∧OwnP (w.heap.size+1+1) wr (.slice of1 n kf1') (.slice or1 r kr1') (.slice om1 m km1') us P∧Below w.heap.size w wr) (fun iv _=>K - (intOf iv).toNat)
 case atStart=>exact⟨0,Nat.zero_le _,rfl,D1,D2,D3,D4,hO,hbw⟩
 case round =>
  clear D1 D2 D3 D4 hO hbw
  obtain⟨k,hk,rfl,D1,D2,D3,D4,hO,hbw⟩:=hrel
  by_cases hlt:k<K
  · have hc:=D4.cell k
    rw[List.getElem?_toArray,List.getElem?_map,←HPGI.out k,repI_at hlt] at hc
    have hc:wr.cell? ⟨B+1,k,none⟩=some (.int .i64 0):=hc
    have hfz:=D4.free k
    go_wp2_with fail
    go_roundw
    case rel =>
     refine ⟨k+1,by omega,by go_num,D1.set_ne (by omega) _,D2.set_ne (by omega) _,D3.set_ne (by omega) _,?_,?_,hbw.setCell (by dsimp only;omega) _⟩
     · have h:=D4.set_at k (.int .i64 (-1))
       rw[List.setIfInBounds_toArray,←List.map_set,←HPGI.out k,repI_succ hlt,HPGI.out] at h
       exact h
     · refine ⟨hO.f.setoff (fun e=>by have:=hT.f _ e;omega) _,hO.r.setoff (fun e=>by have:=hT.r _ e;omega) _,owns_setne hO.m (own_off hO.m D4 (by decide)) _,⟨hO.u.1,fun i u xs hu hx=>?_,hO.u.2.2⟩,hO.ap⟩
       exact (hO.u.2.1 i u xs hu hx).setoff (fun e=>by have:=hT.u i u hu _ e;omega) _
    case measure=>simp [intOf];omega
  · obtain rfl:k=K:=by omega
    rw[←HPGI.out k,repI_all] at D4
    have hrl:(List.replicate k (-1:Int)).length=k:=List.length_replicate ..
    obtain⟨l,hl⟩:∃ l,List.replicate k (-1:Int)=l:=⟨_,rfl⟩
    rw[hl] at D4 HADD hrl
    clear hl
    have HRL:=lh hrl;clear hrl
    have O5:OwnNum (w.heap.size+1+1) wr (.slice (some ⟨B+1,0,none⟩) k k) l:=own_enc D4 HRL.out (by omega) (by omega)
    have hr5:Apart (.slice or1 r kr1') (.slice (some ⟨B+1,0,none⟩) k k):=apart_lt (B:=B) (fun q hq=>hT.r q hq) (fun q hq=>by have e:B+1=q:=Option.some.inj hq;omega)
    have hu5:∀ (j:Nat) (u':Value),us[j]?=some u'→Apart u' (.slice (some ⟨B+1,0,none⟩) k k):=fun j u' hj=>apart_lt (B:=B) (fun q hq=>hT.u j u' hj q hq) (fun q hq=>by have e:B+1=q:=Option.some.inj hq;omega)
    have hom:wr.ownsRow (w.heap.size+1+1) 23 1 (.slice om1 m km1') m us:=by have h:=hO.m;rw[HM.out] at h;exact h
    have HOM:=lh hom;clear hom
    have hbz:=D4.lt
    obtain⟨i0,hi0,iz0,iz1,iz2⟩:=info_parts info_ints
    obtain⟨D1_c,D1_f,D1_z⟩:=D1.all
    obtain⟨D2_c,D2_f,D2_z⟩:=D2.all
    obtain⟨D3_c,D3_f,D3_z⟩:=D3.all
    go_wp2_with (at_builtin;(refine wpList_append_own _ rfl (.tmp 40) (.tmp 42) 24 rfl (w.heap.size+1+1) 23 i0 (.slice none 0 0) 1 24 Tryz.underlying24 hi0 iz0 iz1 iz2 rfl (by decide) (.slice om1 m km1') m us rfl (HOM.out.alloc _) ⟨wr.heap.size,0,none⟩ 1 1 [.slice (some ⟨B+1,0,none⟩) k k] rfl rfl (cells_made _ [.slice (some ⟨B+1,0,none⟩) k k] _ _ rfl) (one_slice _ _ _) (by unfold maxLen;omega) (by omega) (by simp only[sizes];omega) ?_)
                 intro v6 w6 hown6 hgrow6 _
                 obtain⟨o6,c6,rfl,hc61,hc62⟩:=own_form' hown6
                 have HO6:=(hO.alloc (.cells #[.slice (some ⟨B+1,0,none⟩) k k] 23)).push (l:=l) (O5.alloc _) hr5 hu5 (by rw[HM.out];exact hown6) hgrow6
                 have F1:=(D1.alloc (.cells #[.slice (some ⟨B+1,0,none⟩) k k] 23)).append (HOM.out.alloc _) hgrow6 (by omega)
                 have F2:=(D2.alloc (.cells #[.slice (some ⟨B+1,0,none⟩) k k] 23)).append (HOM.out.alloc _) hgrow6 (by omega)
                 have F3:HasBlock w6 B #[.slice of1 n kf1',.slice or1 r kr1',.slice om1 m km1'] 26:=(hgrow6.block B (D3.alloc _).lt (fun e=>own_off HOM.out D3 (by decide) e.symm)).trans (D3.alloc _)
                 have hbw6:Below w.heap.size w w6:=below_grown (hbw.alloc hbw.size _) (HOM.out.alloc _) hgrow6 (by omega) (by simp only[sizes];have:=hbw.size;omega)
                 obtain⟨F1_c,F1_f,F1_z⟩:=F1.all
                 obtain⟨F2_c,F2_f,F2_z⟩:=F2.all
                 obtain⟨F3_c,F3_f,F3_z⟩:=F3.all)
    refine bodyPost_ret (v:=.tuple #[.agg #[.slice of1 n kf1',.slice or1 r kr1',.slice o6 (m+1) c6],.bool true]) (by simp [results,Tryz.results56,go_sem,F2_c]) rfl ?_
    have HO7:=HO6.setbox (j:=2) F3 (by decide) (by decide) (by decide) (.slice o6 (m+1) c6)
    replace hbw6:=hbw6.setCell (p:=⟨B,2,none⟩) (by dsimp only;omega) (.slice o6 (m+1) c6)
    have hbw:=hbw6
    exact (ret_poolb (Q:=⟨P.F,P.R,P.M++[l]⟩) HN.out HR.out (by rw[List.length_append,HM.out];rfl) HADD.out (((HO7.setlow (b:=w.heap.size+1) (j:=0) (by omega) _).setlow (b:=w.heap.size+1) (j:=1) (by omega) _).setlow (b:=w.heap.size+1) (j:=2) (by omega) _) (((hbw.setCell (p:=⟨w.heap.size+1,0,none⟩) (by dsimp only;omega) _).setCell (p:=⟨w.heap.size+1,1,none⟩) (by dsimp only;omega) _).setCell (p:=⟨w.heap.size+1,2,none⟩) (by dsimp only;omega) _))
def newG (c:Clm) (q:Nat):Gm:=⟨c,List.replicate q ⟨#[]⟩,List.replicate q false,0,List.replicate q false⟩
def Ho.addG (H:Ho) (c:Clm) (q:Nat):Ho:=⟨H.P.add q,H.G++[newG c q],H.t,H.d,H.n⟩
def Ho.addC (H:Ho) (c:Clm) (q:Int):Int:=if validB c=false∨c.p≠0∨q<1∨32<q then 3800 else if 8≤H.G.length then 3802 else if (H.P.F.length:Int)<c.r+sumR H.G then 3801 else 0
def Ho.addTo (H:Ho) (c:Clm) (q:Int):Ho:=if H.addC c q=0 then H.addG c q.toNat else H
theorem goodA_of {P:Pl} (h:P.Ok) {q:Nat} (hm:P.M.length<8) (h1:1≤q) (h2:q≤32):P.goodA q=true:=by
 unfold Pl.goodA
 rw[Pl.ok_iff.2 h,Bool.true_and]
 exact decide_eq_true ⟨by omega,by omega,by omega⟩
theorem padd_eq {P:Pl} (h:P.Ok) {q:Nat} (hm:P.M.length<8) (h1:1≤q) (h2:q≤32):P.add q=⟨P.F,P.R,P.M++[List.replicate q (-1)]⟩:=by
 unfold Pl.add
 rw[goodA_of h hm h1 h2,if_pos rfl,Int.toNat_natCast]
theorem padd_ok {P:Pl} (h:P.Ok) {q:Nat} (hm:P.M.length<8) (h1:1≤q) (h2:q≤32):(P.add q).Ok:=by
 rw[padd_eq h hm h1 h2]
 have hc:∀ v:Nat,(⟨P.F,P.R,P.M++[List.replicate q (-1)]⟩:Pl).cnt v=P.cnt v:=fun v=>by
  unfold Pl.cnt
  dsimp only
  rw[List.flatten_append,List.count_append]
  have:([List.replicate q (-1:Int)]).flatten.count (v:Int)=0:=by
   rw[List.flatten_cons,List.flatten_nil,List.append_nil]
   exact cnt_neg q v
  omega
 refine ⟨h.n1,h.n2,h.r,by rw[List.length_append];exact hm,fun l hl=>?_,fun l hl f hf=>?_,fun f hf=>?_⟩
 · rw[List.mem_append] at hl
   rcases hl with hl|hl
   · exact h.l l hl
   · simp at hl
     rw[hl,List.length_replicate]
     exact⟨h1,h2⟩
 · rw[List.mem_append] at hl
   rcases hl with hl|hl
   · exact h.pg l hl f hf
   · simp at hl
     rw[hl] at hf
     have:=List.eq_of_mem_replicate hf
     have:=h.n1
     dsimp only
     omega
 · obtain⟨s,a1,a2,a3,a4⟩:=h.fr f hf
   exact⟨s,a1,by rw[hc];exact a2,by rw[hc];exact a3,a4⟩
theorem padd_M {P:Pl} (h:P.Ok) {q:Nat} (hm:P.M.length<8) (h1:1≤q) (h2:q≤32) (a:Nat):(P.add q).M[a]?=if a<P.M.length then P.M[a]? else if a=P.M.length then some (List.replicate q (-1)) else none:=by
 rw[padd_eq h hm h1 h2]
 dsimp only
 rw[List.getElem?_append]
 by_cases e:a<P.M.length
 · rw[if_pos e,if_pos e]
 · rw[if_neg e,if_neg e]
   by_cases e2:a=P.M.length
   · subst e2
     rw[if_pos rfl,Nat.sub_self]
     rfl
   · rw[if_neg e2]
     exact List.getElem?_eq_none (by simp;omega)
theorem addG_ok {H:Ho} (hok:H.Ok) {c:Clm} {q:Nat} (hc:validB c=true) (hp:c.p=0) (hm:H.G.length<8) (h1:1≤q) (h2:q≤32) (hs:c.r+sumR H.G≤H.P.F.length):(H.addG c q).Ok:=by
 have hm':H.P.M.length<8:=by rw[←hok.m];exact hm
 have hM:=padd_M hok.p hm' h1 h2
 have he:=padd_eq hok.p hm' h1 h2
 have hv:=(validB_iff c).1 hc
 refine ⟨padd_ok hok.p hm' h1 h2,?_,hok.t,hok.d,fun i g l hg hl=>?_,?_,?_⟩
 · show (H.G++[newG c q]).length=(H.P.add q).M.length
   rw[he,List.length_append,List.length_append,hok.m]
   rfl
 · change (H.P.add q).M[i]?=some l at hl
   change (H.G++[newG c q])[i]?=some g at hg
   rw[hM] at hl
   rw[List.getElem?_append,hok.m] at hg
   by_cases e:i<H.P.M.length
   · rw[if_pos e] at hl hg
     exact hok.g i g l hg hl
   · rw[if_neg e] at hl hg
     by_cases e2:i=H.P.M.length
     · subst e2
       rw[if_pos rfl] at hl
       rw[Nat.sub_self] at hg
       injection hl with hl
       injection hg with hg
       subst hl hg
       refine ⟨hc,hp,?_,?_,?_,?_,?_,fun k f b hk hb h0=>?_,fun k f t hk ht=>?_⟩
       · have:(List.replicate q (-1:Int)).countP hasB=0:=by
           rw[List.countP_eq_zero]
           intro f hf
           rw[List.eq_of_mem_replicate hf]
           decide
         rw[this]
         show ((0:Nat):Int)≤c.l
         omega
       · show (List.replicate q _).length=_
         rw[List.length_replicate,List.length_replicate]
       · show (List.replicate q _).length=_
         rw[List.length_replicate,List.length_replicate]
       · show (List.replicate q _).length=_
         rw[List.length_replicate,List.length_replicate]
       · rw[List.length_replicate]
         show (0:Int)≤0∧(0:Int)<q
         omega
       · change (List.replicate q false)[k]?=some b at hb
         exact List.eq_of_mem_replicate (mem_at hb)
       · change (List.replicate q (⟨#[]⟩:ByteArray))[k]?=some t at ht
         rw[List.eq_of_mem_replicate (mem_at ht)]
         exact .inl rfl
     · rw[if_neg e2] at hl
       cases hl
 · show sumR (H.G++[newG c q])≤((H.P.add q).F.length:Int)
   rw[he]
   unfold sumR at hs ⊢
   rw[List.map_append,List.sum_append]
   show _+(c.r+0)≤_
   dsimp only
   omega
 · show 0≤H.n∧H.n<max (lenM (H.P.add q).M:Int) 1
   have hn:=hok.n
   have:lenM H.P.M≤lenM (H.P.add q).M:=by
    rw[he]
    unfold lenM
    rw[List.map_append,List.sum_append]
    exact Nat.le_add_right _ _
   omega
end Go.Proofs.YtbnngjhnkegliaaGreat
