/-
  Texts joined: PlKeep3 PlCount Mix Data PlPage PlText PlCarry PlAwake PlFilled PlSaves. No law is proved here.
-/
import Derived.Test.YtbnngjhnkegliaaGreatB7
import Derived.Laws.BytesArg
import Derived.Deep.RegionHeld3
namespace Go.Proofs.YtbnngjhnkegliaaGreat
open Go.RowKit
theorem zero_is {d:ByteArray} (h:d.size=128) (hz:zeroB d=true):d=zeros128:=by
 cases d with
 | mk a =>
   unfold zeroB at hz
   rw[List.all_eq_true] at hz
   have hl:a.toList.length=128:=by rw[Array.length_toList];exact h
   have e:a.toList=List.replicate 128 0:=by
    rw[List.eq_replicate_iff]
    exact⟨hl,fun b hb=>by have:=hz b hb;rwa[beq_iff_eq] at this⟩
   unfold zeros128
   rw[←e]
structure Pl.Wrote (P Q:Pl) (g p:Nat) (d:ByteArray):Prop where
 ok:Q.Ok
 al:P.Alike Q
 text:∀ a b,P.at a b→Q.text a b=if g=a∧p=b then d else P.text a b
theorem Pl.Gave.fr_self {P Q:Pl} {g p:Nat} (G:P.Gave Q g p):Q.fr g p = -1:=by rw[G.fr,if_pos ⟨rfl,rfl⟩]
theorem Pl.free_cnt {P:Pl} (H:P.Ok) {i:Nat} (h:P.F[i]?=some ⟨#[]⟩):P.cnt i=0:=by
 obtain⟨s,hs,_,h1,_⟩:=H.fr i (lt_of_get h)
 rw[h] at hs
 injection hs with hs
 exact h1.2 (by rw[←hs];rfl)
theorem Pl.take_put {P:Pl} (H:P.Ok) {g p i:Nat} {d:ByteArray} (h:P.at g p) (hi:P.F[i]?=some ⟨#[]⟩):(P.giveUp g p).Put (P.take g p i d) g p i d∧(P.giveUp g p).cnt i=0:=by
 have G:=H.gave h
 have HQ:=G.ok H
 have hil:=lt_of_get hi
 have hc:(P.giveUp g p).cnt i=0:=by
  have h1:=G.cnt i
  have h2:=Pl.free_cnt H hi
  omega
 refine ⟨Pl.put_of (x:=1) HQ ((G.al.at g p).2 h) G.fr_self (by rw[G.al.f];exact hil) (by rw[hc];rfl) _ rfl rfl (List.length_set ..) (fun v hv=>?_),hc⟩
 show ((P.giveUp g p).F.set i d)[v]?=_
 rw[List.getElem?_set]
 by_cases e:v=i
 · subst e
   rw[if_pos rfl,if_pos hv,if_pos rfl]
 · rw[if_neg (fun h=>e h.symm),if_neg e]
theorem Pl.wr_law {P:Pl} (H:P.Ok) {g p:Nat} {d:ByteArray} (h:P.at g p) (hd:d.size=128):(P.wok' g p d=true→P.Wrote (P.wr' g p d) g p d)∧(P.wok' g p d=false→P.wr' g p d=P):=by
 have G:=H.gave h
 have HQ:=G.ok H
 unfold Pl.wok' Pl.wr'
 cases hz:zeroB d
 · simp only[Bool.false_or,Bool.false_eq_true,if_false]
   cases ho:P.own g p
   · simp only[Bool.false_or,Bool.false_eq_true,if_false]
     cases hfo:firstOf P.F ⟨#[]⟩ with
     | none=>exact⟨fun h=>by simp at h,fun _=>rfl⟩
     | some i =>
       refine ⟨fun _=>?_,fun h=>by simp at h⟩
       have hi:=(firstOf_some.1 hfo).1
       obtain⟨T,hc⟩:=Pl.take_put (d:=d) H h hi
       have hil:i<(P.giveUp g p).F.length:=by rw[G.al.f];exact lt_of_get hi
       refine ⟨T.ok HQ hil ⟨hd,hz⟩,G.al.trans T.al,fun a b hab=>?_⟩
       rw[T.text HQ hil (.inl hc) ((G.al.at a b).2 hab),G.text H hab]
       split <;> rfl
   · simp only[Bool.true_or,if_true]
     refine ⟨fun _=>?_,fun h=>by simp at h⟩
     unfold Pl.own at ho
     rw[Bool.and_eq_true,decide_eq_true_eq,decide_eq_true_eq] at ho
     obtain⟨h0,h1⟩:=ho
     obtain⟨j,hj⟩:∃ j:Nat,P.fr g p=j:=⟨(P.fr g p).toNat,by omega⟩
     have hb:=H.at_bd h
     have hjl:j<P.F.length:=by omega
     rw[hj,Int.toNat_natCast,H.ref_eq hjl] at h1
     rw[hj,Int.toNat_natCast]
     have hal:=Pl.setF_alike P j d
     have hF:∀ v:Nat,(P.setF j d).F[v]?=if v=j∧v<P.F.length then some d else P.F[v]?:=fun v=>by
      show (P.F.set j d)[v]?=_
      rw[List.getElem?_set]
      by_cases e:v=j
      · subst e
        rw[if_pos rfl,if_pos hjl,if_pos ⟨rfl,hjl⟩]
      · rw[if_neg (fun h=>e h.symm),if_neg (fun h=>e h.1)]
     refine ⟨H.of hal (fun a b hab=>H.at_bd ((hal.at a b).1 hab)) (fun f hf=>?_),hal,fun a b hab=>?_⟩
     · obtain⟨s,hs,hx,e1,e2⟩:=H.fr f hf
       have hf2:=hF f
       by_cases e:f=j
       · subst e
         rw[if_pos ⟨rfl,hjl⟩] at hf2
         exact⟨d,hf2,hx,⟨fun h=>(by have:P.cnt f=0:=h;omega),fun h=>(by omega)⟩,.inr ⟨hd,hz⟩⟩
       · rw[if_neg (fun h=>e h.1)] at hf2
         exact⟨s,hf2.trans hs,hx,e1,e2⟩
     · unfold Pl.text
       have e:(P.setF j d).fr a b=P.fr a b:=rfl
       rw[e]
       by_cases eq:g=a∧p=b
       · rw[if_pos eq,←eq.1,←eq.2,hj,if_neg (by omega),Int.toNat_natCast]
         unfold Pl.txt
         rw[hF,if_pos ⟨rfl,hjl⟩]
         rfl
       · rw[if_neg eq]
         by_cases h2:P.fr a b<0
         · rw[if_pos h2,if_pos h2]
         · rw[if_neg h2,if_neg h2]
           unfold Pl.txt
           rw[hF,if_neg]
           rintro⟨e3,_⟩
           have:=Pl.cnt_two h hab eq hj (by omega)
           omega
 · simp only[Bool.true_or,if_true]
   refine ⟨fun _=>⟨HQ,G.al,fun a b hab=>?_⟩,fun h=>by simp at h⟩
   rw[G.text H hab,zero_is hd hz]
theorem Pl.least_some {P:Pl} (H:P.Ok) {g p:Nat} (h:P.at g p) (h0:0≤P.fr g p):∃ q:Nat,P.least g p=some q∧(q:Int)≤P.fr g p∧P.F[q]?=some (P.text g p)∧∀ u:Nat,u<q→P.F[u]?≠some (P.text g p):=by
 have hb:=H.at_bd h
 obtain⟨s,hs⟩:=get_lt (xs:=P.F) (k:=(P.fr g p).toNat) (by omega)
 have ht:P.txt (P.fr g p).toNat=s:=by unfold Pl.txt;rw[hs];rfl
 have htx:P.text g p=s:=by unfold Pl.text;rw[if_neg (by omega),ht]
 unfold Pl.least
 rw[ht,htx]
 cases hfo:firstOf P.F s with
 | none=>exact absurd hs (firstOf_none.1 hfo _)
 | some q =>
   obtain⟨h1,h2⟩:=firstOf_some.1 hfo
   refine ⟨q,rfl,?_,h1,h2⟩
   rcases Nat.lt_or_ge (P.fr g p).toNat q with h3|h3
   · exact absurd hs (h2 _ h3)
   · omega
theorem Pl.join_put {P:Pl} (H:P.Ok) {g p q:Nat} (h:P.at g p) (hq:(q:Int)<P.fr g p) (ht:P.F[q]?=some (P.text g p)) (h0:0≤P.fr g p):(P.giveUp g p).Put (P.join g p q) g p q (P.text g p)∧(P.giveUp g p).F[q]?=some (P.text g p):=by
 have G:=H.gave h
 have HQ:=G.ok H
 have hb:=H.at_bd h
 have hql:q<P.F.length:=by omega
 have hc:(P.giveUp g p).cnt q=P.cnt q:=by
  have h1:=G.cnt q
  rw[if_neg (by omega)] at h1
  exact h1
 have hF:(P.giveUp g p).F[q]?=some (P.text g p):=by
  rw[G.txt q hql,hc]
  split
  · rename_i e
    obtain⟨s,hs,_,h1,h2⟩:=H.fr q hql
    have hjl:(P.fr g p).toNat<P.F.length:=by omega
    obtain⟨s',hs',_,h1',_⟩:=H.fr (P.fr g p).toNat hjl
    have hcp:0<P.cnt (P.fr g p).toNat:=Pl.cnt_of_fr h (by omega)
    have htx:P.text g p=s':=by unfold Pl.text Pl.txt;rw[if_neg (by omega),hs'];rfl
    rw[ht] at hs
    injection hs with hs
    have:=h1.1 e
    rw[←hs,htx] at this
    have:=h1'.2 this
    omega
  · exact ht
 have hrf:(P.giveUp g p).ref q+1=((P.giveUp g p).cnt q:Int)+1:=by rw[G.ref q hql]
 refine ⟨Pl.put_of (x:=(P.giveUp g p).ref q+1) HQ ((G.al.at g p).2 h) G.fr_self (by rw[G.al.f];exact hql) hrf _ rfl rfl rfl (fun v hv=>?_),hF⟩
 show (P.giveUp g p).F[v]?=_
 split
 · rename_i e
   rw[e]
   exact hF
 · rfl
theorem Pl.text_good {P:Pl} (H:P.Ok) {g p:Nat} (h:P.at g p) (h0:0≤P.fr g p):(P.text g p).size=128∧zeroB (P.text g p)=false:=by
 have hb:=H.at_bd h
 obtain⟨s,hs,_,h1,h2⟩:=H.fr (P.fr g p).toNat (by omega)
 have hcp:0<P.cnt (P.fr g p).toNat:=Pl.cnt_of_fr h (by omega)
 have htx:P.text g p=s:=by unfold Pl.text Pl.txt;rw[if_neg (by omega),hs];rfl
 rw[htx]
 rcases h2 with h2|h2
 · have:=h1.2 h2
   omega
 · exact h2
structure Pl.Shared (P Q:Pl):Prop where
 ok:Q.Ok
 al:P.Alike Q
 text:∀ a b,P.at a b→Q.text a b=P.text a b
theorem Pl.sh_law {P:Pl} (H:P.Ok) {g p:Nat} (h:P.at g p):P.Shared (P.sh g p)∧(P.sok g p=false→P.sh g p=P):=by
 have hsame:P.Shared P:=⟨H,Pl.Alike.refl P,fun _ _ _=>rfl⟩
 unfold Pl.sh Pl.sok Pl.goodS
 rw[Pl.at_has H h,Bool.true_and,Int.toNat_natCast,Int.toNat_natCast]
 by_cases h0:0≤P.fr g p
 rotate_left
 · rw[decide_eq_false h0,if_neg (by decide)]
   exact⟨hsame,fun _=>rfl⟩
 rw[decide_eq_true h0,if_pos rfl,Bool.true_and]
 obtain⟨q,hq,hle,hF,hmin⟩:=Pl.least_some H h h0
 unfold Pl.sh' Pl.sok'
 rw[hq]
 dsimp only
 by_cases e:(q:Int)=P.fr g p
 · rw[if_pos e]
   exact⟨hsame,fun _=>rfl⟩
 · rw[if_neg e,decide_eq_false e]
   refine ⟨?_,fun h=>by simp at h⟩
   have G:=H.gave h
   have HQ:=G.ok H
   obtain⟨T,hF'⟩:=Pl.join_put H h (by omega) hF h0
   have hql:q<(P.giveUp g p).F.length:=lt_of_get hF'
   refine ⟨T.ok HQ hql (Pl.text_good H h h0),G.al.trans T.al,fun a b hab=>?_⟩
   rw[T.text HQ hql (.inr hF') ((G.al.at a b).2 hab),G.text H hab]
   split
   · rename_i e
     rw[e.1,e.2]
   · rfl
theorem countP_succ {α:Type} {q:α→Bool} {xs:List α} {k:Nat} {x:α} (h:xs[k]?=some x):(xs.take (k+1)).countP q=(xs.take k).countP q+if q x then 1 else 0:=by
 rw[List.take_add_one,h,List.countP_append]
 cases hq:q x <;> simp [hq]
theorem countP_le {α:Type} (q:α→Bool) (xs:List α) (k:Nat):(xs.take k).countP q≤k:=Nat.le_trans List.countP_le_length (by rw[List.length_take];omega)
def emptyB (s:ByteArray):Bool:=decide (s.size=0)
def hasB (f:Int):Bool:=decide (0≤f)
def zeroI (x:Int):Bool:=decide (x=0)
def Pl.freeN (P:Pl):Nat:=P.F.countP emptyB
def Pl.freeR (P:Pl):Nat:=P.R.countP zeroI
def Pl.chargeN (P:Pl) (g:Nat):Nat:=(P.pages g).countP hasB
def Pl.free (P:Pl):Nat:=if P.ok then P.freeN else 0
set_option maxHeartbeats 2000000 in
theorem pfree_any (v:Value) (P:Pl) (w:World) (h:PlRow w v P) (hf:P.fit):Calls Tryz.prog 99 #[v] w (Ret w (.int .i64 P.free)):=by
 have hrd:P.free=if P.ok then P.F.countP emptyB else 0:=rfl
 have HRD:=lh hrd;clear hrd
 obtain⟨of,or',om,kf,kr,km,rfl,kf1,kf2,kr1,kr2,km1,km2⟩:=h.form
 obtain⟨n,hn⟩:∃ n,P.F.length=n:=⟨_,rfl⟩
 obtain⟨r,hr⟩:∃ n,P.R.length=n:=⟨_,rfl⟩
 obtain⟨m,hm⟩:∃ n,P.M.length=n:=⟨_,rfl⟩
 rw[hn] at h kf1 ⊢
 rw[hr] at h kr1 ⊢
 rw[hm] at h km1 ⊢
 have HN:=lh hn;clear hn
 have HR:=lh hr;clear hr
 have HM:=lh hm;clear hm
 have V:=fun w h=>valid_pl (.agg #[.slice of n kf,.slice or' r kr,.slice om m km]) P w h hf
 clear hf
 cases hok:P.ok
 · rw[hok] at V HRD
   have HV:=lh V;clear V hok
   go_enter Tryz.func99,Tryz.ntmps99
   go_wp2_with fail
   with_reducible refine (HV.out _ (h.below bel)).mono ?_
   rintro e w1 ⟨rfl,hb1⟩
   obtain⟨hc1,hf1⟩:=bcell hb1
   have hz1:=bsize hb1
   try simp only[sizes1] at hz1
   try simp only[sizes] at hc1 hf1
   go_wp2_with fail
   go_ret
   exact Ret.mk' (by rw[HRD.out];rfl) bel
 · rw[hok] at V HRD
   rw[if_pos rfl] at HRD
   have HV:=lh V;clear V
   have H:=Pl.ok_iff.1 hok
   have hn2:=H.n2
   rw[HN.out] at hn2
   clear hok H
   go_enter Tryz.func99,Tryz.ntmps99
   go_wp2_with fail
   with_reducible refine (HV.out _ (h.below bel)).mono ?_
   rintro e w1 ⟨rfl,hb1⟩
   have D1:=(HasBlock.made w #[.slice of n kf,.slice or' r kr,.slice om m km] 26).below hb1
   have hbw:Below w.heap.size w w1:=bel
   have hrow:=h.below hbw
   clear hb1 h
   obtain⟨D1_c,D1_f,D1_z⟩:=D1.all
   go_wp2_with fail
   go_loop [3,12] (fun c i=>∃ k:Nat,k≤n∧i=.int .i64 k∧c=.int .i64 ((P.F.take k).countP emptyB:Nat)) (fun _ i=>n - (intOf i).toNat)
   case atStart=>exact⟨0,Nat.zero_le _,rfl,rfl⟩
   case round =>
    obtain⟨k,hk,rfl,rfl⟩:=hrel
    have hcl:=countP_le emptyB P.F k
    by_cases hlt:k<n
    · obtain⟨s,hs⟩:=get_lt (xs:=P.F) (k:=k) (by rw[HN.out];exact hlt)
      obtain⟨fb,foff,rfl,hfb,cf⟩:=hrow.parts.1.elem hs
      have hsu:=countP_succ (q:=emptyB) hs
      obtain⟨c,hc⟩:∃ c,(P.F.take k).countP emptyB=c:=⟨_,rfl⟩
      rw[hc] at hsu hcl ⊢
      have hii:=isEmpty_iff s
      unfold emptyB at hsu
      by_cases h0:s.size=0
      · rw[decide_eq_true h0] at hsu hii
        have HS:=lh hsu;clear hsu hs hc h0
        go_wp2_with fail
        go_round
        case rel=>exact⟨k+1,by omega,by go_num,by rw[show (P.F.take (k+1)).countP emptyB=c+1 from HS.out];go_num⟩
        case measure=>simp [intOf];omega
      · rw[decide_eq_false h0] at hsu hii
        have HS:=lh hsu;clear hsu hs hc h0
        go_wp2_with fail
        go_round
        case rel=>exact⟨k+1,by omega,by go_num,by rw[show (P.F.take (k+1)).countP emptyB=c from HS.out]⟩
        case measure=>simp [intOf];omega
    · obtain rfl:k=n:=by omega
      have hall:P.F.take k=P.F:=by rw[←HN.out];exact List.take_length
      rw[hall,←HRD.out]
      clear hall
      go_wp2_with fail
      go_ret
      exact Ret.mk hbw
def nextS (s:Int):Int:=IntKind.u64.wrap (s+11400714819323198485)
def nextZ1 (s:Int):Int:=IntKind.u64.wrap (bits .xor .u64 (nextS s) (nextS s / 1073741824)*13787848793156543929)
def nextZ2 (s:Int):Int:=IntKind.u64.wrap (bits .xor .u64 (nextZ1 s) (nextZ1 s / 134217728)*10723151780598845931)
def nextV (s:Int):Int:=bits .xor .u64 (nextZ2 s) (nextZ2 s / 2147483648)
theorem wrap_u64_bd (x:Int):0≤IntKind.u64.wrap x∧IntKind.u64.wrap x<18446744073709551616:=by
 rw[IntKind.wrap_u64];omega
theorem bits_u64_bd (o:BinOp) (x y:Int):0≤bits o .u64 x y∧bits o .u64 x y<18446744073709551616:=by
 unfold bits
 exact wrap_u64_bd _
theorem nextV_bd (s:Int):0≤nextV s∧nextV s<18446744073709551616:=bits_u64_bd _ _ _
theorem nextS_bd (s:Int):0≤nextS s∧nextS s<18446744073709551616:=wrap_u64_bd _
set_option maxHeartbeats 1000000 in
theorem vmfleetref1_Next_any (s:Int) (w:World) (_hs:0≤s∧s<18446744073709551616):Calls Tryz.prog 72 #[.int .u64 s] w (Ret w (.tuple #[.int .u64 (nextV s),.int .u64 (nextS s)])):=by
 go_enter Tryz.func72,Tryz.ntmps72
 go_wp2
 go_ret2
 exact Ret.mk' (by unfold nextV nextZ2 nextZ1 nextS;rfl) bel
theorem tmod_neg (n k:Int) (hk:1≤k) (h:n.tmod k<0):n.tmod k+k=n % k ∧ - k<n.tmod k:=by
 have h1:=Int.tmod_eq_emod (a:=n) (b:=k)
 have h2:=Int.emod_nonneg n (show k≠0 by omega)
 have h3:=Int.emod_lt_of_pos n (show 0<k by omega)
 split at h1 <;> omega
theorem tmod_pos (n k:Int) (hk:1≤k) (h:0≤n.tmod k):n.tmod k=n % k:=by
 have h1:=Int.tmod_eq_emod (a:=n) (b:=k)
 have h2:=Int.emod_nonneg n (show k≠0 by omega)
 have h3:=Int.emod_lt_of_pos n (show 0<k by omega)
 split at h1 <;> omega
set_option maxHeartbeats 1000000 in
theorem round_any (n k:Int) (w:World) (_hn : -9223372036854775808≤n∧n≤9223372036854775807) (hk:1≤k) (hk':k≤1000000):Calls Tryz.prog 14 #[.int .i64 n,.int .i64 k] w (Ret w (.int .i64 (n % k))):=by
 have hk0:(k == 0)=false:=by rw[beq_eq_false_iff_ne];omega
 by_cases h:n.tmod k<0
 · obtain⟨h1,h2⟩:=tmod_neg n k hk h
   have H:=lh h1;clear h1
   have h3 : -1000000≤n.tmod k:=by omega
   go_enter Tryz.func14,Tryz.ntmps14
   go_wp2
   go_ret
   exact Ret.mk' (by rw[H.out];rfl) bel
 · have H:=lh (tmod_pos n k hk (by omega))
   have h3:0≤n.tmod k:=by omega
   clear h
   go_enter Tryz.func14,Tryz.ntmps14
   go_wp2
   go_ret
   exact Ret.mk' (by rw[H.out];rfl) bel
def mixI (n k:Int):Int:=nextV (bits .xor .u64 (IntKind.u64.wrap n) (IntKind.u64.wrap (IntKind.u64.wrap k*11400714819323198485))) / 2
theorem mixI_bd (n k:Int):0≤mixI n k∧mixI n k<9223372036854775808:=by
 have:=nextV_bd (bits .xor .u64 (IntKind.u64.wrap n) (IntKind.u64.wrap (IntKind.u64.wrap k*11400714819323198485)))
 unfold mixI;omega
set_option maxHeartbeats 1000000 in
theorem mix_any (n k:Int) (w:World):Calls Tryz.prog 39 #[.int .i64 n,.int .i64 k] w (Ret w (.int .i64 (mixI n k))):=by
 have hb:=nextV_bd (bits .xor .u64 (IntKind.u64.wrap n) (IntKind.u64.wrap (IntKind.u64.wrap k*11400714819323198485)))
 have hm:mixI n k=nextV (bits .xor .u64 (IntKind.u64.wrap n) (IntKind.u64.wrap (IntKind.u64.wrap k*11400714819323198485))) / 2:=rfl
 have HM:=lh hm;clear hm
 go_enter Tryz.func39,Tryz.ntmps39
 go_wp2_with fail
 refine (vmfleetref1_Next_any _ _ (bits_u64_bd _ _ _)).mono ?_
 rintro e w1 ⟨rfl,hb1⟩
 obtain⟨hc1,hf1⟩:=bcell hb1
 have hz1:=bsize hb1
 try simp only[sizes1] at hz1
 try simp only[sizes] at hc1 hf1
 generalize hv:nextV (bits .xor .u64 (IntKind.u64.wrap n) (IntKind.u64.wrap (IntKind.u64.wrap k*11400714819323198485)))=v at hb ⊢
 have HV:=lh hv;clear hv
 go_wp2
 go_ret
 exact Ret.mk' (by rw[HM.out,HV.out];rfl) bel
theorem info_byte:(Tryz.prog.info? 5).map (fun i=>(i.zero,i.size,i.bytes))=some (some (.int .u8 0),1,1):=by kernel_rfl
def dataI (n:Int) (k:Nat):List Int:=(List.range k).map (fun i:Nat=>mixI n ((i:Int) / 9) % 256)
theorem dataI_len (n:Int) (k:Nat):(dataI n k).length=k:=by simp [dataI]
theorem dataI_succ (n:Int) (k:Nat):dataI n (k+1)=dataI n k++[mixI n ((k:Int) / 9) % 256]:=by
 unfold dataI
 rw[List.range_succ,List.map_append]
 rfl
def dataS (n:Int) (k:Nat):ByteArray:=strOfNums (dataI n k)
theorem dataS_size (n:Int) (k:Nat):(dataS n k).size=k:=by rw[dataS,strOfNums_size,dataI_len]
theorem bytes_string {w:World} {base n:Nat} {v:Value} {xs:List Int} (h:w.ownsRow base 5 1 v n (xs.map (Value.int .u8))) (hn:0<n) (hx:xs.length=n):∃ g cap,v=.slice (some ⟨g,0,none⟩) n cap∧n≤cap∧cap≤maxLen∧(convert 67 9 v).run Tryz.prog w=.ok (.string (strOfNums xs)) w:=by
 rcases h.2 with ⟨_,hbad⟩|⟨g,cap,cur,rfl,hb,hg,h1,h2,h3,h4⟩
 · omega
 · refine ⟨g,cap,rfl,h1,h2,?_⟩
   refine run_convert_bytes_arg w 67 5 Tryz.underlying67 Tryz.underlying5 g 0 n cap xs hx (fun i hi=>?_) 9 Tryz.underlying9
   rw[Nat.zero_add]
   have:=h.cellAt i (by omega)
   rw[this,List.getElem?_map,List.getD_eq_getElem?_getD,List.getElem?_eq_getElem (by omega)]
   rfl
theorem one_u8 (x:Int):∀ u∈[Value.int .u8 x],u.oneCell'=true:=by
 intro u hu
 simp at hu
 subst hu
 rfl
set_option maxHeartbeats 1000000 in
theorem data_any (n:Int) (K:Nat) (w:World) (h0:0<K) (hK:K≤100000):Calls Tryz.prog 40 #[.int .i64 n,.int .i64 K] w (Ret w (.string (dataS n K))):=by
 obtain⟨i0,hi,iz0,iz1,iz2⟩:=info_parts info_byte
 go_enter Tryz.func40,Tryz.ntmps40
 go_wp2_with fail
 go_loopw [5,6] (fun v i wr=>∃ k:Nat,k≤K∧i=.int .i64 k∧wr.ownsRow w.heap.size 5 1 v k ((dataI n k).map (Value.int .u8))∧Below w.heap.size w wr) (fun _ i _=>K - (intOf i).toNat)
 case atStart=>exact⟨0,by omega,rfl,World.ownsRow_nil _ _ _ _,bel⟩
 case round =>
  obtain⟨k,hk,rfl,hown,hbw⟩:=hrel
  have hbs0:=hbw.size
  by_cases hlt:k<K
  · have HO:=lh hown;clear hown
    have hm:=mixI_bd n ((k:Int) / 9)
    have M:=fun w=>mix_any n ((k:Int) / 9) w
    have hsu:=dataI_succ n k
    obtain⟨x,hx⟩:∃ x,mixI n ((k:Int) / 9)=x:=⟨_,rfl⟩
    rw[hx] at hm M hsu
    have HM:=lh M;clear M hx
    have HSU:=lh hsu;clear hsu
    go_wp2_with fail
    with_reducible refine (HM.out _).mono ?_
    rintro e w1 ⟨rfl,hb1⟩
    obtain⟨hc1,hf1⟩:=bcell hb1
    have hz1:=bsize hb1
    try simp only[sizes1] at hz1
    try simp only[sizes] at hc1 hf1
    have hbw1:Below w.heap.size w w1:=hbw.trans (hb1.mono hbw.size)
    have HO1:=lh (owns_below HO.out hb1)
    clear hb1 hc1 hf1 HO hbw
    go_wp2_with (at_builtin;refine wpList_append_own _ rfl (.tmp 12) (.tmp 18) 67 rfl w.heap.size 5 i0 (.int .u8 0) 1 1 Tryz.underlying67 hi iz0 iz1 iz2 rfl (by decide) _ k ((dataI n k).map (Value.int .u8)) rfl (HO1.out.alloc _) ⟨w1.heap.size,0,none⟩ 1 1 [.int .u8 (x % 256)] rfl rfl (cells_made _ [.int .u8 (x % 256)] _ _ (by first|rfl|simp only[sizes])) (one_u8 _) (by unfold maxLen;omega) (by omega) (by first|exact nlr _|omega|(simp only[sizes];done)|(simp only[sizes];omega)) ?_;intro v3 w3 hown3 hgrow3 _;have hb3:=below_append bel (HO1.out.alloc _) hgrow3;have hz3:=hb3.size)
    have hown4:w3.ownsRow w.heap.size 5 1 v3 (k+1) ((dataI n (k+1)).map (Value.int .u8)):=by
     rw[HSU.out,List.map_append]
     exact hown3
    clear hown3
    go_wp2_with fail
    go_roundw
    case rel=>exact⟨k+1,by omega,by go_num,hown4,hb3⟩
    case measure=>simp [intOf];omega
  · obtain rfl:k=K:=by omega
    obtain⟨g,cap,rfl,h1,h2,hcv⟩:=bytes_string hown h0 (dataI_len n k)
    have hd:strOfNums (dataI n k)=dataS n k:=rfl
    rw[hd] at hcv
    clear hown hd
    go_wp2_with fail
    go_ret
    exact Ret.mk bel
theorem zeros_made (w:World):(Instr.makeSlice 67 (.int .i64 128) (.int .i64 128)).run Tryz.prog w=.ok (.slice (some ⟨w.heap.size,0,none⟩) 128 128) (w.alloc (.cells ((List.replicate 128 (0:Int)).map (Value.int .u8)).toArray 5)):=by
 rw[List.map_replicate]
 exact run_make_one (P:=Tryz.prog) 67 5 (.int .u8 0) 1 Tryz.underlying67 (by kernel_rfl) rfl 128 (by omega) (by omega) w
theorem bytes_conv {w:World} {g:Nat} {xs:List Int} (hx:xs.length=128) (h:HasBlock w g (xs.map (Value.int .u8)).toArray 5):(convert 67 9 (.slice (some ⟨g,0,none⟩) 128 128)).run Tryz.prog w=.ok (.string (strOfNums xs)) w:=by
 have ho:w.ownsRow g 5 1 (.slice (some ⟨g,0,none⟩) 128 128) 128 (xs.map (Value.int .u8)) :=
  ⟨by rw[List.length_map,hx],.inr ⟨g,128,_,rfl,nlr _,h,nlr _,by unfold maxLen;omega,by rw[List.size_toArray,List.length_map,hx],List.take_of_length_le (by rw[List.length_map,hx];omega)⟩⟩
 obtain⟨g',cap,e,_,_,hc⟩:=bytes_string ho (by omega) hx
 exact hc
theorem zeros_str:strOfNums (List.replicate 128 0)=zeros128:=by decide +kernel
set_option maxHeartbeats 1000000 in
theorem blank_any (w:World):Calls Tryz.prog 92 #[] w (Ret w (.string zeros128)):=by
 have MK:=zeros_made
 have CV:∀ w g,HasBlock w g ((List.replicate 128 (0:Int)).map (Value.int .u8)).toArray 5→_:=fun w g h=>bytes_conv (List.length_replicate ..) h
 rw[zeros_str] at CV
 obtain⟨Z,hZ⟩:∃ Z,((List.replicate 128 (0:Int)).map (Value.int .u8)).toArray=Z:=⟨_,rfl⟩
 obtain⟨z,hz⟩:∃ z,zeros128=z:=⟨_,rfl⟩
 rw[hZ] at MK CV
 rw[hz] at CV ⊢
 have hcv:=CV (w.alloc (.cells Z 5)) w.heap.size (HasBlock.made w Z 5)
 clear hz hZ CV
 go_enter Tryz.func92,Tryz.ntmps92
 go_wp2_with fail
 go_ret
 exact Ret.mk bel
theorem zeroB_at {s:ByteArray} {k:Nat} (hk:k<s.size) (h:s[k]≠0):zeroB s=false:=by
 unfold zeroB
 rw[List.all_eq_false]
 exact⟨s[k],by simp [ByteArray.getElem_eq_getElem_data],by simpa using h⟩
theorem zero_take {s:ByteArray} {k:Nat} (hk:k<s.size) (h0:(s.data.toList.take k).all (fun c=>c == 0)=true) (h:s[k]=0):(s.data.toList.take (k+1)).all (fun c=>c == 0)=true:=by
 rw[List.take_add_one,List.all_append,h0,Bool.true_and]
 have:s.data.toList[k]?=some s[k]:=by
  rw[Array.getElem?_toList,Array.getElem?_eq_getElem (by exact hk)];rfl
 rw[this,h]
 rfl
set_option maxHeartbeats 1000000 in
theorem zero_any (s:ByteArray) (w:World) (hs:s.size≤9223372036854775807):Calls Tryz.prog 61 #[.string s] w (Ret w (.bool (zeroB s))):=by
 go_enter Tryz.func61,Tryz.ntmps61
 go_wp2_with fail
 go_loop [3] (fun i=>∃ k:Nat,k≤s.size∧i=.int .i64 k∧Hid ((s.data.toList.take k).all (fun c=>c == 0)=true)) (fun i=>s.size - (intOf i).toNat)
 case atStart=>exact⟨0,Nat.zero_le _,rfl,rfl⟩
 case round =>
  obtain⟨k,hk,rfl,hA⟩:=hrel
  by_cases hlt:k<s.size
  · by_cases h0:s[k]=0
    · have hup:=zero_take hlt hA.out h0
      have HUP:=lh hup;clear hup
      have e0:s[k].toNat=0:=by rw[h0];rfl
      have e1:((s[k].toNat:Int) != 0)=false:=by rw[bne_eq_false_iff_eq];omega
      have e2:(s[k].toNat != 0)=false:=by rw[bne_eq_false_iff_eq];omega
      have e3:(s[k] != 0)=false:=by rw[bne_eq_false_iff_eq];exact h0
      clear h0 e0
      go_wp2_with fail
      go_round
      case rel=>exact⟨k+1,by omega,by go_num,HUP.out⟩
      case measure=>simp [intOf];omega
    · have hno:=zeroB_at hlt h0
      have HNO:=lh hno;clear hno
      have e0:s[k].toNat≠0:=fun e=>h0 (UInt8.toNat_inj.1 e)
      have e1:((s[k].toNat:Int) != 0)=true:=by rw[bne_iff_ne];omega
      have e2:(s[k].toNat != 0)=true:=by rw[bne_iff_ne];omega
      have e3:(s[k] != 0)=true:=by rw[bne_iff_ne];exact h0
      clear h0 e0
      go_wp2_with fail
      go_ret
      exact Ret.mk' (by rw[HNO.out];rfl) bel
  · obtain rfl:k=s.size:=by omega
    have hyes:zeroB s=true:=by
     have h:=hA.out
     rw[List.take_of_length_le (by rw[Array.length_toList];exact nlr _)] at h
     exact h
    have HY:=lh hyes;clear hyes
    go_wp2_with fail
    go_ret
    exact Ret.mk' (by rw[HY.out];rfl) bel
def pgI (k:Int) (i:Nat):List Int:=(List.range 128).map (fun j:Nat=>if j<i then k*(1+(j:Int) / 64) else 0)
theorem pgI_len (k:Int) (i:Nat):(pgI k i).length=128:=by simp [pgI]
theorem pgI_zero (k:Int):pgI k 0=List.replicate 128 0:=by
 unfold pgI
 rw[List.eq_replicate_iff]
 refine ⟨by simp,fun x hx=>?_⟩
 rw[List.mem_map] at hx
 obtain⟨j,_,rfl⟩:=hx
 rw[if_neg (Nat.not_lt_zero _)]
theorem pgI_at {k:Int} {i j:Nat} (h:j<128):(pgI k i)[j]?=some (if j<i then k*(1+(j:Int) / 64) else 0):=by
 unfold pgI
 rw[List.getElem?_map,List.getElem?_range h]
 rfl
theorem pgI_succ {k:Int} {i:Nat}:pgI k (i+1)=(pgI k i).set i (k*(1+(i:Int) / 64)):=by
 apply List.ext_getElem?
 intro j
 by_cases hj:j<128
 · rw[pgI_at hj,List.getElem?_set,pgI_len]
   by_cases e:i=j
   · subst e
     rw[if_pos rfl,if_pos hj,if_pos (by omega)]
   · rw[if_neg e,pgI_at hj]
     by_cases h:j<i
     · rw[if_pos h,if_pos (by omega)]
     · rw[if_neg h,if_neg (by omega)]
 · rw[List.getElem?_eq_none (by rw[pgI_len];omega),List.getElem?_eq_none (by rw[List.length_set,pgI_len];omega)]
def pageS (n:Int):ByteArray:=if n % 7=0 then zeros128 else if 5≤n % 7 then dataS n 128 else strOfNums (pgI (n % 7) 128)
theorem pageS_size (n:Int):(pageS n).size=128:=by
 unfold pageS
 split
 · exact zeros128_size
 · split
   · exact dataS_size n 128
   · rw[strOfNums_size,pgI_len]
set_option maxRecDepth 100000 in
set_option maxHeartbeats 4000000 in
theorem page_any (n:Int) (w:World) (hn : -9223372036854775808≤n∧n≤9223372036854775807):Calls Tryz.prog 15 #[.int .i64 n] w (Ret w (.string (pageS n))):=by
 have R:=fun w=>round_any n 7 w hn (by omega) (by omega)
 have b1:=Int.emod_nonneg n (show (7:Int)≠0 by omega)
 have b2:=Int.emod_lt_of_pos n (show (0:Int)<7 by omega)
 by_cases h0:n % 7=0
 · have hp:pageS n=zeros128:=by unfold pageS;rw[if_pos h0]
   rw[h0] at R
   have HR:=lh R
   have HP:=lh hp
   have MK:=zeros_made
   have CV:∀ w g,HasBlock w g ((List.replicate 128 (0:Int)).map (Value.int .u8)).toArray 5→_:=fun w g h=>bytes_conv (List.length_replicate ..) h
   rw[zeros_str,←hp] at CV
   have HCV:=lh CV
   obtain⟨Z,hZ⟩:∃ Z,((List.replicate 128 (0:Int)).map (Value.int .u8)).toArray=Z:=⟨_,rfl⟩
   rw[hZ] at MK HCV
   clear hp R CV h0 hn hZ b1 b2
   go_enter Tryz.func15,Tryz.ntmps15
   go_wp2_with fail
   with_reducible refine (HR.out _).mono ?_
   rintro e w1 ⟨rfl,hb1⟩
   have hcv:=HCV.out (w1.alloc (.cells Z 5)) w1.heap.size (HasBlock.made w1 Z 5)
   go_wp2_with fail
   go_ret
   exact Ret.mk (hb1.alloc hb1.size _)
 by_cases h5:5≤n % 7
 · have hp:pageS n=dataS n 128:=by unfold pageS;rw[if_neg h0,if_pos h5]
   have DT:∀ w,Calls Tryz.prog 40 #[.int .i64 n,.int .i64 128] w (Ret w (.string (pageS n))):=fun w=>by rw[hp];exact data_any n 128 w (by omega) (by omega)
   have HDT:=lh DT
   have MK:=zeros_made
   obtain⟨Z,hZ⟩:∃ Z,((List.replicate 128 (0:Int)).map (Value.int .u8)).toArray=Z:=⟨_,rfl⟩
   rw[hZ] at MK
   obtain⟨k,hk⟩:∃ k,n % 7=k:=⟨_,rfl⟩
   rw[hk] at R h0 h5 b1 b2
   have HR:=lh R
   have e0:(k == 0)=false:=by rw[beq_eq_false_iff_ne];exact h0
   clear hp DT R hZ hk hn h0
   go_enter Tryz.func15,Tryz.ntmps15
   go_wp2_with fail
   with_reducible refine (HR.out _).mono ?_
   rintro e w1 ⟨rfl,hb1⟩
   go_wp2_with fail
   with_reducible refine (HDT.out _).mono ?_
   rintro e w2 ⟨rfl,hb2⟩
   go_wp2_with fail
   go_ret
   exact Ret.mk ((hb1.alloc hb1.size _).trans (hb2.mono (by simp only[sizes];have:=hb1.size;omega)))
 obtain⟨k,hk⟩:∃ k,n % 7=k:=⟨_,rfl⟩
 rw[hk] at R h0 h5 b1 b2
 have HR:=lh R
 clear R hn
 rcases (show k=1∨k=2∨k=3∨k=4 by omega) with rfl|rfl|rfl|rfl
 · clear h0 h5 b1 b2
   have hl0:=pgI_len 1 0
   have CV:∀ w g i,HasBlock w g ((pgI 1 i).map (Value.int .u8)).toArray 5→(convert 67 9 (.slice (some ⟨g,0,none⟩) 128 128)).run Tryz.prog w=.ok (.string (strOfNums (pgI 1 i))) w:=fun w g i h=>bytes_conv (pgI_len 1 i) h
   have HCV:=lh CV;clear CV
   have mk:=zeros_made
   rw[←pgI_zero 1] at mk
   have hp:pageS n=strOfNums (pgI 1 128):=by unfold pageS;rw[hk,if_neg (by omega),if_neg (by omega)]
   have HP:=lh hp;clear hp
   have HPG:Hid (∀ i,pgI 1 (i+1)=(pgI 1 i).set i (1*(1+(i:Int) / 64))):=fun i=>pgI_succ
   obtain⟨pg,hpg⟩:∃ f:Nat→List Int,(fun i=>pgI 1 i)=f:=⟨_,rfl⟩
   have hpgi:∀ i,pgI 1 i=pg i:=fun i=>by rw[←hpg]
   have HPGI:=lh hpgi
   rw[hpgi] at mk
   clear hpg hpgi hl0
   go_enter Tryz.func15,Tryz.ntmps15
   go_wp2_with fail
   with_reducible refine (HR.out _).mono ?_
   rintro e w1 ⟨rfl,hb1⟩
   go_wp2_with fail
   have hg0:=HasBlock.made w1 ((pg 0).map (Value.int .u8)).toArray 5
   have hbw0:Below w.heap.size w (w1.alloc (.cells ((pg 0).map (Value.int .u8)).toArray 5)):=(hb1.alloc hb1.size _)
   have hzB:=hb1.size
   obtain⟨B,hB⟩:∃ B,w1.heap.size=B:=⟨_,rfl⟩
   rw[hB] at hg0 hzB ⊢
   generalize hW:w1.alloc (.cells ((pg 0).map (Value.int .u8)).toArray 5)=w2 at hg0 hbw0 ⊢
   clear hW mk hb1 hB
   go_loopw [5] (fun iv wr=>∃ i:Nat,i≤128∧iv=.int .i64 i∧HasBlock wr B ((pg i).map (Value.int .u8)).toArray 5∧Below w.heap.size w wr) (fun iv _=>128 - (intOf iv).toNat)
   case atStart=>exact⟨0,Nat.zero_le _,rfl,hg0,hbw0⟩
   case round =>
    clear hg0 hbw0
    obtain⟨i,hi,rfl,hg,hbw⟩:=hrel
    by_cases hlt:i<128
    · have hc:=hg.cell i
      rw[List.getElem?_toArray,List.getElem?_map,←HPGI.out i,pgI_at hlt,if_neg (Nat.lt_irrefl _)] at hc
      have hc:wr.cell? ⟨B,i,none⟩=some (.int .u8 0):=hc
      have hfz:=hg.free i
      have hd1:0≤(i:Int) / 64∧(i:Int) / 64≤1:=by omega
      go_wp2_with fail
      go_roundw
      case rel =>
       refine ⟨i+1,by omega,by go_num,?_,hbw.setCell (by dsimp only;omega) _⟩
       have h:=hg.set_at i (.int .u8 (1*(1+(i:Int) / 64)))
       rw[List.setIfInBounds_toArray,←List.map_set,←HPGI.out i,←HPG.out i,HPGI.out] at h
       first|exact h|simpa using h
      case measure=>simp [intOf];omega
    · obtain rfl:i=128:=by omega
      have hcv:=HCV.out wr B 128 (by rw[HPGI.out];exact hg)
      rw[←HP.out] at hcv
      go_wp2_with fail
      go_ret
      exact Ret.mk hbw
 · clear h0 h5 b1 b2
   have hl0:=pgI_len 2 0
   have CV:∀ w g i,HasBlock w g ((pgI 2 i).map (Value.int .u8)).toArray 5→(convert 67 9 (.slice (some ⟨g,0,none⟩) 128 128)).run Tryz.prog w=.ok (.string (strOfNums (pgI 2 i))) w:=fun w g i h=>bytes_conv (pgI_len 2 i) h
   have HCV:=lh CV;clear CV
   have mk:=zeros_made
   rw[←pgI_zero 2] at mk
   have hp:pageS n=strOfNums (pgI 2 128):=by unfold pageS;rw[hk,if_neg (by omega),if_neg (by omega)]
   have HP:=lh hp;clear hp
   have HPG:Hid (∀ i,pgI 2 (i+1)=(pgI 2 i).set i (2*(1+(i:Int) / 64))):=fun i=>pgI_succ
   obtain⟨pg,hpg⟩:∃ f:Nat→List Int,(fun i=>pgI 2 i)=f:=⟨_,rfl⟩
   have hpgi:∀ i,pgI 2 i=pg i:=fun i=>by rw[←hpg]
   have HPGI:=lh hpgi
   rw[hpgi] at mk
   clear hpg hpgi hl0
   go_enter Tryz.func15,Tryz.ntmps15
   go_wp2_with fail
   with_reducible refine (HR.out _).mono ?_
   rintro e w1 ⟨rfl,hb1⟩
   go_wp2_with fail
   have hg0:=HasBlock.made w1 ((pg 0).map (Value.int .u8)).toArray 5
   have hbw0:Below w.heap.size w (w1.alloc (.cells ((pg 0).map (Value.int .u8)).toArray 5)):=(hb1.alloc hb1.size _)
   have hzB:=hb1.size
   obtain⟨B,hB⟩:∃ B,w1.heap.size=B:=⟨_,rfl⟩
   rw[hB] at hg0 hzB ⊢
   generalize hW:w1.alloc (.cells ((pg 0).map (Value.int .u8)).toArray 5)=w2 at hg0 hbw0 ⊢
   clear hW mk hb1 hB
   go_loopw [5] (fun iv wr=>∃ i:Nat,i≤128∧iv=.int .i64 i∧HasBlock wr B ((pg i).map (Value.int .u8)).toArray 5∧Below w.heap.size w wr) (fun iv _=>128 - (intOf iv).toNat)
   case atStart=>exact⟨0,Nat.zero_le _,rfl,hg0,hbw0⟩
   case round =>
    clear hg0 hbw0
    obtain⟨i,hi,rfl,hg,hbw⟩:=hrel
    by_cases hlt:i<128
    · have hc:=hg.cell i
      rw[List.getElem?_toArray,List.getElem?_map,←HPGI.out i,pgI_at hlt,if_neg (Nat.lt_irrefl _)] at hc
      have hc:wr.cell? ⟨B,i,none⟩=some (.int .u8 0):=hc
      have hfz:=hg.free i
      have hd1:0≤(i:Int) / 64∧(i:Int) / 64≤1:=by omega
      go_wp2_with fail
      go_roundw
      case rel =>
       refine ⟨i+1,by omega,by go_num,?_,hbw.setCell (by dsimp only;omega) _⟩
       have h:=hg.set_at i (.int .u8 (2*(1+(i:Int) / 64)))
       rw[List.setIfInBounds_toArray,←List.map_set,←HPGI.out i,←HPG.out i,HPGI.out] at h
       first|exact h|simpa using h
      case measure=>simp [intOf];omega
    · obtain rfl:i=128:=by omega
      have hcv:=HCV.out wr B 128 (by rw[HPGI.out];exact hg)
      rw[←HP.out] at hcv
      go_wp2_with fail
      go_ret
      exact Ret.mk hbw
 · clear h0 h5 b1 b2
   have hl0:=pgI_len 3 0
   have CV:∀ w g i,HasBlock w g ((pgI 3 i).map (Value.int .u8)).toArray 5→(convert 67 9 (.slice (some ⟨g,0,none⟩) 128 128)).run Tryz.prog w=.ok (.string (strOfNums (pgI 3 i))) w:=fun w g i h=>bytes_conv (pgI_len 3 i) h
   have HCV:=lh CV;clear CV
   have mk:=zeros_made
   rw[←pgI_zero 3] at mk
   have hp:pageS n=strOfNums (pgI 3 128):=by unfold pageS;rw[hk,if_neg (by omega),if_neg (by omega)]
   have HP:=lh hp;clear hp
   have HPG:Hid (∀ i,pgI 3 (i+1)=(pgI 3 i).set i (3*(1+(i:Int) / 64))):=fun i=>pgI_succ
   obtain⟨pg,hpg⟩:∃ f:Nat→List Int,(fun i=>pgI 3 i)=f:=⟨_,rfl⟩
   have hpgi:∀ i,pgI 3 i=pg i:=fun i=>by rw[←hpg]
   have HPGI:=lh hpgi
   rw[hpgi] at mk
   clear hpg hpgi hl0
   go_enter Tryz.func15,Tryz.ntmps15
   go_wp2_with fail
   with_reducible refine (HR.out _).mono ?_
   rintro e w1 ⟨rfl,hb1⟩
   go_wp2_with fail
   have hg0:=HasBlock.made w1 ((pg 0).map (Value.int .u8)).toArray 5
   have hbw0:Below w.heap.size w (w1.alloc (.cells ((pg 0).map (Value.int .u8)).toArray 5)):=(hb1.alloc hb1.size _)
   have hzB:=hb1.size
   obtain⟨B,hB⟩:∃ B,w1.heap.size=B:=⟨_,rfl⟩
   rw[hB] at hg0 hzB ⊢
   generalize hW:w1.alloc (.cells ((pg 0).map (Value.int .u8)).toArray 5)=w2 at hg0 hbw0 ⊢
   clear hW mk hb1 hB
   go_loopw [5] (fun iv wr=>∃ i:Nat,i≤128∧iv=.int .i64 i∧HasBlock wr B ((pg i).map (Value.int .u8)).toArray 5∧Below w.heap.size w wr) (fun iv _=>128 - (intOf iv).toNat)
   case atStart=>exact⟨0,Nat.zero_le _,rfl,hg0,hbw0⟩
   case round =>
    clear hg0 hbw0
    obtain⟨i,hi,rfl,hg,hbw⟩:=hrel
    by_cases hlt:i<128
    · have hc:=hg.cell i
      rw[List.getElem?_toArray,List.getElem?_map,←HPGI.out i,pgI_at hlt,if_neg (Nat.lt_irrefl _)] at hc
      have hc:wr.cell? ⟨B,i,none⟩=some (.int .u8 0):=hc
      have hfz:=hg.free i
      have hd1:0≤(i:Int) / 64∧(i:Int) / 64≤1:=by omega
      go_wp2_with fail
      go_roundw
      case rel =>
       refine ⟨i+1,by omega,by go_num,?_,hbw.setCell (by dsimp only;omega) _⟩
       have h:=hg.set_at i (.int .u8 (3*(1+(i:Int) / 64)))
       rw[List.setIfInBounds_toArray,←List.map_set,←HPGI.out i,←HPG.out i,HPGI.out] at h
       first|exact h|simpa using h
      case measure=>simp [intOf];omega
    · obtain rfl:i=128:=by omega
      have hcv:=HCV.out wr B 128 (by rw[HPGI.out];exact hg)
      rw[←HP.out] at hcv
      go_wp2_with fail
      go_ret
      exact Ret.mk hbw
 · clear h0 h5 b1 b2
   have hl0:=pgI_len 4 0
   have CV:∀ w g i,HasBlock w g ((pgI 4 i).map (Value.int .u8)).toArray 5→(convert 67 9 (.slice (some ⟨g,0,none⟩) 128 128)).run Tryz.prog w=.ok (.string (strOfNums (pgI 4 i))) w:=fun w g i h=>bytes_conv (pgI_len 4 i) h
   have HCV:=lh CV;clear CV
   have mk:=zeros_made
   rw[←pgI_zero 4] at mk
   have hp:pageS n=strOfNums (pgI 4 128):=by unfold pageS;rw[hk,if_neg (by omega),if_neg (by omega)]
   have HP:=lh hp;clear hp
   have HPG:Hid (∀ i,pgI 4 (i+1)=(pgI 4 i).set i (4*(1+(i:Int) / 64))):=fun i=>pgI_succ
   obtain⟨pg,hpg⟩:∃ f:Nat→List Int,(fun i=>pgI 4 i)=f:=⟨_,rfl⟩
   have hpgi:∀ i,pgI 4 i=pg i:=fun i=>by rw[←hpg]
   have HPGI:=lh hpgi
   rw[hpgi] at mk
   clear hpg hpgi hl0
   go_enter Tryz.func15,Tryz.ntmps15
   go_wp2_with fail
   with_reducible refine (HR.out _).mono ?_
   rintro e w1 ⟨rfl,hb1⟩
   go_wp2_with fail
   have hg0:=HasBlock.made w1 ((pg 0).map (Value.int .u8)).toArray 5
   have hbw0:Below w.heap.size w (w1.alloc (.cells ((pg 0).map (Value.int .u8)).toArray 5)):=(hb1.alloc hb1.size _)
   have hzB:=hb1.size
   obtain⟨B,hB⟩:∃ B,w1.heap.size=B:=⟨_,rfl⟩
   rw[hB] at hg0 hzB ⊢
   generalize hW:w1.alloc (.cells ((pg 0).map (Value.int .u8)).toArray 5)=w2 at hg0 hbw0 ⊢
   clear hW mk hb1 hB
   go_loopw [5] (fun iv wr=>∃ i:Nat,i≤128∧iv=.int .i64 i∧HasBlock wr B ((pg i).map (Value.int .u8)).toArray 5∧Below w.heap.size w wr) (fun iv _=>128 - (intOf iv).toNat)
   case atStart=>exact⟨0,Nat.zero_le _,rfl,hg0,hbw0⟩
   case round =>
    clear hg0 hbw0
    obtain⟨i,hi,rfl,hg,hbw⟩:=hrel
    by_cases hlt:i<128
    · have hc:=hg.cell i
      rw[List.getElem?_toArray,List.getElem?_map,←HPGI.out i,pgI_at hlt,if_neg (Nat.lt_irrefl _)] at hc
      have hc:wr.cell? ⟨B,i,none⟩=some (.int .u8 0):=hc
      have hfz:=hg.free i
      have hd1:0≤(i:Int) / 64∧(i:Int) / 64≤1:=by omega
      go_wp2_with fail
      go_roundw
      case rel =>
       refine ⟨i+1,by omega,by go_num,?_,hbw.setCell (by dsimp only;omega) _⟩
       have h:=hg.set_at i (.int .u8 (4*(1+(i:Int) / 64)))
       rw[List.setIfInBounds_toArray,←List.map_set,←HPGI.out i,←HPG.out i,HPGI.out] at h
       first|exact h|simpa using h
      case measure=>simp [intOf];omega
    · obtain rfl:i=128:=by omega
      have hcv:=HCV.out wr B 128 (by rw[HPGI.out];exact hg)
      rw[←HP.out] at hcv
      go_wp2_with fail
      go_ret
      exact Ret.mk hbw
theorem Below.alloc' {B:Nat} {a w:World} (h:Below B a w) (hB:B≤a.heap.size) (o:Obj):Below B a (w.alloc o):=h.alloc (Nat.le_trans hB h.size) o
theorem HasBlock.made' {w:World} {cs:Array Value} {T:TypeId} {b:Nat} (hb:b=w.heap.size):HasBlock (w.alloc (.cells cs T)) b cs T:=by subst hb;exact HasBlock.made w cs T
theorem HasBlock.fill3 {w:World} {b:Nat} {T:TypeId} {y0 y1 y2:Value} (h:HasBlock w b #[.slice none 0 0,.slice none 0 0,.slice none 0 0] T):HasBlock (((w.setCell ⟨b,0,none⟩ y0).setCell ⟨b,1,none⟩ y1).setCell ⟨b,2,none⟩ y2) b #[y0,y1,y2] T:=((h.put3_0 y0).put3_1 y1).put3_2 y2
theorem OwnP.fill {base B:Nat} {w:World} {vf vr vm:Value} {us:List Value} {P:Pl} {x0 x1 x2:Value} {T:TypeId} (h:OwnP base w vf vr vm us P) (hB:HasBlock w B #[x0,x1,x2] T) (h1:T≠9) (h2:T≠3) (h3:T≠23) (y0 y1 y2:Value):OwnP base (((w.setCell ⟨B,0,none⟩ y0).setCell ⟨B,1,none⟩ y1).setCell ⟨B,2,none⟩ y2) vf vr vm us P :=
 ((h.setbox hB h1 h2 h3 y0).setbox (hB.put3_0 y0) h1 h2 h3 y1).setbox ((hB.put3_0 y0).put3_1 y1) h1 h2 h3 y2
end Go.Proofs.YtbnngjhnkegliaaGreat
namespace Go.Proofs.YtbnngjhnkegliaaGreat
open Go.RowKit
end Go.Proofs.YtbnngjhnkegliaaGreat
namespace Go.Proofs.YtbnngjhnkegliaaGreat
open Go.RowKit
theorem Pl.wr_eq {P:Pl} (H:P.Ok) {g p:Nat} {d:ByteArray} (h:P.at g p) (hd:d.size=128):P.wr g p d=P.wr' g p d∧P.wok g p d=P.wok' g p d:=by
 have hg:P.goodW g p d=true:=by unfold Pl.goodW;rw[Pl.at_has H h,decide_eq_true hd];rfl
 unfold Pl.wr Pl.wok
 rw[hg,Int.toNat_natCast,Int.toNat_natCast]
 exact⟨rfl,rfl⟩
def fill0 (n:Nat):Pl:=((newPl n).add 4).add 4
theorem fresh_eq {n:Nat} (h1:1≤n) (h2:n≤96):newPl n=⟨freshF n,freshR n,[]⟩:=by
 unfold newPl
 rw[show newOk n=true from decide_eq_true ⟨by omega,by omega⟩,if_pos rfl,Int.toNat_natCast]
theorem cnt_neg (K v:Nat):(List.replicate K (-1:Int)).count (v:Int)=0:=by
 rw[List.count_replicate,if_neg]
 intro h
 rw[beq_iff_eq] at h
 omega
theorem fresh_ok {n:Nat} (h1:1≤n) (h2:n≤96) (M:List (List Int)) (hM:∀ l∈M,l=List.replicate 4 (-1)) (hl:M.length≤8):(⟨freshF n,freshR n,M⟩:Pl).Ok:=by
 have hc:∀ v:Nat,(⟨freshF n,freshR n,M⟩:Pl).cnt v=0:=fun v=>by
  show M.flatten.count (v:Int)=0
  rw[List.count_eq_zero]
  intro h
  rw[List.mem_flatten] at h
  obtain⟨l,hl,hv⟩:=h
  rw[hM l hl] at hv
  have:=List.eq_of_mem_replicate hv
  omega
 refine ⟨by simpa [freshF] using h1,by simpa [freshF] using h2,by simp [freshF,freshR],hl,fun l h=>by rw[hM l h];simp,fun l h f hf=>?_,fun f hf=>?_⟩
 · rw[hM l h] at hf
   have:=List.eq_of_mem_replicate hf
   simp only[freshF,List.length_replicate]
   omega
 · simp only[freshF,List.length_replicate] at hf
   refine ⟨⟨#[]⟩,by show (List.replicate n _)[f]?=_;rw[List.getElem?_replicate,if_pos hf],?_,?_,.inl rfl⟩
   · show (List.replicate n (0:Int))[f]?=_
     rw[List.getElem?_replicate,if_pos hf,hc]
     rfl
   · rw[hc]
     exact⟨fun _=>rfl,fun _=>rfl⟩
theorem fill_eq {n:Nat} (h1:1≤n) (h2:n≤96):(newPl n).goodA 4=true∧((newPl n).add 4).goodA 4=true∧fill0 n=⟨freshF n,freshR n,[List.replicate 4 (-1),List.replicate 4 (-1)]⟩∧(newPl n).Ok∧((newPl n).add 4).Ok:=by
 have H0:(newPl n).Ok:=by rw[fresh_eq h1 h2];exact fresh_ok h1 h2 [] (fun l h=>by simp at h) (by simp)
 have g0:(newPl n).goodA 4=true:=by
  unfold Pl.goodA
  rw[Pl.ok_iff.2 H0,Bool.true_and,fresh_eq h1 h2]
  exact decide_eq_true ⟨by simp,by omega,by omega⟩
 have e1:(newPl n).add 4=⟨freshF n,freshR n,[List.replicate 4 (-1)]⟩:=by
  unfold Pl.add
  rw[g0,if_pos rfl,fresh_eq h1 h2]
  rfl
 have H1:((newPl n).add 4).Ok:=by rw[e1];exact fresh_ok h1 h2 _ (fun l h=>by simpa using h) (by simp)
 have g1:((newPl n).add 4).goodA 4=true:=by
  unfold Pl.goodA
  rw[Pl.ok_iff.2 H1,Bool.true_and,e1]
  exact decide_eq_true ⟨by simp,by omega,by omega⟩
 refine ⟨g0,g1,?_,H0,H1⟩
 unfold fill0
 have e:((newPl n).add 4).add 4=⟨((newPl n).add 4).F,((newPl n).add 4).R,((newPl n).add 4).M++[List.replicate (4:Int).toNat (-1)]⟩:=by
  show (if ((newPl n).add 4).goodA 4=true then _ else _)=_
  rw[if_pos g1]
 rw[e,e1]
 rfl
theorem countP_set {α:Type} {q:α→Bool} {l:List α} {i:Nat} {a x:α} (h:l[i]?=some a):(l.set i x).countP q+(if q a then 1 else 0)=l.countP q+(if q x then 1 else 0):=by
 induction l generalizing i with
 | nil=>simp at h
 | cons b l ih =>
   cases i with
   | zero =>
     simp at h
     subst h
     rw[List.set_cons_zero,List.countP_cons,List.countP_cons]
     omega
   | succ i =>
     simp at h
     rw[List.set_cons_succ,List.countP_cons,List.countP_cons]
     have:=ih h
     omega
def sumC (L:List Int):Nat→Nat
 | 0=>0
 | n+1=>sumC L n+L.count (n:Int)
theorem sumC_cons (a:Int) (L:List Int):∀ n:Nat,sumC (a :: L) n=sumC L n+if 0≤a∧a<n then 1 else 0
 | 0=>by rw[if_neg (by omega)];rfl
 | n+1=>by
   rw[sumC,sumC,sumC_cons a L n,List.count_cons]
   by_cases h:a=(n:Int)
   · subst h
     rw[if_neg (by omega),if_pos (by simp),if_pos (by omega)]
     omega
   · rw[if_neg (show ¬(a == (n:Int))=true by rw[beq_iff_eq];exact h)]
     by_cases h2:0≤a∧a<n
     · rw[if_pos h2,if_pos (by omega)]
       omega
     · rw[if_neg h2,if_neg (by omega)]
       omega
theorem sumC_eq {n:Nat}:∀ (L:List Int),(∀ f∈L,f<(n:Int))→sumC L n=L.countP hasB
 | [],_=>by
   have:∀ k,sumC [] k=0:=fun k=>by
    induction k with
    | zero=>rfl
    | succ k ih=>rw[sumC,ih];rfl
   rw[this]
   rfl
 | a :: L,h=>by
   have ha:=h a (List.mem_cons_self ..)
   rw[sumC_cons,sumC_eq L (fun f hf=>h f (List.mem_cons_of_mem _ hf)),List.countP_cons]
   congr 1
   unfold hasB
   by_cases h0:0≤a
   · rw[if_pos ⟨h0,ha⟩,decide_eq_true h0,if_pos rfl]
   · rw[if_neg (fun h=>h0 h.1),decide_eq_false h0]
     rfl
theorem sum_ge {L:List Int}:∀ n:Nat,(∀ v:Nat,v<n→0<L.count (v:Int))→n≤sumC L n∧((∃ v:Nat,v<n∧2≤L.count (v:Int))→n+1≤sumC L n)
 | 0,_=>⟨Nat.zero_le _,fun ⟨v,hv,_⟩=>absurd hv (Nat.not_lt_zero _)⟩
 | n+1,h=>by
   have ih:=sum_ge n (fun v hv=>h v (by omega))
   have hn:=h n (by omega)
   rw[sumC]
   refine ⟨by omega,fun ⟨v,hv,h2⟩=>?_⟩
   by_cases e:v=n
   · subst e
     omega
   · have:=ih.2 ⟨v,by omega,h2⟩
     omega
theorem Pl.charge_set {P:Pl} {g p:Nat} (h:P.at g p) (x:Int) (a:Nat):(P.setM g p x).chargeN a+(if g=a∧0≤P.fr g p then 1 else 0)=P.chargeN a+(if g=a∧0≤x then 1 else 0):=by
 obtain⟨l,hl,hp⟩:=Pl.at_fr h
 unfold Pl.chargeN
 rw[Pl.setM_pages]
 by_cases e:g=a
 · subst e
   rw[if_pos ⟨rfl,lt_of_get hl⟩,Pl.pages_eq hl]
   have:=countP_set (q:=hasB) (x:=x) hp
   unfold hasB at this ⊢
   simp only[decide_eq_true_eq,true_and] at this ⊢
   exact this
 · rw[if_neg (fun h=>e h.1),if_neg (fun h=>e h.1),if_neg (fun h=>e h.1)]
theorem Pl.charge_give {P:Pl} {g p:Nat} (h:P.at g p) (a:Nat):(P.giveUp g p).chargeN a+(if g=a∧0≤P.fr g p then 1 else 0)=P.chargeN a:=by
 have h1:=Pl.charge_set h (-1) a
 rw[if_neg (show ¬(g=a∧(0:Int) ≤ -1) by omega)] at h1
 unfold Pl.giveUp
 split
 · rw[if_neg (by omega)]
   rfl
 · split <;> exact h1
theorem Pl.charge_sh {P:Pl} (H:P.Ok) {g p:Nat} (h:P.at g p) (a:Nat):(P.sh g p).chargeN a=P.chargeN a:=by
 unfold Pl.sh
 split
 · rename_i hg
   unfold Pl.goodS at hg
   rw[Bool.and_eq_true,decide_eq_true_eq,Int.toNat_natCast,Int.toNat_natCast] at hg
   rw[Int.toNat_natCast,Int.toNat_natCast]
   unfold Pl.sh'
   split
   · rename_i q _
     split
     · rfl
     · have h1:=Pl.charge_give h a
       have hat:(P.giveUp g p).at g p:=((Pl.giveUp_alike P g p).at g p).2 h
       have h2:=Pl.charge_set hat (q:Int) a
       have e:(P.join g p q).chargeN a=((P.giveUp g p).setM g p q).chargeN a:=rfl
       rw[e]
       rw[(H.gave h).fr_self] at h2
       by_cases ea:g=a
       · rw[if_pos ⟨ea,hg.2⟩] at h1
         rw[if_neg (by omega),if_pos ⟨ea,by omega⟩] at h2
         omega
       · rw[if_neg (fun h=>ea h.1)] at h1
         rw[if_neg (fun h=>ea h.1),if_neg (fun h=>ea h.1)] at h2
         omega
   · rfl
 · rfl
end Go.Proofs.YtbnngjhnkegliaaGreat
