/-
  Texts joined: HoKeep HoPMark HoRoom. No law is proved here.
-/
import Derived.Test.YtbnngjhnkegliaaGreatB18
import Derived.Deep.LoopGhost
namespace Go.Proofs.YtbnngjhnkegliaaGreat
open Go.RowKit
structure GmP (P:Pl) (i:Nat) (g:Gm):Prop where
 cv:validB g.c=true
 p0:g.c.p=0
 lim:(P.chargeN i:Int)≤g.c.l
 ls:g.s.length=(P.pages i).length
 lu:g.u.length=(P.pages i).length
 le:g.e.length=(P.pages i).length
 hd:0≤g.h∧g.h<(P.pages i).length
 us:∀ (k:Nat) (b:Bool),k<(P.pages i).length→g.u[k]?=some b→P.fr i k<0→b=false
 sw:∀ (k:Nat) (t:ByteArray),k<(P.pages i).length→g.s[k]?=some t→t.size=0∨(P.fr i k<0∧t.size=128∧zeroB t=false)
theorem gm_iff {P:Pl} {i:Nat} {g:Gm} {l:List Int} (hl:P.M[i]?=some l):GmOk g l↔GmP P i g:=by
 have hp:=Pl.pages_eq hl
 have hf:∀ k f,l[k]?=some f→P.fr i k=f:=fun k f hk=>Pl.fr_eq hl hk
 constructor
 · rintro⟨a1,a2,a3,a4,a5,a6,a7,a8,a9⟩
   refine ⟨a1,a2,by unfold Pl.chargeN;rw[hp];exact a3,by rw[hp];exact a4,by rw[hp];exact a5,by rw[hp];exact a6,by rw[hp];exact a7,fun k b hk hb h0=>?_,fun k t hk ht=>?_⟩
   · rw[hp] at hk
     obtain⟨f,hkf⟩:=get_lt hk
     rw[hf k f hkf] at h0
     exact a8 k f b hkf hb h0
   · rw[hp] at hk
     obtain⟨f,hkf⟩:=get_lt hk
     rw[hf k f hkf]
     exact a9 k f t hkf ht
 · rintro⟨a1,a2,a3,a4,a5,a6,a7,a8,a9⟩
   rw[hp] at a4 a5 a6 a7 a8 a9
   unfold Pl.chargeN at a3
   rw[hp] at a3
   refine ⟨a1,a2,a3,a4,a5,a6,a7,fun k f b hk hb h0=>?_,fun k f t hk ht=>?_⟩
   · exact a8 k b (lt_of_get hk) hb (by rw[hf k f hk];exact h0)
   · have:=a9 k t (lt_of_get hk) ht
     rw[hf k f hk] at this
     exact this
theorem Ho.Ok.gmP {H:Ho} (h:H.Ok) {i:Nat} {g:Gm} (hg:H.G[i]?=some g):GmP H.P i g:=by
 obtain⟨l,hl,hgo⟩:=h.page hg
 exact (gm_iff hl).1 hgo
theorem lenM_alike {P Q:Pl} (h:P.Alike Q):lenM Q.M=lenM P.M:=by
 unfold lenM
 congr 1
 apply List.ext_getElem?
 intro i
 rw[List.getElem?_map,List.getElem?_map]
 rcases Nat.lt_or_ge i P.M.length with hi|hi
 · obtain⟨l,hl⟩:=get_lt hi
   obtain⟨l',hl'⟩:=get_lt (xs:=Q.M) (k:=i) (by rw[h.m];exact hi)
   have:=h.pg i
   rw[Pl.pages_eq hl,Pl.pages_eq hl'] at this
   rw[hl,hl']
   exact congrArg some this
 · rw[List.getElem?_eq_none hi,List.getElem?_eq_none (by rw[h.m];exact hi)]
theorem Ho.Ok.of {H H':Ho} (h:H.Ok) (hP:H'.P.Ok) (al:H.P.Alike H'.P) (hG:H'.G.length=H.G.length) (ht:H'.t=H.t) (hd:0≤H'.d∧H'.d<18446744073709551616) (hn:0≤H'.n∧H'.n<max (lenM H.P.M:Int) 1) (hr:sumR H'.G=sumR H.G) (hg:∀ (i:Nat) (g:Gm),H'.G[i]?=some g→GmP H'.P i g):H'.Ok :=
 ⟨hP,by rw[hG,al.m];exact h.m,by rw[ht];exact h.t,hd,fun i g l hgi hl=>(gm_iff hl).2 (hg i g hgi),by rw[hr,al.f];exact h.r,by rw[lenM_alike al];exact hn⟩
theorem sumR_set {G:List Gm} {i:Nat} {g g':Gm} (hg:G[i]?=some g) (hc:g'.c.r=g.c.r):sumR (G.set i g')=sumR G:=by
 unfold sumR
 congr 1
 apply List.ext_getElem?
 intro k
 rw[List.getElem?_map,List.getElem?_map,List.getElem?_set]
 by_cases e:i=k
 · subst e
   rw[if_pos rfl,if_pos (lt_of_get hg),hg]
   exact congrArg some hc
 · rw[if_neg e]
def Ho.text (H:Ho) (i k:Nat):ByteArray:=match H.G[i]? with
 | none=>H.P.text i k
 | some g=>match g.s[k]? with
   | none=>H.P.text i k
   | some t=>if t.size=0 then H.P.text i k else t
theorem Ho.text_eq {H:Ho} {i k:Nat} {g:Gm} {t:ByteArray} (hg:H.G[i]?=some g) (ht:g.s[k]?=some t):H.text i k=if t.size=0 then H.P.text i k else t:=by
 unfold Ho.text
 rw[hg]
 dsimp only
 rw[ht]
theorem Pl.at_lt {P:Pl} {a b:Nat}:P.at a b↔(a<P.M.length∧b<(P.pages a).length):=by
 constructor
 · rintro⟨l,f,hl,hp⟩
   exact⟨lt_of_get hl,by rw[Pl.pages_eq hl];exact lt_of_get hp⟩
 · rintro⟨ha,hb⟩
   obtain⟨l,hl⟩:=get_lt ha
   rw[Pl.pages_eq hl] at hb
   obtain⟨f,hf⟩:=get_lt hb
   exact⟨l,f,hl,hf⟩
structure Evicted (H H':Ho) (i:Nat) (x:Int):Prop where
 ok:H'.Ok
 al:H.P.Alike H'.P
 gl:H'.G.length=H.G.length
 t:H'.t=H.t
 d:H'.d=H.d
 n:H'.n=H.n
 pg:∃ v:Nat,H.P.at i v∧0≤H.P.fr i v∧(v:Int)≠x∧(∀ a b,H'.P.fr a b=if i=a∧v=b then -1 else H.P.fr a b)∧∀ a,H'.P.chargeN a+(if i=a then 1 else 0)=H.P.chargeN a
 cl:∀ (a:Nat) (g:Gm),H.G[a]?=some g→∃ g',H'.G[a]?=some g'∧g'.c=g.c∧g'.e=g.e∧(a≠i→g'=g)
 text:∀ a b,H.P.at a b→H'.text a b=H.text a b
theorem evict_law {H H':Ho} {i:Nat} {x:Int} (hok:H.Ok) (h:H.evict i x=some H'):Evicted H H' i x:=by
 unfold Ho.evict at h
 cases hg:H.G[i]? with
 | none=>rw[hg] at h;simp at h
 | some g =>
   rw[hg] at h
   dsimp only at h
   have hgp:=hok.gmP hg
   obtain⟨l,hl,hgo⟩:=hok.page hg
   have hpl:=Pl.pages_eq hl
   have hll:=hok.p.l l (mem_at hl)
   cases ho:chO g.u ((H.P.pages i).map hasB) g.h.toNat x with
   | none=>rw[ho] at h;simp at h
   | some a =>
     obtain⟨v,u,q⟩:=a
     rw[ho] at h
     injection h with h
     have hhd:=hgp.hd
     rw[hpl] at hhd ho
     unfold chO at ho
     obtain⟨p1,p2,p3,p4,p5,p6,p7⟩:=chF_spec (by rw[List.length_map];omega) _ _ _ _ _ _ (by rw[List.length_map];omega) ho
     rw[List.length_map] at p1 p6
     obtain⟨f,hf⟩:=get_lt p1
     rw[List.getElem?_map,hf] at p2
     have hf0:0≤f:=by
      injection p2 with p2
      unfold hasB at p2
      exact of_decide_eq_true p2
     have hat:H.P.at i v:=⟨l,f,hl,hf⟩
     have hfr:=Pl.fr_eq hl hf
     obtain⟨we1,_⟩:=Pl.wr_eq hok.p hat zeros128_size
     have hwr:H.P.wr i v zeros128=H.P.giveUp i v:=by
      rw[we1]
      unfold Pl.wr'
      rw[if_pos zeros128_zero]
     rw[hwr] at h
     have G:=hok.p.gave hat
     have hch:=Pl.charge_give hat
     have htg:=Pl.text_good hok.p hat (by rw[hfr];exact hf0)
     have hlt:=lt_of_get hg
     subst h
     have hset:∀ a:Nat,(H.G.set i { g with u:=u,h:=(q:Int),s:=g.s.set v (H.P.text i v) })[a]?=if i=a then some { g with u:=u,h:=(q:Int),s:=g.s.set v (H.P.text i v) } else H.G[a]?:=fun a=>by
      rw[List.getElem?_set]
      by_cases e:i=a
      · rw[if_pos e,if_pos hlt,if_pos e]
      · rw[if_neg e,if_neg e]
     have hpg:((H.P.giveUp i v).pages i).length=l.length:=by rw[G.al.pg,hpl]
     have hgm:∀ (a:Nat) (z:Gm),(H.G.set i { g with u:=u,h:=(q:Int),s:=g.s.set v (H.P.text i v) })[a]?=some z→GmP (H.P.giveUp i v) a z:=fun a z hz=>by
      rw[hset] at hz
      by_cases e:i=a
      · subst e
        rw[if_pos rfl] at hz
        injection hz with hz
        subst hz
        refine ⟨hgp.cv,hgp.p0,?_,?_,?_,?_,?_,fun k b hk hb h0=>?_,fun k t hk ht=>?_⟩
        · have h1:=hch i
          have h2:=hgp.lim
          show ((H.P.giveUp i v).chargeN i:Int)≤g.c.l
          split at h1 <;> omega
        · show (g.s.set v _).length=_
          rw[List.length_set,hpg,hgp.ls,hpl]
        · show u.length=_
          rw[p4,hpg,hgp.lu,hpl]
        · show g.e.length=_
          rw[hpg,hgp.le,hpl]
        · rw[hpg]
          exact⟨by dsimp only;omega,by dsimp only;omega⟩
        · change u[k]?=some b at hb
          by_cases ek:k=v
          · subst ek
            rw[hb] at p5
            exact p5
          · rw[G.fr,if_neg (fun h=>ek h.2.symm)] at h0
            rcases p7 k with h7|h7
            · rw[hb] at h7
              exact hgp.us k b (by rw[hpl,←hpg];exact hk) h7.symm h0
            · rw[hb] at h7
              injection h7
        · change (g.s.set v (H.P.text i v))[k]?=some t at ht
          rw[List.getElem?_set] at ht
          rw[G.fr]
          by_cases ek:v=k
          · subst ek
            rw[if_pos rfl] at ht
            split at ht
            · injection ht with ht
              subst ht
              rw[if_pos ⟨rfl,rfl⟩]
              exact .inr ⟨by omega,htg.1,htg.2⟩
            · cases ht
          · rw[if_neg ek] at ht
            rw[if_neg (fun h=>ek h.2)]
            exact hgp.sw k t (by rw[hpl,←hpg];exact hk) ht
      · rw[if_neg e] at hz
        have hz':=hok.gmP hz
        have hfa:∀ k,(H.P.giveUp i v).fr a k=H.P.fr a k:=fun k=>by rw[G.fr,if_neg (fun h=>e h.1)]
        refine ⟨hz'.cv,hz'.p0,?_,by rw[G.al.pg];exact hz'.ls,by rw[G.al.pg];exact hz'.lu,by rw[G.al.pg];exact hz'.le,by rw[G.al.pg];exact hz'.hd,fun k b hk hb h0=>?_,fun k t hk ht=>?_⟩
        · have h1:=hch a
          rw[if_neg (fun h=>e h.1)] at h1
          have h2:=hz'.lim
          show ((H.P.giveUp i v).chargeN a:Int)≤z.c.l
          omega
        · rw[G.al.pg] at hk
          rw[hfa] at h0
          exact hz'.us k b hk hb h0
        · rw[G.al.pg] at hk
          rw[hfa]
          exact hz'.sw k t hk ht
     refine ⟨hok.of (G.ok hok.p) G.al (List.length_set ..) rfl hok.d hok.n (sumR_set hg rfl) hgm,G.al,List.length_set ..,rfl,rfl,rfl,⟨v,hat,by rw[hfr];exact hf0,p3,G.fr,fun a=>?_⟩,fun a z hz=>?_,fun a b hab=>?_⟩
     · have:=hch a
       show (H.P.giveUp i v).chargeN a+_=_
       by_cases e:i=a
       · rw[if_pos ⟨e,by rw[hfr];exact hf0⟩] at this
         rw[if_pos e]
         exact this
       · rw[if_neg (fun h=>e h.1)] at this
         rw[if_neg e]
         exact this
     · dsimp only
       rw[hset]
       by_cases e:i=a
       · subst e
         rw[hg] at hz
         injection hz with hz
         subst hz
         rw[if_pos rfl]
         exact⟨_,rfl,rfl,rfl,fun h=>absurd rfl h⟩
       · rw[if_neg e]
         exact⟨z,hz,rfl,rfl,fun _=>rfl⟩
     · have htx:=G.text hok.p hab
       obtain⟨ha,hb⟩:=Pl.at_lt.1 hab
       obtain⟨z,hz⟩:=get_lt (xs:=H.G) (k:=a) (by rw[hok.m];exact ha)
       have hzp:=hok.gmP hz
       obtain⟨t,ht⟩:=get_lt (xs:=z.s) (k:=b) (by rw[hzp.ls];exact hb)
       rw[Ho.text_eq hz ht]
       by_cases e:i=a
       · subst e
         rw[hg] at hz
         injection hz with hz
         subst hz
         by_cases ek:v=b
         · subst ek
           have hts:t.size=0:=by
            rcases hzp.sw v t hb ht with h1|h1
            · exact h1
            · rw[hfr] at h1
              omega
           rw[if_pos hts]
           rw[Ho.text_eq (g:={ g with u:=u,h:=(q:Int),s:=g.s.set v (H.P.text i v) }) (t:=H.P.text i v) (by dsimp only;rw[hset,if_pos rfl]) (by show (g.s.set v _)[v]?=_;rw[List.getElem?_set,if_pos rfl,if_pos (lt_of_get ht)])]
           rw[if_neg (by omega)]
         · rw[Ho.text_eq (g:={ g with u:=u,h:=(q:Int),s:=g.s.set v (H.P.text i v) }) (t:=t) (by dsimp only;rw[hset,if_pos rfl]) (by show (g.s.set v _)[b]?=_;rw[List.getElem?_set,if_neg ek];exact ht)]
           show (if t.size=0 then (H.P.giveUp i v).text i b else t)=_
           rw[htx,if_neg (show ¬(i=i∧v=b) from fun h=>ek h.2)]
       · rw[Ho.text_eq (g:=z) (t:=t) (by dsimp only;rw[hset,if_neg e];exact hz) ht]
         show (if t.size=0 then (H.P.giveUp i v).text a b else t)=_
         rw[htx,if_neg (show ¬(i=a∧v=b) from fun h=>e h.1)]
theorem mark_get {H:Ho} {i k a:Nat} {g1:Gm} (h1:(H.mark i k).G[a]?=some g1):∃ g0,H.G[a]?=some g0∧(a≠i→g1=g0)∧(a=i→g1=g0.mark k (decide (0≤H.P.fr i k))):=by
 unfold Ho.mark at h1
 cases hg:H.G[i]? with
 | none =>
   rw[hg] at h1
   dsimp only at h1
   refine ⟨g1,h1,fun _=>rfl,fun e=>?_⟩
   subst e
   rw[hg] at h1
   cases h1
 | some g =>
   rw[hg] at h1
   dsimp only[Ho.setG] at h1
   rw[List.getElem?_set] at h1
   by_cases e:i=a
   · subst e
     rw[if_pos rfl,if_pos (lt_of_get hg)] at h1
     cases h1
     exact⟨g,hg,fun h=>absurd rfl h,fun _=>rfl⟩
   · rw[if_neg e] at h1
     exact⟨g1,h1,fun _=>rfl,fun h=>absurd h.symm e⟩
theorem get_mark {H:Ho} {i k a:Nat} {g0:Gm} (h0:H.G[a]?=some g0):∃ g1,(H.mark i k).G[a]?=some g1∧g1.c=g0.c∧g1.s=g0.s:=by
 unfold Ho.mark
 cases hg:H.G[i]? with
 | none=>exact⟨g0,h0,rfl,rfl⟩
 | some g =>
   dsimp only[Ho.setG]
   rw[List.getElem?_set]
   by_cases e:i=a
   · subst e
     rw[if_pos rfl,if_pos (lt_of_get hg)]
     rw[hg] at h0
     cases h0
     exact⟨_,rfl,rfl,rfl⟩
   · rw[if_neg e]
     exact⟨g0,h0,rfl,rfl⟩
theorem mark_rest (H:Ho) (i k:Nat):(H.mark i k).P=H.P∧(H.mark i k).t=H.t∧(H.mark i k).d=H.d∧(H.mark i k).n=H.n∧(H.mark i k).G.length=H.G.length∧sumR (H.mark i k).G=sumR H.G:=by
 unfold Ho.mark
 cases hg:H.G[i]? with
 | none=>exact⟨rfl,rfl,rfl,rfl,rfl,rfl⟩
 | some g=>exact⟨rfl,rfl,rfl,rfl,List.length_set ..,sumR_set hg rfl⟩
theorem mark_ok {H:Ho} (hok:H.Ok) (i k:Nat):(H.mark i k).Ok:=by
 obtain⟨e1,e2,e3,e4,e5,e6⟩:=mark_rest H i k
 refine Ho.Ok.of hok (by rw[e1];exact hok.p) (by rw[e1];exact Pl.Alike.refl _) e5 e2 (by rw[e3];exact hok.d) (by rw[e4];exact hok.n) e6 (fun a g1 h1=>?_)
 rw[e1]
 obtain⟨g0,h0,hne,heq⟩:=mark_get h1
 have hgp:=hok.gmP h0
 by_cases e:a=i
 · subst e
   rw[heq rfl]
   refine ⟨hgp.cv,hgp.p0,hgp.lim,hgp.ls,?_,?_,hgp.hd,fun c b hc hb h0=>?_,hgp.sw⟩
   · rw[←hgp.lu]
     exact List.length_set ..
   · rw[←hgp.le]
     exact List.length_set ..
   · have hb2:(g0.u.set k (decide (0≤H.P.fr a k)))[c]?=some b:=hb
     rw[List.getElem?_set] at hb2
     by_cases e2:k=c
     · subst e2
       rw[if_pos rfl,if_pos (by rw[hgp.lu];exact hc)] at hb2
       cases hb2
       exact decide_eq_false (by omega)
     · rw[if_neg e2] at hb2
       exact hgp.us c b hc hb2 h0
 · rw[hne e]
   exact hgp
theorem mark_text {H:Ho} (i k a b:Nat):(H.mark i k).text a b=H.text a b:=by
 cases h0:H.G[a]? with
 | none =>
   have h1:(H.mark i k).G[a]?=none:=List.getElem?_eq_none (by rw[(mark_rest H i k).2.2.2.2.1];exact List.getElem?_eq_none_iff.1 h0)
   unfold Ho.text
   rw[h0,h1,(mark_rest H i k).1]
 | some g0 =>
   obtain⟨g1,h1,_,hs⟩:=get_mark (i:=i) (k:=k) h0
   unfold Ho.text
   rw[h0,h1,(mark_rest H i k).1]
   dsimp only
   rw[hs]
def Ho.evictC (H:Ho) (i p:Nat):Option Ho:=H.evict (H.chosen i).toNat (if H.chosen i=i then p else -1)
inductive Steps (i p:Nat) (H:Ho):Ho→Prop
 | refl:Steps i p H H
 | step {K L:Ho}:Steps i p H K→K.full i p=true→K.evictC i p=some L→Steps i p H L
def Ho.first (H:Ho) (i p:Nat):Ho:=match H.G[i]? with
 | none=>H
 | some g=>if H.P.fr i p<0∧g.c.l≤(H.P.chargeN i:Int) then (H.evict i p).getD H else H
def Roomed (i p:Nat) (H H':Ho):Prop:=Steps i p (H.first i p) H'∧(H'.full i p=false∨(H'.full i p=true∧H'.evictC i p=none))
def sumN (f:Nat→Nat):Nat→Nat
 | 0=>0
 | k+1=>sumN f k+f k
theorem sumN_dec {f f':Nat→Nat} {i:Nat} (h:∀ a,f' a+(if i=a then 1 else 0)=f a):∀ k:Nat,sumN f' k+(if i<k then 1 else 0)=sumN f k
 | 0=>rfl
 | k+1=>by
   have ih:=sumN_dec h k
   have hk:=h k
   rw[sumN,sumN]
   by_cases e:i=k
   · subst e
     rw[if_pos rfl] at hk
     rw[if_neg (by omega)] at ih
     rw[if_pos (by omega)]
     omega
   · rw[if_neg e] at hk
     by_cases e2:i<k
     · rw[if_pos e2] at ih
       rw[if_pos (by omega)]
       omega
     · rw[if_neg e2] at ih
       rw[if_neg (by omega)]
       omega
def Ho.resN (H:Ho):Nat:=sumN H.P.chargeN H.P.M.length
theorem Evicted.res {H H':Ho} {i:Nat} {x:Int} (h:Evicted H H' i x) (hi:i<H.P.M.length):H'.resN+1=H.resN:=by
 obtain⟨v,_,_,_,_,hc⟩:=h.pg
 have:=sumN_dec hc H.P.M.length
 rw[if_pos hi] at this
 unfold Ho.resN
 rw[h.al.m]
 exact this
theorem chosen_bd {H:Ho} (hok:H.Ok) {i:Nat} (hi:i<H.G.length):0≤H.chosen i∧H.chosen i<H.G.length:=by
 have hcl:H.claims.length=H.G.length:=by unfold Ho.claims;rw[List.length_zipWith,hok.m,Nat.min_self]
 unfold Ho.chosen
 have h1:=vicF_bd H.claims H.t H.claims.length
 unfold victimR
 split
 · rename_i h
   dsimp only
   rw[if_pos rfl]
   omega
 · dsimp only
   rw[if_neg (by decide)]
   omega
def RetRoom (base B i p:Nat) (H:Ho) (w:World) (e:Ending) (w':World):Prop:=e=.returned (.tuple #[])∧(∃ H',Roomed i p H H'∧H'.Ok∧HostAt base B w' H')∧Below base w w'
set_option maxRecDepth 100000 in
set_option maxHeartbeats 8000000 in
theorem hroom_ok (base B:Nat) (H:Ho) (i p:Nat) (w:World) (hA:HostAt base B w H) (hB:base≤B) (hok:H.Ok) (hat:H.P.at i p) (hz:base≤w.heap.size):Calls Tryz.prog 47 #[.pointer (some ⟨B,0,none⟩),.int .i64 i,.int .i64 p] w (RetRoom base B i p H w):=by
 have hi:=hok.at_lt hat
 obtain⟨g,hg⟩:=get_lt hi
 have hgp:=hok.gmP hg
 obtain⟨l,hl,hgo⟩:=hok.page hg
 have hll:=hok.p.l l (mem_at hl)
 obtain⟨l',f,hl',hf⟩:=hat
 rw[hl] at hl'
 injection hl' with hl'
 subst hl'
 have hfr:=Pl.fr_eq hl hf
 have hchn:H.P.chargeN i=l.countP hasB:=by unfold Pl.chargeN;rw[Pl.pages_eq hl]
 have hfi:H.first i p=if f<0∧g.c.l≤((l.countP hasB:Nat):Int) then (H.evict i p).getD H else H:=by
  unfold Ho.first
  rw[hg,hfr,hchn]
 have hat:H.P.at i p:=⟨l,f,hl,hf⟩
 have hA0:=hA
 obtain⟨of,or',om,og,kf,kr,km,kg,us,gs,D,O⟩:=hA
 obtain⟨n,hn⟩:∃ n,H.P.F.length=n:=⟨_,rfl⟩
 obtain⟨r,hr⟩:∃ n,H.P.R.length=n:=⟨_,rfl⟩
 obtain⟨m,hm⟩:∃ n,H.P.M.length=n:=⟨_,rfl⟩
 obtain⟨q,hq⟩:∃ n,H.G.length=n:=⟨_,rfl⟩
 obtain⟨tx,htx⟩:∃ n,H.t=n:=⟨_,rfl⟩
 obtain⟨dx,hdx⟩:∃ n,H.d=n:=⟨_,rfl⟩
 obtain⟨sx,hsx⟩:∃ n,H.n=n:=⟨_,rfl⟩
 rw[hn,hr,hm,hq,htx,hdx,hsx] at D
 rw[hn,hr,hm,hq] at O
 have HN:=lh hn;clear hn
 have HR:=lh hr;clear hr
 have HM:=lh hm;clear hm
 have HQ:=lh hq;clear hq
 have HT:=lh htx;clear htx
 have HD:=lh hdx;clear hdx
 have HS:=lh hsx;clear hsx
 obtain⟨bG,cG,y,so,sc,uo,uc,eo,ec,e0,b1,b2,hy,ys,yu,ye,_,cg2,_,sc2,_,uc2,_,ec2,cs,cfz⟩:=O.guest hg
 injection e0 with e0 e9 e10
 subst e0 e10
 clear e9
 obtain⟨mb,moff,lo,lc,rfl,hmb,cm0,lc1,lc2,hL⟩:=O.row.p.guest hl
 obtain⟨fb,foff,rfl,hfb,cf0⟩:=hL.elem hf
 have c1:w.cell? ⟨bG,i*9+1,none⟩=_:=cs 1 _ rfl
 have CHc:=fun w h=>hcharge_any (some ⟨fb,foff,none⟩) lc l w h (by omega)
 clear cs cfz
 have hp:=lt_of_get hf
 have hiq:i<q:=by rw[←HQ.out];exact lt_of_get hg
 have him:i<m:=by rw[←HM.out];exact lt_of_get hl
 obtain⟨ql,hql⟩:∃ k,l.length=k:=⟨_,rfl⟩
 rw[hql] at hll cm0 hL CHc hp lc1
 obtain⟨x,hx⟩:∃ x,l.countP hasB=x:=⟨_,rfl⟩
 rw[hx] at CHc hfi
 obtain⟨lim,hlim⟩:∃ x,g.c.l=x:=⟨_,rfl⟩
 rw[hlim] at c1 hfi
 have HCH:=lh CHc;clear CHc
 have HL:=lh hL;clear hL
 have i0:(0:Int)≤(i:Int):=by omega
 have iq:(i:Int)<(q:Int):=by omega
 have im:(i:Int)<(m:Int):=by omega
 have p0:(0:Int)≤(p:Int):=by omega
 have pq:(p:Int)<(ql:Int):=by omega
 have HFI:=lh hfi;clear hfi
 have HAT:=lh hat;clear hat
 have HA0:=lh hA0;clear hA0
 have HOK:=lh hok;clear hok
 clear hgo hgp hy ys yu ye hf hl hg hfr hchn hx hlim hql hi O
 obtain⟨D_c,D_f,D_z⟩:=D.all
 go_enter Tryz.func47,Tryz.ntmps47
 by_cases hc:f<0∧lim≤(x:Int)
 · obtain⟨hc1,hc2⟩:=hc
   have hfi:=HFI.out
   rw[if_pos ⟨hc1,hc2⟩] at hfi
   have t1:decide ((x:Int) ≥ lim)=true:=decide_eq_true hc2
   have t2:decide (lim≤(x:Int))=true:=decide_eq_true hc2
   have HF2:=lh hfi;clear hfi HFI
   go_wp2_with fail
   refine wp_region_quiet_below (by kernel_rfl) (by kernel_rfl) ?_
   repeat (go_big_quiet_step (first|fail|(go_at_call 51;with_reducible exact quiet_ret (HCH.out _ (HL.out.below (below_regrown _ _ _))))))
   refine wpQuiet_nil ?_
   intro w3 hw3
   have hb3:=below_of_regrown hw3
   clear hw3
   obtain⟨hc3,hf3⟩:=bcell hb3
   have hz3:=bsize hb3
   try simp only[sizes1] at hz3
   try simp only[sizes] at hc3 hf3
   clear hc3 hf3 hz3 t1 t2 D_c D_f D_z
   go_wp2_with fail
   have hz3:=Nat.le_trans hz hb3.size
   with_reducible refine (hevict_ok base B H i p w3 (HA0.out.below hb3) hB HOK.out (HOK.out.at_lt HAT.out) hz3).mono ?_
   rintro e w4 ⟨hm,hb4⟩
   have hbA:Below base w w4:=(hb3.mono hz).trans hb4
   have hall:∃ (H1:Ho) (b:Bool),e=.returned (.bool b)∧H.first i p=H1∧H1.Ok∧H1.P.at i p∧HostAt base B w4 H1:=by
    have h2:=HF2.out
    cases ho:H.evict i p with
    | none =>
      rw[ho] at hm h2
      exact⟨H,false,hm.1,h2,HOK.out,HAT.out,hm.2⟩
    | some L =>
      rw[ho] at hm h2
      have EL:=evict_law HOK.out ho
      exact⟨L,true,hm.1,h2,EL.ok,(EL.al.at _ _).2 HAT.out,hm.2⟩
   obtain⟨H1,bb,rfl,hf1,hok1,hat1,hA1⟩:=hall
   have HF1:=lh hf1;clear hf1
   have HO1:=lh hok1;clear hok1
   have HT1:=lh hat1;clear hat1
   have HX1:=lh hA1;clear hA1
   clear hm hb3 hb4 HF2 D
   go_wp2_with fail
   have hzA:=hbA.size
   go_loopg [6,7] (Ho.resN H1) (fun k _ _ wr=>∃ K:Ho,Hid (Steps i p H1 K)∧Hid K.Ok∧Hid (K.P.at i p)∧K.resN≤k∧HostAt base B wr K∧Below base w wr)
   case atStart=>exact⟨H1,.refl,HO1,HT1,nlr _,HX1.out,hbA⟩
   case round =>
    obtain⟨K,HST,HKO,HKA,hkn,hK,hbK⟩:=hrel
    have hzK:=Nat.le_trans hz hbK.size
    have hK0:=hK
    have FUc:=fun v w h=>hfull_ok v K i p w h HKO.out.p HKA.out
    have CHc:=fun v w h=>hchosen_ok v K i w h HKO.out
    have hcb:=chosen_bd HKO.out (HKO.out.at_lt HKA.out)
    obtain⟨c,hc⟩:∃ c:Nat,K.chosen i=c:=⟨(K.chosen i).toNat,by omega⟩
    have hevc:K.evictC i p=K.evict c (if (c:Int)=i then p else -1):=by unfold Ho.evictC;rw[hc,Int.toNat_natCast]
    rw[hc] at CHc hcb
    obtain⟨fu,hfu⟩:∃ b,K.full i p=b:=⟨_,rfl⟩
    rw[hfu] at FUc
    have HFU:=lh FUc;clear FUc
    have HCC:=lh CHc;clear CHc
    have HFV:=lh hfu;clear hfu
    have HEC:=lh hevc;clear hevc
    clear hc
    obtain⟨of,or',om,og,kf,kr,km,kg,us,gs,D,O⟩:=hK
    have HVA:Hid (∀ w':World,Below wr.heap.size wr w'→HoAt w' (.agg #[.slice of K.P.F.length kf,.slice or' K.P.R.length kr,.slice om K.P.M.length km,.slice og K.G.length kg,.int .i64 K.t,.int .u64 K.d,.int .i64 K.n]) K):=lh (fun w' hb=>(O.below hb).at_)
    clear O
    cases fu
    · obtain⟨D_c,D_f,D_z⟩:=D.all
      go_wp2_with fail
      with_reducible refine (HFU.out _ _ (HVA.out _ (Below.refl _ _))).mono ?_
      rintro e wf ⟨rfl,hbf⟩
      go_wp2_with fail
      go_end0
      exact⟨rfl,⟨K,⟨by rw[HF1.out];exact HST.out,.inl HFV.out⟩,HKO.out,hK0.below hbf⟩,hbK.trans (hbf.mono hzK)⟩
    · obtain⟨D_c,D_f,D_z⟩:=D.all
      go_wp2_with fail
      clear D_c D_f D_z
      with_reducible refine (HFU.out _ _ (HVA.out _ (Below.refl _ _))).mono ?_
      rintro e wf ⟨rfl,hbf⟩
      obtain⟨D_c,D_f,D_z⟩:=(D.below hbf).all
      go_wp2_with fail
      clear D_c D_f D_z
      with_reducible refine (HCC.out _ _ (HVA.out _ hbf)).mono ?_
      rintro e wg ⟨rfl,hbg⟩
      replace hbg:=hbf.trans (hbg.mono hbf.size)
      clear hbf
      have hKg:=hK0.below hbg
      have hzg:=Nat.le_trans hzK hbg.size
      have EVc:=fun x=>hevict_ok base B K c x wg hKg hB HKO.out (by omega) hzg
      by_cases hci:(c:Int)=i
      · have hec:=HEC.out
        rw[if_pos hci] at hec
        have hci':c=i:=by omega
        subst hci'
        have EV2:=EVc (p:Int)
        obtain⟨o,ho⟩:∃ o,K.evict c (p:Int)=o:=⟨_,rfl⟩
        rw[ho] at EV2 hec
        have HEE:=lh EV2;clear EV2 EVc
        have HHC:=lh hec;clear hec HEC
        have HHO:=lh ho;clear ho
        clear hci
        go_wp2_with fail
        with_reducible refine HEE.out.mono ?_
        rintro e wh ⟨hm,hbh⟩
        cases o with
        | none =>
          obtain⟨rfl,hAh⟩:=hm
          go_wp2_with fail
          go_end0
          exact⟨rfl,⟨K,⟨by rw[HF1.out];exact HST.out,.inr ⟨HFV.out,HHC.out⟩⟩,HKO.out,hAh⟩,(hbK.trans (hbg.mono hzK)).trans hbh⟩
        | some L =>
          obtain⟨rfl,hAh⟩:=hm
          have EL:=evict_law HKO.out HHO.out
          have hres:=EL.res (Pl.at_lt.1 HKA.out).1
          go_wp2_with fail
          go_roundg L.resN
          case measure=>omega
          case rel=>exact⟨L,.step HST.out HFV.out HHC.out,EL.ok,(EL.al.at _ _).2 HKA.out,nlr _,hAh,(hbK.trans (hbg.mono hzK)).trans hbh⟩
      · have hec:=HEC.out
        rw[if_neg hci] at hec
        have e1:((c:Int) == (i:Int))=false:=by rw[beq_eq_false_iff_ne];exact hci
        have EV2:=EVc (-1)
        obtain⟨o,ho⟩:∃ o,K.evict c (-1)=o:=⟨_,rfl⟩
        rw[ho] at EV2 hec
        have hcm:c<K.P.M.length:=by have:=HKO.out.m;omega
        have HEE:=lh EV2;clear EV2 EVc
        have HHC:=lh hec;clear hec HEC
        have HHO:=lh ho;clear ho
        clear hci
        go_wp2_with fail
        with_reducible refine HEE.out.mono ?_
        rintro e wh ⟨hm,hbh⟩
        cases o with
        | none =>
          obtain⟨rfl,hAh⟩:=hm
          go_wp2_with fail
          go_end0
          exact⟨rfl,⟨K,⟨by rw[HF1.out];exact HST.out,.inr ⟨HFV.out,HHC.out⟩⟩,HKO.out,hAh⟩,(hbK.trans (hbg.mono hzK)).trans hbh⟩
        | some L =>
          obtain⟨rfl,hAh⟩:=hm
          have EL:=evict_law HKO.out HHO.out
          have hres:=EL.res hcm
          go_wp2_with fail
          go_roundg L.resN
          case measure=>omega
          case rel=>exact⟨L,.step HST.out HFV.out HHC.out,EL.ok,(EL.al.at _ _).2 HKA.out,nlr _,hAh,(hbK.trans (hbg.mono hzK)).trans hbh⟩
 · have hf1:H.first i p=H:=by rw[HFI.out,if_neg hc]
   have HF1:=lh hf1;clear hf1 HFI
   have HX1:=HA0
   by_cases hf0:f<0
   · have hlx:¬lim≤(x:Int):=fun h=>hc ⟨hf0,h⟩
     clear hc
     have t1:decide ((x:Int) ≥ lim)=false:=decide_eq_false hlx
     have t2:decide (lim≤(x:Int))=false:=decide_eq_false hlx
     go_wp2_with fail
     refine wp_region_quiet_below (by kernel_rfl) (by kernel_rfl) ?_
     repeat (go_big_quiet_step (first|fail|(go_at_call 51;with_reducible exact quiet_ret (HCH.out _ (HL.out.below (below_regrown _ _ _))))))
     refine wpQuiet_nil ?_
     intro w3 hw3
     have hb3:=below_of_regrown hw3
     clear hw3
     obtain⟨hc3,hf3⟩:=bcell hb3
     have hz3:=bsize hb3
     try simp only[sizes1] at hz3
     try simp only[sizes] at hc3 hf3
     clear hc3 hf3 hz3 t1 t2 D_c D_f D_z
     have hbA:Below base w w3:=hb3.mono hz
     have HX2:=lh (HX1.out.below hb3)
     clear hb3 D
     go_wp2_with fail
     have hzA:=hbA.size
     go_loopg [6,7] (Ho.resN H) (fun k _ _ wr=>∃ K:Ho,Hid (Steps i p H K)∧Hid K.Ok∧Hid (K.P.at i p)∧K.resN≤k∧HostAt base B wr K∧Below base w wr)
     case atStart=>exact⟨H,.refl,HOK,HAT,nlr _,HX2.out,hbA⟩
     case round =>
      obtain⟨K,HST,HKO,HKA,hkn,hK,hbK⟩:=hrel
      have hzK:=Nat.le_trans hz hbK.size
      have hK0:=hK
      have FUc:=fun v w h=>hfull_ok v K i p w h HKO.out.p HKA.out
      have CHc:=fun v w h=>hchosen_ok v K i w h HKO.out
      have hcb:=chosen_bd HKO.out (HKO.out.at_lt HKA.out)
      obtain⟨c,hc⟩:∃ c:Nat,K.chosen i=c:=⟨(K.chosen i).toNat,by omega⟩
      have hevc:K.evictC i p=K.evict c (if (c:Int)=i then p else -1):=by unfold Ho.evictC;rw[hc,Int.toNat_natCast]
      rw[hc] at CHc hcb
      obtain⟨fu,hfu⟩:∃ b,K.full i p=b:=⟨_,rfl⟩
      rw[hfu] at FUc
      have HFU:=lh FUc;clear FUc
      have HCC:=lh CHc;clear CHc
      have HFV:=lh hfu;clear hfu
      have HEC:=lh hevc;clear hevc
      clear hc
      obtain⟨of,or',om,og,kf,kr,km,kg,us,gs,D,O⟩:=hK
      have HVA:Hid (∀ w':World,Below wr.heap.size wr w'→HoAt w' (.agg #[.slice of K.P.F.length kf,.slice or' K.P.R.length kr,.slice om K.P.M.length km,.slice og K.G.length kg,.int .i64 K.t,.int .u64 K.d,.int .i64 K.n]) K):=lh (fun w' hb=>(O.below hb).at_)
      clear O
      cases fu
      · obtain⟨D_c,D_f,D_z⟩:=D.all
        go_wp2_with fail
        with_reducible refine (HFU.out _ _ (HVA.out _ (Below.refl _ _))).mono ?_
        rintro e wf ⟨rfl,hbf⟩
        go_wp2_with fail
        go_end0
        exact⟨rfl,⟨K,⟨by rw[HF1.out];exact HST.out,.inl HFV.out⟩,HKO.out,hK0.below hbf⟩,hbK.trans (hbf.mono hzK)⟩
      · obtain⟨D_c,D_f,D_z⟩:=D.all
        go_wp2_with fail
        clear D_c D_f D_z
        with_reducible refine (HFU.out _ _ (HVA.out _ (Below.refl _ _))).mono ?_
        rintro e wf ⟨rfl,hbf⟩
        obtain⟨D_c,D_f,D_z⟩:=(D.below hbf).all
        go_wp2_with fail
        clear D_c D_f D_z
        with_reducible refine (HCC.out _ _ (HVA.out _ hbf)).mono ?_
        rintro e wg ⟨rfl,hbg⟩
        replace hbg:=hbf.trans (hbg.mono hbf.size)
        clear hbf
        have hKg:=hK0.below hbg
        have hzg:=Nat.le_trans hzK hbg.size
        have EVc:=fun x=>hevict_ok base B K c x wg hKg hB HKO.out (by omega) hzg
        by_cases hci:(c:Int)=i
        · have hec:=HEC.out
          rw[if_pos hci] at hec
          have hci':c=i:=by omega
          subst hci'
          have EV2:=EVc (p:Int)
          obtain⟨o,ho⟩:∃ o,K.evict c (p:Int)=o:=⟨_,rfl⟩
          rw[ho] at EV2 hec
          have HEE:=lh EV2;clear EV2 EVc
          have HHC:=lh hec;clear hec HEC
          have HHO:=lh ho;clear ho
          clear hci
          go_wp2_with fail
          with_reducible refine HEE.out.mono ?_
          rintro e wh ⟨hm,hbh⟩
          cases o with
          | none =>
            obtain⟨rfl,hAh⟩:=hm
            go_wp2_with fail
            go_end0
            exact⟨rfl,⟨K,⟨by rw[HF1.out];exact HST.out,.inr ⟨HFV.out,HHC.out⟩⟩,HKO.out,hAh⟩,(hbK.trans (hbg.mono hzK)).trans hbh⟩
          | some L =>
            obtain⟨rfl,hAh⟩:=hm
            have EL:=evict_law HKO.out HHO.out
            have hres:=EL.res (Pl.at_lt.1 HKA.out).1
            go_wp2_with fail
            go_roundg L.resN
            case measure=>omega
            case rel=>exact⟨L,.step HST.out HFV.out HHC.out,EL.ok,(EL.al.at _ _).2 HKA.out,nlr _,hAh,(hbK.trans (hbg.mono hzK)).trans hbh⟩
        · have hec:=HEC.out
          rw[if_neg hci] at hec
          have e1:((c:Int) == (i:Int))=false:=by rw[beq_eq_false_iff_ne];exact hci
          have EV2:=EVc (-1)
          obtain⟨o,ho⟩:∃ o,K.evict c (-1)=o:=⟨_,rfl⟩
          rw[ho] at EV2 hec
          have hcm:c<K.P.M.length:=by have:=HKO.out.m;omega
          have HEE:=lh EV2;clear EV2 EVc
          have HHC:=lh hec;clear hec HEC
          have HHO:=lh ho;clear ho
          clear hci
          go_wp2_with fail
          with_reducible refine HEE.out.mono ?_
          rintro e wh ⟨hm,hbh⟩
          cases o with
          | none =>
            obtain⟨rfl,hAh⟩:=hm
            go_wp2_with fail
            go_end0
            exact⟨rfl,⟨K,⟨by rw[HF1.out];exact HST.out,.inr ⟨HFV.out,HHC.out⟩⟩,HKO.out,hAh⟩,(hbK.trans (hbg.mono hzK)).trans hbh⟩
          | some L =>
            obtain⟨rfl,hAh⟩:=hm
            have EL:=evict_law HKO.out HHO.out
            have hres:=EL.res hcm
            go_wp2_with fail
            go_roundg L.resN
            case measure=>omega
            case rel=>exact⟨L,.step HST.out HFV.out HHC.out,EL.ok,(EL.al.at _ _).2 HKA.out,nlr _,hAh,(hbK.trans (hbg.mono hzK)).trans hbh⟩
   · clear hc
     have t1:decide (f<0)=false:=decide_eq_false hf0
     go_wp2_with fail
     refine wp_region_quiet_below (by kernel_rfl) (by kernel_rfl) ?_
     repeat (go_big_quiet_step (first|fail|(go_at_call 51;with_reducible exact quiet_ret (HCH.out _ (HL.out.below (below_regrown _ _ _))))))
     refine wpQuiet_nil ?_
     intro w3 hw3
     have hb3:=below_of_regrown hw3
     clear hw3
     obtain⟨hc3,hf3⟩:=bcell hb3
     have hz3:=bsize hb3
     try simp only[sizes1] at hz3
     try simp only[sizes] at hc3 hf3
     clear hc3 hf3 hz3 t1 D_c D_f D_z
     have hbA:Below base w w3:=hb3.mono hz
     have HX2:=lh (HX1.out.below hb3)
     clear hb3 D
     go_wp2_with fail
     have hzA:=hbA.size
     go_loopg [6,7] (Ho.resN H) (fun k _ _ wr=>∃ K:Ho,Hid (Steps i p H K)∧Hid K.Ok∧Hid (K.P.at i p)∧K.resN≤k∧HostAt base B wr K∧Below base w wr)
     case atStart=>exact⟨H,.refl,HOK,HAT,nlr _,HX2.out,hbA⟩
     case round =>
      obtain⟨K,HST,HKO,HKA,hkn,hK,hbK⟩:=hrel
      have hzK:=Nat.le_trans hz hbK.size
      have hK0:=hK
      have FUc:=fun v w h=>hfull_ok v K i p w h HKO.out.p HKA.out
      have CHc:=fun v w h=>hchosen_ok v K i w h HKO.out
      have hcb:=chosen_bd HKO.out (HKO.out.at_lt HKA.out)
      obtain⟨c,hc⟩:∃ c:Nat,K.chosen i=c:=⟨(K.chosen i).toNat,by omega⟩
      have hevc:K.evictC i p=K.evict c (if (c:Int)=i then p else -1):=by unfold Ho.evictC;rw[hc,Int.toNat_natCast]
      rw[hc] at CHc hcb
      obtain⟨fu,hfu⟩:∃ b,K.full i p=b:=⟨_,rfl⟩
      rw[hfu] at FUc
      have HFU:=lh FUc;clear FUc
      have HCC:=lh CHc;clear CHc
      have HFV:=lh hfu;clear hfu
      have HEC:=lh hevc;clear hevc
      clear hc
      obtain⟨of,or',om,og,kf,kr,km,kg,us,gs,D,O⟩:=hK
      have HVA:Hid (∀ w':World,Below wr.heap.size wr w'→HoAt w' (.agg #[.slice of K.P.F.length kf,.slice or' K.P.R.length kr,.slice om K.P.M.length km,.slice og K.G.length kg,.int .i64 K.t,.int .u64 K.d,.int .i64 K.n]) K):=lh (fun w' hb=>(O.below hb).at_)
      clear O
      cases fu
      · obtain⟨D_c,D_f,D_z⟩:=D.all
        go_wp2_with fail
        with_reducible refine (HFU.out _ _ (HVA.out _ (Below.refl _ _))).mono ?_
        rintro e wf ⟨rfl,hbf⟩
        go_wp2_with fail
        go_end0
        exact⟨rfl,⟨K,⟨by rw[HF1.out];exact HST.out,.inl HFV.out⟩,HKO.out,hK0.below hbf⟩,hbK.trans (hbf.mono hzK)⟩
      · obtain⟨D_c,D_f,D_z⟩:=D.all
        go_wp2_with fail
        clear D_c D_f D_z
        with_reducible refine (HFU.out _ _ (HVA.out _ (Below.refl _ _))).mono ?_
        rintro e wf ⟨rfl,hbf⟩
        obtain⟨D_c,D_f,D_z⟩:=(D.below hbf).all
        go_wp2_with fail
        clear D_c D_f D_z
        with_reducible refine (HCC.out _ _ (HVA.out _ hbf)).mono ?_
        rintro e wg ⟨rfl,hbg⟩
        replace hbg:=hbf.trans (hbg.mono hbf.size)
        clear hbf
        have hKg:=hK0.below hbg
        have hzg:=Nat.le_trans hzK hbg.size
        have EVc:=fun x=>hevict_ok base B K c x wg hKg hB HKO.out (by omega) hzg
        by_cases hci:(c:Int)=i
        · have hec:=HEC.out
          rw[if_pos hci] at hec
          have hci':c=i:=by omega
          subst hci'
          have EV2:=EVc (p:Int)
          obtain⟨o,ho⟩:∃ o,K.evict c (p:Int)=o:=⟨_,rfl⟩
          rw[ho] at EV2 hec
          have HEE:=lh EV2;clear EV2 EVc
          have HHC:=lh hec;clear hec HEC
          have HHO:=lh ho;clear ho
          clear hci
          go_wp2_with fail
          with_reducible refine HEE.out.mono ?_
          rintro e wh ⟨hm,hbh⟩
          cases o with
          | none =>
            obtain⟨rfl,hAh⟩:=hm
            go_wp2_with fail
            go_end0
            exact⟨rfl,⟨K,⟨by rw[HF1.out];exact HST.out,.inr ⟨HFV.out,HHC.out⟩⟩,HKO.out,hAh⟩,(hbK.trans (hbg.mono hzK)).trans hbh⟩
          | some L =>
            obtain⟨rfl,hAh⟩:=hm
            have EL:=evict_law HKO.out HHO.out
            have hres:=EL.res (Pl.at_lt.1 HKA.out).1
            go_wp2_with fail
            go_roundg L.resN
            case measure=>omega
            case rel=>exact⟨L,.step HST.out HFV.out HHC.out,EL.ok,(EL.al.at _ _).2 HKA.out,nlr _,hAh,(hbK.trans (hbg.mono hzK)).trans hbh⟩
        · have hec:=HEC.out
          rw[if_neg hci] at hec
          have e1:((c:Int) == (i:Int))=false:=by rw[beq_eq_false_iff_ne];exact hci
          have EV2:=EVc (-1)
          obtain⟨o,ho⟩:∃ o,K.evict c (-1)=o:=⟨_,rfl⟩
          rw[ho] at EV2 hec
          have hcm:c<K.P.M.length:=by have:=HKO.out.m;omega
          have HEE:=lh EV2;clear EV2 EVc
          have HHC:=lh hec;clear hec HEC
          have HHO:=lh ho;clear ho
          clear hci
          go_wp2_with fail
          with_reducible refine HEE.out.mono ?_
          rintro e wh ⟨hm,hbh⟩
          cases o with
          | none =>
            obtain⟨rfl,hAh⟩:=hm
            go_wp2_with fail
            go_end0
            exact⟨rfl,⟨K,⟨by rw[HF1.out];exact HST.out,.inr ⟨HFV.out,HHC.out⟩⟩,HKO.out,hAh⟩,(hbK.trans (hbg.mono hzK)).trans hbh⟩
          | some L =>
            obtain⟨rfl,hAh⟩:=hm
            have EL:=evict_law HKO.out HHO.out
            have hres:=EL.res hcm
            go_wp2_with fail
            go_roundg L.resN
            case measure=>omega
            case rel=>exact⟨L,.step HST.out HFV.out HHC.out,EL.ok,(EL.al.at _ _).2 HKA.out,nlr _,hAh,(hbK.trans (hbg.mono hzK)).trans hbh⟩
end Go.Proofs.YtbnngjhnkegliaaGreat
