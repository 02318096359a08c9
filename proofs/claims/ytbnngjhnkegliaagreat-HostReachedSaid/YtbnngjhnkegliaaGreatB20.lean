/-
  Texts joined: HoStuck HoRead. No law is proved here.
-/
import Derived.Test.YtbnngjhnkegliaaGreatB19
namespace Go.Proofs.YtbnngjhnkegliaaGreat
open Go.RowKit
theorem chF_found {r:List Bool} {x:Int} {j:Nat} (hj:r[j]?=some true) (hx:(j:Int)≠x):∀ (k a:Nat) (u:List Bool),a<r.length→(u[j]?).getD false=false→(a≤j→j - a<k)→(j<a→j+r.length - a<k)→chF r x k a u≠none
 | 0,a,u,ha,_,h1,h2=>by
   exfalso
   rcases Nat.lt_or_ge j a with h|h
   · exact absurd (h2 h) (by omega)
   · exact absurd (h1 h) (by omega)
 | k+1,a,u,ha,hu,h1,h2=>by
   have hjl:=lt_of_get hj
   rw[chF]
   by_cases e:a=j
   · subst e
     rw[hj,if_neg (by simp only[Option.getD];rintro (h|h);cases h;exact hx h),if_neg (by rw[hu];decide)]
     simp
   · have hnext:∀ u':List Bool,(u'[j]?).getD false=false→chF r x k ((a+1) % r.length) u'≠none:=fun u' hu'=>by
       by_cases e2:a+1=r.length
       · rw[e2,Nat.mod_self]
         refine chF_found hj hx k 0 u' (by omega) hu' (fun _=>?_) (fun h=>by omega)
         have:=h2 (by omega)
         omega
       · rw[Nat.mod_eq_of_lt (by omega)]
         refine chF_found hj hx k (a+1) u' (by omega) hu' (fun h=>?_) (fun h=>?_)
         · have:=h1 (by omega)
           omega
         · have:=h2 (by omega)
           omega
     split
     · exact hnext u hu
     · split
       · refine hnext _ ?_
         rw[List.getElem?_set,if_neg e]
         exact hu
       · simp
theorem chF_any {r:List Bool} {x:Int} {j:Nat} (hj:r[j]?=some true) (hx:(j:Int)≠x):∀ (k a:Nat) (u:List Bool),a<r.length→(a≤j→j - a+r.length<k)→(j<a→j+r.length - a+r.length<k)→chF r x k a u≠none
 | 0,a,u,ha,h1,h2=>by
   exfalso
   rcases Nat.lt_or_ge j a with h|h
   · exact absurd (h2 h) (by omega)
   · exact absurd (h1 h) (by omega)
 | k+1,a,u,ha,h1,h2=>by
   have hjl:=lt_of_get hj
   rw[chF]
   by_cases e:a=j
   · subst e
     rw[hj,if_neg (by simp only[Option.getD];rintro (h|h);cases h;exact hx h)]
     split
     · have:=h1 (nlr _)
       have hnew:(((u.set a false))[a]?).getD false=false:=by
        rw[List.getElem?_set,if_pos rfl]
        split <;> rfl
       by_cases e2:a+1=r.length
       · rw[e2,Nat.mod_self]
         exact chF_found hj hx k 0 _ (by omega) hnew (fun _=>by omega) (fun h=>by omega)
       · rw[Nat.mod_eq_of_lt (by omega)]
         exact chF_found hj hx k (a+1) _ (by omega) hnew (fun h=>by omega) (fun h=>by omega)
     · simp
   · have hnext:∀ u':List Bool,chF r x k ((a+1) % r.length) u'≠none:=fun u'=>by
       by_cases e2:a+1=r.length
       · rw[e2,Nat.mod_self]
         refine chF_any hj hx k 0 u' (by omega) (fun _=>?_) (fun h=>by omega)
         have:=h2 (by omega)
         omega
       · rw[Nat.mod_eq_of_lt (by omega)]
         refine chF_any hj hx k (a+1) u' (by omega) (fun h=>?_) (fun h=>?_)
         · have:=h1 (by omega)
           omega
         · have:=h2 (by omega)
           omega
     split
     · exact hnext u
     · split
       · exact hnext _
       · simp
theorem evict_some {H:Ho} (hok:H.Ok) {i j:Nat} {x:Int} (hat:H.P.at i j) (h0:0≤H.P.fr i j) (hx:(j:Int)≠x):H.evict i x≠none:=by
 obtain⟨g,hg⟩:=get_lt (hok.at_lt hat)
 obtain⟨l,f,hl,hf⟩:=hat
 have hgo:=hok.g i g l hg hl
 have hfr:=Pl.fr_eq hl hf
 have hhd:=hgo.hd
 have hjl:=lt_of_get hf
 have hr:(l.map hasB)[j]?=some true:=by
  rw[List.getElem?_map,hf]
  exact congrArg some (decide_eq_true (by rw[←hfr];exact h0))
 unfold Ho.evict
 rw[hg]
 dsimp only
 rw[Pl.pages_eq hl]
 have hne:chO g.u (l.map hasB) g.h.toNat x≠none:=by
  unfold chO
  refine chF_any hr hx _ _ _ (by rw[List.length_map];omega) (fun _=>?_) (fun _=>?_) <;> rw[List.length_map] <;> omega
 cases ho:chO g.u (l.map hasB) g.h.toNat x with
 | none=>exact absurd ho hne
 | some a=>simp
theorem two_of_count {l:List Int} {x:Int} (h:2≤l.countP hasB):∃ j:Nat,∃ f:Int,l[j]?=some f∧0≤f∧(j:Int)≠x:=by
 by_cases hx:0≤x
 · obtain⟨k,rfl⟩:∃ k:Nat,x=k:=⟨x.toNat,by omega⟩
   rcases Nat.lt_or_ge k l.length with hk|hk
   · have h1:=countP_set (q:=hasB) (x:=(-1:Int)) (List.getElem?_eq_getElem hk)
     rw[if_neg (show ¬hasB (-1)=true by decide)] at h1
     have h2:0<(l.set k (-1)).countP hasB:=by split at h1 <;> omega
     obtain⟨f,hf,hb⟩:=List.countP_pos_iff.1 h2
     obtain⟨j,hj⟩:=List.getElem?_of_mem hf
     rw[List.getElem?_set] at hj
     by_cases e:k=j
     · rw[if_pos e] at hj
       split at hj
       · injection hj with hj
         subst hj
         exact absurd hb (by decide)
       · omega
     · rw[if_neg e] at hj
       exact⟨j,f,hj,of_decide_eq_true hb,by omega⟩
   · obtain⟨f,hf,hb⟩:=List.countP_pos_iff.1 (show 0<l.countP hasB by omega)
     obtain⟨j,hj⟩:=List.getElem?_of_mem hf
     have:=lt_of_get hj
     exact⟨j,f,hj,of_decide_eq_true hb,by omega⟩
 · obtain⟨f,hf,hb⟩:=List.countP_pos_iff.1 (show 0<l.countP hasB by omega)
   obtain⟨j,hj⟩:=List.getElem?_of_mem hf
   exact⟨j,f,hj,of_decide_eq_true hb,by omega⟩
theorem sumI_le {a b:List Int} (hl:a.length=b.length) (h:∀ (i:Nat) (x y:Int),a[i]?=some x→b[i]?=some y→x≤y):a.sum≤b.sum:=by
 induction a generalizing b with
 | nil =>
   cases b with
   | nil=>simp
   | cons y b=>simp at hl
 | cons x a ih =>
   cases b with
   | nil=>simp at hl
   | cons y b =>
     simp only[List.sum_cons]
     have h0:=h 0 x y rfl rfl
     have h1:=ih (b:=b) (by simpa using hl) (fun i u v hu hv=>h (i+1) u v hu hv)
     omega
theorem sumI_eq {a b:List Int} (hl:a.length=b.length) (h:∀ (i:Nat) (x y:Int),a[i]?=some x→b[i]?=some y→x≤y) (hs:b.sum≤a.sum):a=b:=by
 induction a generalizing b with
 | nil =>
   cases b with
   | nil=>rfl
   | cons y b=>simp at hl
 | cons x a ih =>
   cases b with
   | nil=>simp at hl
   | cons y b =>
     simp only[List.sum_cons] at hs
     have h0:=h 0 x y rfl rfl
     have hr:∀ (i:Nat) (u v:Int),a[i]?=some u→b[i]?=some v→u≤v:=fun i u v hu hv=>h (i+1) u v hu hv
     have h1:=sumI_le (by simpa using hl) hr
     have h2:=ih (b:=b) (by simpa using hl) hr (by omega)
     rw[h2]
     congr 1
     rw[h2] at hs
     omega
theorem flat_charge (M:List (List Int)):((M.flatten.countP hasB:Nat):Int)=(M.map (fun l=>((l.countP hasB:Nat):Int))).sum:=by
 induction M with
 | nil=>rfl
 | cons l M ih =>
   rw[List.flatten_cons,List.countP_append,List.map_cons,List.sum_cons,←ih]
   omega
theorem full_cnt {P:Pl} (H:P.Ok) (h:P.freeN=0):∀ v:Nat,v<P.F.length→0<P.cnt v:=fun v hv=>by
 rcases Nat.eq_zero_or_pos (P.cnt v) with e|e
 · obtain⟨s,hs,_,h1,_⟩:=H.fr v hv
   have:=List.countP_pos_iff.2 ⟨s,mem_at hs,(show emptyB s=true from decide_eq_true (h1.1 e))⟩
   unfold Pl.freeN at h
   omega
 · exact e
theorem not_stuck {H:Ho} (hok:H.Ok) {i p:Nat} (hat:H.P.at i p) (hf:H.full i p=true):H.evictC i p≠none:=by
 have hi:=hok.at_lt hat
 have hcb:=chosen_bd hok hi
 have hcl:H.claims.length=H.G.length:=by unfold Ho.claims;rw[List.length_zipWith,hok.m,Nat.min_self]
 have hce:∀ (i:Nat) (g:Gm) (l:List Int),H.G[i]?=some g→H.P.M[i]?=some l→H.claims[i]?=some { g.c with p:=((l.countP hasB:Nat):Int) }:=fun i g l hg hl=>by
  unfold Ho.claims
  rw[List.getElem?_zipWith,hg,hl]
 unfold Ho.full at hf
 rw[Bool.and_eq_true,decide_eq_true_eq] at hf
 obtain⟨hfree,hneed⟩:=hf
 unfold Ho.evictC
 by_cases hv:taxB H.t=true∧0≤vicF H.claims H.t H.claims.length
 · -- the tax chooses a guest that has more than its reservation
   have hch:H.chosen i=vicF H.claims H.t H.claims.length:=by
    unfold Ho.chosen victimR
    rw[if_pos hv]
    rfl
   have hhit:∀ k:Nat,k≤H.claims.length→0≤vicF H.claims H.t k→∃ c:Clm,H.claims[(vicF H.claims H.t k).toNat]?=some c∧c.r<c.p:=by
    intro k
    induction k with
    | zero=>intro _ h;simp [vicF] at h
    | succ k ih =>
      intro hk h
      obtain⟨c,hc⟩:=get_lt (xs:=H.claims) (k:=k) (by omega)
      rw[vicF,hc] at h ⊢
      dsimp only at h ⊢
      by_cases ho:vicOk H.claims H.t (vicF H.claims H.t k) c=true
      · rw[if_pos ho] at h ⊢
        rw[Int.toNat_natCast]
        refine ⟨c,hc,?_⟩
        unfold vicOk at ho
        rw[Bool.and_eq_true,Bool.and_eq_true,decide_eq_true_eq] at ho
        exact ho.1.2
      · rw[if_neg ho] at h ⊢
        exact ih (by omega) h
   obtain⟨c,hc,hrp⟩:=hhit _ (nlr _) hv.2
   rw[←hch] at hc
   obtain⟨k,hk⟩:∃ k:Nat,H.chosen i=k:=⟨(H.chosen i).toNat,by omega⟩
   rw[hk,Int.toNat_natCast] at hc ⊢
   obtain⟨g,hg⟩:=get_lt (xs:=H.G) (k:=k) (by omega)
   obtain⟨l,hl,hgo⟩:=hok.page hg
   rw[hce k g l hg hl] at hc
   injection hc with hc
   subst hc
   dsimp only at hrp
   have hrb:=hgo.rb
   obtain⟨j,f,hj,hf0,hne⟩:=two_of_count (l:=l) (x:=if (k:Int)=i then (p:Int) else -1) (by omega)
   exact evict_some hok ⟨l,f,hl,hj⟩ (by rw[Pl.fr_eq hl hj];exact hf0) hne
 · -- nobody has more: then the guest itself has another page with a frame
   have hch:H.chosen i=i:=by
    unfold Ho.chosen victimR
    rw[if_neg hv]
    rfl
   rw[hch,Int.toNat_natCast,if_pos rfl]
   have htax:taxB H.t=true:=decide_eq_true hok.t
   have hmiss:vicF H.claims H.t H.claims.length<0:=by
    rcases Int.lt_or_le (vicF H.claims H.t H.claims.length) 0 with h|h
    · exact h
    · exact absurd ⟨htax,h⟩ hv
   have hnone:∀ k:Nat,k≤H.claims.length→vicF H.claims H.t k<0→∀ (a:Nat) (c:Clm),a<k→H.claims[a]?=some c→validB c=true→c.p≤c.r:=by
    intro k
    induction k with
    | zero=>intro _ _ a c ha;omega
    | succ k ih =>
      intro hk h a c ha hc hval
      obtain⟨d,hd⟩:=get_lt (xs:=H.claims) (k:=k) (by omega)
      rw[vicF,hd] at h
      dsimp only at h
      by_cases ho:vicOk H.claims H.t (vicF H.claims H.t k) d=true
      · rw[if_pos ho] at h
        omega
      · rw[if_neg ho] at h
        by_cases e:a=k
        · subst e
          rw[hd] at hc
          injection hc with hc
          subst hc
          rcases Int.lt_or_le d.r d.p with h2|h2
          · exact absurd (vicOk_first hval h2 h) ho
          · exact h2
        · exact ih (by omega) h a c (by omega) hc hval
   have hle:∀ (a:Nat) (g:Gm) (l:List Int),H.G[a]?=some g→H.P.M[a]?=some l→((l.countP hasB:Nat):Int)≤g.c.r:=fun a g l hg hl=>by
    have hgo:=hok.g a g l hg hl
    have hrb:=hgo.rb
    have hlm:=hgo.lim
    refine hnone _ (nlr _) hmiss a { g.c with p:=((l.countP hasB:Nat):Int) } (by rw[hcl];exact lt_of_get hg) (hce a g l hg hl) ?_
    rw[validB_iff]
    dsimp only
    omega
   have hs:=flat_charge H.P.M
   have hcnt:=full_cnt hok.p hfree
   obtain⟨s1,s2⟩:=sum_ge (L:=H.P.M.flatten) H.P.F.length hcnt
   have hbd:∀ f∈H.P.M.flatten,f<(H.P.F.length:Int):=fun f hf=>by
    rw[List.mem_flatten] at hf
    obtain⟨l,hl,hf⟩:=hf
    exact (hok.p.pg l hl f hf).2
   have hse:=sumC_eq (n:=H.P.F.length) H.P.M.flatten hbd
   have hr:=hok.r
   have hlen:(H.P.M.map (fun l=>((l.countP hasB:Nat):Int))).length=(H.G.map (fun g=>g.c.r)).length:=by rw[List.length_map,List.length_map,hok.m]
   have hpt:∀ (a:Nat) (x y:Int),(H.P.M.map (fun l=>((l.countP hasB:Nat):Int)))[a]?=some x→(H.G.map (fun g=>g.c.r))[a]?=some y→x≤y:=fun a x y hx hy=>by
    rw[List.getElem?_map] at hx hy
    cases hl:H.P.M[a]? with
    | none=>rw[hl] at hx;simp at hx
    | some l =>
      cases hg:H.G[a]? with
      | none=>rw[hg] at hy;simp at hy
      | some g =>
        rw[hl] at hx
        rw[hg] at hy
        simp at hx hy
        rw[←hx,←hy]
        exact hle a g l hg hl
   have hsum:=sumI_le hlen hpt
   unfold sumR at hr
   have heq:=sumI_eq hlen hpt (by omega)
   have hone:∀ v:Nat,v<H.P.F.length→H.P.cnt v<2:=fun v hv=>by
    rcases Nat.lt_or_ge (H.P.cnt v) 2 with h|h
    · exact h
    · have:=s2 ⟨v,hv,h⟩
      omega
   have hfr:H.P.fr i p<0:=by
    unfold Pl.need at hneed
    rw[Bool.or_eq_true,decide_eq_true_eq,decide_eq_true_eq] at hneed
    rcases hneed with h|h
    · exact h
    · rcases Int.lt_or_le (H.P.fr i p) 0 with h2|h2
      · exact h2
      · have hb:=hok.p.at_bd hat
        obtain⟨v,hv⟩:∃ v:Nat,H.P.fr i p=v:=⟨(H.P.fr i p).toNat,by omega⟩
        rw[hv,Int.toNat_natCast,hok.p.ref_eq (by omega)] at h
        have:=hone v (by omega)
        omega
   obtain⟨l,f,hl,hf⟩:=hat
   obtain⟨g,hg⟩:=get_lt hi
   have hgo:=hok.g i g l hg hl
   have hrb:=hgo.rb
   have hci:((l.countP hasB:Nat):Int)=g.c.r:=by
    have h1:(H.P.M.map (fun l=>((l.countP hasB:Nat):Int)))[i]?=some ((l.countP hasB:Nat):Int):=by rw[List.getElem?_map,hl];rfl
    have h2:(H.G.map (fun g=>g.c.r))[i]?=some g.c.r:=by rw[List.getElem?_map,hg];rfl
    rw[heq,h2] at h1
    injection h1 with h1
    exact h1.symm
   obtain⟨f',hf',hb'⟩:=List.countP_pos_iff.1 (show 0<l.countP hasB by omega)
   obtain⟨j,hj⟩:=List.getElem?_of_mem hf'
   have hf0:0≤f':=of_decide_eq_true hb'
   refine evict_some hok (i:=i) (j:=j) ⟨l,f',hl,hj⟩ (by rw[Pl.fr_eq hl hj];exact hf0) (fun e=>?_)
   have:j=p:=by omega
   subst this
   rw[Pl.fr_eq hl hj] at hfr
   omega
theorem wok_of_full {H:Ho} (hok:H.P.Ok) {i p:Nat} (hat:H.P.at i p) (hf:H.full i p=false) {d:ByteArray} (hd:d.size=128):H.P.wok i p d=true:=by
 rw[(Pl.wr_eq hok hat hd).2]
 unfold Pl.wok'
 unfold Ho.full at hf
 rw[Bool.and_eq_false_iff,decide_eq_false_iff_not] at hf
 rcases hf with hf|hf
 · have hpos:0<H.P.F.countP emptyB:=Nat.pos_of_ne_zero hf
   obtain⟨s,hs,hb⟩:=List.countP_pos_iff.1 hpos
   obtain⟨k,hk⟩:=List.getElem?_of_mem hs
   rw[empty_of_size (of_decide_eq_true hb)] at hk
   cases hfo:firstOf H.P.F ⟨#[]⟩ with
   | none=>exact absurd hk (firstOf_none.1 hfo k)
   | some q=>simp
 · unfold Pl.need at hf
   rw[Bool.or_eq_false_iff,decide_eq_false_iff_not,decide_eq_false_iff_not] at hf
   have hb:=hok.at_bd hat
   obtain⟨v,hv⟩:∃ v:Nat,H.P.fr i p=v:=⟨(H.P.fr i p).toNat,by omega⟩
   have hc:=Pl.cnt_of_fr hat hv
   have hr:=hok.ref_eq (f:=v) (by omega)
   have ho:H.P.own i p=true:=by
    unfold Pl.own
    rw[hv,Int.toNat_natCast] at hf ⊢
    rw[hr] at hf ⊢
    rw[Bool.and_eq_true,decide_eq_true_eq,decide_eq_true_eq]
    omega
   rw[ho]
   simp
structure Kept (H K:Ho) (i p:Nat):Prop where
 ok:K.Ok
 al:H.P.Alike K.P
 gl:K.G.length=H.G.length
 t:K.t=H.t
 d:K.d=H.d
 n:K.n=H.n
 text:∀ a b,H.P.at a b→K.text a b=H.text a b
 cl:∀ (a:Nat) (g:Gm),H.G[a]?=some g→∃ g',K.G[a]?=some g'∧g'.c=g.c∧g'.e=g.e
 le:∀ a,K.P.chargeN a≤H.P.chargeN a
theorem Kept.refl {H:Ho} (h:H.Ok) (i p:Nat):Kept H H i p:=⟨h,Pl.Alike.refl _,rfl,rfl,rfl,rfl,fun _ _ _=>rfl,fun _ g hg=>⟨g,hg,rfl,rfl⟩,fun _=>nlr _⟩
theorem Kept.ev {H K L:Ho} {i p j:Nat} {x:Int} (h:Kept H K i p) (e:Evicted K L j x):Kept H L i p:=by
 obtain⟨v,_,_,_,_,hc⟩:=e.pg
 refine ⟨e.ok,h.al.trans e.al,e.gl.trans h.gl,e.t.trans h.t,e.d.trans h.d,e.n.trans h.n,fun a b hab=>(e.text a b ((h.al.at a b).2 hab)).trans (h.text a b hab),fun a g hg=>?_,fun a=>?_⟩
 · obtain⟨g',hg',c1,c2⟩:=h.cl a g hg
   obtain⟨g2,hg2,d1,d2,_⟩:=e.cl a g' hg'
   exact⟨g2,hg2,d1.trans c1,d2.trans c2⟩
 · have:=hc a
   have:=h.le a
   omega
theorem Kept.first {H:Ho} (h:H.Ok) (i p:Nat):Kept H (H.first i p) i p:=by
 unfold Ho.first
 split
 · exact Kept.refl h i p
 · split
   · cases he:H.evict i p with
     | none=>exact Kept.refl h i p
     | some L=>exact (Kept.refl h i p).ev (evict_law h he)
   · exact Kept.refl h i p
theorem Kept.steps {H H1 K:Ho} {i p:Nat} (h1:Kept H H1 i p) (h:Steps i p H1 K):Kept H K i p:=by
 induction h with
 | refl=>exact h1
 | step _ _ he ih=>exact ih.ev (evict_law ih.ok he)
theorem Roomed.kept {H K:Ho} {i p:Nat} (h:Roomed i p H K) (hok:H.Ok) (hat:H.P.at i p):Kept H K i p∧K.full i p=false:=by
 have hk:=(Kept.first hok i p).steps h.1
 refine ⟨hk,?_⟩
 rcases h.2 with h2|⟨h2,h3⟩
 · exact h2
 · exact absurd h3 (not_stuck hk.ok ((hk.al.at i p).2 hat) h2)
def Ho.back (K:Ho) (i p:Nat) (t:ByteArray):Ho:=match K.G[i]? with
 | none=>K
 | some g=>(K.setP (K.P.wr i p t)).setG i { g with s:=g.s.set p ⟨#[]⟩ }
def ReadTo (H:Ho) (i p:Nat) (H':Ho):Prop:=∃ (g:Gm) (t:ByteArray),H.G[i]?=some g∧g.s[p]?=some t∧((t.size=0∧H'=H.mark i p)∨(t.size≠0∧∃ K,Roomed i p H K∧H'=(K.back i p t).mark i p))
def RetRead (i p:Nat) (H:Ho) (w:World) (e:Ending) (w':World):Prop:=∃ H',ReadTo H i p H'∧RetHoB (fun v=>.tuple #[v,.string (H'.P.text i p),.int .i64 0]) H' w e w'
theorem OwnEnc.frz {α:Type} {enc:α→Value} {e:TypeId} {base n g k:Nat} {w:World} {xs:List α} (h:OwnEnc enc e base w (.slice (some ⟨g,0,none⟩) n k) xs) (j:Nat):w.frozen? ⟨g,j,none⟩=false:=by
 obtain rfl:=h.len
 exact World.ownsRow.frozenAt h j
theorem HasBlock.under' {w w':World} {b base:Nat} {cs:Array Value} {T:TypeId} (h:HasBlock w b cs T) (hb:Below base w w') (hlt:b<base):HasBlock w' b cs T:=(hb.block b hlt).trans h
set_option maxRecDepth 100000 in
set_option maxHeartbeats 8000000 in
theorem hread_ok (v:Value) (H:Ho) (i p:Nat) (w:World) (ha:HoAt w v H) (hok:H.Ok) (hat:H.P.at i p):Calls Tryz.prog 20 #[v,.int .i64 i,.int .i64 p] w (RetRead i p H w):=by
 have CL:=fun v w h=>hclone_ok v H w h hok
 have HS0:=fun v w h=>hhas_ok v H i p w h hok hat
 have HCL:=lh CL;clear CL
 have HHS:=lh HS0;clear HS0
 have hi:=hok.at_lt hat
 obtain⟨g,hg⟩:=get_lt hi
 have hgp:=hok.gmP hg
 obtain⟨l,f,hl,hf⟩:=hat
 have hgo:=hok.g i g l hg hl
 have hat:H.P.at i p:=⟨l,f,hl,hf⟩
 have hp:=lt_of_get hf
 have hll:=hok.p.l l (mem_at hl)
 obtain⟨t,ht⟩:=get_lt (xs:=g.s) (k:=p) (by rw[hgo.ls];exact hp)
 have hsw:=hgo.sw p f t hf ht
 obtain⟨of,or',om,og,kf,kr,km,kg,n,r,m,q,tx,dx,sx,HN,HR,HM,HQ,HT,HD,HS,rfl,kf1,kf2,kr1,kr2,km1,km2,kg1,kg2,h⟩:=HoAt.opened ha
 have h0:=h
 have HVA:Hid (∀ w':World,Below w.heap.size w w'→HoAt w' (.agg #[.slice of n kf,.slice or' r kr,.slice om m km,.slice og q kg,.int .i64 tx,.int .u64 dx,.int .i64 sx]) H):=lh (fun w' hb=>by
  have:=(h0.below hb).at_
  rwa[HT.out,HD.out,HS.out] at this)
 clear h h0
 have D1:=(HasBlock.made w #[.slice of n kf,.slice or' r kr,.slice om m km,.slice og q kg,.int .i64 tx,.int .u64 dx,.int .i64 sx] 30).alloc (.cells #[.slice none 0 0,.slice none 0 0,.slice none 0 0,.slice none 0 0,.int .i64 0,.int .u64 0,.int .i64 0] 30)
 have D2:=HasBlock.made (w.alloc (.cells #[.slice of n kf,.slice or' r kr,.slice om m km,.slice og q kg,.int .i64 tx,.int .u64 dx,.int .i64 sx] 30)) #[.slice none 0 0,.slice none 0 0,.slice none 0 0,.slice none 0 0,.int .i64 0,.int .u64 0,.int .i64 0] 30
 rw[World.size_alloc] at D2
 have hbw:Below w.heap.size w ((w.alloc (.cells #[.slice of n kf,.slice or' r kr,.slice om m km,.slice og q kg,.int .i64 tx,.int .u64 dx,.int .i64 sx] 30)).alloc (.cells #[.slice none 0 0,.slice none 0 0,.slice none 0 0,.slice none 0 0,.int .i64 0,.int .u64 0,.int .i64 0] 30)):=bel
 have HOK:=lh hok;clear hok
 have HAT:=lh hat;clear hat
 have HG:=lh hg;clear hg
 have HL:=lh hl;clear hl
 have HF:=lh hf;clear hf
 have HTT:=lh ht;clear ht
 have HSW:=lh hsw;clear hsw
 have HGO:=lh hgo;clear hgo hgp hi
 have hz0:w.heap.size+1+1=((w.alloc (.cells #[.slice of n kf,.slice or' r kr,.slice om m km,.slice og q kg,.int .i64 tx,.int .u64 dx,.int .i64 sx] 30)).alloc (.cells #[.slice none 0 0,.slice none 0 0,.slice none 0 0,.slice none 0 0,.int .i64 0,.int .u64 0,.int .i64 0] 30)).heap.size:=by simp only[sizes]
 go_enter Tryz.func20,Tryz.ntmps20
 obtain⟨D1_c,D1_f,D1_z⟩:=D1.all
 go_wp2_with fail
 clear D1_c D1_f D1_z
 with_reducible refine (HCL.out _ _ (HVA.out _ hbw)).mono ?_
 rintro e w1 ⟨of1,or1,om1,og1,kf1',kr1',km1',kg1',us1,gs1,rfl,O1,hb1⟩
 rw[HN.out,HR.out,HM.out,HQ.out] at O1 ⊢
 rw[HT.out,HD.out,HS.out]
 replace O1:=O1.lower (base':=w.heap.size+1+1) (Nat.le_of_eq hz0)
 have hz1:=hb1.size
 rw[←hz0] at hz1
 replace D1:=D1.below hb1
 replace D2:=D2.below hb1
 replace hbw:=hbw.trans (hb1.mono hbw.size)
 clear hb1 hz0
 obtain⟨D1_c,D1_f,D1_z⟩:=D1.all
 go_wp2_with fail
 clear D1_c D1_f D1_z
 have hbx:Below w1.heap.size w1 (w1.alloc (.cells #[.slice of1 n kf1',.slice or1 r kr1',.slice om1 m km1',.slice og1 q kg1',.int .i64 tx,.int .u64 dx,.int .i64 sx] 30)):=(Below.refl _ _).alloc (nlr _) _
 have DR:=HasBlock.made w1 #[.slice of1 n kf1',.slice or1 r kr1',.slice om1 m km1',.slice og1 q kg1',.int .i64 tx,.int .u64 dx,.int .i64 sx] 30
 replace D1:=D1.below hbx
 replace D2:=D2.below hbx
 replace O1:=O1.below hbx
 replace hbw:=hbw.trans (hbx.mono hbw.size)
 have hz2:=hbx.size
 clear hbx
 generalize hW:w1.alloc (.cells #[.slice of1 n kf1',.slice or1 r kr1',.slice om1 m km1',.slice og1 q kg1',.int .i64 tx,.int .u64 dx,.int .i64 sx] 30)=w2 at D1 D2 DR O1 hbw hz2 ⊢
 obtain⟨B,hB⟩:∃ B,w1.heap.size=B:=⟨_,rfl⟩
 rw[hB] at DR hz1 hz2 ⊢
 clear hW hB
 have hBA:w.heap.size+1+1≤B:=hz1
 with_reducible refine (HHS.out _ _ (HVA.out _ hbw)).mono ?_
 rintro e w3 ⟨rfl,hb3⟩
 replace D1:=D1.below hb3
 replace D2:=D2.below hb3
 replace DR:=DR.below hb3
 replace O1:=O1.below hb3
 replace hbw:=hbw.trans (hb3.mono hbw.size)
 replace hz2:=Nat.le_trans hz2 hb3.size
 clear hb3
 have hzz:w.heap.size+1+1≤w3.heap.size:=Nat.le_trans hBA hz2
 have hA:HostAt (w.heap.size+1+1) B w3 H:=HostAt.mk HN.out HR.out HM.out HQ.out HT.out HD.out HS.out DR O1
 have hrow:∃ (bG c so sc:Nat) (oso:Option Addr),og1=some ⟨bG,0,none⟩∧w3.cell? ⟨bG,i*9+5,none⟩=some (.slice oso so sc)∧so=l.length∧StrRow w3 (.slice oso so sc) g.s:=by
  obtain⟨bG,cG,y,so,sc,uo,uc,eo,ec,e0,b1,b2,hy,ys,yu,ye,_,cg2,_,sc2,_,uc2,_,ec2,cs,cfz⟩:=O1.guest HG.out
  injection e0 with e0 e9 e10
  subst e0
  obtain⟨rs1,_,_⟩:=O1.r i _ g hy HG.out
  have c5:=cs 5 _ rfl
  rw[ys] at rs1 c5
  exact⟨bG,0,_,sc,so,rfl,c5,HGO.out.ls,rs1.row⟩
 obtain⟨bG,_,so,sc,oso,rfl,c5,rfl,hsr⟩:=hrow
 obtain⟨sb,soff,rfl,hsb,ct⟩:=hsr.elem HTT.out
 clear hsr
 obtain⟨ql,hql⟩:∃ k,l.length=k:=⟨_,rfl⟩
 rw[hql] at hp c5 hll
 have HQL:=lh hql;clear hql
 have hiq:i<q:=by rw[←HQ.out];exact lt_of_get HG.out
 have i0:(0:Int)≤(i:Int):=by omega
 have iq:(i:Int)<(q:Int):=by omega
 have p0:(0:Int)≤(p:Int):=by omega
 have pq:(p:Int)<(ql:Int):=by omega
 have hii:=isEmpty_iff t
 have HA:=lh hA;clear hA O1
 by_cases h0:t.size=0
 · rw[decide_eq_true h0] at hii
   have HT0:=lh h0;clear h0 HSW
   obtain⟨DR_c,DR_f,DR_z⟩:=DR.all
   go_wp2_with fail
   clear DR_c DR_f DR_z
   clear c5 ct
   have hbb:Below (w.heap.size+1+1) w3 w3:=Below.refl _ _
   have hrows:∃ gK lK fK,H.G[i]?=some gK∧H.P.M[i]?=some lK∧lK[p]?=some fK∧gK.u.length=lK.length∧gK.e.length=lK.length∧lK.length≤32:=⟨g,l,f,HG.out,HL.out,HF.out,HGO.out.lu,HGO.out.le,by rw[HQL.out];exact hll.2⟩
   have hokP:=HOK.out.p
   -- the page is marked,then read
   obtain⟨gK,lK,fK,hgK,hlK,hfK,huK,heK,hlK32⟩:=hrows
   have hzA:=hbb.size
   with_reducible refine (hmark_ok (w.heap.size+1+1) B H i p w3 HA.out gK lK fK hgK hlK hfK huK heK hlK32 (Nat.le_trans hzz hzA)).mono ?_
   rintro e wm ⟨rfl,hAm,hbm⟩
   replace hbb:=hbb.trans hbm
   have hPm:(H.mark i p).P=H.P:=by unfold Ho.mark;rw[hgK];rfl
   obtain⟨of9,or9,om9,og9,kf9,kr9,km9,kg9,us9,gs9,D9,O9⟩:=hAm
   have hat9:(H.mark i p).P.at i p:=by rw[hPm];exact⟨lK,fK,hlK,hfK⟩
   have RDc:=fun v' w h=>pread_any v' (H.mark i p).P i p w h (by rw[hPm];exact hokP.fit)
   rw[Pl.read_eq (by rw[hPm];exact hokP) hat9,Pl.at_has (by rw[hPm];exact hokP) hat9] at RDc
   obtain⟨tx9,htx9⟩:∃ x,(H.mark i p).P.text i p=x:=⟨_,rfl⟩
   rw[htx9] at RDc
   have HRD:=lh RDc;clear RDc hat9 hPm
   have HTX:=lh htx9;clear htx9
   clear hgK hlK hfK huK heK hlK32
   have D29:=D2.under' hbb (by omega)
   obtain⟨Hx,hHx⟩:∃ Hx,H.mark i p=Hx:=⟨_,rfl⟩
   rw[hHx] at D9 O9 HRD HTX
   have HHX:=lh hHx;clear hHx
   obtain⟨n9,hn9⟩:∃ n,Hx.P.F.length=n:=⟨_,rfl⟩
   obtain⟨r9,hr9⟩:∃ n,Hx.P.R.length=n:=⟨_,rfl⟩
   obtain⟨m9,hm9⟩:∃ n,Hx.P.M.length=n:=⟨_,rfl⟩
   obtain⟨q9,hq9⟩:∃ n,Hx.G.length=n:=⟨_,rfl⟩
   obtain⟨t9,ht9⟩:∃ n,Hx.t=n:=⟨_,rfl⟩
   obtain⟨d9,hd9⟩:∃ n,Hx.d=n:=⟨_,rfl⟩
   obtain⟨s9,hs9⟩:∃ n,Hx.n=n:=⟨_,rfl⟩
   rw[hn9,hr9,hm9,hq9] at O9 D9
   rw[ht9,hd9,hs9] at D9
   have H9:=lh (And.intro hn9 (And.intro hr9 (And.intro hm9 (And.intro hq9 (And.intro ht9 (And.intro hd9 hs9))))));clear hn9 hr9 hm9 hq9 ht9 hd9 hs9
   obtain⟨D9_c,D9_f,D9_z⟩:=D9.all
   go_wp2_with fail
   clear D9_c D9_f D9_z
   with_reducible refine (HRD.out _ _ O9.row.p).mono ?_
   rintro e wn ⟨rfl,hbn⟩
   replace D9:=D9.below hbn
   replace O9:=O9.below hbn
   replace D29:=D29.below hbn
   replace hbb:=hbb.trans (hbn.mono (Nat.le_trans hzz hbb.size))
   clear hbn
   obtain⟨D9_c,D9_f,D9_z⟩:=D9.all
   obtain⟨D29_c,D29_f,D29_z⟩:=D29.all
   have nB:w.heap.size+1≠B:=by omega
   go_wp2_with fail
   refine bodyPost_ret (v:=.tuple #[.agg #[.slice of9 n9 kf9,.slice or9 r9 kr9,.slice om9 m9 km9,.slice og9 q9 kg9,.int .i64 t9,.int .u64 d9,.int .i64 s9],.string tx9,.int .i64 0]) (by simp [results,Tryz.results20,go_sem,D29_c]) rfl ?_
   refine ⟨Hx,⟨g,t,HG.out,HTT.out,.inl ⟨HT0.out,HHX.out.symm⟩⟩,?_⟩
   rw[HTX.out]
   exact hoRet' (k:=fun v=>.tuple #[v,.string tx9,.int .i64 0]) H9.out.1 H9.out.2.1 H9.out.2.2.1 H9.out.2.2.2.1 H9.out.2.2.2.2.1 H9.out.2.2.2.2.2.1 H9.out.2.2.2.2.2.2 (O9.fill7 (by omega) _ _ _ _ _ _ _) (Below.fill7 (hbw.trans (hbb.mono (by omega))) (by omega) _ _ _ _ _ _ _)
 · rw[decide_eq_false h0] at hii
   obtain⟨d1,d2,d3⟩:=HSW.out.resolve_left h0
   have HT0:=lh h0;clear h0 HSW d1
   obtain⟨DR_c,DR_f,DR_z⟩:=DR.all
   go_wp2_with fail
   clear DR_c DR_f DR_z
   clear c5 ct
   with_reducible refine (hroom_ok (w.heap.size+1+1) B H i p w3 HA.out hBA HOK.out HAT.out hzz).mono ?_
   rintro e w4 ⟨rfl,⟨K,hrm,hKo,hK⟩,hbb⟩
   obtain⟨hke,hfull⟩:=hrm.kept HOK.out HAT.out
   have hKat:=(hke.al.at i p).2 HAT.out
   obtain⟨gK,hgK⟩:=get_lt (hKo.at_lt hKat)
   have hgKp:=hKo.gmP hgK
   obtain⟨lK,fK,hlK,hfK⟩:=hKat
   have hKat:K.P.at i p:=⟨lK,fK,hlK,hfK⟩
   have hplK:=Pl.pages_eq hlK
   have hwok:=wok_of_full hKo.p hKat hfull d2
   have WRc:=fun v' w h=>pwrite_own v' K.P i p t w h hKo.p.fit hKo.p.small
   rw[hwok] at WRc
   obtain⟨we1,we2⟩:=Pl.wr_eq hKo.p hKat d2
   rw[we2] at hwok
   have WL:=(Pl.wr_law hKo.p hKat d2).1 hwok
   rw[←we1] at WL
   have hback:K.back i p t=(K.setP (K.P.wr i p t)).setG i { gK with s:=gK.s.set p ⟨#[]⟩ }:=by unfold Ho.back;rw[hgK]
   obtain⟨P2,hP2⟩:∃ P,K.P.wr i p t=P:=⟨_,rfl⟩
   rw[hP2] at WRc WL hback
   have hrows:∃ gX lX fX,(K.back i p t).G[i]?=some gX∧(K.back i p t).P.M[i]?=some lX∧lX[p]?=some fX∧gX.u.length=lX.length∧gX.e.length=lX.length∧lX.length≤32:=by
    rw[hback]
    obtain⟨lX,fX,hlX,hfX⟩:=(WL.al.at i p).2 hKat
    have hpl:=WL.al.pg i
    rw[Pl.pages_eq hlX] at hpl
    refine ⟨_,lX,fX,by show (K.G.set i _)[i]?=_;rw[List.getElem?_set,if_pos rfl,if_pos (lt_of_get hgK)],hlX,hfX,?_,?_,(WL.ok.l lX (mem_at hlX)).2⟩
    · rw[hpl];exact hgKp.lu
    · rw[hpl];exact hgKp.le
   have hokP:(K.back i p t).P.Ok:=by rw[hback];exact WL.ok
   have hA4:=hK
   obtain⟨of4,or4,om4,og4,kf4,kr4,km4,kg4,us4,gs4,D4,O4⟩:=hK
   obtain⟨bG4,cG4,y4,so4,sc4,uo4,uc4,eo4,ec4,e0,b1,b2,hy,ys,yu,ye,_,cg2,_,sc2,_,uc2,_,ec2,cs4,cfz⟩:=O4.guest hgK
   injection e0 with e0 e9 e10
   subst e0 e10
   clear e9
   obtain⟨ys1,yu1,ye1⟩:=y4
   dsimp only at ys yu ye
   subst ys yu ye
   obtain⟨rs1,rs2,rs3⟩:=O4.r i _ gK hy hgK
   dsimp only at rs1 rs2 rs3
   have hsl4:=hgKp.ls
   rw[hplK] at hsl4
   have hlen4:=hke.al.pg i
   rw[hplK,Pl.pages_eq HL.out,HQL.out] at hlen4
   rw[hlen4] at hsl4
   have c54:w4.cell? ⟨bG4,i*9+5,none⟩=_:=cs4 5 _ rfl
   dsimp only at c54
   rw[hsl4] at c54 rs1 hy
   obtain⟨gS,rfl,gs1',gs2'⟩:=rs1.addr hsl4 (by omega)
   obtain⟨s0,hs0⟩:=get_lt (xs:=gK.s) (k:=p) (by omega)
   obtain⟨cS0,fS0⟩:=rs1.at hs0
   have hqK:K.G.length=q:=by rw[hke.gl];exact HQ.out
   have hnGB:bG4≠B:=fun e=>own_off O4.g D4 (by decide) (by rw[e];rfl)
   have hnSB:gS≠B:=fun e=>own_off rs1 D4 (by decide) (by rw[e];rfl)
   have hnSG:gS≠bG4:=fun e=>own_ne_type rs1 O4.g (by decide) rfl (by rw[e];rfl)
   rw[hqK] at D4 O4
   obtain⟨nK,hnK⟩:∃ n,K.P.F.length=n:=⟨_,rfl⟩
   obtain⟨rK,hrK⟩:∃ n,K.P.R.length=n:=⟨_,rfl⟩
   obtain⟨mK,hmK⟩:∃ n,K.P.M.length=n:=⟨_,rfl⟩
   obtain⟨tK,htK⟩:∃ n,K.t=n:=⟨_,rfl⟩
   obtain⟨dK,hdK⟩:∃ n,K.d=n:=⟨_,rfl⟩
   obtain⟨sK,hsK⟩:∃ n,K.n=n:=⟨_,rfl⟩
   rw[hnK,hrK,hmK] at D4 O4
   rw[htK,hdK,hsK] at D4
   have HWR:=lh WRc;clear WRc
   have HBK:=lh hback;clear hback
   have HGK:=lh hgK;clear hgK
   have HYK:=lh hy;clear hy
   have HX4:=lh (And.intro htK (And.intro hdK (And.intro hsK hqK)));clear htK hdK hsK hqK hnK hrK hmK
   have HRM:=lh hrm;clear hrm
   clear hke hfull hKat hgKp hlK hfK hplK hwok we1 we2 WL hP2 hA4 cs4 hs0 hsl4 hlen4 hKo
   obtain⟨D4_c,D4_f,D4_z⟩:=D4.all
   go_wp2_with fail
   clear D4_c D4_f D4_z
   with_reducible refine (HWR.out _ _ O4.row.p).mono ?_
   rintro e w5 ⟨of5,or5,om5,kf5,kr5,km5,us5,rfl,O5,hb5⟩
   obtain⟨n5,hgn⟩:∃ n,(Pl.F P2).length=n:=⟨_,rfl⟩
   obtain⟨r5,hgr⟩:∃ n,(Pl.R P2).length=n:=⟨_,rfl⟩
   obtain⟨m5,hgm⟩:∃ n,(Pl.M P2).length=n:=⟨_,rfl⟩
   rw[hgn,hgr,hgm] at O5 ⊢
   have HG5:=lh (And.intro hgn (And.intro hgr hgm))
   clear hgn hgr hgm
   have D5:=D4.below hb5
   have hfz5:∀ o,w5.frozen? ⟨gS,o,none⟩=false:=fun o=>(hb5.frozen (p:=⟨gS,o,none⟩) gs2').trans (rs1.frz o)
   have c5:=(hb5.cell (p:=⟨bG4,i*9+5,none⟩) b2).trans c54
   have cS:=(hb5.cell (p:=⟨gS,p,none⟩) gs2').trans cS0
   have hgsz:gS<w5.heap.size:=Nat.lt_of_lt_of_le gs2' hb5.size
   have hbgz:bG4<w5.heap.size:=Nat.lt_of_lt_of_le b2 hb5.size
   have hn1:B≠gS:=fun e=>hnSB e.symm
   have hn2:B≠bG4:=fun e=>hnGB e.symm
   obtain⟨D5_c,D5_f,D5_z⟩:=D5.all
   go_wp2_with fail
   clear D5_c D5_f D5_z c5 cS
   have O4b:=O4.below hb5
   have Oa:=O4b.newPool (O5.lower (Nat.le_trans hzz hbb.size)) O4.ltG O5.ge
   have Ob:=((Oa.setbox (j:=0) D5 hostT (.slice of5 n5 kf5)).setbox (j:=1) (D5.put7_0 (.slice of5 n5 kf5)) hostT (.slice or5 r5 kr5)).setbox (j:=2) ((D5.put7_0 (.slice of5 n5 kf5)).put7_1 (.slice or5 r5 kr5)) hostT (.slice om5 m5 km5)
   have Oc:=Ob.putS (i:=i) HGK.out HYK.out rfl p ⟨#[]⟩
   have Dc:=(D5.poolIn (.slice of5 n5 kf5) (.slice or5 r5 kr5) (.slice om5 m5 km5)).set_ne hn1 (j:=p) (.string ⟨#[]⟩)
   have Od:=Oc.alloc (.cells #[.slice of5 n5 kf5,.slice or5 r5 kr5,.slice om5 m5 km5] 26)
   have Dd:=Dc.alloc (.cells #[.slice of5 n5 kf5,.slice or5 r5 kr5,.slice om5 m5 km5] 26)
   have hbb5:=hbb.trans (hb5.mono (Nat.le_trans hzz hbb.size))
   have hbe:=((((hbb5.setCell (p:=⟨B,0,none⟩) hBA (.slice of5 n5 kf5)).setCell (p:=⟨B,1,none⟩) hBA (.slice or5 r5 kr5)).setCell (p:=⟨B,2,none⟩) hBA (.slice om5 m5 km5)).setCell (p:=⟨gS,p,none⟩) gs1' (.string ⟨#[]⟩)).alloc (Nat.le_trans hzz (by simp only[sizes];exact hbb5.size)) (.cells #[.slice of5 n5 kf5,.slice or5 r5 kr5,.slice om5 m5 km5] 26)
   have HAE:=HostAt.mk (H:=(K.setP P2).setG i { gK with s:=gK.s.set p ⟨#[]⟩ }) HG5.out.1 HG5.out.2.1 HG5.out.2.2 ((List.length_set ..).trans HX4.out.2.2.2) HX4.out.1 HX4.out.2.1 HX4.out.2.2.1 Dd Od
   rw[←HBK.out] at HAE
   generalize hW:(((((World.setCell w5 ⟨B,0,none⟩ (.slice of5 n5 kf5)).setCell ⟨B,1,none⟩ (.slice or5 r5 kr5)).setCell ⟨B,2,none⟩ (.slice om5 m5 km5)).setCell ⟨gS,p,none⟩ (.string ⟨#[]⟩)).alloc (.cells #[.slice of5 n5 kf5,.slice or5 r5 kr5,.slice om5 m5 km5] 26))=wq at HAE hbe ⊢
   clear hW Oa Ob Oc Od Dc Dd hbb hbb5 hfz5 O4b O4 O5 D4 D5 rs1 rs2 rs3 c54 cS0 fS0 hb5
   have hbb:=hbe
   clear hbe
   obtain⟨KB,hKB⟩:∃ KB,K.back i p t=KB:=⟨_,rfl⟩
   rw[hKB] at HAE hrows hokP
   have HKB:=lh hKB;clear hKB
   have HAQ:=lh HAE;clear HAE
   -- the page is marked,then read
   obtain⟨gK,lK,fK,hgK,hlK,hfK,huK,heK,hlK32⟩:=hrows
   have hzA:=hbb.size
   with_reducible refine (hmark_ok (w.heap.size+1+1) B KB i p wq HAQ.out gK lK fK hgK hlK hfK huK heK hlK32 (Nat.le_trans hzz hzA)).mono ?_
   rintro e wm ⟨rfl,hAm,hbm⟩
   replace hbb:=hbb.trans hbm
   have hPm:(KB.mark i p).P=KB.P:=by unfold Ho.mark;rw[hgK];rfl
   obtain⟨of9,or9,om9,og9,kf9,kr9,km9,kg9,us9,gs9,D9,O9⟩:=hAm
   have hat9:(KB.mark i p).P.at i p:=by rw[hPm];exact⟨lK,fK,hlK,hfK⟩
   have RDc:=fun v' w h=>pread_any v' (KB.mark i p).P i p w h (by rw[hPm];exact hokP.fit)
   rw[Pl.read_eq (by rw[hPm];exact hokP) hat9,Pl.at_has (by rw[hPm];exact hokP) hat9] at RDc
   obtain⟨tx9,htx9⟩:∃ x,(KB.mark i p).P.text i p=x:=⟨_,rfl⟩
   rw[htx9] at RDc
   have HRD:=lh RDc;clear RDc hat9 hPm
   have HTX:=lh htx9;clear htx9
   clear hgK hlK hfK huK heK hlK32
   have D29:=D2.under' hbb (by omega)
   obtain⟨Hx,hHx⟩:∃ Hx,KB.mark i p=Hx:=⟨_,rfl⟩
   rw[hHx] at D9 O9 HRD HTX
   have HHX:=lh hHx;clear hHx
   obtain⟨n9,hn9⟩:∃ n,Hx.P.F.length=n:=⟨_,rfl⟩
   obtain⟨r9,hr9⟩:∃ n,Hx.P.R.length=n:=⟨_,rfl⟩
   obtain⟨m9,hm9⟩:∃ n,Hx.P.M.length=n:=⟨_,rfl⟩
   obtain⟨q9,hq9⟩:∃ n,Hx.G.length=n:=⟨_,rfl⟩
   obtain⟨t9,ht9⟩:∃ n,Hx.t=n:=⟨_,rfl⟩
   obtain⟨d9,hd9⟩:∃ n,Hx.d=n:=⟨_,rfl⟩
   obtain⟨s9,hs9⟩:∃ n,Hx.n=n:=⟨_,rfl⟩
   rw[hn9,hr9,hm9,hq9] at O9 D9
   rw[ht9,hd9,hs9] at D9
   have H9:=lh (And.intro hn9 (And.intro hr9 (And.intro hm9 (And.intro hq9 (And.intro ht9 (And.intro hd9 hs9))))));clear hn9 hr9 hm9 hq9 ht9 hd9 hs9
   obtain⟨D9_c,D9_f,D9_z⟩:=D9.all
   go_wp2_with fail
   clear D9_c D9_f D9_z
   with_reducible refine (HRD.out _ _ O9.row.p).mono ?_
   rintro e wn ⟨rfl,hbn⟩
   replace D9:=D9.below hbn
   replace O9:=O9.below hbn
   replace D29:=D29.below hbn
   replace hbb:=hbb.trans (hbn.mono (Nat.le_trans hzz hbb.size))
   clear hbn
   obtain⟨D9_c,D9_f,D9_z⟩:=D9.all
   obtain⟨D29_c,D29_f,D29_z⟩:=D29.all
   have nB:w.heap.size+1≠B:=by omega
   go_wp2_with fail
   refine bodyPost_ret (v:=.tuple #[.agg #[.slice of9 n9 kf9,.slice or9 r9 kr9,.slice om9 m9 km9,.slice og9 q9 kg9,.int .i64 t9,.int .u64 d9,.int .i64 s9],.string tx9,.int .i64 0]) (by simp [results,Tryz.results20,go_sem,D29_c]) rfl ?_
   refine ⟨Hx,⟨g,t,HG.out,HTT.out,.inr ⟨HT0.out,K,HRM.out,by rw[HKB.out];exact HHX.out.symm⟩⟩,?_⟩
   rw[HTX.out]
   exact hoRet' (k:=fun v=>.tuple #[v,.string tx9,.int .i64 0]) H9.out.1 H9.out.2.1 H9.out.2.2.1 H9.out.2.2.2.1 H9.out.2.2.2.2.1 H9.out.2.2.2.2.2.1 H9.out.2.2.2.2.2.2 (O9.fill7 (by omega) _ _ _ _ _ _ _) (Below.fill7 (hbw.trans (hbb.mono (by omega))) (by omega) _ _ _ _ _ _ _)
end Go.Proofs.YtbnngjhnkegliaaGreat
