/-
  Texts joined: Pl PlOwn PlClone PlGive. No law is proved here.
-/
import Derived.Test.YtbnngjhnkegliaaGreatB1
namespace Go.Proofs.YtbnngjhnkegliaaGreat
open Go.RowKit
structure Pl where
 F:List ByteArray
 R:List Int
 M:List (List Int)
def Pl.pages (P:Pl) (g:Nat):List Int:=(P.M[g]?).getD []
def Pl.fr (P:Pl) (g p:Nat):Int:=((P.pages g)[p]?).getD (-1)
def Pl.ref (P:Pl) (f:Nat):Int:=(P.R[f]?).getD 0
def Pl.txt (P:Pl) (f:Nat):ByteArray:=(P.F[f]?).getD ⟨#[]⟩
def Pl.ok (P:Pl):Bool:=poolB P.F P.R P.M
def Pl.is (P:Pl) (g p:Int):Bool:=decide (0≤g∧g<P.M.length∧0≤p∧p<(P.pages g.toNat).length)
def Pl.has (P:Pl) (g p:Int):Bool:=P.ok && P.is g p
def Pl.setF (P:Pl) (f:Nat) (s:ByteArray):Pl:=⟨P.F.set f s,P.R,P.M⟩
def Pl.setR (P:Pl) (f:Nat) (x:Int):Pl:=⟨P.F,P.R.set f x,P.M⟩
def Pl.setM (P:Pl) (g p:Nat) (x:Int):Pl:=⟨P.F,P.R,P.M.set g ((P.pages g).set p x)⟩
def Pl.giveUp (P:Pl) (g p:Nat):Pl :=
 if P.fr g p<0 then P
 else if P.ref (P.fr g p).toNat - 1=0 then (((P.setM g p (-1)).setR (P.fr g p).toNat (P.ref (P.fr g p).toNat - 1)).setF (P.fr g p).toNat ⟨#[]⟩)
 else ((P.setM g p (-1)).setR (P.fr g p).toNat (P.ref (P.fr g p).toNat - 1))
def Pl.take (P:Pl) (g p i:Nat) (d:ByteArray):Pl:=(((P.giveUp g p).setM g p i).setR i 1).setF i d
def Pl.join (P:Pl) (g p i:Nat):Pl:=((P.giveUp g p).setM g p i).setR i ((P.giveUp g p).ref i+1)
def firstOf (L:List ByteArray) (s:ByteArray):Option Nat:=L.findIdx? (fun t=>decide (t=s))
def Pl.fit (P:Pl):Prop:=(∀ x∈P.R,-9223372036854775808≤x∧x≤9223372036854775807)∧(∀ l∈P.M,∀ x∈l,-9223372036854775808≤x∧x≤9223372036854775807)
def Pl.small (P:Pl):Prop:=P.F.length≤1000000∧P.R.length≤1000000∧P.M.length≤1000000∧∀ l∈P.M,l.length≤1000000
def PlRow (w:World) (v:Value) (P:Pl):Prop:=PoolRow w v P.F P.R P.M
theorem PlRow.parts {w:World} {vf vr vm:Value} {P:Pl} (h:PlRow w (.agg #[vf,vr,vm]) P):StrRow w vf P.F∧NumRow w vr P.R∧MapRow w vm P.M:=by
 obtain⟨vf',vr',vm',e,h1,h2,h3⟩:=h
 injection e with e
 injection e with e
 injection e with e1 e
 injection e with e2 e
 injection e with e3
 subst e1 e2 e3
 exact⟨h1,h2,h3⟩
theorem PlRow.below {w w':World} {v:Value} {P:Pl} (h:PlRow w v P) (hb:Below w.heap.size w w'):PlRow w' v P:=PoolRow.below h hb
theorem HasBlock.all {w:World} {b:Nat} {cs:Array Value} {T:TypeId} (h:HasBlock w b cs T):(∀ j,w.cell? ⟨b,j,none⟩=cs[j]?)∧(∀ j,w.frozen? ⟨b,j,none⟩=false)∧b<w.heap.size:=⟨h.cell,h.free,h.lt⟩
theorem HasBlock.put3_0 {w:World} {b:Nat} {T:TypeId} {x0 x1 x2:Value} (h:HasBlock w b #[x0,x1,x2] T) (v:Value):HasBlock (w.setCell ⟨b,0,none⟩ v) b #[v,x1,x2] T:=by simpa using h.set_at 0 v
theorem HasBlock.put3_1 {w:World} {b:Nat} {T:TypeId} {x0 x1 x2:Value} (h:HasBlock w b #[x0,x1,x2] T) (v:Value):HasBlock (w.setCell ⟨b,1,none⟩ v) b #[x0,v,x2] T:=by simpa using h.set_at 1 v
theorem HasBlock.put3_2 {w:World} {b:Nat} {T:TypeId} {x0 x1 x2:Value} (h:HasBlock w b #[x0,x1,x2] T) (v:Value):HasBlock (w.setCell ⟨b,2,none⟩ v) b #[x0,x1,v] T:=by simpa using h.set_at 2 v
theorem own_ne_type {w:World} {base base':Nat} {e e':TypeId} {size size' n n':Nat} {v v':Value} {xs xs':List Value} (h:w.ownsRow base e size v n xs) (h':w.ownsRow base' e' size' v' n' xs') (hne:e≠e') {k:Nat} (hk:v.ownBlock=some k):v'.ownBlock≠some k:=by
 intro hk'
 rcases h.2 with ⟨rfl,_⟩|⟨g,cap,cur,rfl,_,hg,_⟩
 · cases hk
 · rcases h'.2 with ⟨rfl,_⟩|⟨g',cap',cur',rfl,_,hg',_⟩
   · cases hk'
   · injection hk with hk
     injection hk' with hk'
     subst hk
     subst hk'
     rw[hg'] at hg
     injection hg with hg
     injection hg with _ hg
     exact hne hg.symm
theorem owns_setne {w:World} {base:Nat} {e:TypeId} {size n:Nat} {v:Value} {xs:List Value} (h:w.ownsRow base e size v n xs) {b j:Nat} (hne:v.ownBlock≠some b) (x:Value):(w.setCell ⟨b,j,none⟩ x).ownsRow base e size v n xs:=by
 obtain⟨h1,h2⟩:=h
 refine ⟨h1,?_⟩
 rcases h2 with h2|⟨g,cap,cur,rfl,e2,e3,h3⟩
 · exact .inl h2
 · exact .inr ⟨g,cap,cur,rfl,e2,(Below.heap_setCell w _ x g (fun e=>hne (by rw[e];rfl))).trans e3,h3⟩
theorem OwnEnc.setoff {α:Type} {enc:α→Value} {e:TypeId} {base:Nat} {w:World} {v:Value} {xs:List α} (h:OwnEnc enc e base w v xs) {b j:Nat} (hne:v.ownBlock≠some b) (x:Value):OwnEnc enc e base (w.setCell ⟨b,j,none⟩ x) v xs:=owns_setne h hne x
theorem owns_setlow {w:World} {base:Nat} {e:TypeId} {size n:Nat} {v:Value} {xs:List Value} (h:w.ownsRow base e size v n xs) {b j:Nat} (hb:b<base) (x:Value):(w.setCell ⟨b,j,none⟩ x).ownsRow base e size v n xs:=owns_setne h (fun e=>by have:=(h.lt b e).1;omega) x
theorem OwnEnc.setlow {α:Type} {enc:α→Value} {e:TypeId} {base:Nat} {w:World} {v:Value} {xs:List α} (h:OwnEnc enc e base w v xs) {b j:Nat} (hb:b<base) (x:Value):OwnEnc enc e base (w.setCell ⟨b,j,none⟩ x) v xs:=owns_setlow h hb x
structure OwnP (base:Nat) (w:World) (vf vr vm:Value) (us:List Value) (P:Pl):Prop where
 f:OwnStr base w vf P.F
 r:OwnNum base w vr P.R
 m:w.ownsRow base 23 1 vm P.M.length us
 u:OwnRows base w us P.M
 ap:∀ (i:Nat) (u:Value),us[i]?=some u→Apart vr u
theorem OwnRows.lower {base base':Nat} {w:World} {us:List Value} {M:List (List Int)} (h:OwnRows base w us M) (hb:base'≤base):OwnRows base' w us M :=
 ⟨h.1,fun i u xs hu hx=>(h.2.1 i u xs hu hx).lower hb,h.2.2⟩
theorem OwnP.lower {base base':Nat} {w:World} {vf vr vm:Value} {us:List Value} {P:Pl} (h:OwnP base w vf vr vm us P) (hb:base'≤base):OwnP base' w vf vr vm us P :=
 ⟨h.f.lower hb,h.r.lower hb,owns_lower h.m hb,h.u.lower hb,h.ap⟩
theorem OwnP.below {base:Nat} {w w':World} {vf vr vm:Value} {us:List Value} {P:Pl} (h:OwnP base w vf vr vm us P) (hb:Below w.heap.size w w'):OwnP base w' vf vr vm us P :=
 ⟨h.f.below hb,h.r.below hb,owns_below h.m hb,h.u.below hb,h.ap⟩
theorem OwnP.row {base:Nat} {w:World} {vf vr vm:Value} {us:List Value} {P:Pl} (h:OwnP base w vf vr vm us P):PlRow w (.agg #[vf,vr,vm]) P :=
 ⟨vf,vr,vm,rfl,h.f.row,h.r.row,us,RowAt.of_owns h.m,h.u.1,fun i u xs hu hx=>(h.u.2.1 i u xs hu hx).row⟩
theorem OwnP.setlow {base:Nat} {w:World} {vf vr vm:Value} {us:List Value} {P:Pl} (h:OwnP base w vf vr vm us P) {b j:Nat} (hb:b<base) (x:Value):OwnP base (w.setCell ⟨b,j,none⟩ x) vf vr vm us P:=by
 have hn:∀ {e:TypeId} {size n:Nat} {v:Value} {xs:List Value},w.ownsRow base e size v n xs→v.ownBlock≠some b:=fun h e=>by have:=(h.lt b e).1;omega
 refine ⟨h.f.setoff (hn h.f) x,h.r.setoff (hn h.r) x,owns_setne h.m (hn h.m) x,⟨h.u.1,fun i u xs hu hx=>?_,h.u.2.2⟩,h.ap⟩
 have:=h.u.2.1 i u xs hu hx
 exact this.setoff (hn this) x
theorem OwnP.alloc {base:Nat} {w:World} {vf vr vm:Value} {us:List Value} {P:Pl} (h:OwnP base w vf vr vm us P) (o:Obj):OwnP base (w.alloc o) vf vr vm us P:=h.below ((Below.refl _ w).alloc (nlr _) o)
theorem OwnP.putF {base gf n k:Nat} {w:World} {vr vm:Value} {us:List Value} {P:Pl} (h:OwnP base w (.slice (some ⟨gf,0,none⟩) n k) vr vm us P) (j:Nat) (s:ByteArray):OwnP base (w.setCell ⟨gf,j,none⟩ (.string s)) (.slice (some ⟨gf,0,none⟩) n k) vr vm us (P.setF j s):=by
 refine ⟨h.f.put j s,h.r.setoff (own_ne_type h.f h.r (by decide) rfl) _,owns_setne h.m (own_ne_type h.f h.m (by decide) rfl) _,⟨h.u.1,fun i u xs hu hx=>?_,h.u.2.2⟩,h.ap⟩
 have:=h.u.2.1 i u xs hu hx
 exact this.setoff (own_ne_type h.f this (by decide) rfl) _
theorem OwnP.putR {base gr n k:Nat} {w:World} {vf vm:Value} {us:List Value} {P:Pl} (h:OwnP base w vf (.slice (some ⟨gr,0,none⟩) n k) vm us P) (j:Nat) (x:Int):OwnP base (w.setCell ⟨gr,j,none⟩ (.int .i64 x)) vf (.slice (some ⟨gr,0,none⟩) n k) vm us (P.setR j x):=by
 refine ⟨h.f.setoff (own_ne_type h.r h.f (by decide) rfl) _,h.r.put j x,owns_setne h.m (own_ne_type h.r h.m (by decide) rfl) _,⟨h.u.1,fun i u xs hu hx=>?_,h.u.2.2⟩,h.ap⟩
 have:=h.u.2.1 i u xs hu hx
 exact this.setoff (h.ap i u hu gr rfl) _
theorem OwnP.putM {base g bu n k:Nat} {w:World} {vf vr vm:Value} {us:List Value} {P:Pl} (h:OwnP base w vf vr vm us P) (hu:us[g]?=some (.slice (some ⟨bu,0,none⟩) n k)) (p:Nat) (x:Int):OwnP base (w.setCell ⟨bu,p,none⟩ (.int .i64 x)) vf vr vm us (P.setM g p x):=by
 have hgl:g<P.M.length:=by rw[←h.u.1];exact lt_of_get hu
 obtain⟨l,hl⟩:=get_lt hgl
 have hlp:P.pages g=l:=by unfold Pl.pages;rw[hl];rfl
 have ho:=h.u.2.1 g _ l hu hl
 refine ⟨h.f.setoff (own_ne_type ho h.f (by decide) rfl) _,h.r.setoff (fun e=>h.ap g _ hu bu e rfl) _,?_,⟨?_,fun i u xs hu' hx=>?_,h.u.2.2⟩,h.ap⟩
 · have:=owns_setne h.m (own_ne_type ho h.m (by decide) rfl) (j:=p) (.int .i64 x)
   unfold Pl.setM
   rwa[List.length_set]
 · unfold Pl.setM
   rw[List.length_set]
   exact h.u.1
 · unfold Pl.setM at hx
   rw[List.getElem?_set,hlp] at hx
   by_cases e:g=i
   · subst e
     rw[if_pos rfl,if_pos hgl] at hx
     injection hx with hx
     subst hx
     rw[hu] at hu'
     injection hu' with hu'
     subst hu'
     exact ho.put p x
   · rw[if_neg e] at hx
     exact (h.u.2.1 i u xs hu' hx).setoff (h.u.2.2 g i _ u e hu hu' bu rfl) _
/-! what a call that changes rows of the caller's leaves as it was -/
structure Between (base top:Nat) (w w':World):Prop where
 os:w'.os=w.os
 tape:w'.tape=w.tape
 output:w'.output=w.output
 size:w.heap.size≤w'.heap.size
 block:∀ k,k<w.heap.size→(k<base∨top≤k)→w'.heap[k]?=w.heap[k]?
theorem Between.refl (base top:Nat) (w:World):Between base top w w:=⟨rfl,rfl,rfl,nlr _,fun _ _ _=>rfl⟩
theorem Between.alloc {base top:Nat} {w w':World} (h:Between base top w w') (o:Obj):Between base top w (w'.alloc o) :=
 ⟨h.os,h.tape,h.output,Nat.le_trans h.size (by rw[World.size_alloc];omega),fun k hk hh=>(Below.heap_alloc w' o k (Nat.lt_of_lt_of_le hk h.size)).trans (h.block k hk hh)⟩
theorem Between.setCell {base top:Nat} {w w':World} (h:Between base top w w') {b j:Nat} (h1:base≤b) (h2:b<top) (v:Value):Between base top w (w'.setCell ⟨b,j,none⟩ v) :=
 ⟨h.os,h.tape,h.output,by rw[World.size_setCell];exact h.size,fun k hk hh=>(Below.heap_setCell w' _ v k (fun e=>by dsimp only at e;omega)).trans (h.block k hk hh)⟩
theorem Between.next {base top:Nat} {w w' w2:World} (h:Between base top w w') (hb:Below w'.heap.size w' w2):Between base top w w2 :=
 ⟨hb.os.trans h.os,hb.tape.trans h.tape,hb.output.trans h.output,Nat.le_trans h.size hb.size,fun k hk hh=>(hb.block k (Nat.lt_of_lt_of_le hk h.size)).trans (h.block k hk hh)⟩
theorem Between.below {base top:Nat} {w w':World} (h:Between base top w w') (hb:base≤w.heap.size):Below base w w':=⟨h.os,h.tape,h.output,h.size,fun k hk=>h.block k (by omega) (.inl hk)⟩
theorem HasBlock.btw {w w':World} {b base top:Nat} {cs:Array Value} {T:TypeId} (h:HasBlock w b cs T) (hb:Between base top w w') (hh:b<base∨top≤b):HasBlock w' b cs T:=(hb.block b h.lt hh).trans h
structure LtP (top:Nat) (vf vr:Value) (us:List Value):Prop where
 f:∀ k,vf.ownBlock=some k→k<top
 r:∀ k,vr.ownBlock=some k→k<top
 u:∀ (i:Nat) (u:Value),us[i]?=some u→∀ k,u.ownBlock=some k→k<top
theorem OwnP.lt {base:Nat} {w:World} {vf vr vm:Value} {us:List Value} {P:Pl} (h:OwnP base w vf vr vm us P):LtP w.heap.size vf vr us :=
 ⟨fun k hk=>(World.ownsRow.lt h.f.raw k hk).2,fun k hk=>(World.ownsRow.lt h.r.raw k hk).2,fun i u hu k hk=>by
   obtain⟨xs,hx⟩:=get_lt (xs:=P.M) (k:=i) (by rw[←h.u.1];exact lt_of_get hu)
   exact (World.ownsRow.lt (h.u.2.1 i u xs hu hx).raw k hk).2⟩
/-! places -/
theorem OwnP.page {base:Nat} {w:World} {vf vr vm:Value} {us:List Value} {P:Pl} (h:OwnP base w vf vr vm us P) {g p:Nat} {l:List Int} {f:Int} (hl:P.M[g]?=some l) (hp:l[p]?=some f) :
    ∃ bm km bu ku,vm=.slice (some ⟨bm,0,none⟩) P.M.length km∧us[g]?=some (.slice (some ⟨bu,0,none⟩) l.length ku)∧w.cell? ⟨bm,g,none⟩=some (.slice (some ⟨bu,0,none⟩) l.length ku)∧w.cell? ⟨bu,p,none⟩=some (.int .i64 f)∧w.frozen? ⟨bu,p,none⟩=false ∧
     base≤bm∧bm<w.heap.size∧base≤bu∧bu<w.heap.size∧bm≠bu:=by
 have hgl:=lt_of_get hl
 have hpl:=lt_of_get hp
 obtain⟨u,hu⟩:=get_lt (xs:=us) (k:=g) (by rw[h.u.1];exact hgl)
 have ho:=h.u.2.1 g u l hu hl
 have hm:=h.m
 rcases hm.2 with ⟨rfl,h0⟩|⟨bm,km,cur,rfl,q1,q2,_⟩
 · omega
 · obtain⟨uo,uc,rfl,_⟩:=ho.form
   obtain⟨bu,rfl,r1,r2⟩:=ho.addr rfl (by omega)
   obtain⟨s1,s2⟩:=ho.at hp
   refine ⟨bm,km,bu,uc,rfl,hu,?_,s1,s2,q1,(Array.getElem?_eq_some_iff.1 q2).1,r1,r2,fun e=>own_ne_type hm ho (by decide) (k:=bm) rfl (by rw[e];rfl)⟩
   have:=World.ownsRow.cellAt hm g (by omega)
   rw[this]
   exact hu
theorem PlRow.guest {w:World} {vf vr:Value} {om:Option Addr} {m km g:Nat} {P:Pl} {l:List Int} (h:PlRow w (.agg #[vf,vr,.slice om m km]) P) (hl:P.M[g]?=some l) :
    ∃ mb moff uo uc,om=some ⟨mb,moff,none⟩∧mb<w.heap.size∧w.cell? ⟨mb,moff+g,none⟩=some (.slice uo l.length uc)∧l.length≤uc∧uc≤9223372036854775807∧NumRow w (.slice uo l.length uc) l:=by
 obtain⟨_,_,us,h3,h4,h5⟩:=h.parts
 obtain⟨om',km',e0,_,_,h3⟩:=h3
 injection e0 with e0 e9 e1
 subst e0
 obtain⟨u,hu⟩:=get_lt (xs:=us) (k:=g) (by rw[h4];exact lt_of_get hl)
 have hrow:=h5 g u l hu hl
 obtain⟨uo,uc,rfl,d1,d2,_⟩:=hrow.out
 unfold maxLen at d2
 obtain⟨mb,moff,rfl,hmb,hmc⟩:=h3.resolve_left (by intro e;rw[e] at hu;simp at hu)
 exact⟨mb,moff,uo,uc,rfl,hmb,hmc g _ hu,d1,d2,hrow⟩
theorem EncRow.elem {α:Type} {enc:α→Value} {w:World} {ao:Option Addr} {n ca:Nat} {xs:List α} (h:EncRow enc w (.slice ao n ca) xs) {i:Nat} {x:α} (hx:xs[i]?=some x):∃ b off,ao=some ⟨b,off,none⟩∧b<w.heap.size∧w.cell? ⟨b,off+i,none⟩=some (enc x):=by
 obtain⟨ao',cap,hv,_,_,h3⟩:=h.out
 injection hv with e1
 subst e1
 obtain⟨b,off,e,hlt,hc⟩:=h3.resolve_left (by have:=lt_of_get hx;omega)
 exact⟨b,off,e,hlt,hc i x hx⟩
theorem OwnP.f_ne {base gf g bu n k n2 k2:Nat} {w:World} {vr vm:Value} {us:List Value} {P:Pl} (h:OwnP base w (.slice (some ⟨gf,0,none⟩) n k) vr vm us P) (hu:us[g]?=some (.slice (some ⟨bu,0,none⟩) n2 k2)):gf≠bu:=by
 obtain⟨l,hl⟩:=get_lt (xs:=P.M) (k:=g) (by rw[←h.u.1];exact lt_of_get hu)
 exact fun e=>own_ne_type h.f (h.u.2.1 g _ l hu hl) (by decide) (k:=gf) rfl (by rw[e];rfl)
theorem OwnP.r_ne {base gr g bu n k n2 k2:Nat} {w:World} {vf vm:Value} {us:List Value} {P:Pl} (h:OwnP base w vf (.slice (some ⟨gr,0,none⟩) n k) vm us P) (hu:us[g]?=some (.slice (some ⟨bu,0,none⟩) n2 k2)):gr≠bu:=fun e=>h.ap g _ hu gr rfl (by rw[e];rfl)
theorem OwnP.fr_ne {base gf gr n k n2 k2:Nat} {w:World} {vm:Value} {us:List Value} {P:Pl} (h:OwnP base w (.slice (some ⟨gf,0,none⟩) n k) (.slice (some ⟨gr,0,none⟩) n2 k2) vm us P):gf≠gr:=fun e=>own_ne_type h.f h.r (by decide) (k:=gf) rfl (by rw[e];rfl)
theorem Pl.fr_eq {P:Pl} {g p:Nat} {l:List Int} {f:Int} (hl:P.M[g]?=some l) (hp:l[p]?=some f):P.fr g p=f:=by
 unfold Pl.fr Pl.pages
 rw[hl,Option.getD_some,hp]
 rfl
theorem Pl.is_at {P:Pl} {g p:Nat} (h:P.is g p=true):∃ l f,P.M[g]?=some l∧l[p]?=some f:=by
 unfold Pl.is at h
 rw[decide_eq_true_eq] at h
 obtain⟨_,h1,_,h2⟩:=h
 rw[Int.toNat_natCast] at h2
 obtain⟨l,hl⟩:=get_lt (xs:=P.M) (k:=g) (by omega)
 have:P.pages g=l:=by unfold Pl.pages;rw[hl];rfl
 rw[this] at h2
 obtain⟨f,hf⟩:=get_lt (xs:=l) (k:=p) (by omega)
 exact⟨l,f,hl,hf⟩
theorem OwnEnc.kept {α:Type} {enc:α→Value} {e:TypeId} {base:Nat} {w w':World} {v:Value} {xs:List α} (h:OwnEnc enc e base w v xs) {row:Option Nat} (hg:w.grownBy w' row) (hne:∀ k,v.ownBlock=some k→row≠some k):OwnEnc enc e base w' v xs:=by
 refine World.ownsRow.kept h hg ?_
 cases hv:v.ownBlock with
 | none=>exact .inl rfl
 | some k=>exact .inr (fun e=>hne k hv e.symm)
theorem apart_lt {v u:Value} {B:Nat} (h1:∀ k,v.ownBlock=some k→k<B) (h2:∀ k,u.ownBlock=some k→B≤k):Apart v u:=by
 intro k hk hk'
 have:=h1 k hk
 have:=h2 k hk'
 omega
theorem OwnP.push {base:Nat} {w w':World} {vf vr vm vm' u:Value} {us:List Value} {P:Pl} {l:List Int} (h:OwnP base w vf vr vm us P) (ho:OwnNum base w u l) (hr:Apart vr u) (hu:∀ (i:Nat) (u':Value),us[i]?=some u'→Apart u' u)
    (hown:w'.ownsRow base 23 1 vm' (P.M.length+1) (us++[u])) (hg:w.grownBy w' vm.ownBlock):OwnP base w' vf vr vm' (us++[u]) ⟨P.F,P.R,P.M++[l]⟩:=by
 have hk:∀ {α:Type} {enc:α→Value} {e:TypeId} {v:Value} {xs:List α},OwnEnc enc e base w v xs→e≠23→OwnEnc enc e base w' v xs:=fun h1 hne=>h1.kept hg (fun k hk=>own_ne_type h1 h.m hne hk)
 refine ⟨hk h.f (by decide),hk h.r (by decide),?_,?_,?_⟩
 · rw[List.length_append];exact hown
 · refine OwnRows.snoc ⟨h.u.1,fun i u' xs hu' hx=>hk (h.u.2.1 i u' xs hu' hx) (by decide),h.u.2.2⟩ (hk ho (by decide)) hu
 · intro i u' hu'
   rw[List.getElem?_append] at hu'
   split at hu'
   · exact h.ap i u' hu'
   · have h0:i - us.length=0:=by have:=lt_of_get hu';simp at this;omega
     rw[h0] at hu'
     simp at hu'
     subst hu'
     exact hr
def RetPool (P:Pl) (w:World) (e:Ending) (w':World):Prop:=∃ (of or' om:Option Addr) (kf kr km:Nat) (us:List Value),e=.returned (.agg #[.slice of P.F.length kf,.slice or' P.R.length kr,.slice om P.M.length km])∧OwnP w.heap.size w' (.slice of P.F.length kf) (.slice or' P.R.length kr) (.slice om P.M.length km) us P∧Below w.heap.size w w'
def RetPoolB (P:Pl) (ok:Bool) (w:World) (e:Ending) (w':World):Prop:=∃ (of or' om:Option Addr) (kf kr km:Nat) (us:List Value),e=.returned (.tuple #[.agg #[.slice of P.F.length kf,.slice or' P.R.length kr,.slice om P.M.length km],.bool ok])∧OwnP w.heap.size w' (.slice of P.F.length kf) (.slice or' P.R.length kr) (.slice om P.M.length km) us P∧Below w.heap.size w w'
theorem one_slice (a:Option Addr) (n k:Nat):∀ u∈[Value.slice a n k],u.oneCell'=true:=by
 intro u hu
 simp at hu
 subst hu
 rfl
theorem step_append_own {P:Program} {ops:Array Oper} {w:World} {o:Oper} {a:Act} {K:Act→World→Prop} {Q:Exit→Act→World→Prop} {E:Prop} (hgd:o.guard=none) (s x:Operand) (t:TypeId)
    (ho:o.op=.call { callee:=.builtin .append,args:=#[s,x],argTypes:=#[t,t] })
    (base:Nat) (e:TypeId) (i:TypeInfo) (z:Value) (size bytes:Nat) (ht:P.underlying t=some (.slice e)) (hi:P.info? e=some i) (hz:i.zero=some z)
    (hsize:i.size=size) (hby:i.bytes=bytes) (hzs:z.cells.size=size) (hsz:0<size)
    (v:Value) (n:Nat) (xs:List Value) (hs:a.eval s=v) (hown:w.ownsRow base e size v n xs)
    (ad:Addr) (m c:Nat) (news:List Value) (hx:a.eval x=.slice (some ad) m c) (hl:news.length=m*size) (hnews:∀ j u,news[j]?=some u→w.cell? (ad.add j)=some u) (h1:∀ u∈news,u.oneCell'=true)
    (h63:n+m≤maxLen) (hbytes:(n+m)*bytes≤140737488355328) (hbase:base≤w.heap.size)
    (h:∀ v' w',w'.ownsRow base e size v' (n+m) (xs++news)→w.grownBy w' v.ownBlock→(v'=.slice none 0 0↔v=.slice none 0 0∧m=0)→K (a.put o.dst v') w'):if Region.wanted o (yielded ops a.tmps)=true then Oper.wp P o a w K Q else E:=by
 have hw:Region.wanted o (yielded ops a.tmps)=true:=by simp [Region.wanted,hgd]
 rw[if_pos hw]
 exact wp_append_own w s x t ho base e i z size bytes ht hi hz hsize hby hzs hsz v n xs hs hown ad m c news hx hl hnews h1 h63 hbytes hbase h
theorem below_grown {B:Nat} {w W w2:World} {base:Nat} {e:TypeId} {size n:Nat} {v:Value} {xs:List Value} (hB:Below B w W) (hown:W.ownsRow base e size v n xs) (hg:W.grownBy w2 v.ownBlock) (hb:B≤base) (hs:B≤W.heap.size):Below B w w2:=hB.grown hg hs (fun k hk=>Nat.le_trans hb (hown.lt k hk).1)
theorem HasBlock.under {w w':World} {b base:Nat} {cs:Array Value} {T:TypeId} (h:HasBlock w b cs T) (hb:Below base w w') (hlt:b<base):HasBlock w' b cs T:=(hb.block b hlt).trans h
theorem OwnEnc.formN {α:Type} {enc:α→Value} {e:TypeId} {base n:Nat} {w:World} {v:Value} {xs:List α} (h:OwnEnc enc e base w v xs) (hn:xs.length=n):∃ (ao:Option Addr) (cap:Nat),v=.slice ao n cap∧n≤cap∧cap≤9223372036854775807:=by
 subst hn
 exact h.form
theorem own_form' {w:World} {base:Nat} {e:TypeId} {size n:Nat} {v:Value} {xs:List Value} (h:w.ownsRow base e size v n xs):∃ (o:Option Addr) (cap:Nat),v=.slice o n cap∧n≤cap∧cap≤9223372036854775807:=by
 rcases h.2 with ⟨rfl,h0⟩|⟨g,cap,cur,rfl,_,_,hn,hm,_⟩
 · subst h0
   exact⟨none,0,rfl,nlr _,by omega⟩
 · exact⟨_,cap,rfl,hn,by unfold maxLen at hm;omega⟩
theorem own_off {base B:Nat} {e:TypeId} {size n:Nat} {w:World} {v:Value} {xs:List Value} {cs:Array Value} {T:TypeId} (h:w.ownsRow base e size v n xs) (hB:HasBlock w B cs T) (hne:T≠e):v.ownBlock≠some B:=by
 intro hv
 rcases h.2 with ⟨rfl,_⟩|⟨g,cap,cur,rfl,_,hg,_⟩
 · cases hv
 · injection hv with hv
   subst hv
   unfold HasBlock at hB
   rw[hB] at hg
   injection hg with hg
   injection hg with _ hg
   exact hne hg
theorem OwnP.setbox {base B j:Nat} {w:World} {vf vr vm:Value} {us:List Value} {P:Pl} {cs:Array Value} {T:TypeId} (h:OwnP base w vf vr vm us P) (hB:HasBlock w B cs T) (h1:T≠9) (h2:T≠3) (h3:T≠23) (x:Value):OwnP base (w.setCell ⟨B,j,none⟩ x) vf vr vm us P :=
 ⟨h.f.setoff (own_off h.f hB h1) x,h.r.setoff (own_off h.r hB h2) x,owns_setne h.m (own_off h.m hB h3) x,⟨h.u.1,fun i u xs hu hx=>by
   have:=h.u.2.1 i u xs hu hx
   exact this.setoff (own_off this hB h2) x,h.u.2.2⟩,h.ap⟩
theorem own_nil {base:Nat} {w:World} {e:TypeId} {size:Nat}:w.ownsRow base e size (.slice none 0 0) 0 []:=World.ownsRow_nil _ _ _ _
theorem ret_pool {P:Pl} {w w':World} {of or' om:Option Addr} {kf kr km n r m:Nat} {us:List Value} (hn:P.F.length=n) (hr:P.R.length=r) (hm:P.M.length=m) (h:OwnP w.heap.size w' (.slice of n kf) (.slice or' r kr) (.slice om m km) us P) (hb:Below w.heap.size w w'):RetPool P w (.returned (.agg #[.slice of n kf,.slice or' r kr,.slice om m km])) w':=by
 subst hn hr hm
 exact⟨_,_,_,_,_,_,_,rfl,h,hb⟩
theorem PlRow.form {w:World} {v:Value} {P:Pl} (h:PlRow w v P):∃ (of or' om:Option Addr) (kf kr km:Nat),v=.agg #[.slice of P.F.length kf,.slice or' P.R.length kr,.slice om P.M.length km]∧P.F.length≤kf∧kf≤9223372036854775807∧P.R.length≤kr∧kr≤9223372036854775807∧P.M.length≤km∧km≤9223372036854775807:=by
 obtain⟨vf,vr,vm,rfl,h1,h2,us,h3,h4,h5⟩:=h
 obtain⟨of,kf,rfl,f1,f2,_⟩:=h1.out
 obtain⟨or',kr,rfl,r1,r2,_⟩:=h2.out
 obtain⟨om,km,rfl,m1,m2,_⟩:=h3
 unfold maxLen at f2 r2 m2
 exact⟨of,or',om,kf,kr,km,rfl,f1,f2,r1,r2,m1,m2⟩
set_option maxRecDepth 100000 in
set_option maxHeartbeats 2000000 in
theorem pclone_any (v:Value) (P:Pl) (w:World) (h:PlRow w v P) (hs:P.small):Calls Tryz.prog 76 #[v] w (RetPool P w):=by
 obtain⟨of,or',om,kf,kr,km,rfl,kf1,kf2,kr1,kr2,km1,km2⟩:=h.form
 obtain⟨n,hn⟩:∃ n,P.F.length=n:=⟨_,rfl⟩
 obtain⟨r,hr⟩:∃ n,P.R.length=n:=⟨_,rfl⟩
 obtain⟨m,hm⟩:∃ n,P.M.length=n:=⟨_,rfl⟩
 rw[hn] at h kf1 ⊢
 rw[hr] at h kr1 ⊢
 rw[hm] at h km1 ⊢
 have HN:=lh hn;clear hn
 have HR:=lh hr;clear hr
 have HM:=lh hm;clear hm
 obtain⟨s1,s2,s3,s4⟩:=hs
 rw[HN.out] at s1
 rw[HR.out] at s2
 rw[HM.out] at s3
 obtain⟨h1,h2,us,h3,h4,h5⟩:=h.parts
 obtain⟨om',km',e0,_,_,h3⟩:=h3
 injection e0 with e0 e9 e1
 clear e9
 subst e0 e1
 rw[HM.out] at h4
 have HF:=lh h1;clear h1
 have HI:=lh h2;clear h2
 have H4:=lh h4;clear h4
 have H5:=lh h5;clear h5
 have H3:=lh h3;clear h3
 have H:=lh s4;clear s4 h
 have D1:=((HasBlock.made w #[.slice of n kf,.slice or' r kr,.slice om m km] 26).alloc (.cells #[.slice none 0 0,.slice none 0 0,.slice none 0 0] 26)).alloc (.cells #[.slice none 0 0,.slice none 0 0,.slice none 0 0] 26)
 have D2:=(HasBlock.made (w.alloc (.cells #[.slice of n kf,.slice or' r kr,.slice om m km] 26)) #[.slice none 0 0,.slice none 0 0,.slice none 0 0] 26).alloc (.cells #[.slice none 0 0,.slice none 0 0,.slice none 0 0] 26)
 have D3:=HasBlock.made ((w.alloc (.cells #[.slice of n kf,.slice or' r kr,.slice om m km] 26)).alloc (.cells #[.slice none 0 0,.slice none 0 0,.slice none 0 0] 26)) #[.slice none 0 0,.slice none 0 0,.slice none 0 0] 26
 have hbw:Below w.heap.size w (((w.alloc (.cells #[.slice of n kf,.slice or' r kr,.slice om m km] 26)).alloc (.cells #[.slice none 0 0,.slice none 0 0,.slice none 0 0] 26)).alloc (.cells #[.slice none 0 0,.slice none 0 0,.slice none 0 0] 26)):=bel
 simp only[sizes] at D2 D3
 have hz:w.heap.size+1+1+1≤(((w.alloc (.cells #[.slice of n kf,.slice or' r kr,.slice om m km] 26)).alloc (.cells #[.slice none 0 0,.slice none 0 0,.slice none 0 0] 26)).alloc (.cells #[.slice none 0 0,.slice none 0 0,.slice none 0 0] 26)).heap.size:=by simp only[sizes];omega
 go_enter Tryz.func76,Tryz.ntmps76
 go_wp2_with fail
 with_reducible refine (clone_str _ P.F _ (HF.out.below hbw) (by rw[HN.out];omega)).mono ?_
 rintro e w1 ⟨v1,rfl,o1,hb1⟩
 simp only[sizes] at o1
 replace D1:=D1.below hb1
 replace D2:=D2.below hb1
 replace D3:=D3.below hb1
 replace hbw:=hbw.trans (hb1.mono hbw.size)
 replace hz:=Nat.le_trans hz hb1.size
 clear hb1
 obtain⟨of1,kf1',rfl,_,_⟩:=o1.form
 rw[HN.out] at o1 ⊢
 obtain⟨D1_c,D1_f,D1_z⟩:=D1.all
 obtain⟨D2_c,D2_f,D2_z⟩:=D2.all
 obtain⟨D3_c,D3_f,D3_z⟩:=D3.all
 go_wp2_with fail
 clear D1_c D1_f D1_z
 clear D2_c D2_f D2_z
 clear D3_c D3_f D3_z
 replace D3:=D3.put3_0 (.slice of1 n kf1')
 replace D1:=D1.set_ne (b':=w.heap.size+1+1) (j:=0) (by omega) (.slice of1 n kf1')
 replace D2:=D2.set_ne (b':=w.heap.size+1+1) (j:=0) (by omega) (.slice of1 n kf1')
 replace o1:=o1.setlow (b:=w.heap.size+1+1) (j:=0) (by omega) (.slice of1 n kf1')
 replace hbw:=hbw.setCell (p:=⟨w.heap.size+1+1,0,none⟩) (by dsimp only;omega) (.slice of1 n kf1')
 generalize hW:World.setCell w1 ⟨w.heap.size+1+1,0,none⟩ (.slice of1 n kf1')=w2 at D1 D2 D3 o1 hbw ⊢
 replace hz:=Nat.le_trans hz (Nat.le_of_eq ((World.size_setCell w1 ⟨w.heap.size+1+1,0,none⟩ (.slice of1 n kf1')).symm.trans (congrArg (fun x:World=>x.heap.size) hW)))
 clear hW
 with_reducible refine (clone_num _ P.R _ (HI.out.below hbw) (by rw[HR.out];omega)).mono ?_
 rintro e w3 ⟨v3,rfl,o3,hb3⟩
 replace o3:=o3.lower (base':=w.heap.size+1+1+1) hz
 replace D1:=D1.below hb3
 replace D2:=D2.below hb3
 replace D3:=D3.below hb3
 replace o1:=o1.below hb3
 replace hbw:=hbw.trans (hb3.mono hbw.size)
 replace hz:=Nat.le_trans hz hb3.size
 clear hb3
 obtain⟨or1,kr1',rfl,_,_⟩:=o3.form
 rw[HR.out] at o3 ⊢
 obtain⟨D1_c,D1_f,D1_z⟩:=D1.all
 obtain⟨D2_c,D2_f,D2_z⟩:=D2.all
 obtain⟨D3_c,D3_f,D3_z⟩:=D3.all
 go_wp2_with fail
 clear D1_c D1_f D1_z
 clear D2_c D2_f D2_z
 clear D3_c D3_f D3_z
 replace D3:=D3.put3_1 (.slice or1 r kr1')
 replace D1:=D1.set_ne (b':=w.heap.size+1+1) (j:=1) (by omega) (.slice or1 r kr1')
 replace D2:=D2.set_ne (b':=w.heap.size+1+1) (j:=1) (by omega) (.slice or1 r kr1')
 replace o1:=o1.setlow (b:=w.heap.size+1+1) (j:=1) (by omega) (.slice or1 r kr1')
 replace o3:=o3.setlow (b:=w.heap.size+1+1) (j:=1) (by omega) (.slice or1 r kr1')
 replace hbw:=hbw.setCell (p:=⟨w.heap.size+1+1,1,none⟩) (by dsimp only;omega) (.slice or1 r kr1')
 generalize hW:World.setCell w3 ⟨w.heap.size+1+1,1,none⟩ (.slice or1 r kr1')=w4 at D1 D2 D3 o1 o3 hbw ⊢
 replace hz:=Nat.le_trans hz (Nat.le_of_eq ((World.size_setCell w3 ⟨w.heap.size+1+1,1,none⟩ (.slice or1 r kr1')).symm.trans (congrArg (fun x:World=>x.heap.size) hW)))
 clear hW
 have hap:=apart_lt (v:=.slice or1 r kr1') (B:=w4.heap.size) (fun k hk=>(World.ownsRow.lt o3.raw k hk).2) (u:=.slice none 0 0) (fun k hk=>by cases hk)
 have HO:OwnP (w.heap.size+1+1+1) w4 (.slice of1 n kf1') (.slice or1 r kr1') (.slice none 0 0) [] ⟨P.F,P.R,P.M.take 0⟩:=⟨o1,o3,own_nil,OwnRows.nil _ _,fun i u hu=>by simp at hu⟩
 clear hap o1 o3
 go_loopw [17] (fun iv wr=>∃ (i:Nat) (o:Option Addr) (cp:Nat) (us':List Value),i≤m∧iv=.int .i64 i∧i≤cp∧cp≤9223372036854775807∧HasBlock wr w.heap.size #[.slice of n kf,.slice or' r kr,.slice om m km] 26∧HasBlock wr (w.heap.size+1) #[.slice none 0 0,.slice none 0 0,.slice none 0 0] 26∧HasBlock wr (w.heap.size+1+1) #[.slice of1 n kf1',.slice or1 r kr1',.slice o i cp] 26∧OwnP (w.heap.size+1+1+1) wr (.slice of1 n kf1') (.slice or1 r kr1') (.slice o i cp) us' ⟨P.F,P.R,P.M.take i⟩∧Below w.heap.size w wr∧w.heap.size+1+1+1≤wr.heap.size) (fun iv _=>m - (intOf iv).toNat)
 case atStart=>exact⟨0,none,0,[],Nat.zero_le _,rfl,nlr _,by omega,D1,D2,D3,HO,hbw,hz⟩
 case round =>
  clear D1 D2 D3 HO hbw hz
  obtain⟨i,o,cp,us',hi,rfl,hc1,hc2,D1,D2,D3,HO,hbw,hz⟩:=hrel
  by_cases hlt:i<m
  · obtain⟨l,hl⟩:=get_lt (xs:=P.M) (k:=i) (by rw[HM.out];exact hlt)
    obtain⟨u,hu⟩:=get_lt (xs:=us) (k:=i) (by rw[H4.out];exact hlt)
    have hrow:=H5.out i u l hu hl
    have hll:=H.out l (List.mem_of_getElem? hl)
    obtain⟨mb,moff,rfl,hmb,hmc⟩:=H3.out.resolve_left (by intro e;rw[e] at hu;simp at hu)
    have cm:=(hbw.cell (p:=⟨mb,moff+i,none⟩) hmb).trans (hmc i _ hu)
    obtain⟨uo,uc,rfl,d1,d2,_⟩:=hrow.out
    have HROW:=lh hrow
    obtain⟨q,hq⟩:∃ q,l.length=q:=⟨_,rfl⟩
    rw[hq] at hu cm HROW hll
    have HQ:=lh hq;clear hq
    have HL:=lh hl;clear hl hu hmc hrow d1 d2
    obtain⟨i0,hi0,iz0,iz1,iz2⟩:=info_parts info_ints
    obtain⟨D1_c,D1_f,D1_z⟩:=D1.all
    obtain⟨D2_c,D2_f,D2_z⟩:=D2.all
    obtain⟨D3_c,D3_f,D3_z⟩:=D3.all
    go_wp2_with fail
    have htl:(P.M.take i).length=i:=by rw[List.length_take,HM.out];omega
    have HTL:=lh htl;clear htl
    have HOM:Hid (wr.ownsRow (w.heap.size+1+1+1) 23 1 (.slice o i cp) i us'):=by
     have h:=HO.m
     rw[HTL.out] at h
     exact h
    go_region_law (go_loud (first
     | (refine step_append_own rfl (.tmp 22) (.tmp 25) 24 rfl (w.heap.size+1+1+1) 23 i0 (.slice none 0 0) 1 24 Tryz.underlying24 hi0 iz0 iz1 iz2 rfl (by decide) (.slice o i cp) i us' rfl (HOM5.out.alloc _) ⟨_,0,none⟩ 1 1 [.slice uo5 q uk5] rfl rfl (cells_made _ [.slice uo5 q uk5] _ _ rfl) (one_slice _ _ _) (by unfold maxLen;omega) (by omega) (by simp only[sizes];omega) ?_
        intro v6 w6 hown6 hgrow6 _
        obtain⟨o6,c6,rfl,hc61,hc62⟩:=own_form' hown6
        have hbg:=below_grown (w:=w5) (B:=w.heap.size+1+1+1) ((Below.refl _ _).alloc (by omega) (.cells #[.slice uo5 q uk5] 23)) (HOM5.out.alloc _) hgrow6 (nlr _) (by simp only[sizes];omega)
        have HO6:=(HO5.alloc (.cells #[.slice uo5 q uk5] 23)).push (l:=l) (O5.alloc _) hr5 hu5 (by rw[HTL.out];exact hown6) hgrow6
        have F1:=E1.under hbg (by omega)
        have F2:=E2.under hbg (by omega)
        have F3:=E3.under hbg (by omega)
        have hbw6:Below w.heap.size w w6:=hbw5.trans (hbg.mono (by omega))
        have hz6:w.heap.size+1+1+1≤w6.heap.size:=Nat.le_trans hz5 hbg.size
        clear hbg
        obtain⟨F3_c,F3_f,F3_z⟩:=F3.all)
     | (go_simp;go_at_call 74
        with_reducible refine (clone_num _ l _ (HROW.out.below ((hbw.drew))) (by rw[HQ.out];omega)).mono ?_
        rintro _ w5 ⟨v5,rfl,o5,hb5⟩
        obtain⟨uo5,uk5,rfl,_,_⟩:=o5.formN HQ.out
        have HB5:Below wr.heap.size wr w5:=(Below.drew (Below.refl _ wr)).trans hb5
        clear hb5
        have E1:=D1.below HB5
        have E2:=D2.below HB5
        have E3:=D3.below HB5
        have HO5:=HO.below HB5
        have hz5:w.heap.size+1+1+1≤w5.heap.size:=Nat.le_trans hz HB5.size
        have hbw5:Below w.heap.size w w5:=hbw.trans (HB5.mono hbw.size)
        have HOM5:Hid (w5.ownsRow (w.heap.size+1+1+1) 23 1 (.slice o i cp) i us'):=lh (owns_below HOM.out HB5)
        have hr5:Apart (.slice or1 r kr1') (.slice uo5 q uk5):=apart_lt (B:=wr.heap.size) (fun k hk=>(World.ownsRow.lt HO.r.raw k hk).2) (fun k hk=>(World.ownsRow.lt o5.raw k hk).1)
        have hu5:∀ (j:Nat) (u':Value),us'[j]?=some u'→Apart u' (.slice uo5 q uk5):=fun j u' hj=>apart_lt (B:=wr.heap.size) (fun k hk=>by
         obtain⟨xs,hxs⟩:=get_lt (xs:=P.M.take i) (k:=j) (by rw[←HO.u.1];exact lt_of_get hj)
         exact (World.ownsRow.lt (HO.u.2.1 j u' xs hj hxs).raw k hk).2) (fun k hk=>(World.ownsRow.lt o5.raw k hk).1)
        have O5:=OwnEnc.lower (base':=w.heap.size+1+1+1) o5 hz
        clear o5
        obtain⟨E3_c,E3_f,E3_z⟩:=E3.all)))
    all_goals
     go_wp2_with fail
     go_roundw
     case rel =>
      refine ⟨i+1,o6,c6,us'++[.slice uo5 q uk5],by omega,by go_num,hc61,hc62,F1.set_ne (by omega) _,F2.set_ne (by omega) _,F3.put3_2 _,?_,hbw6.setCell (by dsimp only;omega) _,by rw[World.size_setCell];exact hz6⟩
      have h:=HO6.setlow (b:=w.heap.size+1+1) (j:=2) (by omega) (.slice o6 (i+1) c6)
      rw[List.take_add_one,HL.out]
      exact h
     case measure=>simp [intOf];omega
  · obtain rfl:i=m:=by omega
    have hall:P.M.take i=P.M:=by rw[←HM.out];exact List.take_length
    rw[hall] at HO
    clear hall
    obtain⟨D1_c,D1_f,D1_z⟩:=D1.all
    obtain⟨D2_c,D2_f,D2_z⟩:=D2.all
    obtain⟨D3_c,D3_f,D3_z⟩:=D3.all
    go_wp2_with fail
    refine bodyPost_ret (v:=.agg #[.slice of1 n kf1',.slice or1 r kr1',.slice o i cp]) (by simp [results,Tryz.results76,go_sem,D2_c]) rfl ?_
    have HOE:=((HO.setlow (b:=w.heap.size+1) (j:=0) (by omega) (.slice of1 n kf1')).setlow (b:=w.heap.size+1) (j:=1) (by omega) (.slice or1 r kr1')).setlow (b:=w.heap.size+1) (j:=2) (by omega) (.slice o i cp)
    have hbe:=((hbw.setCell (p:=⟨w.heap.size+1,0,none⟩) (by dsimp only;omega) (.slice of1 n kf1')).setCell (p:=⟨w.heap.size+1,1,none⟩) (by dsimp only;omega) (.slice or1 r kr1')).setCell (p:=⟨w.heap.size+1,2,none⟩) (by dsimp only;omega) (.slice o i cp)
    have h2:=HN.out
    have h3:=HR.out
    have h4':=HM.out
    exact ret_pool h2 h3 h4' (HOE.lower (by omega)) hbe
def RetGive (base top:Nat) (vf vr vm:Value) (us:List Value) (P:Pl) (w:World) (e:Ending) (w':World):Prop:=e=.returned (.tuple #[])∧OwnP base w' vf vr vm us P∧Between base top w w'
set_option maxHeartbeats 2000000 in
theorem give_any (base top:Nat) (vf vr vm:Value) (us:List Value) (P:Pl) (g p:Nat) (w:World) (h:OwnP base w vf vr vm us P) (hlt:LtP top vf vr us) (his:P.is g p=true) (hf:P.fr g p<P.F.length) (hRF:P.R.length=P.F.length) (hr : -1000000≤P.ref (P.fr g p).toNat∧P.ref (P.fr g p).toNat≤1000000):Calls Tryz.prog 84 #[.agg #[vf,vr,vm],.int .i64 g,.int .i64 p] w (RetGive base top vf vr vm us (P.giveUp g p) w):=by
 obtain⟨l,f,hl,hpl⟩:=Pl.is_at his
 have hfr:=Pl.fr_eq hl hpl
 have hll:=lt_of_get hl
 have hpp:=lt_of_get hpl
 obtain⟨bm,km,bu,ku,rfl,hus,c1,c2,c3,k1,k2,k3,k4,k5⟩:=h.page hl hpl
 obtain⟨of,kf,rfl,kf1,kf2⟩:=h.f.form
 obtain⟨or',kr,rfl,kr1,kr2⟩:=h.r.form
 have H:=h.alloc (.cells #[.slice of P.F.length kf,.slice or' P.R.length kr,.slice (some ⟨bm,0,none⟩) P.M.length km] 26)
 have hbw:Between base top w (w.alloc (.cells #[.slice of P.F.length kf,.slice or' P.R.length kr,.slice (some ⟨bm,0,none⟩) P.M.length km] 26)):=(Between.refl _ _ _).alloc _
 have lu:=hlt.u g _ hus bu rfl
 rw[hfr] at hf hr
 have hgive:P.giveUp g p=if f<0 then P else if P.ref f.toNat - 1=0 then (((P.setM g p (-1)).setR f.toNat (P.ref f.toNat - 1)).setF f.toNat ⟨#[]⟩) else ((P.setM g p (-1)).setR f.toNat (P.ref f.toNat - 1)):=by unfold Pl.giveUp;rw[hfr]
 have hrl:=lh hRF
 have hfF:f<0∨f.toNat<P.F.length:=by omega
 have hfR:f<0∨f.toNat<P.R.length:=by rw[hRF];exact hfF
 have n1:w.heap.size≠bm:=Nat.ne_of_gt k2
 have n2:w.heap.size≠bu:=Nat.ne_of_gt k4
 have HG:=lh hgive;clear hgive hfr hRF
 have HL:=lh hl;clear hl
 have HP:=lh hpl;clear hpl
 have HU:=lh hus;clear hus
 have gi:(g:Int)<(P.M.length:Int):=by omega
 have pi:(p:Int)<(l.length:Int):=by omega
 by_cases hneg:f<0
 · clear hfF hfR
   go_enter Tryz.func84,Tryz.ntmps84
   go_wp2_with fail
   refine bodyPost_ret (results_none rfl _ _ _) rfl ?_
   exact⟨rfl,by rw[HG.out,if_pos hneg];exact H,hbw⟩
 · obtain⟨j,rfl⟩:∃ j:Nat,f=j:=⟨f.toNat,by omega⟩
   rw[Int.toNat_natCast] at *
   have hjF:j<P.F.length:=hfF.resolve_left hneg
   have hjR:j<P.R.length:=hfR.resolve_left hneg
   obtain⟨gf,rfl,f1,f2⟩:=h.f.addr rfl (by omega)
   obtain⟨gr,rfl,r1,r2⟩:=h.r.addr rfl (by omega)
   have lf:=hlt.f gf rfl
   have lr:=hlt.r gr rfl
   obtain⟨s,hs⟩:=get_lt hjF
   obtain⟨x,hx⟩:=get_lt hjR
   obtain⟨sf1,sf2⟩:=h.f.at hs
   obtain⟨sr1,sr2⟩:=h.r.at hx
   have hrx:P.ref j=x:=by unfold Pl.ref;rw[hx];rfl
   rw[hrx] at hr HG
   have n3:gr≠bu:=fun e=>h.ap g _ HU.out gr rfl (by rw[e];rfl)
   have n4:gr≠bm:=fun e=>own_ne_type h.r h.m (by decide) (k:=gr) rfl (by rw[e];rfl)
   have n5:gf≠bu:=fun e=>own_ne_type h.f (h.u.2.1 g _ l HU.out HL.out) (by decide) (k:=gf) rfl (by rw[e];rfl)
   have n6:gf≠gr:=fun e=>own_ne_type h.f h.r (by decide) (k:=gf) rfl (by rw[e];rfl)
   have n7:w.heap.size≠gr:=Nat.ne_of_gt r2
   have HXS:=lh hs
   have HXR:=lh hx
   clear hs hx hrx hfF hfR hneg
   by_cases hx0:x - 1=0
   · have e1:(x - 1 == 0)=true:=by rw[beq_iff_eq];exact hx0
     rw[if_neg (by omega),if_pos hx0] at HG
     clear hx0
     go_enter Tryz.func84,Tryz.ntmps84
     go_wp2_with fail
     go_end0
     exact⟨rfl,by rw[HG.out];exact (((h.putM HU.out p (-1)).putR j (x - 1)).putF j _).alloc _,((((Between.refl _ _ _).setCell k3 lu _).setCell r1 lr _).setCell f1 lf _).alloc _⟩
   · have e1:(x - 1 == 0)=false:=by rw[beq_eq_false_iff_ne];exact hx0
     rw[if_neg (by omega),if_neg hx0] at HG
     clear hx0
     go_enter Tryz.func84,Tryz.ntmps84
     go_wp2_with fail
     go_end0
     exact⟨rfl,by rw[HG.out];exact ((h.putM HU.out p (-1)).putR j (x - 1)).alloc _,(((Between.refl _ _ _).setCell k3 lu _).setCell r1 lr _).alloc _⟩
set_option maxHeartbeats 2000000 in
theorem leave_any (base top:Nat) (vf vr vm:Value) (us:List Value) (P:Pl) (g p:Nat) (w:World) (h:OwnP base w vf vr vm us P) (hlt:LtP top vf vr us) (his:P.is g p=true) (hf:P.fr g p<P.F.length) (hRF:P.R.length=P.F.length) (hr : -1000000≤P.ref (P.fr g p).toNat∧P.ref (P.fr g p).toNat≤1000000):Calls Tryz.prog 91 #[.agg #[vf,vr,vm],.int .i64 g,.int .i64 p] w (RetGive base top vf vr vm us (P.giveUp g p) w):=by
 obtain⟨l,f,hl,hpl⟩:=Pl.is_at his
 have hfr:=Pl.fr_eq hl hpl
 have hll:=lt_of_get hl
 have hpp:=lt_of_get hpl
 obtain⟨bm,km,bu,ku,rfl,hus,c1,c2,c3,k1,k2,k3,k4,k5⟩:=h.page hl hpl
 obtain⟨of,kf,rfl,kf1,kf2⟩:=h.f.form
 obtain⟨or',kr,rfl,kr1,kr2⟩:=h.r.form
 have H:=h.alloc (.cells #[.slice of P.F.length kf,.slice or' P.R.length kr,.slice (some ⟨bm,0,none⟩) P.M.length km] 26)
 have hbw:Between base top w (w.alloc (.cells #[.slice of P.F.length kf,.slice or' P.R.length kr,.slice (some ⟨bm,0,none⟩) P.M.length km] 26)):=(Between.refl _ _ _).alloc _
 have lu:=hlt.u g _ hus bu rfl
 rw[hfr] at hf hr
 have hgive:P.giveUp g p=if f<0 then P else if P.ref f.toNat - 1=0 then (((P.setM g p (-1)).setR f.toNat (P.ref f.toNat - 1)).setF f.toNat ⟨#[]⟩) else ((P.setM g p (-1)).setR f.toNat (P.ref f.toNat - 1)):=by unfold Pl.giveUp;rw[hfr]
 have hrl:=lh hRF
 have hfF:f<0∨f.toNat<P.F.length:=by omega
 have hfR:f<0∨f.toNat<P.R.length:=by rw[hRF];exact hfF
 have n1:w.heap.size≠bm:=Nat.ne_of_gt k2
 have n2:w.heap.size≠bu:=Nat.ne_of_gt k4
 have HG:=lh hgive;clear hgive hfr hRF
 have HL:=lh hl;clear hl
 have HP:=lh hpl;clear hpl
 have HU:=lh hus;clear hus
 have gi:(g:Int)<(P.M.length:Int):=by omega
 have pi:(p:Int)<(l.length:Int):=by omega
 by_cases hneg:f<0
 · clear hfF hfR
   go_enter Tryz.func91,Tryz.ntmps91
   go_wp2_with fail
   refine bodyPost_ret (results_none rfl _ _ _) rfl ?_
   exact⟨rfl,by rw[HG.out,if_pos hneg];exact H,hbw⟩
 · obtain⟨j,rfl⟩:∃ j:Nat,f=j:=⟨f.toNat,by omega⟩
   rw[Int.toNat_natCast] at *
   have hjF:j<P.F.length:=hfF.resolve_left hneg
   have hjR:j<P.R.length:=hfR.resolve_left hneg
   obtain⟨gf,rfl,f1,f2⟩:=h.f.addr rfl (by omega)
   obtain⟨gr,rfl,r1,r2⟩:=h.r.addr rfl (by omega)
   have lf:=hlt.f gf rfl
   have lr:=hlt.r gr rfl
   obtain⟨s,hs⟩:=get_lt hjF
   obtain⟨x,hx⟩:=get_lt hjR
   obtain⟨sf1,sf2⟩:=h.f.at hs
   obtain⟨sr1,sr2⟩:=h.r.at hx
   have hrx:P.ref j=x:=by unfold Pl.ref;rw[hx];rfl
   rw[hrx] at hr HG
   have n3:gr≠bu:=fun e=>h.ap g _ HU.out gr rfl (by rw[e];rfl)
   have n4:gr≠bm:=fun e=>own_ne_type h.r h.m (by decide) (k:=gr) rfl (by rw[e];rfl)
   have n5:gf≠bu:=fun e=>own_ne_type h.f (h.u.2.1 g _ l HU.out HL.out) (by decide) (k:=gf) rfl (by rw[e];rfl)
   have n6:gf≠gr:=fun e=>own_ne_type h.f h.r (by decide) (k:=gf) rfl (by rw[e];rfl)
   have n7:w.heap.size≠gr:=Nat.ne_of_gt r2
   have HXS:=lh hs
   have HXR:=lh hx
   clear hs hx hrx hfF hfR hneg
   have hB:=h.putM HU.out p (-1)
   have hB2:=hB.alloc (.cells #[.slice (some ⟨gf,0,none⟩) P.F.length kf,.slice (some ⟨gr,0,none⟩) P.R.length kr,.slice (some ⟨bm,0,none⟩) P.M.length km] 26)
   have D:=HasBlock.made (w.setCell ⟨bu,p,none⟩ (.int .i64 (-1))) #[.slice (some ⟨gf,0,none⟩) P.F.length kf,.slice (some ⟨gr,0,none⟩) P.R.length kr,.slice (some ⟨bm,0,none⟩) P.M.length km] 26
   have hbw1:Between base top w ((w.setCell ⟨bu,p,none⟩ (.int .i64 (-1))).alloc (.cells #[.slice (some ⟨gf,0,none⟩) P.F.length kf,.slice (some ⟨gr,0,none⟩) P.R.length kr,.slice (some ⟨bm,0,none⟩) P.M.length km] 26)):=((Between.refl _ _ _).setCell k3 lu _).alloc _
   simp only[World.size_setCell] at D
   go_enter Tryz.func91,Tryz.ntmps91
   go_wp2_with fail
   refine wp_region_tail_below 10 (by kernel_rfl) (by kernel_rfl) ?_
   simp only[List.take_succ_cons,List.take_zero,List.drop_succ_cons,List.drop_zero]
   repeat (go_big_quiet_step (first|fail|fail))
   refine wpQuiet_nil ?_
   intro w3 hw3
   have hb3:=below_of_regrown hw3
   clear hw3
   obtain⟨hc3,hf3⟩:=bcell hb3
   have hz3:=bsize hb3
   try simp only[sizes1] at hz3
   try simp only[sizes] at hc3 hf3
   have H3:=hB2.below hb3
   have D3:=D.below hb3
   have hbw3:Between base top w w3:=hbw1.next hb3
   have hz3':w.heap.size+1≤w3.heap.size:=by have:=hb3.size;simp only[sizes] at this;exact this
   clear hc3 hf3 hz3 hb3 hB hB2 D hbw1 c1 c2 c3 sf1 sf2 sr1 sr2
   obtain⟨D_c,D_f,D_z⟩:=D3.all
   obtain⟨sf1,sf2⟩:=H3.f.at HXS.out
   obtain⟨sr1,sr2⟩:=H3.r.at HXR.out
   by_cases hx0:x - 1=0
   · have e1:(x - 1 == 0)=true:=by rw[beq_iff_eq];exact hx0
     rw[if_neg (by omega),if_pos hx0] at HG
     clear hx0
     go_wp2_with fail
     go_end0
     exact⟨rfl,by rw[HG.out];exact (H3.putR j (x - 1)).putF j _,(hbw3.setCell r1 lr _).setCell f1 lf _⟩
   · have e1:(x - 1 == 0)=false:=by rw[beq_eq_false_iff_ne];exact hx0
     rw[if_neg (by omega),if_neg hx0] at HG
     clear hx0
     go_wp2_with fail
     go_end0
     exact⟨rfl,by rw[HG.out];exact H3.putR j (x - 1),hbw3.setCell r1 lr _⟩
end Go.Proofs.YtbnngjhnkegliaaGreat
