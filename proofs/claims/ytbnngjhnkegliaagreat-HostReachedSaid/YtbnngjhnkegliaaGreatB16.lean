/-
  Texts joined: HrOwn PlRefOwn. No law is proved here.
-/
import Derived.Test.YtbnngjhnkegliaaGreatB15
namespace Go.Proofs.YtbnngjhnkegliaaGreat
open Go.RowKit
theorem owns_btw {w w':World} {base T:Nat} {e:TypeId} {size n:Nat} {v:Value} {xs:List Value} (h:w.ownsRow T e size v n xs) (hb:Between base T w w'):w'.ownsRow T e size v n xs:=by
 obtain⟨h1,h2⟩:=h
 refine ⟨h1,?_⟩
 rcases h2 with h2|⟨g,cap,cur,e1,e2,e3,h3⟩
 · exact .inl h2
 · have hg:g<w.heap.size:=(Array.getElem?_eq_some_iff.1 e3).1
   exact .inr ⟨g,cap,cur,e1,e2,(hb.block g hg (.inr e2)).trans e3,h3⟩
def emptyH (G:List Gm):Ho:=⟨⟨[],[],[]⟩,G,0,0,0⟩
abbrev OwnG (T:Nat) (w:World) (vg:Value) (gs:List Gv) (G:List Gm):Prop:=OwnH T w (.slice none 0 0) (.slice none 0 0) (.slice none 0 0) [] vg gs (emptyH G)
theorem own_pnil (T:Nat) (w:World):OwnP T w (.slice none 0 0) (.slice none 0 0) (.slice none 0 0) [] ⟨[],[],[]⟩:=⟨own_nil,own_nil,own_nil,OwnRows.nil _ _,fun i u hu=>by simp at hu⟩
theorem OwnH.at9 {base i j bG n c:Nat} {w:World} {vf vr vm:Value} {us:List Value} {gs:List Gv} {H:Ho} {g:Gm} {x:Gv} {u:Value} (h:OwnH base w vf vr vm us (.slice (some ⟨bG,0,none⟩) n c) gs H) (hg:H.G[i]?=some g) (hx:gs[i]?=some x) (hu:(gmCells g x)[j]?=some u):w.cell? ⟨bG,i*9+j,none⟩=some u:=by
 have hG:=h.g
 have hn:n=H.G.length:=by
  rcases hG.2 with ⟨e,_⟩|⟨_,_,_,e,_⟩
  · cases e
  · injection e
 subst hn
 have hj:j<9:=lt_of_get hu
 have hk:=lt_of_get hg
 rw[World.ownsRow.cellAt hG (i*9+j) (by omega),gmFlat_at hg hx hj]
 exact hu
theorem OwnH.frz9 {base j bG n c:Nat} {w:World} {vf vr vm:Value} {us:List Value} {gs:List Gv} {H:Ho} (h:OwnH base w vf vr vm us (.slice (some ⟨bG,0,none⟩) n c) gs H):w.frozen? ⟨bG,j,none⟩=false:=by
 have hG:=h.g
 have hn:n=H.G.length:=by
  rcases hG.2 with ⟨e,_⟩|⟨_,_,_,e,_⟩
  · cases e
  · injection e
 subst hn
 exact World.ownsRow.frozenAt hG j
theorem OwnG.btw {T base:Nat} {w w':World} {vg:Value} {gs:List Gv} {G:List Gm} (h:OwnG T w vg gs G) (hb:Between base T w w'):OwnG T w' vg gs G :=
 ⟨own_pnil T w',owns_btw h.g hb,h.l,fun i x g hx hg=>by
   obtain⟨a,b,c⟩:=h.r i x g hx hg
   exact⟨owns_btw a hb,owns_btw b hb,owns_btw c hb⟩,h.t⟩
structure OwnR (base T:Nat) (w:World) (vf vr vm:Value) (us:List Value) (vg:Value) (gs:List Gv) (H:Ho):Prop where
 p:OwnP base w vf vr vm us H.P
 lt:LtP T vf vr us
 le:base≤T
 g:OwnG T w vg gs H.G
theorem OwnR.own {base T:Nat} {w:World} {vf vr vm:Value} {us:List Value} {vg:Value} {gs:List Gv} {H:Ho} (h:OwnR base T w vf vr vm us vg gs H):OwnH base w vf vr vm us vg gs H:=by
 obtain⟨tag,_,t1⟩:=h.g.t
 refine ⟨h.p,owns_lower h.g.g h.le,h.g.l,fun i x g hx hg=>?_,fun k=>if k<T then 0 else tag k,fun k hk=>if_pos (h.lt.f k hk),fun i x hx=>?_⟩
 · obtain⟨a,b,c⟩:=h.g.r i x g hx hg
   exact⟨a.lower h.le,b.lower h.le,c.lower h.le⟩
 · obtain⟨g,hg⟩:=get_lt (xs:=H.G) (k:=i) (by have:=lt_of_get hx;have:=h.g.l;change gs.length=H.G.length at this;omega)
   obtain⟨a,b,c⟩:=h.g.r i x g hx hg
   obtain⟨a',b',c'⟩:=t1 i x hx
   exact⟨fun k hk=>by dsimp only;rw[if_neg (by have:=(World.ownsRow.lt a.raw k hk).1;omega)];exact a' k hk,fun k hk=>by dsimp only;rw[if_neg (by have:=(World.ownsRow.lt b.raw k hk).1;omega)];exact b' k hk,fun k hk=>by dsimp only;rw[if_neg (by have:=(World.ownsRow.lt c.raw k hk).1;omega)];exact c' k hk⟩
theorem OwnR.below {base T:Nat} {w w':World} {vf vr vm:Value} {us:List Value} {vg:Value} {gs:List Gv} {H:Ho} (h:OwnR base T w vf vr vm us vg gs H) (hb:Below w.heap.size w w'):OwnR base T w' vf vr vm us vg gs H:=⟨h.p.below hb,h.lt,h.le,h.g.below hb⟩
theorem OwnR.lower {base base' T:Nat} {w:World} {vf vr vm:Value} {us:List Value} {vg:Value} {gs:List Gv} {H:Ho} (h:OwnR base T w vf vr vm us vg gs H) (hb:base'≤base):OwnR base' T w vf vr vm us vg gs H:=⟨h.p.lower hb,h.lt,Nat.le_trans hb h.le,h.g⟩
theorem OwnR.setlow {base T b j:Nat} {w:World} {vf vr vm:Value} {us:List Value} {vg:Value} {gs:List Gv} {H:Ho} (h:OwnR base T w vf vr vm us vg gs H) (hb:b<base) (x:Value):OwnR base T (w.setCell ⟨b,j,none⟩ x) vf vr vm us vg gs H:=⟨h.p.setlow hb x,h.lt,h.le,h.g.setlow (Nat.lt_of_lt_of_le hb h.le) x⟩
theorem OwnR.fill7 {base T B:Nat} {w:World} {vf vr vm:Value} {us:List Value} {vg:Value} {gs:List Gv} {H:Ho} (h:OwnR base T w vf vr vm us vg gs H) (hB:B<base) (x0 x1 x2 x3 x4 x5 x6:Value):OwnR base T (((((((w.setCell ⟨B,0,none⟩ x0).setCell ⟨B,1,none⟩ x1).setCell ⟨B,2,none⟩ x2).setCell ⟨B,3,none⟩ x3).setCell ⟨B,4,none⟩ x4).setCell ⟨B,5,none⟩ x5).setCell ⟨B,6,none⟩ x6) vf vr vm us vg gs H :=
 ((((((h.setlow hB x0).setlow hB x1).setlow hB x2).setlow hB x3).setlow hB x4).setlow hB x5).setlow hB x6
theorem OwnR.pool {base T:Nat} {w w':World} {vf vr vm:Value} {us:List Value} {vg:Value} {gs:List Gv} {H:Ho} {P:Pl} (h:OwnR base T w vf vr vm us vg gs H) (hp:OwnP base w' vf vr vm us P) (hb:Between base T w w'):OwnR base T w' vf vr vm us vg gs (H.setP P):=⟨hp,h.lt,h.le,h.g.btw hb⟩
theorem OwnR.setUsed {base T B i bG n c:Nat} {w:World} {vf vr vm:Value} {us:List Value} {gs:List Gv} {H:Ho} {g:Gm} {x:Gv} {vu:Value} {u:List Bool} (h:OwnR base T w vf vr vm us (.slice (some ⟨bG,0,none⟩) n c) gs H) (hg:H.G[i]?=some g) (hx:gs[i]?=some x) (hlt:LtG B gs) (hu:OwnBool T w vu u) (hB:∀ k,vu.ownBlock=some k→B≤k):OwnR base T (w.setCell ⟨bG,i*9+6,none⟩ vu) vf vr vm us (.slice (some ⟨bG,0,none⟩) n c) (gs.set i { x with u:=vu }) (H.setG i { g with u:=u }) :=
 ⟨(h.own.setUsed hg hx hlt (hu.lower h.le) hB).p,h.lt,h.le,h.g.setUsed (H:=emptyH H.G) hg hx hlt hu hB⟩
theorem OwnR.setHand {base T i bG n c:Nat} {w:World} {vf vr vm:Value} {us:List Value} {gs:List Gv} {H:Ho} {g:Gm} {x:Gv} (h:OwnR base T w vf vr vm us (.slice (some ⟨bG,0,none⟩) n c) gs H) (hg:H.G[i]?=some g) (hx:gs[i]?=some x) (v:Int):OwnR base T (w.setCell ⟨bG,i*9+7,none⟩ (.int .i64 v)) vf vr vm us (.slice (some ⟨bG,0,none⟩) n c) gs (H.setG i { g with h:=v }) :=
 ⟨(h.own.setHand hg hx v).p,h.lt,h.le,h.g.setHand (H:=emptyH H.G) hg hx v⟩
theorem OwnR.putS {base T i b n c:Nat} {w:World} {vf vr vm:Value} {us:List Value} {vg:Value} {gs:List Gv} {H:Ho} {g:Gm} {x:Gv} (h:OwnR base T w vf vr vm us vg gs H) (hg:H.G[i]?=some g) (hx:gs[i]?=some x) (hs:x.s=.slice (some ⟨b,0,none⟩) n c) (k:Nat) (s:ByteArray):OwnR base T (w.setCell ⟨b,k,none⟩ (.string s)) vf vr vm us vg gs (H.setG i { g with s:=g.s.set k s }) :=
 ⟨(h.own.putS hg hx hs k s).p,h.lt,h.le,h.g.putS (H:=emptyH H.G) hg hx hs k s⟩
def HostAtR (base T B:Nat) (w:World) (H:Ho):Prop:=∃ (of or' om og:Option Addr) (kf kr km kg:Nat) (us:List Value) (gs:List Gv),HasBlock w B #[.slice of H.P.F.length kf,.slice or' H.P.R.length kr,.slice om H.P.M.length km,.slice og H.G.length kg,.int .i64 H.t,.int .u64 H.d,.int .i64 H.n] 30 ∧
 OwnR base T w (.slice of H.P.F.length kf) (.slice or' H.P.R.length kr) (.slice om H.P.M.length km) us (.slice og H.G.length kg) gs H
theorem HostAtR.mk {base T B n r m q:Nat} {w:World} {H:Ho} {of or' om og:Option Addr} {kf kr km kg:Nat} {us:List Value} {gs:List Gv} {t d s:Int} (h1:H.P.F.length=n) (h2:H.P.R.length=r) (h3:H.P.M.length=m) (h4:H.G.length=q) (ht:H.t=t) (hd:H.d=d) (hs:H.n=s) (D:HasBlock w B #[.slice of n kf,.slice or' r kr,.slice om m km,.slice og q kg,.int .i64 t,.int .u64 d,.int .i64 s] 30) (O:OwnR base T w (.slice of n kf) (.slice or' r kr) (.slice om m km) us (.slice og q kg) gs H):HostAtR base T B w H:=by
 subst h1 h2 h3 h4 ht hd hs
 exact⟨_,_,_,_,_,_,_,_,_,_,D,O⟩
theorem HostAtR.below {base T B:Nat} {w w':World} {H:Ho} (h:HostAtR base T B w H) (hb:Below w.heap.size w w'):HostAtR base T B w' H:=by
 obtain⟨of,or',om,og,kf,kr,km,kg,us,gs,D,O⟩:=h
 exact⟨of,or',om,og,kf,kr,km,kg,us,gs,D.below hb,O.below hb⟩
def RetHoR (k:Value→Value) (H:Ho) (w:World) (e:Ending) (w':World):Prop:=∃ (T:Nat) (of or' om og:Option Addr) (kf kr km kg:Nat) (us:List Value) (gs:List Gv),e=.returned (k (.agg #[.slice of H.P.F.length kf,.slice or' H.P.R.length kr,.slice om H.P.M.length km,.slice og H.G.length kg,.int .i64 H.t,.int .u64 H.d,.int .i64 H.n])) ∧
 OwnR w.heap.size T w' (.slice of H.P.F.length kf) (.slice or' H.P.R.length kr) (.slice om H.P.M.length km) us (.slice og H.G.length kg) gs H∧T≤w'.heap.size∧Below w.heap.size w w'
theorem horRet {k:Value→Value} {H:Ho} {base T n r m q:Nat} {w w':World} {of or' om og:Option Addr} {kf kr km kg:Nat} {us:List Value} {gs:List Gv} {t d s:Int} (h1:H.P.F.length=n) (h2:H.P.R.length=r) (h3:H.P.M.length=m) (h4:H.G.length=q) (ht:H.t=t) (hd:H.d=d) (hs:H.n=s) (h:OwnR base T w' (.slice of n kf) (.slice or' r kr) (.slice om m km) us (.slice og q kg) gs H) (hT:T≤w'.heap.size) (hb:Below w.heap.size w w') (hz:w.heap.size≤base:=by omega) :
    RetHoR k H w (.returned (k (.agg #[.slice of n kf,.slice or' r kr,.slice om m km,.slice og q kg,.int .i64 t,.int .u64 d,.int .i64 s]))) w':=by
 subst h1 h2 h3 h4 ht hd hs
 exact⟨T,_,_,_,_,_,_,_,_,_,_,rfl,h.lower hz,hT,hb⟩
def RetHoV (k:Value→Value) (H:Ho) (w:World) (e:Ending) (w':World):Prop:=∃ v,e=.returned (k v)∧HoAt w' v H∧Below w.heap.size w w'
theorem RetHoB.v {k:Value→Value} {H:Ho} {w w':World} {e:Ending} (h:RetHoB k H w e w'):RetHoV k H w e w':=by
 obtain⟨of,or',om,og,kf,kr,km,kg,us,gs,rfl,O,hb⟩:=h
 exact⟨_,rfl,O.at_,hb⟩
/-! a row of guests whose first ones have rows of their own -/
structure MineTo (T:Nat) (w:World) (vg:Value) (gs:List Gv) (G:List Gm) (i:Nat):Prop where
 g:w.ownsRow T 49 9 vg G.length (gmFlat G gs)
 l:gs.length=G.length
 r:∀ (j:Nat) (x:Gv) (g:Gm),j<i→gs[j]?=some x→G[j]?=some g→OwnStr T w x.s g.s∧OwnBool T w x.u g.u∧OwnBool T w x.e g.e
 t:∃ tag:Nat→Nat,∀ (j:Nat) (x:Gv),j<i→gs[j]?=some x→(∀ k,x.s.ownBlock=some k→tag k=3*j+1)∧(∀ k,x.u.ownBlock=some k→tag k=3*j+2)∧(∀ k,x.e.ownBlock=some k→tag k=3*j+3)
theorem MineTo.below {T:Nat} {w w':World} {vg:Value} {gs:List Gv} {G:List Gm} {i:Nat} (h:MineTo T w vg gs G i) (hb:Below w.heap.size w w'):MineTo T w' vg gs G i :=
 ⟨owns_below h.g hb,h.l,fun j x g hj hx hg=>by
   obtain⟨a,b,c⟩:=h.r j x g hj hx hg
   exact⟨a.below hb,b.below hb,c.below hb⟩,h.t⟩
theorem MineTo.put {T GB n c i j:Nat} {w:World} {gs:List Gv} {G:List Gm} {g:Gm} {x x':Gv} {v:Value} (h:MineTo T w (.slice (some ⟨GB,0,none⟩) n c) gs G i) (hg:G[i]?=some g) (hx:gs[i]?=some x) (hj:j<9) (hc:gmCells g x'=(gmCells g x).set j v):MineTo T (w.setCell ⟨GB,i*9+j,none⟩ v) (.slice (some ⟨GB,0,none⟩) n c) (gs.set i x') G i:=by
 have hG:=h.g
 have hn:n=G.length:=by
  rcases hG.2 with ⟨e,_⟩|⟨_,_,_,e,_⟩
  · cases e
  · injection e
 subst hn
 have hGs:G.set i g=G:=set_same hg
 refine ⟨?_,by rw[List.length_set];exact h.l,fun k y g2 hk hy hg2=>?_,?_⟩
 · have h1:=gmFlat_set h.l hg hx hj hc
   rw[hGs] at h1
   rw[h1]
   exact (World.ownsRow.stored hG (i*9+j) v).1
 · rw[List.getElem?_set,if_neg (by omega)] at hy
   obtain⟨a,b,c⟩:=h.r k y g2 hk hy hg2
   exact⟨a.setoff (own_ne_type hG a (by decide) rfl) _,b.setoff (own_ne_type hG b (by decide) rfl) _,c.setoff (own_ne_type hG c (by decide) rfl) _⟩
 · obtain⟨tag,t1⟩:=h.t
   refine ⟨tag,fun k y hk hy=>?_⟩
   rw[List.getElem?_set,if_neg (by omega)] at hy
   exact t1 k y hk hy
theorem MineTo.next {T B i:Nat} {w:World} {vg:Value} {gs:List Gv} {G:List Gm} {g:Gm} {x:Gv} (h:MineTo T w vg gs G i) (hg:G[i]?=some g) (hx:gs[i]?=some x) (hs:OwnStr T w x.s g.s) (hu:OwnBool T w x.u g.u) (he:OwnBool T w x.e g.e)
    (hlt:∀ (j:Nat) (y:Gv),j<i→gs[j]?=some y→(∀ k,y.s.ownBlock=some k→k<B)∧(∀ k,y.u.ownBlock=some k→k<B)∧(∀ k,y.e.ownBlock=some k→k<B))
    (b1:∀ k,x.s.ownBlock=some k→B≤k) (b2:∀ k,x.u.ownBlock=some k→B≤k) (b3:∀ k,x.e.ownBlock=some k→B≤k) (hne:∀ k,x.u.ownBlock=some k→x.e.ownBlock≠some k):MineTo T w vg gs G (i+1):=by
 obtain⟨tag,t1⟩:=h.t
 refine ⟨h.g,h.l,fun j y g2 hj hy hg2=>?_,fun k=>if B≤k then (if x.s.ownBlock=some k then 3*i+1 else if x.u.ownBlock=some k then 3*i+2 else 3*i+3) else tag k,fun j y hj hy=>?_⟩
 · by_cases e:j=i
   · subst e
     rw[hx] at hy
     rw[hg] at hg2
     injection hy with hy
     injection hg2 with hg2
     subst hy hg2
     exact⟨hs,hu,he⟩
   · exact h.r j y g2 (by omega) hy hg2
 · by_cases e:j=i
   · subst e
     rw[hx] at hy
     injection hy with hy
     subst hy
     refine ⟨fun k hk=>?_,fun k hk=>?_,fun k hk=>?_⟩
     · dsimp only
       rw[if_pos (b1 k hk),if_pos hk]
     · dsimp only
       rw[if_pos (b2 k hk),if_neg (own_ne_type hu hs (by decide) hk),if_pos hk]
     · dsimp only
       rw[if_pos (b3 k hk),if_neg (own_ne_type he hs (by decide) hk),if_neg (fun e=>hne k e hk)]
   · obtain⟨l1,l2,l3⟩:=hlt j y (by omega) hy
     obtain⟨c1,c2,c3⟩:=t1 j y (by omega) hy
     exact⟨fun k hk=>by dsimp only;rw[if_neg (by have:=l1 k hk;omega)];exact c1 k hk,fun k hk=>by dsimp only;rw[if_neg (by have:=l2 k hk;omega)];exact c2 k hk,fun k hk=>by dsimp only;rw[if_neg (by have:=l3 k hk;omega)];exact c3 k hk⟩
theorem OwnP.guestoff {base T GB n c m j:Nat} {w:World} {vf vr vm:Value} {us xs:List Value} {P:Pl} (h:OwnP base w vf vr vm us P) (hG:w.ownsRow T 49 9 (.slice (some ⟨GB,0,none⟩) n c) m xs) (v:Value):OwnP base (w.setCell ⟨GB,j,none⟩ v) vf vr vm us P :=
 ⟨h.f.setoff (own_ne_type hG h.f (by decide) rfl) _,h.r.setoff (own_ne_type hG h.r (by decide) rfl) _,owns_setne h.m (own_ne_type hG h.m (by decide) rfl) _,⟨h.u.1,fun i u xs hu hx=>by
   have:=h.u.2.1 i u xs hu hx
   exact this.setoff (own_ne_type hG this (by decide) rfl) _,h.u.2.2⟩,h.ap⟩
theorem set_get {α:Type} {xs:List α} {i:Nat} {x:α} (y:α) (h:xs[i]?=some x):(xs.set i y)[i]?=some y:=by rw[List.getElem?_set,if_pos rfl,if_pos (lt_of_get h)]
theorem MineTo.lt {T:Nat} {w:World} {vg:Value} {gs:List Gv} {G:List Gm} {i:Nat} (h:MineTo T w vg gs G i):∀ (j:Nat) (y:Gv),j<i→gs[j]?=some y→(∀ k,y.s.ownBlock=some k→k<w.heap.size)∧(∀ k,y.u.ownBlock=some k→k<w.heap.size)∧(∀ k,y.e.ownBlock=some k→k<w.heap.size):=fun j y hj hy=>by
 obtain⟨g,hg⟩:=get_lt (xs:=G) (k:=j) (by rw[←h.l];exact lt_of_get hy)
 obtain⟨a,b,c⟩:=h.r j y g hj hy hg
 exact⟨fun k hk=>(World.ownsRow.lt a.raw k hk).2,fun k hk=>(World.ownsRow.lt b.raw k hk).2,fun k hk=>(World.ownsRow.lt c.raw k hk).2⟩
theorem MineTo.at_ {T GB n c i k j:Nat} {w:World} {gs:List Gv} {G:List Gm} {g:Gm} {x:Gv} {u:Value} (h:MineTo T w (.slice (some ⟨GB,0,none⟩) n c) gs G i) (hg:G[k]?=some g) (hx:gs[k]?=some x) (hu:(gmCells g x)[j]?=some u):w.cell? ⟨GB,k*9+j,none⟩=some u:=by
 have hG:=h.g
 have hn:n=G.length:=by
  rcases hG.2 with ⟨e,_⟩|⟨_,_,_,e,_⟩
  · cases e
  · injection e
 subst hn
 have hj:j<9:=lt_of_get hu
 have hk:=lt_of_get hg
 rw[World.ownsRow.cellAt hG (k*9+j) (by omega),gmFlat_at hg hx hj]
 exact hu
theorem MineTo.frz {T GB n c i j:Nat} {w:World} {gs:List Gv} {G:List Gm} (h:MineTo T w (.slice (some ⟨GB,0,none⟩) n c) gs G i):w.frozen? ⟨GB,j,none⟩=false:=by
 have hG:=h.g
 have hn:n=G.length:=by
  rcases hG.2 with ⟨e,_⟩|⟨_,_,_,e,_⟩
  · cases e
  · injection e
 subst hn
 exact World.ownsRow.frozenAt hG j
theorem MineTo.addr {T n c i:Nat} {w:World} {o:Option Addr} {gs:List Gv} {G:List Gm} (h:MineTo T w (.slice o n c) gs G i) (hn:0<n):∃ GB,o=some ⟨GB,0,none⟩∧T≤GB∧GB<w.heap.size:=by
 rcases h.g.2 with ⟨e,_⟩|⟨GB,cap,cur,e,b1,b2,_⟩
 · injection e
   omega
 · injection e with e
   exact⟨GB,e,b1,(Array.getElem?_eq_some_iff.1 b2).1⟩
theorem MineTo.done {T:Nat} {w:World} {vg:Value} {gs:List Gv} {G:List Gm} (h:MineTo T w vg gs G G.length):OwnG T w vg gs G:=by
 obtain⟨tag,t1⟩:=h.t
 exact⟨own_pnil T w,h.g,h.l,fun i x g hx hg=>h.r i x g (lt_of_get hg) hx hg,⟨tag,fun k (hk:(none:Option Nat)=some k)=>(by cases hk),fun i x hx=>t1 i x (by have:=lt_of_get hx;have:=h.l;omega) hx⟩⟩
theorem append_none {P:Program} {w:World} (base:Nat) (t ty e:TypeId) (i:TypeInfo) (size:Nat) (ht:P.underlying t=some (.slice e)) (hi:P.info? e=some i)
    (v:Value) (n c:Nat) (xs:List Value) (hown:w.ownsRow base e size v n xs) :
    (Builtin.append_ #[t,t] ty #[v,.slice none 0 c]).run P w=.ok v w:=by
 rcases hown.2 with ⟨rfl,rfl⟩|⟨g,cap,cur,rfl,_,_,hnc,_⟩
 · simp [Builtin.append_,run_underlying ht,sizeOf,typeInfo,hi,Builtin.lenOf,Builtin.firstCells]
 · simp [Builtin.append_,run_underlying ht,sizeOf,typeInfo,hi,Builtin.lenOf,Builtin.firstCells,hnc,storeCells]
theorem own_empty {w:World} {base g:Nat} {e:TypeId} {size:Nat} (h:HasBlock w g #[] e) (hb:base≤g):w.ownsRow base e size (.slice (some ⟨g,0,none⟩) 0 0) 0 [] :=
 ⟨by simp,.inr ⟨g,0,#[],rfl,hb,h,nlr _,Nat.zero_le _,by simp,by simp⟩⟩
theorem map_one {α:Type} {enc:α→Value} (h:∀ x,(enc x).oneCell'=true) (xs:List α):∀ u∈xs.map enc,u.oneCell'=true:=by
 intro u hu
 rw[List.mem_map] at hu
 obtain⟨x,_,rfl⟩:=hu
 exact h x
theorem own_over {base B:Nat} {e:TypeId} {size n:Nat} {w:World} {v:Value} {xs:List Value} (h:w.ownsRow base e size v n xs) (hB:w.heap.size≤B):v.ownBlock≠some B:=fun e=>by
 have:=(h.lt B e).2
 omega
theorem HasBlock.grow {w w2:World} {g b:Nat} {cs:Array Value} {T e:TypeId} (hg:w.grownBy w2 (Value.slice (some ⟨g,0,none⟩) 0 0).ownBlock) (hE:HasBlock w g #[] e) (h:HasBlock w b cs T) (hne:T≠e):HasBlock w2 b cs T:=by
 refine (hg.block b h.lt (fun e'=>?_)).trans h
 injection e' with e'
 subst e'
 unfold HasBlock at h hE
 rw[hE] at h
 injection h with h
 injection h with _ h
 exact hne h.symm
theorem OwnEnc.grow {α:Type} {enc:α→Value} {e e':TypeId} {base g:Nat} {w w2:World} {v:Value} {xs:List α} (hg:w.grownBy w2 (Value.slice (some ⟨g,0,none⟩) 0 0).ownBlock) (hE:HasBlock w g #[] e') (h:OwnEnc enc e base w v xs) (hne:e'≠e):OwnEnc enc e base w2 v xs:=by
 refine h.kept hg (fun k hk e''=>?_)
 injection e'' with e''
 subst e''
 exact own_off h hE hne hk
theorem Below.grow {base:Nat} {a w w2:World} {g:Nat} (h:Below base a w) (hg:w.grownBy w2 (Value.slice (some ⟨g,0,none⟩) 0 0).ownBlock) (hb:base≤w.heap.size) (hgb:base≤g):Below base a w2:=h.grown hg hb (fun k hk=>by have e:g=k:=Option.some.inj hk;omega)
theorem grow_cell {w w2:World} {g:Nat} (hg:w.grownBy w2 (Value.slice (some ⟨g,0,none⟩) 0 0).ownBlock):(∀ b o,b<w.heap.size→b≠g→w2.cell? ⟨b,o,none⟩=w.cell? ⟨b,o,none⟩)∧(∀ b o,b<w.heap.size→b≠g→w2.frozen? ⟨b,o,none⟩=w.frozen? ⟨b,o,none⟩):=by
 have h:∀ b,b<w.heap.size→b≠g→w2.heap[b]?=w.heap[b]?:=fun b hb hne=>hg.block b hb (fun e=>hne (Option.some.inj e))
 exact⟨fun b o hb hne=>World.cell?_of_block (a:=⟨b,o,none⟩) (h b hb hne),fun b o hb hne=>World.frozen?_of_block (a:=⟨b,o,none⟩) (h b hb hne)⟩
def OwnAt (w0:World) (n r:Nat) (P:Pl) (bx:Array Value) (v:Value) (wx:World):Prop:=∃ (B kf kr:Nat) (of or':Option Addr),v=.pointer (some ⟨B,0,none⟩)∧w0.heap.size+1<B∧HasBlock wx B #[.slice of n kf,.slice or' r kr,.slice none 0 0] 26∧OwnStr (w0.heap.size+1+1) wx (.slice of n kf) P.F∧OwnNum (w0.heap.size+1+1) wx (.slice or' r kr) P.R ∧
 HasBlock wx w0.heap.size bx 26∧HasBlock wx (w0.heap.size+1) #[.slice none 0 0,.slice none 0 0,.slice none 0 0] 26∧Below w0.heap.size w0 wx
set_option maxRecDepth 100000 in
set_option maxHeartbeats 8000000 in
theorem rown_any (v:Value) (P:Pl) (w:World) (h:PlRow w v P) (H:P.Ok):Calls Tryz.prog 87 #[v] w (RetPool P w):=by
 obtain⟨of,or',om,kf,kr,km,rfl,kf1,kf2,kr1,kr2,km1,km2⟩:=h.form
 obtain⟨n,hn⟩:∃ n,P.F.length=n:=⟨_,rfl⟩
 obtain⟨r,hr⟩:∃ n,P.R.length=n:=⟨_,rfl⟩
 obtain⟨m,hm⟩:∃ n,P.M.length=n:=⟨_,rfl⟩
 rw[hn] at h kf1 ⊢
 rw[hr] at h kr1 ⊢
 rw[hm] at h km1 ⊢
 have HN:=lh hn;clear hn
 have HR:=lh hr;clear hr
 have HM:=lh hm;clear hm
 have hn1:=H.n1
 have hn2:=H.n2
 have hr1:=H.r
 have hm8:=H.m
 rw[HN.out] at hn1 hn2 hr1
 rw[HR.out] at hr1
 have hrn:1≤r∧r≤96:=by omega
 rw[HM.out] at hm8
 clear hr1
 obtain⟨s0,hs0⟩:=get_lt (xs:=P.F) (k:=0) (by rw[HN.out];omega)
 obtain⟨x0,hx0⟩:=get_lt (xs:=P.R) (k:=0) (by rw[HR.out];omega)
 obtain⟨fb,foff,rfl,hfb,_⟩:=h.parts.1.elem hs0
 obtain⟨rb,roff,rfl,hrb,_⟩:=h.parts.2.1.elem hx0
 clear hs0 hx0
 have hP:=h.parts
 have HF:=lh hP.1
 have HI:=lh hP.2.1
 have HMR:=lh hP.2.2
 clear hP
 obtain⟨i0,hi0,iz0,iz1,iz2⟩:=info_parts info_str
 obtain⟨j0,hj0,jz0,jz1,jz2⟩:=info_parts info_int
 have D1:=(HasBlock.made w #[.slice (some ⟨fb,foff,none⟩) n kf,.slice (some ⟨rb,roff,none⟩) r kr,.slice om m km] 26).alloc (.cells #[.slice none 0 0,.slice none 0 0,.slice none 0 0] 26)
 have D2:=HasBlock.made (w.alloc (.cells #[.slice (some ⟨fb,foff,none⟩) n kf,.slice (some ⟨rb,roff,none⟩) r kr,.slice om m km] 26)) #[.slice none 0 0,.slice none 0 0,.slice none 0 0] 26
 have hbw:Below w.heap.size w ((w.alloc (.cells #[.slice (some ⟨fb,foff,none⟩) n kf,.slice (some ⟨rb,roff,none⟩) r kr,.slice om m km] 26)).alloc (.cells #[.slice none 0 0,.slice none 0 0,.slice none 0 0] 26)):=bel
 have hz:w.heap.size+1+1≤((w.alloc (.cells #[.slice (some ⟨fb,foff,none⟩) n kf,.slice (some ⟨rb,roff,none⟩) r kr,.slice om m km] 26)).alloc (.cells #[.slice none 0 0,.slice none 0 0,.slice none 0 0] 26)).heap.size:=by simp only[sizes];omega
 simp only[sizes] at D2
 clear h
 go_enter Tryz.func87,Tryz.ntmps87
 go_upto_region 1 with (fail)
 generalize hW:(w.alloc (.cells #[.slice (some ⟨fb,foff,none⟩) n kf,.slice (some ⟨rb,roff,none⟩) r kr,.slice om m km] 26)).alloc (.cells #[.slice none 0 0,.slice none 0 0,.slice none 0 0] 26)=w1 at D1 D2 hbw hz ⊢
 clear hW
 go_cut [3] from 5 to 13 (fun v wx=>OwnAt w n r P #[.slice (some ⟨fb,foff,none⟩) n kf,.slice (some ⟨rb,roff,none⟩) r kr,.slice om m km] v wx)
 case first =>
  obtain⟨D1_c,D1_f,D1_z⟩:=D1.all
  obtain⟨D2_c,D2_f,D2_z⟩:=D2.all
  have hy1:w1.heap.size+1≠w1.heap.size:=by omega
  have hy2:w1.heap.size+1+1≠w1.heap.size:=by omega
  have hy3:w1.heap.size+1+1≠w1.heap.size+1:=by omega
  have hy4:w1.heap.size≠w1.heap.size+1:=by omega
  have hy5:w1.heap.size≠w1.heap.size+1+1:=by omega
  have hy6:w1.heap.size+1≠w1.heap.size+1+1:=by omega
  have hrule:∀ w':World,Below w1.heap.size w1 w'→∀ b o,b<w1.heap.size→w'.cell? ⟨b,o,none⟩=w1.cell? ⟨b,o,none⟩:=fun w' h b o hlt=>h.cell (p:=⟨b,o,none⟩) hlt
  go_region_held3 (fun w'=>Below w1.heap.size w1 w') (repeat (first|with_reducible assumption|with_reducible exact Below.refl _ _|(with_reducible refine Below.drew ?_)|(with_reducible refine Below.alloc' ?_ (nlr _) _)|(with_reducible refine Below.setCell ?_ sz5 _)|(refine Below.trans ?_ (by with_reducible assumption)))) ((first
   |
    (refine step_append_own rfl (.tmp 5) (.tmp 7) 22 rfl w1.heap.size 9 i0 (.string ⟨#[]⟩) 1 16 Tryz.underlying22 hi0 iz0 iz1 iz2 rfl (by decide) _ 0 [] rfl (own_empty ?_ sz5) ⟨fb,foff,none⟩ n kf (P.F.map Value.string) rfl ?_ ?_ (map_one (fun _=>rfl) _) ?_ ?_ sz5 ?_
     · (repeat' (first|with_reducible assumption|(with_reducible refine HasBlock.drew ?_)|(with_reducible refine HasBlock.made' sz5)|(with_reducible refine HasBlock.alloc ?_ _)|(with_reducible refine HasBlock.fill3 ?_)|(with_reducible refine HasBlock.set_ne ?_ sz5 _)|(with_reducible refine HasBlock.grow (e:=9) hgrow8 ?_ ?_ (by decide))|(with_reducible refine HasBlock.grow (e:=3) hgrow9 ?_ ?_ (by decide))))
     · rw[List.length_map,HN.out,Nat.mul_one]
     · exact fun j u hj=>EncRow.cells' (HF.out.below (hbw.trans (Below.mono (by (repeat (first|with_reducible assumption|with_reducible exact Below.refl _ _|(with_reducible refine Below.drew ?_)|(with_reducible refine Below.alloc' ?_ (nlr _) _)|(with_reducible refine Below.setCell ?_ sz5 _)|(refine Below.trans ?_ (by with_reducible assumption))))) hbw.size))) j u hj
     · unfold maxLen;omega
     · omega
     intro v8 w8 hown8 hgrow8 _
     have hb8:Below w1.heap.size w1 w8:=Below.grow (by (repeat (first|with_reducible assumption|with_reducible exact Below.refl _ _|(with_reducible refine Below.drew ?_)|(with_reducible refine Below.alloc' ?_ (nlr _) _)|(with_reducible refine Below.setCell ?_ sz5 _)|(refine Below.trans ?_ (by with_reducible assumption))))) hgrow8 sz5 sz5
     obtain⟨o8,c8,rfl,_,_⟩:=own_form' hown8
     have O8:OwnStr w1.heap.size w8 _ P.F:=(show World.ownsRow _ _ _ _ _ _ _ from (by rw[HN.out];simpa using hown8))
     have hz8:=hgrow8.size
     (try simp only[sizes1] at hz8)
     (try have hv8c:w1.heap.size<w8.heap.size+1:=by omega)
     (try have hv8d:w1.heap.size+1<w8.heap.size+1:=by omega)
     (try have hv8e:w1.heap.size+1+1<w8.heap.size:=by omega)
     (try have hv8f:w1.heap.size+1+1<w8.heap.size+1:=by omega)
     (try have hx8d:w1.heap.size≠w8.heap.size:=by omega)
     (try have hx8e:w1.heap.size+1≠w8.heap.size:=by omega)
     (try have hx8f:w1.heap.size+1+1≠w8.heap.size:=by omega)
     (try have hv8a:w1.heap.size<w8.heap.size:=by omega)
     (try have hv8b:w1.heap.size+1<w8.heap.size:=by omega)
     (try have hx8a:w8.heap.size≠w1.heap.size:=by omega)
     (try have hx8b:w8.heap.size≠w1.heap.size+1:=by omega)
     (try have hx8c:w8.heap.size≠w1.heap.size+1+1:=by omega)
     obtain⟨hc8,hf8⟩:=grow_cell hgrow8
     (try simp only[sizes.1] at hc8 hf8)
     clear hown8)
   |
    (refine step_append_own rfl (.tmp 9) (.tmp 11) 23 rfl w1.heap.size 3 j0 (.int .i64 0) 1 8 Tryz.underlying23 hj0 jz0 jz1 jz2 rfl (by decide) _ 0 [] rfl (own_empty ?_ sz5) ⟨rb,roff,none⟩ r kr (P.R.map (Value.int .i64)) rfl ?_ ?_ (map_one (fun _=>rfl) _) ?_ ?_ sz5 ?_
     · (repeat' (first|with_reducible assumption|(with_reducible refine HasBlock.drew ?_)|(with_reducible refine HasBlock.made' sz5)|(with_reducible refine HasBlock.alloc ?_ _)|(with_reducible refine HasBlock.fill3 ?_)|(with_reducible refine HasBlock.set_ne ?_ sz5 _)|(with_reducible refine HasBlock.grow (e:=9) hgrow8 ?_ ?_ (by decide))|(with_reducible refine HasBlock.grow (e:=3) hgrow9 ?_ ?_ (by decide))))
     · rw[List.length_map,HR.out,Nat.mul_one]
     · exact fun j u hj=>EncRow.cells' (HI.out.below (hbw.trans (Below.mono (by (repeat (first|with_reducible assumption|with_reducible exact Below.refl _ _|(with_reducible refine Below.drew ?_)|(with_reducible refine Below.alloc' ?_ (nlr _) _)|(with_reducible refine Below.setCell ?_ sz5 _)|(refine Below.trans ?_ (by with_reducible assumption))))) hbw.size))) j u hj
     · unfold maxLen;omega
     · omega
     intro v9 w9 hown9 hgrow9 _
     have hb9:Below w1.heap.size w1 w9:=Below.grow (by (repeat (first|with_reducible assumption|with_reducible exact Below.refl _ _|(with_reducible refine Below.drew ?_)|(with_reducible refine Below.alloc' ?_ (nlr _) _)|(with_reducible refine Below.setCell ?_ sz5 _)|(refine Below.trans ?_ (by with_reducible assumption))))) hgrow9 sz5 sz5
     obtain⟨o9,c9,rfl,_,_⟩:=own_form' hown9
     have O9:OwnNum w1.heap.size w9 _ P.R:=(show World.ownsRow _ _ _ _ _ _ _ from (by rw[HR.out];simpa using hown9))
     have hz9:=hgrow9.size
     (try simp only[sizes1] at hz9)
     (try have hv9c:w1.heap.size<w9.heap.size+1:=by omega)
     (try have hv9d:w1.heap.size+1<w9.heap.size+1:=by omega)
     (try have hv9e:w1.heap.size+1+1<w9.heap.size:=by omega)
     (try have hv9f:w1.heap.size+1+1<w9.heap.size+1:=by omega)
     (try have hx9d:w1.heap.size≠w9.heap.size:=by omega)
     (try have hx9e:w1.heap.size+1≠w9.heap.size:=by omega)
     (try have hx9f:w1.heap.size+1+1≠w9.heap.size:=by omega)
     (try have hv9a:w1.heap.size<w9.heap.size:=by omega)
     (try have hv9b:w1.heap.size+1<w9.heap.size:=by omega)
     (try have hx9a:w9.heap.size≠w1.heap.size:=by omega)
     (try have hx9b:w9.heap.size≠w1.heap.size+1:=by omega)
     (try have hx9c:w9.heap.size≠w1.heap.size+1+1:=by omega)
     obtain⟨hc9,hf9⟩:=grow_cell hgrow9
     (try simp only[sizes.1] at hc9 hf9)
     clear hown9)))
  all_goals
   go_wp2_with fail
   go_meet
   refine ⟨_,c8,c9,o8,o9,rfl,sz5,?h3,?h4,?h5,?h6,?h7,?h8⟩
   case h3=>(repeat' (first|with_reducible assumption|(with_reducible refine HasBlock.drew ?_)|(with_reducible refine HasBlock.made' sz5)|(with_reducible refine HasBlock.alloc ?_ _)|(with_reducible refine HasBlock.fill3 ?_)|(with_reducible refine HasBlock.set_ne ?_ sz5 _)|(with_reducible refine HasBlock.grow (e:=9) hgrow8 ?_ ?_ (by decide))|(with_reducible refine HasBlock.grow (e:=3) hgrow9 ?_ ?_ (by decide))))
   case h4=>(refine OwnEnc.lower (base:=w1.heap.size) ?_ hz;repeat' (first|with_reducible assumption|(with_reducible refine OwnEnc.drew ?_)|(with_reducible refine OwnEnc.alloc ?_ _)|(with_reducible refine OwnEnc.setoff ?_ ?_ _)|(with_reducible refine own_over (OwnEnc.raw O8) sz5)|(with_reducible refine own_off (cs:=#[.slice none 0 0,.slice none 0 0,.slice none 0 0]) (T:=26) (OwnEnc.raw O8) ?_ (by decide))|(with_reducible refine OwnEnc.grow (e':=9) hgrow8 ?_ ?_ (by decide))|(with_reducible refine OwnEnc.grow (e':=3) hgrow9 ?_ ?_ (by decide))|(with_reducible refine HasBlock.drew ?_)|(with_reducible refine HasBlock.made' sz5)|(with_reducible refine HasBlock.alloc ?_ _)|(with_reducible refine HasBlock.grow (e:=9) hgrow8 ?_ ?_ (by decide))|(with_reducible refine HasBlock.grow (e:=3) hgrow9 ?_ ?_ (by decide))))
   case h5=>(refine OwnEnc.lower (base:=w1.heap.size) ?_ hz;repeat' (first|with_reducible assumption|(with_reducible refine OwnEnc.drew ?_)|(with_reducible refine OwnEnc.alloc ?_ _)|(with_reducible refine OwnEnc.setoff ?_ ?_ _)|(with_reducible refine own_over (OwnEnc.raw O9) sz5)|(with_reducible refine own_off (cs:=#[.slice none 0 0,.slice none 0 0,.slice none 0 0]) (T:=26) (OwnEnc.raw O9) ?_ (by decide))|(with_reducible refine OwnEnc.grow (e':=9) hgrow8 ?_ ?_ (by decide))|(with_reducible refine OwnEnc.grow (e':=3) hgrow9 ?_ ?_ (by decide))|(with_reducible refine HasBlock.drew ?_)|(with_reducible refine HasBlock.made' sz5)|(with_reducible refine HasBlock.alloc ?_ _)|(with_reducible refine HasBlock.grow (e:=9) hgrow8 ?_ ?_ (by decide))|(with_reducible refine HasBlock.grow (e:=3) hgrow9 ?_ ?_ (by decide))))
   case h6=>(repeat' (first|with_reducible assumption|(with_reducible refine HasBlock.drew ?_)|(with_reducible refine HasBlock.made' sz5)|(with_reducible refine HasBlock.alloc ?_ _)|(with_reducible refine HasBlock.fill3 ?_)|(with_reducible refine HasBlock.set_ne ?_ sz5 _)|(with_reducible refine HasBlock.grow (e:=9) hgrow8 ?_ ?_ (by decide))|(with_reducible refine HasBlock.grow (e:=3) hgrow9 ?_ ?_ (by decide))))
   case h7=>(repeat' (first|with_reducible assumption|(with_reducible refine HasBlock.drew ?_)|(with_reducible refine HasBlock.made' sz5)|(with_reducible refine HasBlock.alloc ?_ _)|(with_reducible refine HasBlock.fill3 ?_)|(with_reducible refine HasBlock.set_ne ?_ sz5 _)|(with_reducible refine HasBlock.grow (e:=9) hgrow8 ?_ ?_ (by decide))|(with_reducible refine HasBlock.grow (e:=3) hgrow9 ?_ ?_ (by decide))))
   case h8=>exact hbw.trans (Below.mono (by (repeat (first|with_reducible assumption|with_reducible exact Below.refl _ _|(with_reducible refine Below.drew ?_)|(with_reducible refine Below.alloc' ?_ (nlr _) _)|(with_reducible refine Below.setCell ?_ sz5 _)|(refine Below.trans ?_ (by with_reducible assumption))))) hbw.size)
 case rest =>
  clear D1 D2 hbw hz HF HI hi0 iz0 iz1 iz2 hj0 jz0 jz1 jz2
  obtain⟨B,kf1',kr1',of1,or1,rfl,hB,D3,o1,o2,D1,D2,hbw⟩:=hcut
  have HO:OwnP (w.heap.size+1+1) wc (.slice of1 n kf1') (.slice or1 r kr1') (.slice none 0 0) [] ⟨P.F,P.R,P.M.take 0⟩:=⟨o1,o2,own_nil,OwnRows.nil _ _,fun i u hu=>by simp at hu⟩
  clear o1 o2
  obtain⟨D1_c,D1_f,D1_z⟩:=D1.all
  obtain⟨D2_c,D2_f,D2_z⟩:=D2.all
  obtain⟨D3_c,D3_f,D3_z⟩:=D3.all
  go_wp2_with fail
  clear D1_c D1_f D1_z
  clear D2_c D2_f D2_z
  clear D3_c D3_f D3_z
  have hz:=D3.lt
  go_loopw [4] (fun iv wr=>∃ (i:Nat) (o:Option Addr) (cp:Nat) (us':List Value),i≤m∧iv=.int .i64 i∧i≤cp∧cp≤9223372036854775807∧HasBlock wr w.heap.size #[.slice (some ⟨fb,foff,none⟩) n kf,.slice (some ⟨rb,roff,none⟩) r kr,.slice om m km] 26∧HasBlock wr (w.heap.size+1) #[.slice none 0 0,.slice none 0 0,.slice none 0 0] 26∧HasBlock wr B #[.slice of1 n kf1',.slice or1 r kr1',.slice o i cp] 26∧OwnP (w.heap.size+1+1) wr (.slice of1 n kf1') (.slice or1 r kr1') (.slice o i cp) us' ⟨P.F,P.R,P.M.take i⟩∧Below w.heap.size w wr∧B<wr.heap.size) (fun iv _=>m - (intOf iv).toNat)
  case atStart=>exact⟨0,none,0,[],Nat.zero_le _,rfl,nlr _,by omega,D1,D2,D3,HO,hbw,hz⟩
  case round =>
   clear D1 D2 D3 HO hbw hz
   obtain⟨i,o,cp,us',hi,rfl,hc1,hc2,D1,D2,D3,HO,hbw,hz⟩:=hrel
   by_cases hlt:i<m
   · obtain⟨l,hl⟩:=get_lt (xs:=P.M) (k:=i) (by rw[HM.out];exact hlt)
     have hll:=H.l l (mem_at hl)
     have hpr:PlRow w (.agg #[.slice none 0 0,.slice none 0 0,.slice om m km]) ⟨[],[],P.M⟩:=⟨_,_,_,rfl,RowAt.nil _,RowAt.nil _,HMR.out⟩
     obtain⟨mb,moff,uo,uc,rfl,hmb,cm,u1,u2,hr⟩:=hpr.guest hl
     clear hpr
     replace cm:=(hbw.cell (p:=⟨mb,moff+i,none⟩) hmb).trans cm
     obtain⟨x0,hx0⟩:=get_lt (xs:=l) (k:=0) (by omega)
     obtain⟨lb,loff,rfl,hlb,_⟩:=hr.elem hx0
     clear hx0
     obtain⟨q,hq⟩:∃ q,l.length=q:=⟨_,rfl⟩
     rw[hq] at cm u1 hr hll
     have HRW:=lh (hr.below hbw);clear hr
     have hwz:=hbw.size
     have hmb3:mb<wr.heap.size:=by omega
     have HQ:=lh hq;clear hq
     have HL:=lh hl;clear hl
     obtain⟨i0,hi0,iz0,iz1,iz2⟩:=info_parts info_ints
     obtain⟨j0,hj0,jz0,jz1,jz2⟩:=info_parts info_int
     have htl:(P.M.take i).length=i:=by rw[List.length_take,HM.out];omega
     have HTL:=lh htl;clear htl
     have HOM:Hid (wr.ownsRow (w.heap.size+1+1) 23 1 (.slice o i cp) i us'):=by
      have h:=HO.m
      rw[HTL.out] at h
      exact h
     have gi:(i:Int)<(m:Int):=by omega
     have gi0:(0:Int)≤(i:Int):=by omega
     obtain⟨D1_c,D1_f,D1_z⟩:=D1.all
     obtain⟨D2_c,D2_f,D2_z⟩:=D2.all
     obtain⟨D3_c,D3_f,D3_z⟩:=D3.all
     go_wp2_with fail
     go_region_law ((first
      |
       (refine step_append_own rfl (.tmp 23) (.tmp 28) 23 rfl wr.heap.size 3 j0 (.int .i64 0) 1 8 Tryz.underlying23 hj0 jz0 jz1 jz2 rfl (by decide) _ 0 [] rfl (own_empty (g:=wr.heap.size) ?_ sz5) ⟨lb,loff,none⟩ q uc (l.map (Value.int .i64)) rfl ?_ ?_ (map_one (fun _=>rfl) _) ?_ ?_ sz5 ?_
        · first|exact HasBlock.made wr #[] 3|exact (HasBlock.made wr #[] 3).drew|exact HasBlock.made wr.drew #[] 3
        · rw[List.length_map,HQ.out,Nat.mul_one]
        · exact fun j u hj=>EncRow.cells' (HRW.out.below (by (repeat (first|with_reducible exact Below.refl _ _|(with_reducible refine Below.drew ?_)|(with_reducible refine Below.alloc' ?_ (nlr _) _))))) j u hj
        · unfold maxLen;omega
        · omega
        intro v5 w5 hown5 hgrow5 _
        have HB5:Below wr.heap.size wr w5:=Below.grow (by (repeat (first|with_reducible exact Below.refl _ _|(with_reducible refine Below.drew ?_)|(with_reducible refine Below.alloc' ?_ (nlr _) _)))) hgrow5 sz5 sz5
        obtain⟨uo5,uk5,rfl,_,_⟩:=own_form' hown5
        have o5:OwnNum wr.heap.size w5 (.slice uo5 q uk5) l:=(show World.ownsRow _ _ _ _ _ _ _ from (by rw[HQ.out];simpa using hown5))
        clear hown5
        have HB5':Below (w.heap.size+1) wr w5:=HB5.mono (by omega)
        have E1:=D1.below HB5
        have E2:=D2.below HB5
        have E3:=D3.below HB5
        have HO5:=HO.below HB5
        have hz5:=HB5.size
        have hbw5:Below w.heap.size w w5:=hbw.trans (HB5.mono hbw.size)
        have HOM5:Hid (w5.ownsRow (w.heap.size+1+1) 23 1 (.slice o i cp) i us'):=lh (owns_below HOM.out HB5)
        have hr5:Apart (.slice or1 r kr1') (.slice uo5 q uk5):=apart_lt (B:=wr.heap.size) (fun k hk=>(World.ownsRow.lt HO.r.raw k hk).2) (fun k hk=>(World.ownsRow.lt o5.raw k hk).1)
        have hu5:∀ (j:Nat) (u':Value),us'[j]?=some u'→Apart u' (.slice uo5 q uk5):=fun j u' hj=>apart_lt (B:=wr.heap.size) (fun k hk=>HO.lt.u j u' hj k hk) (fun k hk=>(World.ownsRow.lt o5.raw k hk).1)
        have O5:=OwnEnc.lower (base':=w.heap.size+1+1) o5 (by omega)
        clear o5
        obtain⟨E3_c,E3_f,E3_z⟩:=E3.all)
      |
       (refine step_append_own rfl (.tmp 22) (.tmp 30) 24 rfl (w.heap.size+1+1) 23 i0 (.slice none 0 0) 1 24 Tryz.underlying24 hi0 iz0 iz1 iz2 rfl (by decide) (.slice o i cp) i us' rfl (HOM5.out.alloc _) ⟨_,0,none⟩ 1 1 [.slice uo5 q uk5] rfl rfl (cells_made _ [.slice uo5 q uk5] _ _ rfl) (one_slice _ _ _) (by unfold maxLen;omega) (by omega) (by simp only[sizes];omega) ?_
        intro v6 w6 hown6 hgrow6 _
        obtain⟨o6,c6,rfl,hc61,hc62⟩:=own_form' hown6
        have HO6:=(HO5.alloc (.cells #[.slice uo5 q uk5] 23)).push (l:=l) (O5.alloc _) hr5 hu5 (by rw[HTL.out];exact hown6) hgrow6
        have F1:=(E1.alloc (.cells #[.slice uo5 q uk5] 23)).append (HOM5.out.alloc _) hgrow6 (by omega)
        have F2:=(E2.alloc (.cells #[.slice uo5 q uk5] 23)).append (HOM5.out.alloc _) hgrow6 (by omega)
        have F3:HasBlock w6 B #[.slice of1 n kf1',.slice or1 r kr1',.slice o i cp] 26:=(hgrow6.block B (E3.alloc _).lt (fun e=>own_off HOM5.out E3 (by decide) e.symm)).trans (E3.alloc _)
        have hbw6:Below w.heap.size w w6:=below_grown (hbw5.alloc (by omega) _) (HOM5.out.alloc _) hgrow6 (by omega) (by simp only[sizes];omega)
        have hz6:wr.heap.size≤w6.heap.size:=by have:=hgrow6.size;simp only[sizes] at this;omega
        have hb6:Below (w.heap.size+1) wr w6:=below_grown ((Below.mono HB5 (by omega)).alloc (by omega) _) (HOM5.out.alloc _) hgrow6 (by omega) (by simp only[sizes];omega)
        obtain⟨F3_c,F3_f,F3_z⟩:=F3.all)))
     all_goals
      go_wp2_with fail
      go_roundw
      case rel =>
       refine ⟨i+1,o6,c6,us'++[.slice uo5 q uk5],by omega,by go_num,hc61,hc62,F1.set_ne (by omega) _,F2.set_ne (by omega) _,F3.put3_2 _,?_,hbw6.setCell (by dsimp only;omega) _,by rw[World.size_setCell];omega⟩
       have h:=HO6.setbox (j:=2) F3 (by decide) (by decide) (by decide) (.slice o6 (i+1) c6)
       rw[List.take_add_one,HL.out]
       exact h
      case measure=>simp [intOf];omega
   · obtain rfl:i=m:=by omega
     have hall:P.M.take i=P.M:=by rw[←HM.out];exact List.take_length
     rw[hall] at HO
     clear hall
     obtain⟨D1_c,D1_f,D1_z⟩:=D1.all
     obtain⟨D2_c,D2_f,D2_z⟩:=D2.all
     obtain⟨D3_c,D3_f,D3_z⟩:=D3.all
     go_wp2_with fail
     refine bodyPost_ret (v:=.agg #[.slice of1 n kf1',.slice or1 r kr1',.slice o i cp]) (by simp [results,Tryz.results87,go_sem,D2_c]) rfl ?_
     have HOE:=((HO.setlow (b:=w.heap.size+1) (j:=0) (by omega) (.slice of1 n kf1')).setlow (b:=w.heap.size+1) (j:=1) (by omega) (.slice or1 r kr1')).setlow (b:=w.heap.size+1) (j:=2) (by omega) (.slice o i cp)
     have hbe:=((hbw.setCell (p:=⟨w.heap.size+1,0,none⟩) (by dsimp only;omega) (.slice of1 n kf1')).setCell (p:=⟨w.heap.size+1,1,none⟩) (by dsimp only;omega) (.slice or1 r kr1')).setCell (p:=⟨w.heap.size+1,2,none⟩) (by dsimp only;omega) (.slice o i cp)
     exact ret_pool HN.out HR.out HM.out (HOE.lower (by omega)) hbe
end Go.Proofs.YtbnngjhnkegliaaGreat
