/-
  Texts joined: Ho PlKeep PlKeep2. No law is proved here.
-/
import Derived.Test.YtbnngjhnkegliaaGreatB5
import Derived.Test.YtbnngjhnkegliaaGreatB6
namespace Go.Proofs.YtbnngjhnkegliaaGreat
open Go.RowKit
theorem info_bool:(Tryz.prog.info? 4).map (fun i=>(i.zero,i.size,i.bytes))=some (some (.bool false),1,1):=by kernel_rfl
abbrev BoolRow:=EncRow Value.bool
abbrev OwnBool:=OwnEnc Value.bool 4
set_option maxHeartbeats 1000000 in
theorem clone_bool (va:Value) (xs:List Bool) (w:World) (ha:EncRow Value.bool w va xs) (hn:xs.length≤1099511627776):Calls Tryz.prog 75 #[va] w (RetOwn Value.bool 4 w xs):=by
 obtain⟨ao,cap,rfl,h1,h2,h3⟩:=ha.out
 obtain⟨n,hn'⟩:∃ n,xs.length=n:=⟨_,rfl⟩
 have hrow:RowAt w (.slice ao n cap) n (xs.map Value.bool):=by rw[←hn'];exact ha
 rw[hn'] at hn ⊢
 have HN:=lh hn';clear hn' h1 h2 ha
 have q22:∀ (w:World) (a:Option Addr) (n c n' c':Nat),(binOp .eql 47 (.slice a n c) (.slice none n' c')).run Tryz.prog w=.ok (.bool a.isNone) w:=fun w a n c n' c'=>Lib.run_eql_slice_nil w _ _ a n c n' c' Tryz.underlying47
 cases ao with
 | none =>
   have h0:xs=[]:=by
    rcases h3 with h3|⟨b,off,hb,_⟩
    · exact List.eq_nil_of_length_eq_zero h3
    · cases hb
   subst h0
   clear h3 hrow HN
   go_enter Tryz.func75,Tryz.ntmps75
   go_wp2_with fail
   go_ret
   exact⟨_,rfl,World.ownsRow_nil _ _ _ _,bel⟩
 | some a =>
   clear h3
   have HR:=lh hrow;clear hrow
   obtain⟨i0,hi,iz0,iz1,iz2⟩:=info_parts info_bool
   go_enter Tryz.func75,Tryz.ntmps75
   go_wp2_with (at_builtin;refine wpList_append_own _ rfl _ _ 47 rfl w.heap.size 4 i0 (.bool false) 1 1 Tryz.underlying47 hi iz0 iz1 iz2 rfl (by decide) _ _ _ rfl (World.ownsRow_made w #[] 0 (nlr _) (Nat.zero_le _) (by simp)) a n cap (xs.map Value.bool) rfl ?qc1 ?qc2 ?qc3 ?qc4 ?qc5 ?qc6 ?_)
   case qc1=>rw[List.length_map,HN.out,Nat.mul_one]
   case qc2=>exact fun j u hj=>Lib.cell?_alloc_some _ (HR.out.cells j u hj)
   case qc3=>intro u hu;rw[List.mem_map] at hu;obtain⟨x,_,rfl⟩:=hu;rfl
   case qc4=>unfold maxLen;omega
   case qc5=>omega
   case qc6=>simp
   intro v' w1 hown hgrow _
   have HO:=lh hown;clear hown
   go_wp2_with fail
   go_ret
   refine ⟨v',rfl,?_,?_⟩
   · unfold OwnEnc;rw[HN.out];simpa using HO.out
   · exact ((Below.refl _ w).alloc (nlr _) _).grown hgrow (by simp) (by intro k hk;simp [Value.ownBlock] at hk;omega)
structure Gm where
 c:Clm
 s:List ByteArray
 u:List Bool
 h:Int
 e:List Bool
structure Ho where
 P:Pl
 G:List Gm
 t:Int
 d:Int
 n:Int
structure Gv where
 s:Value
 u:Value
 e:Value
def gmCells (g:Gm) (x:Gv):List Value:=[.int .i64 g.c.r,.int .i64 g.c.l,.int .i64 g.c.s,.int .i64 g.c.p,.int .i64 g.c.a,x.s,x.u,.int .i64 g.h,x.e]
def gmFlat (G:List Gm) (gs:List Gv):List Value:=(List.zipWith gmCells G gs).flatten
theorem flat9:∀ (L:List (List Value)),(∀ l∈L,l.length=9)→∀ (i:Nat) (l:List Value),L[i]?=some l→∀ j:Nat,j<9→L.flatten[i*9+j]?=l[j]?
 | [],_,i,l,h,_,_=>by simp at h
 | a :: L,hL,0,l,h,j,hj=>by
   simp at h
   subst h
   rw[List.flatten_cons,Nat.zero_mul,Nat.zero_add,List.getElem?_append_left (by rw[hL _ (List.mem_cons_self ..)];exact hj)]
 | a :: L,hL,i+1,l,h,j,hj=>by
   simp at h
   have ha:=hL a (List.mem_cons_self ..)
   rw[List.flatten_cons,List.getElem?_append_right (by rw[ha];omega),ha,show (i+1)*9+j - 9=i*9+j from by omega]
   exact flat9 L (fun l hl=>hL l (List.mem_cons_of_mem _ hl)) i l h j hj
theorem zip_len (G:List Gm) (gs:List Gv):∀ l∈List.zipWith gmCells G gs,l.length=9:=by
 intro l hl
 obtain⟨i,hi⟩:=List.getElem?_of_mem hl
 rw[List.getElem?_zipWith] at hi
 cases hG:G[i]? with
 | none=>rw[hG] at hi;simp at hi
 | some g =>
   cases hg:gs[i]? with
   | none=>rw[hG,hg] at hi;simp at hi
   | some x =>
     rw[hG,hg] at hi
     simp at hi
     rw[←hi]
     rfl
theorem gmFlat_at {G:List Gm} {gs:List Gv} {i:Nat} {g:Gm} {x:Gv} (hg:G[i]?=some g) (hx:gs[i]?=some x) {j:Nat} (hj:j<9):(gmFlat G gs)[i*9+j]?=(gmCells g x)[j]? :=
 flat9 _ (zip_len G gs) i _ (by rw[List.getElem?_zipWith,hg,hx]) j hj
theorem flat9_len:∀ (L:List (List Value)),(∀ l∈L,l.length=9)→L.flatten.length=L.length*9
 | [],_=>rfl
 | a :: L,h=>by
   rw[List.flatten_cons,List.length_append,h a (List.mem_cons_self ..),flat9_len L (fun l hl=>h l (List.mem_cons_of_mem _ hl)),List.length_cons]
   omega
theorem gmFlat_len {G:List Gm} {gs:List Gv} (h:gs.length=G.length):(gmFlat G gs).length=G.length*9:=by
 unfold gmFlat
 rw[flat9_len _ (zip_len G gs),List.length_zipWith,h,Nat.min_self]
theorem gmFlat_set {G:List Gm} {gs:List Gv} (hl:gs.length=G.length) {i j:Nat} {g g':Gm} {x x':Gv} {v:Value} (hg:G[i]?=some g) (hx:gs[i]?=some x) (hj:j<9) (hc:gmCells g' x'=(gmCells g x).set j v):gmFlat (G.set i g') (gs.set i x')=(gmFlat G gs).set (i*9+j) v:=by
 have hi:=lt_of_get hg
 apply List.ext_getElem?
 intro k
 have hl':(gs.set i x').length=(G.set i g').length:=by rw[List.length_set,List.length_set,hl]
 by_cases hk:k<G.length*9
 · have hq:k / 9<G.length:=Nat.div_lt_of_lt_mul (by omega)
   have hm:k % 9<9:=Nat.mod_lt _ (by omega)
   have ek:k=k / 9*9+k % 9:=by omega
   obtain⟨g2,hg2⟩:=get_lt hq
   obtain⟨x2,hx2⟩:=get_lt (xs:=gs) (k:=k / 9) (by omega)
   rw[List.getElem?_set]
   by_cases e:i=k / 9
   · have h1:(G.set i g')[k / 9]?=some g':=by rw[List.getElem?_set,if_pos e,if_pos hi]
     have h2:(gs.set i x')[k / 9]?=some x':=by rw[List.getElem?_set,if_pos e,if_pos (by omega)]
     rw[e] at hg hx
     have a1:=gmFlat_at h1 h2 hm
     have a2:=gmFlat_at hg hx hm
     rw[←ek] at a1 a2
     rw[a1,a2,hc,List.getElem?_set]
     by_cases e2:j=k % 9
     · rw[if_pos e2,if_pos (show j<(gmCells g x).length from hj),if_pos (by omega),if_pos (by rw[gmFlat_len hl];omega)]
     · rw[if_neg e2,if_neg (by omega)]
   · have h1:(G.set i g')[k / 9]?=some g2:=by rw[List.getElem?_set,if_neg e];exact hg2
     have h2:(gs.set i x')[k / 9]?=some x2:=by rw[List.getElem?_set,if_neg e];exact hx2
     have a1:=gmFlat_at h1 h2 hm
     have a2:=gmFlat_at hg2 hx2 hm
     rw[←ek] at a1 a2
     rw[a1,a2,if_neg (by omega)]
 · rw[List.getElem?_eq_none (by rw[gmFlat_len hl',List.length_set];omega),List.getElem?_eq_none (by rw[List.length_set,gmFlat_len hl];omega)]
structure HoRow (w:World) (vf vr vm vg:Value) (H:Ho):Prop where
 p:PlRow w (.agg #[vf,vr,vm]) H.P
 g:∃ gs:List Gv,gs.length=H.G.length∧RowAt w vg H.G.length (gmFlat H.G gs)∧∀ (i:Nat) (x:Gv) (g:Gm),gs[i]?=some x→H.G[i]?=some g→StrRow w x.s g.s∧BoolRow w x.u g.u∧BoolRow w x.e g.e
theorem HoRow.below {w w':World} {vf vr vm vg:Value} {H:Ho} (h:HoRow w vf vr vm vg H) (hb:Below w.heap.size w w'):HoRow w' vf vr vm vg H:=by
 obtain⟨hp,gs,h1,h2,h3⟩:=h
 exact⟨hp.below hb,gs,h1,h2.below hb,fun i x g hx hg=>by
  obtain⟨a,b,c⟩:=h3 i x g hx hg
  exact⟨a.below hb,b.below hb,c.below hb⟩⟩
structure OwnH (base:Nat) (w:World) (vf vr vm:Value) (us:List Value) (vg:Value) (gs:List Gv) (H:Ho):Prop where
 p:OwnP base w vf vr vm us H.P
 g:w.ownsRow base 49 9 vg H.G.length (gmFlat H.G gs)
 l:gs.length=H.G.length
 r:∀ (i:Nat) (x:Gv) (g:Gm),gs[i]?=some x→H.G[i]?=some g→OwnStr base w x.s g.s∧OwnBool base w x.u g.u∧OwnBool base w x.e g.e
 t:∃ tag:Nat→Nat,(∀ k,vf.ownBlock=some k→tag k=0)∧∀ (i:Nat) (x:Gv),gs[i]?=some x→(∀ k,x.s.ownBlock=some k→tag k=3*i+1)∧(∀ k,x.u.ownBlock=some k→tag k=3*i+2)∧(∀ k,x.e.ownBlock=some k→tag k=3*i+3)
theorem OwnH.row {base:Nat} {w:World} {vf vr vm:Value} {us:List Value} {vg:Value} {gs:List Gv} {H:Ho} (h:OwnH base w vf vr vm us vg gs H):HoRow w vf vr vm vg H :=
 ⟨h.p.row,gs,h.l,RowAt.of_owns h.g,fun i x g hx hg=>by
   obtain⟨a,b,c⟩:=h.r i x g hx hg
   exact⟨a.row,b.row,c.row⟩⟩
theorem OwnH.below {base:Nat} {w w':World} {vf vr vm:Value} {us:List Value} {vg:Value} {gs:List Gv} {H:Ho} (h:OwnH base w vf vr vm us vg gs H) (hb:Below w.heap.size w w'):OwnH base w' vf vr vm us vg gs H :=
 ⟨h.p.below hb,owns_below h.g hb,h.l,fun i x g hx hg=>by
   obtain⟨a,b,c⟩:=h.r i x g hx hg
   exact⟨a.below hb,b.below hb,c.below hb⟩,h.t⟩
theorem OwnH.lower {base base':Nat} {w:World} {vf vr vm:Value} {us:List Value} {vg:Value} {gs:List Gv} {H:Ho} (h:OwnH base w vf vr vm us vg gs H) (hb:base'≤base):OwnH base' w vf vr vm us vg gs H :=
 ⟨h.p.lower hb,owns_lower h.g hb,h.l,fun i x g hx hg=>by
   obtain⟨a,b,c⟩:=h.r i x g hx hg
   exact⟨a.lower hb,b.lower hb,c.lower hb⟩,h.t⟩
theorem OwnH.alloc {base:Nat} {w:World} {vf vr vm:Value} {us:List Value} {vg:Value} {gs:List Gv} {H:Ho} (h:OwnH base w vf vr vm us vg gs H) (o:Obj):OwnH base (w.alloc o) vf vr vm us vg gs H:=h.below ((Below.refl _ w).alloc (nlr _) o)
theorem OwnH.drew {base:Nat} {w:World} {vf vr vm:Value} {us:List Value} {vg:Value} {gs:List Gv} {H:Ho} (h:OwnH base w vf vr vm us vg gs H):OwnH base w.drew vf vr vm us vg gs H:=h.below (Below.drew (Below.refl _ _))
theorem OwnH.setoff {base:Nat} {w:World} {vf vr vm:Value} {us:List Value} {vg:Value} {gs:List Gv} {H:Ho} (h:OwnH base w vf vr vm us vg gs H) {b j:Nat} (x:Value) (hp:OwnP base (w.setCell ⟨b,j,none⟩ x) vf vr vm us H.P) (hg:vg.ownBlock≠some b) (hr:∀ (i:Nat) (y:Gv),gs[i]?=some y→y.s.ownBlock≠some b∧y.u.ownBlock≠some b∧y.e.ownBlock≠some b):OwnH base (w.setCell ⟨b,j,none⟩ x) vf vr vm us vg gs H :=
 ⟨hp,owns_setne h.g hg x,h.l,fun i y g hy hgi=>by
   obtain⟨a,b,c⟩:=h.r i y g hy hgi
   obtain⟨a',b',c'⟩:=hr i y hy
   exact⟨a.setoff a' x,b.setoff b' x,c.setoff c' x⟩,h.t⟩
theorem OwnH.setlow {base:Nat} {w:World} {vf vr vm:Value} {us:List Value} {vg:Value} {gs:List Gv} {H:Ho} (h:OwnH base w vf vr vm us vg gs H) {b j:Nat} (hb:b<base) (x:Value):OwnH base (w.setCell ⟨b,j,none⟩ x) vf vr vm us vg gs H:=by
 have hn:∀ {e:TypeId} {size n:Nat} {v:Value} {xs:List Value},w.ownsRow base e size v n xs→v.ownBlock≠some b:=fun h e=>by have:=(h.lt b e).1;omega
 refine h.setoff x (h.p.setlow hb x) (hn h.g) (fun i y hy=>?_)
 obtain⟨g,hg⟩:=get_lt (xs:=H.G) (k:=i) (by rw[←h.l];exact lt_of_get hy)
 obtain⟨a,b,c⟩:=h.r i y g hy hg
 exact⟨hn a,hn b,hn c⟩
theorem OwnH.setbox {base B j:Nat} {w:World} {vf vr vm:Value} {us:List Value} {vg:Value} {gs:List Gv} {H:Ho} {cs:Array Value} {T:TypeId} (h:OwnH base w vf vr vm us vg gs H) (hB:HasBlock w B cs T) (hT:T≠9∧T≠3∧T≠23∧T≠4∧T≠49) (x:Value):OwnH base (w.setCell ⟨B,j,none⟩ x) vf vr vm us vg gs H:=by
 obtain⟨h1,h2,h3,h4,h5⟩:=hT
 refine h.setoff x (h.p.setbox hB h1 h2 h3 x) (own_off h.g hB h5) (fun i y hy=>?_)
 obtain⟨g,hg⟩:=get_lt (xs:=H.G) (k:=i) (by rw[←h.l];exact lt_of_get hy)
 obtain⟨a,b,c⟩:=h.r i y g hy hg
 exact⟨own_off a hB h1,own_off b hB h4,own_off c hB h4⟩
def Ho.setG (H:Ho) (i:Nat) (g:Gm):Ho:=⟨H.P,H.G.set i g,H.t,H.d,H.n⟩
theorem set_same {α:Type} {l:List α} {i:Nat} {x:α} (h:l[i]?=some x):l.set i x=l:=by
 apply List.ext_getElem?
 intro k
 rw[List.getElem?_set]
 split
 · rename_i e
   subst e
   rw[if_pos (lt_of_get h),h]
 · rfl
theorem OwnH.putS {base i b n c:Nat} {w:World} {vf vr vm:Value} {us:List Value} {vg:Value} {gs:List Gv} {H:Ho} {g:Gm} {x:Gv} (h:OwnH base w vf vr vm us vg gs H) (hg:H.G[i]?=some g) (hx:gs[i]?=some x) (hs:x.s=.slice (some ⟨b,0,none⟩) n c) (k:Nat) (s:ByteArray):OwnH base (w.setCell ⟨b,k,none⟩ (.string s)) vf vr vm us vg gs (H.setG i { g with s:=g.s.set k s }):=by
 have ho:=(h.r i x g hx hg).1
 rw[hs] at ho
 obtain⟨tag,t0,t1⟩:=h.t
 have hb:tag b=3*i+1:=(t1 i x hx).1 b (by rw[hs];rfl)
 have hi:=lt_of_get hg
 have hcell:gmFlat (H.G.set i { g with s:=g.s.set k s }) gs=gmFlat H.G gs:=by
  have e1:=gmFlat_set (x':=x) (g':={ g with s:=g.s.set k s }) h.l hg hx (show 0<9 by omega) (v:=.int .i64 g.c.r) rfl
  rw[set_same hx] at e1
  rw[e1]
  exact set_same ((gmFlat_at hg hx (show 0<9 by omega)).trans rfl)
 have hp:OwnP base (w.setCell ⟨b,k,none⟩ (.string s)) vf vr vm us H.P :=
  ⟨h.p.f.setoff (fun e=>by have:=t0 b e;omega) _,h.p.r.setoff (own_ne_type ho h.p.r (by decide) rfl) _,owns_setne h.p.m (own_ne_type ho h.p.m (by decide) rfl) _,⟨h.p.u.1,fun i u xs hu hx=>by
    have:=h.p.u.2.1 i u xs hu hx
    exact this.setoff (own_ne_type ho this (by decide) rfl) _,h.p.u.2.2⟩,h.p.ap⟩
 refine ⟨hp,?_,by rw[h.l];exact (List.length_set ..).symm,fun i2 y g2 hy hg2=>?_,h.t⟩
 · show World.ownsRow _ _ _ _ _ (H.G.set i _).length _
   rw[List.length_set]
   show World.ownsRow _ _ _ _ _ _ (gmFlat (H.G.set i _) gs)
   rw[hcell]
   exact owns_setne h.g (own_ne_type ho h.g (by decide) rfl) _
 · change (H.G.set i _)[i2]?=_ at hg2
   rw[List.getElem?_set] at hg2
   have hu:∀ z:Gm,H.G[i2]?=some z→OwnBool base (w.setCell ⟨b,k,none⟩ (.string s)) y.u z.u∧OwnBool base (w.setCell ⟨b,k,none⟩ (.string s)) y.e z.e:=fun z hz=>by
    obtain⟨_,a2,a3⟩:=h.r i2 y z hy hz
    exact⟨a2.setoff (own_ne_type ho a2 (by decide) rfl) _,a3.setoff (own_ne_type ho a3 (by decide) rfl) _⟩
   by_cases e:i=i2
   · subst e
     rw[if_pos rfl,if_pos hi] at hg2
     injection hg2 with hg2
     subst hg2
     rw[hx] at hy
     injection hy with hy
     subst hy
     refine ⟨?_,hu g hg⟩
     rw[hs]
     exact ho.put k s
   · rw[if_neg e] at hg2
     refine ⟨(h.r i2 y g2 hy hg2).1.setoff (fun e2=>?_) _,hu g2 hg2⟩
     have:=(t1 i2 y hy).1 b e2
     omega
theorem OwnH.putU {base i b n c:Nat} {w:World} {vf vr vm:Value} {us:List Value} {vg:Value} {gs:List Gv} {H:Ho} {g:Gm} {x:Gv} (h:OwnH base w vf vr vm us vg gs H) (hg:H.G[i]?=some g) (hx:gs[i]?=some x) (hs:x.u=.slice (some ⟨b,0,none⟩) n c) (k:Nat) (s:Bool):OwnH base (w.setCell ⟨b,k,none⟩ (.bool s)) vf vr vm us vg gs (H.setG i { g with u:=g.u.set k s }):=by
 have ho:=(h.r i x g hx hg).2.1
 rw[hs] at ho
 obtain⟨tag,t0,t1⟩:=h.t
 have hb:tag b=3*i+2:=(t1 i x hx).2.1 b (by rw[hs];rfl)
 have hi:=lt_of_get hg
 have hcell:gmFlat (H.G.set i { g with u:=g.u.set k s }) gs=gmFlat H.G gs:=by
  have e1:=gmFlat_set (x':=x) (g':={ g with u:=g.u.set k s }) h.l hg hx (show 0<9 by omega) (v:=.int .i64 g.c.r) rfl
  rw[set_same hx] at e1
  rw[e1]
  exact set_same ((gmFlat_at hg hx (show 0<9 by omega)).trans rfl)
 have hp:OwnP base (w.setCell ⟨b,k,none⟩ (.bool s)) vf vr vm us H.P :=
  ⟨h.p.f.setoff (own_ne_type ho h.p.f (by decide) rfl) _,h.p.r.setoff (own_ne_type ho h.p.r (by decide) rfl) _,owns_setne h.p.m (own_ne_type ho h.p.m (by decide) rfl) _,⟨h.p.u.1,fun i u xs hu hx=>by
    have:=h.p.u.2.1 i u xs hu hx
    exact this.setoff (own_ne_type ho this (by decide) rfl) _,h.p.u.2.2⟩,h.p.ap⟩
 refine ⟨hp,?_,by rw[h.l];exact (List.length_set ..).symm,fun i2 y g2 hy hg2=>?_,h.t⟩
 · show World.ownsRow _ _ _ _ _ (H.G.set i _).length _
   rw[List.length_set]
   show World.ownsRow _ _ _ _ _ _ (gmFlat (H.G.set i _) gs)
   rw[hcell]
   exact owns_setne h.g (own_ne_type ho h.g (by decide) rfl) _
 · change (H.G.set i _)[i2]?=_ at hg2
   rw[List.getElem?_set] at hg2
   have hu:∀ z:Gm,H.G[i2]?=some z→OwnStr base (w.setCell ⟨b,k,none⟩ (.bool s)) y.s z.s∧OwnBool base (w.setCell ⟨b,k,none⟩ (.bool s)) y.e z.e:=fun z hz=>by
    obtain⟨a1,_,a3⟩:=h.r i2 y z hy hz
    refine ⟨a1.setoff (own_ne_type ho a1 (by decide) rfl) _,a3.setoff (fun e2=>?_) _⟩
    have:=(t1 i2 y hy).2.2 b e2
    omega
   by_cases e:i=i2
   · subst e
     rw[if_pos rfl,if_pos hi] at hg2
     injection hg2 with hg2
     subst hg2
     rw[hx] at hy
     injection hy with hy
     subst hy
     refine ⟨(hu g hg).1,?_,(hu g hg).2⟩
     rw[hs]
     exact ho.put k s
   · rw[if_neg e] at hg2
     refine ⟨(hu g2 hg2).1,(h.r i2 y g2 hy hg2).2.1.setoff (fun e2=>?_) _,(hu g2 hg2).2⟩
     have:=(t1 i2 y hy).2.1 b e2
     omega
theorem OwnH.putE {base i b n c:Nat} {w:World} {vf vr vm:Value} {us:List Value} {vg:Value} {gs:List Gv} {H:Ho} {g:Gm} {x:Gv} (h:OwnH base w vf vr vm us vg gs H) (hg:H.G[i]?=some g) (hx:gs[i]?=some x) (hs:x.e=.slice (some ⟨b,0,none⟩) n c) (k:Nat) (s:Bool):OwnH base (w.setCell ⟨b,k,none⟩ (.bool s)) vf vr vm us vg gs (H.setG i { g with e:=g.e.set k s }):=by
 have ho:=(h.r i x g hx hg).2.2
 rw[hs] at ho
 obtain⟨tag,t0,t1⟩:=h.t
 have hb:tag b=3*i+3:=(t1 i x hx).2.2 b (by rw[hs];rfl)
 have hi:=lt_of_get hg
 have hcell:gmFlat (H.G.set i { g with e:=g.e.set k s }) gs=gmFlat H.G gs:=by
  have e1:=gmFlat_set (x':=x) (g':={ g with e:=g.e.set k s }) h.l hg hx (show 0<9 by omega) (v:=.int .i64 g.c.r) rfl
  rw[set_same hx] at e1
  rw[e1]
  exact set_same ((gmFlat_at hg hx (show 0<9 by omega)).trans rfl)
 have hp:OwnP base (w.setCell ⟨b,k,none⟩ (.bool s)) vf vr vm us H.P :=
  ⟨h.p.f.setoff (own_ne_type ho h.p.f (by decide) rfl) _,h.p.r.setoff (own_ne_type ho h.p.r (by decide) rfl) _,owns_setne h.p.m (own_ne_type ho h.p.m (by decide) rfl) _,⟨h.p.u.1,fun i u xs hu hx=>by
    have:=h.p.u.2.1 i u xs hu hx
    exact this.setoff (own_ne_type ho this (by decide) rfl) _,h.p.u.2.2⟩,h.p.ap⟩
 refine ⟨hp,?_,by rw[h.l];exact (List.length_set ..).symm,fun i2 y g2 hy hg2=>?_,h.t⟩
 · show World.ownsRow _ _ _ _ _ (H.G.set i _).length _
   rw[List.length_set]
   show World.ownsRow _ _ _ _ _ _ (gmFlat (H.G.set i _) gs)
   rw[hcell]
   exact owns_setne h.g (own_ne_type ho h.g (by decide) rfl) _
 · change (H.G.set i _)[i2]?=_ at hg2
   rw[List.getElem?_set] at hg2
   have hu:∀ z:Gm,H.G[i2]?=some z→OwnStr base (w.setCell ⟨b,k,none⟩ (.bool s)) y.s z.s∧OwnBool base (w.setCell ⟨b,k,none⟩ (.bool s)) y.u z.u:=fun z hz=>by
    obtain⟨a1,a2,_⟩:=h.r i2 y z hy hz
    refine ⟨a1.setoff (own_ne_type ho a1 (by decide) rfl) _,a2.setoff (fun e2=>?_) _⟩
    have:=(t1 i2 y hy).2.1 b e2
    omega
   by_cases e:i=i2
   · subst e
     rw[if_pos rfl,if_pos hi] at hg2
     injection hg2 with hg2
     subst hg2
     rw[hx] at hy
     injection hy with hy
     subst hy
     refine ⟨(hu g hg).1,(hu g hg).2,?_⟩
     rw[hs]
     exact ho.put k s
   · rw[if_neg e] at hg2
     refine ⟨(hu g2 hg2).1,(hu g2 hg2).2,(h.r i2 y g2 hy hg2).2.2.setoff (fun e2=>?_) _⟩
     have:=(t1 i2 y hy).2.2 b e2
     omega
theorem OwnH.setC {base i bG n c j:Nat} {w:World} {vf vr vm:Value} {us:List Value} {gs:List Gv} {H:Ho} {g g':Gm} {x x':Gv} {v:Value} (h:OwnH base w vf vr vm us (.slice (some ⟨bG,0,none⟩) n c) gs H) (hg:H.G[i]?=some g) (hx:gs[i]?=some x) (hj:j<9) (hc:gmCells g' x'=(gmCells g x).set j v)
    (hr:OwnStr base w x'.s g'.s∧OwnBool base w x'.u g'.u∧OwnBool base w x'.e g'.e)
    (ht:∃ tag:Nat→Nat,(∀ k,vf.ownBlock=some k→tag k=0)∧∀ (i2:Nat) (y:Gv),(gs.set i x')[i2]?=some y→(∀ k,y.s.ownBlock=some k→tag k=3*i2+1)∧(∀ k,y.u.ownBlock=some k→tag k=3*i2+2)∧(∀ k,y.e.ownBlock=some k→tag k=3*i2+3)) :
    OwnH base (w.setCell ⟨bG,i*9+j,none⟩ v) vf vr vm us (.slice (some ⟨bG,0,none⟩) n c) (gs.set i x') (H.setG i g'):=by
 have hG:=h.g
 have hi:=lt_of_get hg
 have hn:n=H.G.length:=by
  rcases hG.2 with ⟨e,_⟩|⟨_,_,_,e,_⟩
  · cases e
  · injection e
 subst hn
 have hp:OwnP base (w.setCell ⟨bG,i*9+j,none⟩ v) vf vr vm us H.P :=
  ⟨h.p.f.setoff (own_ne_type hG h.p.f (by decide) rfl) _,h.p.r.setoff (own_ne_type hG h.p.r (by decide) rfl) _,owns_setne h.p.m (own_ne_type hG h.p.m (by decide) rfl) _,⟨h.p.u.1,fun i u xs hu hx=>by
    have:=h.p.u.2.1 i u xs hu hx
    exact this.setoff (own_ne_type hG this (by decide) rfl) _,h.p.u.2.2⟩,h.p.ap⟩
 have hoff:∀ (y:Gv) (z:Gm),OwnStr base w y.s z.s∧OwnBool base w y.u z.u∧OwnBool base w y.e z.e→OwnStr base (w.setCell ⟨bG,i*9+j,none⟩ v) y.s z.s∧OwnBool base (w.setCell ⟨bG,i*9+j,none⟩ v) y.u z.u∧OwnBool base (w.setCell ⟨bG,i*9+j,none⟩ v) y.e z.e:=fun y z ⟨a1,a2,a3⟩ =>
  ⟨a1.setoff (own_ne_type hG a1 (by decide) rfl) _,a2.setoff (own_ne_type hG a2 (by decide) rfl) _,a3.setoff (own_ne_type hG a3 (by decide) rfl) _⟩
 refine ⟨hp,?_,by rw[List.length_set,h.l];exact (List.length_set ..).symm,fun i2 y g2 hy hg2=>?_,ht⟩
 · show World.ownsRow _ _ _ _ _ (H.G.set i _).length (gmFlat (H.G.set i _) _)
   rw[List.length_set,gmFlat_set h.l hg hx hj hc]
   exact (World.ownsRow.stored hG (i*9+j) v).1
 · change (H.G.set i _)[i2]?=_ at hg2
   rw[List.getElem?_set] at hg2 hy
   by_cases e:i=i2
   · subst e
     rw[if_pos rfl,if_pos hi] at hg2
     rw[if_pos rfl,if_pos (lt_of_get hx)] at hy
     injection hg2 with hg2
     injection hy with hy
     subst hg2 hy
     exact hoff _ _ hr
   · rw[if_neg e] at hg2 hy
     exact hoff _ _ (h.r i2 y g2 hy hg2)
def LtG (top:Nat) (gs:List Gv):Prop:=∀ (i:Nat) (x:Gv),gs[i]?=some x→(∀ k,x.s.ownBlock=some k→k<top)∧(∀ k,x.u.ownBlock=some k→k<top)∧(∀ k,x.e.ownBlock=some k→k<top)
structure LtH (top:Nat) (vf:Value) (gs:List Gv):Prop where
 f:∀ k,vf.ownBlock=some k→k<top
 g:∀ (i:Nat) (x:Gv),gs[i]?=some x→(∀ k,x.s.ownBlock=some k→k<top)∧(∀ k,x.u.ownBlock=some k→k<top)∧(∀ k,x.e.ownBlock=some k→k<top)
theorem OwnH.lt {base:Nat} {w:World} {vf vr vm:Value} {us:List Value} {vg:Value} {gs:List Gv} {H:Ho} (h:OwnH base w vf vr vm us vg gs H):LtH w.heap.size vf gs :=
 ⟨fun k hk=>(World.ownsRow.lt h.p.f.raw k hk).2,fun i x hx=>by
   obtain⟨g,hg⟩:=get_lt (xs:=H.G) (k:=i) (by rw[←h.l];exact lt_of_get hx)
   obtain⟨a,b,c⟩:=h.r i x g hx hg
   exact⟨fun k hk=>(World.ownsRow.lt a.raw k hk).2,fun k hk=>(World.ownsRow.lt b.raw k hk).2,fun k hk=>(World.ownsRow.lt c.raw k hk).2⟩⟩
theorem OwnH.ltG {base:Nat} {w:World} {vf vr vm:Value} {us:List Value} {vg:Value} {gs:List Gv} {H:Ho} (h:OwnH base w vf vr vm us vg gs H):LtG w.heap.size gs:=h.lt.g
theorem OwnH.tagSame {base i:Nat} {w:World} {vf vr vm:Value} {us:List Value} {vg:Value} {gs:List Gv} {H:Ho} {x:Gv} (h:OwnH base w vf vr vm us vg gs H) (hx:gs[i]?=some x):∃ tag:Nat→Nat,(∀ k,vf.ownBlock=some k→tag k=0)∧∀ (i2:Nat) (y:Gv),(gs.set i x)[i2]?=some y→(∀ k,y.s.ownBlock=some k→tag k=3*i2+1)∧(∀ k,y.u.ownBlock=some k→tag k=3*i2+2)∧(∀ k,y.e.ownBlock=some k→tag k=3*i2+3):=by
 rw[set_same hx]
 exact h.t
theorem OwnH.setHand {base i bG n c:Nat} {w:World} {vf vr vm:Value} {us:List Value} {gs:List Gv} {H:Ho} {g:Gm} {x:Gv} (h:OwnH base w vf vr vm us (.slice (some ⟨bG,0,none⟩) n c) gs H) (hg:H.G[i]?=some g) (hx:gs[i]?=some x) (v:Int):OwnH base (w.setCell ⟨bG,i*9+7,none⟩ (.int .i64 v)) vf vr vm us (.slice (some ⟨bG,0,none⟩) n c) gs (H.setG i { g with h:=v }):=by
 have:=h.setC (x':=x) (g':={ g with h:=v }) hg hx (show 7<9 by omega) (v:=.int .i64 v) rfl (h.r i x g hx hg) (h.tagSame hx)
 rwa[set_same hx] at this
theorem OwnH.setActive {base i bG n c:Nat} {w:World} {vf vr vm:Value} {us:List Value} {gs:List Gv} {H:Ho} {g:Gm} {x:Gv} (h:OwnH base w vf vr vm us (.slice (some ⟨bG,0,none⟩) n c) gs H) (hg:H.G[i]?=some g) (hx:gs[i]?=some x) (v:Int):OwnH base (w.setCell ⟨bG,i*9+4,none⟩ (.int .i64 v)) vf vr vm us (.slice (some ⟨bG,0,none⟩) n c) gs (H.setG i { g with c:={ g.c with a:=v } }):=by
 have:=h.setC (x':=x) (g':={ g with c:={ g.c with a:=v } }) hg hx (show 4<9 by omega) (v:=.int .i64 v) rfl (h.r i x g hx hg) (h.tagSame hx)
 rwa[set_same hx] at this
theorem OwnH.setUsed {base i bG n c B:Nat} {w:World} {vf vr vm:Value} {us:List Value} {gs:List Gv} {H:Ho} {g:Gm} {x:Gv} {vu:Value} {u:List Bool} (h:OwnH base w vf vr vm us (.slice (some ⟨bG,0,none⟩) n c) gs H) (hg:H.G[i]?=some g) (hx:gs[i]?=some x) (hlt:LtG B gs) (hu:OwnBool base w vu u) (hB:∀ k,vu.ownBlock=some k→B≤k):OwnH base (w.setCell ⟨bG,i*9+6,none⟩ vu) vf vr vm us (.slice (some ⟨bG,0,none⟩) n c) (gs.set i { x with u:=vu }) (H.setG i { g with u:=u }):=by
 obtain⟨a1,a2,a3⟩:=h.r i x g hx hg
 refine h.setC (x':={ x with u:=vu }) (g':={ g with u:=u }) hg hx (show 6<9 by omega) (v:=vu) rfl ⟨a1,hu,a3⟩ ?_
 obtain⟨tag,t0,t1⟩:=h.t
 refine ⟨fun k=>if vu.ownBlock=some k then 3*i+2 else tag k,fun k hk=>?_,fun i2 y hy=>?_⟩
 · dsimp only
   rw[if_neg (own_ne_type h.p.f hu (by decide) hk)]
   exact t0 k hk
 · rw[List.getElem?_set] at hy
   by_cases e:i=i2
   · subst e
     rw[if_pos rfl,if_pos (lt_of_get hx)] at hy
     injection hy with hy
     subst hy
     obtain⟨b1,b2,b3⟩:=t1 i x hx
     obtain⟨l1,l2,l3⟩:=hlt i x hx
     exact⟨fun k hk=>by dsimp only;rw[if_neg (fun e=>by have:=l1 k hk;have:=hB k e;omega)];exact b1 k hk,fun k hk=>if_pos hk,fun k hk=>by dsimp only;rw[if_neg (fun e=>by have:=l3 k hk;have:=hB k e;omega)];exact b3 k hk⟩
   · rw[if_neg e] at hy
     obtain⟨b1,b2,b3⟩:=t1 i2 y hy
     obtain⟨l1,l2,l3⟩:=hlt i2 y hy
     exact⟨fun k hk=>by dsimp only;rw[if_neg (fun e=>by have:=l1 k hk;have:=hB k e;omega)];exact b1 k hk,fun k hk=>by dsimp only;rw[if_neg (fun e=>by have:=l2 k hk;have:=hB k e;omega)];exact b2 k hk,fun k hk=>by dsimp only;rw[if_neg (fun e=>by have:=l3 k hk;have:=hB k e;omega)];exact b3 k hk⟩
theorem OwnH.setRecent {base i bG n c B:Nat} {w:World} {vf vr vm:Value} {us:List Value} {gs:List Gv} {H:Ho} {g:Gm} {x:Gv} {vu:Value} {u:List Bool} (h:OwnH base w vf vr vm us (.slice (some ⟨bG,0,none⟩) n c) gs H) (hg:H.G[i]?=some g) (hx:gs[i]?=some x) (hlt:LtG B gs) (hu:OwnBool base w vu u) (hB:∀ k,vu.ownBlock=some k→B≤k):OwnH base (w.setCell ⟨bG,i*9+8,none⟩ vu) vf vr vm us (.slice (some ⟨bG,0,none⟩) n c) (gs.set i { x with e:=vu }) (H.setG i { g with e:=u }):=by
 obtain⟨a1,a2,a3⟩:=h.r i x g hx hg
 refine h.setC (x':={ x with e:=vu }) (g':={ g with e:=u }) hg hx (show 8<9 by omega) (v:=vu) rfl ⟨a1,a2,hu⟩ ?_
 obtain⟨tag,t0,t1⟩:=h.t
 refine ⟨fun k=>if vu.ownBlock=some k then 3*i+3 else tag k,fun k hk=>?_,fun i2 y hy=>?_⟩
 · dsimp only
   rw[if_neg (own_ne_type h.p.f hu (by decide) hk)]
   exact t0 k hk
 · rw[List.getElem?_set] at hy
   by_cases e:i=i2
   · subst e
     rw[if_pos rfl,if_pos (lt_of_get hx)] at hy
     injection hy with hy
     subst hy
     obtain⟨b1,b2,b3⟩:=t1 i x hx
     obtain⟨l1,l2,l3⟩:=hlt i x hx
     exact⟨fun k hk=>by dsimp only;rw[if_neg (fun e=>by have:=l1 k hk;have:=hB k e;omega)];exact b1 k hk,fun k hk=>by dsimp only;rw[if_neg (fun e=>by have:=l2 k hk;have:=hB k e;omega)];exact b2 k hk,fun k hk=>if_pos hk⟩
   · rw[if_neg e] at hy
     obtain⟨b1,b2,b3⟩:=t1 i2 y hy
     obtain⟨l1,l2,l3⟩:=hlt i2 y hy
     exact⟨fun k hk=>by dsimp only;rw[if_neg (fun e=>by have:=l1 k hk;have:=hB k e;omega)];exact b1 k hk,fun k hk=>by dsimp only;rw[if_neg (fun e=>by have:=l2 k hk;have:=hB k e;omega)];exact b2 k hk,fun k hk=>by dsimp only;rw[if_neg (fun e=>by have:=l3 k hk;have:=hB k e;omega)];exact b3 k hk⟩
def Ho.setP (H:Ho) (P:Pl):Ho:=⟨P,H.G,H.t,H.d,H.n⟩
theorem OwnH.newPool {base B:Nat} {w:World} {vf vr vm vf' vr' vm':Value} {us us':List Value} {vg:Value} {gs:List Gv} {H:Ho} {P:Pl} (h:OwnH base w vf vr vm us vg gs H) (hp:OwnP base w vf' vr' vm' us' P) (hlt:LtG B gs) (hB:∀ k,vf'.ownBlock=some k→B≤k):OwnH base w vf' vr' vm' us' vg gs (H.setP P):=by
 obtain⟨tag,t0,t1⟩:=h.t
 refine ⟨hp,h.g,h.l,h.r,fun k=>if B≤k then 0 else tag k,fun k hk=>if_pos (hB k hk),fun i x hx=>?_⟩
 obtain⟨b1,b2,b3⟩:=t1 i x hx
 obtain⟨l1,l2,l3⟩:=hlt i x hx
 exact⟨fun k hk=>by dsimp only;rw[if_neg (by have:=l1 k hk;omega)];exact b1 k hk,fun k hk=>by dsimp only;rw[if_neg (by have:=l2 k hk;omega)];exact b2 k hk,fun k hk=>by dsimp only;rw[if_neg (by have:=l3 k hk;omega)];exact b3 k hk⟩
theorem OwnP.ge {base:Nat} {w:World} {vf vr vm:Value} {us:List Value} {P:Pl} (h:OwnP base w vf vr vm us P):∀ k,vf.ownBlock=some k→base≤k:=fun k hk=>(World.ownsRow.lt h.f.raw k hk).1
theorem OwnEnc.ge {α:Type} {enc:α→Value} {e:TypeId} {base:Nat} {w:World} {v:Value} {xs:List α} (h:OwnEnc enc e base w v xs):∀ k,v.ownBlock=some k→base≤k:=fun k hk=>(World.ownsRow.lt h.raw k hk).1
theorem OwnH.head {base:Nat} {w:World} {vf vr vm:Value} {us:List Value} {vg:Value} {gs:List Gv} {H H':Ho} (h:OwnH base w vf vr vm us vg gs H) (hp:H'.P=H.P) (hg:H'.G=H.G):OwnH base w vf vr vm us vg gs H':=by
 obtain⟨P,G,t,d,n⟩:=H
 obtain⟨P',G',t',d',n'⟩:=H'
 dsimp only at hp hg
 subst hp hg
 exact⟨h.p,h.g,h.l,h.r,h.t⟩
theorem OwnH.guest {base i:Nat} {w:World} {vf vr vm:Value} {us:List Value} {vg:Value} {gs:List Gv} {H:Ho} {g:Gm} (h:OwnH base w vf vr vm us vg gs H) (hg:H.G[i]?=some g) :
    ∃ bG cG x so sc uo uc eo ec,vg=.slice (some ⟨bG,0,none⟩) H.G.length cG∧base≤bG∧bG<w.heap.size∧gs[i]?=some x∧x.s=.slice so g.s.length sc∧x.u=.slice uo g.u.length uc∧x.e=.slice eo g.e.length ec ∧
     H.G.length≤cG∧cG≤9223372036854775807∧g.s.length≤sc∧sc≤9223372036854775807∧g.u.length≤uc∧uc≤9223372036854775807∧g.e.length≤ec∧ec≤9223372036854775807 ∧
     (∀ (j:Nat) (u:Value),(gmCells g x)[j]?=some u→w.cell? ⟨bG,i*9+j,none⟩=some u)∧(∀ j:Nat,w.frozen? ⟨bG,j,none⟩=false):=by
 have hi:=lt_of_get hg
 obtain⟨x,hx⟩:=get_lt (xs:=gs) (k:=i) (by rw[h.l];exact hi)
 obtain⟨a1,a2,a3⟩:=h.r i x g hx hg
 obtain⟨so,sc,e1,s1,s2⟩:=a1.form
 obtain⟨uo,uc,e2,u1,u2⟩:=a2.form
 obtain⟨eo,ec,e3,r1,r2⟩:=a3.form
 have hG:=h.g
 rcases hG.2 with ⟨_,e0⟩|⟨bG,cG,cur,e0,b1,b2,b3,b4,_⟩
 · omega
 · unfold maxLen at b4
   refine ⟨bG,cG,x,so,sc,uo,uc,eo,ec,e0,b1,(Array.getElem?_eq_some_iff.1 b2).1,hx,e1,e2,e3,b3,by omega,s1,s2,u1,u2,r1,r2,fun j u hu=>?_,fun j=>?_⟩
   · have hj:j<9:=lt_of_get hu
     subst e0
     have h1:=World.ownsRow.cellAt hG (i*9+j) (by omega)
     rw[h1,gmFlat_at hg hx hj]
     exact hu
   · subst e0
     exact World.ownsRow.frozenAt hG j
theorem HoRow.guest {i m k:Nat} {w:World} {vf vr vm:Value} {ao:Option Addr} {H:Ho} {g:Gm} (h:HoRow w vf vr vm (.slice ao m k) H) (hg:H.G[i]?=some g) :
    ∃ b off so sc uo uc eo ec,ao=some ⟨b,off,none⟩∧b<w.heap.size ∧
     g.s.length≤sc∧sc≤9223372036854775807∧g.u.length≤uc∧uc≤9223372036854775807∧g.e.length≤ec∧ec≤9223372036854775807 ∧
     (∀ (j:Nat) (u:Value),(gmCells g ⟨.slice so g.s.length sc,.slice uo g.u.length uc,.slice eo g.e.length ec⟩)[j]?=some u→w.cell? ⟨b,off+i*9+j,none⟩=some u)∧StrRow w (.slice so g.s.length sc) g.s∧BoolRow w (.slice uo g.u.length uc) g.u∧BoolRow w (.slice eo g.e.length ec) g.e:=by
 obtain⟨gs,h1,h2,h3⟩:=h.g
 have hi:=lt_of_get hg
 obtain⟨x,hx⟩:=get_lt (xs:=gs) (k:=i) (by omega)
 obtain⟨a1,a2,a3⟩:=h3 i x g hx hg
 obtain⟨so,sc,e1,s1,s2,_⟩:=a1.out
 obtain⟨uo,uc,e2,u1,u2,_⟩:=a2.out
 obtain⟨eo,ec,e3,r1,r2,_⟩:=a3.out
 unfold maxLen at s2 u2 r2
 obtain⟨xs,xu,xe⟩:=x
 dsimp only at e1 e2 e3 a1 a2 a3
 subst e1 e2 e3
 obtain⟨ao',cap,hv,_,_,h4⟩:=h2
 injection hv with e0
 subst e0
 have hne:gmFlat H.G gs≠[]:=fun e=>by
  have:=gmFlat_len h1
  rw[e] at this
  simp at this
  omega
 obtain⟨b,off,rfl,hb,hc⟩:=h4.resolve_left hne
 refine ⟨b,off,so,sc,uo,uc,eo,ec,rfl,hb,s1,by omega,u1,by omega,r1,by omega,fun j u hu=>?_,a1,a2,a3⟩
 have hj:j<9:=lt_of_get hu
 rw[Nat.add_assoc]
 exact hc (i*9+j) u ((gmFlat_at hg hx hj).trans hu)
theorem HoRow.form {w:World} {vf vr vm vg:Value} {H:Ho} (h:HoRow w vf vr vm vg H):∃ (og:Option Addr) (kg:Nat),vg=.slice og H.G.length kg∧H.G.length≤kg∧kg≤9223372036854775807:=by
 obtain⟨gs,_,h2,_⟩:=h.g
 obtain⟨og,kg,rfl,h3,h4,_⟩:=h2
 unfold maxLen at h4
 exact⟨og,kg,rfl,h3,by omega⟩
/-! counting in a map whose one page changes -/
theorem count_set {l:List Int} {p:Nat} {f x v:Int} (h:l[p]?=some f):(l.set p x).count v+(if f=v then 1 else 0)=l.count v+(if x=v then 1 else 0):=by
 induction l generalizing p with
 | nil=>simp at h
 | cons a l ih =>
   cases p with
   | zero =>
     simp at h
     subst h
     rw[List.set_cons_zero,List.count_cons,List.count_cons]
     simp only[beq_iff_eq]
     omega
   | succ p =>
     simp at h
     rw[List.set_cons_succ,List.count_cons,List.count_cons]
     have:=ih h
     omega
theorem flat_set {M:List (List Int)} {g:Nat} {l l':List Int} {v:Int} (h:M[g]?=some l):((M.set g l').flatten).count v+l.count v=M.flatten.count v+l'.count v:=by
 induction M generalizing g with
 | nil=>simp at h
 | cons a M ih =>
   cases g with
   | zero =>
     simp at h
     subst h
     rw[List.set_cons_zero,List.flatten_cons,List.flatten_cons,List.count_append,List.count_append]
     omega
   | succ g =>
     simp at h
     rw[List.set_cons_succ,List.flatten_cons,List.flatten_cons,List.count_append,List.count_append]
     have:=ih h
     omega
theorem Pl.setM_cnt {P:Pl} {g p:Nat} {l:List Int} {f x:Int} (hl:P.M[g]?=some l) (hp:l[p]?=some f) (v:Nat):(P.setM g p x).cnt v+(if f=(v:Int) then 1 else 0)=P.cnt v+(if x=(v:Int) then 1 else 0):=by
 unfold Pl.cnt Pl.setM
 dsimp only
 rw[Pl.pages_eq hl]
 have h1:=flat_set (M:=P.M) (g:=g) (l:=l) (l':=l.set p x) (v:=(v:Int)) hl
 have h2:=count_set (x:=x) (v:=(v:Int)) hp
 omega
def Pl.text (P:Pl) (g p:Nat):ByteArray:=if P.fr g p<0 then zeros128 else P.txt (P.fr g p).toNat
def Pl.at (P:Pl) (g p:Nat):Prop:=∃ l f,P.M[g]?=some l∧l[p]?=some f
theorem Pl.at_is {P:Pl} {g p:Nat} (h:P.at g p):P.is g p=true:=by
 obtain⟨l,f,hl,hp⟩:=h
 have h1:=lt_of_get hl
 have h2:=lt_of_get hp
 exact Pl.is_yes ⟨by omega,by omega,by omega,by rw[Int.toNat_natCast,Pl.pages_eq hl];omega⟩
theorem Pl.at_has {P:Pl} {g p:Nat} (H:P.Ok) (h:P.at g p):P.has g p=true:=by
 unfold Pl.has
 rw[Pl.ok_iff.2 H,Pl.at_is h]
 rfl
theorem Pl.read_eq {P:Pl} {g p:Nat} (H:P.Ok) (h:P.at g p):P.read g p=P.text g p:=by
 unfold Pl.read Pl.text
 rw[Pl.at_has H h,if_pos rfl,Int.toNat_natCast,Int.toNat_natCast]
theorem Pl.setM_fr {P:Pl} {g p:Nat} (h:P.at g p) (x:Int) (a b:Nat):(P.setM g p x).fr a b=if g=a∧p=b then x else P.fr a b:=by
 obtain⟨l,f,hl,hp⟩:=h
 unfold Pl.fr
 rw[Pl.setM_pages,Pl.pages_eq hl]
 by_cases e:g=a
 · subst e
   rw[if_pos ⟨rfl,lt_of_get hl⟩,Pl.pages_eq hl,List.getElem?_set]
   by_cases e2:p=b
   · subst e2
     rw[if_pos rfl,if_pos (lt_of_get hp),if_pos ⟨rfl,rfl⟩]
     rfl
   · rw[if_neg e2,if_neg (fun h=>e2 h.2)]
 · rw[if_neg (fun h=>e h.1),if_neg (fun h=>e h.1)]
theorem Pl.setM_at {P:Pl} {g p:Nat} (x:Int) (a b:Nat):(P.setM g p x).at a b↔P.at a b:=by
 have h1:∀ Q:Pl,Q.at a b↔(a<Q.M.length∧b<(Q.pages a).length):=by
  intro Q
  constructor
  · rintro⟨l,f,hl,hp⟩
    exact⟨lt_of_get hl,by rw[Pl.pages_eq hl];exact lt_of_get hp⟩
  · rintro⟨ha,hb⟩
    obtain⟨l,hl⟩:=get_lt ha
    rw[Pl.pages_eq hl] at hb
    obtain⟨f,hf⟩:=get_lt hb
    exact⟨l,f,hl,hf⟩
 rw[h1,h1,Pl.setM_pages]
 have e:(P.setM g p x).M.length=P.M.length:=List.length_set ..
 rw[e]
 split
 · rename_i h
   rw[List.length_set,h.1]
 · rfl
theorem Pl.cnt_of_fr {P:Pl} {a b j:Nat} (h:P.at a b) (hf:P.fr a b=(j:Int)):0<P.cnt j:=by
 obtain⟨l,f,hl,hp⟩:=h
 rw[Pl.fr_eq hl hp] at hf
 subst hf
 exact Pl.cnt_pos hl hp
theorem Pl.at_fr {P:Pl} {g p:Nat} (h:P.at g p):∃ l,P.M[g]?=some l∧l[p]?=some (P.fr g p):=by
 obtain⟨l,f,hl,hp⟩:=h
 exact⟨l,hl,by rw[Pl.fr_eq hl hp];exact hp⟩
theorem Pl.cnt_two {P:Pl} {g p a b j:Nat} (h:P.at g p) (h':P.at a b) (hne:¬(g=a∧p=b)) (hf:P.fr g p=(j:Int)) (hf':P.fr a b=(j:Int)):2≤P.cnt j:=by
 obtain⟨l,hl,hp⟩:=Pl.at_fr h
 have h1:=Pl.setM_cnt (x := -1) hl hp j
 have h2:0<(P.setM g p (-1)).cnt j:=Pl.cnt_of_fr ((Pl.setM_at (-1) a b).2 h') (by rw[Pl.setM_fr h,if_neg hne];exact hf')
 rw[if_pos hf,if_neg (by omega)] at h1
 omega
structure Pl.Alike (P Q:Pl):Prop where
 f:Q.F.length=P.F.length
 r:Q.R.length=P.R.length
 m:Q.M.length=P.M.length
 pg:∀ a,(Q.pages a).length=(P.pages a).length
theorem Pl.Alike.at {P Q:Pl} (h:P.Alike Q) (a b:Nat):Q.at a b↔P.at a b:=by
 have h1:∀ Q:Pl,Q.at a b↔(a<Q.M.length∧b<(Q.pages a).length):=by
  intro Q
  constructor
  · rintro⟨l,f,hl,hp⟩
    exact⟨lt_of_get hl,by rw[Pl.pages_eq hl];exact lt_of_get hp⟩
  · rintro⟨ha,hb⟩
    obtain⟨l,hl⟩:=get_lt ha
    rw[Pl.pages_eq hl] at hb
    obtain⟨f,hf⟩:=get_lt hb
    exact⟨l,f,hl,hf⟩
 rw[h1,h1,h.m,h.pg]
theorem Pl.Alike.refl (P:Pl):P.Alike P:=⟨rfl,rfl,rfl,fun _=>rfl⟩
theorem Pl.Alike.trans {P Q S:Pl} (h:P.Alike Q) (h':Q.Alike S):P.Alike S:=⟨h'.f.trans h.f,h'.r.trans h.r,h'.m.trans h.m,fun a=>(h'.pg a).trans (h.pg a)⟩
theorem Pl.setM_alike (P:Pl) (g p:Nat) (x:Int):P.Alike (P.setM g p x):=⟨rfl,rfl,List.length_set ..,fun a=>by
 rw[Pl.setM_pages]
 split
 · rename_i h
   rw[List.length_set,h.1]
 · rfl⟩
theorem Pl.setR_alike (P:Pl) (f:Nat) (x:Int):P.Alike (P.setR f x):=⟨rfl,List.length_set ..,rfl,fun _=>rfl⟩
theorem Pl.setF_alike (P:Pl) (f:Nat) (s:ByteArray):P.Alike (P.setF f s):=⟨List.length_set ..,rfl,rfl,fun _=>rfl⟩
theorem Pl.giveUp_alike (P:Pl) (g p:Nat):P.Alike (P.giveUp g p):=by
 unfold Pl.giveUp
 split
 · exact Pl.Alike.refl P
 · split
   · exact ((Pl.setM_alike P g p (-1)).trans (Pl.setR_alike _ _ _)).trans (Pl.setF_alike _ _ _)
   · exact (Pl.setM_alike P g p (-1)).trans (Pl.setR_alike _ _ _)
theorem Pl.Ok.of {P Q:Pl} (H:P.Ok) (h:P.Alike Q) (hp:∀ a b,Q.at a b → -1≤Q.fr a b∧Q.fr a b<P.F.length) (hf:∀ f,f<P.F.length→Q.frameP f):Q.Ok:=by
 refine ⟨by rw[h.f];exact H.n1,by rw[h.f];exact H.n2,by rw[h.r,h.f];exact H.r,by rw[h.m];exact H.m,fun l hl=>?_,fun l hl f hff=>?_,by rw[h.f];exact hf⟩
 · obtain⟨g,hg⟩:=List.getElem?_of_mem hl
   have hgl:=lt_of_get hg
   rw[h.m] at hgl
   obtain⟨l',hl'⟩:=get_lt hgl
   have e:=h.pg g
   rw[Pl.pages_eq hg,Pl.pages_eq hl'] at e
   rw[e]
   exact H.l l' (mem_at hl')
 · obtain⟨g,hg⟩:=List.getElem?_of_mem hl
   obtain⟨p,hpp⟩:=List.getElem?_of_mem hff
   have:=hp g p ⟨l,f,hg,hpp⟩
   rw[Pl.fr_eq hg hpp] at this
   rw[h.f]
   exact this
theorem Pl.Ok.at_bd {P:Pl} (H:P.Ok) {g p:Nat} (h:P.at g p) : -1≤P.fr g p∧P.fr g p<P.F.length:=by
 obtain⟨l,hl,hp⟩:=Pl.at_fr h
 exact H.page hl hp
structure Pl.Gave (P Q:Pl) (g p:Nat):Prop where
 al:P.Alike Q
 fr:∀ a b,Q.fr a b=if g=a∧p=b then -1 else P.fr a b
 cnt:∀ v:Nat,Q.cnt v+(if P.fr g p=(v:Int) then 1 else 0)=P.cnt v
 ref:∀ v:Nat,v<P.F.length→Q.ref v=Q.cnt v
 txt:∀ v:Nat,v<P.F.length→Q.F[v]?=if Q.cnt v=0 then some ⟨#[]⟩ else P.F[v]?
theorem empty_of_size {s:ByteArray} (h:s.size=0):s=⟨#[]⟩:=by
 cases s with
 | mk d =>
   have:d=#[]:=Array.eq_empty_of_size_eq_zero h
   rw[this]
theorem Pl.Ok.gave {P:Pl} (H:P.Ok) {g p:Nat} (h:P.at g p):P.Gave (P.giveUp g p) g p:=by
 obtain⟨l,hl,hp⟩:=Pl.at_fr h
 have hb:=H.at_bd h
 by_cases h0:P.fr g p<0
 · have hg:P.giveUp g p=P:=by unfold Pl.giveUp;rw[if_pos h0]
   rw[hg]
   refine ⟨Pl.Alike.refl P,fun a b=>?_,fun v=>?_,fun v hv=>H.ref_eq hv,fun v hv=>?_⟩
   · split
     · rename_i e
       rw[←e.1,←e.2]
       omega
     · rfl
   · rw[if_neg (by omega)]
     rfl
   · obtain⟨s,hs,_,h1,_⟩:=H.fr v hv
     rw[hs]
     split
     · rename_i e
       rw[empty_of_size (h1.1 e)]
     · rfl
 · obtain⟨j,hj⟩:∃ j:Nat,P.fr g p=j:=⟨(P.fr g p).toNat,by omega⟩
   have hjl:j<P.F.length:=by omega
   have hr:=H.ref_eq hjl
   have hal:=Pl.giveUp_alike P g p
   have hg:P.giveUp g p=if (P.cnt j:Int) - 1=0 then (((P.setM g p (-1)).setR j ((P.cnt j:Int) - 1)).setF j ⟨#[]⟩) else ((P.setM g p (-1)).setR j ((P.cnt j:Int) - 1)):=by
    unfold Pl.giveUp
    rw[if_neg h0,hj,Int.toNat_natCast,hr]
   have hM:∀ Q:Pl,Q=P.giveUp g p→(∀ a b,Q.fr a b=(P.setM g p (-1)).fr a b)∧(∀ v,Q.cnt v=(P.setM g p (-1)).cnt v):=by
    rintro Q rfl
    rw[hg]
    split <;> exact⟨fun _ _=>rfl,fun _=>rfl⟩
   obtain⟨e1,e2⟩:=hM _ rfl
   have hc:∀ v:Nat,(P.giveUp g p).cnt v+(if P.fr g p=(v:Int) then 1 else 0)=P.cnt v:=fun v=>by
    rw[e2]
    have:=Pl.setM_cnt (x := -1) hl hp v
    rw[if_neg (show ¬(-1:Int)=(v:Int) by omega)] at this
    exact this
   have hcj:=hc j
   rw[hj,if_pos rfl] at hcj
   refine ⟨hal,fun a b=>by rw[e1,Pl.setM_fr h],hc,fun v hv=>?_,fun v hv=>?_⟩
   · have hR:(P.giveUp g p).ref v=if v=j then (P.cnt j:Int) - 1 else P.ref v:=by
       rw[hg]
       have e:((P.setM g p (-1)).setR j ((P.cnt j:Int) - 1)).ref v=if v=j then (P.cnt j:Int) - 1 else P.ref v:=by
        unfold Pl.ref Pl.setR Pl.setM
        dsimp only
        rw[List.getElem?_set]
        by_cases ej:j=v
        · subst ej
          rw[if_pos rfl,if_pos (by rw[H.r];exact hjl),if_pos rfl]
          rfl
        · rw[if_neg ej,if_neg (fun e=>ej e.symm)]
       split <;> exact e
     rw[hR]
     split
     · rename_i e
       subst e
       omega
     · rename_i e
       have:=hc v
       rw[hj,if_neg (by omega)] at this
       rw[H.ref_eq hv]
       omega
   · obtain⟨s,hs,_,h1,_⟩:=H.fr v hv
     have hcv:=hc v
     rw[hj] at hcv
     by_cases ej:v=j
     · subst ej
       rw[if_pos rfl] at hcv
       rw[hg]
       by_cases e:(P.cnt v:Int) - 1=0
       · rw[if_pos e]
         have:(((P.setM g p (-1)).setR v ((P.cnt v:Int) - 1)).setF v ⟨#[]⟩).F[v]?=some ⟨#[]⟩:=by
          unfold Pl.setF
          dsimp only
          rw[List.getElem?_set,if_pos rfl]
          exact if_pos hjl
         rw[this,if_pos]
         have e4:(((P.setM g p (-1)).setR v ((P.cnt v:Int) - 1)).setF v ⟨#[]⟩).cnt v=(P.setM g p (-1)).cnt v:=rfl
         rw[e4,←e2]
         omega
       · rw[if_neg e,if_neg]
         · rfl
         · have e4:((P.setM g p (-1)).setR v ((P.cnt v:Int) - 1)).cnt v=(P.setM g p (-1)).cnt v:=rfl
           rw[e4,←e2]
           omega
     · rw[if_neg (by omega)] at hcv
       have hF:(P.giveUp g p).F[v]?=P.F[v]?:=by
        rw[hg]
        split
        · unfold Pl.setF
          dsimp only
          rw[List.getElem?_set,if_neg (fun e=>ej e.symm)]
          rfl
        · rfl
       rw[hF,hs]
       split
       · rename_i e
         rw[empty_of_size (h1.1 (by omega))]
       · rfl
theorem Pl.Gave.ok {P Q:Pl} (H:P.Ok) {g p:Nat} (G:P.Gave Q g p):Q.Ok:=by
 refine H.of G.al (fun a b hab=>?_) (fun f hf=>?_)
 · have hab':=(G.al.at a b).1 hab
   rw[G.fr]
   split
   · have:=H.n1;omega
   · exact H.at_bd hab'
 · obtain⟨s,hs,hx,h1,h2⟩:=H.fr f hf
   have ht:=G.txt f hf
   have hr:=G.ref f hf
   have hR:Q.R[f]?=some ((Q.cnt f:Nat):Int):=by
    obtain⟨x,hx⟩:=get_lt (xs:=Q.R) (k:=f) (by rw[G.al.r,H.r];exact hf)
    unfold Pl.ref at hr
    rw[hx] at hr ⊢
    exact congrArg some hr
   by_cases e:Q.cnt f=0
   · rw[if_pos e] at ht
     exact⟨_,ht,hR,⟨fun _=>rfl,fun _=>e⟩,.inl rfl⟩
   · rw[if_neg e,hs] at ht
     have hc:=G.cnt f
     refine ⟨s,ht,hR,⟨fun h=>absurd h e,fun h=>?_⟩,h2⟩
     have:=h1.2 h
     omega
theorem Pl.Gave.text {P Q:Pl} (H:P.Ok) {g p:Nat} (G:P.Gave Q g p) {a b:Nat} (h':P.at a b):Q.text a b=if g=a∧p=b then zeros128 else P.text a b:=by
 unfold Pl.text
 rw[G.fr]
 by_cases e:g=a∧p=b
 · rw[if_pos e,if_pos e,if_pos (by omega)]
 · rw[if_neg e,if_neg e]
   by_cases h0:P.fr a b<0
   · rw[if_pos h0,if_pos h0]
   · rw[if_neg h0,if_neg h0]
     obtain⟨j,hj⟩:∃ j:Nat,P.fr a b=j:=⟨(P.fr a b).toNat,by omega⟩
     have hb:=H.at_bd h'
     rw[hj,Int.toNat_natCast]
     have hc:Q.cnt j≠0:=by
      have h1:0<Q.cnt j:=Pl.cnt_of_fr ((G.al.at a b).2 h') (by rw[G.fr,if_neg e];exact hj)
      omega
     have ht:=G.txt j (by omega)
     rw[if_neg hc] at ht
     unfold Pl.txt
     rw[ht]
structure Pl.Put (Q S:Pl) (g p i:Nat) (d:ByteArray):Prop where
 al:Q.Alike S
 fr:∀ a b,S.fr a b=if g=a∧p=b then (i:Int) else Q.fr a b
 cnt:∀ v:Nat,S.cnt v=Q.cnt v+(if v=i then 1 else 0)
 ref:∀ v:Nat,v<Q.F.length→S.R[v]?=some ((S.cnt v:Nat):Int)
 txt:∀ v:Nat,v<Q.F.length→S.F[v]?=if v=i then some d else Q.F[v]?
theorem Pl.put_of {Q:Pl} (H:Q.Ok) {g p i:Nat} {d:ByteArray} (h:Q.at g p) (hf:Q.fr g p = -1) (hi:i<Q.F.length) {x:Int} (hx:x=Q.cnt i+1) (T:Pl) (hM:T.M=(Q.setM g p i).M) (hR:T.R=Q.R.set i x) (hl:T.F.length=Q.F.length) (hF:∀ v:Nat,v<Q.F.length→T.F[v]?=if v=i then some d else Q.F[v]?):Q.Put T g p i d:=by
 obtain⟨l,hl',hp⟩:=Pl.at_fr h
 have hpg:∀ a,T.pages a=(Q.setM g p i).pages a:=fun a=>by unfold Pl.pages;rw[hM]
 have hc:∀ v:Nat,T.cnt v=Q.cnt v+(if v=i then 1 else 0):=fun v=>by
  have h1:=Pl.setM_cnt (x:=(i:Int)) hl' hp v
  have e:T.cnt v=(Q.setM g p i).cnt v:=by unfold Pl.cnt;rw[hM]
  rw[e]
  rw[hf,if_neg (show ¬(-1:Int)=(v:Int) by omega)] at h1
  by_cases ev:v=i
  · subst ev
    rw[if_pos rfl] at h1 ⊢
    omega
  · rw[if_neg (by omega)] at h1
    rw[if_neg ev]
    omega
 have hal:=Pl.setM_alike Q g p i
 refine ⟨⟨hl,by rw[hR];exact List.length_set ..,by rw[hM];exact hal.m,fun a=>by rw[hpg];exact hal.pg a⟩,fun a b=>?_,hc,fun v hv=>?_,hF⟩
 · have e:T.fr a b=(Q.setM g p i).fr a b:=by unfold Pl.fr;rw[hpg]
   rw[e,Pl.setM_fr h]
 · rw[hc]
   obtain⟨s,_,hxv,_⟩:=H.fr v hv
   rw[hR,List.getElem?_set]
   by_cases ev:v=i
   · subst ev
     rw[if_pos rfl,if_pos (by rw[H.r];exact hi),if_pos rfl,hx]
     rfl
   · rw[if_neg (fun e=>ev e.symm),if_neg ev,hxv,Nat.add_zero]
theorem Pl.Put.ok {Q S:Pl} (H:Q.Ok) {g p i:Nat} {d:ByteArray} (hi:i<Q.F.length) (G:Q.Put S g p i d) (hd:d.size=128∧zeroB d=false):S.Ok:=by
 refine H.of G.al (fun a b hab=>?_) (fun f hf=>?_)
 · have hab':=(G.al.at a b).1 hab
   rw[G.fr]
   split
   · omega
   · exact H.at_bd hab'
 · obtain⟨s,hs,hx,h1,h2⟩:=H.fr f hf
   have ht:=G.txt f hf
   have hR:=G.ref f hf
   have hc:=G.cnt f
   by_cases e:f=i
   · rw[if_pos e] at ht hc
     exact⟨d,ht,hR,⟨fun h=>by omega,fun h=>by omega⟩,.inr hd⟩
   · rw[if_neg e] at ht hc
     rw[hs] at ht
     refine ⟨s,ht,hR,?_,h2⟩
     rw[hc,Nat.add_zero]
     exact h1
theorem Pl.Put.text {Q S:Pl} (H:Q.Ok) {g p i:Nat} {d:ByteArray} (hi:i<Q.F.length) (G:Q.Put S g p i d) (hd:Q.cnt i=0∨Q.F[i]?=some d) {a b:Nat} (h':Q.at a b):S.text a b=if g=a∧p=b then d else Q.text a b:=by
 unfold Pl.text
 rw[G.fr]
 by_cases e:g=a∧p=b
 · rw[if_pos e,if_pos e,if_neg (by omega),Int.toNat_natCast]
   unfold Pl.txt
   rw[G.txt i hi,if_pos rfl]
   rfl
 · rw[if_neg e,if_neg e]
   by_cases h0:Q.fr a b<0
   · rw[if_pos h0,if_pos h0]
   · rw[if_neg h0,if_neg h0]
     obtain⟨j,hj⟩:∃ j:Nat,Q.fr a b=j:=⟨(Q.fr a b).toNat,by omega⟩
     have hb:=H.at_bd h'
     rw[hj,Int.toNat_natCast]
     unfold Pl.txt
     rw[G.txt j (by omega)]
     split
     · rename_i ev
       subst ev
       have:0<Q.cnt j:=Pl.cnt_of_fr h' hj
       rcases hd with hd|hd
       · omega
       · rw[hd]
     · rfl
end Go.Proofs.YtbnngjhnkegliaaGreat
