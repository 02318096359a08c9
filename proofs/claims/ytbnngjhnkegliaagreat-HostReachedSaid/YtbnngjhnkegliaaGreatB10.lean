/-
  Texts joined: HoFns2 HoPush HoSmall HrValid. No law is proved here.
-/
import Derived.Test.YtbnngjhnkegliaaGreatB9
namespace Go.Proofs.YtbnngjhnkegliaaGreat
open Go.RowKit
set_option maxHeartbeats 2000000 in
theorem hhasG_ok (v:Value) (H:Ho) (i:Nat) (w:World) (ha:HoAt w v H) (hok:H.Ok) (hi:i<H.G.length):Calls Tryz.prog 50 #[v,.int .i64 i] w (Ret w (.bool true)):=by
 have V:=fun v w h=>hvalid_ok v H w h hok
 have HV:=lh V;clear V
 obtain⟨of,or',om,og,kf,kr,km,kg,n,r,m,q,tx,dx,sx,HN,HR,HM,HQ,HT,HD,HS,rfl,kf1,kf2,kr1,kr2,km1,km2,kg1,kg2,h⟩:=HoAt.opened ha
 rw[HQ.out] at hi
 have h0:=h
 have HA:Hid (∀ w':World,Below w.heap.size w w'→HoAt w' (.agg #[.slice of n kf,.slice or' r kr,.slice om m km,.slice og q kg,.int .i64 tx,.int .u64 dx,.int .i64 sx]) H):=lh (fun w' hb=>by
  have:=(h0.below hb).at_
  rwa[HT.out,HD.out,HS.out] at this)
 have D1:=HasBlock.made w #[.slice of n kf,.slice or' r kr,.slice om m km,.slice og q kg,.int .i64 tx,.int .u64 dx,.int .i64 sx] 30
 have hbw:Below w.heap.size w (w.alloc (.cells #[.slice of n kf,.slice or' r kr,.slice om m km,.slice og q kg,.int .i64 tx,.int .u64 dx,.int .i64 sx] 30)):=(Below.refl _ _).alloc (nlr _) _
 replace h:=h.below hbw
 go_enter Tryz.func50,Tryz.ntmps50
 obtain⟨D1_c,D1_f,D1_z⟩:=D1.all
 go_wp2_with fail
 clear D1_c D1_f D1_z
 with_reducible refine (HV.out _ _ (HA.out _ hbw)).mono ?_
 rintro e w1 ⟨rfl,hbk⟩
 replace D1:=D1.below hbk
 replace h:=h.below hbk
 replace hbw:=hbw.trans (hbk.mono hbw.size)
 clear hbk
 have iq:(i:Int)<(q:Int):=by omega
 obtain⟨D1_c,D1_f,D1_z⟩:=D1.all
 go_wp2_with fail
 go_ret
 exact Ret.mk hbw
theorem Ho.Ok.at_lt {H:Ho} (hok:H.Ok) {i p:Nat} (hat:H.P.at i p):i<H.G.length:=by
 obtain⟨l,f,hl,hp⟩:=hat
 rw[hok.m]
 exact lt_of_get hl
set_option maxHeartbeats 2000000 in
theorem hhas_ok (v:Value) (H:Ho) (i p:Nat) (w:World) (ha:HoAt w v H) (hok:H.Ok) (hat:H.P.at i p):Calls Tryz.prog 44 #[v,.int .i64 i,.int .i64 p] w (Ret w (.bool true)):=by
 have V:=fun v w h=>hhasG_ok v H i w h hok (hok.at_lt hat)
 have HV:=lh V;clear V
 obtain⟨l,f,hl,hp⟩:=hat
 obtain⟨of,or',om,og,kf,kr,km,kg,n,r,m,q,tx,dx,sx,HN,HR,HM,HQ,HT,HD,HS,rfl,kf1,kf2,kr1,kr2,km1,km2,kg1,kg2,h⟩:=HoAt.opened ha
 have hi:i<m:=by rw[←HM.out];exact lt_of_get hl
 have hpl:=lt_of_get hp
 have h0:=h
 have HA:Hid (∀ w':World,Below w.heap.size w w'→HoAt w' (.agg #[.slice of n kf,.slice or' r kr,.slice om m km,.slice og q kg,.int .i64 tx,.int .u64 dx,.int .i64 sx]) H):=lh (fun w' hb=>by
  have:=(h0.below hb).at_
  rwa[HT.out,HD.out,HS.out] at this)
 have D1:=HasBlock.made w #[.slice of n kf,.slice or' r kr,.slice om m km,.slice og q kg,.int .i64 tx,.int .u64 dx,.int .i64 sx] 30
 have hbw:Below w.heap.size w (w.alloc (.cells #[.slice of n kf,.slice or' r kr,.slice om m km,.slice og q kg,.int .i64 tx,.int .u64 dx,.int .i64 sx] 30)):=(Below.refl _ _).alloc (nlr _) _
 replace h:=h.below hbw
 obtain⟨mb,moff,lo,lc,rfl,hmb,cm0,lc1,lc2,hL⟩:=h0.p.guest hl
 clear hL
 obtain⟨ql,hql⟩:∃ x,l.length=x:=⟨_,rfl⟩
 rw[hql] at cm0 lc1 hpl
 clear hl hp hql h0
 go_enter Tryz.func44,Tryz.ntmps44
 obtain⟨D1_c,D1_f,D1_z⟩:=D1.all
 go_wp2_with fail
 clear D1_c D1_f D1_z
 with_reducible refine (HV.out _ _ (HA.out _ hbw)).mono ?_
 rintro e w1 ⟨rfl,hbk⟩
 replace D1:=D1.below hbk
 replace h:=h.below hbk
 replace hbw:=hbw.trans (hbk.mono hbw.size)
 clear hbk
 have iq:(i:Int)<(m:Int):=by omega
 have pq:(p:Int)<(ql:Int):=by omega
 have cm:=(hbw.cell (p:=⟨mb,moff+i,none⟩) hmb).trans cm0
 obtain⟨D1_c,D1_f,D1_z⟩:=D1.all
 go_wp2_with fail
 go_ret
 exact Ret.mk hbw
def Pl.need (P:Pl) (i p:Nat):Bool:=decide (P.fr i p<0) || decide (1<P.ref (P.fr i p).toNat)
set_option maxHeartbeats 2000000 in
theorem hneed_ok (v:Value) (H:Ho) (i p:Nat) (w:World) (ha:HoAt w v H) (hok:H.P.Ok) (hat:H.P.at i p):Calls Tryz.prog 46 #[v,.int .i64 i,.int .i64 p] w (Ret w (.bool (H.P.need i p))):=by
 have hbd:=hok.at_bd hat
 obtain⟨l,f,hl,hp⟩:=hat
 have hfr:=Pl.fr_eq hl hp
 unfold Pl.need
 rw[hfr] at hbd ⊢
 have hrl:=hok.r
 have hcl:=fun j=>hok.cnt_le j
 have hrc:∀ j:Nat,j<H.P.F.length→∃ x,H.P.R[j]?=some x∧H.P.ref j=x:=fun j hj=>by
  obtain⟨x,hx⟩:=get_lt (xs:=H.P.R) (k:=j) (by rw[hrl];exact hj)
  exact⟨x,hx,by unfold Pl.ref;rw[hx];rfl⟩
 obtain⟨of,or',om,og,kf,kr,km,kg,n,r,m,q,tx,dx,sx,HN,HR,HM,HQ,HT,HD,HS,rfl,kf1,kf2,kr1,kr2,km1,km2,kg1,kg2,h⟩:=HoAt.opened ha
 have hi:i<m:=by rw[←HM.out];exact lt_of_get hl
 have hpl:=lt_of_get hp
 have h0:=h
 have D1:=HasBlock.made w #[.slice of n kf,.slice or' r kr,.slice om m km,.slice og q kg,.int .i64 tx,.int .u64 dx,.int .i64 sx] 30
 have hbw:Below w.heap.size w (w.alloc (.cells #[.slice of n kf,.slice or' r kr,.slice om m km,.slice og q kg,.int .i64 tx,.int .u64 dx,.int .i64 sx] 30)):=(Below.refl _ _).alloc (nlr _) _
 replace h:=h.below hbw
 obtain⟨mb,moff,lo,lc,rfl,hmb,cm0,lc1,lc2,hL⟩:=h0.p.guest hl
 obtain⟨fb,foff,rfl,hfb,cf0⟩:=hL.elem hp
 clear hL
 obtain⟨ql,hql⟩:∃ x,l.length=x:=⟨_,rfl⟩
 rw[hql] at cm0 lc1 hpl
 rw[HN.out] at hbd hrc
 rw[HR.out,HN.out] at hrl
 have HRL:=lh hrl;clear hrl
 clear hl hp hql hfr hok hcl
 have i0:(0:Int)≤(i:Int):=by omega
 have iq:(i:Int)<(m:Int):=by omega
 have p0:(0:Int)≤(p:Int):=by omega
 have pq:(p:Int)<(ql:Int):=by omega
 by_cases hf:f<0
 · rw[decide_eq_true hf,Bool.true_or]
   clear hrc h0
   have cm:=(hbw.cell (p:=⟨mb,moff+i,none⟩) hmb).trans cm0
   have cf:=(hbw.cell (p:=⟨fb,foff+p,none⟩) hfb).trans cf0
   go_enter Tryz.func46,Tryz.ntmps46
   go_wp2_with fail
   go_ret
   exact Ret.mk hbw
 · rw[decide_eq_false hf,Bool.false_or]
   obtain⟨j,rfl⟩:∃ j:Nat,f=j:=⟨f.toNat,by omega⟩
   rw[Int.toNat_natCast]
   obtain⟨x,hx,hx2⟩:=hrc j (by omega)
   rw[hx2]
   obtain⟨rb,roff,rfl,hrb,cr0⟩:=h0.p.parts.2.1.elem hx
   clear hrc hx hx2 h0
   have jr:(j:Int)<(r:Int):=by have:=HRL.out;omega
   have cm:=(hbw.cell (p:=⟨mb,moff+i,none⟩) hmb).trans cm0
   have cf:=(hbw.cell (p:=⟨fb,foff+p,none⟩) hfb).trans cf0
   have cr:=(hbw.cell (p:=⟨rb,roff+j,none⟩) hrb).trans cr0
   go_enter Tryz.func46,Tryz.ntmps46
   go_wp2_with fail
   go_ret
   exact Ret.mk hbw
def Ho.full (H:Ho) (i p:Nat):Bool:=decide (H.P.freeN=0) && H.P.need i p
set_option maxHeartbeats 2000000 in
theorem hfull_ok (v:Value) (H:Ho) (i p:Nat) (w:World) (ha:HoAt w v H) (hok:H.P.Ok) (hat:H.P.at i p):Calls Tryz.prog 80 #[v,.int .i64 i,.int .i64 p] w (Ret w (.bool (H.full i p))):=by
 have FR:=fun v w h=>pfree_any v H.P w h hok.fit
 have hfree:H.P.free=H.P.freeN:=by unfold Pl.free;rw[Pl.ok_iff.2 hok,if_pos rfl]
 rw[hfree] at FR
 have V:=fun v w h=>hneed_ok v H i p w h hok hat
 unfold Ho.full
 obtain⟨x,hx⟩:∃ x,H.P.freeN=x:=⟨_,rfl⟩
 obtain⟨b,hb⟩:∃ x,H.P.need i p=x:=⟨_,rfl⟩
 rw[hx] at FR ⊢
 rw[hb] at V ⊢
 have HV:=lh V;clear V
 have HF:=lh FR;clear FR hok hat hfree hx hb
 obtain⟨of,or',om,og,kf,kr,km,kg,n,r,m,q,tx,dx,sx,HN,HR,HM,HQ,HT,HD,HS,rfl,kf1,kf2,kr1,kr2,km1,km2,kg1,kg2,h⟩:=HoAt.opened ha
 have h0:=h
 have HA:Hid (∀ w':World,Below w.heap.size w w'→HoAt w' (.agg #[.slice of n kf,.slice or' r kr,.slice om m km,.slice og q kg,.int .i64 tx,.int .u64 dx,.int .i64 sx]) H):=lh (fun w' hb=>by
  have:=(h0.below hb).at_
  rwa[HT.out,HD.out,HS.out] at this)
 clear h0
 have D1:=HasBlock.made w #[.slice of n kf,.slice or' r kr,.slice om m km,.slice og q kg,.int .i64 tx,.int .u64 dx,.int .i64 sx] 30
 have hbw:Below w.heap.size w (w.alloc (.cells #[.slice of n kf,.slice or' r kr,.slice om m km,.slice og q kg,.int .i64 tx,.int .u64 dx,.int .i64 sx] 30)):=(Below.refl _ _).alloc (nlr _) _
 replace h:=h.below hbw
 by_cases h0:x=0
 · rw[decide_eq_true h0,Bool.true_and]
   have e1:((x:Int) == 0)=true:=by rw[beq_iff_eq];omega
   have e2:(x == 0)=true:=by rw[beq_iff_eq];omega
   clear h0
   go_enter Tryz.func80,Tryz.ntmps80
   obtain⟨D1_c,D1_f,D1_z⟩:=D1.all
   go_wp2_with fail
   clear D1_c D1_f D1_z
   with_reducible refine (HF.out _ _ h.p).mono ?_
   rintro e w1 ⟨rfl,hbk⟩
   replace D1:=D1.below hbk
   replace h:=h.below hbk
   replace hbw:=hbw.trans (hbk.mono hbw.size)
   clear hbk
   obtain⟨D1_c,D1_f,D1_z⟩:=D1.all
   go_wp2_with fail
   clear D1_c D1_f D1_z
   with_reducible refine (HV.out _ _ (HA.out _ hbw)).mono ?_
   rintro e w2 ⟨rfl,hbk⟩
   replace D1:=D1.below hbk
   replace h:=h.below hbk
   replace hbw:=hbw.trans (hbk.mono hbw.size)
   clear hbk
   obtain⟨D1_c,D1_f,D1_z⟩:=D1.all
   go_wp2_with fail
   go_ret
   exact Ret.mk hbw
 · rw[decide_eq_false h0,Bool.false_and]
   have e1:((x:Int) == 0)=false:=by rw[beq_eq_false_iff_ne];omega
   have e2:(x == 0)=false:=by rw[beq_eq_false_iff_ne];omega
   clear h0
   go_enter Tryz.func80,Tryz.ntmps80
   obtain⟨D1_c,D1_f,D1_z⟩:=D1.all
   go_wp2_with fail
   clear D1_c D1_f D1_z
   with_reducible refine (HF.out _ _ h.p).mono ?_
   rintro e w1 ⟨rfl,hbk⟩
   replace D1:=D1.below hbk
   replace h:=h.below hbk
   replace hbw:=hbw.trans (hbk.mono hbw.size)
   clear hbk
   obtain⟨D1_c,D1_f,D1_z⟩:=D1.all
   go_wp2_with fail
   go_ret
   exact Ret.mk hbw
section
variable {w:World} {b:Nat} {T:TypeId} {x0 x1 x2 x3 x4 x5 x6:Value}
theorem HasBlock.put7_0 (h:HasBlock w b #[x0,x1,x2,x3,x4,x5,x6] T) (v:Value):HasBlock (w.setCell ⟨b,0,none⟩ v) b #[v,x1,x2,x3,x4,x5,x6] T:=by simpa using h.set_at 0 v
theorem HasBlock.put7_1 (h:HasBlock w b #[x0,x1,x2,x3,x4,x5,x6] T) (v:Value):HasBlock (w.setCell ⟨b,1,none⟩ v) b #[x0,v,x2,x3,x4,x5,x6] T:=by simpa using h.set_at 1 v
theorem HasBlock.put7_2 (h:HasBlock w b #[x0,x1,x2,x3,x4,x5,x6] T) (v:Value):HasBlock (w.setCell ⟨b,2,none⟩ v) b #[x0,x1,v,x3,x4,x5,x6] T:=by simpa using h.set_at 2 v
theorem HasBlock.put7_3 (h:HasBlock w b #[x0,x1,x2,x3,x4,x5,x6] T) (v:Value):HasBlock (w.setCell ⟨b,3,none⟩ v) b #[x0,x1,x2,v,x4,x5,x6] T:=by simpa using h.set_at 3 v
theorem HasBlock.put7_5 (h:HasBlock w b #[x0,x1,x2,x3,x4,x5,x6] T) (v:Value):HasBlock (w.setCell ⟨b,5,none⟩ v) b #[x0,x1,x2,x3,x4,v,x6] T:=by simpa using h.set_at 5 v
theorem HasBlock.put7_6 (h:HasBlock w b #[x0,x1,x2,x3,x4,x5,x6] T) (v:Value):HasBlock (w.setCell ⟨b,6,none⟩ v) b #[x0,x1,x2,x3,x4,x5,v] T:=by simpa using h.set_at 6 v
theorem HasBlock.poolIn (h:HasBlock w b #[x0,x1,x2,x3,x4,x5,x6] T) (u v z:Value):HasBlock (((w.setCell ⟨b,0,none⟩ u).setCell ⟨b,1,none⟩ v).setCell ⟨b,2,none⟩ z) b #[u,v,z,x3,x4,x5,x6] T:=((h.put7_0 u).put7_1 v).put7_2 z
end
theorem HasBlock.put9_5 {w:World} {b:Nat} {T:TypeId} {x0 x1 x2 x3 x4 x5 x6 x7 x8:Value} (h:HasBlock w b #[x0,x1,x2,x3,x4,x5,x6,x7,x8] T) (v:Value):HasBlock (w.setCell ⟨b,5,none⟩ v) b #[x0,x1,x2,x3,x4,v,x6,x7,x8] T:=by simpa using h.set_at 5 v
theorem HasBlock.put9_6 {w:World} {b:Nat} {T:TypeId} {x0 x1 x2 x3 x4 x5 x6 x7 x8:Value} (h:HasBlock w b #[x0,x1,x2,x3,x4,x5,x6,x7,x8] T) (v:Value):HasBlock (w.setCell ⟨b,6,none⟩ v) b #[x0,x1,x2,x3,x4,x5,v,x7,x8] T:=by simpa using h.set_at 6 v
theorem gmFlat_push {G:List Gm} {gs:List Gv} (h:gs.length=G.length) (g:Gm) (x:Gv):gmFlat (G++[g]) (gs++[x])=gmFlat G gs++gmCells g x:=by
 unfold gmFlat
 rw[List.zipWith_append h.symm]
 simp
theorem OwnH.pushG {base B:Nat} {w w':World} {vf vr vm:Value} {us:List Value} {vg vg':Value} {gs:List Gv} {P:Pl} {G:List Gm} {t d n:Int} {g:Gm} {x:Gv} (h:OwnH base w vf vr vm us vg gs ⟨P,G,t,d,n⟩)
    (hs:OwnStr base w x.s g.s) (hu:OwnBool base w x.u g.u) (he:OwnBool base w x.e g.e) (hlt:LtH B vf gs)
    (b1:∀ k,x.s.ownBlock=some k→B≤k) (b2:∀ k,x.u.ownBlock=some k→B≤k) (b3:∀ k,x.e.ownBlock=some k→B≤k) (hne:∀ k,x.u.ownBlock=some k→x.e.ownBlock≠some k)
    (hown:w'.ownsRow base 49 9 vg' (G.length+1) (gmFlat G gs++gmCells g x)) (hg:w.grownBy w' vg.ownBlock):OwnH base w' vf vr vm us vg' (gs++[x]) ⟨P,G++[g],t,d,n⟩:=by
 have off:∀ {e:TypeId} {size n:Nat} {v:Value} {ys:List Value},w.ownsRow base e size v n ys→49≠e→∀ j,v.ownBlock=some j→vg.ownBlock≠some j:=fun h2 hne j hj e=>own_ne_type h.g h2 hne e hj
 obtain⟨tag,t0,t1⟩:=h.t
 have hl:gs.length=G.length:=h.l
 have hp:OwnP base w' vf vr vm us P:=by
  refine ⟨h.p.f.kept hg (off h.p.f (by decide)),h.p.r.kept hg (off h.p.r (by decide)),?_,⟨h.p.u.1,fun i u xs hu hx=>?_,h.p.u.2.2⟩,h.p.ap⟩
  · exact h.p.m.kept hg (by
      cases hv:vm.ownBlock with
      | none=>exact .inl rfl
      | some j=>exact .inr (fun e=>off h.p.m (by decide) j hv e.symm))
  · have:=h.p.u.2.1 i u xs hu hx
    exact this.kept hg (off this (by decide))
 refine ⟨hp,?_,by rw[List.length_append];show gs.length+1=(G++[g]).length;rw[List.length_append,hl];rfl,fun i y z hy hz=>?_,fun k=>if B≤k then (if x.s.ownBlock=some k then 3*G.length+1 else if x.u.ownBlock=some k then 3*G.length+2 else 3*G.length+3) else tag k,fun k hk=>?_,fun i y hy=>?_⟩
 · show w'.ownsRow base _ 9 vg' (G++[g]).length (gmFlat (G++[g]) (gs++[x]))
   rw[gmFlat_push hl,List.length_append]
   exact hown
 · change (G++[g])[i]?=_ at hz
   rw[List.getElem?_append] at hy hz
   rw[hl] at hy
   by_cases hi:i<G.length
   · rw[if_pos hi] at hy hz
     obtain⟨a1,a2,a3⟩:=h.r i y z hy hz
     exact⟨a1.kept hg (off a1 (by decide)),a2.kept hg (off a2 (by decide)),a3.kept hg (off a3 (by decide))⟩
   · rw[if_neg hi] at hy hz
     have h0:i - G.length=0:=by have:=lt_of_get hy;simp at this;omega
     rw[h0] at hy hz
     simp at hy hz
     subst hy hz
     exact⟨hs.kept hg (off hs (by decide)),hu.kept hg (off hu (by decide)),he.kept hg (off he (by decide))⟩
 · dsimp only
   rw[if_neg (by have:=hlt.f k hk;omega)]
   exact t0 k hk
 · rw[List.getElem?_append,hl] at hy
   by_cases hi:i<G.length
   · rw[if_pos hi] at hy
     obtain⟨c1,c2,c3⟩:=t1 i y hy
     obtain⟨l1,l2,l3⟩:=hlt.g i y hy
     exact⟨fun k hk=>by dsimp only;rw[if_neg (by have:=l1 k hk;omega)];exact c1 k hk,fun k hk=>by dsimp only;rw[if_neg (by have:=l2 k hk;omega)];exact c2 k hk,fun k hk=>by dsimp only;rw[if_neg (by have:=l3 k hk;omega)];exact c3 k hk⟩
   · rw[if_neg hi] at hy
     have h0:i - G.length=0:=by have:=lt_of_get hy;simp at this;omega
     have h1:i=G.length:=by omega
     rw[h0] at hy
     simp at hy
     subst hy h1
     refine ⟨fun k hk=>?_,fun k hk=>?_,fun k hk=>?_⟩
     · dsimp only
       rw[if_pos (b1 k hk),if_pos hk]
     · dsimp only
       rw[if_pos (b2 k hk),if_neg (own_ne_type hu hs (by decide) hk),if_pos hk]
     · dsimp only
       rw[if_pos (b3 k hk),if_neg (own_ne_type he hs (by decide) hk),if_neg (fun e=>hne k e hk)]
theorem OwnH.start {base:Nat} {w:World} {vf vr vm:Value} {us:List Value} {P:Pl} {t d n:Int} (h:OwnP base w vf vr vm us P):OwnH base w vf vr vm us (.slice none 0 0) [] ⟨P,[],t,d,n⟩ :=
 ⟨h,own_nil,rfl,fun i x g hx=>by simp at hx,fun _=>0,fun _ _=>rfl,fun i x hx=>by simp at hx⟩
structure Ho.Small (H:Ho):Prop where
 f:H.P.F.length≤1000
 r:H.P.R.length≤1000
 m:H.P.M.length≤1000
 l:∀ l∈H.P.M,l.length≤1000
 q:H.G.length≤1000
 g:∀ (i:Nat) (g:Gm),H.G[i]?=some g→g.s.length≤1000∧g.u.length≤1000∧g.e.length≤1000
def I63 (x:Int):Prop := -9223372036854775808≤x∧x≤9223372036854775807
structure Ho.Fit (H:Ho):Prop where
 p:H.P.fit
 t:I63 H.t
 d:0≤H.d∧H.d<18446744073709551616
 n:I63 H.n
 g:∀ g∈H.G,I63 g.c.r∧I63 g.c.l∧I63 g.c.s∧I63 g.c.p∧I63 g.c.a∧I63 g.h
theorem Ho.Ok.little {H:Ho} (hok:H.Ok):H.Small:=by
 obtain⟨s1,_,s2,s3,s5⟩:=hok.bounds
 refine ⟨by omega,by omega,by omega,fun l hl=>by have:=(hok.p.l l hl).2;omega,by omega,fun i g hg=>?_⟩
 obtain⟨l,hl,hgo⟩:=hok.page hg
 have:=(hok.p.l l (mem_at hl)).2
 have:=hgo.ls
 have:=hgo.lu
 have:=hgo.le
 omega
structure GuTo (H:Ho) (k:Nat):Prop where
 g:∀ (i:Nat) (g:Gm) (l:List Int),i<k→H.G[i]?=some g→H.P.M[i]?=some l→GmOk g l
 s0:0≤sumR (H.G.take k)
 s1:sumR (H.G.take k)≤96*k
 l1:lenM (H.P.M.take k)≤32*k
theorem GuTo.zero (H:Ho):GuTo H 0:=⟨fun i g l h=>absurd h (Nat.not_lt_zero _),by simp [sumR],by simp [sumR],by simp [lenM]⟩
theorem GuTo.step {H:Ho} {k:Nat} {g:Gm} {l:List Int} (h:GuTo H k) (hg:H.G[k]?=some g) (hl:H.P.M[k]?=some l) (hgo:GmOk g l) (hll:l.length≤32):GuTo H (k+1):=by
 have hrb:=hgo.rb
 refine ⟨fun i g' l' hi hg' hl'=>?_,?_,?_,?_⟩
 · by_cases e:i=k
   · subst e
     rw[hg] at hg'
     rw[hl] at hl'
     injection hg' with hg'
     injection hl' with hl'
     subst hg' hl'
     exact hgo
   · exact h.g i g' l' (by omega) hg' hl'
 · rw[sumR_take hg]
   have:=h.s0
   omega
 · rw[sumR_take hg]
   have:=h.s1
   omega
 · rw[lenM_take hl]
   have:=h.l1
   omega
set_option maxRecDepth 100000 in
set_option maxHeartbeats 8000000 in
theorem hvalid_any (v:Value) (H:Ho) (bv:Bool) (w:World) (ha:HoAt w v H) (hf:H.Fit) (hsm:H.Small) (hb:bv=true↔H.Ok):Calls Tryz.prog 32 #[v] w (Ret w (.bool bv)):=by
 have VP:=fun v w h=>valid_pl v H.P w h hf.p
 obtain⟨vb,hvb⟩:∃ b,H.P.ok=b:=⟨_,rfl⟩
 rw[hvb] at VP
 have HVP:=lh VP;clear VP
 have HVB:=lh hvb;clear hvb
 obtain⟨fd,fn⟩:(0≤H.d∧H.d<18446744073709551616)∧I63 H.n:=⟨hf.d,hf.n⟩
 have sq:=hsm.q
 have sm:=hsm.m
 have HSM:=lh hsm;clear hsm hf
 obtain⟨of,or',om,og,kf,kr,km,kg,n,r,m,q,tx,dx,sx,HN,HR,HM,HQ,HT,HD,HS,rfl,kf1,kf2,kr1,kr2,km1,km2,kg1,kg2,h⟩:=HoAt.opened ha
 rw[HD.out] at fd
 rw[HS.out] at fn
 rw[HQ.out] at sq
 rw[HM.out] at sm
 unfold I63 at fn
 have h0:=h
 have D1:=HasBlock.made w #[.slice of n kf,.slice or' r kr,.slice om m km,.slice og q kg,.int .i64 tx,.int .u64 dx,.int .i64 sx] 30
 have hbw:Below w.heap.size w (w.alloc (.cells #[.slice of n kf,.slice or' r kr,.slice om m km,.slice og q kg,.int .i64 tx,.int .u64 dx,.int .i64 sx] 30)):=(Below.refl _ _).alloc (nlr _) _
 replace h:=h.below hbw
 go_enter Tryz.func32,Tryz.ntmps32
 obtain⟨D1_c,D1_f,D1_z⟩:=D1.all
 go_wp2_with fail
 clear D1_c D1_f D1_z
 with_reducible refine (HVP.out _ _ h.p).mono ?_
 rintro e w1 ⟨rfl,hbk⟩
 replace D1:=D1.below hbk
 replace h:=h.below hbk
 replace hbw:=hbw.trans (hbk.mono hbw.size)
 clear hbk
 cases vb
 · obtain rfl:bv=false:=no_of hb (fun h=>(by have:=Pl.ok_iff.2 h.p;rw[HVB.out] at this;cases this))
   clear hb
   obtain⟨D1_c,D1_f,D1_z⟩:=D1.all
   go_wp2_with fail
   go_ret
   exact Ret.mk hbw
 by_cases hmq:q=m
 case neg =>
  have e1:((q:Int) != (m:Int))=true:=int_ne (by omega)
  obtain rfl:bv=false:=no_of hb (fun h=>(by have:=h.m;rw[HQ.out,HM.out] at this;exact hmq this))
  clear hb
  obtain⟨D1_c,D1_f,D1_z⟩:=D1.all
  go_wp2_with fail
  go_ret
  exact Ret.mk hbw
 have e1:((q:Int) != (m:Int))=false:=int_eq (by omega)
 by_cases ht0:0≤tx
 case neg =>
  have e2:decide (tx<0)=true:=decide_eq_true (by omega)
  obtain rfl:bv=false:=no_of hb (fun h=>(by have:=h.t.1;rw[HT.out] at this;exact ht0 this))
  clear hb
  obtain⟨D1_c,D1_f,D1_z⟩:=D1.all
  go_wp2_with fail
  go_ret
  exact Ret.mk hbw
 by_cases ht9:tx≤99
 case neg =>
  have e2:decide (tx>99)=true:=decide_eq_true (by omega)
  have e3:decide (99<tx)=true:=decide_eq_true (by omega)
  obtain rfl:bv=false:=no_of hb (fun h=>(by have:=h.t.2;rw[HT.out] at this;exact ht9 this))
  clear hb
  obtain⟨D1_c,D1_f,D1_z⟩:=D1.all
  go_wp2_with fail
  go_ret
  exact Ret.mk hbw
 have hpo:=Pl.ok_iff.1 HVB.out
 have hm8:m≤8:=by rw[←HM.out];exact hpo.m
 have hn96:n≤96:=by rw[←HN.out];exact hpo.n2
 have HPO:=lh hpo;clear hpo
 have HBV:Hid (bv=true↔(GuTo H q∧sumR H.G≤n∧0≤sx∧sx<max (lenM H.P.M:Int) 1)):=lh (hb.trans ⟨fun h=>⟨⟨fun i g l _ hg hl=>h.g i g l hg hl,(h.sum q (by rw[HQ.out];exact nlr _)).1,(h.sum q (by rw[HQ.out];exact nlr _)).2,h.len q (by rw[HM.out];omega)⟩,by rw[←HN.out];exact h.r,by rw[←HS.out];exact h.n.1,by rw[←HS.out];exact h.n.2⟩,fun h=>⟨HPO.out,by rw[HQ.out,HM.out];exact hmq,by rw[HT.out];exact⟨ht0,ht9⟩,by rw[HD.out];exact fd,fun i g l hg hl=>h.1.g i g l (by rw[←HQ.out];exact lt_of_get hg) hg hl,by rw[HN.out];exact h.2.1,by rw[HS.out];exact h.2.2⟩⟩)
 clear hb h
 have HMQ:=lh hmq;clear hmq
 obtain⟨D1_c,D1_f,D1_z⟩:=D1.all
 go_wp2_with fail
 clear D1_c D1_f D1_z
 clear e1
 go_loopw [3,4,34] (fun rv tv iv wr=>∃ i:Nat,i≤q∧rv=.int .i64 (sumR (H.G.take i))∧tv=.int .i64 ((lenM (H.P.M.take i):Nat):Int)∧iv=.int .i64 i∧Hid (GuTo H i)∧HasBlock wr w.heap.size #[.slice of n kf,.slice or' r kr,.slice om m km,.slice og q kg,.int .i64 tx,.int .u64 dx,.int .i64 sx] 30∧Below w.heap.size w wr) (fun _ _ iv _=>q - (intOf iv).toNat)
 case atStart=>exact⟨0,by omega,rfl,rfl,rfl,GuTo.zero H,D1,hbw⟩
 case round =>
  clear D1 hbw
  obtain⟨i,hi,rfl,rfl,rfl,HGT,D1,hbw⟩:=hrel
  by_cases hlt:i<q
  · obtain⟨g,hg⟩:=get_lt (xs:=H.G) (k:=i) (by rw[HQ.out];exact hlt)
    obtain⟨l,hl⟩:=get_lt (xs:=H.P.M) (k:=i) (by rw[HM.out,←HMQ.out];exact hlt)
    obtain⟨bg,hbg⟩:=bool_of (GmOk g l)
    have hll:=HPO.out.l l (mem_at hl)
    have hsu0:=HGT.out.s0
    have hsu1:=HGT.out.s1
    have hle:=HGT.out.l1
    have hs1:=sumR_take hg
    have hl1:=lenM_take hl
    obtain⟨gb,goff,so,sc,uo,uc,eo,ec,rfl,hgb,s1,s2,u1,u2,e3,e4,cs,hS,hU,hE⟩:=h0.guest hg
    obtain⟨mb,moff,lo,lc,rfl,hmb,cm0,lc1,lc2,hL⟩:=h0.p.guest hl
    have hss:=HSM.out.g i g hg
    have VG:=fun w hs hu hl=>vguest_any g l bg so uo eo lo sc uc ec lc w hs hu hl hbg (by omega) hss
    have HST:Hid (bg=true→GuTo H (i+1)∧1≤g.c.r∧g.c.r≤96):=lh (fun e=>by
     have hgo:=hbg.1 e
     have:=hgo.rb
     exact⟨HGT.out.step hg hl hgo hll.2,by omega,by omega⟩)
    have HNO:Hid (bg=false→bv=false):=lh (fun e=>no_of HBV.out (fun h=>by
     have:=hbg.2 (h.1.g i g l hlt hg hl)
     rw[e] at this
     cases this))
    clear hbg
    replace hS:=hS.below hbw
    replace hU:=hU.below hbw
    replace hL:=hL.below hbw
    obtain⟨⟨r1,cl1,s1',p1,a1⟩,S,U,hd,E⟩:=g
    dsimp only at hs1 s1 u1 e3 hS hU hE VG HST
    have c0:wr.cell? ⟨gb,goff+i*9,none⟩=_:=(hbw.cell (p:=⟨gb,goff+i*9,none⟩) hgb).trans (cs 0 _ rfl)
    have c1:wr.cell? ⟨gb,goff+i*9+1,none⟩=_:=(hbw.cell (p:=⟨gb,goff+i*9+1,none⟩) hgb).trans (cs 1 _ rfl)
    have c2:wr.cell? ⟨gb,goff+i*9+2,none⟩=_:=(hbw.cell (p:=⟨gb,goff+i*9+2,none⟩) hgb).trans (cs 2 _ rfl)
    have c3:wr.cell? ⟨gb,goff+i*9+3,none⟩=_:=(hbw.cell (p:=⟨gb,goff+i*9+3,none⟩) hgb).trans (cs 3 _ rfl)
    have c4:wr.cell? ⟨gb,goff+i*9+4,none⟩=_:=(hbw.cell (p:=⟨gb,goff+i*9+4,none⟩) hgb).trans (cs 4 _ rfl)
    have c5:wr.cell? ⟨gb,goff+i*9+5,none⟩=_:=(hbw.cell (p:=⟨gb,goff+i*9+5,none⟩) hgb).trans (cs 5 _ rfl)
    have c6:wr.cell? ⟨gb,goff+i*9+6,none⟩=_:=(hbw.cell (p:=⟨gb,goff+i*9+6,none⟩) hgb).trans (cs 6 _ rfl)
    have c7:wr.cell? ⟨gb,goff+i*9+7,none⟩=_:=(hbw.cell (p:=⟨gb,goff+i*9+7,none⟩) hgb).trans (cs 7 _ rfl)
    have c8:wr.cell? ⟨gb,goff+i*9+8,none⟩=_:=(hbw.cell (p:=⟨gb,goff+i*9+8,none⟩) hgb).trans (cs 8 _ rfl)
    clear cs hE
    dsimp only at c0 c1 c2 c3 c4 c5 c6 c7 c8
    obtain⟨ql,hql⟩:∃ x,l.length=x:=⟨_,rfl⟩
    obtain⟨sl,hsl⟩:∃ x,S.length=x:=⟨_,rfl⟩
    obtain⟨ul,hul⟩:∃ x,U.length=x:=⟨_,rfl⟩
    obtain⟨el,hel⟩:∃ x,E.length=x:=⟨_,rfl⟩
    rw[hql] at hll hl1 cm0 lc1 hL VG
    rw[hsl] at c5 hS VG s1
    rw[hul] at c6 hU VG u1
    rw[hel] at c8 VG e3
    have HVG:=lh VG;clear VG
    obtain⟨sA,hsA⟩:∃ x,sumR (H.G.take i)=x:=⟨_,rfl⟩
    obtain⟨sL,hsL⟩:∃ x,lenM (H.P.M.take i)=x:=⟨_,rfl⟩
    rw[hsA] at hsu0 hsu1 hs1 ⊢
    rw[hsL] at hle hl1 ⊢
    have HS1:=lh hs1;clear hs1 hsA
    have HL1:=lh hl1;clear hl1 hsL hql hsl hul hel
    clear hg hl hss HGT
    have i0:(0:Int)≤(i:Int):=by omega
    have im:(i:Int)<(m:Int):=by have:=HMQ.out;omega
    have iq:(i:Int)<(q:Int):=by omega
    have cm:=(hbw.cell (p:=⟨mb,moff+i,none⟩) hmb).trans cm0
    obtain⟨D1_c,D1_f,D1_z⟩:=D1.all
    go_wp2_with fail
    clear D1_c D1_f D1_z
    clear c0 c1 c2 c3 c4 c5 c6 c7 c8
    clear cm
    have hbx:Below wr.heap.size wr (wr.alloc (.cells #[.int .i64 r1,.int .i64 cl1,.int .i64 s1',.int .i64 p1,.int .i64 a1,.slice so sl sc,.slice uo ul uc,.int .i64 hd,.slice eo el ec] 49)):=(Below.refl _ _).alloc (nlr _) _
    have hwD2:=hbw.size
    have lD1:=D1.lt
    replace D1:=D1.below hbx
    replace hS:=hS.below hbx
    replace hU:=hU.below hbx
    replace hL:=hL.below hbx
    have D2:=HasBlock.made wr #[.int .i64 r1,.int .i64 cl1,.int .i64 s1',.int .i64 p1,.int .i64 a1,.slice so sl sc,.slice uo ul uc,.int .i64 hd,.slice eo el ec] 49
    replace hbw:=hbw.trans (hbx.mono hbw.size)
    clear hbx
    obtain⟨B2,hB⟩:∃ B,wr.heap.size=B:=⟨_,rfl⟩
    rw[hB] at D2 hwD2 ⊢
    rw[hB] at lD1
    generalize hW:wr.alloc (.cells #[.int .i64 r1,.int .i64 cl1,.int .i64 s1',.int .i64 p1,.int .i64 a1,.slice so sl sc,.slice uo ul uc,.int .i64 hd,.slice eo el ec] 49)=w5 at D1 D2 hS hU hL hbw ⊢
    clear hW hB
    have HS':=lh hS;clear hS
    have HU':=lh hU;clear hU
    have HL':=lh hL;clear hL
    have cm:=(hbw.cell (p:=⟨mb,moff+i,none⟩) hmb).trans cm0
    have hmb2:mb<w5.heap.size:=by have:=hbw.size;omega
    obtain⟨D1_c,D1_f,D1_z⟩:=D1.all
    obtain⟨D2_c,D2_f,D2_z⟩:=D2.all
    refine wp_region_quiet_below (by kernel_rfl) (by kernel_rfl) ?_
    repeat (go_big_quiet_step (first|fail|(go_at_call 67;with_reducible exact quiet_ret (HVG.out _ (HS'.out.below (below_regrown _ _ _)) (HU'.out.below (below_regrown _ _ _)) (HL'.out.below (below_regrown _ _ _))))))
    refine wpQuiet_nil ?_
    intro w6 hw6
    have hb6:=below_of_regrown hw6
    clear hw6
    obtain⟨hc6,hf6⟩:=bcell hb6
    have hz6:=bsize hb6
    try simp only[sizes1] at hz6
    try simp only[sizes] at hc6 hf6
    clear hc6 hf6 hz6 cm hmb2
    clear D1_c D1_f D1_z
    clear D2_c D2_f D2_z
    replace D1:=D1.below hb6
    replace D2:=D2.below hb6
    replace hbw:=hbw.trans (hb6.mono hbw.size)
    clear hb6
    cases bg
    · obtain rfl:=HNO.out rfl
      obtain⟨D1_c,D1_f,D1_z⟩:=D1.all
      obtain⟨D2_c,D2_f,D2_z⟩:=D2.all
      go_wp2_with fail
      go_ret
      exact Ret.mk hbw
    · obtain⟨hst,r1a,r1b⟩:=HST.out rfl
      have HGN:=lh hst
      clear hst HNO HST
      have cm:=(hbw.cell (p:=⟨mb,moff+i,none⟩) hmb).trans cm0
      obtain⟨D1_c,D1_f,D1_z⟩:=D1.all
      obtain⟨D2_c,D2_f,D2_z⟩:=D2.all
      go_wp2_with fail
      clear D1_c D1_f D1_z
      clear D2_c D2_f D2_z
      go_roundw
      case rel=>exact⟨i+1,by omega,by rw[HS1.out] <;> go_num,by rw[HL1.out] <;> go_num,by go_num,HGN,D1,hbw⟩
      case measure=>simp [intOf];omega
  · obtain rfl:i=q:=by omega
    have hallG:H.G.take i=H.G:=by rw[←HQ.out];exact List.take_length
    have hallM:H.P.M.take i=H.P.M:=by rw[HMQ.out,←HM.out];exact List.take_length
    have hl1:=HGT.out.l1
    have hs0:=HGT.out.s0
    have hs1:=HGT.out.s1
    rw[hallG] at hs0 hs1 ⊢
    rw[hallM] at hl1 ⊢
    clear hallG hallM
    have HBW:Hid (bv=true↔(sumR H.G≤n∧0≤sx∧sx<max (lenM H.P.M:Int) 1)):=lh (HBV.out.trans ⟨fun h=>h.2,fun h=>⟨HGT.out,h⟩⟩)
    obtain⟨sumA,hsa⟩:∃ x,sumR H.G=x:=⟨_,rfl⟩
    obtain⟨lenA,hla⟩:∃ x,lenM H.P.M=x:=⟨_,rfl⟩
    rw[hsa] at HBW hs0 hs1 ⊢
    rw[hla] at HBW hl1 ⊢
    clear hsa hla HBV HGT
    by_cases g1:sumA≤n
    case neg =>
     obtain rfl:=no_of HBW.out (fun h=>g1 h.1)
     have t1:decide (sumA≤(n:Int))=false:=decide_eq_false g1
     obtain⟨D1_c,D1_f,D1_z⟩:=D1.all
     go_wp2_with fail
     go_ret
     exact Ret.mk hbw
    have t1:decide (sumA≤(n:Int))=true:=decide_eq_true g1
    by_cases g2:0≤sx
    case neg =>
     obtain rfl:=no_of HBW.out (fun h=>g2 h.2.1)
     obtain⟨D1_c,D1_f,D1_z⟩:=D1.all
     go_wp2_with fail
     go_ret
     exact Ret.mk hbw
    by_cases g3:sx<max (lenA:Int) 1
    case neg =>
     obtain rfl:=no_of HBW.out (fun h=>g3 h.2.2)
     obtain⟨D1_c,D1_f,D1_z⟩:=D1.all
     go_wp2_with fail
     go_ret
     exact Ret.mk hbw
    obtain rfl:=yes_of HBW.out ⟨g1,g2,g3⟩
    obtain⟨D1_c,D1_f,D1_z⟩:=D1.all
    go_wp2_with fail
    go_ret
    exact Ret.mk hbw
end Go.Proofs.YtbnngjhnkegliaaGreat
