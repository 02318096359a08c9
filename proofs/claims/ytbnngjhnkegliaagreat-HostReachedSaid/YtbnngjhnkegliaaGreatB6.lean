/-
  Texts joined: Tax. No law is proved here.
-/
import Derived.Test.YtbnngjhnkegliaaGreatB1
namespace Go.Proofs.YtbnngjhnkegliaaGreat
open Go.RowKit
structure Clm where
 r:Int
 l:Int
 s:Int
 p:Int
 a:Int
def validB (c:Clm):Bool:=decide (1≤c.r∧c.r≤c.l∧c.l≤96∧1≤c.s∧c.s≤1000∧0≤c.p∧c.p≤96∧0≤c.a∧c.a≤1000)
def taxB (t:Int):Bool:=decide (0≤t∧t≤99)
def costR (p a t:Int):Int:=p*(a*(100 - t)+100*(1000 - a))
def costI (c:Clm) (t:Int):Int:=if validB c && taxB t then costR c.p c.a t else 0
def poorB (x y:Clm) (t:Int):Bool:=validB x && validB y && taxB t && decide (x.s*costI y t<y.s*costI x t)
theorem validB_iff (c:Clm):validB c=true↔1≤c.r∧c.r≤c.l∧c.l≤96∧1≤c.s∧c.s≤1000∧0≤c.p∧c.p≤96∧0≤c.a∧c.a≤1000:=decide_eq_true_iff
theorem taxB_iff (t:Int):taxB t=true↔0≤t∧t≤99:=decide_eq_true_iff
theorem mul_bd {x y a b:Int} (hx:0≤x) (hx':x≤a) (hy:0≤y) (hy':y≤b):0≤x*y∧x*y≤a*b :=
 ⟨Int.mul_nonneg hx hy,Int.le_trans (Int.mul_le_mul_of_nonneg_right hx' hy) (Int.mul_le_mul_of_nonneg_left hy' (by omega))⟩
theorem cost_bd {p a t:Int} (hp:0≤p) (hp':p≤96) (ha:0≤a) (ha':a≤1000) (ht:0≤t) (ht':t≤99) :
    0≤a*(100 - t)∧a*(100 - t)≤100000∧0≤costR p a t∧costR p a t≤19200000∧0≤p*(a*(100 - t)+100*(1000 - a))∧p*(a*(100 - t)+100*(1000 - a))≤19200000:=by
 have h1:=mul_bd ha ha' (show 0≤100 - t by omega) (show 100 - t≤100 by omega)
 have h2:=mul_bd hp hp' (show 0≤a*(100 - t)+100*(1000 - a) by omega) (show a*(100 - t)+100*(1000 - a)≤200000 by omega)
 unfold costR
 omega
theorem costI_bd (c:Clm) (t:Int):0≤costI c t∧costI c t≤19200000:=by
 unfold costI
 split
 · rename_i h
   rw[Bool.and_eq_true,validB_iff,taxB_iff] at h
   have:=cost_bd (p:=c.p) (a:=c.a) (t:=t) (by omega) (by omega) (by omega) (by omega) (by omega) (by omega)
   omega
 · omega
set_option maxHeartbeats 1000000 in
theorem idletax_Valid_any (r l s p a:Int) (w:World):Calls Tryz.prog 42 #[.agg #[.int .i64 r,.int .i64 l,.int .i64 s,.int .i64 p,.int .i64 a]] w (Ret w (.bool (validB ⟨r,l,s,p,a⟩))):=by
 go_enter Tryz.func42,Tryz.ntmps42
 go_wp2
 all_goals go_ret
 all_goals exact Ret.mk' (congrArg Value.bool (by unfold validB;rw[Bool.eq_iff_iff];simp only[decide_eq_true_eq,Bool.false_eq_true,false_iff];omega)) bel
set_option maxHeartbeats 1000000 in
theorem vmfleetref35_ValidClaim_any (r l s p a:Int) (w:World):Calls Tryz.prog 54 #[.agg #[.int .i64 r,.int .i64 l,.int .i64 s,.int .i64 p,.int .i64 a]] w (Ret w (.bool (validB ⟨r,l,s,p,a⟩))):=by
 go_enter Tryz.func54,Tryz.ntmps54
 go_wp2
 all_goals go_ret
 all_goals exact Ret.mk' (congrArg Value.bool (by unfold validB;rw[Bool.eq_iff_iff];simp only[decide_eq_true_eq,Bool.false_eq_true,false_iff];omega)) bel
theorem idletax_validTax_any (t:Int) (w:World):Calls Tryz.prog 111 #[.int .i64 t] w (Ret w (.bool (taxB t))):=by
 go_enter Tryz.func111,Tryz.ntmps111
 go_wp2
 all_goals go_ret
 all_goals exact Ret.mk' (congrArg Value.bool (by unfold taxB;rw[Bool.eq_iff_iff];simp only[decide_eq_true_eq,Bool.false_eq_true,false_iff];omega)) bel
theorem vmfleetref35_taxed_any (t:Int) (w:World):Calls Tryz.prog 23 #[.int .i64 t] w (Ret w (.bool (taxB t))):=by
 go_enter Tryz.func23,Tryz.ntmps23
 go_wp2
 all_goals go_ret
 all_goals exact Ret.mk' (congrArg Value.bool (by unfold taxB;rw[Bool.eq_iff_iff];simp only[decide_eq_true_eq,Bool.false_eq_true,false_iff];omega)) bel
theorem costI_no {c:Clm} {t:Int} (h:(validB c && taxB t)=false):costI c t=0:=by unfold costI;rw[h];rfl
theorem costI_yes {c:Clm} {t:Int} (h1:validB c=true) (h2:taxB t=true):costI c t=costR c.p c.a t:=by unfold costI;rw[h1,h2];rfl
theorem idletax_Cost_no (r l s p a t:Int) (w:World) (h:(validB ⟨r,l,s,p,a⟩ && taxB t)=false):Calls Tryz.prog 121 #[.agg #[.int .i64 r,.int .i64 l,.int .i64 s,.int .i64 p,.int .i64 a],.int .i64 t] w (Ret w (.int .i64 0)):=by
 cases hv:validB ⟨r,l,s,p,a⟩
 · have HV:=lh hv;clear hv
   go_enter Tryz.func121,Tryz.ntmps121
   go_wp2_with fail
   refine (idletax_Valid_any _ _ _ _ _ _).mono ?_
   rw[HV.out]
   rintro e w1 ⟨rfl,hb1⟩
   have hz1:=bsize hb1
   simp only[World.size_alloc] at hz1
   go_wp2_with fail
   go_ret
   exact Ret.mk bel
 · have ht:taxB t=false:=by rw[hv] at h;exact h
   have HV:=lh hv;clear hv h
   have HT:=lh ht;clear ht
   go_enter Tryz.func121,Tryz.ntmps121
   go_wp2_with fail
   refine (idletax_Valid_any _ _ _ _ _ _).mono ?_
   rw[HV.out]
   rintro e w1 ⟨rfl,hb1⟩
   have hz1:=bsize hb1
   simp only[World.size_alloc] at hz1
   go_wp2_with fail
   refine (idletax_validTax_any _ _).mono ?_
   rw[HT.out]
   rintro e w2 ⟨rfl,hb2⟩
   have hz2:=bsize hb2
   go_wp2_with fail
   go_ret
   exact Ret.mk bel
set_option maxHeartbeats 1000000 in
theorem idletax_Cost_yes (r l s p a t:Int) (w:World) (hv:validB ⟨r,l,s,p,a⟩=true) (ht:taxB t=true):Calls Tryz.prog 121 #[.agg #[.int .i64 r,.int .i64 l,.int .i64 s,.int .i64 p,.int .i64 a],.int .i64 t] w (Ret w (.int .i64 (costR p a t))):=by
 have hv':=(validB_iff _).1 hv
 have ht':=(taxB_iff _).1 ht
 dsimp only at hv'
 obtain⟨k1,k2,_,_,_,_⟩:=cost_bd (p:=p) (a:=a) (t:=t) (by omega) (by omega) (by omega) (by omega) (by omega) (by omega)
 have HV:=lh hv;clear hv
 have HT:=lh ht;clear ht
 go_enter Tryz.func121,Tryz.ntmps121
 go_wp2_with fail
 refine (idletax_Valid_any _ _ _ _ _ _).mono ?_
 rw[HV.out]
 rintro e w1 ⟨rfl,hb1⟩
 obtain⟨hc1,hf1⟩:=bcell hb1
 have hz1:=bsize hb1
 simp only[World.size_alloc,Nat.add_one_le_iff] at hz1 hc1 hf1
 go_wp2_with fail
 refine (idletax_validTax_any _ _).mono ?_
 rw[HT.out]
 rintro e w2 ⟨rfl,hb2⟩
 obtain⟨hc2,hf2⟩:=bcell hb2
 have hz2:=bsize hb2
 go_wp2_with fail
 go_ret
 exact Ret.mk bel
theorem idletax_Cost_any (r l s p a t:Int) (w:World):Calls Tryz.prog 121 #[.agg #[.int .i64 r,.int .i64 l,.int .i64 s,.int .i64 p,.int .i64 a],.int .i64 t] w (Ret w (.int .i64 (costI ⟨r,l,s,p,a⟩ t))):=by
 cases h:validB ⟨r,l,s,p,a⟩ && taxB t
 · rw[costI_no h]
   exact idletax_Cost_no _ _ _ _ _ _ _ h
 · rw[Bool.and_eq_true] at h
   rw[costI_yes h.1 h.2]
   exact idletax_Cost_yes _ _ _ _ _ _ _ h.1 h.2
theorem vmfleetref35_Cost_no (r l s p a t:Int) (w:World) (h:(validB ⟨r,l,s,p,a⟩ && taxB t)=false):Calls Tryz.prog 116 #[.agg #[.int .i64 r,.int .i64 l,.int .i64 s,.int .i64 p,.int .i64 a],.int .i64 t] w (Ret w (.int .i64 0)):=by
 cases hv:validB ⟨r,l,s,p,a⟩
 · have HV:=lh hv;clear hv
   go_enter Tryz.func116,Tryz.ntmps116
   go_wp2_with fail
   refine (vmfleetref35_ValidClaim_any _ _ _ _ _ _).mono ?_
   rw[HV.out]
   rintro e w1 ⟨rfl,hb1⟩
   have hz1:=bsize hb1
   simp only[World.size_alloc] at hz1
   go_wp2_with fail
   go_ret
   exact Ret.mk bel
 · have ht:taxB t=false:=by rw[hv] at h;exact h
   have HV:=lh hv;clear hv h
   have HT:=lh ht;clear ht
   go_enter Tryz.func116,Tryz.ntmps116
   go_wp2_with fail
   refine (vmfleetref35_ValidClaim_any _ _ _ _ _ _).mono ?_
   rw[HV.out]
   rintro e w1 ⟨rfl,hb1⟩
   have hz1:=bsize hb1
   simp only[World.size_alloc] at hz1
   go_wp2_with fail
   refine (vmfleetref35_taxed_any _ _).mono ?_
   rw[HT.out]
   rintro e w2 ⟨rfl,hb2⟩
   have hz2:=bsize hb2
   go_wp2_with fail
   go_ret
   exact Ret.mk bel
set_option maxHeartbeats 1000000 in
theorem vmfleetref35_Cost_yes (r l s p a t:Int) (w:World) (hv:validB ⟨r,l,s,p,a⟩=true) (ht:taxB t=true):Calls Tryz.prog 116 #[.agg #[.int .i64 r,.int .i64 l,.int .i64 s,.int .i64 p,.int .i64 a],.int .i64 t] w (Ret w (.int .i64 (costR p a t))):=by
 have hv':=(validB_iff _).1 hv
 have ht':=(taxB_iff _).1 ht
 dsimp only at hv'
 obtain⟨k1,k2,_,_,_,_⟩:=cost_bd (p:=p) (a:=a) (t:=t) (by omega) (by omega) (by omega) (by omega) (by omega) (by omega)
 have HV:=lh hv;clear hv
 have HT:=lh ht;clear ht
 go_enter Tryz.func116,Tryz.ntmps116
 go_wp2_with fail
 refine (vmfleetref35_ValidClaim_any _ _ _ _ _ _).mono ?_
 rw[HV.out]
 rintro e w1 ⟨rfl,hb1⟩
 obtain⟨hc1,hf1⟩:=bcell hb1
 have hz1:=bsize hb1
 simp only[World.size_alloc,Nat.add_one_le_iff] at hz1 hc1 hf1
 go_wp2_with fail
 refine (vmfleetref35_taxed_any _ _).mono ?_
 rw[HT.out]
 rintro e w2 ⟨rfl,hb2⟩
 obtain⟨hc2,hf2⟩:=bcell hb2
 have hz2:=bsize hb2
 go_wp2_with fail
 go_ret
 exact Ret.mk bel
theorem vmfleetref35_Cost_any (r l s p a t:Int) (w:World):Calls Tryz.prog 116 #[.agg #[.int .i64 r,.int .i64 l,.int .i64 s,.int .i64 p,.int .i64 a],.int .i64 t] w (Ret w (.int .i64 (costI ⟨r,l,s,p,a⟩ t))):=by
 cases h:validB ⟨r,l,s,p,a⟩ && taxB t
 · rw[costI_no h]
   exact vmfleetref35_Cost_no _ _ _ _ _ _ _ h
 · rw[Bool.and_eq_true] at h
   rw[costI_yes h.1 h.2]
   exact vmfleetref35_Cost_yes _ _ _ _ _ _ _ h.1 h.2
theorem poorB_no {x y:Clm} {t:Int} (h:(validB x && validB y && taxB t)=false):poorB x y t=false:=by unfold poorB;rw[h];rfl
theorem poorB_yes {x y:Clm} {t:Int} (h1:validB x=true) (h2:validB y=true) (h3:taxB t=true):poorB x y t=decide (x.s*costI y t<y.s*costI x t):=by unfold poorB;rw[h1,h2,h3];rfl
theorem price_bd {s:Int} (c:Clm) (t:Int) (h:1≤s) (h':s≤1000):0≤s*costI c t∧s*costI c t≤19200000000:=by
 have:=costI_bd c t
 have:=mul_bd (x:=s) (y:=costI c t) (a:=1000) (b:=19200000) (by omega) h' (by omega) (by omega)
 omega
theorem idletax_Valid_is {r l s p a:Int} {x:Bool} (h:validB ⟨r,l,s,p,a⟩=x) (w:World):Calls Tryz.prog 42 #[.agg #[.int .i64 r,.int .i64 l,.int .i64 s,.int .i64 p,.int .i64 a]] w (Ret w (.bool x)):=by
 subst h;exact idletax_Valid_any _ _ _ _ _ _
theorem vmfleetref35_ValidClaim_is {r l s p a:Int} {x:Bool} (h:validB ⟨r,l,s,p,a⟩=x) (w:World):Calls Tryz.prog 54 #[.agg #[.int .i64 r,.int .i64 l,.int .i64 s,.int .i64 p,.int .i64 a]] w (Ret w (.bool x)):=by
 subst h;exact vmfleetref35_ValidClaim_any _ _ _ _ _ _
theorem idletax_validTax_is {t:Int} {x:Bool} (h:taxB t=x) (w:World):Calls Tryz.prog 111 #[.int .i64 t] w (Ret w (.bool x)):=by
 subst h;exact idletax_validTax_any _ _
theorem vmfleetref35_taxed_is {t:Int} {x:Bool} (h:taxB t=x) (w:World):Calls Tryz.prog 23 #[.int .i64 t] w (Ret w (.bool x)):=by
 subst h;exact vmfleetref35_taxed_any _ _
set_option maxHeartbeats 1000000 in
theorem idletax_Poorer_yes (r l s p a r' l' s' p' a' t:Int) (w:World) (h1:validB ⟨r,l,s,p,a⟩=true) (h2:validB ⟨r',l',s',p',a'⟩=true) (h3:taxB t=true) :
    Calls Tryz.prog 112 #[.agg #[.int .i64 r,.int .i64 l,.int .i64 s,.int .i64 p,.int .i64 a],.agg #[.int .i64 r',.int .i64 l',.int .i64 s',.int .i64 p',.int .i64 a'],.int .i64 t] w (Ret w (.bool (decide (s*costI ⟨r',l',s',p',a'⟩ t<s'*costI ⟨r,l,s,p,a⟩ t)))):=by
 have v1:=(validB_iff _).1 h1
 have v2:=(validB_iff _).1 h2
 dsimp only at v1 v2
 have k1:=price_bd (s:=s) ⟨r',l',s',p',a'⟩ t (by omega) (by omega)
 have k2:=price_bd (s:=s') ⟨r,l,s,p,a⟩ t (by omega) (by omega)
 have H1:=lh h1;clear h1
 have H2:=lh h2;clear h2
 have H3:=lh h3;clear h3
 go_enter Tryz.func112,Tryz.ntmps112
 go_wp2_with fail
 refine (idletax_Valid_is H1.out _).mono ?_
 rintro e w1 ⟨rfl,hb1⟩
 obtain⟨hc1,hf1⟩:=bcell hb1
 have hz1:=bsize hb1
 try simp only[sizes1] at hz1
 try simp only[sizes] at hc1 hf1
 have hB1:w.heap.size<w1.heap.size:=by omega
 have hC1:w.heap.size+1<w1.heap.size:=by omega
 go_wp2_with fail
 refine (idletax_Valid_is H2.out _).mono ?_
 rintro e w2 ⟨rfl,hb2⟩
 obtain⟨hc2,hf2⟩:=bcell hb2
 have hz2:=bsize hb2
 try simp only[sizes1] at hz2
 try simp only[sizes] at hc2 hf2
 have hB2:w.heap.size<w2.heap.size:=by omega
 have hC2:w.heap.size+1<w2.heap.size:=by omega
 go_wp2_with fail
 refine (idletax_validTax_is H3.out _).mono ?_
 rintro e w3 ⟨rfl,hb3⟩
 obtain⟨hc3,hf3⟩:=bcell hb3
 have hz3:=bsize hb3
 try simp only[sizes1] at hz3
 try simp only[sizes] at hc3 hf3
 have hB3:w.heap.size<w3.heap.size:=by omega
 have hC3:w.heap.size+1<w3.heap.size:=by omega
 go_wp2_with fail
 refine wp_region_quiet_below (by kernel_rfl) (by kernel_rfl) ?_
 repeat (go_big_quiet_step (first|fail|(go_at_call 121;exact quiet_ret (idletax_Cost_any _ _ _ _ _ _ _))))
 refine wpQuiet_nil ?_
 intro w4 hw4
 have hb4:=below_of_regrown hw4
 clear hw4
 obtain⟨hc4,hf4⟩:=bcell hb4
 have hz4:=bsize hb4
 try simp only[sizes1] at hz4
 try simp only[sizes] at hc4 hf4
 go_wp2_with fail
 go_ret
 exact Ret.mk bel
theorem idletax_Poorer_no1 (r l s p a r' l' s' p' a' t:Int) (w:World) (h1:validB ⟨r,l,s,p,a⟩=false):Calls Tryz.prog 112 #[.agg #[.int .i64 r,.int .i64 l,.int .i64 s,.int .i64 p,.int .i64 a],.agg #[.int .i64 r',.int .i64 l',.int .i64 s',.int .i64 p',.int .i64 a'],.int .i64 t] w (Ret w (.bool false)):=by
 have H1:=lh h1;clear h1
 go_enter Tryz.func112,Tryz.ntmps112
 go_wp2_with fail
 refine (idletax_Valid_is H1.out _).mono ?_
 rintro e w1 ⟨rfl,hb1⟩
 obtain⟨hc1,hf1⟩:=bcell hb1
 have hz1:=bsize hb1
 try simp only[sizes1] at hz1
 try simp only[sizes] at hc1 hf1
 go_wp2_with fail
 go_ret
 exact Ret.mk bel
theorem idletax_Poorer_no2 (r l s p a r' l' s' p' a' t:Int) (w:World) (h1:validB ⟨r,l,s,p,a⟩=true) (h2:validB ⟨r',l',s',p',a'⟩=false):Calls Tryz.prog 112 #[.agg #[.int .i64 r,.int .i64 l,.int .i64 s,.int .i64 p,.int .i64 a],.agg #[.int .i64 r',.int .i64 l',.int .i64 s',.int .i64 p',.int .i64 a'],.int .i64 t] w (Ret w (.bool false)):=by
 have H1:=lh h1;clear h1
 have H2:=lh h2;clear h2
 go_enter Tryz.func112,Tryz.ntmps112
 go_wp2_with fail
 refine (idletax_Valid_is H1.out _).mono ?_
 rintro e w1 ⟨rfl,hb1⟩
 obtain⟨hc1,hf1⟩:=bcell hb1
 have hz1:=bsize hb1
 try simp only[sizes1] at hz1
 try simp only[sizes] at hc1 hf1
 have hB1:w.heap.size<w1.heap.size:=by omega
 have hC1:w.heap.size+1<w1.heap.size:=by omega
 go_wp2_with fail
 refine (idletax_Valid_is H2.out _).mono ?_
 rintro e w2 ⟨rfl,hb2⟩
 obtain⟨hc2,hf2⟩:=bcell hb2
 have hz2:=bsize hb2
 try simp only[sizes1] at hz2
 try simp only[sizes] at hc2 hf2
 go_wp2_with fail
 go_ret
 exact Ret.mk bel
theorem idletax_Poorer_no3 (r l s p a r' l' s' p' a' t:Int) (w:World) (h1:validB ⟨r,l,s,p,a⟩=true) (h2:validB ⟨r',l',s',p',a'⟩=true) (h3:taxB t=false):Calls Tryz.prog 112 #[.agg #[.int .i64 r,.int .i64 l,.int .i64 s,.int .i64 p,.int .i64 a],.agg #[.int .i64 r',.int .i64 l',.int .i64 s',.int .i64 p',.int .i64 a'],.int .i64 t] w (Ret w (.bool false)):=by
 have H1:=lh h1;clear h1
 have H2:=lh h2;clear h2
 have H3:=lh h3;clear h3
 go_enter Tryz.func112,Tryz.ntmps112
 go_wp2_with fail
 refine (idletax_Valid_is H1.out _).mono ?_
 rintro e w1 ⟨rfl,hb1⟩
 obtain⟨hc1,hf1⟩:=bcell hb1
 have hz1:=bsize hb1
 try simp only[sizes1] at hz1
 try simp only[sizes] at hc1 hf1
 have hB1:w.heap.size<w1.heap.size:=by omega
 have hC1:w.heap.size+1<w1.heap.size:=by omega
 go_wp2_with fail
 refine (idletax_Valid_is H2.out _).mono ?_
 rintro e w2 ⟨rfl,hb2⟩
 obtain⟨hc2,hf2⟩:=bcell hb2
 have hz2:=bsize hb2
 try simp only[sizes1] at hz2
 try simp only[sizes] at hc2 hf2
 have hB2:w.heap.size<w2.heap.size:=by omega
 have hC2:w.heap.size+1<w2.heap.size:=by omega
 go_wp2_with fail
 refine (idletax_validTax_is H3.out _).mono ?_
 rintro e w3 ⟨rfl,hb3⟩
 obtain⟨hc3,hf3⟩:=bcell hb3
 have hz3:=bsize hb3
 try simp only[sizes1] at hz3
 try simp only[sizes] at hc3 hf3
 go_wp2_with fail
 go_ret
 exact Ret.mk bel
set_option maxHeartbeats 1000000 in
theorem vmfleetref35_Poorer_no1 (r l s p a r' l' s' p' a' t:Int) (w:World) (h1:Hid (validB ⟨r,l,s,p,a⟩=false)):Calls Tryz.prog 107 #[.agg #[.int .i64 r,.int .i64 l,.int .i64 s,.int .i64 p,.int .i64 a],.agg #[.int .i64 r',.int .i64 l',.int .i64 s',.int .i64 p',.int .i64 a'],.int .i64 t] w (Ret w (.bool false)):=by
 go_enter Tryz.func107,Tryz.ntmps107
 go_wp2_with fail
 refine wp_region_quiet_below (by kernel_rfl) (by kernel_rfl) ?_
 repeat (go_big_quiet_step (first|fail|(go_at_call 54;exact quiet_ret (vmfleetref35_ValidClaim_is h1.out _))))
 refine wpQuiet_nil ?_
 intro w1 hw1
 have hb1:=below_of_regrown hw1
 clear hw1
 obtain⟨hc1,hf1⟩:=bcell hb1
 have hz1:=bsize hb1
 try simp only[sizes1] at hz1
 try simp only[sizes] at hc1 hf1
 go_wp2_with fail
 go_ret
 exact Ret.mk bel
set_option maxHeartbeats 1000000 in
theorem vmfleetref35_Poorer_no2 (r l s p a r' l' s' p' a' t:Int) (w:World) (h1:Hid (validB ⟨r,l,s,p,a⟩=true)) (h2:Hid (validB ⟨r',l',s',p',a'⟩=false)):Calls Tryz.prog 107 #[.agg #[.int .i64 r,.int .i64 l,.int .i64 s,.int .i64 p,.int .i64 a],.agg #[.int .i64 r',.int .i64 l',.int .i64 s',.int .i64 p',.int .i64 a'],.int .i64 t] w (Ret w (.bool false)):=by
 go_enter Tryz.func107,Tryz.ntmps107
 go_wp2_with fail
 refine wp_region_quiet_below (by kernel_rfl) (by kernel_rfl) ?_
 repeat (go_big_quiet_step (first|fail|(go_at_call 54;first|with_reducible exact quiet_ret (vmfleetref35_ValidClaim_is h1.out _)|exact quiet_ret (vmfleetref35_ValidClaim_is h2.out _))))
 refine wpQuiet_nil ?_
 intro w1 hw1
 have hb1:=below_of_regrown hw1
 clear hw1
 obtain⟨hc1,hf1⟩:=bcell hb1
 have hz1:=bsize hb1
 try simp only[sizes1] at hz1
 try simp only[sizes] at hc1 hf1
 go_wp2_with fail
 go_ret
 exact Ret.mk bel
set_option maxHeartbeats 1000000 in
theorem vmfleetref35_Poorer_no3 (r l s p a r' l' s' p' a' t:Int) (w:World) (h1:Hid (validB ⟨r,l,s,p,a⟩=true)) (h2:Hid (validB ⟨r',l',s',p',a'⟩=true)) (h3:Hid (taxB t=false)):Calls Tryz.prog 107 #[.agg #[.int .i64 r,.int .i64 l,.int .i64 s,.int .i64 p,.int .i64 a],.agg #[.int .i64 r',.int .i64 l',.int .i64 s',.int .i64 p',.int .i64 a'],.int .i64 t] w (Ret w (.bool false)):=by
 go_enter Tryz.func107,Tryz.ntmps107
 go_wp2_with fail
 refine wp_region_quiet_below (by kernel_rfl) (by kernel_rfl) ?_
 repeat (go_big_quiet_step (first|fail|(go_at_call 54;first|with_reducible exact quiet_ret (vmfleetref35_ValidClaim_is h1.out _)|exact quiet_ret (vmfleetref35_ValidClaim_is h2.out _))|(go_at_call 23;exact quiet_ret (vmfleetref35_taxed_is h3.out _))))
 refine wpQuiet_nil ?_
 intro w1 hw1
 have hb1:=below_of_regrown hw1
 clear hw1
 obtain⟨hc1,hf1⟩:=bcell hb1
 have hz1:=bsize hb1
 try simp only[sizes1] at hz1
 try simp only[sizes] at hc1 hf1
 go_wp2_with fail
 go_ret
 exact Ret.mk bel
set_option maxHeartbeats 1000000 in
theorem vmfleetref35_Poorer_yes' (r l s p a r' l' s' p' a' t:Int) (w:World) (h1:Hid (validB ⟨r,l,s,p,a⟩=true)) (h2:Hid (validB ⟨r',l',s',p',a'⟩=true)) (h3:Hid (taxB t=true)) (k1:0≤s*costI ⟨r',l',s',p',a'⟩ t∧s*costI ⟨r',l',s',p',a'⟩ t≤19200000000) (k2:0≤s'*costI ⟨r,l,s,p,a⟩ t∧s'*costI ⟨r,l,s,p,a⟩ t≤19200000000):Calls Tryz.prog 107 #[.agg #[.int .i64 r,.int .i64 l,.int .i64 s,.int .i64 p,.int .i64 a],.agg #[.int .i64 r',.int .i64 l',.int .i64 s',.int .i64 p',.int .i64 a'],.int .i64 t] w (Ret w (.bool (decide (s*costI ⟨r',l',s',p',a'⟩ t<s'*costI ⟨r,l,s,p,a⟩ t)))):=by
 go_enter Tryz.func107,Tryz.ntmps107
 go_wp2_with fail
 refine wp_region_quiet_below (by kernel_rfl) (by kernel_rfl) ?_
 repeat (go_big_quiet_step (first|fail|(go_at_call 54;first|with_reducible exact quiet_ret (vmfleetref35_ValidClaim_is h1.out _)|exact quiet_ret (vmfleetref35_ValidClaim_is h2.out _))|(go_at_call 23;exact quiet_ret (vmfleetref35_taxed_is h3.out _))|(go_at_call 116;exact quiet_ret (vmfleetref35_Cost_any _ _ _ _ _ _ _))))
 refine wpQuiet_nil ?_
 intro w1 hw1
 have hb1:=below_of_regrown hw1
 clear hw1
 obtain⟨hc1,hf1⟩:=bcell hb1
 have hz1:=bsize hb1
 try simp only[sizes1] at hz1
 try simp only[sizes] at hc1 hf1
 go_wp2_with fail
 go_ret
 exact Ret.mk bel
theorem vmfleetref35_Poorer_yes (r l s p a r' l' s' p' a' t:Int) (w:World) (h1:validB ⟨r,l,s,p,a⟩=true) (h2:validB ⟨r',l',s',p',a'⟩=true) (h3:taxB t=true) :
    Calls Tryz.prog 107 #[.agg #[.int .i64 r,.int .i64 l,.int .i64 s,.int .i64 p,.int .i64 a],.agg #[.int .i64 r',.int .i64 l',.int .i64 s',.int .i64 p',.int .i64 a'],.int .i64 t] w (Ret w (.bool (decide (s*costI ⟨r',l',s',p',a'⟩ t<s'*costI ⟨r,l,s,p,a⟩ t)))):=by
 have v1:=(validB_iff _).1 h1
 have v2:=(validB_iff _).1 h2
 dsimp only at v1 v2
 exact vmfleetref35_Poorer_yes' _ _ _ _ _ _ _ _ _ _ _ w h1 h2 h3 (price_bd (s:=s) ⟨r',l',s',p',a'⟩ t (by omega) (by omega)) (price_bd (s:=s') ⟨r,l,s,p,a⟩ t (by omega) (by omega))
theorem idletax_Poorer_any (r l s p a r' l' s' p' a' t:Int) (w:World):Calls Tryz.prog 112 #[.agg #[.int .i64 r,.int .i64 l,.int .i64 s,.int .i64 p,.int .i64 a],.agg #[.int .i64 r',.int .i64 l',.int .i64 s',.int .i64 p',.int .i64 a'],.int .i64 t] w (Ret w (.bool (poorB ⟨r,l,s,p,a⟩ ⟨r',l',s',p',a'⟩ t))):=by
 cases h1:validB ⟨r,l,s,p,a⟩
 · rw[poorB_no (by rw[h1];rfl)];exact idletax_Poorer_no1 _ _ _ _ _ _ _ _ _ _ _ w h1
 · cases h2:validB ⟨r',l',s',p',a'⟩
   · rw[poorB_no (by rw[h2,Bool.and_false,Bool.false_and])];exact idletax_Poorer_no2 _ _ _ _ _ _ _ _ _ _ _ w h1 h2
   · cases h3:taxB t
     · rw[poorB_no (by rw[h3,Bool.and_false])];exact idletax_Poorer_no3 _ _ _ _ _ _ _ _ _ _ _ w h1 h2 h3
     · rw[poorB_yes h1 h2 h3];exact idletax_Poorer_yes _ _ _ _ _ _ _ _ _ _ _ w h1 h2 h3
theorem vmfleetref35_Poorer_any (r l s p a r' l' s' p' a' t:Int) (w:World):Calls Tryz.prog 107 #[.agg #[.int .i64 r,.int .i64 l,.int .i64 s,.int .i64 p,.int .i64 a],.agg #[.int .i64 r',.int .i64 l',.int .i64 s',.int .i64 p',.int .i64 a'],.int .i64 t] w (Ret w (.bool (poorB ⟨r,l,s,p,a⟩ ⟨r',l',s',p',a'⟩ t))):=by
 cases h1:validB ⟨r,l,s,p,a⟩
 · rw[poorB_no (by rw[h1];rfl)];exact vmfleetref35_Poorer_no1 _ _ _ _ _ _ _ _ _ _ _ w h1
 · cases h2:validB ⟨r',l',s',p',a'⟩
   · rw[poorB_no (by rw[h2,Bool.and_false,Bool.false_and])];exact vmfleetref35_Poorer_no2 _ _ _ _ _ _ _ _ _ _ _ w h1 h2
   · cases h3:taxB t
     · rw[poorB_no (by rw[h3,Bool.and_false])];exact vmfleetref35_Poorer_no3 _ _ _ _ _ _ _ _ _ _ _ w h1 h2 h3
     · rw[poorB_yes h1 h2 h3];exact vmfleetref35_Poorer_yes _ _ _ _ _ _ _ _ _ _ _ w h1 h2 h3
end Go.Proofs.YtbnngjhnkegliaaGreat
