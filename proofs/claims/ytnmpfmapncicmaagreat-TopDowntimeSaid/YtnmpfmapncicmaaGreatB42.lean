/-
  Texts joined: TpSi TpSj. No law is proved here.
-/
import Derived.Test.YtnmpfmapncicmaaGreatB40
namespace Go.Proofs.YtnmpfmapncicmaaGreat
set_option linter.all false
set_option maxRecDepth 100000
set_option maxHeartbeats 40000000
open Go.RowKit
section
variable {M:Mc} {w0 w:World} {l:List Bx} {j k g B n:Nat} {ev:Ev}
theorem Xz13 {P:Prop} (h:P:=by
  go_in
  go_wp2_with (first|(go_skip;first|(go_step;go_big_op)|skip)|(refine A7 (ty:=4) L _ (Ac (Gj.out _ _)) rfl rfl rfl τ4 rfl hh' ?_)|(refine YL ?_)|(refine YS ?_;clear L;intro wz L))
  go_ret
  exact⟨rfl,L.drop1⟩):P:=h
theorem ra_halted (L:Lay w0 w l) (hj:l[j]?=some ⟨B,mcL M (.slice (some ⟨g,0,none⟩) n n),43⟩) (hk:l[k]?=some ⟨g,words M.m,25⟩) (hh:M.h=true):Calls Tryz.prog 72 #[.pointer (some ⟨B,0,none⟩),.agg (evL ev).toArray] w (Bc w0 (two l j k B g (mcL ((M,false)).1 (.slice (some ⟨g,0,none⟩) n n)) ((M,false)).1.m) (.bool ((M,false)).2)):=by
 have Gj:=lh (FE hj hk)
 have Gk:=lh (FD hj hk)
 have Sj:=lh (Ep hj hk)
 have Sk:=lh (Eo (l:=l) (j:=j) (k:=k) (B:=B) (g:=g))
 rw[C5 hj hk] at L
 have hh':(mcL M (.slice (some ⟨g,0,none⟩) n n))[48]?=some (.bool M.h):=rfl
 rw[hh] at hh'
 clear hj hk
 exact Xz13
theorem ra_timer (L:Lay w0 w l) (hj:l[j]?=some ⟨B,mcL M (.slice (some ⟨g,0,none⟩) n n),43⟩) (hk:l[k]?=some ⟨g,words M.m,25⟩) (hh:M.h=false) (hk2:ev.k=2) (h1:ev.n=0) (h2:ev.d.size=0):Calls Tryz.prog 72 #[.pointer (some ⟨B,0,none⟩),.agg (evL ev).toArray] w (Bc w0 (two l j k B g (mcL (({ M with tm:=(BT M.tm).1 },(BT M.tm).2)).1 (.slice (some ⟨g,0,none⟩) n n)) (({ M with tm:=(BT M.tm).1 },(BT M.tm).2)).1.m) (.bool (({ M with tm:=(BT M.tm).1 },(BT M.tm).2)).2)):=by
 have HF:=lh (fun w=>rfire_any M.tm w)
 generalize (BT M.tm).1=t at *
 generalize (BT M.tm).2=b at *
 have hq:ev.d.toList.isEmpty=true:=by rw[isEmpty_iff];exact decide_eq_true h2
 have hk':(ev.k == 2)=true:=by rw[hk2];rfl
 have hn':(ev.n == 0)=true:=by rw[h1];rfl
 have Gj:=lh (FE hj hk)
 have Gk:=lh (FD hj hk)
 have Sj:=lh (Ep hj hk)
 have Sk:=lh (Eo (l:=l) (j:=j) (k:=k) (B:=B) (g:=g))
 rw[C5 hj hk] at L
 have hh':(mcL M (.slice (some ⟨g,0,none⟩) n n))[48]?=some (.bool M.h):=rfl
 rw[hh] at hh'
 clear hj hk
 clear h1 h2 hk2
 go_in
 go_wp2_with (first|(go_skip;first|(go_step;go_big_op)|skip)|(refine A7 (ty:=4) L _ (Ac (Gj.out _ _)) rfl rfl rfl τ4 rfl hh' ?_)|(refine AQ (ty:=34) L _ (Ac (Gj.out _ _)) (tmL M.tm) rfl rfl rfl τ34 rfl BS rfl ?_)|(refine Ag (ty:=34) L _ (Ac (Gj.out _ _)) (tmL t) (mcL { M with tm:=t } (.slice (some ⟨g,0,none⟩) n n)) rfl rfl rfl rfl BS (tmL_one _) rfl rfl ?_;intro wz Lz Nz;clear Nz;replace L:=Lz;clear Lz;(try simp only[s0,s1] at L);(try simp only[List.set_cons_succ,Sj.out] at L))|(refine YL ?_)|(refine YS ?_;clear L;intro wz L))
 go_ret
 exact⟨rfl,L.drop1⟩
theorem ra_target (L:Lay w0 w l) (hj:l[j]?=some ⟨B,mcL M (.slice (some ⟨g,0,none⟩) n n),43⟩) (hk:l[k]?=some ⟨g,words M.m,25⟩) (hh:M.h=false) (hk6:ev.k=6) (h0:0≤ev.n) (h2:ev.d.size=0):Calls Tryz.prog 72 #[.pointer (some ⟨B,0,none⟩),.agg (evL ev).toArray] w (Bc w0 (two l j k B g (mcL (({ M with T:=ev.n.toNat },true)).1 (.slice (some ⟨g,0,none⟩) n n)) (({ M with T:=ev.n.toNat },true)).1.m) (.bool (({ M with T:=ev.n.toNat },true)).2)):=by
 obtain⟨ek,en,D⟩:=ev
 dsimp only at hk6 h0 h2
 subst hk6
 obtain⟨q,rfl⟩:∃ q:Nat,en=q:=⟨en.toNat,by omega⟩
 dsimp only
 rw[Int.toNat_natCast]
 have hq:D.toList.isEmpty=true:=by rw[isEmpty_iff];exact decide_eq_true h2
 have Gj:=lh (FE hj hk)
 have Gk:=lh (FD hj hk)
 have Sj:=lh (Ep hj hk)
 have Sk:=lh (Eo (l:=l) (j:=j) (k:=k) (B:=B) (g:=g))
 rw[C5 hj hk] at L
 have hh':(mcL M (.slice (some ⟨g,0,none⟩) n n))[48]?=some (.bool M.h):=rfl
 rw[hh] at hh'
 clear hj hk
 clear h0 h2
 go_in
 go_wp2_with (first|(go_skip;first|(go_step;go_big_op)|skip)|(refine A7 (ty:=4) L _ (Ac (Gj.out _ _)) rfl rfl rfl τ4 rfl hh' ?_)|(refine Aq (ty:=25) (u:=(.int .u32 (q:Int))) L _ (Ac (Gj.out _ _)) (mcL { M with T:=q } (.slice (some ⟨g,0,none⟩) n n)) rfl rfl rfl rfl Bj rfl rfl rfl ?_;intro wz Lz Nz;clear Nz;replace L:=Lz;clear Lz;(try simp only[s0,s1] at L);(try simp only[List.set_cons_succ,Sj.out] at L))|(refine YL ?_)|(refine YS ?_;clear L;intro wz L))
 go_ret
 exact⟨rfl,L.drop1⟩
end
section
variable {M:Mc} {w0 w:World} {l t:List Bx} {j k g B n b:Nat} {ev:Ev} {v:Value}
theorem Hj (L:Lay w0 w (⟨b,evL ev,111⟩ :: t)) (hj:t[j]?=some ⟨B,mcL M v,43⟩):KeptC [⟨b,evL ev,111⟩] [(B,25,v)] w :=
 ⟨Al L (j:=0) rfl,fun c hc=>by rw[List.mem_singleton.1 hc,(L.at (Ac hj)).cell];rfl⟩
theorem Xz65 {P:Prop} (h:P:=by
  (try simp only[q1,q2,q3,Act.put,q4,s0,s1])
  refine YT ?_
  refine YD ?_
  clear hHeld
  go_wp2_with fail
  try go_simp
  go_ret
  exact⟨rfl,L.drop1⟩):P:=h
theorem ra_disk (hM:M.Ok) (L:Lay w0 w l) (hj:l[j]?=some ⟨B,mcL M (.slice (some ⟨g,0,none⟩) n n),43⟩) (hk:l[k]?=some ⟨g,words M.m,25⟩) (hn:M.m.length=n) (hh:M.h=false) (hk4:ev.k=4) (h0:0≤ev.n):Calls Tryz.prog 72 #[.pointer (some ⟨B,0,none⟩),.agg (evL ev).toArray] w (Bc w0 (two l j k B g (mcL (({ M with dk:=(AS M.dk M.m ev).1,m:=(AS M.dk M.m ev).2.1 },(AS M.dk M.m ev).2.2)).1 (.slice (some ⟨g,0,none⟩) n n)) (({ M with dk:=(AS M.dk M.m ev).1,m:=(AS M.dk M.m ev).2.1 },(AS M.dk M.m ev).2.2)).1.m) (.bool (({ M with dk:=(AS M.dk M.m ev).1,m:=(AS M.dk M.m ev).2.1 },(AS M.dk M.m ev).2.2)).2)):=by
 have HFN:=lh (fun w l' k' L h=>fin_any (d:=M.dk) (e:=ev) (w0:=w0) (w:=w) (l:=l') (k:=k') (g:=g) (n:=n) (xs:=M.m) L h hn hM.m hM.dk h0)
 generalize AS M.dk M.m ev=r at HFN ⊢
 obtain⟨d',m2,ok⟩:=r
 dsimp only at HFN ⊢
 have Gj:=lh (FE hj hk)
 have Gk:=lh (FD hj hk)
 have Sj:=lh (Ep hj hk)
 have Sk:=lh (Eo (l:=l) (j:=j) (k:=k) (B:=B) (g:=g))
 rw[C5 hj hk] at L
 have hh':(mcL M (.slice (some ⟨g,0,none⟩) n n))[48]?=some (.bool M.h):=rfl
 rw[hh] at hh'
 clear hj hk
 clear h0 hM hn hh
 have k2:(ev.k == 2)=false:=by rw[hk4];rfl
 have k3:(ev.k == 3)=false:=by rw[hk4];rfl
 have k4:(ev.k == 4)=true:=by rw[hk4];rfl
 clear hk4
 go_in
 go_upto_region 9 with (first|(go_skip;first|(go_step;go_big_op)|skip)|(refine A7 (ty:=4) L _ (Ac (Gj.out _ _)) rfl rfl rfl τ4 rfl hh' ?_)|(refine YL ?_)|(refine YS ?_;clear L;intro wz L))
 (try simp only[Act.put,q4,s0,s1])
 have hHeld:=(fun w L=>Hj (w:=w) L (Gj.out _ _)) _ L.drew
 refine wp_region_held_drew (by kernel_rfl) hHeld (fun hHeld=>?_)
 replace L:=L.drew
 refine YT ?_
 refine wpAnyH_take (i:=8) (v:=(.slice (some ⟨g,0,none⟩) n n)) rfl (by kernel_rfl) (by kernel_rfl) (by kernel_rfl) (fun _ _ _ h=>h) (AG (ty:=30) 0 rfl (by rfl) rfl rfl τ30 rfl) (by assumption) ?_
 (try simp only[q1,q2,q3,Act.put,q4,s0,s1])
 refine wpAnyH_take (i:=9) (v:=.agg (evL ev).toArray) rfl (by kernel_rfl) (by kernel_rfl) (by kernel_rfl) (fun _ _ _ h=>h) (yieldK_part (ty:=111) 0 rfl (evL ev) (by rfl) rfl rfl τ111 rfl CV rfl) (by assumption) ?_
 (try simp only[q1,q2,q3,Act.put,q4,s0,s1])
 refine zor 4 ?_;intro K hK
 refine Ae (by rfl) (C7 (ty:=36) L _ (Ac (Gj.out _ _)) (dkL M.dk) rfl rfl τ36 rfl Bk rfl ?_)
 refine hK.out _ _ (Hj L (Gj.out _ _)) ?_;clear hHeld hK K;intro hHeld
 (try simp only[q1,q2,q3,Act.put,q4,s0,s1])
 refine zor 10 ?_;intro K hK
 go_simp
 with_reducible refine (HFN.out _ _ _ L (Ac (Gk.out _ _))).mono ?_
 rintro ee wz ⟨rfl,Lz⟩
 replace L:=Lz
 clear Lz
 simp only[List.set_cons_succ,Sk.out] at L
 go_simp
 refine hK.out _ _ (Hj L (Gj.out _ _)) ?_;clear hHeld hK K;intro hHeld
 (try simp only[q1,q2,q3,Act.put,q4,s0,s1])
 refine YT ?_
 refine zor 16 ?_;intro K hK
 refine Ae (by rfl) (Am (ty:=36) L _ (Ac (Gj.out _ _)) (dkL d') (mcL { M with dk:=d',m:=m2 } (.slice (some ⟨g,0,none⟩) n n)) rfl rfl rfl Bk (Gu _) rfl rfl ?_)
 intro wy Ly Ny
 clear Ny
 replace L:=Ly
 clear Ly
 simp only[List.set_cons_succ,Sj.out] at L
 refine hK.out _ _ (Hj (M:={ M with dk:=d',m:=m2 }) L (Gj.out _ _)) ?_;clear hHeld hK K;intro hHeld
 exact Xz65
end
end Go.Proofs.YtnmpfmapncicmaaGreat
