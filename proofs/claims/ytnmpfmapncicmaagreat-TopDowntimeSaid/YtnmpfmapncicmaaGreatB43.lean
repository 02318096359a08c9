/-
  Texts joined: TpSk. No law is proved here.
-/
import Derived.Test.YtnmpfmapncicmaaGreatB42
namespace Go.Proofs.YtnmpfmapncicmaaGreat
set_option linter.all false
set_option maxRecDepth 100000
set_option maxHeartbeats 40000000
open Go.RowKit
section
variable {M:Mc} {w0 w:World} {l t:List Bx} {j k g B n b:Nat} {ev:Ev} {v:Value}
theorem Hl (L:Lay w0 w (⟨b,evL ev,111⟩ :: t)) (hj:t[j]?=some ⟨B,mcL M v,43⟩):KeptC [] [(B,25,v),(b,2,.string ev.d)] w :=
 KeptC.none (fun c hc=>by
  simp only[List.mem_cons,List.not_mem_nil,or_false] at hc
  rcases hc with rfl|rfl
  · rw[(L.at (Ac hj)).cell];rfl
  · rw[(L.at (k:=0) rfl).cell];rfl)
theorem ra_net (hM:M.Ok) (L:Lay w0 w l) (hj:l[j]?=some ⟨B,mcL M (.slice (some ⟨g,0,none⟩) n n),43⟩) (hk:l[k]?=some ⟨g,words M.m,25⟩) (hn:M.m.length=n) (hh:M.h=false) (hk5:ev.k=5) (h0:ev.n=0):Calls Tryz.prog 72 #[.pointer (some ⟨B,0,none⟩),.agg (evL ev).toArray] w (Bc w0 (two l j k B g (mcL (({ M with nc:=(AR M.nc M.m ev.d).1,m:=(AR M.nc M.m ev.d).2.1 },(AR M.nc M.m ev.d).2.2)).1 (.slice (some ⟨g,0,none⟩) n n)) (({ M with nc:=(AR M.nc M.m ev.d).1,m:=(AR M.nc M.m ev.d).2.1 },(AR M.nc M.m ev.d).2.2)).1.m) (.bool (({ M with nc:=(AR M.nc M.m ev.d).1,m:=(AR M.nc M.m ev.d).2.1 },(AR M.nc M.m ev.d).2.2)).2)):=by
 have HFN:=lh (fun w l' k' L h=>acc_any (c:=M.nc) (D:=ev.d) (w0:=w0) (w:=w) (l:=l') (k:=k') (g:=g) (n:=n) (xs:=M.m) L h hn hM.m hM.nc)
 generalize AR M.nc M.m ev.d=r at HFN ⊢
 obtain⟨d',m2,ok⟩:=r
 dsimp only at HFN ⊢
 have Gj:=lh (FE hj hk)
 have Gk:=lh (FD hj hk)
 have Sj:=lh (Ep hj hk)
 have Sk:=lh (Eo (l:=l) (j:=j) (k:=k) (B:=B) (g:=g))
 rw[C5 hj hk] at L
 have hh':(mcL M (.slice (some ⟨g,0,none⟩) n n))[48]?=some (.bool M.h):=rfl
 rw[hh] at hh'
 clear hj hk
 clear hM hn hh
 have k2:(ev.k == 2)=false:=by rw[hk5];rfl
 have k3:(ev.k == 3)=false:=by rw[hk5];rfl
 have k4:(ev.k == 4)=false:=by rw[hk5];rfl
 have k5:(ev.k == 5)=true:=by rw[hk5];rfl
 have kn:(ev.n == 0)=true:=by rw[h0];rfl
 clear hk5 h0
 go_in
 go_upto_region 11 with (first|(go_skip;first|(go_step;go_big_op)|skip)|(refine A7 (ty:=4) L _ (Ac (Gj.out _ _)) rfl rfl rfl τ4 rfl hh' ?_)|(refine YL ?_)|(refine YS ?_;clear L;intro wz L))
 (try simp only[Act.put,q4,s0,s1])
 have hHeld:=(fun w L=>Hl (w:=w) L (Gj.out _ _)) _ L.drew
 refine wp_region_held_drew (by kernel_rfl) hHeld (fun hHeld=>?_)
 replace L:=L.drew
 refine YT ?_
 refine wpAnyH_take (i:=8) (v:=(.slice (some ⟨g,0,none⟩) n n)) rfl (by kernel_rfl) (by kernel_rfl) (by kernel_rfl) (fun _ _ _ h=>h) (AG (ty:=30) 0 rfl (by rfl) rfl rfl τ30 rfl) (by assumption) ?_
 (try simp only[q1,q2,q3,Act.put,q4,s0,s1])
 refine YT ?_
 refine wpAnyH_take (i:=10) (v:=.string ev.d) rfl (by kernel_rfl) (by kernel_rfl) (by kernel_rfl) (fun _ _ _ h=>h) (AG (ty:=9) 1 rfl (by rfl) rfl rfl τ9 rfl) (by assumption) ?_
 (try simp only[q1,q2,q3,Act.put,q4,s0,s1])
 refine zor 4 ?_;intro K hK
 refine Ae (by rfl) (C7 (ty:=38) L _ (Ac (Gj.out _ _)) (ncL M.nc) rfl rfl τ38 rfl B7 rfl ?_)
 refine hK.out _ _ (Hl L (Gj.out _ _)) ?_;clear hHeld hK K;intro hHeld
 (try simp only[q1,q2,q3,Act.put,q4,s0,s1])
 refine zor 11 ?_;intro K hK
 go_simp
 with_reducible refine (HFN.out _ _ _ L (Ac (Gk.out _ _))).mono ?_
 rintro ee wz ⟨rfl,Lz⟩
 replace L:=Lz
 clear Lz
 simp only[List.set_cons_succ,Sk.out] at L
 go_simp
 refine hK.out _ _ (Hl L (Gj.out _ _)) ?_;clear hHeld hK K;intro hHeld
 (try simp only[q1,q2,q3,Act.put,q4,s0,s1])
 refine YT ?_
 refine zor 17 ?_;intro K hK
 refine Ae (by rfl) (Am (ty:=38) L _ (Ac (Gj.out _ _)) (ncL d') (mcL { M with nc:=d',m:=m2 } (.slice (some ⟨g,0,none⟩) n n)) rfl rfl rfl B7 (JC _) rfl rfl ?_)
 intro wy Ly Ny
 clear Ny
 replace L:=Ly
 clear Ly
 simp only[List.set_cons_succ,Sj.out] at L
 refine hK.out _ _ (Hl (M:={ M with nc:=d',m:=m2 }) L (Gj.out _ _)) ?_;clear hHeld hK K;intro hHeld
 exact Xz65
end
end Go.Proofs.YtnmpfmapncicmaaGreat
