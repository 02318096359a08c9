/-
  Texts joined: TpSl TpSm. No law is proved here.
-/
import Derived.Test.YtnmpfmapncicmaaGreatB43
namespace Go.Proofs.YtnmpfmapncicmaaGreat
set_option linter.all false
set_option maxRecDepth 100000
set_option maxHeartbeats 40000000
open Go.RowKit
section
variable {M:Mc} {w0 w:World} {l:List Bx} {j k g B n:Nat} {ev:Ev}
theorem Xz5 {P:Prop} (h:P:=by
  have k2:=hk' 2
  have k3:=hk' 3
  have k4:=hk' 4
  have k5:=hk' 5
  have k6:=hk' 6
  have Gj:=lh (FE hj hk)
  have Gk:=lh (FD hj hk)
  have Sj:=lh (Ep hj hk)
  have Sk:=lh (Eo (l:=l) (j:=j) (k:=k) (B:=B) (g:=g))
  rw[C5 hj hk] at L
  have hh':(mcL M (.slice (some ⟨g,0,none⟩) n n))[48]?=some (.bool M.h):=rfl
  rw[hh] at hh'
  clear hj hk
  clear hk' hq hh
  go_in
  go_wp2_with (first|(go_skip;first|(go_step;go_big_op)|skip)|(refine A7 (ty:=4) L _ (Ac (Gj.out _ _)) rfl rfl rfl τ4 rfl hh' ?_)|(refine YL ?_)|(refine YS ?_;clear L;intro wz L))
  go_ret
  exact⟨rfl,L.drop1⟩):P:=h
theorem ra_timer_n (L:Lay w0 w l) (hj:l[j]?=some ⟨B,mcL M (.slice (some ⟨g,0,none⟩) n n),43⟩) (hk:l[k]?=some ⟨g,words M.m,25⟩) (hh:M.h=false) (hq:ev.k=2) (h1:ev.n≠0):Calls Tryz.prog 72 #[.pointer (some ⟨B,0,none⟩),.agg (evL ev).toArray] w (Bc w0 (two l j k B g (mcL ((M,false)).1 (.slice (some ⟨g,0,none⟩) n n)) ((M,false)).1.m) (.bool ((M,false)).2)):=by
 have hn':(ev.n == 0)=false:=by simpa using h1
 have hk':∀ q:Int,(ev.k == q)=(2 == q):=fun q=>by rw[hq]
 exact Xz5
theorem ra_timer_d (L:Lay w0 w l) (hj:l[j]?=some ⟨B,mcL M (.slice (some ⟨g,0,none⟩) n n),43⟩) (hk:l[k]?=some ⟨g,words M.m,25⟩) (hh:M.h=false) (hq:ev.k=2) (h1:ev.n=0) (h2:ev.d.size≠0):Calls Tryz.prog 72 #[.pointer (some ⟨B,0,none⟩),.agg (evL ev).toArray] w (Bc w0 (two l j k B g (mcL ((M,false)).1 (.slice (some ⟨g,0,none⟩) n n)) ((M,false)).1.m) (.bool ((M,false)).2)):=by
 have hn':(ev.n == 0)=true∧ev.d.toList.isEmpty=false:=⟨by rw[h1];rfl,(isEmpty_iff _).trans (decide_eq_false h2)⟩
 have hk':∀ q:Int,(ev.k == q)=(2 == q):=fun q=>by rw[hq]
 exact Xz5
theorem ra_key_n (L:Lay w0 w l) (hj:l[j]?=some ⟨B,mcL M (.slice (some ⟨g,0,none⟩) n n),43⟩) (hk:l[k]?=some ⟨g,words M.m,25⟩) (hh:M.h=false) (hq:ev.k=3) (h1:¬ev.n≤255):Calls Tryz.prog 72 #[.pointer (some ⟨B,0,none⟩),.agg (evL ev).toArray] w (Bc w0 (two l j k B g (mcL ((M,false)).1 (.slice (some ⟨g,0,none⟩) n n)) ((M,false)).1.m) (.bool ((M,false)).2)):=by
 have hn':decide (ev.n≤255)=false:=decide_eq_false h1
 have hk':∀ q:Int,(ev.k == q)=(3 == q):=fun q=>by rw[hq]
 exact Xz5
theorem ra_key_d (L:Lay w0 w l) (hj:l[j]?=some ⟨B,mcL M (.slice (some ⟨g,0,none⟩) n n),43⟩) (hk:l[k]?=some ⟨g,words M.m,25⟩) (hh:M.h=false) (hq:ev.k=3) (h1:ev.n≤255) (h2:ev.d.size≠0):Calls Tryz.prog 72 #[.pointer (some ⟨B,0,none⟩),.agg (evL ev).toArray] w (Bc w0 (two l j k B g (mcL ((M,false)).1 (.slice (some ⟨g,0,none⟩) n n)) ((M,false)).1.m) (.bool ((M,false)).2)):=by
 have hn':ev.d.toList.isEmpty=false∧decide (ev.n≤255)=true:=⟨(isEmpty_iff _).trans (decide_eq_false h2),decide_eq_true h1⟩
 have hk':∀ q:Int,(ev.k == q)=(3 == q):=fun q=>by rw[hq]
 exact Xz5
theorem ra_net_n (L:Lay w0 w l) (hj:l[j]?=some ⟨B,mcL M (.slice (some ⟨g,0,none⟩) n n),43⟩) (hk:l[k]?=some ⟨g,words M.m,25⟩) (hh:M.h=false) (hq:ev.k=5) (h1:ev.n≠0):Calls Tryz.prog 72 #[.pointer (some ⟨B,0,none⟩),.agg (evL ev).toArray] w (Bc w0 (two l j k B g (mcL ((M,false)).1 (.slice (some ⟨g,0,none⟩) n n)) ((M,false)).1.m) (.bool ((M,false)).2)):=by
 have hn':(ev.n == 0)=false:=by simpa using h1
 have hk':∀ q:Int,(ev.k == q)=(5 == q):=fun q=>by rw[hq]
 exact Xz5
theorem ra_bal_d (L:Lay w0 w l) (hj:l[j]?=some ⟨B,mcL M (.slice (some ⟨g,0,none⟩) n n),43⟩) (hk:l[k]?=some ⟨g,words M.m,25⟩) (hh:M.h=false) (hq:ev.k=6) (h2:ev.d.size≠0):Calls Tryz.prog 72 #[.pointer (some ⟨B,0,none⟩),.agg (evL ev).toArray] w (Bc w0 (two l j k B g (mcL ((M,false)).1 (.slice (some ⟨g,0,none⟩) n n)) ((M,false)).1.m) (.bool ((M,false)).2)):=by
 have hn':ev.d.toList.isEmpty=false:=(isEmpty_iff _).trans (decide_eq_false h2)
 have hk':∀ q:Int,(ev.k == q)=(6 == q):=fun q=>by rw[hq]
 exact Xz5
theorem ra_other (L:Lay w0 w l) (hj:l[j]?=some ⟨B,mcL M (.slice (some ⟨g,0,none⟩) n n),43⟩) (hk:l[k]?=some ⟨g,words M.m,25⟩) (hh:M.h=false) (hq:ev.k<2∨6<ev.k):Calls Tryz.prog 72 #[.pointer (some ⟨B,0,none⟩),.agg (evL ev).toArray] w (Bc w0 (two l j k B g (mcL ((M,false)).1 (.slice (some ⟨g,0,none⟩) n n)) ((M,false)).1.m) (.bool ((M,false)).2)):=by
 have n2:(ev.k == 2)=false:=by rw[beq_eq_false_iff_ne];omega
 have n3:(ev.k == 3)=false:=by rw[beq_eq_false_iff_ne];omega
 have n4:(ev.k == 4)=false:=by rw[beq_eq_false_iff_ne];omega
 have n5:(ev.k == 5)=false:=by rw[beq_eq_false_iff_ne];omega
 have n6:(ev.k == 6)=false:=by rw[beq_eq_false_iff_ne];omega
 have Gj:=lh (FE hj hk)
 have Gk:=lh (FD hj hk)
 have Sj:=lh (Ep hj hk)
 have Sk:=lh (Eo (l:=l) (j:=j) (k:=k) (B:=B) (g:=g))
 rw[C5 hj hk] at L
 have hh':(mcL M (.slice (some ⟨g,0,none⟩) n n))[48]?=some (.bool M.h):=rfl
 rw[hh] at hh'
 clear hj hk
 clear hq hh
 exact Xz13
end
section
variable {M:Mc} {w0 w:World} {l t:List Bx} {j k g B n b:Nat} {ev:Ev} {v:Value}
theorem Hm (L:Lay w0 w (⟨b,evL ev,111⟩ :: t)):KeptC [] [(b,1,.int .u32 ev.n)] w :=
 KeptC.none (fun c hc=>by
  rw[List.mem_singleton.1 hc,(L.at (k:=0) rfl).cell];rfl)
theorem ra_key (L:Lay w0 w l) (hj:l[j]?=some ⟨B,mcL M (.slice (some ⟨g,0,none⟩) n n),43⟩) (hk:l[k]?=some ⟨g,words M.m,25⟩) (hh:M.h=false) (hq:ev.k=3) (h0:0≤ev.n) (h1:ev.n≤255) (h2:ev.d.size=0):Calls Tryz.prog 72 #[.pointer (some ⟨B,0,none⟩),.agg (evL ev).toArray] w (Bc w0 (two l j k B g (mcL (({ M with keys:=(AV M.keys ev.n).1 },(AV M.keys ev.n).2)).1 (.slice (some ⟨g,0,none⟩) n n)) (({ M with keys:=(AV M.keys ev.n).1 },(AV M.keys ev.n).2)).1.m) (.bool (({ M with keys:=(AV M.keys ev.n).1 },(AV M.keys ev.n).2)).2)):=by
 have HF:∀ w,Calls Tryz.prog 140 #[.agg (DS M.keys).toArray,.int .u8 ev.n] w (Ret w (.tuple #[.agg (DS (AV M.keys ev.n).1).toArray,.bool (AV M.keys ev.n).2])):=fun w=>FB M.keys ev.n w
 generalize (AV M.keys ev.n).1=t at *
 generalize (AV M.keys ev.n).2=bb at *
 have HFN:=lh HF
 clear HF
 have hq':ev.d.toList.isEmpty=true:=by rw[isEmpty_iff];exact decide_eq_true h2
 have hle:decide (ev.n≤255)=true:=decide_eq_true h1
 have h8:IntKind.u8.wrap ev.n=ev.n:=by rw[IntKind.wrap_u8];omega
 have H8:=lh h8
 clear h8
 have k2:(ev.k == 2)=false:=by rw[hq];rfl
 have k3:(ev.k == 3)=true:=by rw[hq];rfl
 have Gj:=lh (FE hj hk)
 have Gk:=lh (FD hj hk)
 have Sj:=lh (Ep hj hk)
 have Sk:=lh (Eo (l:=l) (j:=j) (k:=k) (B:=B) (g:=g))
 rw[C5 hj hk] at L
 have hh':(mcL M (.slice (some ⟨g,0,none⟩) n n))[48]?=some (.bool M.h):=rfl
 rw[hh] at hh'
 clear hj hk
 clear hq hh h2
 go_in
 go_upto_region 7 with (first|(go_skip;first|(go_step;go_big_op)|skip)|(refine A7 (ty:=4) L _ (Ac (Gj.out _ _)) rfl rfl rfl τ4 rfl hh' ?_)|(refine YL ?_)|(refine YS ?_;clear L;intro wz L))
 (try simp only[Act.put,q4,s0,s1])
 have hHeld:=(fun w L=>Hm (w:=w) L) _ L.drew
 refine wp_region_held_drew (by kernel_rfl) hHeld (fun hHeld=>?_)
 replace L:=L.drew
 refine YT ?_
 refine wpAnyH_take (i:=6) (v:=.int .u32 ev.n) rfl (by kernel_rfl) (by kernel_rfl) (by kernel_rfl) (fun _ _ _ h=>h) (AG (ty:=25) 0 rfl (by rfl) rfl rfl τ25 rfl) (by assumption) ?_
 (try simp only[q1,q2,q3,Act.put,q4,s0,s1])
 refine YT ?_
 refine zor 4 ?_;intro K hK
 refine Ae (by rfl) (C7 (ty:=32) L _ (Ac (Gj.out _ _)) (DS M.keys) rfl rfl τ32 rfl BA rfl ?_)
 refine hK.out _ _ (Hm L) ?_;clear hHeld hK K;intro hHeld
 (try simp only[q1,q2,q3,Act.put,q4,s0,s1])
 refine zor 8 ?_;intro K hK
 go_simp
 rw[H8.out]
 with_reducible refine (HFN.out _).mono ?_
 rintro ee wz ⟨rfl,hbz⟩
 replace L:=L.below hbz
 clear hbz
 go_simp
 refine hK.out _ _ (Hm L) ?_;clear hHeld hK K;intro hHeld
 (try simp only[q1,q2,q3,Act.put,q4,s0,s1])
 refine YT ?_
 refine zor 14 ?_;intro K hK
 refine Ae (by rfl) (Am (ty:=32) L _ (Ac (Gj.out _ _)) (DS t) (mcL { M with keys:=t } (.slice (some ⟨g,0,none⟩) n n)) rfl rfl rfl BA (by intro u hu;rw[List.mem_singleton.1 hu];rfl) rfl rfl ?_)
 intro wy Ly Ny
 clear Ny
 replace L:=Ly
 clear Ly
 simp only[List.set_cons_succ,Sj.out] at L
 refine hK.out _ _ (Hm L) ?_;clear hHeld hK K;intro hHeld
 exact Xz65
theorem ra_any (hM:M.Ok) (L:Lay w0 w l) (hj:l[j]?=some ⟨B,mcL M (.slice (some ⟨g,0,none⟩) n n),43⟩) (hk:l[k]?=some ⟨g,words M.m,25⟩) (hn:M.m.length=n) (h1:0≤ev.n):Calls Tryz.prog 72 #[.pointer (some ⟨B,0,none⟩),.agg (evL ev).toArray] w (Bc w0 (two l j k B g (mcL ((EG M ev)).1 (.slice (some ⟨g,0,none⟩) n n)) ((EG M ev)).1.m) (.bool ((EG M ev)).2)):=by
 unfold EG
 by_cases hhh:M.h=true
 · rw[if_pos hhh];exact ra_halted L hj hk hhh
 · rw[if_neg hhh]
   have hh:M.h=false:=by simpa using hhh
   by_cases k2:ev.k=2
   · rw[if_pos k2]
     by_cases h0:ev.n=0
     · by_cases hd:ev.d.size=0
       · have T:=ra_timer L hj hk hh k2 h0 hd
         cases hta:M.tm.a with
         | true =>
           have e1:BT M.tm=(⟨false,M.tm.d,true⟩,true):=by unfold BT;rw[if_pos hta]
           rw[e1] at T
           rw[if_pos ⟨h0,hd,rfl⟩];exact T
         | false =>
           exact Xz82
       · rw[if_neg (fun h=>hd h.2.1)];exact ra_timer_d L hj hk hh k2 h0 hd
     · rw[if_neg (fun h=>h0 h.1)];exact ra_timer_n L hj hk hh k2 h0
   rw[if_neg k2]
   by_cases k3:ev.k=3
   · rw[if_pos k3]
     by_cases h0:ev.n≤255
     · by_cases hd:ev.d.size=0
       · have T:=ra_key L hj hk hh k3 h1 h0 hd
         by_cases hs:M.keys.size<16
         · have e1:AV M.keys ev.n=(M.keys++Bl ev.n,true):=by unfold AV;rw[if_neg (by omega)]
           rw[e1] at T
           rw[if_pos ⟨h0,hd,hs⟩];exact T
         · exact Xz83
       · rw[if_neg (fun h=>hd h.2.1)];exact ra_key_d L hj hk hh k3 h0 hd
     · rw[if_neg (fun h=>h0 h.1)];exact ra_key_n L hj hk hh k3 h0
   rw[if_neg k3]
   by_cases k4:ev.k=4
   · rw[if_pos k4];exact ra_disk hM L hj hk hn hh k4 h1
   rw[if_neg k4]
   by_cases k5:ev.k=5
   · rw[if_pos k5]
     by_cases h0:ev.n=0
     · rw[if_pos h0];exact ra_net hM L hj hk hn hh k5 h0
     · rw[if_neg h0];exact ra_net_n L hj hk hh k5 h0
   rw[if_neg k5]
   by_cases k6:ev.k=6
   · rw[if_pos k6]
     by_cases hd:ev.d.size=0
     · rw[if_pos hd];exact ra_target L hj hk hh k6 h1 hd
     · rw[if_neg hd];exact ra_bal_d L hj hk hh k6 hd
   rw[if_neg k6]
   exact ra_other L hj hk hh (by omega)
end
end Go.Proofs.YtnmpfmapncicmaaGreat
