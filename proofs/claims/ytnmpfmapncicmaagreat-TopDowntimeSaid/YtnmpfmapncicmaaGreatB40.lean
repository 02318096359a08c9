/-
  Texts joined: TpSh. No law is proved here.
-/
import Derived.Test.YtnmpfmapncicmaaGreatB39
namespace Go.Proofs.YtnmpfmapncicmaaGreat
set_option linter.all false
set_option maxRecDepth 100000
set_option maxHeartbeats 40000000
open Go.RowKit
def two (l:List Bx) (j k B g:Nat) (cs:List Value) (xs:List Int):List Bx:=(l.set j ⟨B,cs,43⟩).set k ⟨g,words xs,25⟩
section
variable {l:List Bx} {j k B g:Nat} {cs:List Value} {xs:List Int}
theorem C5 (hj:l[j]?=some ⟨B,cs,43⟩) (hk:l[k]?=some ⟨g,words xs,25⟩):l=two l j k B g cs xs:=by
 unfold two;rw[AY hj,AY hk]
theorem FE (hj:l[j]?=some ⟨B,cs,43⟩) (hk:l[k]?=some ⟨g,words xs,25⟩) (cs':List Value) (xs':List Int):(two l j k B g cs' xs')[j]?=some ⟨B,cs',43⟩:=by
 unfold two;rw[bx_ne (Ne.symm (C4 hj hk))];exact BK hj _
theorem FD (hj:l[j]?=some ⟨B,cs,43⟩) (hk:l[k]?=some ⟨g,words xs,25⟩) (cs':List Value) (xs':List Int):(two l j k B g cs' xs')[k]?=some ⟨g,words xs',25⟩:=by
 unfold two;exact BK (bx_ne' hk (C4 hj hk)) _
theorem Ep (hj:l[j]?=some ⟨B,cs,43⟩) (hk:l[k]?=some ⟨g,words xs,25⟩) (cs' cs2:List Value) (xs':List Int):(two l j k B g cs' xs').set j ⟨B,cs2,43⟩=two l j k B g cs2 xs':=by
 unfold two;rw[List.set_comm _ _ (Ne.symm (C4 hj hk)),List.set_set]
theorem Eo (cs':List Value) (xs' xs2:List Int):(two l j k B g cs' xs').set k ⟨g,words xs2,25⟩=two l j k B g cs' xs2:=by
 unfold two;rw[List.set_set]
end
section
variable {M:Mc} {w0 w:World} {l:List Bx} {j k g B n:Nat} {clk:Int}
theorem Gs {w0 w:World} {t:List Bx} {i b:Nat} {e:Ef} (L:Lay w0 w t) (h:t[i]?=some ⟨b,efL e,129⟩):KeptC [] [(b,2,.int .i64 e.r)] w :=
 KeptC.none (fun c hc=>by
  rw[List.mem_singleton.1 hc,(L.at h).cell];rfl)
theorem Xz0 {P:Prop} (h:P:=by
  refine wpAnyH_ready (rs:=[14]) (by kernel_rfl) (by simp) ?_
  refine (AllReadyH.cons rfl (fun K hK=>?_) AllReadyH.nil)
  first
  | refine Ae (by rfl) (Am (ty:=29) L 0 rfl (Ab c2) (Ab c2) rfl rfl rfl Av (BG _) rfl rfl ?_)
  | refine Ae (by rfl) (Am (ty:=29) L 1 rfl (Ab c2) (Ab c2) rfl rfl rfl Av (BG _) rfl rfl ?_)
  intro wz Lz Nz
  clear Nz
  replace L:=Lz
  clear Lz
  simp only[s0,s1] at L
  refine hK.out _ _ ((by first|exact Al L (Gj.out _ _)|exact Al L (Ac (Gj.out _ _))|exact Al L (Ac (Ac (Gj.out _ _))))) ?_;clear hHeld hK K;intro hHeld
  (try simp only[q1,q2,q3,Act.put,q4,s0,s1])
  refine wpAnyH_ready (rs:=[15]) (by kernel_rfl) (by simp) ?_
  refine (AllReadyH.cons rfl (fun K hK=>?_) AllReadyH.nil)
  first
  | refine Ae (by rfl) (Am (ty:=129) L 0 rfl (efL e) (efL e) rfl rfl rfl Cz (Gt _) rfl rfl ?_)
  | refine Ae (by rfl) (Am (ty:=129) L 1 rfl (efL e) (efL e) rfl rfl rfl Cz (Gt _) rfl rfl ?_)
  intro wz Lz Nz
  clear Nz
  replace L:=Lz
  clear Lz
  simp only[s0,s1] at L
  refine hK.out _ _ ((by first|exact Al L (Gj.out _ _)|exact Al L (Ac (Gj.out _ _))|exact Al L (Ac (Ac (Gj.out _ _))))) ?_;clear hHeld hK K;intro hHeld
  (try simp only[q1,q2,q3,Act.put,q4,s0,s1])
  refine wpAnyH_done (by kernel_rfl) ?_ _
  clear hHeld
  go_wp2_with fail
  go_meet
  first
  | exact⟨_,_,0,1,_,_,rfl,rfl,lh (fun _=>rfl),lh (fun _=>rfl),L⟩
  | exact⟨_,_,1,0,_,_,rfl,rfl,lh (fun _=>rfl),lh (fun _=>rfl),L⟩):P:=h
theorem radv_any (hM:M.Ok) (hs:Ba M=false) (hc0:0≤clk) (hc1:clk<4294967296) (L:Lay w0 w l) (hj:l[j]?=some ⟨B,mcL M (.slice (some ⟨g,0,none⟩) n n),43⟩) (hk:l[k]?=some ⟨g,words M.m,25⟩) (hn:M.m.length=n):Calls Tryz.prog 75 #[.pointer (some ⟨B,0,none⟩),.int .u32 clk] w (RetO w0 (two l j k B g (mcL (AZ M clk).1 (.slice (some ⟨g,0,none⟩) n n)) (AZ M clk).1.m) (AZ M clk).2):=by
 have HIT:=lh (fun w=>rintr_any (v:=(.slice (some ⟨g,0,none⟩) n n)) (w:=w) hM)
 have HDO:=lh (fun w l' k' L h=>do_any (c:=Bb M) (w0:=w0) (w:=w) (l:=l') (k:=k') (g:=g) (n:=n) (xs:=M.m) L h hn (Ch hM) hM.m)
 have XO:=EQ (Ch hM) hM.m
 have hst:AZ M clk=({ (Hd (CG M).1 (CG M).2 clk).1 with n:=M.n+1 },(Hd (CG M).1 (CG M).2 clk).2):=by
  unfold AZ;rw[hs,if_neg (by decide)]
 unfold CG at hst
 generalize hx:Bn (Bb M) M.m=r at HDO hst XO
 obtain⟨c2,m2,e⟩:=r
 dsimp only at HDO hst XO
 have hM2:({ M with c:=c2,m:=m2,w:=false }:Mc).Ok:=hM.exe XO.1 XO.2.1 XO.2.2.1
 have hn2:m2.length=n:=XO.2.2.1.trans hn
 have hef:=XO.2.2.2
 have hcl:=XO.1
 have hnn:((M.n:Int)+1) % 18446744073709551616=((M.n+1:Nat):Int):=by have:=hM.n;omega
 have HNN:=lh hnn
 obtain⟨R,hR⟩:∃ R,AZ M clk=R:=⟨_,rfl⟩
 rw[hR]
 rw[hst] at hR
 unfold Hd at hR
 clear hst hnn XO hx hs
 have Gj:=lh (FE hj hk)
 have Gk:=lh (FD hj hk)
 have Sj:=lh (Ep hj hk)
 have Sk:=lh (Eo (l:=l) (j:=j) (k:=k) (B:=B) (g:=g))
 rw[C5 hj hk] at L
 clear hj hk
 go_in
 go_upto_region 4 with (first|(refine AQ (ty:=43) L _ (Gj.out _ _) (mcL M (.slice (some ⟨g,0,none⟩) n n)) rfl rfl rfl τ43 rfl Aw rfl ?_)|(refine Ag (ty:=29) L _ (Gj.out _ _) (Ab (Bb M)) (mcL { M with c:=Bb M } (.slice (some ⟨g,0,none⟩) n n)) rfl rfl rfl rfl Av (BG _) rfl rfl ?_;intro wz Lz Nz;clear Nz;replace L:=Lz;clear Lz;(try simp only[s0,s1] at L);(try simp only[List.set_cons_succ,Sj.out] at L))|(refine Aq (ty:=4) (u:=(.bool false)) L _ (Gj.out _ _) (mcL { M with c:=Bb M,w:=false } (.slice (some ⟨g,0,none⟩) n n)) rfl rfl rfl rfl Fk rfl rfl rfl ?_;intro wz Lz Nz;clear Nz;replace L:=Lz;clear Lz;(try simp only[s0,s1] at L);(try simp only[List.set_cons_succ,Sj.out] at L))|(refine YS ?_;clear L;intro wz L))
 (try simp only[Act.put,q4,s0,s1])
 go_cut [6,7] from 20 to 30 (fun p6 p7 wx=>∃ (x y:Bx) (i6 i7 b6 b7:Nat),p6=.pointer (some ⟨b6,0,none⟩)∧p7=.pointer (some ⟨b7,0,none⟩)∧Hid (∀ t:List Bx,(x :: y :: t)[i6]?=some ⟨b6,Ab c2,29⟩)∧Hid (∀ t:List Bx,(x :: y :: t)[i7]?=some ⟨b7,efL e,129⟩)∧Lay w0 wx (x :: y :: two l j k B g (mcL { M with c:=Bb M,w:=false } (.slice (some ⟨g,0,none⟩) n n)) m2))
 case first =>
  (try simp only[Act.put,q4,s0,s1])
  have hHeld:=(fun w L=>Al (w:=w) L (Gj.out _ _)) _ L.drew
  refine wp_region_held_drew (by kernel_rfl) hHeld (fun hHeld=>?_)
  replace L:=L.drew
  refine ztk (i:=0) ?_
  refine ztk (i:=1) ?_
  refine ztk (i:=2) ?_
  refine zpt (i:=3) τ29 Av 0 (Ab (Bb M)) ?_
  refine ztk (i:=4) ?_
  refine ztk (i:=5) ?_
  refine ztk (i:=6) ?_
  refine zrc (i:=7) τ30 0 (.slice (some ⟨g,0,none⟩) n n) ?_
  refine wpAnyH_ready (rs:=[8,12,13]) (by kernel_rfl) (by simp) ?_
  refine (AllReadyH.cons rfl (fun K hK=>?_) (AllReadyH.cons rfl (fun K hK=>?_) (AllReadyH.cons rfl (fun K hK=>?_) AllReadyH.nil)))
  · go_simp
    first
    | with_reducible refine (HDO.out _ _ _ L (Gk.out _ _)).mono ?_
    | with_reducible refine (HDO.out _ _ _ L (Ac (Gk.out _ _))).mono ?_
    | with_reducible refine (HDO.out _ _ _ L (Ac (Ac (Gk.out _ _)))).mono ?_
    rintro ee wz ⟨rfl,Lz⟩
    replace L:=Lz
    clear Lz
    simp only[List.set_cons_succ,Sk.out] at L
    go_simp
    refine hK.out _ _ ((by first|exact Al L (Gj.out _ _)|exact Al L (Ac (Gj.out _ _))|exact Al L (Ac (Ac (Gj.out _ _))))) ?_;clear hHeld hK K;intro hHeld
    (try simp only[q1,q2,q3,Act.put,q4,s0,s1])
    refine ztk (i:=9) ?_
    refine ztk (i:=10) ?_
    refine ztk (i:=11) ?_
    refine wpAnyH_ready (rs:=[12,13]) (by kernel_rfl) (by simp) ?_
    refine (AllReadyH.cons rfl (fun K hK=>?_) (AllReadyH.cons rfl (fun K hK=>?_) AllReadyH.nil))
    · refine Ae (by rfl) (AI (ty:=29) L (List.replicate 25 (.int .u32 0)) (.agg (List.toArray (List.replicate 25 (.int .u32 0)))) rfl (by kernel_rfl) rfl ?_)
      intro wz Lz Nz
      clear Nz
      replace L:=Lz
      clear Lz
      refine hK.out _ _ ((by first|exact Al L (Gj.out _ _)|exact Al L (Ac (Gj.out _ _))|exact Al L (Ac (Ac (Gj.out _ _))))) ?_;clear hHeld hK K;intro hHeld
      (try simp only[q1,q2,q3,Act.put,q4,s0,s1])
      refine wpAnyH_ready (rs:=[13]) (by kernel_rfl) (by simp) ?_
      refine (AllReadyH.cons rfl (fun K hK=>?_) AllReadyH.nil)
      refine Ae (by rfl) (AI (ty:=129) L (efL ef0) (.agg (efL ef0).toArray) rfl (by kernel_rfl) rfl ?_)
      intro wz Lz Nz
      clear Nz
      replace L:=Lz
      clear Lz
      refine hK.out _ _ ((by first|exact Al L (Gj.out _ _)|exact Al L (Ac (Gj.out _ _))|exact Al L (Ac (Ac (Gj.out _ _))))) ?_;clear hHeld hK K;intro hHeld
      (try simp only[q1,q2,q3,Act.put,q4,s0,s1])
      exact Xz0
    · refine Ae (by rfl) (AI (ty:=129) L (efL ef0) (.agg (efL ef0).toArray) rfl (by kernel_rfl) rfl ?_)
      intro wz Lz Nz
      clear Nz
      replace L:=Lz
      clear Lz
      refine hK.out _ _ ((by first|exact Al L (Gj.out _ _)|exact Al L (Ac (Gj.out _ _))|exact Al L (Ac (Ac (Gj.out _ _))))) ?_;clear hHeld hK K;intro hHeld
      (try simp only[q1,q2,q3,Act.put,q4,s0,s1])
      refine wpAnyH_ready (rs:=[12]) (by kernel_rfl) (by simp) ?_
      refine (AllReadyH.cons rfl (fun K hK=>?_) AllReadyH.nil)
      refine Ae (by rfl) (AI (ty:=29) L (List.replicate 25 (.int .u32 0)) (.agg (List.toArray (List.replicate 25 (.int .u32 0)))) rfl (by kernel_rfl) rfl ?_)
      intro wz Lz Nz
      clear Nz
      replace L:=Lz
      clear Lz
      refine hK.out _ _ ((by first|exact Al L (Gj.out _ _)|exact Al L (Ac (Gj.out _ _))|exact Al L (Ac (Ac (Gj.out _ _))))) ?_;clear hHeld hK K;intro hHeld
      (try simp only[q1,q2,q3,Act.put,q4,s0,s1])
      exact Xz0
  · refine Ae (by rfl) (AI (ty:=29) L (List.replicate 25 (.int .u32 0)) (.agg (List.toArray (List.replicate 25 (.int .u32 0)))) rfl (by kernel_rfl) rfl ?_)
    intro wz Lz Nz
    clear Nz
    replace L:=Lz
    clear Lz
    refine hK.out _ _ ((by first|exact Al L (Gj.out _ _)|exact Al L (Ac (Gj.out _ _))|exact Al L (Ac (Ac (Gj.out _ _))))) ?_;clear hHeld hK K;intro hHeld
    (try simp only[q1,q2,q3,Act.put,q4,s0,s1])
    refine wpAnyH_ready (rs:=[8,13]) (by kernel_rfl) (by simp) ?_
    refine (AllReadyH.cons rfl (fun K hK=>?_) (AllReadyH.cons rfl (fun K hK=>?_) AllReadyH.nil))
    · go_simp
      first
      | with_reducible refine (HDO.out _ _ _ L (Gk.out _ _)).mono ?_
      | with_reducible refine (HDO.out _ _ _ L (Ac (Gk.out _ _))).mono ?_
      | with_reducible refine (HDO.out _ _ _ L (Ac (Ac (Gk.out _ _)))).mono ?_
      rintro ee wz ⟨rfl,Lz⟩
      replace L:=Lz
      clear Lz
      simp only[List.set_cons_succ,Sk.out] at L
      go_simp
      refine hK.out _ _ ((by first|exact Al L (Gj.out _ _)|exact Al L (Ac (Gj.out _ _))|exact Al L (Ac (Ac (Gj.out _ _))))) ?_;clear hHeld hK K;intro hHeld
      (try simp only[q1,q2,q3,Act.put,q4,s0,s1])
      refine ztk (i:=9) ?_
      refine ztk (i:=10) ?_
      refine ztk (i:=11) ?_
      refine wpAnyH_ready (rs:=[13]) (by kernel_rfl) (by simp) ?_
      refine (AllReadyH.cons rfl (fun K hK=>?_) AllReadyH.nil)
      refine Ae (by rfl) (AI (ty:=129) L (efL ef0) (.agg (efL ef0).toArray) rfl (by kernel_rfl) rfl ?_)
      intro wz Lz Nz
      clear Nz
      replace L:=Lz
      clear Lz
      refine hK.out _ _ ((by first|exact Al L (Gj.out _ _)|exact Al L (Ac (Gj.out _ _))|exact Al L (Ac (Ac (Gj.out _ _))))) ?_;clear hHeld hK K;intro hHeld
      (try simp only[q1,q2,q3,Act.put,q4,s0,s1])
      exact Xz0
    · refine Ae (by rfl) (AI (ty:=129) L (efL ef0) (.agg (efL ef0).toArray) rfl (by kernel_rfl) rfl ?_)
      intro wz Lz Nz
      clear Nz
      replace L:=Lz
      clear Lz
      refine hK.out _ _ ((by first|exact Al L (Gj.out _ _)|exact Al L (Ac (Gj.out _ _))|exact Al L (Ac (Ac (Gj.out _ _))))) ?_;clear hHeld hK K;intro hHeld
      (try simp only[q1,q2,q3,Act.put,q4,s0,s1])
      refine wpAnyH_ready (rs:=[8]) (by kernel_rfl) (by simp) ?_
      refine (AllReadyH.cons rfl (fun K hK=>?_) AllReadyH.nil)
      go_simp
      first
      | with_reducible refine (HDO.out _ _ _ L (Gk.out _ _)).mono ?_
      | with_reducible refine (HDO.out _ _ _ L (Ac (Gk.out _ _))).mono ?_
      | with_reducible refine (HDO.out _ _ _ L (Ac (Ac (Gk.out _ _)))).mono ?_
      rintro ee wz ⟨rfl,Lz⟩
      replace L:=Lz
      clear Lz
      simp only[List.set_cons_succ,Sk.out] at L
      go_simp
      refine hK.out _ _ ((by first|exact Al L (Gj.out _ _)|exact Al L (Ac (Gj.out _ _))|exact Al L (Ac (Ac (Gj.out _ _))))) ?_;clear hHeld hK K;intro hHeld
      (try simp only[q1,q2,q3,Act.put,q4,s0,s1])
      refine ztk (i:=9) ?_
      refine ztk (i:=10) ?_
      refine ztk (i:=11) ?_
      exact Xz0
  · refine Ae (by rfl) (AI (ty:=129) L (efL ef0) (.agg (efL ef0).toArray) rfl (by kernel_rfl) rfl ?_)
    intro wz Lz Nz
    clear Nz
    replace L:=Lz
    clear Lz
    refine hK.out _ _ ((by first|exact Al L (Gj.out _ _)|exact Al L (Ac (Gj.out _ _))|exact Al L (Ac (Ac (Gj.out _ _))))) ?_;clear hHeld hK K;intro hHeld
    (try simp only[q1,q2,q3,Act.put,q4,s0,s1])
    refine wpAnyH_ready (rs:=[8,12]) (by kernel_rfl) (by simp) ?_
    refine (AllReadyH.cons rfl (fun K hK=>?_) (AllReadyH.cons rfl (fun K hK=>?_) AllReadyH.nil))
    · go_simp
      first
      | with_reducible refine (HDO.out _ _ _ L (Gk.out _ _)).mono ?_
      | with_reducible refine (HDO.out _ _ _ L (Ac (Gk.out _ _))).mono ?_
      | with_reducible refine (HDO.out _ _ _ L (Ac (Ac (Gk.out _ _)))).mono ?_
      rintro ee wz ⟨rfl,Lz⟩
      replace L:=Lz
      clear Lz
      simp only[List.set_cons_succ,Sk.out] at L
      go_simp
      refine hK.out _ _ ((by first|exact Al L (Gj.out _ _)|exact Al L (Ac (Gj.out _ _))|exact Al L (Ac (Ac (Gj.out _ _))))) ?_;clear hHeld hK K;intro hHeld
      (try simp only[q1,q2,q3,Act.put,q4,s0,s1])
      refine ztk (i:=9) ?_
      refine ztk (i:=10) ?_
      refine ztk (i:=11) ?_
      refine wpAnyH_ready (rs:=[12]) (by kernel_rfl) (by simp) ?_
      refine (AllReadyH.cons rfl (fun K hK=>?_) AllReadyH.nil)
      refine Ae (by rfl) (AI (ty:=29) L (List.replicate 25 (.int .u32 0)) (.agg (List.toArray (List.replicate 25 (.int .u32 0)))) rfl (by kernel_rfl) rfl ?_)
      intro wz Lz Nz
      clear Nz
      replace L:=Lz
      clear Lz
      refine hK.out _ _ ((by first|exact Al L (Gj.out _ _)|exact Al L (Ac (Gj.out _ _))|exact Al L (Ac (Ac (Gj.out _ _))))) ?_;clear hHeld hK K;intro hHeld
      (try simp only[q1,q2,q3,Act.put,q4,s0,s1])
      exact Xz0
    · refine Ae (by rfl) (AI (ty:=29) L (List.replicate 25 (.int .u32 0)) (.agg (List.toArray (List.replicate 25 (.int .u32 0)))) rfl (by kernel_rfl) rfl ?_)
      intro wz Lz Nz
      clear Nz
      replace L:=Lz
      clear Lz
      refine hK.out _ _ ((by first|exact Al L (Gj.out _ _)|exact Al L (Ac (Gj.out _ _))|exact Al L (Ac (Ac (Gj.out _ _))))) ?_;clear hHeld hK K;intro hHeld
      (try simp only[q1,q2,q3,Act.put,q4,s0,s1])
      refine wpAnyH_ready (rs:=[8]) (by kernel_rfl) (by simp) ?_
      refine (AllReadyH.cons rfl (fun K hK=>?_) AllReadyH.nil)
      go_simp
      first
      | with_reducible refine (HDO.out _ _ _ L (Gk.out _ _)).mono ?_
      | with_reducible refine (HDO.out _ _ _ L (Ac (Gk.out _ _))).mono ?_
      | with_reducible refine (HDO.out _ _ _ L (Ac (Ac (Gk.out _ _)))).mono ?_
      rintro ee wz ⟨rfl,Lz⟩
      replace L:=Lz
      clear Lz
      simp only[List.set_cons_succ,Sk.out] at L
      go_simp
      refine hK.out _ _ ((by first|exact Al L (Gj.out _ _)|exact Al L (Ac (Gj.out _ _))|exact Al L (Ac (Ac (Gj.out _ _))))) ?_;clear hHeld hK K;intro hHeld
      (try simp only[q1,q2,q3,Act.put,q4,s0,s1])
      refine ztk (i:=9) ?_
      refine ztk (i:=10) ?_
      refine ztk (i:=11) ?_
      exact Xz0
 case rest =>
  obtain⟨x,y,i6,i7,b6,b7,rfl,rfl,H6,H7,L⟩:=hcut
  clear HIT HDO
  by_cases k1:e.k=1
  · rw[if_pos k1] at hR
    have he:=hef.i k1
    have hk1:(e.k == 1)=true:=by rw[k1];rfl
    have HIN:=lh (fun w l' j' L h=>rin7_any (M:={ M with c:=c2,m:=m2,w:=false }) (v:=(.slice (some ⟨g,0,none⟩) n n)) (w0:=w0) (w:=w) (l:=l') (j:=j') (B:=B) (port:=e.p) (clk:=clk) hM2 L h he.1 he.2.1)
    have hbd:=inP_bd (M:={ M with c:=c2,m:=m2,w:=false }) (port:=e.p) (clk:=clk) hM2 hc0 hc1
    generalize inP { M with c:=c2,m:=m2,w:=false } e.p clk=r at HIN hbd hR
    obtain⟨s,z⟩:=r
    dsimp only at HIN hbd hR
    subst hR
    have HST:=lh (fun w=>(show Calls Tryz.prog 149 #[.agg (Ab c2).toArray,.int .i64 e.r,.int .u32 z] w (Ret w (.agg (Ab (Bm c2 e.r z)).toArray)) from CT hcl.len e.r z he.2.2.1 (by have:=he.2.2.2;omega)))
    clear hM hM2 hn hn2 hef hcl he k1 hbd hc0 hc1
    go_upto_region 9 with (first|(refine AQ (ty:=29) L _ (H6.out _) (Ab c2) rfl rfl rfl τ29 rfl Av rfl ?_)|(refine Ag (ty:=29) L _ (Ac (Ac (Gj.out _ _))) (Ab c2) (mcL { M with c:=c2,w:=false } (.slice (some ⟨g,0,none⟩) n n)) rfl rfl rfl rfl Av (BG _) rfl rfl ?_;intro wz Lz Nz;clear Nz;replace L:=Lz;clear Lz;(try simp only[s0,s1] at L);(try simp only[List.set_cons_succ,Sj.out] at L))|(refine A7 (ty:=3) L _ (H7.out _) rfl rfl rfl τ3 rfl rfl ?_)|(refine A7 (ty:=25) L _ (H7.out _) rfl rfl rfl τ25 rfl rfl ?_)|(go_at_call 148;(with_reducible refine (HIN.out _ _ _ L (Ac (Ac (Gj.out _ _)))).mono ?_);rintro ee wz ⟨rfl,Lz⟩;replace L:=Lz;clear Lz;simp only[List.set_cons_succ,Sj.out] at L))
    (try simp only[Act.put,q4,s0,s1])
    have hHeld:=(fun w L=>Gs (w:=w) L (H7.out _)) _ L.drew
    refine wp_region_held_drew (by kernel_rfl) hHeld (fun hHeld=>?_)
    replace L:=L.drew
    refine ztk (i:=0) ?_
    refine ztk (i:=1) ?_
    refine ztk (i:=2) ?_
    refine ztk (i:=3) ?_
    refine ztk (i:=5) ?_
    refine wpAnyH_take (i:=6) (v:=.int .i64 e.r) rfl (by kernel_rfl) (by kernel_rfl) (by kernel_rfl) (fun _ _ _ h=>h) (AG (ty:=3) 0 rfl (by rfl) rfl rfl τ3 rfl) (by assumption) ?_
    (try simp only[q1,q2,q3,Act.put,q4,s0,s1])
    refine ztk (i:=7) ?_
    refine zor 4 ?_;intro K hK
    refine Ae (by rfl) (C7 (ty:=29) L _ (Ac (Ac (Gj.out _ _))) (Ab c2) rfl rfl τ29 rfl Av rfl ?_)
    refine hK.out _ _ (Gs L (H7.out _)) ?_;clear hHeld hK K;intro hHeld
    (try simp only[q1,q2,q3,Act.put,q4,s0,s1])
    refine zor 8 ?_;intro K hK
    go_simp
    with_reducible refine (HST.out _).mono ?_
    rintro ee wz ⟨rfl,hbz⟩
    replace L:=L.below hbz
    clear hbz
    go_simp
    refine hK.out _ _ (Gs L (H7.out _)) ?_;clear hHeld hK K;intro hHeld
    (try simp only[q1,q2,q3,Act.put,q4,s0,s1])
    refine ztk (i:=9) ?_
    refine ztk (i:=10) ?_
    refine zor 11 ?_;intro K hK
    refine Ae (by rfl) (Am (ty:=29) L _ (Ac (Ac (Gj.out _ _))) (Ab (Bm c2 e.r z)) (mcL { M with c:=Bm c2 e.r z,m:=m2,keys:=s,w:=false } (.slice (some ⟨g,0,none⟩) n n)) rfl rfl rfl Av (BG _) rfl rfl ?_)
    intro wy Ly Ny
    clear Ny
    replace L:=Ly
    clear Ly
    simp only[List.set_cons_succ,Sj.out] at L
    refine hK.out _ _ (Gs L (H7.out _)) ?_;clear hHeld hK K;intro hHeld
    (try simp only[q1,q2,q3,Act.put,q4,s0,s1])
    refine wpAnyH_done (by kernel_rfl) ?_ _
    clear hHeld
    go_wp2_with (first|(refine A7 (ty:=41) L _ (Ac (Ac (Gj.out _ _))) rfl rfl rfl τ41 rfl rfl ?_)|(refine CE (ty:=41) (m:=(M.n:Int)) (n:=1) ((M.n+1:Nat):Int) rfl rfl rfl rfl HNN.out ?_)|(refine Aq (ty:=41) (u:=(.int .u64 ((M.n+1:Nat):Int))) L _ (Ac (Ac (Gj.out _ _))) (mcL { M with c:=Bm c2 e.r z,m:=m2,keys:=s,w:=false,n:=M.n+1 } (.slice (some ⟨g,0,none⟩) n n)) rfl rfl rfl rfl DK rfl rfl rfl ?_;intro wz Lz Nz;clear Nz;replace L:=Lz;clear Lz;(try simp only[s0,s1] at L);(try simp only[List.set_cons_succ,Sj.out] at L)))
    try go_simp
    go_ret
    exact⟨_,rfl,OutRow.nil _ _,L.drop2⟩
  rw[if_neg k1] at hR
  have hk1:(e.k == 1)=false:=by simpa using k1
  by_cases k2:e.k=2
  · rw[if_pos k2] at hR
    have he:=hef.o k2
    have hk2:(e.k == 2)=true:=by rw[k2];rfl
    have HOU:=lh (fun w l' j' k' L hj hk=>rout7_any (M:={ M with c:=c2,m:=m2,w:=false }) (w0:=w0) (w:=w) (l:=l') (j:=j') (k:=k') (B:=B) (g:=g) (n:=n) (port:=e.p) (u:=e.v) hM2 L hj hk hn2 he.2.2.1 he.2.2.2 he.1 he.2.1)
    have hno:=outP_n { M with c:=c2,m:=m2,w:=false } e.p e.v
    generalize Be { M with c:=c2,m:=m2,w:=false } e.p e.v=r at HOU hno hR
    obtain⟨M3,os⟩:=r
    dsimp only at HOU hno hR
    rw[←hno] at hR HNN
    clear hno
    subst hR
    clear hM hM2 hn hn2 hef hcl he k1 k2 hc0 hc1
    go_wp2_with (first|(refine AQ (ty:=29) L _ (H6.out _) (Ab c2) rfl rfl rfl τ29 rfl Av rfl ?_)|(refine Ag (ty:=29) L _ (Ac (Ac (Gj.out _ _))) (Ab c2) (mcL { M with c:=c2,w:=false } (.slice (some ⟨g,0,none⟩) n n)) rfl rfl rfl rfl Av (BG _) rfl rfl ?_;intro wz Lz Nz;clear Nz;replace L:=Lz;clear Lz;(try simp only[s0,s1] at L);(try simp only[List.set_cons_succ,Sj.out] at L))|(refine A7 (ty:=3) L _ (H7.out _) rfl rfl rfl τ3 rfl rfl ?_)|(refine A7 (ty:=25) L _ (H7.out _) rfl rfl rfl τ25 rfl rfl ?_))
    refine (HOU.out _ _ _ _ L (Ac (Ac (Gj.out _ _))) (Ac (Ac (Gk.out _ _)))).mono ?_
    rintro ee wz ⟨vo,rfl,ho1,Lz⟩
    have ho:wz.ownsRow w0.heap.size 103 4 vo os.length (os.flatMap ouL):=ho1
    clear ho1
    replace L:=Lz
    clear Lz
    simp only[List.set_cons_succ,Sj.out,Sk.out] at L
    go_wp2_with (first|(refine A7 (ty:=41) L _ (Ac (Ac (Gj.out _ _))) rfl rfl rfl τ41 rfl rfl ?_)|(refine CE (ty:=41) (m:=(M3.n:Int)) (n:=1) ((M3.n+1:Nat):Int) rfl rfl rfl rfl HNN.out ?_)|(refine Aq (ty:=41) (u:=(.int .u64 ((M3.n+1:Nat):Int))) L _ (Ac (Ac (Gj.out _ _))) (mcL { M3 with n:=M3.n+1 } (.slice (some ⟨g,0,none⟩) n n)) rfl rfl rfl rfl DK rfl rfl rfl ?_;intro wz Lz Nz;replace ho:=Ai ho (L.at (Ac (Ac (Gj.out _ _)))) (by decide) Nz;clear Nz;replace L:=Lz;clear Lz;(try simp only[List.set_cons_succ,Sj.out] at L)))
    try go_simp
    go_ret
    exact⟨_,rfl,ho,L.drop2⟩
  rw[if_neg k2] at hR
  have hk2:(e.k == 2)=false:=by simpa using k2
  by_cases k3:e.k=3
  · rw[if_pos k3] at hR
    have hk3:(e.k == 3)=true:=by rw[k3];rfl
    subst hR
    clear hM hM2 hn hn2 hef hcl k1 k2 k3 hc0 hc1
    go_wp2_with (first|(refine AQ (ty:=29) L _ (H6.out _) (Ab c2) rfl rfl rfl τ29 rfl Av rfl ?_)|(refine Ag (ty:=29) L _ (Ac (Ac (Gj.out _ _))) (Ab c2) (mcL { M with c:=c2,w:=false } (.slice (some ⟨g,0,none⟩) n n)) rfl rfl rfl rfl Av (BG _) rfl rfl ?_;intro wz Lz Nz;clear Nz;replace L:=Lz;clear Lz;(try simp only[s0,s1] at L);(try simp only[List.set_cons_succ,Sj.out] at L))|(refine A7 (ty:=3) L _ (H7.out _) rfl rfl rfl τ3 rfl rfl ?_)|(refine A7 (ty:=25) L _ (H7.out _) rfl rfl rfl τ25 rfl rfl ?_)|(refine Aq (ty:=4) (u:=(.bool true)) L _ (Ac (Ac (Gj.out _ _))) (mcL { M with c:=c2,m:=m2,w:=true } (.slice (some ⟨g,0,none⟩) n n)) rfl rfl rfl rfl Fk rfl rfl rfl ?_;intro wz Lz Nz;clear Nz;replace L:=Lz;clear Lz;(try simp only[s0,s1] at L);(try simp only[List.set_cons_succ,Sj.out] at L))|(refine A7 (ty:=41) L _ (Ac (Ac (Gj.out _ _))) rfl rfl rfl τ41 rfl rfl ?_)|(refine CE (ty:=41) (m:=(M.n:Int)) (n:=1) ((M.n+1:Nat):Int) rfl rfl rfl rfl HNN.out ?_)|(refine Aq (ty:=41) (u:=(.int .u64 ((M.n+1:Nat):Int))) L _ (Ac (Ac (Gj.out _ _))) (mcL { M with c:=c2,m:=m2,w:=true,n:=M.n+1 } (.slice (some ⟨g,0,none⟩) n n)) rfl rfl rfl rfl DK rfl rfl rfl ?_;intro wz Lz Nz;clear Nz;replace L:=Lz;clear Lz;(try simp only[s0,s1] at L);(try simp only[List.set_cons_succ,Sj.out] at L)))
    try go_simp
    go_ret
    exact⟨_,rfl,OutRow.nil _ _,L.drop2⟩
  rw[if_neg k3] at hR
  have hk3:(e.k == 3)=false:=by simpa using k3
  by_cases k4:e.k=4
  · rw[if_pos k4] at hR
    have hk4:(e.k == 4)=true:=by rw[k4];rfl
    subst hR
    clear hM hM2 hn hn2 hef hcl k1 k2 k3 k4 hc0 hc1
    go_wp2_with (first|(refine AQ (ty:=29) L _ (H6.out _) (Ab c2) rfl rfl rfl τ29 rfl Av rfl ?_)|(refine Ag (ty:=29) L _ (Ac (Ac (Gj.out _ _))) (Ab c2) (mcL { M with c:=c2,w:=false } (.slice (some ⟨g,0,none⟩) n n)) rfl rfl rfl rfl Av (BG _) rfl rfl ?_;intro wz Lz Nz;clear Nz;replace L:=Lz;clear Lz;(try simp only[s0,s1] at L);(try simp only[List.set_cons_succ,Sj.out] at L))|(refine A7 (ty:=3) L _ (H7.out _) rfl rfl rfl τ3 rfl rfl ?_)|(refine A7 (ty:=25) L _ (H7.out _) rfl rfl rfl τ25 rfl rfl ?_)|(refine Aq (ty:=4) (u:=(.bool true)) L _ (Ac (Ac (Gj.out _ _))) (mcL { M with c:=c2,m:=m2,w:=false,h:=true } (.slice (some ⟨g,0,none⟩) n n)) rfl rfl rfl rfl Fk rfl rfl rfl ?_;intro wz Lz Nz;clear Nz;replace L:=Lz;clear Lz;(try simp only[s0,s1] at L);(try simp only[List.set_cons_succ,Sj.out] at L))|(refine A7 (ty:=41) L _ (Ac (Ac (Gj.out _ _))) rfl rfl rfl τ41 rfl rfl ?_)|(refine CE (ty:=41) (m:=(M.n:Int)) (n:=1) ((M.n+1:Nat):Int) rfl rfl rfl rfl HNN.out ?_)|(refine Aq (ty:=41) (u:=(.int .u64 ((M.n+1:Nat):Int))) L _ (Ac (Ac (Gj.out _ _))) (mcL { M with c:=c2,m:=m2,w:=false,h:=true,n:=M.n+1 } (.slice (some ⟨g,0,none⟩) n n)) rfl rfl rfl rfl DK rfl rfl rfl ?_;intro wz Lz Nz;clear Nz;replace L:=Lz;clear Lz;(try simp only[s0,s1] at L);(try simp only[List.set_cons_succ,Sj.out] at L)))
    try go_simp
    go_ret
    exact⟨_,rfl,OutRow.nil _ _,L.drop2⟩
  · rw[if_neg k4] at hR
    have hk4:(e.k == 4)=false:=by simpa using k4
    subst hR
    clear hM hM2 hn hn2 hef hcl k1 k2 k3 k4 hc0 hc1
    go_wp2_with (first|(refine AQ (ty:=29) L _ (H6.out _) (Ab c2) rfl rfl rfl τ29 rfl Av rfl ?_)|(refine Ag (ty:=29) L _ (Ac (Ac (Gj.out _ _))) (Ab c2) (mcL { M with c:=c2,w:=false } (.slice (some ⟨g,0,none⟩) n n)) rfl rfl rfl rfl Av (BG _) rfl rfl ?_;intro wz Lz Nz;clear Nz;replace L:=Lz;clear Lz;(try simp only[s0,s1] at L);(try simp only[List.set_cons_succ,Sj.out] at L))|(refine A7 (ty:=3) L _ (H7.out _) rfl rfl rfl τ3 rfl rfl ?_)|(refine A7 (ty:=25) L _ (H7.out _) rfl rfl rfl τ25 rfl rfl ?_)|(refine A7 (ty:=41) L _ (Ac (Ac (Gj.out _ _))) rfl rfl rfl τ41 rfl rfl ?_)|(refine CE (ty:=41) (m:=(M.n:Int)) (n:=1) ((M.n+1:Nat):Int) rfl rfl rfl rfl HNN.out ?_)|(refine Aq (ty:=41) (u:=(.int .u64 ((M.n+1:Nat):Int))) L _ (Ac (Ac (Gj.out _ _))) (mcL { M with c:=c2,m:=m2,w:=false,n:=M.n+1 } (.slice (some ⟨g,0,none⟩) n n)) rfl rfl rfl rfl DK rfl rfl rfl ?_;intro wz Lz Nz;clear Nz;replace L:=Lz;clear Lz;(try simp only[s0,s1] at L);(try simp only[List.set_cons_succ,Sj.out] at L)))
    try go_simp
    go_ret
    exact⟨_,rfl,OutRow.nil _ _,L.drop2⟩
end
end Go.Proofs.YtnmpfmapncicmaaGreat
