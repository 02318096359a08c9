/-
  Texts joined: TpBl. No law is proved here.
-/
import Derived.Test.YtnmpfmapncicmaaGreatB44
namespace Go.Proofs.YtnmpfmapncicmaaGreat
set_option linter.all false
set_option maxRecDepth 100000
set_option maxHeartbeats 40000000
open Go.RowKit
def opsI:List Int:=[1,2,3,4,5,6,7,8,9,10,11,12,13,16,16,17,18,19,20,21,22,23,24,24,32,32,33,34,35,35,36,40,41,42,43,44,45,48,49,56,57,58,59,60,60,61,61,62,63,64]
def OpC (o:Int):Prop:=(1≤o∧o≤13)∨(40≤o∧o≤45)∨o=16∨o=17∨o=18∨o=19∨o=20∨o=21∨o=22∨o=23∨o=24∨o=32∨o=33∨o=34∨o=35∨o=36∨o=48∨o=49∨o=56∨o=57∨o=58∨o=59∨o=60∨o=61∨o=62∨o=63∨o=64
theorem opsI_c:∀ o∈opsI,OpC o:=by unfold OpC opsI;decide
theorem ops_any (w:World):Calls Tryz.prog 183 #[] w (fun e w'=>∃ (v:Value) (os:List Int),e=.returned v∧os.length=50∧(∀ o∈os,OpC o)∧RdS (fun x:Int=>[Value.int .i64 x]) 1 w' v os∧Below w.heap.size w w'):=by
 go_in
 go_wp2_with fail
 go_ret
 refine ⟨_,opsI,rfl,rfl,opsI_c,?_,bel⟩
 refine ⟨_,50,rfl,by decide,by unfold maxLen;decide,.inr ⟨_,0,rfl,by rw[World.size_alloc];omega,fun i x hx j u hu=>?_⟩⟩
 have hj:j=0∧u=.int .i64 x:=by
  cases j with
  | zero=>exact⟨rfl,by simpa using hu.symm⟩
  | succ j=>simp at hu
 obtain⟨rfl,rfl⟩:=hj
 have hb:=(HasBlock.made w (opsI.map (Value.int .i64)).toArray 3).cell i
 rw[List.getElem?_toArray,List.getElem?_map,hx] at hb
 rw[show 0+i*1+0=i by omega]
 exact hb
def in0:List Value:=inL inZ
theorem and_one (x:Int):bits .and .i64 x 1=0∨bits .and .i64 x 1=1:=by
 have h:((BitVec.ofInt 64 x &&& BitVec.ofInt 64 1).toNat)≤1:=by
  rw[BitVec.toNat_and]
  exact Nat.and_le_right
 have e:bits .and .i64 x 1=IntKind.i64.wrap ((BitVec.ofInt 64 x &&& BitVec.ofInt 64 1).toNat:Int):=rfl
 rw[e,IntKind.wrap_i64]
 omega
theorem Xz7 {P:Prop} (h:P:=by
  refine hK.out _ _ (Cu L HC.out) ?_;clear hHeld hK K;intro hHeld
  (try simp only[q1,q2,q3,Act.put,q4,s0,s1])
  refine zor 15 ?_;intro K hK
  go_simp
  with_reducible refine (HR3.out _).mono ?_
  rintro e wz ⟨rfl,hbz⟩
  replace L:=L.below hbz
  clear hbz
  go_simp
  refine hK.out _ _ (Cu L HC.out) ?_;clear hHeld hK K;intro hHeld
  (try simp only[q1,q2,q3,Act.put,q4,s0,s1])
  refine YT ?_
  refine zor 18 ?_;intro K hK
  refine Ae (by rfl) (Am (ty:=180) L 0 rfl (inL ⟨o,a,b,c,0⟩) (inL ⟨o,a,b,c,0⟩) rfl rfl rfl Bd (JE _) rfl rfl ?_)
  intro wz Lz Nz
  clear Nz
  replace L:=Lz
  clear Lz
  simp only[s0,s1] at L
  refine hK.out _ _ (Cu L HC.out) ?_;clear hHeld hK K;intro hHeld
  (try simp only[q1,q2,q3,Act.put,q4,s0,s1])
  refine YD ?_
  clear hHeld
  go_wp2_with fail
  go_meet
  exact⟨_,rfl,L⟩):P:=h
theorem inst_any' (n:Int) (w:World):Calls Tryz.prog 112 #[.int .i64 n] w (fun e w'=>∃ i:In,e=.returned (.agg (inL i).toArray) ∧ -2147483648≤i.imm∧i.imm≤2147483647∧Below w.heap.size w w'):=by
 have hv:=mixI_bd n 1
 have HM:=lh (fun w=>mix_any n 1 w)
 obtain⟨v,hvv⟩:∃ v,mixI n 1=v:=⟨_,rfl⟩
 rw[hvv] at hv HM
 clear hvv
 have v0:=hv.1
 have v1:=hv.2
 clear hv
 obtain⟨j,hj⟩:∃ j:Nat,v % 50=j:=⟨(v % 50).toNat,by omega⟩
 have hj50:j<50:=by omega
 have hj51:(j:Int)<50:=by omega
 have HR0:Hid (∀ w,Calls Tryz.prog 15 #[.int .i64 v,.int .i64 50] w (Ret w (.int .i64 j))):=lh (fun w=>by rw[←hj];exact D4 v 50 w (by omega) (by decide) (by decide))
 obtain⟨a,ha⟩:∃ a,v / 2 ^ 8 % 6=a:=⟨_,rfl⟩
 have HR1:Hid (∀ w,Calls Tryz.prog 15 #[.int .i64 (v / 256),.int .i64 6] w (Ret w (.int .i64 a))):=lh (fun w=>by rw[←ha];exact D4 (v / 256) 6 w (by omega) (by decide) (by decide))
 obtain⟨b,hb⟩:∃ b,v / 4096 % 6=b:=⟨_,rfl⟩
 have HR2:Hid (∀ w,Calls Tryz.prog 15 #[.int .i64 (v / 4096),.int .i64 6] w (Ret w (.int .i64 b))):=lh (fun w=>by rw[←hb];exact D4 (v / 4096) 6 w (by omega) (by decide) (by decide))
 obtain⟨c,hc⟩:∃ c,v / 65536 % 6=c:=⟨_,rfl⟩
 have HR3:Hid (∀ w,Calls Tryz.prog 15 #[.int .i64 (v / 65536),.int .i64 6] w (Ret w (.int .i64 c))):=lh (fun w=>by rw[←hc];exact D4 (v / 65536) 6 w (by omega) (by decide) (by decide))
 obtain⟨k,hk⟩:∃ k,v / 1048576 % 24=k:=⟨_,rfl⟩
 have HR4:Hid (∀ w,Calls Tryz.prog 15 #[.int .i64 (v / 1048576),.int .i64 24] w (Ret w (.int .i64 k))):=lh (fun w=>by rw[←hk];exact D4 (v / 1048576) 24 w (by omega) (by decide) (by decide))
 have hk0:0≤k:=by omega
 have hk1:k<24:=by omega
 clear ha hb hc hk hj
 have L:=Lay.start w
 go_in
 go_wp2_with (refine zal (ty:=180) L in0 ?_;clear L;intro wz L)
 refine (ops_any _).mono ?_
 rintro e w1 ⟨vo,os,rfl,hol,hoc,hor,hb1⟩
 replace L:=L.below hb1
 clear hb1
 obtain⟨ao,cap,rfl,hcap,hmax,hor⟩:=hor.open
 unfold maxLen at hmax
 obtain⟨_,b2,off,rfl,hbl,_,_,hcell⟩:=hor.at (by rw[hol];decide)
 obtain⟨o,ho⟩:=A6 (xs:=os) (k:=j) (by rw[hol];exact hj50)
 have HOC:=lh (hoc o (List.mem_of_getElem? ho))
 clear hoc
 have HC:=lh (show w1.cell? ⟨b2,off+j,none⟩=some (.int .i64 o) by have:=hcell j o ho 0 _ rfl;simpa using this)
 rw[hol] at hcap ⊢
 clear hor hcell ho hol
 have L0:=L
 clear L
 have L:=Lay.start w1
 go_wp2_with (refine YS ?_;clear L;intro wz L)
 replace HC:=lh (show ∀ c∈[(b2,off+j,Value.int .i64 o)],c.1<w1.heap.size∧w1.cell? ⟨c.1,c.2.1,none⟩=some c.2.2 from fun c hc=>by rw[List.mem_singleton.1 hc];exact⟨hbl,HC.out⟩)
 go_cut [5] from 10 to 26 (fun p wq=>∃ B,p=.pointer (some ⟨B,0,none⟩)∧Lay w1 wq [⟨B,inL ⟨o,a,b,c,0⟩,180⟩])
 case first =>
  (try simp only[Act.put,q4,s0,s1])
  have hHeld:=(fun w' L=>Cu (w:=w') L HC.out) _ L.drew
  refine wp_region_held_drew (by kernel_rfl) hHeld (fun hHeld=>?_)
  replace L:=L.drew
  refine YT ?_
  refine wpAnyH_ready (rs:=[4,17]) (by kernel_rfl) (by simp) ?_
  refine AllReadyH.cons rfl (fun K hK=>?_) (AllReadyH.cons rfl (fun K hK=>?_) AllReadyH.nil)
  · go_simp
    with_reducible refine (HR0.out _).mono ?_
    rintro e wz ⟨rfl,hbz⟩
    replace L:=L.below hbz
    clear hbz
    go_simp
    refine hK.out _ _ (Cu L HC.out) ?_;clear hHeld hK K;intro hHeld
    (try simp only[q1,q2,q3,Act.put,q4,s0,s1])
    refine YT ?_
    refine wpAnyH_take (i:=6) (v:=.int .i64 o) rfl (by kernel_rfl) (by kernel_rfl) (by kernel_rfl) (fun _ _ _ h=>h) (AG (ty:=3) 0 rfl (by rfl) rfl rfl τ3 rfl) (by assumption) ?_
    (try simp only[q1,q2,q3,Act.put,q4,s0,s1])
    refine wpAnyH_ready (rs:=[9,17]) (by kernel_rfl) (by simp) ?_
    refine AllReadyH.cons rfl (fun K hK=>?_) (AllReadyH.cons rfl (fun K hK=>?_) AllReadyH.nil)
    · go_simp
      with_reducible refine (HR1.out _).mono ?_
      rintro e wz ⟨rfl,hbz⟩
      replace L:=L.below hbz
      clear hbz
      go_simp
      refine hK.out _ _ (Cu L HC.out) ?_;clear hHeld hK K;intro hHeld
      (try simp only[q1,q2,q3,Act.put,q4,s0,s1])
      refine wpAnyH_ready (rs:=[12,17]) (by kernel_rfl) (by simp) ?_
      refine AllReadyH.cons rfl (fun K hK=>?_) (AllReadyH.cons rfl (fun K hK=>?_) AllReadyH.nil)
      · go_simp
        with_reducible refine (HR2.out _).mono ?_
        rintro e wz ⟨rfl,hbz⟩
        replace L:=L.below hbz
        clear hbz
        go_simp
        refine hK.out _ _ (Cu L HC.out) ?_;clear hHeld hK K;intro hHeld
        (try simp only[q1,q2,q3,Act.put,q4,s0,s1])
        refine wpAnyH_ready (rs:=[15,17]) (by kernel_rfl) (by simp) ?_
        refine AllReadyH.cons rfl (fun K hK=>?_) (AllReadyH.cons rfl (fun K hK=>?_) AllReadyH.nil)
        · go_simp
          with_reducible refine (HR3.out _).mono ?_
          rintro e wz ⟨rfl,hbz⟩
          replace L:=L.below hbz
          clear hbz
          go_simp
          refine hK.out _ _ (Cu L HC.out) ?_;clear hHeld hK K;intro hHeld
          (try simp only[q1,q2,q3,Act.put,q4,s0,s1])
          refine YT ?_
          refine zor 17 ?_;intro K hK
          refine Ae (by rfl) (AI (ty:=180) L in0 (.agg (List.toArray in0)) rfl (by kernel_rfl) rfl ?_)
          intro wz Lz Nz
          clear Nz
          replace L:=Lz
          clear Lz
          refine hK.out _ _ (Cu L HC.out) ?_;clear hHeld hK K;intro hHeld
          (try simp only[q1,q2,q3,Act.put,q4,s0,s1])
          refine zor 18 ?_;intro K hK
          refine Ae (by rfl) (Am (ty:=180) L 0 rfl (inL ⟨o,a,b,c,0⟩) (inL ⟨o,a,b,c,0⟩) rfl rfl rfl Bd (JE _) rfl rfl ?_)
          intro wz Lz Nz
          clear Nz
          replace L:=Lz
          clear Lz
          simp only[s0,s1] at L
          refine hK.out _ _ (Cu L HC.out) ?_;clear hHeld hK K;intro hHeld
          (try simp only[q1,q2,q3,Act.put,q4,s0,s1])
          refine YD ?_
          clear hHeld
          go_wp2_with fail
          go_meet
          exact⟨_,rfl,L⟩
        · refine Ae (by rfl) (AI (ty:=180) L in0 (.agg (List.toArray in0)) rfl (by kernel_rfl) rfl ?_)
          intro wz Lz Nz
          clear Nz
          replace L:=Lz
          clear Lz
          exact Xz7
      · refine Ae (by rfl) (AI (ty:=180) L in0 (.agg (List.toArray in0)) rfl (by kernel_rfl) rfl ?_)
        intro wz Lz Nz
        clear Nz
        replace L:=Lz
        clear Lz
        refine hK.out _ _ (Cu L HC.out) ?_;clear hHeld hK K;intro hHeld
        (try simp only[q1,q2,q3,Act.put,q4,s0,s1])
        refine zor 12 ?_;intro K hK
        go_simp
        with_reducible refine (HR2.out _).mono ?_
        rintro e wz ⟨rfl,hbz⟩
        replace L:=L.below hbz
        clear hbz
        go_simp
        exact Xz7
    · refine Ae (by rfl) (AI (ty:=180) L in0 (.agg (List.toArray in0)) rfl (by kernel_rfl) rfl ?_)
      intro wz Lz Nz
      clear Nz
      replace L:=Lz
      clear Lz
      refine hK.out _ _ (Cu L HC.out) ?_;clear hHeld hK K;intro hHeld
      (try simp only[q1,q2,q3,Act.put,q4,s0,s1])
      refine zor 9 ?_;intro K hK
      go_simp
      with_reducible refine (HR1.out _).mono ?_
      rintro e wz ⟨rfl,hbz⟩
      replace L:=L.below hbz
      clear hbz
      go_simp
      refine hK.out _ _ (Cu L HC.out) ?_;clear hHeld hK K;intro hHeld
      (try simp only[q1,q2,q3,Act.put,q4,s0,s1])
      refine zor 12 ?_;intro K hK
      go_simp
      with_reducible refine (HR2.out _).mono ?_
      rintro e wz ⟨rfl,hbz⟩
      replace L:=L.below hbz
      clear hbz
      go_simp
      exact Xz7
  · refine Ae (by rfl) (AI (ty:=180) L in0 (.agg (List.toArray in0)) rfl (by kernel_rfl) rfl ?_)
    intro wz Lz Nz
    clear Nz
    replace L:=Lz
    clear Lz
    refine hK.out _ _ (Cu L HC.out) ?_;clear hHeld hK K;intro hHeld
    (try simp only[q1,q2,q3,Act.put,q4,s0,s1])
    refine zor 4 ?_;intro K hK
    go_simp
    with_reducible refine (HR0.out _).mono ?_
    rintro e wz ⟨rfl,hbz⟩
    replace L:=L.below hbz
    clear hbz
    go_simp
    refine hK.out _ _ (Cu L HC.out) ?_;clear hHeld hK K;intro hHeld
    (try simp only[q1,q2,q3,Act.put,q4,s0,s1])
    refine YT ?_
    refine wpAnyH_take (i:=6) (v:=.int .i64 o) rfl (by kernel_rfl) (by kernel_rfl) (by kernel_rfl) (fun _ _ _ h=>h) (AG (ty:=3) 0 rfl (by rfl) rfl rfl τ3 rfl) (by assumption) ?_
    (try simp only[q1,q2,q3,Act.put,q4,s0,s1])
    refine zor 9 ?_;intro K hK
    go_simp
    with_reducible refine (HR1.out _).mono ?_
    rintro e wz ⟨rfl,hbz⟩
    replace L:=L.below hbz
    clear hbz
    go_simp
    refine hK.out _ _ (Cu L HC.out) ?_;clear hHeld hK K;intro hHeld
    (try simp only[q1,q2,q3,Act.put,q4,s0,s1])
    refine zor 12 ?_;intro K hK
    go_simp
    with_reducible refine (HR2.out _).mono ?_
    rintro e wz ⟨rfl,hbz⟩
    replace L:=L.below hbz
    clear hbz
    go_simp
    exact Xz7
 case rest =>
  obtain⟨B,rfl,L⟩:=hcut
  have LJ:=L0.join L
  clear L
  have L:=LJ
  clear LJ
  simp only[List.cons_append,List.nil_append] at L
  have hoc:=HOC.out
  unfold OpC at hoc
  rcases hoc with ⟨o1,o2⟩|⟨o1,o2⟩|rfl|rfl|rfl|rfl|rfl|rfl|rfl|rfl|rfl|rfl|rfl|rfl|rfl|rfl|rfl|rfl|rfl|rfl|rfl|rfl|rfl|rfl|rfl|rfl|rfl
  · go_wp2_with (first|(refine lay_whole (ty:=180) L 0 rfl rfl rfl rfl τ180 rfl Bd ?_)|(refine lay_put_whole (ty:=180) L 1 rfl rfl rfl rfl rfl Bd rfl rfl ?_;intro wz Lz Nz;clear Nz;replace L:=Lz;clear Lz;(try simp only[s0,s1] at L))|(refine YL ?_)|((first|refine Yt _ ?_|refine YS ?_);clear L;intro wz L))
    (try go_simp)
    exact Yr1 ⟨⟨o,a,b,c,0⟩,rfl,(by dsimp only;omega),(by dsimp only;omega),L.bel⟩
  · go_wp2_with (first|(go_skip;first|(go_step;go_big_op)|skip)|(refine YL ?_)|((first|refine Yt (inL ⟨o,a,b,0,0⟩) ?_|refine Yt (inL ⟨o,a,b,0,k - 12⟩) ?_|refine YS ?_);clear L;intro wz L))
    (try go_simp)
    exact Yr1 ⟨⟨o,a,b,0,k - 12⟩,rfl,(by dsimp only;omega),(by dsimp only;omega),L.bel⟩
  · go_wp2_with (first|(go_skip;first|(go_step;go_big_op)|skip)|(refine YL ?_)|((first|refine Yt (inL ⟨16,a,b,0,0⟩) ?_|refine Yt (inL ⟨16,a,b,0,8*k - 32⟩) ?_|refine YS ?_);clear L;intro wz L))
    (try go_simp)
    exact Yr1 ⟨⟨16,a,b,0,8*k - 32⟩,rfl,(by dsimp only;omega),(by dsimp only;omega),L.bel⟩
  · go_wp2_with (first|(go_skip;first|(go_step;go_big_op)|skip)|(refine YL ?_)|((first|refine Yt (inL ⟨17,a,b,0,0⟩) ?_|refine Yt (inL ⟨17,a,b,0,k⟩) ?_|refine YS ?_);clear L;intro wz L))
    (try go_simp)
    exact Yr1 ⟨⟨17,a,b,0,k⟩,rfl,(by dsimp only;omega),(by dsimp only;omega),L.bel⟩
  · go_wp2_with (first|(go_skip;first|(go_step;go_big_op)|skip)|(refine YL ?_)|((first|refine Yt (inL ⟨18,a,b,0,0⟩) ?_|refine Yt (inL ⟨18,a,b,0,k⟩) ?_|refine YS ?_);clear L;intro wz L))
    (try go_simp)
    exact Yr1 ⟨⟨18,a,b,0,k⟩,rfl,(by dsimp only;omega),(by dsimp only;omega),L.bel⟩
  · go_wp2_with (first|(go_skip;first|(go_step;go_big_op)|skip)|(refine YL ?_)|((first|refine Yt (inL ⟨19,a,b,0,0⟩) ?_|refine Yt (inL ⟨19,a,b,0,k⟩) ?_|refine YS ?_);clear L;intro wz L))
    (try go_simp)
    exact Yr1 ⟨⟨19,a,b,0,k⟩,rfl,(by dsimp only;omega),(by dsimp only;omega),L.bel⟩
  · go_wp2_with (first|(go_skip;first|(go_step;go_big_op)|skip)|(refine YL ?_)|((first|refine Yt (inL ⟨20,a,b,0,0⟩) ?_|refine Yt (inL ⟨20,a,b,0,k⟩) ?_|refine YS ?_);clear L;intro wz L))
    (try go_simp)
    exact Yr1 ⟨⟨20,a,b,0,k⟩,rfl,(by dsimp only;omega),(by dsimp only;omega),L.bel⟩
  · go_wp2_with (first|(go_skip;first|(go_step;go_big_op)|skip)|(refine YL ?_)|((first|refine Yt (inL ⟨21,a,b,0,0⟩) ?_|refine Yt (inL ⟨21,a,b,0,k⟩) ?_|refine YS ?_);clear L;intro wz L))
    (try go_simp)
    exact Yr1 ⟨⟨21,a,b,0,k⟩,rfl,(by dsimp only;omega),(by dsimp only;omega),L.bel⟩
  · go_wp2_with (first|(go_skip;first|(go_step;go_big_op)|skip)|(refine YL ?_)|((first|refine Yt (inL ⟨22,a,b,0,0⟩) ?_|refine Yt (inL ⟨22,a,b,0,k⟩) ?_|refine YS ?_);clear L;intro wz L))
    (try go_simp)
    exact Yr1 ⟨⟨22,a,b,0,k⟩,rfl,(by dsimp only;omega),(by dsimp only;omega),L.bel⟩
  · go_wp2_with (first|(go_skip;first|(go_step;go_big_op)|skip)|(refine YL ?_)|((first|refine Yt (inL ⟨23,a,b,0,0⟩) ?_|refine Yt (inL ⟨23,a,b,0,8*k - 32⟩) ?_|refine YS ?_);clear L;intro wz L))
    (try go_simp)
    exact Yr1 ⟨⟨23,a,b,0,8*k - 32⟩,rfl,(by dsimp only;omega),(by dsimp only;omega),L.bel⟩
  · rcases and_one (v / 1099511627776) with hq|hq
    · go_wp2_with (first|(go_skip;first|(go_step;go_big_op)|skip)|(refine YL ?_)|((first|refine Yt (inL ⟨24,a,0,c,0⟩) ?_|refine Yt (inL ⟨24,a,0,0,0⟩) ?_|refine YS ?_);clear L;intro wz L))
      (try go_simp)
      exact Yr1 ⟨⟨24,a,0,0,0⟩,rfl,(by dsimp only;omega),(by dsimp only;omega),L.bel⟩
    · go_wp2_with (first|(go_skip;first|(go_step;go_big_op)|skip)|(refine YL ?_)|((first|refine Yt (inL ⟨24,a,0,c,0⟩) ?_|refine Yt (inL ⟨24,a,0,0,0⟩) ?_|refine Yt (inL ⟨24,a,0,0,k⟩) ?_|refine YS ?_);clear L;intro wz L))
      (try go_simp)
      exact Yr1 ⟨⟨24,a,0,0,k⟩,rfl,(by dsimp only;omega),(by dsimp only;omega),L.bel⟩
  · go_wp2_with (first|(go_skip;first|(go_step;go_big_op)|skip)|(refine YL ?_)|((first|refine Yt (inL ⟨32,a,b,0,0⟩) ?_|refine Yt (inL ⟨32,a,b,0,8*k - 32⟩) ?_|refine YS ?_);clear L;intro wz L))
    (try go_simp)
    exact Yr1 ⟨⟨32,a,b,0,8*k - 32⟩,rfl,(by dsimp only;omega),(by dsimp only;omega),L.bel⟩
  · go_wp2_with (first|(go_skip;first|(go_step;go_big_op)|skip)|(refine YL ?_)|((first|refine Yt (inL ⟨33,a,b,0,0⟩) ?_|refine Yt (inL ⟨33,a,b,0,8*k - 32⟩) ?_|refine YS ?_);clear L;intro wz L))
    (try go_simp)
    exact Yr1 ⟨⟨33,a,b,0,8*k - 32⟩,rfl,(by dsimp only;omega),(by dsimp only;omega),L.bel⟩
  · go_wp2_with (first|(go_skip;first|(go_step;go_big_op)|skip)|(refine YL ?_)|((first|refine Yt (inL ⟨34,a,b,0,0⟩) ?_|refine Yt (inL ⟨34,a,b,0,8*k - 32⟩) ?_|refine YS ?_);clear L;intro wz L))
    (try go_simp)
    exact Yr1 ⟨⟨34,a,b,0,8*k - 32⟩,rfl,(by dsimp only;omega),(by dsimp only;omega),L.bel⟩
  · go_wp2_with (first|(go_skip;first|(go_step;go_big_op)|skip)|(refine YL ?_)|((first|refine Yt (inL ⟨35,a,b,0,0⟩) ?_|refine Yt (inL ⟨35,a,b,0,8*k - 32⟩) ?_|refine YS ?_);clear L;intro wz L))
    (try go_simp)
    exact Yr1 ⟨⟨35,a,b,0,8*k - 32⟩,rfl,(by dsimp only;omega),(by dsimp only;omega),L.bel⟩
  · go_wp2_with (first|(go_skip;first|(go_step;go_big_op)|skip)|(refine YL ?_)|((first|refine Yt (inL ⟨36,a,b,0,0⟩) ?_|refine Yt (inL ⟨36,a,b,0,8*k - 32⟩) ?_|refine YS ?_);clear L;intro wz L))
    (try go_simp)
    exact Yr1 ⟨⟨36,a,b,0,8*k - 32⟩,rfl,(by dsimp only;omega),(by dsimp only;omega),L.bel⟩
  · go_wp2_with (first|(go_skip;first|(go_step;go_big_op)|skip)|(refine YL ?_)|((first|refine Yt (inL ⟨48,a,b,0,0⟩) ?_|refine Yt (inL ⟨48,a,b,0,k - 12⟩) ?_|refine Yt (inL ⟨48,a,0,0,k - 12⟩) ?_|refine YS ?_);clear L;intro wz L))
    (try go_simp)
    exact Yr1 ⟨⟨48,a,0,0,k - 12⟩,rfl,(by dsimp only;omega),(by dsimp only;omega),L.bel⟩
  · go_wp2_with (first|(go_skip;first|(go_step;go_big_op)|skip)|(refine YL ?_)|((first|refine Yt (inL ⟨49,a,b,0,0⟩) ?_|refine Yt (inL ⟨49,a,b,0,8*k - 32⟩) ?_|refine YS ?_);clear L;intro wz L))
    (try go_simp)
    exact Yr1 ⟨⟨49,a,b,0,8*k - 32⟩,rfl,(by dsimp only;omega),(by dsimp only;omega),L.bel⟩
  · go_wp2_with (first|(go_skip;first|(go_step;go_big_op)|skip)|(refine YL ?_)|((first|refine Yt (inL ⟨56,0,b,c,0⟩) ?_|refine Yt (inL ⟨56,0,0,c,0⟩) ?_|refine Yt (inL ⟨56,0,0,0,0⟩) ?_|refine YS ?_);clear L;intro wz L))
    (try go_simp)
    exact Yr1 ⟨⟨56,0,0,0,0⟩,rfl,(by dsimp only;omega),(by dsimp only;omega),L.bel⟩
  · go_wp2_with (first|(go_skip;first|(go_step;go_big_op)|skip)|(refine YL ?_)|((first|refine Yt (inL ⟨57,0,b,c,0⟩) ?_|refine Yt (inL ⟨57,0,0,c,0⟩) ?_|refine Yt (inL ⟨57,0,0,0,0⟩) ?_|refine YS ?_);clear L;intro wz L))
    (try go_simp)
    exact Yr1 ⟨⟨57,0,0,0,0⟩,rfl,(by dsimp only;omega),(by dsimp only;omega),L.bel⟩
  · go_wp2_with (first|(go_skip;first|(go_step;go_big_op)|skip)|(refine YL ?_)|((first|refine Yt (inL ⟨58,a,0,c,0⟩) ?_|refine Yt (inL ⟨58,a,0,0,0⟩) ?_|refine Yt (inL ⟨58,a,0,0,k % 8⟩) ?_|refine YS ?_);clear L;intro wz L))
    (try go_simp)
    exact Yr1 ⟨⟨58,a,0,0,k % 8⟩,rfl,(by dsimp only;omega),(by dsimp only;omega),L.bel⟩
  · go_wp2_with (first|(go_skip;first|(go_step;go_big_op)|skip)|(refine YL ?_)|((first|refine Yt (inL ⟨59,a,0,c,0⟩) ?_|refine Yt (inL ⟨59,a,0,0,0⟩) ?_|refine Yt (inL ⟨59,a,0,0,k % 8⟩) ?_|refine YS ?_);clear L;intro wz L))
    (try go_simp)
    exact Yr1 ⟨⟨59,a,0,0,k % 8⟩,rfl,(by dsimp only;omega),(by dsimp only;omega),L.bel⟩
  · go_wp2_with (first|(go_skip;first|(go_step;go_big_op)|skip)|(refine YL ?_)|((first|refine Yt (inL ⟨60,a,0,c,0⟩) ?_|refine Yt (inL ⟨60,a,0,0,0⟩) ?_|refine Yt (inL ⟨60,a,0,0,k % 12⟩) ?_|refine YS ?_);clear L;intro wz L))
    (try go_simp)
    exact Yr1 ⟨⟨60,a,0,0,k % 12⟩,rfl,(by dsimp only;omega),(by dsimp only;omega),L.bel⟩
  · go_wp2_with (first|(go_skip;first|(go_step;go_big_op)|skip)|(refine YL ?_)|((first|refine Yt (inL ⟨61,a,0,c,0⟩) ?_|refine Yt (inL ⟨61,a,0,0,0⟩) ?_|refine Yt (inL ⟨61,a,0,0,k % 12⟩) ?_|refine YS ?_);clear L;intro wz L))
    (try go_simp)
    exact Yr1 ⟨⟨61,a,0,0,k % 12⟩,rfl,(by dsimp only;omega),(by dsimp only;omega),L.bel⟩
  · go_wp2_with (first|(go_skip;first|(go_step;go_big_op)|skip)|(refine YL ?_)|((first|refine Yt (inL ⟨62,0,b,c,0⟩) ?_|refine Yt (inL ⟨62,0,0,c,0⟩) ?_|refine Yt (inL ⟨62,0,0,0,0⟩) ?_|refine YS ?_);clear L;intro wz L))
    (try go_simp)
    exact Yr1 ⟨⟨62,0,0,0,0⟩,rfl,(by dsimp only;omega),(by dsimp only;omega),L.bel⟩
  · go_wp2_with (first|(go_skip;first|(go_step;go_big_op)|skip)|(refine YL ?_)|((first|refine Yt (inL ⟨63,0,b,c,0⟩) ?_|refine Yt (inL ⟨63,0,0,c,0⟩) ?_|refine Yt (inL ⟨63,0,0,0,0⟩) ?_|refine YS ?_);clear L;intro wz L))
    (try go_simp)
    exact Yr1 ⟨⟨63,0,0,0,0⟩,rfl,(by dsimp only;omega),(by dsimp only;omega),L.bel⟩
  · go_wp2_with (first|(go_skip;first|(go_step;go_big_op)|skip)|(refine YL ?_)|((first|refine Yt (inL ⟨64,0,b,c,0⟩) ?_|refine Yt (inL ⟨64,0,0,c,0⟩) ?_|refine Yt (inL ⟨64,0,0,0,0⟩) ?_|refine YS ?_);clear L;intro wz L))
    (try go_simp)
    exact Yr1 ⟨⟨64,0,0,0,0⟩,rfl,(by dsimp only;omega),(by dsimp only;omega),L.bel⟩
end Go.Proofs.YtnmpfmapncicmaaGreat
