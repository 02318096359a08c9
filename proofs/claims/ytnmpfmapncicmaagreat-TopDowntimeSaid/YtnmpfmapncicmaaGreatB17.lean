/-
  Texts joined: TpMch2. No law is proved here.
-/
import Derived.Test.YtnmpfmapncicmaaGreatB16
namespace Go.Proofs.YtnmpfmapncicmaaGreat
set_option linter.all false
set_option maxRecDepth 100000
set_option maxHeartbeats 40000000
open Go.RowKit
def Ds (b:Bool) (k:Nat):Int:=if b=true then 2 ^ k else 0
def C2 (b0 b1 b2 b3 b4:Bool):Nat→Int
 | 0=>0
 | 1=>Ds b0 0
 | 2=>Ds b0 0+Ds b1 1
 | 3=>Ds b0 0+Ds b1 1+Ds b2 2
 | 4=>Ds b0 0+Ds b1 1+Ds b2 2+Ds b3 3
 | _=>Ds b0 0+Ds b1 1+Ds b2 2+Ds b3 3+Ds b4 4
theorem lpor0 (b1 b2 b3 b4:Bool):bits .or .u32 (C2 true b1 b2 b3 b4 0) 1=C2 true b1 b2 b3 b4 1:=by (cases b1 <;> cases b2 <;> cases b3 <;> cases b4 <;> decide +kernel)
theorem lpno0 (b1 b2 b3 b4:Bool):C2 false b1 b2 b3 b4 0=C2 false b1 b2 b3 b4 1:=by (cases b1 <;> cases b2 <;> cases b3 <;> cases b4 <;> decide +kernel)
theorem lpor1 (b0 b2 b3 b4:Bool):bits .or .u32 (C2 b0 true b2 b3 b4 1) 2=C2 b0 true b2 b3 b4 2:=by (cases b0 <;> cases b2 <;> cases b3 <;> cases b4 <;> decide +kernel)
theorem lpno1 (b0 b2 b3 b4:Bool):C2 b0 false b2 b3 b4 1=C2 b0 false b2 b3 b4 2:=by (cases b0 <;> cases b2 <;> cases b3 <;> cases b4 <;> decide +kernel)
theorem lpor2 (b0 b1 b3 b4:Bool):bits .or .u32 (C2 b0 b1 true b3 b4 2) 4=C2 b0 b1 true b3 b4 3:=by (cases b0 <;> cases b1 <;> cases b3 <;> cases b4 <;> decide +kernel)
theorem lpno2 (b0 b1 b3 b4:Bool):C2 b0 b1 false b3 b4 2=C2 b0 b1 false b3 b4 3:=by (cases b0 <;> cases b1 <;> cases b3 <;> cases b4 <;> decide +kernel)
theorem lpor3 (b0 b1 b2 b4:Bool):bits .or .u32 (C2 b0 b1 b2 true b4 3) 8=C2 b0 b1 b2 true b4 4:=by (cases b0 <;> cases b1 <;> cases b2 <;> cases b4 <;> decide +kernel)
theorem lpno3 (b0 b1 b2 b4:Bool):C2 b0 b1 b2 false b4 3=C2 b0 b1 b2 false b4 4:=by (cases b0 <;> cases b1 <;> cases b2 <;> cases b4 <;> decide +kernel)
theorem lpor4 (b0 b1 b2 b3:Bool):bits .or .u32 (C2 b0 b1 b2 b3 true 4) 16=C2 b0 b1 b2 b3 true 5:=by (cases b0 <;> cases b1 <;> cases b2 <;> cases b3 <;> decide +kernel)
theorem lpno4 (b0 b1 b2 b3:Bool):C2 b0 b1 b2 b3 false 4=C2 b0 b1 b2 b3 false 5:=by (cases b0 <;> cases b1 <;> cases b2 <;> cases b3 <;> decide +kernel)
theorem FW (M:Mc):E7 M=C2 M.tm.f (decide (0<M.keys.size)) (EW M.dk) M.nc.r (F1 M.T M.G) 5:=by
 unfold E7 C2 Ds
 by_cases h:M.keys.size=0
 · rw[if_pos h,decide_eq_false (by omega)];rfl
 · rw[if_neg h,decide_eq_true (by omega:0<M.keys.size)];rfl
theorem linesI_bd (M:Mc):0≤E7 M∧E7 M<32:=by
 rw[FW]
 unfold C2 Ds
 constructor <;> (repeat' split) <;> decide
theorem CU {P:Program} {ops:Array Oper} {rest:List Oper} {op:Oper} {a:Act} {w:World} {Q:Exit→Act→World→Prop} {ty:TypeId} {x i:Operand} {A I u:Value} (hgd:op.guard=none) (ho:op.op=.index ty x i) (hx:a.eval x=A) (hi:a.eval i=I) (hr:(Instr.index ty A I).run P w=.ok u w)
    (h:wpList P ops Q rest (a.put op.dst u) w):wpList P ops Q (op :: rest) a w:=by
 refine wpList_plain hgd fun _ hK=>?_
 unfold Oper.wp execOp
 simp only[ho,hx,hi,Sem.run_bind,hr,Result.andThen_ok,Sem.run_pure]
 exact hK _ _ h
theorem AI {P:Program} {w0 w:World} {l:List Bx} {op:Oper} {a:Act} {Q:Exit→Act→World→Prop} {K:Act→World→Prop} {ty:TypeId} (L:Lay w0 w l) (zs:List Value) (z:Value) (ho:op.op=.alloc ty) (hz:(P.info? ty).map (·.zero)=some (some z)) (hc:z.cells=zs.toArray)
    (h:∀ w',Lay w0 w' (⟨w.heap.size,zs,ty⟩ :: l)→NewBox w zs ty w'→K (a.put op.dst (.pointer (some ⟨w.heap.size,0,none⟩))) w'):op.wp P a w K Q:=by
 have hzv:(zeroValue ty).run P w=.ok z w:=by
  exact Xz95
 have hr:(Instr.alloc ty true (.tuple #[])).run P w=.ok (.pointer (some ⟨w.heap.size,0,none⟩)) (w.alloc (.cells zs.toArray ty)):=by
  unfold Instr.alloc newVar
  simp [Sem.run_bind,hzv,hc,newRow]
 unfold Oper.wp execOp
 simp only[ho,Sem.run_bind,hr,Result.andThen_ok,Sem.run_pure]
 exact h _ (L.new (NewBox.made w zs ty)) (NewBox.made w zs ty)
theorem CL:(Tryz.prog.info? 290).map (·.size)=some 5:=by kernel_rfl
section
variable {M:Mc} {v:Value} {w:World}
theorem Xz3 {P:Prop} (h:P:=by
  refine hK.out _ _ (L.kept [1] rfl) ?_;clear hHeld hK K;intro hHeld
  (try simp only[q1,q2,q3,Act.put,q4,s0,s1])
  refine zor 14 ?_;intro K hK
  go_simp
  with_reducible refine (HB.out _).mono ?_
  rintro e wz ⟨rfl,hbz⟩
  replace L:=L.below hbz
  clear hbz
  go_simp
  refine hK.out _ _ (L.kept [1] rfl) ?_;clear hHeld hK K;intro hHeld
  (try simp only[q1,q2,q3,Act.put,q4,s0,s1])
  refine ztk (i:=15) ?_
  refine zor 17 ?_;intro K hK
  refine Ae (by rfl) (Am (ty:=290) L 0 rfl [.bool b0,.bool b1,.bool b2,.bool b3,.bool b4] [.bool b0,.bool b1,.bool b2,.bool b3,.bool b4] rfl rfl rfl CL (by intro u hu;simp only[List.mem_cons,List.not_mem_nil,or_false] at hu;rcases hu with rfl|rfl|rfl|rfl|rfl <;> rfl) rfl rfl ?_)
  intro wz Lz Nz
  clear Nz
  replace L:=Lz
  clear Lz
  simp only[List.set_cons_zero] at L
  refine hK.out _ _ (L.kept [1] rfl) (fun hHeld'=>?_)
  clear hK K hHeld' hHeld
  (try simp only[q1,q2,q3,Act.put,q4,s0,s1])
  refine wpAnyH_done (by kernel_rfl) ?_ _
  go_wp2_with fail
  go_meet
  exact⟨_,rfl,L⟩):P:=h
theorem lines_any (hM:M.Ok):Calls Tryz.prog 157 #[.agg (mcL M v).toArray] w (Ret w (.int .u32 (E7 M))):=by
 have C:∀ w,Calls Tryz.prog 209 #[.agg (DS M.keys).toArray] w (Ret w (.bool (decide (0<M.keys.size)))):=fun w=>Gy M.keys w
 have BL:∀ w,Calls Tryz.prog 211 #[.agg (blL M.T M.G).toArray] w (Ret w (.bool (F1 M.T M.G))):=fun w=>pending_any M.T M.G w hM.T hM.G
 have D:=fun w=>dkpend_any M.dk w hM.dk.s
 have TM:=fun w=>tmpend_any M.tm w
 have N:=fun w=>ncpend_any M.nc w
 rw[FW]
 generalize decide (0<M.keys.size)=b1 at C ⊢
 generalize EW M.dk=b2 at D ⊢
 generalize F1 M.T M.G=b4 at BL ⊢
 obtain⟨b0,h0⟩:∃ b,M.tm.f=b:=⟨_,rfl⟩
 obtain⟨b3,h3⟩:∃ b,M.nc.r=b:=⟨_,rfl⟩
 rw[h0] at TM ⊢
 rw[h3] at N ⊢
 have HC:=lh C;have HT:=lh TM;have HD:=lh D;have HNn:=lh N;have HB:=lh BL
 clear C TM D N BL h0 h3 hM
 have L:=Lay.start w
 go_in
 go_wp2_with (refine YS ?_;clear L;intro wz L)
 go_cut [3] from 7 to 23 (fun p wx=>∃ B,p=.pointer (some ⟨B,0,none⟩)∧Lay w wx [⟨B,[.bool b0,.bool b1,.bool b2,.bool b3,.bool b4],290⟩,⟨w.heap.size,mcL M v,43⟩])
 case first =>
  (try simp only[Act.put,q4,s0,s1])
  have hHeld:=L.drew.kept [0] rfl
  refine wp_region_held_drew (S:=Kept _) (by kernel_rfl) hHeld (fun hHeld=>?_)
  replace L:=L.drew
  refine ztk (i:=0) ?_
  refine zpt (i:=1) τ34 BS 0 (tmL M.tm) ?_
  refine ztk (i:=3) ?_
  refine zpt (i:=4) τ32 BA 0 (DS M.keys) ?_
  refine ztk (i:=6) ?_
  refine zpt (i:=7) τ36 Bk 0 (dkL M.dk) ?_
  refine ztk (i:=9) ?_
  refine zpt (i:=10) τ38 B7 0 (ncL M.nc) ?_
  refine ztk (i:=12) ?_
  refine zpt (i:=13) τ40 Cj 0 (blL M.T M.G) ?_
  refine wpAnyH_ready (rs:=[2,16]) (by kernel_rfl) (by simp) ?_
  refine AllReadyH.cons rfl (fun K hK=>?_) (AllReadyH.cons rfl (fun K hK=>?_) AllReadyH.nil)
  rotate_left
  · refine Ae (by rfl) (AI (ty:=290) L [.bool false,.bool false,.bool false,.bool false,.bool false] (.agg (List.toArray [.bool false,.bool false,.bool false,.bool false,.bool false])) rfl (by kernel_rfl) rfl ?_)
    intro wz Lz Nz
    clear Nz
    replace L:=Lz
    clear Lz
    refine hK.out _ _ (L.kept [1] rfl) ?_;clear hHeld hK K;intro hHeld
    (try simp only[q1,q2,q3,Act.put,q4,s0,s1])
    refine zor 2 ?_;intro K hK
    go_simp
    with_reducible refine (HT.out _).mono ?_
    rintro e wz ⟨rfl,hbz⟩
    replace L:=L.below hbz
    clear hbz
    go_simp
    refine hK.out _ _ (L.kept [1] rfl) ?_;clear hHeld hK K;intro hHeld
    (try simp only[q1,q2,q3,Act.put,q4,s0,s1])
    refine zor 5 ?_;intro K hK
    go_simp
    with_reducible refine (HC.out _).mono ?_
    rintro e wz ⟨rfl,hbz⟩
    replace L:=L.below hbz
    clear hbz
    go_simp
    refine hK.out _ _ (L.kept [1] rfl) ?_;clear hHeld hK K;intro hHeld
    (try simp only[q1,q2,q3,Act.put,q4,s0,s1])
    refine zor 8 ?_;intro K hK
    go_simp
    with_reducible refine (HD.out _).mono ?_
    rintro e wz ⟨rfl,hbz⟩
    replace L:=L.below hbz
    clear hbz
    go_simp
    refine hK.out _ _ (L.kept [1] rfl) ?_;clear hHeld hK K;intro hHeld
    (try simp only[q1,q2,q3,Act.put,q4,s0,s1])
    refine zor 11 ?_;intro K hK
    go_simp
    with_reducible refine (HNn.out _).mono ?_
    rintro e wz ⟨rfl,hbz⟩
    replace L:=L.below hbz
    clear hbz
    go_simp
    exact Xz3
  · go_simp
    with_reducible refine (HT.out _).mono ?_
    rintro e wz ⟨rfl,hbz⟩
    replace L:=L.below hbz
    clear hbz
    go_simp
    refine hK.out _ _ (L.kept [0] rfl) ?_;clear hHeld hK K;intro hHeld
    (try simp only[q1,q2,q3,Act.put,q4,s0,s1])
    refine wpAnyH_ready (rs:=[5,16]) (by kernel_rfl) (by simp) ?_
    refine AllReadyH.cons rfl (fun K hK=>?_) (AllReadyH.cons rfl (fun K hK=>?_) AllReadyH.nil)
    rotate_left
    · refine Ae (by rfl) (AI (ty:=290) L [.bool false,.bool false,.bool false,.bool false,.bool false] (.agg (List.toArray [.bool false,.bool false,.bool false,.bool false,.bool false])) rfl (by kernel_rfl) rfl ?_)
      intro wz Lz Nz
      clear Nz
      replace L:=Lz
      clear Lz
      refine hK.out _ _ (L.kept [1] rfl) ?_;clear hHeld hK K;intro hHeld
      (try simp only[q1,q2,q3,Act.put,q4,s0,s1])
      refine zor 5 ?_;intro K hK
      go_simp
      with_reducible refine (HC.out _).mono ?_
      rintro e wz ⟨rfl,hbz⟩
      replace L:=L.below hbz
      clear hbz
      go_simp
      refine hK.out _ _ (L.kept [1] rfl) ?_;clear hHeld hK K;intro hHeld
      (try simp only[q1,q2,q3,Act.put,q4,s0,s1])
      refine zor 8 ?_;intro K hK
      go_simp
      with_reducible refine (HD.out _).mono ?_
      rintro e wz ⟨rfl,hbz⟩
      replace L:=L.below hbz
      clear hbz
      go_simp
      refine hK.out _ _ (L.kept [1] rfl) ?_;clear hHeld hK K;intro hHeld
      (try simp only[q1,q2,q3,Act.put,q4,s0,s1])
      refine zor 11 ?_;intro K hK
      go_simp
      with_reducible refine (HNn.out _).mono ?_
      rintro e wz ⟨rfl,hbz⟩
      replace L:=L.below hbz
      clear hbz
      go_simp
      exact Xz3
    · go_simp
      with_reducible refine (HC.out _).mono ?_
      rintro e wz ⟨rfl,hbz⟩
      replace L:=L.below hbz
      clear hbz
      go_simp
      refine hK.out _ _ (L.kept [0] rfl) ?_;clear hHeld hK K;intro hHeld
      (try simp only[q1,q2,q3,Act.put,q4,s0,s1])
      refine wpAnyH_ready (rs:=[8,16]) (by kernel_rfl) (by simp) ?_
      refine AllReadyH.cons rfl (fun K hK=>?_) (AllReadyH.cons rfl (fun K hK=>?_) AllReadyH.nil)
      rotate_left
      · refine Ae (by rfl) (AI (ty:=290) L [.bool false,.bool false,.bool false,.bool false,.bool false] (.agg (List.toArray [.bool false,.bool false,.bool false,.bool false,.bool false])) rfl (by kernel_rfl) rfl ?_)
        intro wz Lz Nz
        clear Nz
        replace L:=Lz
        clear Lz
        refine hK.out _ _ (L.kept [1] rfl) ?_;clear hHeld hK K;intro hHeld
        (try simp only[q1,q2,q3,Act.put,q4,s0,s1])
        refine zor 8 ?_;intro K hK
        go_simp
        with_reducible refine (HD.out _).mono ?_
        rintro e wz ⟨rfl,hbz⟩
        replace L:=L.below hbz
        clear hbz
        go_simp
        refine hK.out _ _ (L.kept [1] rfl) ?_;clear hHeld hK K;intro hHeld
        (try simp only[q1,q2,q3,Act.put,q4,s0,s1])
        refine zor 11 ?_;intro K hK
        go_simp
        with_reducible refine (HNn.out _).mono ?_
        rintro e wz ⟨rfl,hbz⟩
        replace L:=L.below hbz
        clear hbz
        go_simp
        exact Xz3
      · go_simp
        with_reducible refine (HD.out _).mono ?_
        rintro e wz ⟨rfl,hbz⟩
        replace L:=L.below hbz
        clear hbz
        go_simp
        refine hK.out _ _ (L.kept [0] rfl) ?_;clear hHeld hK K;intro hHeld
        (try simp only[q1,q2,q3,Act.put,q4,s0,s1])
        refine wpAnyH_ready (rs:=[11,16]) (by kernel_rfl) (by simp) ?_
        refine AllReadyH.cons rfl (fun K hK=>?_) (AllReadyH.cons rfl (fun K hK=>?_) AllReadyH.nil)
        rotate_left
        · refine Ae (by rfl) (AI (ty:=290) L [.bool false,.bool false,.bool false,.bool false,.bool false] (.agg (List.toArray [.bool false,.bool false,.bool false,.bool false,.bool false])) rfl (by kernel_rfl) rfl ?_)
          intro wz Lz Nz
          clear Nz
          replace L:=Lz
          clear Lz
          refine hK.out _ _ (L.kept [1] rfl) ?_;clear hHeld hK K;intro hHeld
          (try simp only[q1,q2,q3,Act.put,q4,s0,s1])
          refine zor 11 ?_;intro K hK
          go_simp
          with_reducible refine (HNn.out _).mono ?_
          rintro e wz ⟨rfl,hbz⟩
          replace L:=L.below hbz
          clear hbz
          go_simp
          exact Xz3
        · go_simp
          with_reducible refine (HNn.out _).mono ?_
          rintro e wz ⟨rfl,hbz⟩
          replace L:=L.below hbz
          clear hbz
          go_simp
          refine hK.out _ _ (L.kept [0] rfl) ?_;clear hHeld hK K;intro hHeld
          (try simp only[q1,q2,q3,Act.put,q4,s0,s1])
          refine wpAnyH_ready (rs:=[14,16]) (by kernel_rfl) (by simp) ?_
          refine AllReadyH.cons rfl (fun K hK=>?_) (AllReadyH.cons rfl (fun K hK=>?_) AllReadyH.nil)
          rotate_left
          · refine Ae (by rfl) (AI (ty:=290) L [.bool false,.bool false,.bool false,.bool false,.bool false] (.agg (List.toArray [.bool false,.bool false,.bool false,.bool false,.bool false])) rfl (by kernel_rfl) rfl ?_)
            intro wz Lz Nz
            clear Nz
            replace L:=Lz
            clear Lz
            exact Xz3
          · go_simp
            with_reducible refine (HB.out _).mono ?_
            rintro e wz ⟨rfl,hbz⟩
            replace L:=L.below hbz
            clear hbz
            go_simp
            refine hK.out _ _ (L.kept [0] rfl) ?_;clear hHeld hK K;intro hHeld
            (try simp only[q1,q2,q3,Act.put,q4,s0,s1])
            refine ztk (i:=15) ?_
            refine zor 16 ?_;intro K hK
            refine Ae (by rfl) (AI (ty:=290) L [.bool false,.bool false,.bool false,.bool false,.bool false] (.agg (List.toArray [.bool false,.bool false,.bool false,.bool false,.bool false])) rfl (by kernel_rfl) rfl ?_)
            intro wz Lz Nz
            clear Nz
            replace L:=Lz
            clear Lz
            refine hK.out _ _ (L.kept [1] rfl) ?_;clear hHeld hK K;intro hHeld
            (try simp only[q1,q2,q3,Act.put,q4,s0,s1])
            refine zor 17 ?_;intro K hK
            refine Ae (by rfl) (Am (ty:=290) L 0 rfl [.bool b0,.bool b1,.bool b2,.bool b3,.bool b4] [.bool b0,.bool b1,.bool b2,.bool b3,.bool b4] rfl rfl rfl CL (by intro u hu;simp only[List.mem_cons,List.not_mem_nil,or_false] at hu;rcases hu with rfl|rfl|rfl|rfl|rfl <;> rfl) rfl rfl ?_)
            intro wz Lz Nz
            clear Nz
            replace L:=Lz
            clear Lz
            simp only[List.set_cons_zero] at L
            refine hK.out _ _ (L.kept [1] rfl) (fun hHeld'=>?_)
            clear hK K hHeld' hHeld
            (try simp only[q1,q2,q3,Act.put,q4,s0,s1])
            refine wpAnyH_done (by kernel_rfl) ?_ _
            go_wp2_with fail
            go_meet
            exact⟨_,rfl,L⟩
 case rest =>
  obtain⟨B3,rfl,L⟩:=hcut
  go_wp2_with (refine Yp [.bool b0,.bool b1,.bool b2,.bool b3,.bool b4] ?_)
  have hI0:∀ w,(Instr.index 290 (.agg (List.toArray [.bool b0,.bool b1,.bool b2,.bool b3,.bool b4])) (.int .i64 0)).run Tryz.prog w=.ok (.bool b0) w:=by intro w;kernel_rfl
  have hI1:∀ w,(Instr.index 290 (.agg (List.toArray [.bool b0,.bool b1,.bool b2,.bool b3,.bool b4])) (.int .i64 1)).run Tryz.prog w=.ok (.bool b1) w:=by intro w;kernel_rfl
  have hI2:∀ w,(Instr.index 290 (.agg (List.toArray [.bool b0,.bool b1,.bool b2,.bool b3,.bool b4])) (.int .i64 2)).run Tryz.prog w=.ok (.bool b2) w:=by intro w;kernel_rfl
  have hI3:∀ w,(Instr.index 290 (.agg (List.toArray [.bool b0,.bool b1,.bool b2,.bool b3,.bool b4])) (.int .i64 3)).run Tryz.prog w=.ok (.bool b3) w:=by intro w;kernel_rfl
  have hI4:∀ w,(Instr.index 290 (.agg (List.toArray [.bool b0,.bool b1,.bool b2,.bool b3,.bool b4])) (.int .i64 4)).run Tryz.prog w=.ok (.bool b4) w:=by intro w;kernel_rfl
  generalize Value.agg (List.toArray [.bool b0,.bool b1,.bool b2,.bool b3,.bool b4])=A at hI0 hI1 hI2 hI3 hI4 ⊢
  have H0:=lh hI0;have H1:=lh hI1;have H2:=lh hI2;have H3:=lh hI3;have H4:=lh hI4
  clear hI0 hI1 hI2 hI3 hI4
  go_loopw [4,24] (fun x i wr=>∃ k:Nat,k≤5∧i=.int .i64 k∧x=.int .u32 (C2 b0 b1 b2 b3 b4 k)∧Below w.heap.size w wr) (fun _ i _=>5 - (intOf i).toNat)
  case atStart=>exact⟨0,by omega,rfl,rfl,L.bel⟩
  case round =>
   obtain⟨k,hk,rfl,rfl,hbw⟩:=hrel
   by_cases hlt:k<5
   · clear L
     obtain rfl|rfl|rfl|rfl|rfl:k=0∨k=1∨k=2∨k=3∨k=4:=by omega
     · cases b0
       · go_wp2_with (refine CU (ty:=290) rfl rfl rfl rfl (H0.out _) ?_)
         go_roundw
         case rel=>exact⟨1,by decide,by go_num,congrArg (Value.int .u32) (lpno0 b1 b2 b3 b4),hbw⟩
         case measure=>simp [intOf]
       · go_wp2_with (refine CU (ty:=290) rfl rfl rfl rfl (H0.out _) ?_)
         go_roundw
         case rel=>exact⟨1,by decide,by go_num,congrArg (Value.int .u32) (lpor0 b1 b2 b3 b4),hbw⟩
         case measure=>simp [intOf]
     · cases b1
       · go_wp2_with (refine CU (ty:=290) rfl rfl rfl rfl (H1.out _) ?_)
         go_roundw
         case rel=>exact⟨2,by decide,by go_num,congrArg (Value.int .u32) (lpno1 b0 b2 b3 b4),hbw⟩
         case measure=>simp [intOf]
       · go_wp2_with (refine CU (ty:=290) rfl rfl rfl rfl (H1.out _) ?_)
         go_roundw
         case rel=>exact⟨2,by decide,by go_num,congrArg (Value.int .u32) (lpor1 b0 b2 b3 b4),hbw⟩
         case measure=>simp [intOf]
     · cases b2
       · go_wp2_with (refine CU (ty:=290) rfl rfl rfl rfl (H2.out _) ?_)
         go_roundw
         case rel=>exact⟨3,by decide,by go_num,congrArg (Value.int .u32) (lpno2 b0 b1 b3 b4),hbw⟩
         case measure=>simp [intOf]
       · go_wp2_with (refine CU (ty:=290) rfl rfl rfl rfl (H2.out _) ?_)
         go_roundw
         case rel=>exact⟨3,by decide,by go_num,congrArg (Value.int .u32) (lpor2 b0 b1 b3 b4),hbw⟩
         case measure=>simp [intOf]
     · cases b3
       · go_wp2_with (refine CU (ty:=290) rfl rfl rfl rfl (H3.out _) ?_)
         go_roundw
         case rel=>exact⟨4,by decide,by go_num,congrArg (Value.int .u32) (lpno3 b0 b1 b2 b4),hbw⟩
         case measure=>simp [intOf]
       · go_wp2_with (refine CU (ty:=290) rfl rfl rfl rfl (H3.out _) ?_)
         go_roundw
         case rel=>exact⟨4,by decide,by go_num,congrArg (Value.int .u32) (lpor3 b0 b1 b2 b4),hbw⟩
         case measure=>simp [intOf]
     · cases b4
       · go_wp2_with (refine CU (ty:=290) rfl rfl rfl rfl (H4.out _) ?_)
         go_roundw
         case rel=>exact⟨5,by decide,by go_num,congrArg (Value.int .u32) (lpno4 b0 b1 b2 b3),hbw⟩
         case measure=>simp [intOf]
       · go_wp2_with (refine CU (ty:=290) rfl rfl rfl rfl (H4.out _) ?_)
         go_roundw
         case rel=>exact⟨5,by decide,by go_num,congrArg (Value.int .u32) (lpor4 b0 b1 b2 b3),hbw⟩
         case measure=>simp [intOf]
   · obtain rfl:k=5:=by omega
     clear L
     go_wp2_with fail
     go_ret
     exact Ret.mk hbw
theorem Xz111 {P:Prop} (h:P:=by
  refine wpQuiet_nil ?_
  intro wz hwz
  replace L:=L.below (Aa hwz)
  clear hwz
  go_wp2_with fail
  go_ret
  exact Ret.mk L.bel):P:=h
theorem Jn (hM:M.Ok):Calls Tryz.prog 89 #[.agg (mcL M v).toArray] w (Ret w (.int .u32 (enI M))):=by
 have HL:=lh (fun w=>lines_any (v:=v) (w:=w) hM)
 unfold enI
 generalize E7 M=q at HL ⊢
 have L:=Lay.start w
 go_in
 go_wp2_with (refine YS ?_;clear L;intro wz L)
 (try simp only[Act.put,q4,s0,s1])
 refine wp_region_quiet_below (by kernel_rfl) (by kernel_rfl) ?_
 repeat (first|(go_big_quiet_want;(first|fail|(refine BZ (ty:=43) L (fun _ h=>Aa h) 0 rfl (mcL M v) rfl rfl τ43 rfl Aw rfl ?_)|(refine zlq τ25 L 0 ?_));go_big_quiet_on;(try simp only[Act.put,q4,s0,s1]))|go_big_quiet_step (first|fail|(go_at_call 157;exact A9 (HL.out _))))
 exact Xz111
theorem idle_any (hM:M.Ok):Calls Tryz.prog 67 #[.agg (mcL M v).toArray] w (Ret w (.bool (Jm M))):=by
 have HE:=lh (fun w=>Jn (v:=v) (w:=w) hM)
 unfold Jm
 generalize enI M=q at HE ⊢
 obtain⟨b,hb⟩:∃ b,M.w=b:=⟨_,rfl⟩
 have hb':(mcL M v)[47]?=some (.bool b):=by rw[←hb];rfl
 rw[hb]
 clear hM hb
 cases b
 all_goals
  have L:=Lay.start w
  go_in
  go_wp2_with (first|(refine A7 (ty:=4) (u:=_) L 0 rfl rfl rfl rfl τ4 rfl hb' ?_)|(refine YL ?_)|(refine YS ?_;clear L;intro wz L))
  go_ret
  exact Ret.mk' (by simp) L.bel
end
end Go.Proofs.YtnmpfmapncicmaaGreat
