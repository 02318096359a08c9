/-
  Texts joined: TpSe TpSf TpSg. No law is proved here.
-/
import Derived.Test.YtnmpfmapncicmaaGreatB38
import Derived.Test.YtnmpfmapncicmaaGreatB37
import Derived.Test.YtnmpfmapncicmaaGreatB27
namespace Go.Proofs.YtnmpfmapncicmaaGreat
set_option linter.all false
set_option maxRecDepth 100000
set_option maxHeartbeats 40000000
open Go.RowKit
def isClk (o:Option In):Bool:=match o with
 | none=>false
 | some i=>i.op == 60 && i.imm == 2
def rdK (c xs:List Int):Bool:=BM c && (inB xs (rg c 16) 4 && isClk (C9 (A5 xs (rg c 16))))
theorem runI_k (c:List Int) (i:In):((Ap c i).2.k == 1 && (Ap c i).2.p == 2)=(i.op == 60 && i.imm == 2):=by
 unfold Ap
 dsimp only
 by_cases h:i.op=60
 · obtain⟨op,a,b,cc,imm⟩:=i
   dsimp only at h
   subst h
   rfl
 · have hb:(i.op == 60)=false:=by rw[beq_eq_false_iff_ne];exact h
   rw[hb,Bool.false_and]
   have Z:∀ (p:Prop) [Decidable p] (x y:List Int×Ef),(x.2.k == 1 && x.2.p == 2)=false→(y.2.k == 1 && y.2.p == 2)=false→((if p then x else y).2.k == 1 && (if p then x else y).2.p == 2)=false:=by
    intro p _ x y hx hy
    by_cases hp:p
    · rw[if_pos hp];exact hx
    · rw[if_neg hp];exact hy
   rw[if_neg h]
   repeat (refine Z _ _ _ rfl ?_)
   rfl
theorem rdK_eq (c xs:List Int):((Bn c xs).2.2.k == 1 && (Bn c xs).2.2.p == 2)=rdK c xs:=by
 have e0:(ef0.k == 1 && ef0.p == 2)=false:=rfl
 unfold Bn rdK
 dsimp only
 by_cases hk:BM c=true
 · have hpg:BR c=false:=by
     unfold BM at hk;unfold BR
     have:=eq_of_beq hk
     rw[this];rfl
   rw[hk,Bool.true_and]
   by_cases hin:inB xs (rg c 16) 4=true
   · have hal:¬rg c 16 % 4≠0:=fun h=>h (of_decide_eq_true hin).1
     have hr:Ah c xs (rg c 16) 4 1=(rg c 16,xs,0):=by
      unfold Ah
      rw[if_neg hal,hpg,if_neg (by decide),if_pos hin]
     have hf:AM c xs=(A5 xs (rg c 16),xs,0):=by
      unfold AM
      rw[hr];rfl
     rw[hf,hin,Bool.true_and]
     dsimp only
     rw[if_neg (fun h=>h rfl)]
     cases hd:C9 (A5 xs (rg c 16)) with
     | none=>exact e0
     | some i =>
       dsimp only[isClk]
       rw[if_neg (fun h=>Bool.noConfusion h.2)]
       by_cases h1:32≤i.op∧i.op≤34
       · rw[if_pos h1,show (i.op == 60)=false by rw[beq_eq_false_iff_ne];omega,Bool.false_and];exact e0
       · rw[if_neg h1]
         by_cases h2:35≤i.op∧i.op≤36
         · rw[if_pos h2,show (i.op == 60)=false by rw[beq_eq_false_iff_ne];omega,Bool.false_and];exact e0
         · rw[if_neg h2];exact runI_k c i
   · rw[show inB xs (rg c 16) 4=false by simpa using hin,Bool.false_and]
     have hr:(Ah c xs (rg c 16) 4 1).2.2≠0:=by
      unfold Ah
      by_cases hal:rg c 16 % 4≠0
      · rw[if_pos hal];show (3:Int)≠0;decide
      · rw[if_neg hal,hpg,if_neg (by decide),if_neg hin];show AE 1≠0;decide
     have hf:(AM c xs).2.2≠0:=by
      unfold AM
      rw[if_pos hr];exact hr
     rw[if_pos hf];exact e0
 · have hk':BM c=false:=by simpa using hk
   rw[hk',Bool.false_and]
   split
   · exact e0
   · cases hd:C9 (AM c xs).1 with
     | none=>exact e0
     | some i =>
       dsimp only
       by_cases hp:BP i.op=true
       · rw[if_pos ⟨hp,rfl⟩];exact e0
       · rw[if_neg (fun h=>hp h.1)]
         have hn:i.op≠60:=fun h=>hp (by unfold BP;exact decide_eq_true (by omega))
         by_cases h1:32≤i.op∧i.op≤34
         · rw[if_pos h1];exact e0
         · rw[if_neg h1]
           by_cases h2:35≤i.op∧i.op≤36
           · rw[if_pos h2];exact e0
           · rw[if_neg h2]
             show ((Ap c i).2.k == 1 && (Ap c i).2.p == 2)=false
             rw[runI_k,show (i.op == 60)=false by rw[beq_eq_false_iff_ne];exact hn];rfl
section
variable {M:Mc} {v:Value} {w:World}
theorem rreads_any (hM:M.Ok) (ha:MemRow w v M.m):Calls Tryz.prog 74 #[.agg (mcL M v).toArray] w (Ret w (.bool (rdK (Bb M) M.m))):=by
 have HI:=lh (fun w=>rintr_any (v:=v) (w:=w) hM)
 have hc:=Ch hM
 have HA:=lh ha
 have hm:=hM.m
 have e1:bits .and .u32 (rg (Bb M) 17) 1=rg (Bb M) 17 / 1 % 2*1:=AT (hc.at 17).1 (hc.at 17).2 0 (by decide)
 rw[Int.ediv_one,Int.mul_one] at e1
 unfold rdK
 cases hk:BM (Bb M) with
 | false =>
   have e2:(bits .and .u32 (rg (Bb M) 17) 1 == 0)=true:=by
    have:rg (Bb M) 17 % 2≠1:=fun h=>by unfold BM at hk;rw[h] at hk;cases hk
    rw[e1,show rg (Bb M) 17 % 2=0 by omega];rfl
   clear hk e1 hc hM hm ha
   exact Xz34
 | true =>
   have e2:(bits .and .u32 (rg (Bb M) 17) 1 == 0)=false:=by
    rw[e1,show rg (Bb M) 17 % 2=1 from eq_of_beq hk];rfl
   rw[Bool.true_and]
   have hpc:=hc.at 16
   have fin:∀ (x:Int) (ok:Bool),0≤x→x<4294967296→(∀ w,MemRow w v M.m→Calls Tryz.prog 145 #[v,.int .u32 (rg (Bb M) 16),.int .i64 4] w (Same w (.tuple #[.int .u32 x,.bool ok]))) →
       Calls Tryz.prog 74 #[.agg (mcL M v).toArray] w (Ret w (.bool (ok && isClk (C9 x)))):=by
    intro x ok hx0 hx1 hL
    have HL:=lh hL
    have D:=fun w=>Cd x w hx0 hx1
    cases hd:C9 x with
    | none =>
      rw[hd] at D
      dsimp only[decV] at D
      have HD:=lh D
      clear D hd hL hk e1 hc hM hm ha hpc
      cases ok
      all_goals
       have L:=Lay.start w
       go_in
       go_wp2_with (first|(go_skip;first|(go_step;go_big_op)|skip)|(go_at_call 145;(with_reducible refine zcs (HL.out _ (HA.out.below L.bel)) ?_))|(refine YL ?_)|(refine YS ?_;clear L;intro wz L))
       go_ret
       exact Ret.mk' rfl L.bel
    | some i =>
      rw[hd] at D
      dsimp only[decV] at D
      have HD:=lh D
      clear D hd hL hk e1 hc hM hm ha hpc
      dsimp only[isClk]
      obtain⟨b,hb⟩:∃ b,(i.op == 60)=b:=⟨_,rfl⟩
      rw[hb]
      cases ok <;> cases b
      all_goals
       have L:=Lay.start w
       go_in
       go_wp2_with (first|(go_skip;first|(go_step;go_big_op)|skip)|(go_at_call 145;(with_reducible refine zcs (HL.out _ (HA.out.below L.bel)) ?_))|(refine YL ?_)|(refine YS ?_;clear L;intro wz L))
       go_ret
       exact Ret.mk' (by simp) L.bel
   cases hin:inB M.m (rg (Bb M) 16) 4 with
   | true =>
     have hb:=Bg hm.w (rg (Bb M) 16 / 4).toNat
     exact fin (A5 M.m (rg (Bb M) 16)) true hb.1 hb.2 (fun w h=>BX v M.m _ 4 w h hm hpc.1 hpc.2 (.inr rfl) hin)
   | false =>
     obtain⟨B,off,cap,rfl,_⟩:=ha.open
     have:=fin 0 false (by decide) (by decide) (fun w _=>rload_no _ M.m _ _ 4 w hm hpc.1 hpc.2 (.inr rfl) hin)
     exact this
end
section
variable {M:Mc} {v:Value} {w0 w:World} {l:List Bx} {j B:Nat} {port clk:Int}
theorem con_one (s:ByteArray):∀ u∈DS s,u.oneCell'=true:=by intro u hu;rw[List.mem_singleton.1 hu];rfl
theorem Xz47 {P:Prop} (h:P:=by
  have HC:=lh C
  have HJ:=lh hj
  clear C hj hM
  go_in
  go_wp2_with (first|(refine AQ (ty:=36) L _ HJ.out (dkL M.dk) rfl rfl rfl τ36 rfl Bk rfl ?_)|(refine YS ?_;clear L;intro wz L))
  go_ret
  exact⟨rfl,by rw[AY HJ.out];exact L⟩):P:=h
theorem Xz48 {P:Prop} (h:P:=by
  have HC:=lh C
  have HJ:=lh hj
  clear C hj hM
  go_in
  go_wp2_with (first|(refine AQ (ty:=38) L _ HJ.out (ncL M.nc) rfl rfl rfl τ38 rfl B7 rfl ?_)|(refine YS ?_;clear L;intro wz L))
  go_ret
  exact⟨rfl,by rw[AY HJ.out];exact L⟩):P:=h
theorem Xz50 {P:Prop} (h:P:=by
  have HC:=lh C
  have HJ:=lh hj
  clear C hj hM
  go_in
  go_wp2_with (first|(refine AQ (ty:=32) L _ HJ.out (DS M.keys) rfl rfl rfl τ32 rfl BA rfl ?_)|(refine Ag (ty:=32) L _ HJ.out (DS s) (mcL { M with keys:=s } v) rfl rfl rfl rfl BA (con_one s) rfl rfl ?_;intro wz Lz Nz;clear Nz;replace L:=Lz;clear Lz;(try simp only[s0,s1] at L))|(refine YS ?_;clear L;intro wz L))
  go_ret
  exact⟨rfl,L⟩):P:=h
theorem Xz76 {P:Prop} (h:P:=by
  have HC:=lh C
  have HJ:=lh hj
  clear C hj hM
  go_in
  go_wp2_with (first|(refine AQ (ty:=40) L _ HJ.out (blL M.T M.G) rfl rfl rfl τ40 rfl Cj rfl ?_)|(refine YS ?_;clear L;intro wz L))
  go_ret
  exact⟨rfl,by rw[AY HJ.out];exact L⟩):P:=h
theorem rin7_any (hM:M.Ok) (L:Lay w0 w l) (hj:l[j]?=some ⟨B,mcL M v,43⟩) (h0:0≤port) (h1:port≤11):Calls Tryz.prog 148 #[.pointer (some ⟨B,0,none⟩),.int .i64 port,.int .u32 clk] w (Bc w0 (l.set j ⟨B,mcL { M with keys:=(inP M port clk).1 } v,43⟩) (.int .u32 (inP M port clk).2)):=by
 obtain rfl|rfl|rfl|rfl|rfl|rfl|rfl|rfl|rfl|rfl|rfl|rfl:port=0∨port=1∨port=2∨port=3∨port=4∨port=5∨port=6∨port=7∨port=8∨port=9∨port=10∨port=11:=by omega
 all_goals clear h0 h1
 · have C:∀ w,Calls Tryz.prog 197 #[.agg (DS M.keys).toArray,.int .i64 0] w (Ret w (.tuple #[.agg (DS (Cw M.keys 0).1).toArray,.int .u32 (Cw M.keys 0).2])):=fun w=>CR M.keys 0 w (by have:=hM.keys;omega)
   show Calls Tryz.prog 148 #[.pointer (some ⟨B,0,none⟩),.int .i64 0,.int .u32 clk] w (Bc w0 (l.set j ⟨B,mcL { M with keys:=(Cw M.keys 0).1 } v,43⟩) (.int .u32 (Cw M.keys 0).2))
   generalize (Cw M.keys 0).2=x at C ⊢
   generalize (Cw M.keys 0).1=s at C ⊢
   exact Xz50
 · have C:∀ w,Calls Tryz.prog 197 #[.agg (DS M.keys).toArray,.int .i64 1] w (Ret w (.tuple #[.agg (DS (Cw M.keys 1).1).toArray,.int .u32 (Cw M.keys 1).2])):=fun w=>CR M.keys 1 w (by have:=hM.keys;omega)
   show Calls Tryz.prog 148 #[.pointer (some ⟨B,0,none⟩),.int .i64 1,.int .u32 clk] w (Bc w0 (l.set j ⟨B,mcL { M with keys:=(Cw M.keys 1).1 } v,43⟩) (.int .u32 (Cw M.keys 1).2))
   generalize (Cw M.keys 1).2=x at C ⊢
   generalize (Cw M.keys 1).1=s at C ⊢
   exact Xz50
 · show Calls Tryz.prog 148 #[.pointer (some ⟨B,0,none⟩),.int .i64 2,.int .u32 clk] w (Bc w0 (l.set j ⟨B,mcL M v,43⟩) (.int .u32 clk))
   have HJ:=lh hj
   clear hj hM
   go_in
   go_wp2_with fail
   go_ret
   exact⟨rfl,by rw[AY HJ.out];exact L⟩
 · have C:=fun w=>rtmin_any M.tm w
   show Calls Tryz.prog 148 #[.pointer (some ⟨B,0,none⟩),.int .i64 3,.int .u32 clk] w (Bc w0 (l.set j ⟨B,mcL M v,43⟩) (.int .u32 ((if M.tm.f=true then 1 else 0:Int))))
   generalize (if M.tm.f=true then 1 else 0:Int)=x at C ⊢
   have HC:=lh C
   have HJ:=lh hj
   clear C hj hM
   go_in
   go_wp2_with (first|(refine AQ (ty:=34) L _ HJ.out (tmL M.tm) rfl rfl rfl τ34 rfl BS rfl ?_)|(refine YS ?_;clear L;intro wz L))
   go_ret
   exact⟨rfl,by rw[AY HJ.out];exact L⟩
 · have C:=fun w=>Hw M.dk 4 w hM.dk.s
   show Calls Tryz.prog 148 #[.pointer (some ⟨B,0,none⟩),.int .i64 4,.int .u32 clk] w (Bc w0 (l.set j ⟨B,mcL M v,43⟩) (.int .u32 (F8 M.dk 4)))
   generalize F8 M.dk 4=x at C ⊢
   exact Xz47
 · have C:=fun w=>Hw M.dk 5 w hM.dk.s
   show Calls Tryz.prog 148 #[.pointer (some ⟨B,0,none⟩),.int .i64 5,.int .u32 clk] w (Bc w0 (l.set j ⟨B,mcL M v,43⟩) (.int .u32 (F8 M.dk 5)))
   generalize F8 M.dk 5=x at C ⊢
   exact Xz47
 · have C:=fun w=>Hw M.dk 6 w hM.dk.s
   show Calls Tryz.prog 148 #[.pointer (some ⟨B,0,none⟩),.int .i64 6,.int .u32 clk] w (Bc w0 (l.set j ⟨B,mcL M v,43⟩) (.int .u32 (F8 M.dk 6)))
   generalize F8 M.dk 6=x at C ⊢
   exact Xz47
 · have C:=fun w=>Hu M.nc 7 w
   show Calls Tryz.prog 148 #[.pointer (some ⟨B,0,none⟩),.int .i64 7,.int .u32 clk] w (Bc w0 (l.set j ⟨B,mcL M v,43⟩) (.int .u32 (F7 M.nc 7)))
   generalize F7 M.nc 7=x at C ⊢
   exact Xz48
 · have C:=fun w=>Hu M.nc 8 w
   show Calls Tryz.prog 148 #[.pointer (some ⟨B,0,none⟩),.int .i64 8,.int .u32 clk] w (Bc w0 (l.set j ⟨B,mcL M v,43⟩) (.int .u32 (F7 M.nc 8)))
   generalize F7 M.nc 8=x at C ⊢
   exact Xz48
 · have C:=fun w=>Hu M.nc 9 w
   show Calls Tryz.prog 148 #[.pointer (some ⟨B,0,none⟩),.int .i64 9,.int .u32 clk] w (Bc w0 (l.set j ⟨B,mcL M v,43⟩) (.int .u32 (F7 M.nc 9)))
   generalize F7 M.nc 9=x at C ⊢
   exact Xz48
 · have C:=(show ∀ w,Calls Tryz.prog 201 #[.agg (blL M.T M.G).toArray,.int .i64 10] w (Ret w (.int .u32 (inI M.T M.G 10))) from fun w=>rin_any M.T M.G 10 w hM.G)
   show Calls Tryz.prog 148 #[.pointer (some ⟨B,0,none⟩),.int .i64 10,.int .u32 clk] w (Bc w0 (l.set j ⟨B,mcL M v,43⟩) (.int .u32 (inI M.T M.G 10)))
   generalize inI M.T M.G 10=x at C ⊢
   exact Xz76
 · have C:=(show ∀ w,Calls Tryz.prog 201 #[.agg (blL M.T M.G).toArray,.int .i64 11] w (Ret w (.int .u32 (inI M.T M.G 11))) from fun w=>rin_any M.T M.G 11 w hM.G)
   show Calls Tryz.prog 148 #[.pointer (some ⟨B,0,none⟩),.int .i64 11,.int .u32 clk] w (Bc w0 (l.set j ⟨B,mcL M v,43⟩) (.int .u32 (inI M.T M.G 11)))
   generalize inI M.T M.G 11=x at C ⊢
   exact Xz76
end
def RetO (w0:World) (l:List Bx) (os:List Ou) (e:Ending) (w':World):Prop:=∃ vo,e=.returned vo∧OutRow w0.heap.size w' vo os∧Lay w0 w' l
section
variable {w0 w:World} {l:List Bx} {ops:Array Oper} {op:Oper} {a:Act} {Q:Exit→Act→World→Prop} {x:Operand} {K:Act→World→Prop}
theorem lay_wbyte (L:Lay w0 w l) (b:Int) (ho:op.op=.buildSlice 194 1 #[(0,x)]) (hx:a.eval x=.int .u8 b)
    (h:∀ w',Lay w0 w' (⟨w.heap.size,[.int .u8 b],5⟩ :: l)→NewBox w [.int .u8 b] 5 w'→K (a.put op.dst (.slice (some ⟨w.heap.size,0,none⟩) 1 1)) w'):op.wp Tryz.prog a w K Q:=by
 obtain⟨i0,hi,iz0,iz1,iz2⟩:=info_parts Hc
 refine wp_buildSlice 194 5 1 #[(0,x)] ho #[.int .u8 b] i0 (.int .u8 0) τ194 hi iz0 (by rw[iz1];decide) (by rw[iz1];decide) ?_ ?_
 · exact Xz100
 · exact h _ (L.new (NewBox.made w _ _)) (NewBox.made w _ _)
theorem lay_wstr1 {k g:Nat} {b:Int} (L:Lay w0 w l) (hk:l[k]?=some ⟨g,[.int .u8 b],5⟩) (ho:op.op=.convert 194 9 x) (hx:a.eval x=.slice (some ⟨g,0,none⟩) 1 1)
    (h:K (a.put op.dst (.string (Bl b))) w):op.wp Tryz.prog a w K Q:=by
 have hr:=CO b w g (by rw[(L.at hk).cell];rfl)
 unfold Oper.wp execOp
 simp only[ho,hx,Sem.run_bind,hr,Result.andThen_ok,Sem.run_pure]
 exact h
end
def KeptC (sub:List Bx) (cs:List (Nat×Nat×Value)) (w:World):Prop:=Kept sub w∧∀ c∈cs,w.cell? ⟨c.1,c.2.1,none⟩=some c.2.2
section
variable {P:Program} {w0 w:World} {l:List Bx} {ops:Array Oper} {op:Oper} {a:Act} {Q:Exit→Act→World→Prop} {K:Act→World→Prop} {B o:Nat} {T ty:TypeId} {x y:Operand} {vs:List Value} {d:TypeDesc} {sub:List Bx} {cs:List (Nat×Nat×Value)}
theorem AG {k:Nat} {u:Value} (i:Nat) (hi:cs[i]?=some (B,k,u)) (hw:Region.wanted op (yielded ops a.tmps)=true) (ho:op.op=.load ty x) (hx:a.eval x=.pointer (some ⟨B,k,none⟩))
    (hu:P.underlying ty=some d) (hd:d.isRow=false):YieldsIf P ops (KeptC sub cs) op u a :=
 .inl ⟨hw,fun w' hS=>by
  have hl:(loadVar ty ⟨B,k,none⟩).run P w'=.ok u w':=by
   have hc:w'.cell? ⟨B,k,none⟩=some u:=hS.2 _ (List.mem_of_getElem? hi)
   exact Xz56
  unfold execOp
  simp only[ho,hx,Instr.loadAt,Instr.sureAddr,Sem.run_bind,Sem.run_pure,Result.andThen_ok,hl]⟩
theorem yieldK_part {xs:List Value} (j:Nat) (hj:sub[j]?=some ⟨B,xs,T⟩) (vs:List Value) (hw:Region.wanted op (yielded ops a.tmps)=true) (ho:op.op=.load ty x) (hx:a.eval x=.pointer (some ⟨B,o,none⟩))
    (hu:P.underlying ty=some d) (hd:d.isRow=true) (hi:(P.info? ty).map (·.size)=some vs.length) (hv:(xs.drop o).take vs.length=vs):YieldsIf P ops (KeptC sub cs) op (.agg vs.toArray) a :=
 yieldsIf_load_mid hw ty x ho B o hx vs d (fun w hS=>(hS.1.at hj).range o vs (De hv)) hu hd hi
theorem C7 {xs:List Value} (L:Lay w0 w l) (k:Nat) (hk:l[k]?=some ⟨B,xs,T⟩) (vs:List Value) (ho:op.op=.load ty x) (hx:a.eval x=.pointer (some ⟨B,o,none⟩))
    (hu:P.underlying ty=some d) (hd:d.isRow=true) (hi:(P.info? ty).map (·.size)=some vs.length) (hv:(xs.drop o).take vs.length=vs)
    (h:K (a.put op.dst (.agg vs.toArray)) w):op.wp P a w K Q:=wp_load_mid ty x ho B o hx vs d ((L.at hk).range o vs (De hv)) hu hd hi h
theorem KeptC.none {cs:List (Nat×Nat×Value)} (h:∀ c∈cs,w.cell? ⟨c.1,c.2.1,none⟩=some c.2.2):KeptC [] cs w:=⟨fun x hx=>(by cases hx),h⟩
end
theorem C1 {w0 w:World} {l:List Bx} {j B:Nat} {M:Mc} {v:Value} (L:Lay w0 w l) (hj:l[j]?=some ⟨B,mcL M v,43⟩):KeptC [] [(B,25,v),(B,46,.int .u64 M.n)] w :=
 KeptC.none (fun c hc=>by
  simp only[List.mem_cons,List.not_mem_nil,or_false] at hc
  rcases hc with rfl|rfl <;> (rw[(L.at hj).cell];rfl))
theorem Al {w0 w:World} {l:List Bx} {j:Nat} {x:Bx} (L:Lay w0 w l) (h:l[j]?=some x):Kept [x] w:=L.kept [j] (by simp only[List.filterMap_cons,List.filterMap_nil,h])
section
variable {M:Mc} {w0 w:World} {l:List Bx} {j k g B n:Nat} {port u:Int}
theorem C4 {cs:List Value} {xs:List Int} (hj:l[j]?=some ⟨B,cs,43⟩) (hk:l[k]?=some ⟨g,words xs,25⟩):j≠k:=by
 rintro rfl
 rw[hj] at hk
 injection hk with h
 injection h with _ _ h
 exact absurd h (by decide)
theorem ro_byte (L:Lay w0 w l) (hj:l[j]?=some ⟨B,mcL M (.slice (some ⟨g,0,none⟩) n n),43⟩) (hk:l[k]?=some ⟨g,words M.m,25⟩) (hu0:0≤u) (hu1:u<4294967296):Calls Tryz.prog 150 #[.pointer (some ⟨B,0,none⟩),.int .i64 0,.int .u32 u] w (RetO w0 ((l.set j ⟨B,mcL (Be M 0 u).1 (.slice (some ⟨g,0,none⟩) n n),43⟩).set k ⟨g,words (Be M 0 u).1.m,25⟩) (Be M 0 u).2):=by
 rw[show Be M 0 u=(M,[⟨1,M.n,0,Bl (u % 256)⟩]) from rfl]
 have hs:=AY hj
 have hs2:=AY hk
 have KP:=fun (w:World) (L:Lay w0 w l)=>Al L hj
 have HKP:=lh KP
 have HJ:=lh hj
 have HS:=lh hs
 have HS2:=lh hs2
 clear KP hs hs2 hj hk
 go_in
 go_wp2_with fail
 (try simp only[Act.put,q4,s0,s1])
 have hHeld:=(HKP.out) _ L.drew
 refine wp_region_held_drew (by kernel_rfl) hHeld (fun hHeld=>?_)
 replace L:=L.drew
 refine ztk (i:=0) ?_
 refine ztk (i:=1) ?_
 refine ztk (i:=2) ?_
 refine wpAnyH_take (i:=3) (v:=.int .u64 M.n) rfl (by kernel_rfl) (by kernel_rfl) (by kernel_rfl) (fun _ _ _ h=>h) (G5 (ty:=41) 0 rfl (by rfl) rfl rfl τ41 rfl rfl) (by assumption) ?_
 (try simp only[q1,q2,q3,Act.put,q4,s0,s1])
 refine ztk (i:=4) ?_
 refine ztk (i:=5) ?_
 refine zor 6 ?_;intro K hK
 refine Ae (by rfl) (lay_wbyte L (u % 256) rfl rfl ?_)
 intro wz Lz Nz
 clear Nz
 replace L:=Lz
 clear Lz
 refine hK.out _ _ (HKP.out _ L.drop1) ?_;clear hHeld hK K;intro hHeld
 (try simp only[q1,q2,q3,Act.put,q4,s0,s1])
 refine zor 7 ?_;intro K hK
 refine Ae (by rfl) (lay_wstr1 L (k:=0) rfl rfl rfl ?_)
 refine hK.out _ _ (HKP.out _ L.drop1) ?_;clear hHeld hK K;intro hHeld
 (try simp only[q1,q2,q3,Act.put,q4,s0,s1])
 refine ztk (i:=8) ?_
 refine zor 9 ?_;intro K hK
 refine Ae (by rfl) (DP L ⟨1,M.n,0,Bl (u % 256)⟩ rfl rfl ?_)
 intro wz Lz Nz
 clear Nz
 replace L:=Lz
 clear Lz
 refine hK.out _ _ (HKP.out _ L.drop2) ?_;clear hHeld hK K;intro hHeld
 (try simp only[q1,q2,q3,Act.put,q4,s0,s1])
 refine ztk (i:=10) ?_
 refine wpAnyH_done (by kernel_rfl) ?_ _
 clear hHeld
 go_wp2_with fail
 go_ret
 exact⟨_,rfl,L.out1 (k:=0) rfl,by rw[HS.out,HS2.out];exact L.drop2⟩
theorem bx_ne' {l:List Bx} {j k:Nat} {x y:Bx} (hk:l[k]?=some x) (h:j≠k):(l.set j y)[k]?=some x:=by rw[bx_ne h];exact hk
theorem ro_none (L:Lay w0 w l) (hj:l[j]?=some ⟨B,mcL M (.slice (some ⟨g,0,none⟩) n n),43⟩) (hk:l[k]?=some ⟨g,words M.m,25⟩) (hp:port=1∨port=2):Calls Tryz.prog 150 #[.pointer (some ⟨B,0,none⟩),.int .i64 port,.int .u32 u] w (RetO w0 ((l.set j ⟨B,mcL (Be M port u).1 (.slice (some ⟨g,0,none⟩) n n),43⟩).set k ⟨g,words (Be M port u).1.m,25⟩) (Be M port u).2):=by
 have hs:=AY hj
 have hs2:=AY hk
 rcases hp with rfl|rfl
 all_goals
  rw[show Be M _ u=(M,[]) from rfl]
  go_in
  go_wp2_with fail
  go_ret
  exact⟨_,rfl,OutRow.nil _ _,by rw[hs,hs2];exact L⟩
theorem ro_timer (L:Lay w0 w l) (hj:l[j]?=some ⟨B,mcL M (.slice (some ⟨g,0,none⟩) n n),43⟩) (hk:l[k]?=some ⟨g,words M.m,25⟩):Calls Tryz.prog 150 #[.pointer (some ⟨B,0,none⟩),.int .i64 3,.int .u32 u] w (RetO w0 ((l.set j ⟨B,mcL (Be M 3 u).1 (.slice (some ⟨g,0,none⟩) n n),43⟩).set k ⟨g,words (Be M 3 u).1.m,25⟩) (Be M 3 u).2):=by
 rw[show Be M 3 u=({ M with tm:=FG u },[]) from rfl]
 have HA:=lh (fun w=>rarm_any u w)
 generalize FG u=t at *
 have hs2:=AY (bx_ne' (y:=⟨B,mcL { M with tm:=t } (.slice (some ⟨g,0,none⟩) n n),43⟩) hk (C4 hj hk))
 have HS2:=lh hs2
 have HKP:=lh (fun (w:World) (L:Lay w0 w l)=>Al L hj)
 have HJ:=lh hj
 have HI:=lh hk
 have HNE:=lh (C4 hj hk)
 clear hj hk hs2
 go_in
 go_wp2_with (first|(refine Ag (ty:=34) L _ HJ.out (tmL t) (mcL { M with tm:=t } (.slice (some ⟨g,0,none⟩) n n)) rfl rfl rfl rfl BS (tmL_one t) rfl rfl ?_;intro wz Lz Nz;clear Nz;replace L:=Lz;clear Lz;(try simp only[s0,s1] at L))|(refine YS ?_;clear L;intro wz L))
 go_ret
 exact⟨_,rfl,OutRow.nil _ _,by rw[HS2.out];exact L⟩
theorem Xz103 {P:Prop} (h:P:=by
  (try simp only[q1,q2,q3,Act.put,q4,s0,s1])
  refine YT ?_
  refine YD ?_
  clear hHeld
  go_wp2_with fail
  go_ret
  exact⟨_,rfl,ho2,by rw[HS2.out];exact L⟩):P:=h
theorem Xz106 {P:Prop} (h:P:=by
  unfold Be
  first
   | rw[if_neg (by omega),if_neg (by omega),if_pos (by omega)]
   | (repeat rw[if_neg (by omega)]);rw[if_pos (by omega)]):P:=h
theorem ro_disk (hM:M.Ok) (L:Lay w0 w l) (hj:l[j]?=some ⟨B,mcL M (.slice (some ⟨g,0,none⟩) n n),43⟩) (hk:l[k]?=some ⟨g,words M.m,25⟩) (hn:M.m.length=n) (h0:4≤port) (h1:port≤6):Calls Tryz.prog 150 #[.pointer (some ⟨B,0,none⟩),.int .i64 port,.int .u32 u] w (RetO w0 ((l.set j ⟨B,mcL (Be M port u).1 (.slice (some ⟨g,0,none⟩) n n),43⟩).set k ⟨g,words (Be M port u).1.m,25⟩) (Be M port u).2):=by
 have hn0:=hM.m.p
 have hn1:=hM.m.q
 have D:=fun (w:World) (L:Lay w0 w l)=>rdkout_any (d:=M.dk) (va:=(.slice (some ⟨g,0,none⟩) n n)) (port:=port) (v:=u) (p:=M.n) (w:=w) (L.memRow hk hn (by omega) (by omega)) hM.m hM.dk.f hM.dk.s
 have e:Be M port u=({ M with dk:=(CI M.dk M.m port u M.n).1 },(CI M.dk M.m port u M.n).2):=by
  exact Xz106
 rw[e]
 generalize CI M.dk M.m port u M.n=r at D ⊢
 obtain⟨d',os⟩:=r
 dsimp only at D ⊢
 have hs2:=AY (bx_ne' (y:=⟨B,mcL { M with dk:=d' } (.slice (some ⟨g,0,none⟩) n n),43⟩) hk (C4 hj hk))
 have HS2:=lh hs2
 have HKP:=lh (fun (w:World) (L:Lay w0 w l)=>Al L hj)
 have HJ:=lh hj
 have HI:=lh hk
 have HNE:=lh (C4 hj hk)
 have HD:=lh D
 clear hj hk hs2 D e
 have hcase:port=4∨port=5∨port=6:=by omega
 clear h0 h1 hM
 rcases hcase with rfl|rfl|rfl
 all_goals
  go_in
  go_wp2_with fail
  (try simp only[Act.put,q4,s0,s1])
  have hHeld:=(fun w L=>C1 (w:=w) L HJ.out) _ L.drew
  refine wp_region_held_drew (by kernel_rfl) hHeld (fun hHeld=>?_)
  replace L:=L.drew
  refine YT ?_
  refine wpAnyH_take (i:=8) (v:=(.slice (some ⟨g,0,none⟩) n n)) rfl (by kernel_rfl) (by kernel_rfl) (by kernel_rfl) (fun _ _ _ h=>h) (AG (ty:=30) 0 rfl (by rfl) rfl rfl τ30 rfl) (by assumption) ?_
  (try simp only[q1,q2,q3,Act.put,q4,s0,s1])
  refine YT ?_
  refine wpAnyH_take (i:=14) (v:=.int .u64 M.n) rfl (by kernel_rfl) (by kernel_rfl) (by kernel_rfl) (fun _ _ _ h=>h) (AG (ty:=41) 1 rfl (by rfl) rfl rfl τ41 rfl) (by assumption) ?_
  (try simp only[q1,q2,q3,Act.put,q4,s0,s1])
  refine zor 4 ?_;intro K hK
  refine Ae (by rfl) (C7 (ty:=36) L _ HJ.out (dkL M.dk) rfl rfl τ36 rfl Bk rfl ?_)
  refine hK.out _ _ (C1 L HJ.out) ?_;clear hHeld hK K;intro hHeld
  (try simp only[q1,q2,q3,Act.put,q4,s0,s1])
  refine zor 15 ?_;intro K hK
  go_simp
  with_reducible refine (HD.out _ L).mono ?_
  rintro ee wz ⟨vo,rfl,ho,hbz⟩
  have ho:=Ay ho L.bel.size
  replace L:=L.below hbz
  clear hbz
  go_simp
  refine hK.out _ _ (C1 L HJ.out) ?_;clear hHeld hK K;intro hHeld
  (try simp only[q1,q2,q3,Act.put,q4,s0,s1])
  refine YT ?_
  refine zor 21 ?_;intro K hK
  refine Ae (by rfl) (Am (ty:=36) L _ HJ.out (dkL d') (mcL { M with dk:=d' } (.slice (some ⟨g,0,none⟩) n n)) rfl rfl rfl Bk (Gu _) rfl rfl ?_)
  intro wy Ly Ny
  have ho2:=Ai ho (L.at HJ.out) (by decide) Ny
  have HJ2:=BK HJ.out ⟨B,mcL { M with dk:=d' } (.slice (some ⟨g,0,none⟩) n n),43⟩
  clear Ny ho L
  replace L:=Ly
  clear Ly
  refine hK.out _ _ (C1 (M:={ M with dk:=d' }) L HJ2) ?_;clear hHeld hK K;intro hHeld
  exact Xz103
theorem ro_nic (hM:M.Ok) (L:Lay w0 w l) (hj:l[j]?=some ⟨B,mcL M (.slice (some ⟨g,0,none⟩) n n),43⟩) (hk:l[k]?=some ⟨g,words M.m,25⟩) (hn:M.m.length=n) (h0:7≤port) (h1:port≤9):Calls Tryz.prog 150 #[.pointer (some ⟨B,0,none⟩),.int .i64 port,.int .u32 u] w (RetO w0 ((l.set j ⟨B,mcL (Be M port u).1 (.slice (some ⟨g,0,none⟩) n n),43⟩).set k ⟨g,words (Be M port u).1.m,25⟩) (Be M port u).2):=by
 have hn0:=hM.m.p
 have hn1:=hM.m.q
 have D:=fun (w:World) (L:Lay w0 w l)=>rncout_any (c:=M.nc) (va:=(.slice (some ⟨g,0,none⟩) n n)) (port:=port) (v:=u) (p:=M.n) (w:=w) (L.memRow hk hn (by omega) (by omega)) hM.m hM.nc.f
 have e:Be M port u=({ M with nc:=(Cf M.nc M.m port u M.n).1 },(Cf M.nc M.m port u M.n).2):=by
  exact Xz106
 rw[e]
 generalize Cf M.nc M.m port u M.n=r at D ⊢
 obtain⟨d',os⟩:=r
 dsimp only at D ⊢
 have hs2:=AY (bx_ne' (y:=⟨B,mcL { M with nc:=d' } (.slice (some ⟨g,0,none⟩) n n),43⟩) hk (C4 hj hk))
 have HS2:=lh hs2
 have HKP:=lh (fun (w:World) (L:Lay w0 w l)=>Al L hj)
 have HJ:=lh hj
 have HI:=lh hk
 have HNE:=lh (C4 hj hk)
 have HD:=lh D
 clear hj hk hs2 D e
 have hcase:port=7∨port=8∨port=9:=by omega
 clear h0 h1 hM
 rcases hcase with rfl|rfl|rfl
 all_goals
  go_in
  go_wp2_with fail
  (try simp only[Act.put,q4,s0,s1])
  have hHeld:=(fun w L=>C1 (w:=w) L HJ.out) _ L.drew
  refine wp_region_held_drew (by kernel_rfl) hHeld (fun hHeld=>?_)
  replace L:=L.drew
  refine YT ?_
  refine wpAnyH_take (i:=8) (v:=(.slice (some ⟨g,0,none⟩) n n)) rfl (by kernel_rfl) (by kernel_rfl) (by kernel_rfl) (fun _ _ _ h=>h) (AG (ty:=30) 0 rfl (by rfl) rfl rfl τ30 rfl) (by assumption) ?_
  (try simp only[q1,q2,q3,Act.put,q4,s0,s1])
  refine YT ?_
  refine wpAnyH_take (i:=14) (v:=.int .u64 M.n) rfl (by kernel_rfl) (by kernel_rfl) (by kernel_rfl) (fun _ _ _ h=>h) (AG (ty:=41) 1 rfl (by rfl) rfl rfl τ41 rfl) (by assumption) ?_
  (try simp only[q1,q2,q3,Act.put,q4,s0,s1])
  refine zor 4 ?_;intro K hK
  refine Ae (by rfl) (C7 (ty:=38) L _ HJ.out (ncL M.nc) rfl rfl τ38 rfl B7 rfl ?_)
  refine hK.out _ _ (C1 L HJ.out) ?_;clear hHeld hK K;intro hHeld
  (try simp only[q1,q2,q3,Act.put,q4,s0,s1])
  refine zor 15 ?_;intro K hK
  go_simp
  with_reducible refine (HD.out _ L).mono ?_
  rintro ee wz ⟨vo,rfl,ho,hbz⟩
  have ho:=Ay ho L.bel.size
  replace L:=L.below hbz
  clear hbz
  go_simp
  refine hK.out _ _ (C1 L HJ.out) ?_;clear hHeld hK K;intro hHeld
  (try simp only[q1,q2,q3,Act.put,q4,s0,s1])
  refine YT ?_
  refine zor 21 ?_;intro K hK
  refine Ae (by rfl) (Am (ty:=38) L _ HJ.out (ncL d') (mcL { M with nc:=d' } (.slice (some ⟨g,0,none⟩) n n)) rfl rfl rfl B7 (JC _) rfl rfl ?_)
  intro wy Ly Ny
  have ho2:=Ai ho (L.at HJ.out) (by decide) Ny
  have HJ2:=BK HJ.out ⟨B,mcL { M with nc:=d' } (.slice (some ⟨g,0,none⟩) n n),43⟩
  clear Ny ho L
  replace L:=Ly
  clear Ly
  refine hK.out _ _ (C1 (M:={ M with nc:=d' }) L HJ2) ?_;clear hHeld hK K;intro hHeld
  exact Xz103
theorem ro_balloon (hM:M.Ok) (L:Lay w0 w l) (hj:l[j]?=some ⟨B,mcL M (.slice (some ⟨g,0,none⟩) n n),43⟩) (hk:l[k]?=some ⟨g,words M.m,25⟩) (hn:M.m.length=n) (hu0:0≤u) (hu1:u<4294967296) (hp:port=10∨port=11):Calls Tryz.prog 150 #[.pointer (some ⟨B,0,none⟩),.int .i64 port,.int .u32 u] w (RetO w0 ((l.set j ⟨B,mcL (Be M port u).1 (.slice (some ⟨g,0,none⟩) n n),43⟩).set k ⟨g,words (Be M port u).1.m,25⟩) (Be M port u).2):=by
 obtain⟨q,rfl⟩:∃ q:Nat,u=q:=⟨u.toNat,by omega⟩
 have e:Be M port q=({ M with m:=Fc M.G M.m port q,G:=Hy M.G M.m.length port q },[]):=by
  unfold Be
  (repeat rw[if_neg (by omega)]);rw[if_pos hp,Int.toNat_natCast]
 have C:=fun (w:World) (L:Lay w0 w l)=>gv_any (T:=M.T) (v:=q) (port:=port) (w:=w) L hk hn hM.m hM.G (by omega)
 rw[e]
 generalize Hy M.G M.m.length port q=G' at *
 generalize Fc M.G M.m port q=m' at *
 have HJ2:=lh (bx_ne' (y:=⟨g,words m',25⟩) hj (Ne.symm (C4 hj hk)))
 have HC2:=lh (List.set_comm (l:=l) (⟨B,mcL { M with m:=m',G:=G' } (.slice (some ⟨g,0,none⟩) n n),43⟩) (⟨g,words m',25⟩) (C4 hj hk))
 have HKP:=lh (fun (w:World) (L:Lay w0 w l)=>Al L hj)
 have HJ:=lh hj
 have HI:=lh hk
 have HNE:=lh (C4 hj hk)
 clear hj hk e hM hu0 hu1
 rcases hp with rfl|rfl
 all_goals
  have HC:=lh C
  clear C
  go_in
  go_wp2_with fail
  (try simp only[Act.put,q4,s0,s1])
  have hHeld:=(fun w L=>C1 (w:=w) L HJ.out) _ L.drew
  refine wp_region_held_drew (by kernel_rfl) hHeld (fun hHeld=>?_)
  replace L:=L.drew
  refine YT ?_
  refine wpAnyH_take (i:=8) (v:=(.slice (some ⟨g,0,none⟩) n n)) rfl (by kernel_rfl) (by kernel_rfl) (by kernel_rfl) (fun _ _ _ h=>h) (AG (ty:=30) 0 rfl (by rfl) rfl rfl τ30 rfl) (by assumption) ?_
  (try simp only[q1,q2,q3,Act.put,q4,s0,s1])
  refine YT ?_
  refine zor 4 ?_;intro K hK
  refine Ae (by rfl) (C7 (ty:=40) L _ HJ.out (blL M.T M.G) rfl rfl τ40 rfl Cj rfl ?_)
  refine hK.out _ _ (C1 L HJ.out) ?_;clear hHeld hK K;intro hHeld
  (try simp only[q1,q2,q3,Act.put,q4,s0,s1])
  refine zor 11 ?_;intro K hK
  go_simp
  with_reducible refine (HC.out _ L).mono ?_
  rintro ee wz ⟨rfl,Lz⟩
  replace L:=Lz
  clear Lz
  go_simp
  refine hK.out _ _ (C1 (M:=M) L HJ2.out) ?_;clear hHeld hK K;intro hHeld
  (try simp only[q1,q2,q3,Act.put,q4,s0,s1])
  refine YT ?_
  refine zor 14 ?_;intro K hK
  refine Ae (by rfl) (Am (ty:=40) L _ HJ2.out (blL M.T G') (mcL { M with m:=m',G:=G' } (.slice (some ⟨g,0,none⟩) n n)) rfl rfl rfl Cj (bl_one _ _) rfl rfl ?_)
  intro wy Ly Ny
  have HJ3:=BK HJ2.out ⟨B,mcL { M with m:=m',G:=G' } (.slice (some ⟨g,0,none⟩) n n),43⟩
  clear Ny L
  replace L:=Ly
  clear Ly
  refine hK.out _ _ (C1 (M:={ M with m:=m',G:=G' }) L HJ3) ?_;clear hHeld hK K;intro hHeld
  (try simp only[q1,q2,q3,Act.put,q4,s0,s1])
  refine YD ?_
  clear hHeld
  go_wp2_with fail
  go_ret
  exact⟨_,rfl,OutRow.nil _ _,by rw[HC2.out];exact L⟩
theorem rout7_any (hM:M.Ok) (L:Lay w0 w l) (hj:l[j]?=some ⟨B,mcL M (.slice (some ⟨g,0,none⟩) n n),43⟩) (hk:l[k]?=some ⟨g,words M.m,25⟩) (hn:M.m.length=n) (hu0:0≤u) (hu1:u<4294967296) (h0:0≤port) (h1:port≤11):Calls Tryz.prog 150 #[.pointer (some ⟨B,0,none⟩),.int .i64 port,.int .u32 u] w (RetO w0 ((l.set j ⟨B,mcL (Be M port u).1 (.slice (some ⟨g,0,none⟩) n n),43⟩).set k ⟨g,words (Be M port u).1.m,25⟩) (Be M port u).2):=by
 by_cases p0:port=0
 · subst p0;exact ro_byte L hj hk hu0 hu1
 by_cases p1:port=1∨port=2
 · exact ro_none L hj hk p1
 by_cases p3:port=3
 · subst p3;exact ro_timer L hj hk
 by_cases p4:4≤port∧port≤6
 · exact ro_disk hM L hj hk hn p4.1 p4.2
 by_cases p7:7≤port∧port≤9
 · exact ro_nic hM L hj hk hn p7.1 p7.2
 · exact ro_balloon hM L hj hk hn hu0 hu1 (by omega)
end
end Go.Proofs.YtnmpfmapncicmaaGreat
