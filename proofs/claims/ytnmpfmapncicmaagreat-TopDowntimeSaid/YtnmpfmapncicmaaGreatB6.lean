/-
  Texts joined: TpFet TpLoad TpOk TpStore TpRow TpShort TpGolf. No law is proved here.
-/
import Derived.Test.YtnmpfmapncicmaaGreatB4
import Derived.Test.YtnmpfmapncicmaaGreatB5
namespace Go.Proofs.YtnmpfmapncicmaaGreat
set_option linter.all false
set_option maxRecDepth 100000
set_option maxHeartbeats 40000000
open Go.RowKit
theorem Words.set {xs:List Int} (h:Words xs) (i:Nat) {v:Int} (h0:0≤v) (h1:v<4294967296):Words (xs.set i v):=by
 intro j x hx
 by_cases hij:i=j
 · subst hij
   by_cases hl:i<xs.length
   · rw[List.getElem?_set_self hl] at hx;cases hx;exact⟨h0,h1⟩
   · rw[List.getElem?_eq_none (by rw[List.length_set];omega)] at hx;cases hx
 · rw[List.getElem?_set_ne hij] at hx;exact h j x hx
theorem MemOk.set {xs:List Int} (h:MemOk xs) (i:Nat) {v:Int} (h0:0≤v) (h1:v<4294967296):MemOk (xs.set i v) :=
 ⟨h.w.set i h0 h1,by rw[List.length_set];exact h.r,by rw[List.length_set];exact h.p,by rw[List.length_set];exact h.q⟩
theorem pagesW_set (xs:List Int) (i:Nat) (v:Int):Ao (xs.set i v)=Ao xs:=by unfold Ao;rw[List.length_set]
theorem touch_ok {xs:List Int} (h:MemOk xs) (e acc:Int):MemOk (Dg xs e acc)∧Ao (Dg xs e acc)=Ao xs:=by
 have hbd:=Bg h.w (e / 4).toNat
 have mk:=mark_is (acc:=acc) hbd.1 hbd.2
 exact⟨h.set _ mk.2.2.1 mk.2.2.2,pagesW_set _ _ _⟩
theorem z0:(0:Int)≤0:=by decide
theorem z1:(0:Int)<4294967296:=by decide
theorem BE {c xs:List Int} (hc:CpuOk c) (hm:MemOk xs) {x size acc:Int} (hx0:0≤x) (hx1:x<4294967296) (hs:size=1∨size=4) :
    MemOk (Ah c xs x size acc).2.1∧Ao (Ah c xs x size acc).2.1=Ao xs∧0≤(Ah c xs x size acc).1∧(Ah c xs x size acc).1<4294967296 ∧
     ((Ah c xs x size acc).2.2=0→inB (Ah c xs x size acc).2.1 (Ah c xs x size acc).1 size=true)∧0≤(Ah c xs x size acc).2.2∧(Ah c xs x size acc).2.2<4294967296:=by
 have hfa:AE acc≠0∧0≤AE acc∧AE acc<4294967296:=by unfold AE;split <;> (try split) <;> decide
 unfold Ah
 by_cases hal:x % size=0
 · rw[if_neg (fun h=>h hal)]
   by_cases hpg:BR c=true
   · rw[if_pos hpg]
     cases hw:Cb xs (rg c 23) x acc with
     | none=>exact⟨hm,rfl,z0,z1,fun h=>absurd h hfa.1,hfa.2.1,hfa.2.2⟩
     | some r =>
       obtain⟨a,e⟩:=r
       obtain⟨b1,b2,b3,b4,_⟩:=G9 hm (hc.at 23).1 hx0 hw
       obtain⟨t1,t2⟩:=touch_ok hm e acc
       refine ⟨t1,t2,b1,by show a<_;omega,fun _=>?_,z0,z1⟩
       show inB (Dg xs e acc) a size=true
       unfold inB
       rw[t2]
       unfold Cb at hw
       split at hw
       · rename_i hh
         cases hw
         refine decide_eq_true ⟨?_,?_⟩
         · rcases hs with rfl|rfl <;> omega
         · have:=hh.2.2.2
           rcases hs with rfl|rfl <;> omega
       · cases hw
   · rw[if_neg hpg]
     by_cases hin:inB xs x size=true
     · rw[if_pos hin];exact⟨hm,rfl,hx0,hx1,fun _=>hin,z0,z1⟩
     · rw[if_neg hin];exact⟨hm,rfl,z0,z1,fun h=>absurd h hfa.1,hfa.2.1,hfa.2.2⟩
 · rw[if_pos hal];exact⟨hm,rfl,z0,z1,fun h=>absurd h (by decide:(3:Int)≠0),(by decide:(0:Int)≤3),(by decide:(3:Int)<4294967296)⟩
theorem Gq (c xs:List Int) (va:Value) (w:World) (hc:CpuOk c) (ha:MemRow w va xs) (hm:MemOk xs) :
    Calls Tryz.prog 91 #[.agg (Ab c).toArray,va] w (AD (fun u=>.tuple #[.int .u32 (AM c xs).1,u,.int .i64 (AM c xs).2.2]) (AM c xs).2.1 w):=by
 have D0:=HasBlock.made w (Ab c).toArray 29
 have hb:Below w.heap.size w (w.alloc (.cells (Ab c).toArray 29)):=bel
 have R:=fun w (h:MemRow w va xs)=>DN (size:=4) (acc:=1) hc h hm (hc.at 16).1 (hc.at 16).2 (by decide) (by decide) (.inr rfl)
 obtain⟨hm',_,ha0,ha1,hin,hk0,hk1⟩:=BE (acc:=1) hc hm (hc.at 16).1 (hc.at 16).2 (.inr rfl:(4:Int)=1∨(4:Int)=4)
 unfold AM
 generalize Ah c xs (rg c 16) 4 1=r at *
 obtain⟨a,m',k⟩:=r
 dsimp only at R hm' ha0 ha1 hin hk0 hk1 ⊢
 have HR:=lh R;clear R
 have HA:=lh ha;clear ha
 by_cases hk:k=0
 · subst hk
   rw[if_neg (by decide)]
   have L:=fun w u h=>Fe u m' a 4 w h hm' ha0 ha1 (.inr rfl) (hin rfl)
   have hl:Cg m' a 4=A5 m' a:=if_neg (by decide)
   rw[hl] at L
   dsimp only
   generalize A5 m' a=x at *
   have HL:=lh L
   clear L hl hin hm' hm hc
   go_in
   go_wp2_with (first|(refine Bt c D0 rfl rfl rfl rfl ?_)|(refine AA (ty:=25) _ D0 rfl rfl rfl Tryz.underlying25 rfl rfl ?_)|(go_at_call 159;(with_reducible refine (HR.out _ (HA.out.below hb)).mono ?_);rintro e w1 ⟨v1,rfl,ho1,hb1⟩)|(go_at_call 160;(with_reducible refine (HL.out _ _ ho1.row).mono ?_);rintro e wz ⟨rfl,rfl⟩))
   exact bodyPost_ret (v:=.tuple #[.int .u32 x,v1,.int .i64 0]) (by simp [results,Tryz.results91,go_sem]) rfl ⟨v1,rfl,ho1.lower hb.size,hb.trans (hb1.mono hb.size)⟩
 · rw[if_pos hk]
   dsimp only
   have hk':(k != 0)=true:=by simpa using hk
   clear hin hm' hm hc hk
   go_in
   go_wp2_with (first|(refine Bt c D0 rfl rfl rfl rfl ?_)|(refine AA (ty:=25) _ D0 rfl rfl rfl Tryz.underlying25 rfl rfl ?_)|(go_at_call 159;(with_reducible refine (HR.out _ (HA.out.below hb)).mono ?_);rintro e w1 ⟨v1,rfl,ho1,hb1⟩))
   exact bodyPost_ret (v:=.tuple #[.int .u32 0,v1,.int .i64 k]) (by simp [results,Tryz.results91,go_sem]) rfl ⟨v1,rfl,ho1.lower hb.size,hb.trans (hb1.mono hb.size)⟩
structure In.Ok (i:In):Prop where
 a:0≤i.a∧i.a≤15
 b:0≤i.b∧i.b≤15
 c:0≤i.c∧i.c≤15
 imm : -2147483648≤i.imm∧i.imm≤2147483647
theorem EJ (w:World) (c:List Int) (i:In) :
    HasBlock (((w.alloc (.cells (Ab c).toArray 29)).alloc (.cells (inL i).toArray 180)).alloc (.cells #[.int .u32 0,.int .u32 0,.int .u32 0,.int .u32 0,.int .u32 0,.int .u32 0,.int .u32 0,.int .u32 0,.int .u32 0,.int .u32 0,.int .u32 0,.int .u32 0,.int .u32 0,.int .u32 0,.int .u32 0,.int .u32 0,.int .u32 0,.int .u32 0,.int .u32 0,.int .u32 0,.int .u32 0,.int .u32 0,.int .u32 0,.int .u32 0,.int .u32 0] 29)) w.heap.size (Ab c).toArray 29 ∧
    HasBlock (((w.alloc (.cells (Ab c).toArray 29)).alloc (.cells (inL i).toArray 180)).alloc (.cells #[.int .u32 0,.int .u32 0,.int .u32 0,.int .u32 0,.int .u32 0,.int .u32 0,.int .u32 0,.int .u32 0,.int .u32 0,.int .u32 0,.int .u32 0,.int .u32 0,.int .u32 0,.int .u32 0,.int .u32 0,.int .u32 0,.int .u32 0,.int .u32 0,.int .u32 0,.int .u32 0,.int .u32 0,.int .u32 0,.int .u32 0,.int .u32 0,.int .u32 0] 29)) (w.heap.size+1) (inL i).toArray 180 ∧
    HasBlock (((w.alloc (.cells (Ab c).toArray 29)).alloc (.cells (inL i).toArray 180)).alloc (.cells #[.int .u32 0,.int .u32 0,.int .u32 0,.int .u32 0,.int .u32 0,.int .u32 0,.int .u32 0,.int .u32 0,.int .u32 0,.int .u32 0,.int .u32 0,.int .u32 0,.int .u32 0,.int .u32 0,.int .u32 0,.int .u32 0,.int .u32 0,.int .u32 0,.int .u32 0,.int .u32 0,.int .u32 0,.int .u32 0,.int .u32 0,.int .u32 0,.int .u32 0] 29)) (w.heap.size+1+1) zeroCpu.toArray 29 ∧
    Below w.heap.size w (((w.alloc (.cells (Ab c).toArray 29)).alloc (.cells (inL i).toArray 180)).alloc (.cells #[.int .u32 0,.int .u32 0,.int .u32 0,.int .u32 0,.int .u32 0,.int .u32 0,.int .u32 0,.int .u32 0,.int .u32 0,.int .u32 0,.int .u32 0,.int .u32 0,.int .u32 0,.int .u32 0,.int .u32 0,.int .u32 0,.int .u32 0,.int .u32 0,.int .u32 0,.int .u32 0,.int .u32 0,.int .u32 0,.int .u32 0,.int .u32 0,.int .u32 0] 29)):=by
 refine ⟨((HasBlock.made w _ _).alloc _).alloc _,?_,?_,bel⟩
 · have:=(HasBlock.made (w.alloc (.cells (Ab c).toArray 29)) (inL i).toArray 180).alloc (.cells #[.int .u32 0,.int .u32 0,.int .u32 0,.int .u32 0,.int .u32 0,.int .u32 0,.int .u32 0,.int .u32 0,.int .u32 0,.int .u32 0,.int .u32 0,.int .u32 0,.int .u32 0,.int .u32 0,.int .u32 0,.int .u32 0,.int .u32 0,.int .u32 0,.int .u32 0,.int .u32 0,.int .u32 0,.int .u32 0,.int .u32 0,.int .u32 0,.int .u32 0] 29)
   rw[World.size_alloc] at this;exact this
 · have:=HasBlock.made ((w.alloc (.cells (Ab c).toArray 29)).alloc (.cells (inL i).toArray 180)) #[.int .u32 0,.int .u32 0,.int .u32 0,.int .u32 0,.int .u32 0,.int .u32 0,.int .u32 0,.int .u32 0,.int .u32 0,.int .u32 0,.int .u32 0,.int .u32 0,.int .u32 0,.int .u32 0,.int .u32 0,.int .u32 0,.int .u32 0,.int .u32 0,.int .u32 0,.int .u32 0,.int .u32 0,.int .u32 0,.int .u32 0,.int .u32 0,.int .u32 0] 29
   rw[World.size_alloc,World.size_alloc] at this;exact this
theorem Xz69 {P:Prop} (h:P:=by
  rcases h2 with h2|⟨g,cap,cur,e1,e2,e3,e4⟩
  · exact .inl h2
  · have hne:g≠B:=by
      rintro rfl
      have:=hB.symm.trans e3
      injection this with this
      injection this with _ h4 _
      exact hT h4
    exact .inr ⟨g,cap,cur,e1,e2,(hn.heap g hne).trans e3,e4⟩):P:=h
theorem OwnMem.but {base B:Nat} {w w':World} {v:Value} {xs:List Int} {cs:Array Value} {T:TypeId} (h:OwnMem base w v xs) (hB:HasBlock w B cs T) (hT:T≠25) (hn:But B w w'):OwnMem base w' v xs:=by
 obtain⟨⟨h1,h2⟩,h0⟩:=h
 refine ⟨⟨h1,?_⟩,h0⟩
 exact Xz69
theorem cload_trap {c xs m':List Int} {va:Value} {i:In} {A a k:Int} {w:World} (hc:CpuOk c) (ha:MemRow w va xs) (hm:MemOk xs) (hi:i.Ok) (hAu:A=u32 (rg c i.b.toNat+u32 i.imm)) (hr:Ah c xs A (An i.op) 2=(a,m',k)) (hk:k≠0) (hk0:0≤k) (hk1:k<4294967296) :
    Calls Tryz.prog 95 #[.agg (Ab c).toArray,va,.agg (inL i).toArray] w (AD (fun u=>.tuple #[.agg (Ab (AN c k A)).toArray,u]) m' w):=by
 obtain⟨D0,DI,D1,hb⟩:=EJ w c i
 have hcb:=(D0.cell i.b.toNat).trans (show (Ab c).toArray[i.b.toNat]?=some (.int .u32 (rg c i.b.toNat)) by rw[List.getElem?_toArray];exact AB hc.len (by have:=hi.b;omega))
 have hi2:=(DI.cell 2).trans (show (inL i).toArray[2]?=some (.int .i64 i.b) from rfl)
 have hi4:=(DI.cell 4).trans (show (inL i).toArray[4]?=some (.int .i32 i.imm) from rfl)
 have hA:(rg c i.b.toNat+i.imm % 4294967296) % 4294967296=A:=by rw[hAu];unfold u32;rw[IntKind.wrap_u32,IntKind.wrap_u32]
 have hA0:0≤A∧A<4294967296:=by omega
 have hwd:An i.op=1∨An i.op=4:=by unfold An;split;exact .inr rfl;exact .inl rfl
 have R:=fun w h=>DN (c:=c) (xs:=xs) (va:=va) (x:=A) (size:=An i.op) (acc:=2) (w:=w) hc h hm hA0.1 hA0.2 (by decide) (by decide) hwd
 rw[hr] at R
 dsimp only at R
 have HR:=lh R;clear R
 have HA:=lh ha;clear ha
 have WD:=fun w=>Gd i.op w
 have HWD:=lh WD;clear WD
 have HHA:=lh hA;clear hA hAu hr
 have hb0:=hi.b.1
 have hb1:=hi.b.2
 have hl0:=D0.lt
 have hlI:=DI.lt
 have hk':(k != 0)=true:=by simpa using hk
 have TR:=fun w=>Eq c k A w hc hk0 hk1
 have HTR:=lh TR
 clear TR hm hk
 go_in
 go_wp2_with fail
 generalize ((w.alloc (.cells (Ab c).toArray 29)).alloc (.cells (inL i).toArray 180)).alloc (.cells #[.int .u32 0,.int .u32 0,.int .u32 0,.int .u32 0,.int .u32 0,.int .u32 0,.int .u32 0,.int .u32 0,.int .u32 0,.int .u32 0,.int .u32 0,.int .u32 0,.int .u32 0,.int .u32 0,.int .u32 0,.int .u32 0,.int .u32 0,.int .u32 0,.int .u32 0,.int .u32 0,.int .u32 0,.int .u32 0,.int .u32 0,.int .u32 0,.int .u32 0] 29)=w0 at *
 refine wp_region_quiet_below (by kernel_rfl) (by kernel_rfl) ?_
 repeat (go_big_quiet_step (first|fail|fail))
 refine wpQuiet_nil ?_
 intro w1 hw1
 have hb1:=Aa hw1
 clear hw1
 obtain⟨hc1,hf1⟩:=Cn hb1
 have hz1:=BH hb1
 try simp only[Bo] at hz1
 try simp only[sizes] at hc1 hf1
 rw[HHA.out]
 replace D0:=D0.below hb1
 replace DI:=DI.below hb1
 replace D1:=D1.below hb1
 replace hb:=hb.trans (hb1.mono hb.size)
 clear hcb hi2 hi4 hc1 hf1 hz1 hb1 hl0 hlI hb0
 have hl1:=D1.lt
 have hlI:=DI.lt
 have hl0:=D0.lt
 have hi0:=(DI.cell 0).trans (show (inL i).toArray[0]?=some (.int .i64 i.op) from rfl)
 have hcj:∀ j,j<25→w1.cell? ⟨w.heap.size,j,none⟩=some (.int .u32 (rg c j)):=fun j hj=>(D0.cell j).trans (by rw[List.getElem?_toArray];exact AB hc.len hj)
 have hrule:∀ w':World,Below w1.heap.size w1 w'→∀ b o,b<w1.heap.size→w'.cell? ⟨b,o,none⟩=w1.cell? ⟨b,o,none⟩:=fun w' h b o hlt=>h.cell (p:=⟨b,o,none⟩) hlt
 go_wp2_with fail
 refine wp_region_held_drew (S:=fun w'=>Below w1.heap.size w1 w') (by kernel_rfl) bel3 (fun hHeld=>?_)
 refine wpAnyH_take (i:=0) (v:=.agg (Ab c).toArray) rfl (by kernel_rfl) (by kernel_rfl) (by kernel_rfl) (fun _ _ _ h=>h) (yieldsIf_load_mid (by rfl) 29 _ rfl _ 0 rfl (Ab c) _ (fun w' h=>(D0.below h).range 0 _ (fun j v hv=>by rw[Nat.zero_add];exact hv)) Tryz.underlying29 rfl Av) (by assumption) ?_
 (try simp only[List.getElem_toArray,List.getElem_cons_succ,List.getElem_cons_zero,Act.put,List.setIfInBounds_toArray,List.set_cons_zero,List.set_cons_succ])
 refine Z1 (i:=1) ?_
 refine Z1 (i:=2) ?_
 refine Z1 (i:=3) ?_
 refine Z1 (i:=4) ?_
 refine wpAnyH_ready (rs:=[5]) (by kernel_rfl) (by simp) ?_
 refine AllReadyH.cons rfl (fun K hK=>?_) AllReadyH.nil
 go_simp
 ((with_reducible refine (HWD.out _).mono ?_);rintro e wz ⟨rfl,rfl⟩;go_simp)
 refine hK.out _ _ (by assumption) (fun hHeld'=>?_)
 replace hHeld:=hHeld'
 clear hK K hHeld'
 (try simp only[List.getElem_toArray,List.getElem_cons_succ,List.getElem_cons_zero,Act.put,List.setIfInBounds_toArray,List.set_cons_zero,List.set_cons_succ])
 refine wpAnyH_ready (rs:=[6]) (by kernel_rfl) (by simp) ?_
 refine AllReadyH.cons rfl (fun K hK=>?_) AllReadyH.nil
 go_simp
 ((with_reducible refine (HR.out _ (HA.out.below (hb.trans (Below.mono hHeld hb.size)))).mono ?_);rintro e w5 ⟨v5,rfl,ho5,hb5⟩;go_simp)
 refine hK.out _ _ (by exact hHeld.trans (hb5.mono hHeld.size)) (fun hHeld'=>?_)
 replace hHeld:=hHeld'
 clear hK K hHeld'
 (try simp only[List.getElem_toArray,List.getElem_cons_succ,List.getElem_cons_zero,Act.put,List.setIfInBounds_toArray,List.set_cons_zero,List.set_cons_succ])
 refine Z1 (i:=7) ?_
 refine Z1 (i:=8) ?_
 refine Z1 (i:=9) ?_
 refine Z1 (i:=10) ?_
 refine Z1 (i:=11) ?_
 refine Z1 (i:=12) ?_
 refine Z1 (i:=13) ?_
 refine ZD ?_
 have h15:Below w1.heap.size w1 w5:=hHeld
 have ho6:=ho5.lower (base':=w.heap.size) (by have:=hb.size;first|omega|(simp only[sizes];omega))
 replace hb:=hb.trans (h15.mono hb.size)
 replace D0:=D0.below h15
 replace DI:=DI.below h15
 replace D1:=D1.below h15
 clear hcj hrule hi0 HR hb5 ho5 h15 hHeld hl0 hl1 hlI
 have hl1:=D1.lt
 have hlI:=DI.lt
 have hl0:=D0.lt
 go_wp2_with (first|(refine Bt c D0 rfl rfl rfl rfl ?_)|(go_at_call 90;(with_reducible refine (HTR.out _).mono ?_);rintro e w6 ⟨rfl,hb6⟩;replace D1:=D1.below hb6;replace hb:=hb.trans (hb6.mono hb.size);have ho6:=ho6.below hb6)|(refine BW (AN c k A) D1 rfl rfl rfl rfl (by decide) ?_;intro w7 D1' N1;replace ho6:=ho6.but D1 (by decide) N1;replace D1:=D1';clear D1';replace hb:=N1.below hb (by omega)))
 have hl:=D1.loadCpu
 exact bodyPost_ret (v:=.tuple #[.agg (Ab (AN c k A)).toArray,v5]) (by simp [results,Tryz.results95,asAddr,hl]) rfl ⟨v5,rfl,ho6,hb⟩
theorem Br {c:List Int} (h:c.length=25) (r v:Int):(Bm c r v).length=25:=by unfold Bm;split;exact h;rw[List.length_set];exact h
theorem Ea {c:List Int} {r:Int} (h:r≤15) (v:Int):rg (Bm c r v) 16=rg c 16:=by
 unfold Bm rg
 split
 · rfl
 · rw[List.getElem?_set_ne (by omega)]
theorem Xz101 {P:Prop} (h:P:=by
  have hl:=D1.loadCpu
  exact bodyPost_ret (v:=.tuple #[.agg (Ab Z).toArray,v5]) (by simp [results,Tryz.results95,asAddr,hl]) rfl ⟨v5,rfl,ho6,hb⟩):P:=h
theorem Xz109 {P:Prop} (h:P:=by
  rw[←hZ,←Ak (by rw[←hS];exact Br hc.len _ _)]
  unfold BU u32
  rw[IntKind.wrap_u32,←hPC,←hS,Ea hia1]):P:=h
theorem cload_ok {c xs m':List Int} {va:Value} {i:In} {A a x:Int} {w:World} (hc:CpuOk c) (ha:MemRow w va xs) (hm:MemOk xs) (hi:i.Ok) (hAu:A=u32 (rg c i.b.toNat+u32 i.imm)) (hr:Ah c xs A (An i.op) 2=(a,m',0)) (hm':MemOk m') (ha0:0≤a) (ha1:a<4294967296)
    (hin:inB m' a (An i.op)=true) (hx:Cg m' a (An i.op)=x) (hx0:0≤x) (hx8:i.op=33→x<256) :
    Calls Tryz.prog 95 #[.agg (Ab c).toArray,va,.agg (inL i).toArray] w (AD (fun u=>.tuple #[.agg (Ab ((Bm c i.a (if i.op=33 then sx8 x else x)).set 16 (BU c))).toArray,u]) m' w):=by
 obtain⟨D0,DI,D1,hb⟩:=EJ w c i
 have hcb:=(D0.cell i.b.toNat).trans (show (Ab c).toArray[i.b.toNat]?=some (.int .u32 (rg c i.b.toNat)) by rw[List.getElem?_toArray];exact AB hc.len (by have:=hi.b;omega))
 have hi2:=(DI.cell 2).trans (show (inL i).toArray[2]?=some (.int .i64 i.b) from rfl)
 have hi4:=(DI.cell 4).trans (show (inL i).toArray[4]?=some (.int .i32 i.imm) from rfl)
 have hA:(rg c i.b.toNat+i.imm % 4294967296) % 4294967296=A:=by rw[hAu];unfold u32;rw[IntKind.wrap_u32,IntKind.wrap_u32]
 have hA0:0≤A∧A<4294967296:=by omega
 have hwd:An i.op=1∨An i.op=4:=by unfold An;split;exact .inr rfl;exact .inl rfl
 have R:=fun w h=>DN (c:=c) (xs:=xs) (va:=va) (x:=A) (size:=An i.op) (acc:=2) (w:=w) hc h hm hA0.1 hA0.2 (by decide) (by decide) hwd
 rw[hr] at R
 dsimp only at R
 have HR:=lh R;clear R
 have HA:=lh ha;clear ha
 have WD:=fun w=>Gd i.op w
 have HWD:=lh WD;clear WD
 have HHA:=lh hA;clear hA hAu hr
 have hb0:=hi.b.1
 have hb1:=hi.b.2
 have hl0:=D0.lt
 have hlI:=DI.lt
 have L:=fun w u h=>Fe u m' a (An i.op) w h hm' ha0 ha1 hwd hin
 rw[hx] at L
 have HL:=lh L
 have hia0:=hi.a.1
 have hia1:=hi.a.2
 clear L hm hin hx hm'
 by_cases h33:i.op=33
 rw[if_pos h33]
 have h33':(i.op == 33)=true:=by simpa using h33
 have SX:=fun w=>sext8_any x w hx0 (hx8 h33)
 have HSX:=lh SX
 obtain⟨S,hS⟩:∃ s,Bm c i.a (sx8 x)=s:=⟨_,rfl⟩
 obtain⟨PC,hPC⟩:∃ s,rg S 16=s:=⟨_,rfl⟩
 obtain⟨Z,hZ⟩:∃ z,S.set 16 (BU c)=z:=⟨_,rfl⟩
 have hz:Ab Z=(Ab S).set 16 (.int .u32 ((PC+4) % 4294967296)):=by
  exact Xz109
 have ST:=fun w=>Cv c i.a (sx8 x) w hc.len hia0 (by omega)
 rw[hS] at ST ⊢
 rw[hZ]
 have HST:=lh ST
 have HZ:=lh hz
 clear ST hz hZ hS
 clear SX h33 hx8
 rotate_left
 rw[if_neg h33]
 have h33':(i.op == 33)=false:=by simpa using h33
 obtain⟨S,hS⟩:∃ s,Bm c i.a x=s:=⟨_,rfl⟩
 obtain⟨PC,hPC⟩:∃ s,rg S 16=s:=⟨_,rfl⟩
 obtain⟨Z,hZ⟩:∃ z,S.set 16 (BU c)=z:=⟨_,rfl⟩
 have hz:Ab Z=(Ab S).set 16 (.int .u32 ((PC+4) % 4294967296)):=by
  exact Xz109
 have ST:=fun w=>Cv c i.a x w hc.len hia0 (by omega)
 rw[hS] at ST ⊢
 rw[hZ]
 have HST:=lh ST
 have HZ:=lh hz
 clear ST hz hZ hS
 clear h33 hx8
 rotate_left
 all_goals
  go_in
  go_wp2_with fail
  generalize ((w.alloc (.cells (Ab c).toArray 29)).alloc (.cells (inL i).toArray 180)).alloc (.cells #[.int .u32 0,.int .u32 0,.int .u32 0,.int .u32 0,.int .u32 0,.int .u32 0,.int .u32 0,.int .u32 0,.int .u32 0,.int .u32 0,.int .u32 0,.int .u32 0,.int .u32 0,.int .u32 0,.int .u32 0,.int .u32 0,.int .u32 0,.int .u32 0,.int .u32 0,.int .u32 0,.int .u32 0,.int .u32 0,.int .u32 0,.int .u32 0,.int .u32 0] 29)=w0 at *
  refine wp_region_quiet_below (by kernel_rfl) (by kernel_rfl) ?_
  repeat (go_big_quiet_step (first|fail|fail))
  refine wpQuiet_nil ?_
  intro w1 hw1
  have hb1:=Aa hw1
  clear hw1
  obtain⟨hc1,hf1⟩:=Cn hb1
  have hz1:=BH hb1
  try simp only[Bo] at hz1
  try simp only[sizes] at hc1 hf1
  rw[HHA.out]
  replace D0:=D0.below hb1
  replace DI:=DI.below hb1
  replace D1:=D1.below hb1
  replace hb:=hb.trans (hb1.mono hb.size)
  clear hcb hi2 hi4 hc1 hf1 hz1 hb1 hl0 hlI hb0
  have hl1:=D1.lt
  have hlI:=DI.lt
  have hl0:=D0.lt
  have hi0:=(DI.cell 0).trans (show (inL i).toArray[0]?=some (.int .i64 i.op) from rfl)
  have hcj:∀ j,j<25→w1.cell? ⟨w.heap.size,j,none⟩=some (.int .u32 (rg c j)):=fun j hj=>(D0.cell j).trans (by rw[List.getElem?_toArray];exact AB hc.len hj)
  have hrule:∀ w':World,Below w1.heap.size w1 w'→∀ b o,b<w1.heap.size→w'.cell? ⟨b,o,none⟩=w1.cell? ⟨b,o,none⟩:=fun w' h b o hlt=>h.cell (p:=⟨b,o,none⟩) hlt
  go_wp2_with fail
  refine wp_region_held_drew (S:=fun w'=>Below w1.heap.size w1 w') (by kernel_rfl) bel3 (fun hHeld=>?_)
  refine wpAnyH_take (i:=0) (v:=.agg (Ab c).toArray) rfl (by kernel_rfl) (by kernel_rfl) (by kernel_rfl) (fun _ _ _ h=>h) (yieldsIf_load_mid (by rfl) 29 _ rfl _ 0 rfl (Ab c) _ (fun w' h=>(D0.below h).range 0 _ (fun j v hv=>by rw[Nat.zero_add];exact hv)) Tryz.underlying29 rfl Av) (by assumption) ?_
  (try simp only[List.getElem_toArray,List.getElem_cons_succ,List.getElem_cons_zero,Act.put,List.setIfInBounds_toArray,List.set_cons_zero,List.set_cons_succ])
  refine Z1 (i:=1) ?_
  refine Z1 (i:=2) ?_
  refine Z1 (i:=3) ?_
  refine Z1 (i:=4) ?_
  refine wpAnyH_ready (rs:=[5]) (by kernel_rfl) (by simp) ?_
  refine AllReadyH.cons rfl (fun K hK=>?_) AllReadyH.nil
  go_simp
  ((with_reducible refine (HWD.out _).mono ?_);rintro e wz ⟨rfl,rfl⟩;go_simp)
  refine hK.out _ _ (by assumption) (fun hHeld'=>?_)
  replace hHeld:=hHeld'
  clear hK K hHeld'
  (try simp only[List.getElem_toArray,List.getElem_cons_succ,List.getElem_cons_zero,Act.put,List.setIfInBounds_toArray,List.set_cons_zero,List.set_cons_succ])
  refine wpAnyH_ready (rs:=[6]) (by kernel_rfl) (by simp) ?_
  refine AllReadyH.cons rfl (fun K hK=>?_) AllReadyH.nil
  go_simp
  ((with_reducible refine (HR.out _ (HA.out.below (hb.trans (Below.mono hHeld hb.size)))).mono ?_);rintro e w5 ⟨v5,rfl,ho5,hb5⟩;go_simp)
  refine hK.out _ _ (by exact hHeld.trans (hb5.mono hHeld.size)) (fun hHeld'=>?_)
  replace hHeld:=hHeld'
  clear hK K hHeld'
  (try simp only[List.getElem_toArray,List.getElem_cons_succ,List.getElem_cons_zero,Act.put,List.setIfInBounds_toArray,List.set_cons_zero,List.set_cons_succ])
  refine Z1 (i:=7) ?_
  refine Z1 (i:=8) ?_
  refine Z1 (i:=9) ?_
  refine Z1 (i:=10) ?_
  refine Z1 (i:=11) ?_
  refine Z1 (i:=12) ?_
  refine Z1 (i:=13) ?_
  refine ZD ?_
  have h15:Below w1.heap.size w1 w5:=hHeld
  have ho6:=ho5.lower (base':=w.heap.size) (by have:=hb.size;first|omega|(simp only[sizes];omega))
  replace hb:=hb.trans (h15.mono hb.size)
  replace D0:=D0.below h15
  replace DI:=DI.below h15
  replace D1:=D1.below h15
  clear hcj hrule hi0 HR hb5 ho5 h15 hHeld hl0 hl1 hlI
  have hl1:=D1.lt
  have hlI:=DI.lt
  have hl0:=D0.lt
 · go_wp2_with (first|(refine AA (ty:=3) _ DI rfl rfl rfl Tryz.underlying3 rfl rfl ?_)|(go_at_call 165;((with_reducible refine (HWD.out _).mono ?_);rintro e wz ⟨rfl,rfl⟩))|(go_at_call 160;(with_reducible refine (HL.out _ _ ho6.row).mono ?_);rintro e wz ⟨rfl,rfl⟩)|(go_at_call 163;((with_reducible refine (HSX.out _).mono ?_);rintro e wz ⟨rfl,rfl⟩))|(refine Bt c D0 rfl rfl rfl rfl ?_)|(go_at_call 166;(with_reducible refine (HST.out _).mono ?_);rintro e w7 ⟨rfl,hb7⟩;replace D0:=D0.below hb7;replace DI:=DI.below hb7;replace D1:=D1.below hb7;replace ho6:=ho6.below hb7;replace hb:=hb.trans (hb7.mono hb.size))|(refine BW S D0 rfl rfl rfl rfl (nlr 25) ?_;intro w8 D8 N8;have D0':=D0;replace D0:=(show HasBlock w8 w.heap.size (Ab S).toArray 29 from D8);have D1:=N8.block D1 (by omega);have DI:=N8.block DI (by omega);replace ho6:=ho6.but D0' (by decide) N8;replace hb:=N8.below hb (by omega);clear D0')|(refine AA (ty:=25) _ D0 rfl rfl rfl Tryz.underlying25 rfl rfl ?_)|(refine A3 (ty:=25) (.int .u32 ((PC+4) % 4294967296)) D0 rfl rfl rfl rfl rfl Bj rfl ?_;intro w9 D9 N9;have D0':=D0;replace D0:=D9;have D1:=N9.block D1 (by omega);have DI:=N9.block DI (by omega);replace ho6:=ho6.but D0' (by decide) N9;replace hb:=N9.below hb (by omega);clear D0')|(refine Bt Z D0 rfl rfl rfl (by show List.take 25 _=_;rw[HZ.out];rfl) ?_)|(refine BW Z D1 rfl rfl rfl rfl (by decide) ?_;intro w10 D10 N10;replace ho6:=ho6.but D1 (by decide) N10;replace D1:=D10;replace hb:=N10.below hb (by omega)))
   exact Xz101
 · go_wp2_with (first|(refine AA (ty:=3) _ DI rfl rfl rfl Tryz.underlying3 rfl rfl ?_)|(go_at_call 165;((with_reducible refine (HWD.out _).mono ?_);rintro e wz ⟨rfl,rfl⟩))|(go_at_call 160;(with_reducible refine (HL.out _ _ ho6.row).mono ?_);rintro e wz ⟨rfl,rfl⟩)|(refine Bt c D0 rfl rfl rfl rfl ?_)|(go_at_call 166;(with_reducible refine (HST.out _).mono ?_);rintro e w7 ⟨rfl,hb7⟩;replace D0:=D0.below hb7;replace DI:=DI.below hb7;replace D1:=D1.below hb7;replace ho6:=ho6.below hb7;replace hb:=hb.trans (hb7.mono hb.size))|(refine BW S D0 rfl rfl rfl rfl (nlr 25) ?_;intro w8 D8 N8;have D0':=D0;replace D0:=(show HasBlock w8 w.heap.size (Ab S).toArray 29 from D8);have D1:=N8.block D1 (by omega);have DI:=N8.block DI (by omega);replace ho6:=ho6.but D0' (by decide) N8;replace hb:=N8.below hb (by omega);clear D0')|(refine AA (ty:=25) _ D0 rfl rfl rfl Tryz.underlying25 rfl rfl ?_)|(refine A3 (ty:=25) (.int .u32 ((PC+4) % 4294967296)) D0 rfl rfl rfl rfl rfl Bj rfl ?_;intro w9 D9 N9;have D0':=D0;replace D0:=D9;have D1:=N9.block D1 (by omega);have DI:=N9.block DI (by omega);replace ho6:=ho6.but D0' (by decide) N9;replace hb:=N9.below hb (by omega);clear D0')|(refine Bt Z D0 rfl rfl rfl (by show List.take 25 _=_;rw[HZ.out];rfl) ?_)|(refine BW Z D1 rfl rfl rfl rfl (by decide) ?_;intro w10 D10 N10;replace ho6:=ho6.but D1 (by decide) N10;replace D1:=D10;replace hb:=N10.below hb (by omega)))
   exact Xz101
theorem Ff {xs:List Int} (hm:MemOk xs) (a size:Int):0≤Cg xs a size∧Cg xs a size<4294967296∧(size=1→Cg xs a size<256):=by
 have hbd:=Bg hm.w (a / 4).toNat
 change 0≤A5 xs a∧A5 xs a<4294967296 at hbd
 unfold Cg
 split
 · have h0:=Int.emod_nonneg (A5 xs a / 2 ^ (a % 4*8).toNat) (show (256:Int)≠0 by decide)
   have h1:=Int.emod_lt_of_pos (A5 xs a / 2 ^ (a % 4*8).toNat) (show (0:Int)<256 by decide)
   exact⟨h0,by omega,fun _=>h1⟩
 · rename_i hne
   exact⟨hbd.1,hbd.2,fun h=>absurd h hne⟩
theorem cload_any {c xs:List Int} {va:Value} {i:In} {w:World} (hc:CpuOk c) (ha:MemRow w va xs) (hm:MemOk xs) (hi:i.Ok) :
    Calls Tryz.prog 95 #[.agg (Ab c).toArray,va,.agg (inL i).toArray] w (AD (fun u=>.tuple #[.agg (Ab (C3 c xs i).1).toArray,u]) (C3 c xs i).2 w):=by
 have hA0:0≤u32 (rg c i.b.toNat+u32 i.imm)∧u32 (rg c i.b.toNat+u32 i.imm)<4294967296:=by unfold u32;rw[IntKind.wrap_u32];omega
 have hwd:An i.op=1∨An i.op=4:=by unfold An;split;exact .inr rfl;exact .inl rfl
 obtain⟨hm',_,ha0,ha1,hin,hk0,hk1⟩:=BE (c:=c) (acc:=2) hc hm hA0.1 hA0.2 hwd
 unfold C3
 dsimp only
 generalize hr:Ah c xs (u32 (rg c i.b.toNat+u32 i.imm)) (An i.op) 2=r at *
 obtain⟨a,m',k⟩:=r
 dsimp only at *
 by_cases hk:k=0
 · subst hk
   rw[if_neg (by decide)]
   have hb:=Ff hm' a (An i.op)
   exact cload_ok hc ha hm hi rfl hr hm' ha0 ha1 (hin rfl) rfl hb.1 (fun h=>hb.2.2 (by rw[h];rfl))
 · rw[if_pos hk]
   exact cload_trap hc ha hm hi rfl hr hk hk0 hk1
theorem FN {c:List Int} {i:Nat} (hi:i<c.length) (j:Nat) (v:Int):rg (c.set i v) j=if i=j then v else rg c j:=by
 unfold rg
 by_cases h:i=j
 · subst h;rw[if_pos rfl,List.getElem?_set_self hi];rfl
 · rw[if_neg h,List.getElem?_set_ne h]
theorem CpuOk.put {c:List Int} (h:CpuOk c) {i:Nat} (hi:i<25) {v:Int} (h0:0≤v) (h1:v<4294967296) (hx:i=0→v=0) (hs:i=17→v≤31) (he:i=24→v≤31) (hr:i=23→v≤255) (hv:i=18→v % 4=0):CpuOk (c.set i v):=by
 have hl:i<c.length:=by rw[h.len];exact hi
 refine ⟨by rw[List.length_set];exact h.len,h.w.set i h0 h1,?_,?_,?_,?_,?_⟩
 · rw[FN hl];split
   · exact hx ‹_›
   · exact h.x0
 · rw[FN hl];split
   · exact hs ‹_›
   · exact h.s
 · rw[FN hl];split
   · exact he ‹_›
   · exact h.e
 · rw[FN hl];split
   · exact hr ‹_›
   · exact h.r
 · rw[FN hl];split
   · exact hv ‹_›
   · exact h.v
theorem trapS_bd (s:Int):0≤GK s∧GK s≤31:=by unfold GK;omega
theorem retS_bd (s:Int):0≤retS s∧retS s≤31:=by unfold retS;omega
theorem Fl {c:List Int} (h:CpuOk c) {cause bad:Int} (h0:0≤cause) (h1:cause<4294967296) (b0:0≤bad) (b1:bad<4294967296):CpuOk (AN c cause bad):=by
 have hb:=trapS_bd (rg c 17)
 unfold AN
 refine ((((h.put (by decide) (h.at 16).1 (h.at 16).2 ?_ ?_ ?_ ?_ ?_).put (by decide) h0 h1 ?_ ?_ ?_ ?_ ?_).put (by decide) b0 b1 ?_ ?_ ?_ ?_ ?_).put (by decide) hb.1 (by omega) ?_ (fun _=>hb.2) ?_ ?_ ?_).put (by decide) (h.at 18).1 (h.at 18).2 ?_ ?_ ?_ ?_ ?_
 all_goals exact fun h=>absurd h (by decide)
theorem ret_ok {c:List Int} (h:CpuOk c):CpuOk (GC c):=by
 have hb:=retS_bd (rg c 17)
 unfold GC
 refine (h.put (by decide) hb.1 (by omega) ?_ (fun _=>hb.2) ?_ ?_ ?_).put (by decide) (h.at 19).1 (h.at 19).2 ?_ ?_ ?_ ?_ ?_
 all_goals exact fun h=>absurd h (by decide)
theorem EK {c:List Int} (h:CpuOk c) {v:Int} (h0:0≤v) (h1:v<4294967296):CpuOk (c.set 16 v):=by
 refine h.put (by decide) h0 h1 ?_ ?_ ?_ ?_ ?_
 all_goals exact fun h=>absurd h (by decide)
theorem Fo {c:List Int} (h:CpuOk c) {r v:Int} (r0:0≤r) (r1:r≤15) (h0:0≤v) (h1:v<4294967296):CpuOk (Bm c r v):=by
 unfold Bm
 split
 · exact h
 · exact h.put (by omega) h0 h1 (fun _=>by omega) (fun _=>by omega) (fun _=>by omega) (fun _=>by omega) (fun _=>by omega)
theorem Xz78 {P:Prop} (h:P:=by
  exact⟨by omega,by omega,fun _=>by omega,fun _=>by omega,fun _=>by omega⟩):P:=h
theorem csrV_bd {k v:Int} (h0:0≤v) (h1:v<4294967296):0≤csrV k v∧csrV k v<4294967296∧(k=0∨k=7→csrV k v≤31)∧(k=6→csrV k v≤255)∧(k=1→csrV k v % 4=0):=by
 unfold csrV
 split
 · exact Xz78
 · split
   · exact Xz78
   · split
     · exact Xz78
     · exact Xz78
theorem writeC_ok {c:List Int} (h:CpuOk c) {k v:Int} (h0:0≤v) (h1:v<4294967296):CpuOk (CW c k v):=by
 have hb:=csrV_bd (k:=k) h0 h1
 unfold CW
 split
 · refine h.put (by omega) hb.1 hb.2.1 (fun _=>by omega) (fun _=>hb.2.2.1 (by omega)) (fun _=>hb.2.2.1 (by omega)) (fun _=>hb.2.2.2.1 (by omega)) (fun _=>hb.2.2.2.2 (by omega))
 · exact h
theorem As (x:Int):0≤u32 x∧u32 x<4294967296:=by unfold u32;rw[IntKind.wrap_u32];omega
theorem shr_range {a:Int} (h0:0≤a) (h1:a<4294967296) (k:Nat):0≤a / 2 ^ k∧a / 2 ^ k<4294967296 :=
 ⟨Int.ediv_nonneg h0 (Int.le_of_lt (Int.pow_pos (by decide))),Int.lt_of_le_of_lt (Int.ediv_le_self _ h0) h1⟩
theorem By {α:Type} (P:α→Prop) {p:Prop} [Decidable p] {x y:α} (h1:p→P x) (h2:¬p→P y):P (if p then x else y):=by
 split
 · exact h1 ‹_›
 · exact h2 ‹_›
theorem Jd (op:Int) {a b:Int} (a0:0≤a) (a1:a<4294967296):W32 (AC op a b):=by
 unfold AC divQ divR
 repeat' refine By W32 (fun _=>?_) (fun _=>?_)
 all_goals first|exact As _|exact bits_range _ _ _|exact shr_range a0 a1 _|exact⟨a0,a1⟩|exact⟨by decide,by decide⟩
structure EfOk (e:Ef):Prop where
 i:e.k=1→0≤e.p∧e.p≤11∧0≤e.r∧e.r≤15
 o:e.k=2→0≤e.p∧e.p≤11∧0≤e.v∧e.v<4294967296
theorem Dj:EfOk ef0:=⟨fun h=>absurd h (by decide),fun h=>absurd h (by decide)⟩
structure In.Good (i:In):Prop extends i.Ok where
 csr:i.op=58∨i.op=59→0≤i.imm∧i.imm≤7
 port:i.op=60∨i.op=61→0≤i.imm∧i.imm≤11
 f:A2 i.op≠0
 op:0≤i.op∧i.op<256
theorem immW_bd {f lw:Int} (h0:0≤lw) (h1:lw<65536) : -32768≤DQ f lw∧DQ f lw<65536:=by
 unfold DQ
 repeat' split
 all_goals omega
theorem EA {x:Int} {i:In} (h0:0≤x) (h1:x<4294967296) (h:C9 x=some i):i.Good:=by
 unfold C9 at h
 split at h
 · rename_i hh
   obtain⟨e1,e2,e3,e4,e5,e6⟩:=hh
   have hw:=immW_bd (f:=A2 (x / 16777216)) (lw:=x % 65536) (by omega) (by omega)
   cases h
   refine { a:=⟨by show 0≤x / 1048576 % 16;omega,by show x / 1048576 % 16≤15;omega⟩,b:=⟨by show 0≤x / 65536 % 16;omega,by show x / 65536 % 16≤15;omega⟩,c:=?_,imm:=⟨by show -2147483648≤DQ _ _;omega,by show DQ _ _≤2147483647;omega⟩,csr:=?_,port:=?_,f:=e1,op:=⟨by show 0≤x / 16777216;omega,by show x / 16777216<256;omega⟩ }
   · dsimp only
     split
     · exact⟨by omega,e4 ‹_›⟩
     · exact⟨by omega,by omega⟩
   · intro hop
     dsimp only at hop ⊢
     have hf:A2 (x / 16777216)=8:=by rcases hop with h|h <;> rw[h] <;> rfl
     rw[hf] at e5 e6 ⊢
     exact⟨e5,e6⟩
   · intro hop
     dsimp only at hop ⊢
     have hf:A2 (x / 16777216)=9:=by rcases hop with h|h <;> rw[h] <;> rfl
     rw[hf] at e5 e6 ⊢
     exact⟨e5,e6⟩
 · cases h
theorem byteIn_bd {x k v:Int} (h0:0≤x) (h1:x<4294967296) (k0:0≤k) (k1:k≤3):0≤ED x k v∧ED x k v<4294967296:=by
 unfold ED
 obtain rfl|rfl|rfl|rfl:k=0∨k=1∨k=2∨k=3:=by omega
 · show 0≤x - x / 1 % 256*1+v % 256*1∧x - x / 1 % 256*1+v % 256*1<4294967296;omega
 · show 0≤x - x / 256 % 256*256+v % 256*256∧x - x / 256 % 256*256+v % 256*256<4294967296;omega
 · show 0≤x - x / 65536 % 256*65536+v % 256*65536∧x - x / 65536 % 256*65536+v % 256*65536<4294967296;omega
 · show 0≤x - x / 16777216 % 256*16777216+v % 256*16777216∧x - x / 16777216 % 256*16777216+v % 256*16777216<4294967296;omega
theorem storeI_ok {xs:List Int} (h:MemOk xs) (a size:Int) {v:Int} (v0:0≤v) (v1:v<4294967296):MemOk (BO xs a size v)∧(BO xs a size v).length=xs.length:=by
 unfold BO
 refine ⟨?_,List.length_set ..⟩
 split
 · have hw:=Bg h.w (a / 4).toNat
   have:=byteIn_bd (v:=v) (k:=a % 4) hw.1 hw.2 (by omega) (by omega)
   exact h.set _ this.1 this.2
 · exact h.set _ v0 v1
theorem Cc (c xs:List Int) (x size acc:Int):(Ah c xs x size acc).2.1.length=xs.length:=by
 unfold Ah Dg
 split
 · rfl
 · split
   · cases Cb xs (rg c 23) x acc with
     | none=>rfl
     | some r=>exact List.length_set ..
   · split <;> rfl
theorem fetch_ok {c xs:List Int} (hc:CpuOk c) (hm:MemOk xs):MemOk (AM c xs).2.1∧(AM c xs).2.1.length=xs.length∧0≤(AM c xs).1∧(AM c xs).1<4294967296∧0≤(AM c xs).2.2∧(AM c xs).2.2<4294967296:=by
 obtain⟨hm',_,_,_,_,hk0,hk1⟩:=BE (acc:=1) (size:=4) hc hm (hc.at 16).1 (hc.at 16).2 (.inr rfl)
 have hl:=Cc c xs (rg c 16) 4 1
 unfold AM
 split
 · exact⟨hm',hl,z0,z1,hk0,hk1⟩
 · have hw:=Bg hm'.w ((Ah c xs (rg c 16) 4 1).1 / 4).toNat
   exact⟨hm',hl,hw.1,hw.2,z0,z1⟩
theorem loadC_ok {c xs:List Int} {i:In} (hc:CpuOk c) (hm:MemOk xs) (hi:i.Ok):CpuOk (C3 c xs i).1∧MemOk (C3 c xs i).2∧(C3 c xs i).2.length=xs.length:=by
 have hA:=As (rg c i.b.toNat+u32 i.imm)
 have hwd:An i.op=1∨An i.op=4:=by unfold An;split;exact .inr rfl;exact .inl rfl
 obtain⟨hm',_,_,_,_,hk0,hk1⟩:=BE (c:=c) (acc:=2) hc hm hA.1 hA.2 hwd
 have hl:=Cc c xs (u32 (rg c i.b.toNat+u32 i.imm)) (An i.op) 2
 unfold C3
 dsimp only
 split
 · exact⟨Fl hc hk0 hk1 hA.1 hA.2,hm',hl⟩
 · have hb:=Ff hm' (Ah c xs (u32 (rg c i.b.toNat+u32 i.imm)) (An i.op) 2).1 (An i.op)
   refine ⟨EK (Fo hc hi.a.1 hi.a.2 ?_ ?_) (As _).1 (As _).2,hm',hl⟩
   · split
     · unfold sx8;split <;> omega
     · exact hb.1
   · split
     · rename_i h33
       have:=hb.2.2 (by unfold An;rw[h33];rfl)
       unfold sx8;split <;> omega
     · exact hb.2.1
theorem storeC_ok {c xs:List Int} {i:In} (hc:CpuOk c) (hm:MemOk xs):CpuOk (BJ c xs i).1∧MemOk (BJ c xs i).2∧(BJ c xs i).2.length=xs.length:=by
 have hA:=As (rg c i.b.toNat+u32 i.imm)
 have hwd:An i.op=1∨An i.op=4:=by unfold An;split;exact .inr rfl;exact .inl rfl
 obtain⟨hm',_,_,_,_,hk0,hk1⟩:=BE (c:=c) (acc:=3) hc hm hA.1 hA.2 hwd
 have hl:=Cc c xs (u32 (rg c i.b.toNat+u32 i.imm)) (An i.op) 3
 unfold BJ
 dsimp only
 split
 · exact⟨Fl hc hk0 hk1 hA.1 hA.2,hm',hl⟩
 · have:=storeI_ok hm' (Ah c xs (u32 (rg c i.b.toNat+u32 i.imm)) (An i.op) 3).1 (An i.op) (hc.at i.a.toNat).1 (hc.at i.a.toNat).2
   exact⟨EK hc (As _).1 (As _).2,this.1,this.2.trans hl⟩
theorem runI_ok {c:List Int} {i:In} (hc:CpuOk c) (hi:i.Good):CpuOk (Ap c i).1∧EfOk (Ap c i).2:=by
 have ha:=hi.a;have hcs:=hi.csr;have hp:=hi.port
 have na:=hc.at i.a.toNat;have nb:=hc.at i.b.toNat
 show (fun r:List Int×Ef=>CpuOk r.1∧EfOk r.2) (Ap c i)
 generalize hP:(fun r:List Int×Ef=>CpuOk r.1∧EfOk r.2)=P
 have mk:∀ c' e,CpuOk c'→EfOk e→P (c',e):=fun c' e h1 h2=>by rw[←hP];exact⟨h1,h2⟩
 clear hP
 have e3:∀ k,k≠1→k≠2→EfOk ⟨k,0,0,0⟩:=fun k h1 h2=>⟨fun h=>absurd h h1,fun h=>absurd h h2⟩
 unfold Ap
 dsimp only
 refine By P (fun _=>mk _ _ (EK (Fo hc ha.1 ha.2 (As _).1 (As _).2) (As _).1 (As _).2) Dj) (fun _=>?_)
 refine By P (fun _=>mk _ _ (EK hc ?_ ?_) Dj) (fun _=>?_)
 · split <;> exact (As _).1
 · split <;> exact (As _).2
 refine By P (fun _=>mk _ _ (EK (Fo hc ha.1 ha.2 (As _).1 (As _).2) (As _).1 (As _).2) Dj) (fun _=>?_)
 refine By P (fun _=>mk _ _ (EK (Fo hc ha.1 ha.2 (As _).1 (As _).2) (As _).1 (As _).2) Dj) (fun _=>?_)
 refine By P (fun _=>mk _ _ (Fl hc (by decide) (by decide) (by decide) (by decide)) Dj) (fun _=>?_)
 refine By P (fun _=>mk _ _ (ret_ok hc) Dj) (fun _=>?_)
 refine By P (fun _=>mk _ _ (EK (Fo hc ha.1 ha.2 (hc.at _).1 (hc.at _).2) (As _).1 (As _).2) Dj) (fun _=>?_)
 refine By P (fun _=>mk _ _ (EK (writeC_ok hc na.1 na.2) (As _).1 (As _).2) Dj) (fun _=>?_)
 refine By P (fun h=>mk _ _ (EK hc (As _).1 (As _).2) ⟨fun _=>⟨(hp (.inl h)).1,(hp (.inl h)).2,ha.1,ha.2⟩,fun h=>absurd h (show (1:Int)≠2 by decide)⟩) (fun _=>?_)
 refine By P (fun h=>mk _ _ (EK hc (As _).1 (As _).2) ⟨fun h=>absurd h (show (2:Int)≠1 by decide),fun _=>⟨(hp (.inr h)).1,(hp (.inr h)).2,na.1,na.2⟩⟩) (fun _=>?_)
 refine By P (fun _=>mk _ _ (EK hc (As _).1 (As _).2) (e3 _ (by decide) (by decide))) (fun _=>?_)
 refine By P (fun _=>mk _ _ (EK hc (As _).1 (As _).2) (e3 _ (by decide) (by decide))) (fun _=>?_)
 refine By P (fun _=>mk _ _ (EK hc (As _).1 (As _).2) (e3 _ (by decide) (by decide))) (fun _=>?_)
 have al:=Jd i.op (b:=if i.op≤13 then rg c i.c.toNat else u32 i.imm) nb.1 nb.2
 exact mk _ _ (EK (Fo hc ha.1 ha.2 al.1 al.2) (As _).1 (As _).2) Dj
theorem EQ {c xs:List Int} (hc:CpuOk c) (hm:MemOk xs):CpuOk (Bn c xs).1∧MemOk (Bn c xs).2.1∧(Bn c xs).2.1.length=xs.length∧EfOk (Bn c xs).2.2:=by
 obtain⟨hm',hl,hw0,hw1,hk0,hk1⟩:=fetch_ok hc hm
 unfold Bn
 dsimp only
 split
 · exact⟨Fl hc hk0 hk1 (hc.at 16).1 (hc.at 16).2,hm',hl,Dj⟩
 · cases hd:C9 (AM c xs).1 with
   | none=>exact⟨Fl hc (by decide) (by decide) hw0 hw1,hm',hl,Dj⟩
   | some i =>
     have hi:=EA hw0 hw1 hd
     dsimp only
     split
     · exact⟨Fl hc (by decide) (by decide) hw0 hw1,hm',hl,Dj⟩
     split
     · have:=loadC_ok hc hm' hi.toOk
       exact⟨this.1,this.2.1,this.2.2.trans hl,Dj⟩
     split
     · have:=storeC_ok (i:=i) hc hm'
       exact⟨this.1,this.2.1,this.2.2.trans hl,Dj⟩
     · have:=runI_ok hc hi
       exact⟨this.1,hm',hl,this.2⟩
theorem cstore_trap {c xs m':List Int} {va:Value} {i:In} {A a k:Int} {w:World} (hc:CpuOk c) (ha:MemRow w va xs) (hm:MemOk xs) (hi:i.Ok) (hAu:A=u32 (rg c i.b.toNat+u32 i.imm)) (hr:Ah c xs A (An i.op) 3=(a,m',k)) (hk:k≠0) (hk0:0≤k) (hk1:k<4294967296) :
    Calls Tryz.prog 96 #[.agg (Ab c).toArray,va,.agg (inL i).toArray] w (AD (fun u=>.tuple #[.agg (Ab (AN c k A)).toArray,u]) m' w):=by
 obtain⟨D0,DI,D1,hb⟩:=EJ w c i
 have hcb:=(D0.cell i.b.toNat).trans (show (Ab c).toArray[i.b.toNat]?=some (.int .u32 (rg c i.b.toNat)) by rw[List.getElem?_toArray];exact AB hc.len (by have:=hi.b;omega))
 have hi2:=(DI.cell 2).trans (show (inL i).toArray[2]?=some (.int .i64 i.b) from rfl)
 have hi4:=(DI.cell 4).trans (show (inL i).toArray[4]?=some (.int .i32 i.imm) from rfl)
 have hA:(rg c i.b.toNat+i.imm % 4294967296) % 4294967296=A:=by rw[hAu];unfold u32;rw[IntKind.wrap_u32,IntKind.wrap_u32]
 have hA0:0≤A∧A<4294967296:=by omega
 have hwd:An i.op=1∨An i.op=4:=by unfold An;split;exact .inr rfl;exact .inl rfl
 have R:=fun w h=>DN (c:=c) (xs:=xs) (va:=va) (x:=A) (size:=An i.op) (acc:=3) (w:=w) hc h hm hA0.1 hA0.2 (by decide) (by decide) hwd
 rw[hr] at R
 dsimp only at R
 have HR:=lh R;clear R
 have HA:=lh ha;clear ha
 have WD:=fun w=>Gd i.op w
 have HWD:=lh WD;clear WD
 have HHA:=lh hA;clear hA hAu hr
 have hb0:=hi.b.1
 have hb1:=hi.b.2
 have hl0:=D0.lt
 have hlI:=DI.lt
 have hk':(k != 0)=true:=by simpa using hk
 have TR:=fun w=>Eq c k A w hc hk0 hk1
 have HTR:=lh TR
 clear TR hm hk
 go_in
 go_wp2_with fail
 generalize ((w.alloc (.cells (Ab c).toArray 29)).alloc (.cells (inL i).toArray 180)).alloc (.cells #[.int .u32 0,.int .u32 0,.int .u32 0,.int .u32 0,.int .u32 0,.int .u32 0,.int .u32 0,.int .u32 0,.int .u32 0,.int .u32 0,.int .u32 0,.int .u32 0,.int .u32 0,.int .u32 0,.int .u32 0,.int .u32 0,.int .u32 0,.int .u32 0,.int .u32 0,.int .u32 0,.int .u32 0,.int .u32 0,.int .u32 0,.int .u32 0,.int .u32 0] 29)=w0 at *
 refine wp_region_quiet_below (by kernel_rfl) (by kernel_rfl) ?_
 repeat (go_big_quiet_step (first|fail|fail))
 refine wpQuiet_nil ?_
 intro w1 hw1
 have hb1:=Aa hw1
 clear hw1
 obtain⟨hc1,hf1⟩:=Cn hb1
 have hz1:=BH hb1
 try simp only[Bo] at hz1
 try simp only[sizes] at hc1 hf1
 rw[HHA.out]
 replace D0:=D0.below hb1
 replace DI:=DI.below hb1
 replace D1:=D1.below hb1
 replace hb:=hb.trans (hb1.mono hb.size)
 clear hcb hi2 hi4 hc1 hf1 hz1 hb1 hl0 hlI hb0
 have hl1:=D1.lt
 have hlI:=DI.lt
 have hl0:=D0.lt
 have hi0:=(DI.cell 0).trans (show (inL i).toArray[0]?=some (.int .i64 i.op) from rfl)
 have hcj:∀ j,j<25→w1.cell? ⟨w.heap.size,j,none⟩=some (.int .u32 (rg c j)):=fun j hj=>(D0.cell j).trans (by rw[List.getElem?_toArray];exact AB hc.len hj)
 have hrule:∀ w':World,Below w1.heap.size w1 w'→∀ b o,b<w1.heap.size→w'.cell? ⟨b,o,none⟩=w1.cell? ⟨b,o,none⟩:=fun w' h b o hlt=>h.cell (p:=⟨b,o,none⟩) hlt
 go_wp2_with fail
 refine wp_region_held_drew (S:=fun w'=>Below w1.heap.size w1 w') (by kernel_rfl) bel3 (fun hHeld=>?_)
 refine wpAnyH_take (i:=0) (v:=.agg (Ab c).toArray) rfl (by kernel_rfl) (by kernel_rfl) (by kernel_rfl) (fun _ _ _ h=>h) (yieldsIf_load_mid (by rfl) 29 _ rfl _ 0 rfl (Ab c) _ (fun w' h=>(D0.below h).range 0 _ (fun j v hv=>by rw[Nat.zero_add];exact hv)) Tryz.underlying29 rfl Av) (by assumption) ?_
 (try simp only[List.getElem_toArray,List.getElem_cons_succ,List.getElem_cons_zero,Act.put,List.setIfInBounds_toArray,List.set_cons_zero,List.set_cons_succ])
 refine Z1 (i:=1) ?_
 refine Z1 (i:=2) ?_
 refine Z1 (i:=3) ?_
 refine Z1 (i:=4) ?_
 refine wpAnyH_ready (rs:=[5]) (by kernel_rfl) (by simp) ?_
 refine AllReadyH.cons rfl (fun K hK=>?_) AllReadyH.nil
 go_simp
 ((with_reducible refine (HWD.out _).mono ?_);rintro e wz ⟨rfl,rfl⟩;go_simp)
 refine hK.out _ _ (by assumption) (fun hHeld'=>?_)
 replace hHeld:=hHeld'
 clear hK K hHeld'
 (try simp only[List.getElem_toArray,List.getElem_cons_succ,List.getElem_cons_zero,Act.put,List.setIfInBounds_toArray,List.set_cons_zero,List.set_cons_succ])
 refine wpAnyH_ready (rs:=[6]) (by kernel_rfl) (by simp) ?_
 refine AllReadyH.cons rfl (fun K hK=>?_) AllReadyH.nil
 go_simp
 ((with_reducible refine (HR.out _ (HA.out.below (hb.trans (Below.mono hHeld hb.size)))).mono ?_);rintro e w5 ⟨v5,rfl,ho5,hb5⟩;go_simp)
 refine hK.out _ _ (by exact hHeld.trans (hb5.mono hHeld.size)) (fun hHeld'=>?_)
 replace hHeld:=hHeld'
 clear hK K hHeld'
 (try simp only[List.getElem_toArray,List.getElem_cons_succ,List.getElem_cons_zero,Act.put,List.setIfInBounds_toArray,List.set_cons_zero,List.set_cons_succ])
 refine Z1 (i:=7) ?_
 refine Z1 (i:=8) ?_
 refine Z1 (i:=9) ?_
 refine Z1 (i:=10) ?_
 refine Z1 (i:=11) ?_
 refine Z1 (i:=12) ?_
 refine Z1 (i:=13) ?_
 refine ZD ?_
 have h15:Below w1.heap.size w1 w5:=hHeld
 have ho6:=ho5.lower (base':=w.heap.size) (by have:=hb.size;first|omega|(simp only[sizes];omega))
 replace hb:=hb.trans (h15.mono hb.size)
 replace D0:=D0.below h15
 replace DI:=DI.below h15
 replace D1:=D1.below h15
 clear hcj hrule hi0 HR hb5 ho5 h15 hHeld hl0 hl1 hlI
 have hl1:=D1.lt
 have hlI:=DI.lt
 have hl0:=D0.lt
 go_wp2_with (first|(refine Bt c D0 rfl rfl rfl rfl ?_)|(go_at_call 90;(with_reducible refine (HTR.out _).mono ?_);rintro e w6 ⟨rfl,hb6⟩;replace D1:=D1.below hb6;replace hb:=hb.trans (hb6.mono hb.size);have ho6:=ho6.below hb6)|(refine BW (AN c k A) D1 rfl rfl rfl rfl (by decide) ?_;intro w7 D1' N1;replace ho6:=ho6.but D1 (by decide) N1;replace D1:=D1';clear D1';replace hb:=N1.below hb (by omega)))
 have hl:=D1.loadCpu
 exact bodyPost_ret (v:=.tuple #[.agg (Ab (AN c k A)).toArray,v5]) (by simp [results,Tryz.results96,asAddr,hl]) rfl ⟨v5,rfl,ho6,hb⟩
theorem cstore_ok {c xs m' m2:List Int} {va:Value} {i:In} {A a:Int} {w:World} (hc:CpuOk c) (ha:MemRow w va xs) (hm:MemOk xs) (hi:i.Ok) (hAu:A=u32 (rg c i.b.toNat+u32 i.imm)) (hr:Ah c xs A (An i.op) 3=(a,m',0)) (hm':MemOk m') (ha0:0≤a) (ha1:a<4294967296)
    (hin:inB m' a (An i.op)=true) (hx:BO m' a (An i.op) (rg c i.a.toNat)=m2) :
    Calls Tryz.prog 96 #[.agg (Ab c).toArray,va,.agg (inL i).toArray] w (AD (fun u=>.tuple #[.agg (Ab (c.set 16 (BU c))).toArray,u]) m2 w):=by
 obtain⟨D0,DI,D1,hb⟩:=EJ w c i
 have hcb:=(D0.cell i.b.toNat).trans (show (Ab c).toArray[i.b.toNat]?=some (.int .u32 (rg c i.b.toNat)) by rw[List.getElem?_toArray];exact AB hc.len (by have:=hi.b;omega))
 have hi2:=(DI.cell 2).trans (show (inL i).toArray[2]?=some (.int .i64 i.b) from rfl)
 have hi4:=(DI.cell 4).trans (show (inL i).toArray[4]?=some (.int .i32 i.imm) from rfl)
 have hA:(rg c i.b.toNat+i.imm % 4294967296) % 4294967296=A:=by rw[hAu];unfold u32;rw[IntKind.wrap_u32,IntKind.wrap_u32]
 have hA0:0≤A∧A<4294967296:=by omega
 have hwd:An i.op=1∨An i.op=4:=by unfold An;split;exact .inr rfl;exact .inl rfl
 have R:=fun w h=>DN (c:=c) (xs:=xs) (va:=va) (x:=A) (size:=An i.op) (acc:=3) (w:=w) hc h hm hA0.1 hA0.2 (by decide) (by decide) hwd
 rw[hr] at R
 dsimp only at R
 have HR:=lh R;clear R
 have HA:=lh ha;clear ha
 have WD:=fun w=>Gd i.op w
 have HWD:=lh WD;clear WD
 have HHA:=lh hA;clear hA hAu hr
 have hb0:=hi.b.1
 have hb1:=hi.b.2
 have hl0:=D0.lt
 have hlI:=DI.lt
 have ST:=fun w u h=>mstore_yes u m' a (An i.op) (rg c i.a.toNat) w h hm' ha0 ha1 hwd hin (hc.at _).1 (hc.at _).2
 rw[hx] at ST
 have HST:=lh ST
 obtain⟨Z,hZ⟩:∃ z,c.set 16 (BU c)=z:=⟨_,rfl⟩
 have hz:Ab Z=(Ab c).set 16 (.int .u32 ((rg c 16+4) % 4294967296)):=by
  rw[←hZ,←Ak hc.len]
  unfold BU u32
  rw[IntKind.wrap_u32]
 rw[hZ]
 have HZ:=lh hz
 have hia0:=hi.a.1
 have hia1:i.a<16:=by have:=hi.a.2;omega
 clear ST hm hin hx hm' hz hZ
 go_in
 go_wp2_with fail
 generalize ((w.alloc (.cells (Ab c).toArray 29)).alloc (.cells (inL i).toArray 180)).alloc (.cells #[.int .u32 0,.int .u32 0,.int .u32 0,.int .u32 0,.int .u32 0,.int .u32 0,.int .u32 0,.int .u32 0,.int .u32 0,.int .u32 0,.int .u32 0,.int .u32 0,.int .u32 0,.int .u32 0,.int .u32 0,.int .u32 0,.int .u32 0,.int .u32 0,.int .u32 0,.int .u32 0,.int .u32 0,.int .u32 0,.int .u32 0,.int .u32 0,.int .u32 0] 29)=w0 at *
 refine wp_region_quiet_below (by kernel_rfl) (by kernel_rfl) ?_
 repeat (go_big_quiet_step (first|fail|fail))
 refine wpQuiet_nil ?_
 intro w1 hw1
 have hb1:=Aa hw1
 clear hw1
 obtain⟨hc1,hf1⟩:=Cn hb1
 have hz1:=BH hb1
 try simp only[Bo] at hz1
 try simp only[sizes] at hc1 hf1
 rw[HHA.out]
 replace D0:=D0.below hb1
 replace DI:=DI.below hb1
 replace D1:=D1.below hb1
 replace hb:=hb.trans (hb1.mono hb.size)
 clear hcb hi2 hi4 hc1 hf1 hz1 hb1 hl0 hlI hb0
 have hl1:=D1.lt
 have hlI:=DI.lt
 have hl0:=D0.lt
 have hi0:=(DI.cell 0).trans (show (inL i).toArray[0]?=some (.int .i64 i.op) from rfl)
 have hcj:∀ j,j<25→w1.cell? ⟨w.heap.size,j,none⟩=some (.int .u32 (rg c j)):=fun j hj=>(D0.cell j).trans (by rw[List.getElem?_toArray];exact AB hc.len hj)
 have hrule:∀ w':World,Below w1.heap.size w1 w'→∀ b o,b<w1.heap.size→w'.cell? ⟨b,o,none⟩=w1.cell? ⟨b,o,none⟩:=fun w' h b o hlt=>h.cell (p:=⟨b,o,none⟩) hlt
 go_wp2_with fail
 refine wp_region_held_drew (S:=fun w'=>Below w1.heap.size w1 w') (by kernel_rfl) bel3 (fun hHeld=>?_)
 refine wpAnyH_take (i:=0) (v:=.agg (Ab c).toArray) rfl (by kernel_rfl) (by kernel_rfl) (by kernel_rfl) (fun _ _ _ h=>h) (yieldsIf_load_mid (by rfl) 29 _ rfl _ 0 rfl (Ab c) _ (fun w' h=>(D0.below h).range 0 _ (fun j v hv=>by rw[Nat.zero_add];exact hv)) Tryz.underlying29 rfl Av) (by assumption) ?_
 (try simp only[List.getElem_toArray,List.getElem_cons_succ,List.getElem_cons_zero,Act.put,List.setIfInBounds_toArray,List.set_cons_zero,List.set_cons_succ])
 refine Z1 (i:=1) ?_
 refine Z1 (i:=2) ?_
 refine Z1 (i:=3) ?_
 refine Z1 (i:=4) ?_
 refine wpAnyH_ready (rs:=[5]) (by kernel_rfl) (by simp) ?_
 refine AllReadyH.cons rfl (fun K hK=>?_) AllReadyH.nil
 go_simp
 ((with_reducible refine (HWD.out _).mono ?_);rintro e wz ⟨rfl,rfl⟩;go_simp)
 refine hK.out _ _ (by assumption) (fun hHeld'=>?_)
 replace hHeld:=hHeld'
 clear hK K hHeld'
 (try simp only[List.getElem_toArray,List.getElem_cons_succ,List.getElem_cons_zero,Act.put,List.setIfInBounds_toArray,List.set_cons_zero,List.set_cons_succ])
 refine wpAnyH_ready (rs:=[6]) (by kernel_rfl) (by simp) ?_
 refine AllReadyH.cons rfl (fun K hK=>?_) AllReadyH.nil
 go_simp
 ((with_reducible refine (HR.out _ (HA.out.below (hb.trans (Below.mono hHeld hb.size)))).mono ?_);rintro e w5 ⟨v5,rfl,ho5,hb5⟩;go_simp)
 refine hK.out _ _ (by exact hHeld.trans (hb5.mono hHeld.size)) (fun hHeld'=>?_)
 replace hHeld:=hHeld'
 clear hK K hHeld'
 (try simp only[List.getElem_toArray,List.getElem_cons_succ,List.getElem_cons_zero,Act.put,List.setIfInBounds_toArray,List.set_cons_zero,List.set_cons_succ])
 refine Z1 (i:=7) ?_
 refine Z1 (i:=8) ?_
 refine Z1 (i:=9) ?_
 refine Z1 (i:=10) ?_
 refine Z1 (i:=11) ?_
 refine Z1 (i:=12) ?_
 refine Z1 (i:=13) ?_
 refine ZD ?_
 have h15:Below w1.heap.size w1 w5:=hHeld
 have ho6:=ho5.lower (base':=w.heap.size) (by have:=hb.size;first|omega|(simp only[sizes];omega))
 replace hb:=hb.trans (h15.mono hb.size)
 replace D0:=D0.below h15
 replace DI:=DI.below h15
 replace D1:=D1.below h15
 clear hcj hrule hi0 HR hb5 ho5 h15 hHeld hl0 hl1 hlI
 have hl1:=D1.lt
 have hlI:=DI.lt
 have hl0:=D0.lt
 have hi0:=(DI.cell 0).trans (show (inL i).toArray[0]?=some (.int .i64 i.op) from rfl)
 have hi1:=(DI.cell 1).trans (show (inL i).toArray[1]?=some (.int .i64 i.a) from rfl)
 have hca:=(D0.cell i.a.toNat).trans (show (Ab c).toArray[i.a.toNat]?=some (.int .u32 (rg c i.a.toNat)) by rw[List.getElem?_toArray];exact AB hc.len (by omega))
 have hrule:∀ w':World,Below w5.heap.size w5 w'→∀ b o,b<w5.heap.size→w'.cell? ⟨b,o,none⟩=w5.cell? ⟨b,o,none⟩:=fun w' h b o hlt=>h.cell (p:=⟨b,o,none⟩) hlt
 go_wp2_with fail
 refine wp_region_held_drew (S:=fun w'=>Below w5.heap.size w5 w') (by kernel_rfl) bel3 (fun hHeld=>?_)
 refine Z1 (i:=0) ?_
 refine Z1 (i:=1) ?_
 refine Z1 (i:=2) ?_
 refine Z1 (i:=3) ?_
 refine Z1 (i:=5) ?_
 refine Z1 (i:=6) ?_
 refine Z1 (i:=7) ?_
 refine Z1 (i:=8) ?_
 refine Z1 (i:=9) ?_
 refine wpAnyH_ready (rs:=[4]) (by kernel_rfl) (by simp) ?_
 refine AllReadyH.cons rfl (fun K hK=>?_) AllReadyH.nil
 go_simp
 ((with_reducible refine (HWD.out _).mono ?_);rintro e wz ⟨rfl,rfl⟩;go_simp)
 refine hK.out _ _ (by assumption) (fun hHeld'=>?_)
 replace hHeld:=hHeld'
 clear hK K hHeld'
 (try simp only[List.getElem_toArray,List.getElem_cons_succ,List.getElem_cons_zero,Act.put,List.setIfInBounds_toArray,List.set_cons_zero,List.set_cons_succ])
 refine wpAnyH_ready (rs:=[10]) (by kernel_rfl) (by simp) ?_
 refine AllReadyH.cons rfl (fun K hK=>?_) AllReadyH.nil
 go_simp
 ((with_reducible refine (HST.out _ _ (ho6.below hHeld).row).mono ?_);rintro e w6 ⟨v6,rfl,ho7,hb7⟩;go_simp)
 refine hK.out _ _ (by exact hHeld.trans (hb7.mono hHeld.size)) (fun hHeld'=>?_)
 replace hHeld:=hHeld'
 clear hK K hHeld'
 (try simp only[List.getElem_toArray,List.getElem_cons_succ,List.getElem_cons_zero,Act.put,List.setIfInBounds_toArray,List.set_cons_zero,List.set_cons_succ])
 refine Z1 (i:=11) ?_
 refine Z1 (i:=12) ?_
 refine Z1 (i:=13) ?_
 refine Z1 (i:=14) ?_
 refine ZD ?_
 have h15:Below w5.heap.size w5 w6:=hHeld
 have ho8:=ho7.lower (base':=w.heap.size) (by have:=hb.size;first|omega|(simp only[sizes];omega))
 replace hb:=hb.trans (h15.mono hb.size)
 replace D0:=D0.below h15
 replace D1:=D1.below h15
 clear hi0 hi1 hca hrule HST hb7 ho7 h15 hHeld ho6 hl0 hl1 hlI DI HWD
 have hl1:=D1.lt
 have hl0:=D0.lt
 go_wp2_with (first|(refine AA (ty:=25) _ D0 rfl rfl rfl Tryz.underlying25 rfl rfl ?_)|(refine A3 (ty:=25) (.int .u32 ((rg c 16+4) % 4294967296)) D0 rfl rfl rfl rfl rfl Bj rfl ?_;intro w9 D9 N9;have D1:=N9.block D1 (by omega);replace ho8:=ho8.but D0 (by decide) N9;replace hb:=N9.below hb (by omega);replace D0:=D9)|(refine Bt Z D0 rfl rfl rfl (by show List.take 25 _=_;rw[HZ.out];rfl) ?_)|(refine BW Z D1 rfl rfl rfl rfl (by decide) ?_;intro w10 D10 N10;replace ho8:=ho8.but D1 (by decide) N10;replace D1:=D10;replace hb:=N10.below hb (by omega)))
 have hl:=D1.loadCpu
 exact bodyPost_ret (v:=.tuple #[.agg (Ab Z).toArray,v6]) (by simp [results,Tryz.results96,asAddr,hl]) rfl ⟨v6,rfl,ho8,hb⟩
theorem cstore_any {c xs:List Int} {va:Value} {i:In} {w:World} (hc:CpuOk c) (ha:MemRow w va xs) (hm:MemOk xs) (hi:i.Ok) :
    Calls Tryz.prog 96 #[.agg (Ab c).toArray,va,.agg (inL i).toArray] w (AD (fun u=>.tuple #[.agg (Ab (BJ c xs i).1).toArray,u]) (BJ c xs i).2 w):=by
 have hA0:=As (rg c i.b.toNat+u32 i.imm)
 have hwd:An i.op=1∨An i.op=4:=by unfold An;split;exact .inr rfl;exact .inl rfl
 obtain⟨hm',_,ha0,ha1,hin,hk0,hk1⟩:=BE (c:=c) (acc:=3) hc hm hA0.1 hA0.2 hwd
 unfold BJ
 dsimp only
 generalize hr:Ah c xs (u32 (rg c i.b.toNat+u32 i.imm)) (An i.op) 3=r at *
 obtain⟨a,m',k⟩:=r
 dsimp only at *
 by_cases hk:k=0
 · subst hk
   rw[if_neg (by decide)]
   exact cstore_ok hc ha hm hi rfl hr hm' ha0 ha1 (hin rfl) rfl
 · rw[if_pos hk]
   exact cstore_trap hc ha hm hi rfl hr hk hk0 hk1
structure RowBx (n cap size:Nat) (cur xs:List Value):Prop where
 le:n≤cap
 max:cap≤maxLen
 len:cur.length=cap*size
 cut:cur.take (n*size)=xs
 own:xs.length=n*size
section
variable {w0 w w':World} {l:List Bx}
theorem Lay.row {e:TypeId} {size n:Nat} {v:Value} {xs:List Value} (L:Lay w0 w l) (h:w'.ownsRow w.heap.size e size v n xs) (hn:0<n) (hb:Below w.heap.size w w') :
    ∃ g cap cur,v=.slice (some ⟨g,0,none⟩) n cap∧RowBx n cap size cur xs∧Lay w0 w' (⟨g,cur,e⟩ :: l):=by
 obtain⟨hl,h⟩:=h
 rcases h with ⟨_,h⟩|⟨g,cap,cur,rfl,hg0,hg,h1,h2,h3,h4⟩
 · omega
 · have L':=L.below hb
   refine ⟨g,cap,cur.toList,rfl,⟨h1,h2,by rw[Array.length_toList];exact h3,h4,hl⟩,L'.bel,fun x hx=>?_,List.Pairwise.cons (fun b hb'=>?_) L'.dif⟩
   · rcases List.mem_cons.1 hx with rfl|hx
     · exact⟨hg,Nat.le_trans L.bel.size hg0⟩
     · exact L'.has x hx
   · obtain⟨x,hx,rfl⟩:=List.mem_map.1 hb'
     have:=(L.has x hx).1.lt
     show g>x.b
     omega
theorem RowBx.owns {e:TypeId} {size n cap g k:Nat} {cur xs:List Value} (R:RowBx n cap size cur xs) (L:Lay w0 w l) (hk:l[k]?=some ⟨g,cur,e⟩):w.ownsRow w0.heap.size e size (.slice (some ⟨g,0,none⟩) n cap) n xs :=
 ⟨R.own,.inr ⟨g,cap,cur.toArray,rfl,L.old hk,L.at hk,R.le,R.max,by rw[List.size_toArray];exact R.len,R.cut⟩⟩
theorem Lay.mem {v:Value} {xs:List Int} {n:Nat} (hn:xs.length=n) (L:Lay w0 w l) (h:OwnMem w.heap.size w' v xs) (hb:Below w.heap.size w w') :
    ∃ g cap cur,v=.slice (some ⟨g,0,none⟩) n cap∧RowBx n cap 1 cur (words xs)∧Lay w0 w' (⟨g,cur,25⟩ :: l):=by subst hn;exact L.row h.1 h.2 hb
theorem RowBx.mem {n cap g k:Nat} {cur:List Value} {xs:List Int} (hn:xs.length=n) (R:RowBx n cap 1 cur (words xs)) (h0:0<n) (L:Lay w0 w l) (hk:l[k]?=some ⟨g,cur,25⟩):OwnMem w0.heap.size w (.slice (some ⟨g,0,none⟩) n cap) xs:=by
 subst hn;exact⟨R.owns L hk,h0⟩
section
variable {P:Program} {ops:Array Oper} {rest:List Oper} {op:Oper} {a:Act} {Q:Exit→Act→World→Prop} {B o:Nat} {T ty:TypeId} {x y:Operand} {cs:List Value} {d:TypeDesc}
theorem Bw (L:Lay w0 w l) (k:Nat) (hk:l[k]?=some ⟨B,cs,T⟩) (vs:List Value)
    (hw:Region.wanted op (yielded ops a.tmps)=true) (ho:op.op=.load ty x) (hx:a.eval x=.pointer (some ⟨B,o,none⟩))
    (hu:P.underlying ty=some d) (hd:d.isRow=true) (hi:(P.info? ty).map (·.size)=some vs.length) (hv:(cs.drop o).take vs.length=vs)
    (h:wpList P ops Q rest (a.put op.dst (.agg vs.toArray)) w):wpList P ops Q (op :: rest) a w :=
 wpList_step fun K hK=>by
  rw[if_pos hw]
  exact wp_load_mid ty x ho B o hx vs d ((L.at hk).range o vs (De hv)) hu hd hi (hK _ _ h)
theorem Ca {j:Nat} {u:Value} (L:Lay w0 w l) (k:Nat) (hk:l[k]?=some ⟨B,cs,T⟩)
    (hw:Region.wanted op (yielded ops a.tmps)=true) (ho:op.op=.load ty x) (hx:a.eval x=.pointer (some ⟨B,j,none⟩))
    (hu:P.underlying ty=some d) (hd:d.isRow=false) (hv:cs[j]?=some u)
    (h:wpList P ops Q rest (a.put op.dst u) w):wpList P ops Q (op :: rest) a w :=
 wpList_step fun K hK=>by
  rw[if_pos hw]
  have hl:(loadVar ty ⟨B,j,none⟩).run P w=.ok u w:=by
   have hc:w.cell? ⟨B,j,none⟩=some u:=by rw[(L.at hk).cell,List.getElem?_toArray];exact hv
   exact Xz42
  unfold Oper.wp execOp
  simp only[ho,hx,Instr.loadAt,Instr.sureAddr,Sem.run_bind,Sem.run_pure,Result.andThen_ok,hl]
  exact hK _ _ h
end
end
universe v
theorem s0 {α:Type v} {a b:α} {l:List α}:(a :: l).set 0 b=b :: l:=rfl
theorem s1 {α:Type v} {a b:α} {l:List α} {n:Nat}:(a :: l).set (n+1) b=a :: l.set n b:=rfl
theorem q1 {α:Type v} {xs:List α} {i:Nat} (h:i<xs.toArray.size):xs.toArray[i]=xs[i]:=rfl
theorem q2 {α:Type v} {a:α} {l:List α} {n:Nat} (h:n+1<(a :: l).length):(a :: l)[n+1]=l[n]'(Nat.lt_of_succ_lt_succ h):=rfl
theorem q3 {α:Type v} {a:α} {l:List α} (h:0<(a :: l).length):(a :: l)[0]=a:=rfl
theorem q4 {α:Type v} {l:List α} {i:Nat} {a:α}:l.toArray.setIfInBounds i a=(l.set i a).toArray:=List.setIfInBounds_toArray ..
section
variable {P:Program} {w0 w:World} {l l':List Bx} {ops:Array Oper} {rest:List Oper} {op:Oper} {a:Act} {Q:Exit→Act→World→Prop} {B o:Nat} {T ty:TypeId} {x y:Operand} {cs cs':List Value} {d:TypeDesc}
theorem zld {j:Nat} {u:Value} (hu:P.underlying ty=some d) (L:Lay w0 w l) (k:Nat) (h:wpList P ops Q rest (a.put op.dst u) w) (hk:l[k]?=some ⟨B,cs,T⟩:=by exact rfl)
    (hgd:op.guard=none:=by exact rfl) (ho:op.op=.load ty x:=by exact rfl) (hx:a.eval x=.pointer (some ⟨B,j,none⟩):=by exact rfl)
    (hd:d.isRow=false:=by exact rfl) (hv:cs[j]?=some u:=by exact rfl):wpList P ops Q (op :: rest) a w:=A7 L k hk hgd ho hx hu hd hv h
theorem zlg {j:Nat} {u:Value} (hu:P.underlying ty=some d) (L:Lay w0 w l) (k:Nat) (h:wpList P ops Q rest (a.put op.dst u) w) (hk:l[k]?=some ⟨B,cs,T⟩:=by exact rfl)
    (hw:Region.wanted op (yielded ops a.tmps)=true:=by rfl) (ho:op.op=.load ty x:=by exact rfl) (hx:a.eval x=.pointer (some ⟨B,j,none⟩):=by exact rfl)
    (hd:d.isRow=false:=by exact rfl) (hv:cs[j]?=some u:=by exact rfl):wpList P ops Q (op :: rest) a w:=Ca L k hk hw ho hx hu hd hv h
theorem zlq {C:World→Prop} {K:Act→Prop} {j:Nat} {u:Value} (hu:P.underlying ty=some d) (L:Lay w0 w l) (k:Nat) (h:K (a.put op.dst u)) (hC:∀ w',C w'→Below w.heap.size w w':=by exact fun _ h=>Aa h) (hk:l[k]?=some ⟨B,cs,T⟩:=by exact rfl)
    (ho:op.op=.load ty x:=by exact rfl) (hx:a.eval x=.pointer (some ⟨B,j,none⟩):=by exact rfl)
    (hd:d.isRow=false:=by exact rfl) (hv:cs[j]?=some u:=by exact rfl):op.quiet P a C K:=AK L hC k hk ho hx hu hd hv h
theorem zlp {n:Nat} (hu:P.underlying ty=some d) (hi:(P.info? ty).map (·.size)=some n) (L:Lay w0 w l) (k:Nat) (vs:List Value) (h:wpList P ops Q rest (a.put op.dst (.agg vs.toArray)) w) (hk:l[k]?=some ⟨B,cs,T⟩:=by exact rfl)
    (hgd:op.guard=none:=by exact rfl) (ho:op.op=.load ty x:=by exact rfl) (hx:a.eval x=.pointer (some ⟨B,o,none⟩):=by exact rfl)
    (hd:d.isRow=true:=by exact rfl) (hn:n=vs.length:=by exact rfl) (hv:(cs.drop o).take vs.length=vs:=by exact rfl):wpList P ops Q (op :: rest) a w :=
 AQ L k hk vs hgd ho hx hu hd (hi.trans (congrArg some hn)) hv h
theorem zsp {n:Nat} (hi:(P.info? ty).map (·.size)=some n) (L:Lay w0 w l) (k:Nat) (vs cs':List Value) (h1:∀ v∈vs,v.oneCell'=true) (h:∀ w',Lay w0 w' l'→wpList P ops Q rest (a.put op.dst undef) w') (hk:l[k]?=some ⟨B,cs,T⟩:=by exact rfl)
    (hgd:op.guard=none:=by exact rfl) (ho:op.op=.store ty x y:=by exact rfl) (hx:a.eval x=.pointer (some ⟨B,o,none⟩):=by exact rfl) (hy:a.eval y=.agg vs.toArray:=by exact rfl)
    (hnn:n=vs.length:=by exact rfl) (hn:Nat.ble (o+vs.length) cs.length=true:=by exact rfl) (hp:Dt cs o vs=cs':=by exact rfl) (hl:l.set k ⟨B,cs',T⟩=l':=by first|(simp only[List.set_cons_zero,List.set_cons_succ];exact rfl)|exact rfl):wpList P ops Q (op :: rest) a w :=
 Ag L k hk vs cs' hgd ho hx hy (hi.trans (congrArg some hnn)) h1 hn hp (fun w' L' _=>h w' (hl ▸ L'))
theorem zsc {j:Nat} {u:Value} (hi:(P.info? ty).map (·.size)=some 1) (L:Lay w0 w l) (k:Nat) (cs':List Value) (h:∀ w',Lay w0 w' l'→wpList P ops Q rest (a.put op.dst undef) w') (hk:l[k]?=some ⟨B,cs,T⟩:=by exact rfl)
    (hgd:op.guard=none:=by exact rfl) (ho:op.op=.store ty x y:=by exact rfl) (hx:a.eval x=.pointer (some ⟨B,j,none⟩):=by exact rfl) (hy:a.eval y=u:=by exact rfl)
    (h1:u.oneCell'=true:=by exact rfl) (hn:Nat.blt j cs.length=true:=by exact rfl) (hp:cs.set j u=cs':=by exact rfl) (hl:l.set k ⟨B,cs',T⟩=l':=by first|(simp only[List.set_cons_zero,List.set_cons_succ];exact rfl)|exact rfl):wpList P ops Q (op :: rest) a w :=
 Aq L k hk cs' hgd ho hx hy hi h1 hn hp (fun w' L' _=>h w' (hl ▸ L'))
theorem zal (L:Lay w0 w l) (zs:List Value) (h:∀ w',Lay w0 w' (⟨w.heap.size,zs,ty⟩ :: l)→wpList P ops Q rest (a.put op.dst (.pointer (some ⟨w.heap.size,0,none⟩))) w') (hgd:op.guard=none:=by exact rfl) (ho:op.op=.alloc ty:=by exact rfl)
    (hz:(P.info? ty).map (·.zero)=some (some (.agg zs.toArray)):=by kernel_rfl):wpList P ops Q (op :: rest) a w :=
 AF L zs (.agg zs.toArray) hgd ho hz rfl (fun w' L' _=>h w' L')
theorem zbx (L:Lay w0 w l) (vs:List Value) (h:∀ w',Lay w0 w' (⟨w.heap.size,vs,ty⟩ :: l)→wpList P ops Q rest (a.put op.dst (.pointer (some ⟨w.heap.size,0,none⟩))) w') (hgd:op.guard=none:=by exact rfl) (ho:op.op=.box ty x:=by exact rfl) (hx:a.eval x=.agg vs.toArray:=by exact rfl) :
    wpList P ops Q (op :: rest) a w:=JD L vs hgd ho hx (fun w' L' _=>h w' L')
theorem zcl {f:FuncId} {args:Array Value} {v:Value} {K:Ending→World→Prop} (L:Lay w0 w l) (hc:Calls P f args w (Ret w v)) (h:∀ w',Lay w0 w' l→K (.returned v) w'):Calls P f args w K :=
 hc.mono fun e w' hr=>by obtain⟨rfl,hb⟩:=hr;exact h w' (L.below hb)
theorem zcs {f:FuncId} {args:Array Value} {v:Value} {K:Ending→World→Prop} (hc:Calls P f args w (Same w v)) (h:K (.returned v) w):Calls P f args w K :=
 hc.mono fun e w' hr=>by obtain⟨rfl,rfl⟩:=hr;exact h
end
section
variable {P:Program} {w0 w:World} {l sub:List Bx} {ops:Array Oper} {op:Oper} {a a':Act} {Q:Exit→Act→World→Prop} {B o:Nat} {T ty:TypeId} {x:Operand} {cs:List Value} {d:TypeDesc} {S:World→Prop} {md:Region.Mode}
theorem ztk {i:Nat} {oi:Oper} {v:Value} {fuel:Nat} {listed:Array Bool} (h:wpAnyH P md ops Q S fuel (listed.setIfInBounds i true) a' w) (hi:ops[i]?=some oi:=by exact rfl)
    (hs:Region.noSelect ops=true:=by kernel_rfl) (hf:Region.free md ops listed i=true:=by kernel_rfl) (hr:(Region.ready md ops listed).contains i=true:=by kernel_rfl)
    (hQ:∀ c a w,Q (.panic c) (a.put oi.dst v) w→Q (.panic c) a w:=by exact fun _ _ _ h=>h) (hw:Region.wanted oi (yielded ops a.tmps)=true:=by rfl) (hy:∀ w',S w'→(execOp a.eval oi).run P w'=.ok (.value v) w':=by (intro w' hSw;first|(go_simp;done)|(go_simp;with_reducible rfl))) (hS:S w:=by assumption) (ha:a.put oi.dst v=a':=by first|(simp only[q1,q2,q3,Act.put,q4,s0,s1];exact rfl)|exact rfl) :
    wpAnyH P md ops Q S (fuel+1) listed a w:=wpAnyH_take hi hs hf hr hQ (Or.inl ⟨hw,hy⟩) hS (by rw[ha];exact h)
theorem zpt {n i:Nat} {oi:Oper} {fuel:Nat} {listed:Array Bool} (hu:P.underlying ty=some d) (hi2:(P.info? ty).map (·.size)=some n) (j:Nat) (vs:List Value) (h:wpAnyH P md ops Q (Kept sub) fuel (listed.setIfInBounds i true) a' w) (hi:ops[i]?=some oi:=by exact rfl)
    (hs:Region.noSelect ops=true:=by kernel_rfl) (hf:Region.free md ops listed i=true:=by kernel_rfl) (hr:(Region.ready md ops listed).contains i=true:=by kernel_rfl)
    (hQ:∀ c a w,Q (.panic c) (a.put oi.dst (.agg vs.toArray)) w→Q (.panic c) a w:=by exact fun _ _ _ h=>h) (hj:sub[j]?=some ⟨B,cs,T⟩:=by exact rfl) (hw:Region.wanted oi (yielded ops a.tmps)=true:=by rfl)
    (ho:oi.op=.load ty x:=by exact rfl) (hx:a.eval x=.pointer (some ⟨B,o,none⟩):=by exact rfl) (hd:d.isRow=true:=by exact rfl) (hn:n=vs.length:=by exact rfl) (hv:(cs.drop o).take vs.length=vs:=by exact rfl) (hS:Kept sub w:=by assumption) (ha:a.put oi.dst (.agg vs.toArray)=a':=by first|(simp only[q1,q2,q3,Act.put,q4,s0,s1];exact rfl)|exact rfl) :
    wpAnyH P md ops Q (Kept sub) (fuel+1) listed a w:=wpAnyH_take hi hs hf hr hQ (Ck j hj vs hw ho hx hu hd (hi2.trans (congrArg some hn)) hv) hS (by rw[ha];exact h)
theorem zrc {i k:Nat} {oi:Oper} {fuel:Nat} {listed:Array Bool} (hu:P.underlying ty=some d) (j:Nat) (u:Value) (h:wpAnyH P md ops Q (Kept sub) fuel (listed.setIfInBounds i true) a' w) (hi:ops[i]?=some oi:=by exact rfl)
    (hs:Region.noSelect ops=true:=by kernel_rfl) (hf:Region.free md ops listed i=true:=by kernel_rfl) (hr:(Region.ready md ops listed).contains i=true:=by kernel_rfl)
    (hQ:∀ c a w,Q (.panic c) (a.put oi.dst u) w→Q (.panic c) a w:=by exact fun _ _ _ h=>h) (hj:sub[j]?=some ⟨B,cs,T⟩:=by exact rfl) (hw:Region.wanted oi (yielded ops a.tmps)=true:=by rfl)
    (ho:oi.op=.load ty x:=by exact rfl) (hx:a.eval x=.pointer (some ⟨B,k,none⟩):=by exact rfl) (hd:d.isRow=false:=by exact rfl) (hv:cs[k]?=some u:=by exact rfl) (hS:Kept sub w:=by assumption) (ha:a.put oi.dst u=a':=by first|(simp only[q1,q2,q3,Act.put,q4,s0,s1];exact rfl)|exact rfl) :
    wpAnyH P md ops Q (Kept sub) (fuel+1) listed a w:=wpAnyH_take hi hs hf hr hQ (G5 j hj hw ho hx hu hd hv) hS (by rw[ha];exact h)
theorem zor (i:Nat) {oi:Oper} {fuel:Nat} {listed:Array Bool}
    (h:∀ K':Act→World→Prop,Shut (∀ a w,S w→(S w→wpAnyH P md ops Q S fuel (listed.setIfInBounds i true) a w)→K' a w)→if Region.wanted oi (yielded ops a.tmps)=true then Oper.wp P oi a w K' Q else K' (a.put oi.dst undef) w)
    (hi:ops[i]?=some oi:=by exact rfl) (hr:Region.ready md ops listed=[i]:=by kernel_rfl):wpAnyH P md ops Q S (fuel+1) listed a w :=
 wpAnyH_ready hr (by simp) (AllReadyH.cons hi h AllReadyH.nil)
end
abbrev τ2:=Tryz.underlying2
abbrev τ3:=Tryz.underlying3
abbrev τ4:=Tryz.underlying4
abbrev τ5:=Tryz.underlying5
abbrev τ9:=Tryz.underlying9
abbrev τ21:=Tryz.underlying21
abbrev τ22:=Tryz.underlying22
abbrev τ25:=Tryz.underlying25
abbrev τ27:=Tryz.underlying27
abbrev τ29:=Tryz.underlying29
abbrev τ30:=Tryz.underlying30
abbrev τ32:=Tryz.underlying32
abbrev τ34:=Tryz.underlying34
abbrev τ36:=Tryz.underlying36
abbrev τ38:=Tryz.underlying38
abbrev τ40:=Tryz.underlying40
abbrev τ41:=Tryz.underlying41
abbrev τ43:=Tryz.underlying43
abbrev τ46:=Tryz.underlying46
abbrev τ48:=Tryz.underlying48
abbrev τ53:=Tryz.underlying53
abbrev τ59:=Tryz.underlying59
abbrev τ92:=Tryz.underlying92
abbrev τ111:=Tryz.underlying111
abbrev τ113:=Tryz.underlying113
abbrev τ124:=Tryz.underlying124
abbrev τ138:=Tryz.underlying138
abbrev τ180:=Tryz.underlying180
abbrev τ194:=Tryz.underlying194
abbrev τ203:=Tryz.underlying203
abbrev τ204:=Tryz.underlying204
abbrev τ207:=Tryz.underlying207
abbrev τ209:=Tryz.underlying209
abbrev τ211:=Tryz.underlying211
abbrev τ318:=Tryz.underlying318
abbrev τ322:=Tryz.underlying322
def Jo (P:Program) (ty:TypeId):Bool:=match P.underlying ty with|some d => !d.isRow|none=>false
def GV (P:Program) (ty:TypeId):Bool:=match P.underlying ty with|some d=>d.isRow|none=>false
theorem Ga {P:Program} {ty:TypeId} (h:Jo P ty=true):∃ d,P.underlying ty=some d∧d.isRow=false:=by
 unfold Jo at h
 cases e:P.underlying ty with
 | none=>rw[e] at h;cases h
 | some d=>rw[e] at h;exact⟨d,rfl,by simpa using h⟩
theorem Fa {P:Program} {ty:TypeId} (h:GV P ty=true):∃ d,P.underlying ty=some d∧d.isRow=true:=by
 unfold GV at h
 cases e:P.underlying ty with
 | none=>rw[e] at h;cases h
 | some d=>rw[e] at h;exact⟨d,rfl,h⟩
theorem bx0 {α:Type} {x:α} {l:List α}:(x :: l)[0]?=some x:=rfl
theorem bx1 {α:Type} {x y:α} {l:List α}:(x :: y :: l)[1]?=some y:=rfl
theorem bx2 {α:Type} {x y z:α} {l:List α}:(x :: y :: z :: l)[2]?=some z:=rfl
theorem bx3 {α:Type} {x y z u:α} {l:List α}:(x :: y :: z :: u :: l)[3]?=some u:=rfl
theorem bx4 {α:Type} {x y z u v:α} {l:List α}:(x :: y :: z :: u :: v :: l)[4]?=some v:=rfl
theorem bx5 {α:Type} {x y z u v t:α} {l:List α}:(x :: y :: z :: u :: v :: t :: l)[5]?=some t:=rfl
theorem bx6 {α:Type} {x y z u v t s:α} {l:List α}:(x :: y :: z :: u :: v :: t :: s :: l)[6]?=some s:=rfl
structure Bq (Q:Prop):Prop where
 out:Q
theorem all1 {vs:List Value} (h:vs.all Value.oneCell'=true):∀ v∈vs,v.oneCell'=true:=fun v hv=>List.all_eq_true.1 h v hv
theorem isList {P:Program} {ops:Array Oper} {Q:Exit→Act→World→Prop} {l:List Oper} {a:Act} {w:World} (h:wpList P ops Q l a w):wpList P ops Q l a w:=h
theorem isCall {P:Program} {f:FuncId} {args:Array Value} {w:World} {K:Ending→World→Prop} (h:Calls P f args w K):Calls P f args w K:=h
theorem hcall {P:Program} {f:FuncId} {args:Array Value} {w:World} {v:Value} (H:Hid (∀ w,Calls P f args w (Ret w v))):Calls P f args w (Ret w v):=H.out w
theorem hsame {P:Program} {f:FuncId} {args:Array Value} {w:World} {v:Value} (H:Hid (∀ w,Calls P f args w (Same w v))):Calls P f args w (Same w v):=H.out w
section
variable {P:Program} {w0 w:World} {l l':List Bx} {ops:Array Oper} {rest:List Oper} {op:Oper} {a:Act} {Q:Exit→Act→World→Prop} {B j k n:Nat} {T ty:TypeId} {x y:Operand} {cs cs' vs:List Value} {u v:Value} {f:FuncId} {args:Array Value} {K:Ending→World→Prop}
theorem Yl (h:wpList P ops Q rest (a.put op.dst u) w) (L:Lay w0 w l:=by exact L) (hgd:op.guard=none:=by exact rfl) (ho:op.op=.load ty x:=by exact rfl) (ht:Jo P ty=true:=by decide +kernel)
    (hx:a.eval x=.pointer (some ⟨B,j,none⟩):=by exact rfl) (hk:l[k]?=some ⟨B,cs,T⟩:=by with_reducible first|exact bx0|exact bx1|exact bx2|exact bx3|exact bx4|exact bx5|exact bx6)
    (hv:cs[j]?=some u:=by first|with_reducible assumption|exact rfl):wpList P ops Q (op :: rest) a w :=
 let ⟨_,hu,hd⟩:=Ga ht;A7 L k hk hgd ho hx hu hd hv h
theorem Yg (h:wpList P ops Q rest (a.put op.dst u) w) (L:Lay w0 w l:=by exact L) (ho:op.op=.load ty x:=by exact rfl) (ht:Jo P ty=true:=by decide +kernel)
    (hw:Region.wanted op (yielded ops a.tmps)=true:=by rfl) (hx:a.eval x=.pointer (some ⟨B,j,none⟩):=by exact rfl) (hk:l[k]?=some ⟨B,cs,T⟩:=by with_reducible first|exact bx0|exact bx1|exact bx2|exact bx3|exact bx4|exact bx5|exact bx6)
    (hv:cs[j]?=some u:=by first|with_reducible assumption|exact rfl):wpList P ops Q (op :: rest) a w :=
 let ⟨_,hu,hd⟩:=Ga ht;Ca L k hk hw ho hx hu hd hv h
theorem Yw (h:wpList P ops Q rest (a.put op.dst (.agg cs.toArray)) w) (L:Lay w0 w l:=by exact L) (hgd:op.guard=none:=by exact rfl) (ho:op.op=.load ty x:=by exact rfl) (ht:GV P ty=true:=by decide +kernel)
    (hx:a.eval x=.pointer (some ⟨B,0,none⟩):=by exact rfl) (hk:l[k]?=some ⟨B,cs,T⟩:=by with_reducible first|exact bx0|exact bx1|exact bx2|exact bx3|exact bx4|exact bx5|exact bx6)
    (hi:(P.info? ty).map (·.size)=some n:=by with_reducible first|exact Av|exact Bd|exact Cz|exact Aw|exact DZ|exact Az|exact Bk|exact B7|exact Eb|exact BS|exact CV|exact Cj|exact BA|exact CL|exact Cq|exact DJ|exact B5|exact CQ|exact CN|exact AP|exact CC)
    (hn:n=cs.length:=by exact rfl):wpList P ops Q (op :: rest) a w :=
 let ⟨_,hu,hd⟩:=Fa ht;AQ L k hk cs hgd ho hx hu hd (hi.trans (congrArg some hn)) (by rw[List.drop_zero,List.take_length]) h
theorem Yx (h:wpList P ops Q rest (a.put op.dst (.agg cs.toArray)) w) (L:Lay w0 w l:=by exact L) (ho:op.op=.load ty x:=by exact rfl) (ht:GV P ty=true:=by decide +kernel)
    (hw:Region.wanted op (yielded ops a.tmps)=true:=by rfl) (hx:a.eval x=.pointer (some ⟨B,0,none⟩):=by exact rfl) (hk:l[k]?=some ⟨B,cs,T⟩:=by with_reducible first|exact bx0|exact bx1|exact bx2|exact bx3|exact bx4|exact bx5|exact bx6)
    (hi:(P.info? ty).map (·.size)=some n:=by with_reducible first|exact Av|exact Bd|exact Cz|exact Aw|exact DZ|exact Az|exact Bk|exact B7|exact Eb|exact BS|exact CV|exact Cj|exact BA|exact CL|exact Cq|exact DJ|exact B5|exact CQ|exact CN|exact AP|exact CC)
    (hn:n=cs.length:=by exact rfl):wpList P ops Q (op :: rest) a w :=
 let ⟨_,hu,hd⟩:=Fa ht;Bw L k hk cs hw ho hx hu hd (hi.trans (congrArg some hn)) (by rw[List.drop_zero,List.take_length]) h
theorem Yb (h:∀ w',Lay w0 w' (⟨w.heap.size,vs,ty⟩ :: l)→wpList P ops Q rest (a.put op.dst (.pointer (some ⟨w.heap.size,0,none⟩))) w') (L:Lay w0 w l:=by exact L) (hgd:op.guard=none:=by exact rfl) (ho:op.op=.box ty x:=by exact rfl) (hx:a.eval x=.agg vs.toArray:=by exact rfl) :
    wpList P ops Q (op :: rest) a w:=JD L vs hgd ho hx (fun w' L' _=>h w' L')
theorem Ya (h:∀ w',Lay w0 w' (⟨w.heap.size,vs,ty⟩ :: l)→wpList P ops Q rest (a.put op.dst (.pointer (some ⟨w.heap.size,0,none⟩))) w') (L:Lay w0 w l:=by exact L) (hgd:op.guard=none:=by exact rfl) (ho:op.op=.alloc ty:=by exact rfl)
    (hz:(P.info? ty).map (·.zero)=some (some (.agg vs.toArray)):=by with_reducible first|exact cpu_zero|exact ef_zero|exact inst_zero|exact mc_zero|exact dk_zero|exact nc_zero|exact ou_zero|exact tr_zero|exact st_zero|exact csr_zero|exact arr_zero|exact tm_zero|exact bl_zero|exact pc_zero):wpList P ops Q (op :: rest) a w :=
 AF L vs (.agg vs.toArray) hgd ho hz rfl (fun w' L' _=>h w' L')
theorem Ys (h:∀ w',Lay w0 w' l'→wpList P ops Q rest (a.put op.dst undef) w') (L:Lay w0 w l:=by exact L) (hgd:op.guard=none:=by exact rfl) (ho:op.op=.store ty x y:=by exact rfl)
    (hx:a.eval x=.pointer (some ⟨B,0,none⟩):=by exact rfl) (hk:l[k]?=some ⟨B,cs,T⟩:=by with_reducible first|exact bx0|exact bx1|exact bx2|exact bx3|exact bx4|exact bx5|exact bx6) (hy:a.eval y=.agg vs.toArray:=by exact rfl)
    (hi:(P.info? ty).map (·.size)=some n:=by with_reducible first|exact Av|exact Bd|exact Cz|exact Aw|exact DZ|exact Az|exact Bk|exact B7|exact Eb|exact BS|exact CV|exact Cj|exact BA|exact CL|exact Cq|exact DJ|exact B5|exact CQ|exact CN|exact AP|exact CC)
    (hn:n=vs.length:=by exact rfl) (hc:cs.length=vs.length:=by exact rfl) (h1:∀ v∈vs,v.oneCell'=true:=by first|exact all1 rfl|exact Bp _ (by assumption)) (hl:l.set k ⟨B,vs,T⟩=l':=by first|(simp only[s0,s1];exact rfl)|exact rfl):wpList P ops Q (op :: rest) a w :=
 Ag L k hk vs vs hgd ho hx hy (hi.trans (congrArg some hn)) h1 (by rw[hc,Nat.zero_add];exact Nat.ble_eq ▸ nlr _) (Jj hc.symm) (fun w' L' _=>h w' (hl ▸ L'))
theorem Yc (h:∀ w',Lay w0 w' l→K (.returned v) w') (L:Lay w0 w l:=by exact L) (hc:Calls P f args w (Ret w v):=by with_reducible exact hcall (by assumption)):Calls P f args w K :=
 hc.mono fun e w' hr=>by obtain⟨rfl,hb⟩:=hr;exact h w' (L.below hb)
theorem Yq (h:K (.returned v) w) (hc:Calls P f args w (Same w v):=by with_reducible exact hsame (by assumption)):Calls P f args w K :=
 hc.mono fun e w' hr=>by obtain⟨rfl,rfl⟩:=hr;exact h
end
section
variable {P:Program} {w0 w:World} {l l' sub:List Bx} {ops:Array Oper} {rest:List Oper} {op oi:Oper} {a a':Act} {Q:Exit→Act→World→Prop} {B j k n o i fuel:Nat} {T ty:TypeId} {x y:Operand} {cs vs:List Value} {u v:Value} {listed:Array Bool} {md:Region.Mode}
theorem Yp (vs:List Value) (h:wpList P ops Q rest (a.put op.dst (.agg vs.toArray)) w) (L:Lay w0 w l:=by exact L) (hgd:op.guard=none:=by exact rfl) (ho:op.op=.load ty x:=by exact rfl) (ht:GV P ty=true:=by decide +kernel)
    (hx:a.eval x=.pointer (some ⟨B,o,none⟩):=by exact rfl) (hk:l[k]?=some ⟨B,cs,T⟩:=by with_reducible first|exact bx0|exact bx1|exact bx2|exact bx3|exact bx4|exact bx5|exact bx6)
    (hi:(P.info? ty).map (·.size)=some n:=by with_reducible first|exact Av|exact Bd|exact Cz|exact Aw|exact DZ|exact Az|exact Bk|exact B7|exact Eb|exact BS|exact CV|exact Cj|exact BA|exact CL|exact Cq|exact DJ|exact B5|exact CQ|exact CN|exact AP|exact CC)
    (hn:n=vs.length:=by exact rfl) (hv:(cs.drop o).take vs.length=vs:=by exact rfl):wpList P ops Q (op :: rest) a w :=
 let ⟨_,hu,hd⟩:=Fa ht;AQ L k hk vs hgd ho hx hu hd (hi.trans (congrArg some hn)) hv h
theorem Yt (cs':List Value) (h:∀ w',Lay w0 w' l'→wpList P ops Q rest (a.put op.dst undef) w') (L:Lay w0 w l:=by exact L) (hgd:op.guard=none:=by exact rfl) (ho:op.op=.store ty x y:=by exact rfl) (hc:Jo P ty=true:=by decide +kernel)
    (hx:a.eval x=.pointer (some ⟨B,j,none⟩):=by exact rfl) (hk:l[k]?=some ⟨B,cs,T⟩:=by with_reducible first|exact bx0|exact bx1|exact bx2|exact bx3|exact bx4|exact bx5|exact bx6) (hy:a.eval y=u:=by exact rfl)
    (hi:(P.info? ty).map (·.size)=some 1:=by kernel_rfl) (h1:u.oneCell'=true:=by exact rfl) (hn:Nat.blt j cs.length=true:=by first|exact rfl|assumption) (hp:cs.set j u=cs':=by first|exact Hid.out (by assumption)|exact rfl|assumption)
    (hl:l.set k ⟨B,cs',T⟩=l':=by first|(simp only[s0,s1];exact rfl)|exact rfl):wpList P ops Q (op :: rest) a w :=
 Aq L k hk cs' hgd ho hx hy hi h1 hn hp (fun w' L' _=>h w' (hl ▸ L'))
theorem Yu (cs':List Value) (h:∀ w',Lay w0 w' l'→wpList P ops Q rest (a.put op.dst undef) w') (L:Lay w0 w l:=by exact L) (hgd:op.guard=none:=by exact rfl) (ho:op.op=.store ty x y:=by exact rfl) (hc:GV P ty=true:=by decide +kernel)
    (hx:a.eval x=.pointer (some ⟨B,o,none⟩):=by exact rfl) (hk:l[k]?=some ⟨B,cs,T⟩:=by with_reducible first|exact bx0|exact bx1|exact bx2|exact bx3|exact bx4|exact bx5|exact bx6) (hy:a.eval y=.agg vs.toArray:=by exact rfl)
    (hi:(P.info? ty).map (·.size)=some n:=by with_reducible first|exact Av|exact Bd|exact Cz|exact Aw|exact DZ|exact Az|exact Bk|exact B7|exact Eb|exact BS|exact CV|exact Cj|exact BA|exact CL|exact Cq|exact DJ|exact B5|exact CQ|exact CN|exact AP|exact CC) (hnn:n=vs.length:=by exact rfl) (h1:∀ v∈vs,v.oneCell'=true:=by first|exact all1 rfl|exact Bp _ (by assumption)) (hn:Nat.ble (o+vs.length) cs.length=true:=by exact rfl) (hp:Dt cs o vs=cs':=by exact rfl)
    (hl:l.set k ⟨B,cs',T⟩=l':=by first|(simp only[s0,s1];exact rfl)|exact rfl):wpList P ops Q (op :: rest) a w :=
 Ag L k hk vs cs' hgd ho hx hy (hi.trans (congrArg some hnn)) h1 hn hp (fun w' L' _=>h w' (hl ▸ L'))
theorem Yk {C:World→Prop} {K:Act→Prop} (h:K (a.put op.dst u)) (L:Lay w0 w l:=by exact L) (ho:op.op=.load ty x:=by exact rfl) (ht:Jo P ty=true:=by decide +kernel) (hC:∀ w',C w'→Below w.heap.size w w':=by exact fun _ h=>Aa h)
    (hx:a.eval x=.pointer (some ⟨B,j,none⟩):=by exact rfl) (hk:l[k]?=some ⟨B,cs,T⟩:=by with_reducible first|exact bx0|exact bx1|exact bx2|exact bx3|exact bx4|exact bx5|exact bx6) (hv:cs[j]?=some u:=by first|with_reducible assumption|exact rfl):op.quiet P a C K :=
 let ⟨_,hu,hd⟩:=Ga ht;AK L hC k hk ho hx hu hd hv h
theorem Yv {C:World→Prop} {K:Act→Prop} (h:K (a.put op.dst (.agg cs.toArray))) (L:Lay w0 w l:=by exact L) (ho:op.op=.load ty x:=by exact rfl) (ht:GV P ty=true:=by decide +kernel) (hC:∀ w',C w'→Below w.heap.size w w':=by exact fun _ h=>Aa h)
    (hx:a.eval x=.pointer (some ⟨B,0,none⟩):=by exact rfl) (hk:l[k]?=some ⟨B,cs,T⟩:=by with_reducible first|exact bx0|exact bx1|exact bx2|exact bx3|exact bx4|exact bx5|exact bx6)
    (hi:(P.info? ty).map (·.size)=some n:=by with_reducible first|exact Av|exact Bd|exact Cz|exact Aw|exact DZ|exact Az|exact Bk|exact B7|exact Eb|exact BS|exact CV|exact Cj|exact BA|exact CL|exact Cq|exact DJ|exact B5|exact CQ|exact CN|exact AP|exact CC) (hn:n=cs.length:=by exact rfl):op.quiet P a C K :=
 let ⟨_,hu,hd⟩:=Fa ht;BZ L hC k hk cs ho hx hu hd (hi.trans (congrArg some hn)) (by rw[List.drop_zero,List.take_length]) h
/-! ## Results -/
def rvS (tmps:Array Value):ResultVar→Sem Value
 | .tmp t=>pure (tmps.getD t undef)
 | .cell a t=>do loadVar t (←asAddr (tmps.getD a undef))
theorem Fp (fn:Func) (tmps:Array Value):results fn tmps=(do
 let vs ←fn.results.mapM (rvS tmps)
 pure (if h:vs.size=1 then vs[0] else .tuple vs)):=rfl
def RV (P:Program) (w:World) (tmps:Array Value) (r:ResultVar) (v:Value):Prop:=(rvS tmps r).run P w=.ok v w
variable {tmps:Array Value} {t s:Tmp} {fn:Func} {R:Ending→World→Prop} {r1 r2 r3 r4:ResultVar} {v1 v2 v3 v4:Value}
theorem ES (h:tmps.getD t undef=v:=by exact rfl):RV P w tmps (.tmp t) v:=by subst h;rfl
theorem DF (L:Lay w0 w l:=by exact L) (hx:tmps.getD s undef=.pointer (some ⟨B,0,none⟩):=by exact rfl) (hk:l[k]?=some ⟨B,cs,T⟩:=by with_reducible first|exact bx0|exact bx1|exact bx2|exact bx3|exact bx4|exact bx5|exact bx6) (ht:GV P ty=true:=by decide +kernel)
    (hi:(P.info? ty).map (·.size)=some n:=by with_reducible first|exact Av|exact Bd|exact Cz|exact Aw|exact DZ|exact Az|exact Bk|exact B7|exact Eb|exact BS|exact CV|exact Cj|exact BA|exact CL|exact Cq|exact DJ|exact B5|exact CQ|exact CN|exact AP|exact CC) (hn:n=cs.length:=by exact rfl):RV P w tmps (.cell s ty) (.agg cs.toArray):=by
 obtain⟨d,hu,hd⟩:=Fa ht
 have:=AU L k hk cs rfl hu hd (hi.trans (congrArg some hn))
 unfold RV rvS
 simp only[hx,asAddr,Sem.run_bind,Sem.run_pure,Result.andThen_ok]
 exact this
theorem DG (L:Lay w0 w l:=by exact L) (hx:tmps.getD s undef=.pointer (some ⟨B,j,none⟩):=by exact rfl) (hk:l[k]?=some ⟨B,cs,T⟩:=by with_reducible first|exact bx0|exact bx1|exact bx2|exact bx3|exact bx4|exact bx5|exact bx6) (ht:Jo P ty=true:=by decide +kernel)
    (hv:cs[j]?=some u:=by first|with_reducible assumption|exact rfl):RV P w tmps (.cell s ty) u:=by
 obtain⟨d,hu,hd⟩:=Ga ht
 have hl:(loadVar ty ⟨B,j,none⟩).run P w=.ok u w:=by
  have hc:w.cell? ⟨B,j,none⟩=some u:=by rw[(L.at hk).cell,List.getElem?_toArray];exact hv
  exact Xz42
 unfold RV rvS
 simp only[hx,asAddr,Sem.run_bind,Sem.run_pure,Result.andThen_ok]
 exact hl
theorem Yr1 (hR:R (.returned v) w) (hf:fn.results=#[r1]:=by exact rfl) (h1:RV P w a.tmps r1 v1:=by first|exact DF|exact DG|exact ES) (hv:v1=v:=by exact rfl) (hd:a.defers=[]:=by exact rfl):bodyPost P fn R .ret a w:=by
 subst hv
 refine bodyPost_ret ?_ hd hR
 unfold RV at h1
 rw[Fp,hf]
 simp [h1]
theorem Yr2 (hR:R (.returned v) w) (hf:fn.results=#[r1,r2]:=by exact rfl) (h1:RV P w a.tmps r1 v1:=by first|exact DF|exact DG|exact ES) (h2:RV P w a.tmps r2 v2:=by first|exact DF|exact DG|exact ES) (hv:.tuple #[v1,v2]=v:=by exact rfl) (hd:a.defers=[]:=by exact rfl):bodyPost P fn R .ret a w:=by
 subst hv
 refine bodyPost_ret ?_ hd hR
 unfold RV at h1 h2
 rw[Fp,hf]
 simp [h1,h2]
theorem Yr3 (hR:R (.returned v) w) (hf:fn.results=#[r1,r2,r3]:=by exact rfl) (h1:RV P w a.tmps r1 v1:=by first|exact DF|exact DG|exact ES) (h2:RV P w a.tmps r2 v2:=by first|exact DF|exact DG|exact ES) (h3:RV P w a.tmps r3 v3:=by first|exact DF|exact DG|exact ES) (hv:.tuple #[v1,v2,v3]=v:=by exact rfl) (hd:a.defers=[]:=by exact rfl):bodyPost P fn R .ret a w:=by
 subst hv
 refine bodyPost_ret ?_ hd hR
 unfold RV at h1 h2 h3
 rw[Fp,hf]
 simp [h1,h2,h3]
theorem Yr4 (hR:R (.returned v) w) (hf:fn.results=#[r1,r2,r3,r4]:=by exact rfl) (h1:RV P w a.tmps r1 v1:=by first|exact DF|exact DG|exact ES) (h2:RV P w a.tmps r2 v2:=by first|exact DF|exact DG|exact ES) (h3:RV P w a.tmps r3 v3:=by first|exact DF|exact DG|exact ES) (h4:RV P w a.tmps r4 v4:=by first|exact DF|exact DG|exact ES) (hv:.tuple #[v1,v2,v3,v4]=v:=by exact rfl) (hd:a.defers=[]:=by exact rfl):bodyPost P fn R .ret a w:=by
 subst hv
 refine bodyPost_ret ?_ hd hR
 unfold RV at h1 h2 h3 h4
 rw[Fp,hf]
 simp [h1,h2,h3,h4]
/-! ## Regions that draw -/
theorem Yh (ks:List Nat) {id:Nat} (h:Kept sub w.drew→Lay w0 w.drew l→wpAnyH P .any ops Q (Kept sub) ops.size (Array.replicate ops.size false) a w.drew) (L:Lay w0 w l:=by exact L) (hm:P.follows .mixedOrders=true:=by kernel_rfl)
    (hs:ks.filterMap (fun k=>l[k]?)=sub:=by (simp only[List.filterMap_cons,List.filterMap_nil,List.getElem?_cons_succ,List.getElem?_cons_zero];exact rfl)):(Code.region id ops true).wp P Q a w:=wp_region_held_drew hm (L.drew.kept ks hs) (fun hS=>h hS L.drew)
def Tak (P:Program) (md:Region.Mode) (ops:Array Oper) (Q:Exit→Act→World→Prop) (S:World→Prop) (fuel:Nat) (listed:Array Bool) (a:Act) (w:World) (i:Nat):Prop :=
 (Region.free md ops listed i && (Region.ready md ops listed).contains i)=true→wpAnyH P md ops Q S (fuel+1) listed a w
theorem YI {S:World→Prop} (i:Nat) (h:Tak P md ops Q S fuel listed a w i) (hf:(Region.free md ops listed i && (Region.ready md ops listed).contains i)=true:=by decide +kernel):wpAnyH P md ops Q S (fuel+1) listed a w:=h hf
theorem Y1 {S:World→Prop} (h:wpAnyH P md ops Q S fuel (listed.setIfInBounds i true) a' w) (hi:ops[i]?=some oi:=by exact rfl)
    (hs:Region.noSelect ops=true:=by kernel_rfl) (hQ:∀ c a w,Q (.panic c) (a.put oi.dst v) w→Q (.panic c) a w:=by exact fun _ _ _ h=>h) (hw:Region.wanted oi (yielded ops a.tmps)=true:=by rfl)
    (hy:∀ w',S w'→(execOp a.eval oi).run P w'=.ok (.value v) w':=by (intro w' hSw;first|(go_simp;done)|(go_simp;with_reducible rfl))) (hS:S w:=by assumption) (ha:a.put oi.dst v=a':=by first|(simp only[q1,q2,q3,Act.put,q4,s0,s1];exact rfl)|exact rfl) :
    Tak P md ops Q S fuel listed a w i:=by
 intro hf
 rw[Bool.and_eq_true] at hf
 exact wpAnyH_take hi hs hf.1 hf.2 hQ (Or.inl ⟨hw,hy⟩) hS (by rw[ha];exact h)
theorem Y2 (h:wpAnyH P md ops Q (Kept sub) fuel (listed.setIfInBounds i true) a' w) (hi:ops[i]?=some oi:=by exact rfl)
    (ho:oi.op=.load ty x:=by exact rfl) (ht:GV P ty=true:=by decide +kernel) (hs:Region.noSelect ops=true:=by kernel_rfl) (hQ:∀ c a w,Q (.panic c) (a.put oi.dst (.agg cs.toArray)) w→Q (.panic c) a w:=by exact fun _ _ _ h=>h)
    (hx:a.eval x=.pointer (some ⟨B,0,none⟩):=by exact rfl) (hj:sub[j]?=some ⟨B,cs,T⟩:=by with_reducible first|exact bx0|exact bx1|exact bx2|exact bx3|exact bx4|exact bx5|exact bx6) (hw:Region.wanted oi (yielded ops a.tmps)=true:=by rfl)
    (hi2:(P.info? ty).map (·.size)=some n:=by with_reducible first|exact Av|exact Bd|exact Cz|exact Aw|exact DZ|exact Az|exact Bk|exact B7|exact Eb|exact BS|exact CV|exact Cj|exact BA|exact CL|exact Cq|exact DJ|exact B5|exact CQ|exact CN|exact AP|exact CC) (hn:n=cs.length:=by exact rfl) (hS:Kept sub w:=by assumption) (ha:a.put oi.dst (.agg cs.toArray)=a':=by first|(simp only[q1,q2,q3,Act.put,q4,s0,s1];exact rfl)|exact rfl) :
    Tak P md ops Q (Kept sub) fuel listed a w i:=by
 intro hf
 rw[Bool.and_eq_true] at hf
 obtain⟨d,hu,hd⟩:=Fa ht
 exact wpAnyH_take hi hs hf.1 hf.2 hQ (Ck j hj cs hw ho hx hu hd (hi2.trans (congrArg some hn)) (by rw[List.drop_zero,List.take_length])) hS (by rw[ha];exact h)
theorem Y3 (h:wpAnyH P md ops Q (Kept sub) fuel (listed.setIfInBounds i true) a' w) (hi:ops[i]?=some oi:=by exact rfl)
    (ho:oi.op=.load ty x:=by exact rfl) (ht:Jo P ty=true:=by decide +kernel) (hs:Region.noSelect ops=true:=by kernel_rfl) (hQ:∀ c a w,Q (.panic c) (a.put oi.dst u) w→Q (.panic c) a w:=by exact fun _ _ _ h=>h)
    (hx:a.eval x=.pointer (some ⟨B,k,none⟩):=by exact rfl) (hj:sub[j]?=some ⟨B,cs,T⟩:=by with_reducible first|exact bx0|exact bx1|exact bx2|exact bx3|exact bx4|exact bx5|exact bx6) (hw:Region.wanted oi (yielded ops a.tmps)=true:=by rfl)
    (hv:cs[k]?=some u:=by first|with_reducible assumption|exact rfl) (hS:Kept sub w:=by assumption) (ha:a.put oi.dst u=a':=by first|(simp only[q1,q2,q3,Act.put,q4,s0,s1];exact rfl)|exact rfl) :
    Tak P md ops Q (Kept sub) fuel listed a w i:=by
 intro hf
 rw[Bool.and_eq_true] at hf
 obtain⟨d,hu,hd⟩:=Ga ht
 exact wpAnyH_take hi hs hf.1 hf.2 hQ (G5 j hj hw ho hx hu hd hv) hS (by rw[ha];exact h)
theorem YW (i:Nat) (ks:List Nat) (cs':List Value) (h:∀ w',Lay w0 w' l'→Kept sub w'→wpAnyH P md ops Q (Kept sub) fuel (listed.setIfInBounds i true) a' w') (L:Lay w0 w l:=by exact L) (hi:ops[i]?=some oi:=by exact rfl) (hr:Region.ready md ops listed=[i]:=by kernel_rfl)
    (hw:Region.wanted oi (yielded ops a.tmps)=true:=by rfl) (ho:oi.op=.store ty x y:=by exact rfl) (hx:a.eval x=.pointer (some ⟨B,o,none⟩):=by exact rfl) (hk:l[k]?=some ⟨B,cs,T⟩:=by with_reducible first|exact bx0|exact bx1|exact bx2|exact bx3|exact bx4|exact bx5|exact bx6) (hy:a.eval y=.agg vs.toArray:=by exact rfl)
    (hi2:(P.info? ty).map (·.size)=some n:=by with_reducible first|exact Av|exact Bd|exact Cz|exact Aw|exact DZ|exact Az|exact Bk|exact B7|exact Eb|exact BS|exact CV|exact Cj|exact BA|exact CL|exact Cq|exact DJ|exact B5|exact CQ|exact CN|exact AP|exact CC) (hnn:n=vs.length:=by exact rfl) (h1:∀ v∈vs,v.oneCell'=true:=by first|exact all1 rfl|exact Bp _ (by assumption)) (hn:Nat.ble (o+vs.length) cs.length=true:=by exact rfl) (hp:Dt cs o vs=cs':=by exact rfl)
    (hl:l.set k ⟨B,cs',T⟩=l':=by first|(simp only[s0,s1];exact rfl)|exact rfl) (hs:ks.filterMap (fun k=>l'[k]?)=sub:=by exact rfl) (ha:a.put oi.dst undef=a':=by first|(simp only[q1,q2,q3,Act.put,q4,s0,s1];exact rfl)|exact rfl):wpAnyH P md ops Q (Kept sub) (fuel+1) listed a w :=
 wpAnyH_ready hr (by simp) (AllReadyH.cons hi (fun K' hK=>Ae hw (Am L k hk vs cs' ho hx hy (hi2.trans (congrArg some hnn)) h1 hn hp (fun w' L' _=>hK.out _ _ ((hl ▸ L':Lay w0 w' l').kept ks hs) (fun hS=>by rw[ha];exact h w' (hl ▸ L') hS)))) AllReadyH.nil)
theorem YD (h:Q .normal a w) {S:World→Prop} (hr:Region.ready md ops listed=[]:=by kernel_rfl):wpAnyH P md ops Q S fuel listed a w:=wpAnyH_done hr h fuel
end
theorem YT {P Q:Prop} (k:Q) (h:Bq Q→P:=by
 intro k
 repeat (first
  | (refine YI 0 ?_;first|refine Y1 ?_|refine Y2 ?_|refine Y3 ?_)
  | (refine YI 1 ?_;first|refine Y1 ?_|refine Y2 ?_|refine Y3 ?_)
  | (refine YI 2 ?_;first|refine Y1 ?_|refine Y2 ?_|refine Y3 ?_)
  | (refine YI 3 ?_;first|refine Y1 ?_|refine Y2 ?_|refine Y3 ?_)
  | (refine YI 4 ?_;first|refine Y1 ?_|refine Y2 ?_|refine Y3 ?_)
  | (refine YI 5 ?_;first|refine Y1 ?_|refine Y2 ?_|refine Y3 ?_)
  | (refine YI 6 ?_;first|refine Y1 ?_|refine Y2 ?_|refine Y3 ?_)
  | (refine YI 7 ?_;first|refine Y1 ?_|refine Y2 ?_|refine Y3 ?_)
  | (refine YI 8 ?_;first|refine Y1 ?_|refine Y2 ?_|refine Y3 ?_)
  | (refine YI 9 ?_;first|refine Y1 ?_|refine Y2 ?_|refine Y3 ?_)
  | (refine YI 10 ?_;first|refine Y1 ?_|refine Y2 ?_|refine Y3 ?_)
  | (refine YI 11 ?_;first|refine Y1 ?_|refine Y2 ?_|refine Y3 ?_)
  | (refine YI 12 ?_;first|refine Y1 ?_|refine Y2 ?_|refine Y3 ?_)
  | (refine YI 13 ?_;first|refine Y1 ?_|refine Y2 ?_|refine Y3 ?_)
  | (refine YI 14 ?_;first|refine Y1 ?_|refine Y2 ?_|refine Y3 ?_)
  | (refine YI 15 ?_;first|refine Y1 ?_|refine Y2 ?_|refine Y3 ?_)
  | (refine YI 16 ?_;first|refine Y1 ?_|refine Y2 ?_|refine Y3 ?_)
  | (refine YI 17 ?_;first|refine Y1 ?_|refine Y2 ?_|refine Y3 ?_)
  | (refine YI 18 ?_;first|refine Y1 ?_|refine Y2 ?_|refine Y3 ?_)
  | (refine YI 19 ?_;first|refine Y1 ?_|refine Y2 ?_|refine Y3 ?_)
  | (refine YI 20 ?_;first|refine Y1 ?_|refine Y2 ?_|refine Y3 ?_)
  | (refine YI 21 ?_;first|refine Y1 ?_|refine Y2 ?_|refine Y3 ?_)
  | (refine YI 22 ?_;first|refine Y1 ?_|refine Y2 ?_|refine Y3 ?_)
  | (refine YI 23 ?_;first|refine Y1 ?_|refine Y2 ?_|refine Y3 ?_)
  | (refine YI 24 ?_;first|refine Y1 ?_|refine Y2 ?_|refine Y3 ?_)
  | (refine YI 25 ?_;first|refine Y1 ?_|refine Y2 ?_|refine Y3 ?_))
 exact k.out):P:=h ⟨k⟩
theorem YQ {P Q:Prop} (k:Q) (h:Bq Q→P:=by
 intro k
 (try simp only[Act.put,q4,s0,s1])
 refine wp_region_quiet_below (by kernel_rfl) (by kernel_rfl) ?_
 repeat (first|(go_big_quiet_want;(first|refine Yk ?_|refine Yv ?_);go_big_quiet_on;(try simp only[Act.put,q4,s0,s1]))|go_big_quiet_step (first|fail|fail))
 refine wpQuiet_nil ?_
 intro wz hwz
 replace L:=L.below (Aa hwz)
 clear hwz
 revert L
 revert wz
 exact k.out):P:=h ⟨k⟩
theorem inF {c:List Int} {i:In} (hc:CpuOk c) (hi:i.Good):0≤i.a∧i.a<16∧0≤i.b∧i.b<16∧(Ab c)[i.a.toNat]?=some (.int .u32 (rg c i.a.toNat))∧(Ab c)[i.b.toNat]?=some (.int .u32 (rg c i.b.toNat)) :=
 ⟨hi.a.1,by have:=hi.a.2;omega,hi.b.1,by have:=hi.b.2;omega,AB hc.len (by have:=hi.a;omega),AB hc.len (by have:=hi.b;omega)⟩
theorem YL {P Q:Prop} (k:Q) (h:Bq Q→P:=by
 intro k
 first
 | (with_reducible refine isList ?_);first|(refine Yl ?_;exact k.out)|(refine Yw ?_;exact k.out)|(refine Yg ?_;exact k.out)|(refine Yx ?_;exact k.out)
 | (with_reducible refine isCall ?_);refine Yq ?_;exact k.out):P:=h ⟨k⟩
theorem YS {P Q:Prop} (k:Q) (h:Bq Q→P:=by
 intro k
 first
 | (with_reducible refine isList ?_);first|(refine Yb ?_;exact k.out)|(refine Ya ?_;exact k.out)|(refine Ys ?_;exact k.out)
 | (with_reducible refine isCall ?_);refine Yc ?_;exact k.out):P:=h ⟨k⟩
end Go.Proofs.YtnmpfmapncicmaaGreat
