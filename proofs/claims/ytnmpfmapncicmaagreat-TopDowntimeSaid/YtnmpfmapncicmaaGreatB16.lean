/-
  Texts joined: TpRun5 TpExec TpExec2 TpMch. No law is proved here.
-/
import Derived.Test.YtnmpfmapncicmaaGreatB11
import Derived.Test.YtnmpfmapncicmaaGreatB12
import Derived.Test.YtnmpfmapncicmaaGreatB15
namespace Go.Proofs.YtnmpfmapncicmaaGreat
set_option linter.all false
set_option maxRecDepth 100000
set_option maxHeartbeats 40000000
open Go.RowKit
section
variable {c:List Int} {i:In} {w:World}
theorem run_reg (hc:CpuOk c) (hi:i.Good) (ho:1≤i.op∧i.op≤13):Calls Tryz.prog 97 #[.agg (Ab c).toArray,.agg (inL i).toArray] w (Ret w (.tuple #[.agg (Ab (Ap c i).1).toArray,efV (Ap c i).2])):=by
 have hv:=Jd i.op (b:=rg c i.c.toNat) (hc.at i.b.toNat).1 (hc.at i.b.toNat).2
 have AL:=fun w=>alu_any i.op (rg c i.b.toNat) (rg c i.c.toNat) w (by omega) (hc.at i.b.toNat).1 (hc.at i.b.toNat).2 (hc.at i.c.toNat).1 (hc.at i.c.toNat).2
 obtain⟨v,hvv⟩:∃ v,AC i.op (rg c i.b.toNat) (rg c i.c.toNat)=v:=⟨_,rfl⟩
 obtain⟨S,hS⟩:∃ s,Bm c i.a v=s:=⟨_,rfl⟩
 have hsl:S.length=25:=by rw[←hS];exact Br hc.len _ _
 obtain⟨Z,hZ⟩:∃ z,S.set 16 ((rg c 16+4) % 4294967296)=z:=⟨_,rfl⟩
 have e:Ap c i=(Z,ef0):=by
  unfold Ap;dsimp only
  (repeat rw[if_neg (by omega)]);rw[if_pos ho.2];simp only[u32,BU,IntKind.wrap_u32];rw[hvv,hS,hZ]
 rw[e]
 dsimp only
 rw[hvv] at AL hv
 have hz:(Ab S).set 16 (.int .u32 ((rg c 16+4) % 4294967296))=Ab Z:=by rw[←hZ];exact Ak hsl _ _
 have ST:=fun w=>Cv c i.a v w hc.len hi.a.1 (by have:=hi.a.2;omega)
 rw[hS] at ST
 have HZ:=lh hz
 have HST:=lh ST
 have HAL:=lh AL
 have hge:decide (16≤i.op)=false:=by first|exact decide_eq_true (by omega)|exact decide_eq_false (by omega)
 have hne:∀ k:Int,¬((1≤k∧k≤13)∨(16≤k∧k≤23))→(i.op == k)=false:=fun k hk=>by
  rw[beq_eq_false_iff_ne];rintro rfl;exact hk (by omega)
 have n24:=hne 24 (by omega)
 have n40:=hne 40 (by omega)
 have n41:=hne 41 (by omega)
 have n42:=hne 42 (by omega)
 have n43:=hne 43 (by omega)
 have n44:=hne 44 (by omega)
 have n45:=hne 45 (by omega)
 have n48:=hne 48 (by omega)
 have n49:=hne 49 (by omega)
 have n56:=hne 56 (by omega)
 have n57:=hne 57 (by omega)
 have n58:=hne 58 (by omega)
 have n59:=hne 59 (by omega)
 have n60:=hne 60 (by omega)
 have n61:=hne 61 (by omega)
 have n62:=hne 62 (by omega)
 have n63:=hne 63 (by omega)
 have n64:=hne 64 (by omega)
 have hic0:=hi.c.1
 have hic1:i.c<16:=by have:=hi.c.2;omega
 have hcc:(Ab c)[i.c.toNat]?=some (.int .u32 (rg c i.c.toNat)):=AB hc.len (by omega)
 clear hz hZ hS hvv e ST AL hv hne ho
 obtain⟨hia0,hia1,hib0,hib1,hca,hcb⟩:=inF hc hi
 have L:=Lay.start w
 go_in
 go_wp2_with (refine YS ?_;clear L;intro wz L)
 refine YQ ?_;clear L;intro wz L
 go_wp2_with (first|(refine YL ?_)|((first|refine Yt (Ab Z) ?_|refine YS ?_);clear L;intro wz L))
 exact Xz6
theorem run_imm (hc:CpuOk c) (hi:i.Good) (ho:16≤i.op∧i.op≤23):Calls Tryz.prog 97 #[.agg (Ab c).toArray,.agg (inL i).toArray] w (Ret w (.tuple #[.agg (Ab (Ap c i).1).toArray,efV (Ap c i).2])):=by
 have hv:=Jd i.op (b:=i.imm % 4294967296) (hc.at i.b.toNat).1 (hc.at i.b.toNat).2
 have AL:=fun w=>alu_any i.op (rg c i.b.toNat) (i.imm % 4294967296) w (by omega) (hc.at i.b.toNat).1 (hc.at i.b.toNat).2 (by omega) (by omega)
 obtain⟨v,hvv⟩:∃ v,AC i.op (rg c i.b.toNat) (i.imm % 4294967296)=v:=⟨_,rfl⟩
 obtain⟨S,hS⟩:∃ s,Bm c i.a v=s:=⟨_,rfl⟩
 have hsl:S.length=25:=by rw[←hS];exact Br hc.len _ _
 obtain⟨Z,hZ⟩:∃ z,S.set 16 ((rg c 16+4) % 4294967296)=z:=⟨_,rfl⟩
 have e:Ap c i=(Z,ef0):=by
  unfold Ap;dsimp only
  rw[if_neg (by omega),if_neg (by omega),if_neg (by omega),if_neg (by omega),if_neg (by omega),if_neg (by omega),if_neg (by omega),if_neg (by omega),if_neg (by omega),if_neg (by omega),if_neg (by omega),if_neg (by omega),if_neg (by omega),if_neg (by omega)];simp only[u32,BU,IntKind.wrap_u32];rw[hvv,hS,hZ]
 rw[e]
 dsimp only
 rw[hvv] at AL hv
 have hz:(Ab S).set 16 (.int .u32 ((rg c 16+4) % 4294967296))=Ab Z:=by rw[←hZ];exact Ak hsl _ _
 have ST:=fun w=>Cv c i.a v w hc.len hi.a.1 (by have:=hi.a.2;omega)
 rw[hS] at ST
 have HZ:=lh hz
 have HST:=lh ST
 have HAL:=lh AL
 have hge:decide (16≤i.op)=true:=by first|exact decide_eq_true (by omega)|exact decide_eq_false (by omega)
 have hne:∀ k:Int,¬((1≤k∧k≤13)∨(16≤k∧k≤23))→(i.op == k)=false:=fun k hk=>by
  rw[beq_eq_false_iff_ne];rintro rfl;exact hk (by omega)
 have n24:=hne 24 (by omega)
 have n40:=hne 40 (by omega)
 have n41:=hne 41 (by omega)
 have n42:=hne 42 (by omega)
 have n43:=hne 43 (by omega)
 have n44:=hne 44 (by omega)
 have n45:=hne 45 (by omega)
 have n48:=hne 48 (by omega)
 have n49:=hne 49 (by omega)
 have n56:=hne 56 (by omega)
 have n57:=hne 57 (by omega)
 have n58:=hne 58 (by omega)
 have n59:=hne 59 (by omega)
 have n60:=hne 60 (by omega)
 have n61:=hne 61 (by omega)
 have n62:=hne 62 (by omega)
 have n63:=hne 63 (by omega)
 have n64:=hne 64 (by omega)
 have hic0:=hi.c.1
 have hic1:i.c<16:=by have:=hi.c.2;omega
 have hcc:(Ab c)[i.c.toNat]?=some (.int .u32 (rg c i.c.toNat)):=AB hc.len (by omega)
 clear hz hZ hS hvv e ST AL hv hne ho
 obtain⟨hia0,hia1,hib0,hib1,hca,hcb⟩:=inF hc hi
 have L:=Lay.start w
 go_in
 go_wp2_with (refine YS ?_;clear L;intro wz L)
 refine YQ ?_;clear L;intro wz L
 go_wp2_with (first|(refine YL ?_)|((first|refine Yt (Ab Z) ?_|refine YS ?_);clear L;intro wz L))
 exact Xz6
theorem run_any (hc:CpuOk c) (hi:i.Good) (hm:¬(32≤i.op∧i.op≤36)):Calls Tryz.prog 97 #[.agg (Ab c).toArray,.agg (inL i).toArray] w (Ret w (.tuple #[.agg (Ab (Ap c i).1).toArray,efV (Ap c i).2])):=by
 have hf:=Dd hi.f
 by_cases h1:i.op≤13
 · exact run_reg hc hi ⟨by omega,h1⟩
 by_cases h2:i.op≤23
 · exact run_imm hc hi ⟨by omega,h2⟩
 have:i.op=24∨i.op=40∨i.op=41∨i.op=42∨i.op=43∨i.op=44∨i.op=45∨i.op=48∨i.op=49∨i.op=56∨i.op=57∨i.op=58∨i.op=59∨i.op=60∨i.op=61∨i.op=62∨i.op=63∨i.op=64:=by omega
 rcases this with h|h|h|h|h|h|h|h|h|h|h|h|h|h|h|h|h|h
 · exact run_lui hc hi h
 · exact run_beq hc hi h
 · exact run_bne hc hi h
 · exact run_blt hc hi h
 · exact run_bge hc hi h
 · exact run_bltu hc hi h
 · exact run_bgeu hc hi h
 · exact run_jal hc hi h
 · exact run_jalr hc hi h
 · exact run_ecall hc hi h
 · exact run_eret hc hi h
 · exact run_csrr hc hi h
 · exact run_csrw hc hi h
 · exact run_inn hc hi h
 · exact run_out hc hi h
 · exact run_wfi hc hi h
 · exact run_flush hc hi h
 · exact run_halt hc hi h
end
section
variable {c xs m1:List Int} {va:Value} {w:World} {x k:Int}
theorem exec_fault (hc:CpuOk c) (ha:MemRow w va xs) (hm:MemOk xs) (hf:AM c xs=(x,m1,k)) (h0:0<m1.length) (hk:k≠0) (hk0:0≤k) (hk1:k<4294967296):Calls Tryz.prog 48 #[.agg (Ab c).toArray,va] w (AD (fun u=>.tuple #[.agg (Ab (AN c k (rg c 16))).toArray,u,efV ef0]) m1 w):=by
 have hk':(k != 0)=true:=by simpa using hk
 have T:=fun w=>Eq c k (rg c 16) w hc hk0 hk1
 obtain⟨Z,hZ⟩:∃ z,AN c k (rg c 16)=z:=⟨_,rfl⟩
 rw[hZ] at T ⊢
 have HT:=lh T
 clear T hZ hk
 have HF:=lh (fun w h=>Gq c xs va w hc h hm)
 rw[hf] at HF
 dsimp only at HF
 have HA:=lh ha
 obtain⟨n,hn⟩:∃ n,m1.length=n:=⟨_,rfl⟩
 have HN:=lh hn
 clear ha hm hf hn
 have L:=Lay.start w
 go_in
 go_wp2_with (first|(refine YL ?_)|(refine YS ?_;clear L;intro wz L))
 refine (HF.out _ (HA.out.below L.bel)).mono ?_
 rintro e w1 ⟨v1,rfl,ho1,hb1⟩
 obtain⟨g,cap1,cur,rfl,R,L'⟩:=Lay.mem HN.out L ho1 hb1
 replace L:=L'
 clear L' hb1 ho1 HF HA
 go_wp2_with (first|(refine YL ?_)|(refine YS ?_;clear L;intro wz L))
 refine Yr3 ⟨_,rfl,?_,L.bel⟩
 exact RowBx.mem HN.out R (by rw[←HN.out];exact h0) L (k:=0) rfl
theorem Xz40 {P:Prop} (h:P:=by
  have HF:=lh (fun w h=>Gq c xs va w hc h hm)
  rw[hf] at HF
  dsimp only at HF
  have HA:=lh ha
  obtain⟨n,hn⟩:∃ n,m1.length=n:=⟨_,rfl⟩
  have HN:=lh hn
  clear ha hm hf hn
  have L:=Lay.start w
  go_in
  go_wp2_with (first|(refine YL ?_)|(refine YS ?_;clear L;intro wz L))
  refine (HF.out _ (HA.out.below L.bel)).mono ?_
  rintro e w1 ⟨v1,rfl,ho1,hb1⟩
  obtain⟨g,cap1,cur,rfl,R,L'⟩:=Lay.mem HN.out L ho1 hb1
  replace L:=L'
  clear L' hb1 ho1 HF HA
  go_wp2_with fail
  refine (HD.out _).mono ?_
  rintro e w2 ⟨rfl,hb2⟩
  replace L:=L.below hb2
  clear hb2
  go_wp2_with (first|(refine YL ?_)|(refine YS ?_;clear L;intro wz L))
  refine Yr3 ⟨_,rfl,?_,L.bel⟩
  exact RowBx.mem HN.out R (by rw[←HN.out];exact h0) L (k:=1) rfl):P:=h
theorem exec_ill (hc:CpuOk c) (ha:MemRow w va xs) (hm:MemOk xs) (hf:AM c xs=(x,m1,0)) (h0:0<m1.length) (hx0:0≤x) (hx1:x<4294967296) (hd:C9 x=none):Calls Tryz.prog 48 #[.agg (Ab c).toArray,va] w (AD (fun u=>.tuple #[.agg (Ab (AN c 1 x)).toArray,u,efV ef0]) m1 w):=by
 have D:∀ w,Calls Tryz.prog 92 #[.int .u32 x] w (Ret w (.tuple #[inV inZ,.bool false])):=fun w=>by
  have D:=DD x w hx0 hx1
  rw[hd] at D
  exact D
 have T:=fun w=>Eq c 1 x w hc (by decide) (by decide)
 obtain⟨Z,hZ⟩:∃ z,AN c 1 x=z:=⟨_,rfl⟩
 rw[hZ] at T ⊢
 have HT:=lh T
 have HD:=lh D
 clear T hZ D hd hx0 hx1
 exact Xz40
theorem exec_priv {i:In} (hc:CpuOk c) (ha:MemRow w va xs) (hm:MemOk xs) (hf:AM c xs=(x,m1,0)) (h0:0<m1.length) (hx0:0≤x) (hx1:x<4294967296) (hd:C9 x=some i) (hp:BP i.op=true) (hk:BM c=false):Calls Tryz.prog 48 #[.agg (Ab c).toArray,va] w (AD (fun u=>.tuple #[.agg (Ab (AN c 2 x)).toArray,u,efV ef0]) m1 w):=by
 have T:=fun w=>Eq c 2 x w hc (by decide) (by decide)
 obtain⟨Z,hZ⟩:∃ z,AN c 2 x=z:=⟨_,rfl⟩
 rw[hZ] at T ⊢
 have D:∀ w,Calls Tryz.prog 92 #[.int .u32 x] w (Ret w (.tuple #[inV i,.bool true])):=fun w=>by
  have D:=DD x w hx0 hx1
  rw[hd] at D
  exact D
 have hi:=EA hx0 hx1 hd
 have PR:=fun w=>FQ i.op w hi.f
 have KN:=fun w=>Cy c w hc
 have HK:=lh KN
 have HD:=lh D
 clear D KN
 rw[hp] at PR
 rw[hk] at HK
 have HT:=lh T
 have HP:=lh PR
 clear T hZ PR hd hx0 hx1 hp hk hi
 exact Xz40
theorem Xz9 {P:Prop} (h:P:=by
  rw[ho] at PR
  have HP:=lh PR
  clear PR
  have HF:=lh (fun w h=>Gq c xs va w hc h hm)
  rw[hf] at HF
  dsimp only at HF
  have HA:=lh ha
  obtain⟨n,hn⟩:∃ n,m1.length=n:=⟨_,rfl⟩
  have HN:=lh hn
  clear ha hm hf hn
  have L:=Lay.start w
  go_in
  go_wp2_with (first|(refine zbx (ty:=29) L (Ab c) ?_;clear L;intro wz L)|(refine zal (ty:=29) L (List.replicate 25 (.int .u32 0)) ?_;clear L;intro wz L)|(refine zal (ty:=129) L (efL ef0) ?_;clear L;intro wz L)|(refine zlp τ29 Av L 2 (Ab c) ?_))
  refine (HF.out _ (HA.out.below L.bel)).mono ?_
  rintro e w1 ⟨v1,rfl,ho1,hb1⟩
  obtain⟨g,cap1,cur,rfl,R,L'⟩:=Lay.mem HN.out L ho1 hb1
  replace L:=L'
  clear L' hb1 ho1 HF HA
  go_wp2_with fail
  refine (HD.out _).mono ?_
  rintro e w2 ⟨rfl,hb2⟩
  replace L:=L.below hb2
  clear hb2
  go_wp2_with (first|(refine zal (ty:=180) L (inL inZ) ?_;clear L;intro wz L)|(refine zsp (ty:=180) Bd L 0 (inL i) (inL i) (JE _) ?_;clear L;intro wz L)|(refine zld τ3 L 0 ?_)|(refine zlp τ29 Av L 4 (Ab c) ?_)|(refine zlp τ180 Bd L 0 (inL i) ?_)|(refine Bw (ty:=29) L 4 rfl (Ab c) (by rfl) rfl rfl τ29 rfl Av rfl ?_)|(go_at_call 93;(with_reducible refine zcs (HP.out _) ?_))|(go_at_call 94;(with_reducible refine zcl L (HK.out _) ?_);clear L;intro wz L))
  have HM:=lh (RowBx.mem HN.out R (by rw[←HN.out];exact h0) L (k:=1) rfl).row
  refine (HLD.out _ _ HM.out).mono ?_
  rintro e w3 ⟨v3,rfl,ho3,hb3⟩
  obtain⟨g2,cap2,cur2,rfl,R2,L'⟩:=Lay.mem HN2.out L ho3 hb3
  replace L:=L'
  clear L' hb3 ho3 HLD HM
  go_wp2_with (first|(refine zsp (ty:=29) Av L 5 (Ab Z) (Ab Z) (BG Z) ?_;clear L;intro wz L)|(refine zlp τ29 Av L 5 (Ab Z) ?_)|(refine zsp (ty:=29) Av L 4 (Ab Z) (Ab Z) (BG Z) ?_;clear L;intro wz L)|(refine zsp (ty:=129) Cz L 3 (efL ef0) (efL ef0) (Gt _) ?_;clear L;intro wz L))
  refine Yr3 ⟨_,rfl,?_,L.bel⟩
  exact RowBx.mem HN2.out R2 (by rw[←HN2.out];exact h2) L (k:=0) rfl):P:=h
theorem exec_load {i:In} (hc:CpuOk c) (ha:MemRow w va xs) (hm:MemOk xs) (hf:AM c xs=(x,m1,0)) (hm1:MemOk m1) (hx0:0≤x) (hx1:x<4294967296) (hd:C9 x=some i) (h2:0<(C3 c m1 i).2.length)
    (ho:i.op=32∨i.op=33∨i.op=34):Calls Tryz.prog 48 #[.agg (Ab c).toArray,va] w (AD (fun u=>.tuple #[.agg (Ab (C3 c m1 i).1).toArray,u,efV ef0]) (C3 c m1 i).2 w):=by
 have D:∀ w,Calls Tryz.prog 92 #[.int .u32 x] w (Ret w (.tuple #[inV i,.bool true])):=fun w=>by
  have D:=DD x w hx0 hx1
  rw[hd] at D
  exact D
 have hi:=EA hx0 hx1 hd
 have PR:=fun w=>FQ i.op w hi.f
 have KN:=fun w=>Cy c w hc
 have HK:=lh KN
 have HD:=lh D
 clear D KN
 have LD:=fun w u h=>cload_any (c:=c) (va:=u) (w:=w) hc h hm1 hi.toOk
 have h0:=hm1.p
 obtain⟨Z,hZ⟩:∃ z,(C3 c m1 i).1=z:=⟨_,rfl⟩
 obtain⟨m2,hM⟩:∃ z,(C3 c m1 i).2=z:=⟨_,rfl⟩
 rw[hZ,hM] at LD ⊢
 rw[hM] at h2
 obtain⟨n2,hn2⟩:∃ n,m2.length=n:=⟨_,rfl⟩
 have HN2:=lh hn2
 have HLD:=lh LD
 have hp:BP i.op=false:=decide_eq_false (by omega)
 rw[hp] at PR
 clear LD hZ hM hm1 hn2 hd hx0 hx1 hp hi
 rcases ho with ho|ho|ho
 all_goals
  exact Xz9
theorem exec_store {i:In} (hc:CpuOk c) (ha:MemRow w va xs) (hm:MemOk xs) (hf:AM c xs=(x,m1,0)) (hm1:MemOk m1) (hx0:0≤x) (hx1:x<4294967296) (hd:C9 x=some i) (h2:0<(BJ c m1 i).2.length)
    (ho:i.op=35∨i.op=36):Calls Tryz.prog 48 #[.agg (Ab c).toArray,va] w (AD (fun u=>.tuple #[.agg (Ab (BJ c m1 i).1).toArray,u,efV ef0]) (BJ c m1 i).2 w):=by
 have D:∀ w,Calls Tryz.prog 92 #[.int .u32 x] w (Ret w (.tuple #[inV i,.bool true])):=fun w=>by
  have D:=DD x w hx0 hx1
  rw[hd] at D
  exact D
 have hi:=EA hx0 hx1 hd
 have PR:=fun w=>FQ i.op w hi.f
 have KN:=fun w=>Cy c w hc
 have HK:=lh KN
 have HD:=lh D
 clear D KN
 have LD:=fun w u h=>cstore_any (c:=c) (va:=u) (w:=w) hc h hm1 hi.toOk
 have h0:=hm1.p
 obtain⟨Z,hZ⟩:∃ z,(BJ c m1 i).1=z:=⟨_,rfl⟩
 obtain⟨m2,hM⟩:∃ z,(BJ c m1 i).2=z:=⟨_,rfl⟩
 rw[hZ,hM] at LD ⊢
 rw[hM] at h2
 obtain⟨n2,hn2⟩:∃ n,m2.length=n:=⟨_,rfl⟩
 have HN2:=lh hn2
 have HLD:=lh LD
 have hp:BP i.op=false:=decide_eq_false (by omega)
 rw[hp] at PR
 clear LD hZ hM hm1 hn2 hd hx0 hx1 hp hi
 rcases ho with ho|ho
 all_goals
  exact Xz9
end
section
variable {c xs m1:List Int} {va:Value} {w:World} {x k:Int}
theorem Xz28 {P:Prop} (h:P:=by
  have HP:=lh PR
  clear RN hZ hE hm1 PR hd hx0 hx1 hp hi hne ho
  have HF:=lh (fun w h=>Gq c xs va w hc h hm)
  rw[hf] at HF
  dsimp only at HF
  have HA:=lh ha
  obtain⟨n,hn⟩:∃ n,m1.length=n:=⟨_,rfl⟩
  have HN:=lh hn
  clear ha hm hf hn
  have L:=Lay.start w
  go_in
  go_wp2_with (first|(refine YL ?_)|(refine YS ?_;clear L;intro wz L))
  refine (HF.out _ (HA.out.below L.bel)).mono ?_
  rintro e w1 ⟨v1,rfl,ho1,hb1⟩
  obtain⟨g,cap1,cur,rfl,R,L'⟩:=Lay.mem HN.out L ho1 hb1
  replace L:=L'
  clear L' hb1 ho1 HF HA
  go_wp2_with fail
  refine (HD.out _).mono ?_
  rintro e w2 ⟨rfl,hb2⟩
  replace L:=L.below hb2
  clear hb2
  go_wp2_with (first|(refine YL ?_)|((first|refine Yu (inL i) ?_|refine Yu (Ab Z) ?_|refine Yu (efL e) ?_|refine YS ?_);clear L;intro wz L))
  refine Yh [5,0] ?_;clear L;intro hHeld L
  refine YT ?_
  refine YW 3 [5,0] (Ab Z) ?_;clear L hHeld;intro wz L hHeld
  refine YT ?_
  refine YW 5 [5,0] (efL e) ?_;clear L hHeld;intro wz L hHeld
  refine YD ?_
  clear hHeld
  go_wp2_with fail
  refine Yr3 ⟨_,rfl,?_,L.bel⟩
  exact RowBx.mem HN.out R (by rw[←HN.out];exact h0) L (k:=2) rfl):P:=h
theorem exec_run1 {i:In} (hc:CpuOk c) (ha:MemRow w va xs) (hm:MemOk xs) (hf:AM c xs=(x,m1,0)) (hm1:MemOk m1) (hx0:0≤x) (hx1:x<4294967296) (hd:C9 x=some i) (hp:BP i.op=false) (ho:¬(32≤i.op∧i.op≤36)):Calls Tryz.prog 48 #[.agg (Ab c).toArray,va] w (AD (fun u=>.tuple #[.agg (Ab (Ap c i).1).toArray,u,efV ((Ap c i).2)]) m1 w):=by
 have D:∀ w,Calls Tryz.prog 92 #[.int .u32 x] w (Ret w (.tuple #[inV i,.bool true])):=fun w=>by
  have D:=DD x w hx0 hx1
  rw[hd] at D
  exact D
 have hi:=EA hx0 hx1 hd
 have PR:=fun w=>FQ i.op w hi.f
 have KN:=fun w=>Cy c w hc
 have HK:=lh KN
 have HD:=lh D
 clear D KN
 have RN:=fun w=>run_any (w:=w) hc hi ho
 have h0:=hm1.p
 obtain⟨Z,hZ⟩:∃ z,(Ap c i).1=z:=⟨_,rfl⟩
 obtain⟨e,hE⟩:∃ z,(Ap c i).2=z:=⟨_,rfl⟩
 rw[hZ,hE] at RN ⊢
 have HRN:=lh RN
 have hne:∀ k:Int,32≤k→k≤36→(i.op == k)=false:=fun k h1 h2=>by
  rw[beq_eq_false_iff_ne];rintro rfl;exact ho ⟨h1,h2⟩
 have n32:=hne 32 (by decide) (by decide)
 have n33:=hne 33 (by decide) (by decide)
 have n34:=hne 34 (by decide) (by decide)
 have n35:=hne 35 (by decide) (by decide)
 have n36:=hne 36 (by decide) (by decide)
 rw[hp] at PR
 exact Xz28
theorem exec_run2 {i:In} (hc:CpuOk c) (ha:MemRow w va xs) (hm:MemOk xs) (hf:AM c xs=(x,m1,0)) (hm1:MemOk m1) (hx0:0≤x) (hx1:x<4294967296) (hd:C9 x=some i) (hp:BP i.op=true∧BM c=true) (ho:¬(32≤i.op∧i.op≤36)):Calls Tryz.prog 48 #[.agg (Ab c).toArray,va] w (AD (fun u=>.tuple #[.agg (Ab (Ap c i).1).toArray,u,efV ((Ap c i).2)]) m1 w):=by
 have D:∀ w,Calls Tryz.prog 92 #[.int .u32 x] w (Ret w (.tuple #[inV i,.bool true])):=fun w=>by
  have D:=DD x w hx0 hx1
  rw[hd] at D
  exact D
 have hi:=EA hx0 hx1 hd
 have PR:=fun w=>FQ i.op w hi.f
 have KN:=fun w=>Cy c w hc
 have HK:=lh KN
 have HD:=lh D
 clear D KN
 have RN:=fun w=>run_any (w:=w) hc hi ho
 have h0:=hm1.p
 obtain⟨Z,hZ⟩:∃ z,(Ap c i).1=z:=⟨_,rfl⟩
 obtain⟨e,hE⟩:∃ z,(Ap c i).2=z:=⟨_,rfl⟩
 rw[hZ,hE] at RN ⊢
 have HRN:=lh RN
 have hne:∀ k:Int,32≤k→k≤36→(i.op == k)=false:=fun k h1 h2=>by
  rw[beq_eq_false_iff_ne];rintro rfl;exact ho ⟨h1,h2⟩
 have n32:=hne 32 (by decide) (by decide)
 have n33:=hne 33 (by decide) (by decide)
 have n34:=hne 34 (by decide) (by decide)
 have n35:=hne 35 (by decide) (by decide)
 have n36:=hne 36 (by decide) (by decide)
 (rw[hp.1] at PR;rw[hp.2] at HK)
 exact Xz28
theorem Fi (hc:CpuOk c) (ha:MemRow w va xs) (hm:MemOk xs):Calls Tryz.prog 48 #[.agg (Ab c).toArray,va] w (AD (fun u=>.tuple #[.agg (Ab (Bn c xs).1).toArray,u,efV (Bn c xs).2.2]) (Bn c xs).2.1 w):=by
 obtain⟨hm1,hl,hx0,hx1,hk0,hk1⟩:=fetch_ok hc hm
 have hE:=EQ hc hm
 have h2:=hE.2.1.p
 clear hE
 unfold Bn at h2 ⊢
 dsimp only at h2 ⊢
 generalize hf:AM c xs=f at *
 obtain⟨x,m1,k⟩:=f
 dsimp only at *
 by_cases hk:k=0
 · subst hk
   rw[if_neg (by decide)] at h2 ⊢
   cases hd:C9 x with
   | none=>exact exec_ill hc ha hm hf hm1.p hx0 hx1 hd
   | some i =>
     rw[hd] at h2
     dsimp only at h2 ⊢
     by_cases hp:BP i.op=true∧BM c=false
     · rw[if_pos hp];exact exec_priv hc ha hm hf hm1.p hx0 hx1 hd hp.1 hp.2
     · rw[if_neg hp] at h2 ⊢
       by_cases h3:32≤i.op∧i.op≤34
       · rw[if_pos h3] at h2 ⊢
         exact exec_load hc ha hm hf hm1 hx0 hx1 hd h2 (by omega)
       · rw[if_neg h3] at h2 ⊢
         by_cases h4:35≤i.op∧i.op≤36
         · rw[if_pos h4] at h2 ⊢
           exact exec_store hc ha hm hf hm1 hx0 hx1 hd h2 (by omega)
         · rw[if_neg h4]
           cases hpb:BP i.op with
           | false=>exact exec_run1 hc ha hm hf hm1 hx0 hx1 hd hpb (by omega)
           | true =>
             refine exec_run2 hc ha hm hf hm1 hx0 hx1 hd ⟨hpb,?_⟩ (by omega)
             cases hkb:BM c with
             | true=>rfl
             | false=>exact absurd ⟨hpb,hkb⟩ hp
 · rw[if_pos hk]
   exact exec_fault hc ha hm hf hm1.p hk hk0 hk1
end
def mcL (M:Mc) (v:Value):List Value:=Ab M.c++[v,.string M.keys,.bool M.tm.a,.int .u32 M.tm.d,.bool M.tm.f,
 .int .u32 M.dk.bl,.int .u32 M.dk.b,.int .u32 M.dk.f,.int .i64 M.dk.s,.int .i64 M.dk.cmd,.int .u32 M.dk.ob,.int .u32 M.dk.of,.string M.dk.od,
 .int .u32 M.nc.f,.int .u32 M.nc.l,.bool M.nc.p,.int .u32 M.nc.b,.bool M.nc.r,.int .u32 M.nc.g,.int .u32 M.T,.int .u32 M.G,.int .u64 M.n,.bool M.w,.bool M.h]
theorem Aw:(Tryz.prog.info? 43).map (·.size)=some 49:=by kernel_rfl
theorem Bp (M:Mc) {v:Value} (hv:v.oneCell'=true):∀ u∈mcL M v,u.oneCell'=true:=by
 intro u hu
 rcases List.mem_append.1 hu with hu|hu
 · exact BG _ u hu
 · simp only[List.mem_cons,List.not_mem_nil,or_false] at hu
   rcases hu with rfl|rfl|rfl|rfl|rfl|rfl|rfl|rfl|rfl|rfl|rfl|rfl|rfl|rfl|rfl|rfl|rfl|rfl|rfl|rfl|rfl|rfl|rfl|rfl <;> first|exact hv|rfl
def DS (s:ByteArray):List Value:=[.string s]
def blL (T G:Nat):List Value:=[.int .u32 T,.int .u32 G]
theorem bl_zero:(Tryz.prog.info? 40).map (·.zero)=some (some (.agg (List.toArray (blL 0 0)))):=by kernel_rfl
theorem BA:(Tryz.prog.info? 32).map (·.size)=some 1:=by kernel_rfl
theorem Cj:(Tryz.prog.info? 40).map (·.size)=some 2:=by kernel_rfl
section
variable {M:Mc} {v:Value} {w:World}
theorem mdev_any (hM:M.Ok) (ha:MemRow w v M.m):Calls Tryz.prog 84 #[.agg (mcL M v).toArray] w (Ret w (.bool true)):=by
 obtain⟨B,off,cap,rfl,_,_,_,hrow⟩:=ha.open
 have P:=fun w=>EN (some ⟨B,off,none⟩) M.m.length cap w hM.m.r hM.m.q
 have hp:=hM.m.pages
 obtain⟨q,hq⟩:∃ q,M.m.length / 32=q:=⟨_,rfl⟩
 rw[hq] at P
 have hqw:Ao M.m=q:=by omega
 have C:∀ w,Calls Tryz.prog 152 #[.agg (DS M.keys).toArray] w (Ret w (.bool (decide (M.keys.size≤16)))):=fun w=>J1 M.keys w
 rw[decide_eq_true hM.keys] at C
 have TM:=fun w=>tmmay_any M.tm w
 rw[show Hq M.tm=true by
  have ht:=hM.tm
  unfold Hq
  cases h1:M.tm.a with
  | true=>have:=ht.2.1 h1;simp [this.1,this.2]
  | false =>
    cases h2:M.tm.f with
    | true=>rfl
    | false=>have:=ht.2.2 h1 h2;simp [this]] at TM
 have D:=fun w=>dkmay_any M.dk q w (by rw[←hqw];exact hM.dk) (by omega)
 have N:=fun w=>ncmay_any M.nc q w (by rw[←hqw];exact hM.nc) (by omega)
 have BL:∀ w,Calls Tryz.prog 156 #[.agg (blL M.T M.G).toArray,.int .i64 (q:Int)] w (Ret w (.bool (FV M.G (q:Int)))):=fun w=>may_any M.T M.G (q:Int) w hM.G
 rw[show FV M.G (q:Int)=true by rw[←hqw];exact hM.bal] at BL
 have HP:=lh P;have HC:=lh C;have HT:=lh TM;have HD:=lh D;have HNn:=lh N;have HB:=lh BL
 clear P C TM D N BL hqw hq hp ha hrow hM
 have L:=Lay.start w
 go_in
 go_wp2_with (first|(refine Bw (ty:=34) L 0 rfl (tmL M.tm) (by rfl) rfl rfl τ34 rfl BS rfl ?_)|(refine Yp (DS M.keys) ?_)|(refine Bw (ty:=36) L 0 rfl (dkL M.dk) (by rfl) rfl rfl τ36 rfl Bk rfl ?_)|(refine Bw (ty:=38) L 0 rfl (ncL M.nc) (by rfl) rfl rfl τ38 rfl B7 rfl ?_)|(refine Bw (ty:=40) L 0 rfl (blL M.T M.G) (by rfl) rfl rfl τ40 rfl Cj rfl ?_)|(refine YL ?_)|(refine YS ?_;clear L;intro wz L))
 go_ret
 exact Ret.mk L.bel
theorem Xz85 {P:Prop} (h:P:=by
  clear hwh
  have L:=Lay.start w
  go_in
  go_wp2_with (first|(refine YL ?_)|((first|(go_at_call 84;(with_reducible refine zcl L (HMD.out _ (HA.out.below L.bel)) ?_))|refine YS ?_);clear L;intro wz L))
  go_ret
  exact Ret.mk L.bel):P:=h
theorem BF (hM:M.Ok) (ha:MemRow w v M.m):Calls Tryz.prog 38 #[.agg (mcL M v).toArray] w (Ret w (.bool true)):=by
 have MD:=fun w h=>mdev_any (v:=v) (w:=w) hM h
 have HMD:=lh MD
 have HA:=lh ha
 obtain⟨B,off,cap,rfl,_,_,_,hrow⟩:=ha.open
 have P:=fun w=>EN (some ⟨B,off,none⟩) M.m.length cap w hM.m.r hM.m.q
 have hp:=hM.m.pages
 obtain⟨q,hq⟩:∃ q,M.m.length / 32=q:=⟨_,rfl⟩
 rw[hq] at P
 have hq1:((q:Int) == 0)=false:=by rw[beq_eq_false_iff_ne];omega
 have HP:=lh P
 have hc:=hM.c
 have x0:(rg M.c 0 != 0)=false:=by rw[hc.x0];rfl
 have x1:decide (31<rg M.c 17)=false:=decide_eq_false (by have:=hc.s;omega)
 have x2:decide (31<rg M.c 24)=false:=decide_eq_false (by have:=hc.e;omega)
 have x3:decide (255<rg M.c 23)=false:=decide_eq_false (by have:=hc.r;omega)
 have x4:((rg M.c 18).tmod 4 != 0)=false:=by rw[Int.tmod_eq_emod_of_nonneg (hc.at 18).1,hc.v];rfl
 have x5:decide ((1152921504606846976:Int)<M.n)=false:=decide_eq_false (by have:=hM.n;omega)
 have hwh:=hM.wh
 clear P hq hp MD ha hrow hM hc
 obtain⟨c,m,keys,tm,dk,nc,T,G,n,wt,hl⟩:=M
 dsimp only at x0 x1 x2 x3 x4 x5 hwh HMD HA HP ⊢
 cases wt
 · exact Xz85
 · obtain rfl:=hwh rfl
   exact Xz85
end
end Go.Proofs.YtnmpfmapncicmaaGreat
