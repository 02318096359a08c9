/-
  Texts joined: TpAlu2 TpRun. No law is proved here.
-/
import Derived.Test.YtnmpfmapncicmaaGreatB7
namespace Go.Proofs.YtnmpfmapncicmaaGreat
set_option linter.all false
set_option maxRecDepth 100000
set_option maxHeartbeats 40000000
open Go.RowKit
theorem alu_16 (a b:Int) (w:World) (ha0:0≤a) (ha1:a<4294967296) (hb0:0≤b) (hb1:b<4294967296):Calls Tryz.prog 171 #[.int .i64 16,.int .u32 a,.int .u32 b] w (Ret w (.tuple #[.int .u32 (AC 16 a b),.bool true])):=by
 have e31:=Bi hb0 hb1
 have hs0:0≤b % 32:=by omega
 have hs1:b % 32<32:=by omega
 have E:((a+b) % 4294967296)=AC 16 a b:=Co _
 rw[←E]
 clear E
 go_in
 go_wp2
 go_ret2
 exact Ret.mk' rfl bel
theorem alu_17 (a b:Int) (w:World) (ha0:0≤a) (ha1:a<4294967296) (hb0:0≤b) (hb1:b<4294967296):Calls Tryz.prog 171 #[.int .i64 17,.int .u32 a,.int .u32 b] w (Ret w (.tuple #[.int .u32 (AC 17 a b),.bool true])):=by
 have e31:=Bi hb0 hb1
 have hs0:0≤b % 32:=by omega
 have hs1:b % 32<32:=by omega
 have E:(bits .and .u32 a b)=AC 17 a b:=rfl
 rw[←E]
 clear E
 go_in
 go_wp2
 go_ret2
 exact Ret.mk' rfl bel
theorem alu_18 (a b:Int) (w:World) (ha0:0≤a) (ha1:a<4294967296) (hb0:0≤b) (hb1:b<4294967296):Calls Tryz.prog 171 #[.int .i64 18,.int .u32 a,.int .u32 b] w (Ret w (.tuple #[.int .u32 (AC 18 a b),.bool true])):=by
 have e31:=Bi hb0 hb1
 have hs0:0≤b % 32:=by omega
 have hs1:b % 32<32:=by omega
 have E:(bits .or .u32 a b)=AC 18 a b:=rfl
 rw[←E]
 clear E
 go_in
 go_wp2
 go_ret2
 exact Ret.mk' rfl bel
theorem alu_19 (a b:Int) (w:World) (ha0:0≤a) (ha1:a<4294967296) (hb0:0≤b) (hb1:b<4294967296):Calls Tryz.prog 171 #[.int .i64 19,.int .u32 a,.int .u32 b] w (Ret w (.tuple #[.int .u32 (AC 19 a b),.bool true])):=by
 have e31:=Bi hb0 hb1
 have hs0:0≤b % 32:=by omega
 have hs1:b % 32<32:=by omega
 have E:(bits .xor .u32 a b)=AC 19 a b:=rfl
 rw[←E]
 clear E
 go_in
 go_wp2
 go_ret2
 exact Ret.mk' rfl bel
theorem alu_20 (a b:Int) (w:World) (ha0:0≤a) (ha1:a<4294967296) (hb0:0≤b) (hb1:b<4294967296):Calls Tryz.prog 171 #[.int .i64 20,.int .u32 a,.int .u32 b] w (Ret w (.tuple #[.int .u32 (AC 20 a b),.bool true])):=by
 have e31:=Bi hb0 hb1
 have hs0:0≤b % 32:=by omega
 have hs1:b % 32<32:=by omega
 have E:(a*2 ^ (b % 32).toNat % 4294967296)=AC 20 a b:=Co _
 rw[←E]
 clear E
 go_in
 go_wp2
 go_ret2
 exact Ret.mk' rfl bel
theorem alu_21 (a b:Int) (w:World) (ha0:0≤a) (ha1:a<4294967296) (hb0:0≤b) (hb1:b<4294967296):Calls Tryz.prog 171 #[.int .i64 21,.int .u32 a,.int .u32 b] w (Ret w (.tuple #[.int .u32 (AC 21 a b),.bool true])):=by
 have e31:=Bi hb0 hb1
 have hs0:0≤b % 32:=by omega
 have hs1:b % 32<32:=by omega
 have E:(a / 2 ^ (b % 32).toNat)=AC 21 a b:=rfl
 rw[←E]
 clear E
 go_in
 go_wp2
 go_ret2
 exact Ret.mk' rfl bel
theorem alu_22 (a b:Int) (w:World) (ha0:0≤a) (ha1:a<4294967296) (hb0:0≤b) (hb1:b<4294967296):Calls Tryz.prog 171 #[.int .i64 22,.int .u32 a,.int .u32 b] w (Ret w (.tuple #[.int .u32 (AC 22 a b),.bool true])):=by
 have e31:=Bi hb0 hb1
 have hs0:0≤b % 32:=by omega
 have hs1:b % 32<32:=by omega
 have E:(wrap32 a / 2 ^ (b % 32).toNat % 4294967296)=AC 22 a b:=Co _
 rw[←E]
 clear E
 go_in
 go_wp2
 go_ret2
 exact Ret.mk' rfl bel
theorem alu_23 (a b:Int) (w:World) (ha0:0≤a) (ha1:a<4294967296) (hb0:0≤b) (hb1:b<4294967296):Calls Tryz.prog 171 #[.int .i64 23,.int .u32 a,.int .u32 b] w (Ret w (.tuple #[.int .u32 (AC 23 a b),.bool true])):=by
 have e:AC 23 a b=if wrap32 a<wrap32 b then 1 else 0:=rfl
 rw[e]
 by_cases hc:wrap32 a<wrap32 b
 · rw[if_pos hc]
   have hq:decide (wrap32 a<wrap32 b)=true:=decide_eq_true hc
   have T:=fun w=>Ed true w
   exact Xz35
 · rw[if_neg hc]
   have hq:decide (wrap32 a<wrap32 b)=false:=decide_eq_false hc
   have T:=fun w=>Ed false w
   exact Xz35
theorem alu_any (op a b:Int) (w:World) (ho:(1≤op∧op≤13)∨(16≤op∧op≤23)) (ha0:0≤a) (ha1:a<4294967296) (hb0:0≤b) (hb1:b<4294967296):Calls Tryz.prog 171 #[.int .i64 op,.int .u32 a,.int .u32 b] w (Ret w (.tuple #[.int .u32 (AC op a b),.bool true])):=by
 rcases aluOps ho with rfl|rfl|rfl|rfl|rfl|rfl|rfl|rfl|rfl|rfl|rfl|rfl|rfl|rfl|rfl|rfl|rfl|rfl|rfl|rfl|rfl
 · exact alu_1 a b w ha0 ha1 hb0 hb1
 · exact alu_2 a b w ha0 ha1 hb0 hb1
 · exact alu_3 a b w ha0 ha1 hb0 hb1
 · exact alu_4 a b w ha0 ha1 hb0 hb1
 · exact alu_5 a b w ha0 ha1 hb0 hb1
 · exact alu_6 a b w ha0 ha1 hb0 hb1
 · exact alu_7 a b w ha0 ha1 hb0 hb1
 · exact alu_8 a b w ha0 ha1 hb0 hb1
 · exact alu_9 a b w ha0 ha1 hb0 hb1
 · exact alu_10 a b w ha0 ha1 hb0 hb1
 · exact alu_11 a b w ha0 ha1 hb0 hb1
 · exact alu_12 a b w ha0 ha1 hb0 hb1
 · exact alu_13 a b w ha0 ha1 hb0 hb1
 · exact alu_16 a b w ha0 ha1 hb0 hb1
 · exact alu_17 a b w ha0 ha1 hb0 hb1
 · exact alu_18 a b w ha0 ha1 hb0 hb1
 · exact alu_19 a b w ha0 ha1 hb0 hb1
 · exact alu_20 a b w ha0 ha1 hb0 hb1
 · exact alu_21 a b w ha0 ha1 hb0 hb1
 · exact alu_22 a b w ha0 ha1 hb0 hb1
 · exact alu_23 a b w ha0 ha1 hb0 hb1
def efL (e:Ef):List Value:=[.int .i64 e.k,.int .i64 e.p,.int .i64 e.r,.int .u32 e.v]
theorem ef_zero:(Tryz.prog.info? 129).map (·.zero)=some (some (.agg (List.toArray (efL ef0)))):=by kernel_rfl
def efV (e:Ef):Value:=.agg (efL e).toArray
theorem Cz:(Tryz.prog.info? 129).map (·.size)=some 4:=by kernel_rfl
theorem Gt (e:Ef):∀ v∈efL e,v.oneCell'=true:=by
 intro v hv
 simp only[efL,List.mem_cons,List.not_mem_nil,or_false] at hv
 rcases hv with rfl|rfl|rfl|rfl <;> rfl
theorem Ei {c:List Int} (h:c.length=25) (k v:Int):(CW c k v).length=25:=by unfold CW;split;rw[List.length_set];exact h;exact h
section
variable {c:List Int} {i:In} {w:World}
theorem Xz6 {P:Prop} (h:P:=by
  refine Yh [4,0] ?_;clear L;intro hHeld L
  refine YT ?_
  refine YW 2 [4,0] (Ab Z) ?_;clear L hHeld;intro wz L hHeld
  refine YW 3 [4,0] (efL ef0) ?_;clear L hHeld;intro wz L hHeld
  refine YD ?_
  clear hHeld
  go_wp2_with fail
  exact Yr2 (Ret.mk L.bel)):P:=h
theorem run_lui (hc:CpuOk c) (hi:i.Good) (ho:i.op=24):Calls Tryz.prog 97 #[.agg (Ab c).toArray,.agg (inL i).toArray] w (Ret w (.tuple #[.agg (Ab (Ap c i).1).toArray,efV (Ap c i).2])):=by
 have e:Ap c i=((Bm c i.a (i.imm % 4294967296*65536 % 4294967296)).set 16 ((rg c 16+4) % 4294967296),ef0):=by
  unfold Ap;dsimp only;rw[if_pos ho];simp only[u32,BU,IntKind.wrap_u32]
 rw[e]
 dsimp only
 have ST:=fun w=>Cv c i.a (i.imm % 4294967296*65536 % 4294967296) w hc.len hi.a.1 (by have:=hi.a.2;omega)
 obtain⟨S,hS⟩:∃ s,Bm c i.a (i.imm % 4294967296*65536 % 4294967296)=s:=⟨_,rfl⟩
 rw[hS]
 obtain⟨Z,hZ⟩:∃ z,S.set 16 ((rg c 16+4) % 4294967296)=z:=⟨_,rfl⟩
 have hsl:S.length=25:=by rw[←hS];first|exact hc.len|exact Br hc.len _ _|exact Ei hc.len _ _
 have hz:(Ab S).set 16 (.int .u32 ((rg c 16+4) % 4294967296))=Ab Z:=by rw[←hZ];exact Ak hsl _ _
 rw[hZ]
 rw[hS] at ST
 have HST:=lh ST
 clear ST
 have HZ:=lh hz
 clear hz hZ hS e
 obtain⟨hia0,hia1,hib0,hib1,hca,hcb⟩:=inF hc hi
 have L:=Lay.start w
 go_in
 go_wp2_with (refine YS ?_;clear L;intro wz L)
 refine YQ ?_;clear L;intro wz L
 go_wp2_with (first|(refine YL ?_)|((first|refine Yt (Ab Z) ?_|refine YS ?_);clear L;intro wz L))
 exact Xz6
theorem run_jal (hc:CpuOk c) (hi:i.Good) (ho:i.op=48):Calls Tryz.prog 97 #[.agg (Ab c).toArray,.agg (inL i).toArray] w (Ret w (.tuple #[.agg (Ab (Ap c i).1).toArray,efV (Ap c i).2])):=by
 obtain⟨q,hq⟩:∃ q,4*(i.imm % 4294967296) % 4294967296=q:=⟨_,rfl⟩
 obtain⟨S,hS⟩:∃ s,Bm c i.a ((rg c 16+4) % 4294967296)=s:=⟨_,rfl⟩
 have hsl:S.length=25:=by rw[←hS];exact Br hc.len _ _
 have hpc:rg c 16=rg S 16:=by rw[←hS];exact (Ea hi.a.2 _).symm
 obtain⟨N,hN⟩:∃ n,(rg S 16+q) % 4294967296=n:=⟨_,rfl⟩
 have e:Ap c i=(S.set 16 N,ef0):=by
  unfold Ap;dsimp only;rw[if_neg (by omega),if_neg (by omega),if_pos ho];simp only[u32,BU,IntKind.wrap_u32];rw[hq,hS,hpc,hN]
 rw[e]
 dsimp only
 have ST:=fun w=>Cv c i.a ((rg c 16+4) % 4294967296) w hc.len hi.a.1 (by have:=hi.a.2;omega)
 rw[hS] at ST
 have HST:=lh ST
 have HQ:=lh hq
 clear ST hS hpc hq e
 obtain⟨Z,hZ⟩:∃ z,S.set 16 N=z:=⟨_,rfl⟩
 have hz:(Ab S).set 16 (.int .u32 N)=Ab Z:=by rw[←hZ];exact Ak hsl _ _
 rw[hZ]
 have HZ:=lh hz
 have HN:=lh hN
 clear hz hZ hN
 obtain⟨hia0,hia1,hib0,hib1,hca,hcb⟩:=inF hc hi
 have L:=Lay.start w
 go_in
 go_wp2_with (refine YS ?_;clear L;intro wz L)
 refine YQ ?_;clear L;intro wz L
 go_wp2_with (first|(refine op_mul (ty:=25) (m:=4) (n:=i.imm % 4294967296) q rfl rfl rfl rfl HQ.out ?_)|(refine op_add (ty:=25) (m:=rg S 16) (n:=q) N rfl rfl rfl rfl HN.out ?_)|(refine YL ?_)|((first|refine Yt (Ab Z) ?_|refine YS ?_);clear L;intro wz L))
 exact Xz6
theorem Xz116 {P:Prop} (h:P:=by
  unfold Ap;dsimp only;(repeat rw[if_neg (by omega)]);rw[if_pos ho];simp only[u32,BU,IntKind.wrap_u32];rw[hS,hN]):P:=h
theorem run_jalr (hc:CpuOk c) (hi:i.Good) (ho:i.op=49):Calls Tryz.prog 97 #[.agg (Ab c).toArray,.agg (inL i).toArray] w (Ret w (.tuple #[.agg (Ab (Ap c i).1).toArray,efV (Ap c i).2])):=by
 obtain⟨S,hS⟩:∃ s,Bm c i.a ((rg c 16+4) % 4294967296)=s:=⟨_,rfl⟩
 have hsl:S.length=25:=by rw[←hS];exact Br hc.len _ _
 obtain⟨N,hN⟩:∃ n,(rg c i.b.toNat+i.imm % 4294967296) % 4294967296=n:=⟨_,rfl⟩
 have e:Ap c i=(S.set 16 N,ef0):=by
  exact Xz116
 rw[e]
 dsimp only
 have ST:=fun w=>Cv c i.a ((rg c 16+4) % 4294967296) w hc.len hi.a.1 (by have:=hi.a.2;omega)
 rw[hS] at ST
 have HST:=lh ST
 clear ST hS e
 obtain⟨Z,hZ⟩:∃ z,S.set 16 N=z:=⟨_,rfl⟩
 have hz:(Ab S).set 16 (.int .u32 N)=Ab Z:=by rw[←hZ];exact Ak hsl _ _
 rw[hZ]
 have HZ:=lh hz
 have HN:=lh hN
 clear hz hZ hN
 obtain⟨hia0,hia1,hib0,hib1,hca,hcb⟩:=inF hc hi
 have L:=Lay.start w
 go_in
 go_wp2_with (refine YS ?_;clear L;intro wz L)
 refine YQ ?_;clear L;intro wz L
 go_wp2_with (first|(refine op_add (ty:=25) (m:=rg c i.b.toNat) (n:=i.imm % 4294967296) N rfl rfl rfl rfl HN.out ?_)|(refine YL ?_)|((first|refine Yt (Ab Z) ?_|refine YS ?_);clear L;intro wz L))
 exact Xz6
end
end Go.Proofs.YtnmpfmapncicmaaGreat
