/-
  Texts joined: TpRun3 TpRun4 TpRg BalAwake Mix TpRep. No law is proved here.
-/
import Derived.Test.YtnmpfmapncicmaaGreatB9
namespace Go.Proofs.YtnmpfmapncicmaaGreat
set_option linter.all false
set_option maxRecDepth 100000
set_option maxHeartbeats 40000000
open Go.RowKit
section
variable {c:List Int} {i:In} {w:World}
theorem Xz105 {P:Prop} (h:P:=by
  unfold Ap;dsimp only;rw[if_neg (by omega),if_pos (by omega),ho,if_neg (by rw[hb];decide)];simp only[u32,BU,IntKind.wrap_u32];rw[hZ]):P:=h
theorem Xz114 {P:Prop} (h:P:=by
  unfold Ap;dsimp only;rw[if_neg (by omega),if_pos (by omega),ho,if_pos hb];simp only[u32,IntKind.wrap_u32];rw[hq,hN,hZ]):P:=h
theorem Ht (hc:CpuOk c) (hi:i.Good) {o:Int} (h6:o=40∨o=41∨o=42∨o=43∨o=44∨o=45) (ho:i.op=o):Calls Tryz.prog 97 #[.agg (Ab c).toArray,.agg (inL i).toArray] w (Ret w (.tuple #[.agg (Ab (Ap c i).1).toArray,efV (Ap c i).2])):=by
 have hop:(inL i)[0]?=some (.int .i64 o):=by rw[←ho];rfl
 have TK:=fun w=>taken_any o (rg c i.a.toNat) (rg c i.b.toNat) w (by omega) (by omega)
 cases hb:GA o (rg c i.a.toNat) (rg c i.b.toNat) with
 | true =>
   rw[hb] at TK
   obtain⟨q,hq⟩:∃ q,4*(i.imm % 4294967296) % 4294967296=q:=⟨_,rfl⟩
   obtain⟨N,hN⟩:∃ n,(rg c 16+q) % 4294967296=n:=⟨_,rfl⟩
   obtain⟨Z,hZ⟩:∃ z,c.set 16 N=z:=⟨_,rfl⟩
   have e:Ap c i=(Z,ef0):=by
    exact Xz114
   rw[e]
   dsimp only
   have hz:(Ab c).set 16 (.int .u32 N)=Ab Z:=by rw[←hZ];exact Ak hc.len _ _
   have HZ:=lh hz
   have HN:=lh hN
   have HQ:=lh hq
   have HTK:=lh TK
   clear hz hZ hN hq e hb TK
   rcases h6 with rfl|rfl|rfl|rfl|rfl|rfl
   all_goals
    obtain⟨hia0,hia1,hib0,hib1,hca,hcb⟩:=inF hc hi
    have L:=Lay.start w
    go_in
    go_wp2_with (refine YS ?_;clear L;intro wz L)
    refine YQ ?_;clear L;intro wz L
    go_wp2_with (first|(refine op_mul (ty:=25) (m:=4) (n:=i.imm % 4294967296) q rfl rfl rfl rfl HQ.out ?_)|(refine op_add (ty:=25) (m:=rg c 16) (n:=q) N rfl rfl rfl rfl HN.out ?_)|(refine YL ?_)|((first|refine Yt (Ab Z) ?_|refine YS ?_);clear L;intro wz L))
    exact Xz6
 | false =>
   rw[hb] at TK
   obtain⟨Z,hZ⟩:∃ z,c.set 16 ((rg c 16+4) % 4294967296)=z:=⟨_,rfl⟩
   have e:Ap c i=(Z,ef0):=by
    exact Xz105
   rw[e]
   dsimp only
   have hz:(Ab c).set 16 (.int .u32 ((rg c 16+4) % 4294967296))=Ab Z:=by rw[←hZ];exact Ak hc.len _ _
   have HZ:=lh hz
   have HTK:=lh TK
   clear hz hZ e hb TK
   rcases h6 with rfl|rfl|rfl|rfl|rfl|rfl
   all_goals
    obtain⟨hia0,hia1,hib0,hib1,hca,hcb⟩:=inF hc hi
    have L:=Lay.start w
    go_in
    go_wp2_with (refine YS ?_;clear L;intro wz L)
    refine YQ ?_;clear L;intro wz L
    go_wp2_with (first|(refine YL ?_)|((first|refine Yt (Ab Z) ?_|refine YS ?_);clear L;intro wz L))
    exact Xz6
theorem run_beq (hc:CpuOk c) (hi:i.Good) (ho:i.op=40):Calls Tryz.prog 97 #[.agg (Ab c).toArray,.agg (inL i).toArray] w (Ret w (.tuple #[.agg (Ab (Ap c i).1).toArray,efV (Ap c i).2])):=Ht hc hi (by decide) ho
theorem run_bne (hc:CpuOk c) (hi:i.Good) (ho:i.op=41):Calls Tryz.prog 97 #[.agg (Ab c).toArray,.agg (inL i).toArray] w (Ret w (.tuple #[.agg (Ab (Ap c i).1).toArray,efV (Ap c i).2])):=Ht hc hi (by decide) ho
theorem run_blt (hc:CpuOk c) (hi:i.Good) (ho:i.op=42):Calls Tryz.prog 97 #[.agg (Ab c).toArray,.agg (inL i).toArray] w (Ret w (.tuple #[.agg (Ab (Ap c i).1).toArray,efV (Ap c i).2])):=Ht hc hi (by decide) ho
theorem run_bge (hc:CpuOk c) (hi:i.Good) (ho:i.op=43):Calls Tryz.prog 97 #[.agg (Ab c).toArray,.agg (inL i).toArray] w (Ret w (.tuple #[.agg (Ab (Ap c i).1).toArray,efV (Ap c i).2])):=Ht hc hi (by decide) ho
theorem run_bltu (hc:CpuOk c) (hi:i.Good) (ho:i.op=44):Calls Tryz.prog 97 #[.agg (Ab c).toArray,.agg (inL i).toArray] w (Ret w (.tuple #[.agg (Ab (Ap c i).1).toArray,efV (Ap c i).2])):=Ht hc hi (by decide) ho
theorem run_bgeu (hc:CpuOk c) (hi:i.Good) (ho:i.op=45):Calls Tryz.prog 97 #[.agg (Ab c).toArray,.agg (inL i).toArray] w (Ret w (.tuple #[.agg (Ab (Ap c i).1).toArray,efV (Ap c i).2])):=Ht hc hi (by decide) ho
end
end Go.Proofs.YtnmpfmapncicmaaGreat
namespace Go.Proofs.YtnmpfmapncicmaaGreat
set_option linter.all false
set_option maxRecDepth 100000
set_option maxHeartbeats 40000000
end Go.Proofs.YtnmpfmapncicmaaGreat
namespace Go.Proofs.YtnmpfmapncicmaaGreat
set_option linter.all false
set_option maxRecDepth 100000
set_option maxHeartbeats 40000000
open Go.RowKit
theorem rg_set' (c:List Int) (i j:Nat) (v:Int):rg (c.set i v) j=if i=j∧i<c.length then v else rg c j:=by
 by_cases hi:i<c.length
 · rw[FN hi]
   by_cases h:i=j
   · rw[if_pos h,if_pos ⟨h,hi⟩]
   · rw[if_neg h,if_neg (fun e=>h e.1)]
 · rw[if_neg (fun e=>hi e.2),List.set_eq_of_length_le (by omega)]
end Go.Proofs.YtnmpfmapncicmaaGreat
namespace Go.Proofs.YtnmpfmapncicmaaGreat
set_option linter.all false
set_option maxRecDepth 100000
set_option maxHeartbeats 40000000
open Go.RowKit
end Go.Proofs.YtnmpfmapncicmaaGreat
namespace Go.Proofs.YtnmpfmapncicmaaGreat
set_option linter.all false
set_option maxRecDepth 100000
set_option maxHeartbeats 40000000
open Go.RowKit
def nextS (s:Int):Int:=IntKind.u64.wrap (s+11400714819323198485)
def nextZ1 (s:Int):Int:=IntKind.u64.wrap (bits .xor .u64 (nextS s) (nextS s / 1073741824)*13787848793156543929)
def nextZ2 (s:Int):Int:=IntKind.u64.wrap (bits .xor .u64 (nextZ1 s) (nextZ1 s / 134217728)*10723151780598845931)
def nextV (s:Int):Int:=bits .xor .u64 (nextZ2 s) (nextZ2 s / 2147483648)
theorem wrap_u64_bd (x:Int):0≤IntKind.u64.wrap x∧IntKind.u64.wrap x<18446744073709551616:=by
 rw[IntKind.wrap_u64];omega
theorem Js (o:BinOp) (x y:Int):0≤bits o .u64 x y∧bits o .u64 x y<18446744073709551616:=by
 unfold bits
 exact wrap_u64_bd _
theorem nextV_bd (s:Int):0≤nextV s∧nextV s<18446744073709551616:=Js _ _ _
theorem FC (s:Int) (w:World) (_hs:0≤s∧s<18446744073709551616):Calls Tryz.prog 117 #[.int .u64 s] w (Ret w (.tuple #[.int .u64 (nextV s),.int .u64 (nextS s)])):=by
 go_in
 go_wp2
 go_ret2
 exact Ret.mk' (by unfold nextV nextZ2 nextZ1 nextS;rfl) bel
theorem Xz97 {P:Prop} (h:P:=by
  have h1:=Int.tmod_eq_emod (a:=n) (b:=k)
  have h2:=Int.emod_nonneg n (show k≠0 by omega)
  have h3:=Int.emod_lt_of_pos n (show 0<k by omega)
  split at h1 <;> omega):P:=h
theorem tmod_neg (n k:Int) (hk:1≤k) (h:n.tmod k<0):n.tmod k+k=n % k ∧ - k<n.tmod k:=by
 exact Xz97
theorem tmod_pos (n k:Int) (hk:1≤k) (h:0≤n.tmod k):n.tmod k=n % k:=by
 exact Xz97
theorem D4 (n k:Int) (w:World) (_hn : -9223372036854775808≤n∧n≤9223372036854775807) (hk:1≤k) (hk':k≤1000000):Calls Tryz.prog 15 #[.int .i64 n,.int .i64 k] w (Ret w (.int .i64 (n % k))):=by
 have hk0:(k == 0)=false:=by rw[beq_eq_false_iff_ne];omega
 by_cases h:n.tmod k<0
 · obtain⟨h1,h2⟩:=tmod_neg n k hk h
   have H:=lh h1;clear h1
   have h3 : -1000000≤n.tmod k:=by omega
   go_in
   go_wp2
   go_ret
   exact Ret.mk' (by rw[H.out];rfl) bel
 · have H:=lh (tmod_pos n k hk (by omega))
   have h3:0≤n.tmod k:=by omega
   clear h
   go_in
   go_wp2
   go_ret
   exact Ret.mk' (by rw[H.out];rfl) bel
def mixI (n k:Int):Int:=nextV (bits .xor .u64 (IntKind.u64.wrap n) (IntKind.u64.wrap (IntKind.u64.wrap k*11400714819323198485))) / 2
theorem mixI_bd (n k:Int):0≤mixI n k∧mixI n k<9223372036854775808:=by
 have:=nextV_bd (bits .xor .u64 (IntKind.u64.wrap n) (IntKind.u64.wrap (IntKind.u64.wrap k*11400714819323198485)))
 unfold mixI;omega
theorem mix_any (n k:Int) (w:World):Calls Tryz.prog 58 #[.int .i64 n,.int .i64 k] w (Ret w (.int .i64 (mixI n k))):=by
 have hb:=nextV_bd (bits .xor .u64 (IntKind.u64.wrap n) (IntKind.u64.wrap (IntKind.u64.wrap k*11400714819323198485)))
 have hm:mixI n k=nextV (bits .xor .u64 (IntKind.u64.wrap n) (IntKind.u64.wrap (IntKind.u64.wrap k*11400714819323198485))) / 2:=rfl
 have HM:=lh hm;clear hm
 go_in
 go_wp2_with fail
 refine (FC _ _ (Js _ _ _)).mono ?_
 rintro e w1 ⟨rfl,hb1⟩
 obtain⟨hc1,hf1⟩:=Cn hb1
 have hz1:=BH hb1
 try simp only[Bo] at hz1
 try simp only[sizes] at hc1 hf1
 generalize hv:nextV (bits .xor .u64 (IntKind.u64.wrap n) (IntKind.u64.wrap (IntKind.u64.wrap k*11400714819323198485)))=v at hb ⊢
 have HV:=lh hv;clear hv
 go_wp2
 go_ret
 exact Ret.mk' (by rw[HM.out,HV.out];rfl) bel
end Go.Proofs.YtnmpfmapncicmaaGreat
namespace Go.Proofs.YtnmpfmapncicmaaGreat
set_option linter.all false
set_option maxRecDepth 100000
set_option maxHeartbeats 40000000
namespace Sys
set_option linter.all false
set_option maxRecDepth 100000
set_option maxHeartbeats 40000000
variable {M O:Type} (S:Sys M O)
end Sys
end Go.Proofs.YtnmpfmapncicmaaGreat
