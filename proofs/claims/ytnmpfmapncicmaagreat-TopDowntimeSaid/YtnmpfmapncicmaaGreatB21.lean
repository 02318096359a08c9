/-
  Texts joined: TpRc TpRd2. No law is proved here.
-/
import Derived.Test.YtnmpfmapncicmaaGreatB20
namespace Go.Proofs.YtnmpfmapncicmaaGreat
set_option linter.all false
set_option maxRecDepth 100000
set_option maxHeartbeats 40000000
open Go.RowKit
theorem DO (b:Bool) (w:World):Calls Tryz.prog 242 #[.bool b] w (Same w (.int .u32 (if b=true then 1 else 0))):=by
 cases b
 all_goals
  go_in
  go_wp2
  go_ret
  exact Same.mk' rfl
theorem D5 (acc:Int) (w:World) (h0:1≤acc) (h1:acc≤3):Calls Tryz.prog 243 #[.int .i64 acc] w (Same w (.bool true)):=by
 go_in
 go_wp2
 go_ret
 exact Same.mk' rfl
theorem D6 (acc:Int) (w:World) (h0:1≤acc) (h1:acc≤3):Calls Tryz.prog 245 #[.int .i64 acc] w (Same w (.int .i64 (AE acc))):=by
 obtain rfl|rfl|rfl:acc=1∨acc=2∨acc=3:=by omega
 all_goals
  clear h0 h1
  go_in
  go_wp2
  go_ret
  exact Same.mk' rfl
theorem rtaken_any (op a b:Int) (w:World) (h0:40≤op) (h1:op≤45):Calls Tryz.prog 250 #[.int .i64 op,.int .u32 a,.int .u32 b] w (Same w (.bool (GA op a b))):=by
 exact Xz61
def andB (s k:Int):Bool:=bits .and .u32 s k != 0
def b2i (b:Bool):Int:=if b=true then 1 else 0
theorem rtrapS_is:∀ s:Nat,s≤31→bits .or .u32 (bits .andNot .u32 (bits .or .u32 (bits .or .u32 (bits .andNot .u32 s 24) (8*b2i (andB s 1))) (16*b2i (andB s 2))) 2) 1=GK s:=by decide +kernel
theorem rretS_is:∀ s:Nat,s≤31→bits .or .u32 (bits .or .u32 (bits .andNot .u32 s 3) (b2i (andB s 8))) (2*b2i (andB s 16))=retS s:=by decide +kernel
section
variable {w:World} {c:List Int}
theorem Xz25 {P:Prop} (h:P:=by
  have L:=Lay.start w
  go_in
  go_wp2_with (first|(refine YL ?_)|((first|refine Yt (Ab S) ?_|refine YS ?_);clear L;intro wz L))
  exact Yr1 (Ret.mk L.bel)):P:=h
theorem CT (hc:c.length=25) (r v:Int) (h0:0≤r) (h1:r<16):Calls Tryz.prog 149 #[.agg (Ab c).toArray,.int .i64 r,.int .u32 v] w (Ret w (.agg (Ab (Bm c r v)).toArray)):=by
 by_cases hr:r=0
 · subst hr
   have L:=Lay.start w
   go_in
   exact Xz64
 · obtain⟨k,rfl⟩:∃ k:Nat,r=k:=⟨r.toNat,by omega⟩
   have e:Bm c k v=c.set k v:=by unfold Bm;rw[if_neg hr];rfl
   rw[e]
   have hd:decide (0<k)=true:=decide_eq_true (by omega)
   have hd2:0<k:=by omega
   have hd3:k<16:=by omega
   have hjb:Nat.blt k 25=true:=by simp;omega
   have hset:=lh (Ak hc k v)
   obtain⟨S,hS⟩:∃ s,c.set k v=s:=⟨_,rfl⟩
   rw[hS] at hset ⊢
   clear hc hr e hS
   exact Xz25
theorem Ey (hc:CpuOk c):Calls Tryz.prog 244 #[.agg (Ab c).toArray] w (Ret w (.bool (BR c))):=by
 have hs:∀ s:Nat,s≤31→(bits .and .u32 s 5 == 4)=((s:Int) % 2 == 0 && (s:Int) / 4 % 2 == 1):=by decide +kernel
 have e:(bits .and .u32 (rg c 17) 5 == 4)=BR c:=by
  have:=hc.s;have:=(hc.at 17).1
  obtain⟨k,hk⟩:∃ k:Nat,rg c 17=k:=⟨(rg c 17).toNat,by omega⟩
  unfold BR
  rw[hk];exact hs k (by omega)
 have HE:=lh e;clear e hs hc
 have L:=Lay.start w
 go_in
 go_wp2_with (first|(refine YL ?_)|(refine YS ?_;clear L;intro wz L))
 go_ret
 exact Ret.mk' (by show Value.bool _=Value.bool _;rw[HE.out]) L.bel
theorem C6 (hc:CpuOk c) (cause bad:Int) (h0:0≤cause) (h1:cause<4294967296):Calls Tryz.prog 189 #[.agg (Ab c).toArray,.int .i64 cause,.int .u32 bad] w (Ret w (.agg (Ab (AN c cause bad)).toArray)):=by
 have hw:IntKind.u32.wrap cause=cause:=by rw[IntKind.wrap_u32];omega
 have hlen:=hc.len
 have hs:bits .or .u32 (bits .andNot .u32 (bits .or .u32 (bits .or .u32 (bits .andNot .u32 (rg c 17) 24) (8*b2i (andB (rg c 17) 1))) (16*b2i (andB (rg c 17) 2))) 2) 1=GK (rg c 17):=by
  have:=hc.s;have:=(hc.at 17).1
  obtain⟨k,hk⟩:∃ k:Nat,rg c 17=k:=⟨(rg c 17).toNat,by omega⟩
  rw[hk];exact rtrapS_is k (by omega)
 obtain⟨β0,e0⟩:∃ b,(bits .and .u32 (rg c 17) 1 != 0)=b:=⟨_,rfl⟩
 obtain⟨β1,e1⟩:∃ b,(bits .and .u32 (rg c 17) 2 != 0)=b:=⟨_,rfl⟩
 unfold andB at hs
 rw[e0,e1] at hs
 obtain⟨S,hS⟩:∃ y,GK (rg c 17)=y:=⟨_,rfl⟩
 have E1:=lh (Ak hlen 19 (rg c 16))
 have E2:=lh (Ak (c:=c.set 19 (rg c 16)) (by simp [hlen]) 20 cause)
 have E3:=lh (Ak (c:=(c.set 19 (rg c 16)).set 20 cause) (by simp [hlen]) 21 bad)
 have E4:=lh (Ak (c:=((c.set 19 (rg c 16)).set 20 cause).set 21 bad) (by simp [hlen]) 17 S)
 have E5:=lh (Ak (c:=(((c.set 19 (rg c 16)).set 20 cause).set 21 bad).set 17 S) (by simp [hlen]) 16 (rg c 18))
 have e:AN c cause bad=((((c.set 19 (rg c 16)).set 20 cause).set 21 bad).set 17 S).set 16 (rg c 18):=by unfold AN;rw[hS]
 rw[e]
 rw[hS] at hs
 have g18:rg ((((c.set 19 (rg c 16)).set 20 cause).set 21 bad).set 17 S) 18=rg c 18:=by rw[rg_set',rg_set',rg_set',rg_set',if_neg (by omega),if_neg (by omega),if_neg (by omega),if_neg (by omega)]
 generalize c.set 19 (rg c 16)=c1 at *
 generalize c1.set 20 cause=c2 at *
 generalize c2.set 21 bad=c3 at *
 generalize c3.set 17 S=c4 at *
 generalize c4.set 16 (rg c 18)=c5 at *
 have hl18:(Ab c4)[18]?=some (.int .u32 (rg c 18)):=by rw[←g18];rfl
 clear g18 e hS hlen hc
 cases β0 <;> cases β1
 all_goals
  simp only[b2i,Bool.false_eq_true,if_true,if_false,Int.mul_one,Int.mul_zero] at hs
  have HS:=lh hs
  clear hs
  have L:=Lay.start w
  go_in
  go_wp2_with (first|(go_at_call 242;(with_reducible refine zcs (DO _ _) ?_))|(rw[show _=S from HS.out];(refine Aq (ty:=25) (u:=(.int .u32 S)) L 1 rfl (Ab c4) rfl rfl rfl rfl Bj rfl rfl E4.out ?_;intro wz Lz Nz;clear Nz;replace L:=Lz;clear Lz;(try simp only[s0,s1] at L)))|(refine YL ?_)|((first|refine Yt (Ab c1) ?_|refine Yt (Ab c2) ?_|refine Yt (Ab c3) ?_|refine Yt (Ab c5) ?_|refine YS ?_);clear L;intro wz L))
  exact Yr1 (Ret.mk L.bel)
end
section
variable {w:World} {c:List Int}
theorem rreturn_any (hc:CpuOk c):Calls Tryz.prog 248 #[.agg (Ab c).toArray] w (Ret w (.agg (Ab (GC c)).toArray)):=by
 have hlen:=hc.len
 have hs:bits .or .u32 (bits .or .u32 (bits .andNot .u32 (rg c 17) 3) (b2i (andB (rg c 17) 8))) (2*b2i (andB (rg c 17) 16))=retS (rg c 17):=by
  have:=hc.s;have:=(hc.at 17).1
  obtain⟨k,hk⟩:∃ k:Nat,rg c 17=k:=⟨(rg c 17).toNat,by omega⟩
  rw[hk];exact rretS_is k (by omega)
 obtain⟨β0,e0⟩:∃ b,(bits .and .u32 (rg c 17) 8 != 0)=b:=⟨_,rfl⟩
 obtain⟨β1,e1⟩:∃ b,(bits .and .u32 (rg c 17) 16 != 0)=b:=⟨_,rfl⟩
 unfold andB at hs
 rw[e0,e1] at hs
 obtain⟨S,hS⟩:∃ y,retS (rg c 17)=y:=⟨_,rfl⟩
 have E4:=lh (Ak hlen 17 S)
 have E5:=lh (Ak (c:=c.set 17 S) (by simp [hlen]) 16 (rg c 19))
 have e:GC c=(c.set 17 S).set 16 (rg c 19):=by unfold GC;rw[hS]
 rw[e]
 rw[hS] at hs
 have g19:rg (c.set 17 S) 19=rg c 19:=by rw[rg_set',if_neg (by omega)]
 generalize c.set 17 S=c4 at *
 generalize c4.set 16 (rg c 19)=c5 at *
 have hl19:(Ab c4)[19]?=some (.int .u32 (rg c 19)):=by rw[←g19];rfl
 clear g19 e hS hlen hc
 cases β0 <;> cases β1
 all_goals
  simp only[b2i,Bool.false_eq_true,if_true,if_false,Int.mul_one,Int.mul_zero] at hs
  have HS:=lh hs
  clear hs
  have L:=Lay.start w
  go_in
  go_wp2_with (first|(go_at_call 242;(with_reducible refine zcs (DO _ _) ?_))|(rw[show _=S from HS.out];(refine Aq (ty:=25) (u:=(.int .u32 S)) L 1 rfl (Ab c4) rfl rfl rfl rfl Bj rfl rfl E4.out ?_;intro wz Lz Nz;clear Nz;replace L:=Lz;clear Lz;(try simp only[s0,s1] at L)))|(refine YL ?_)|((first|refine Yt (Ab c5) ?_|refine YS ?_);clear L;intro wz L))
  exact Yr1 (Ret.mk L.bel)
theorem rwrite_0 (hc:c.length=25) (v:Int) (hv0:0≤v) (hv1:v<4294967296):Calls Tryz.prog 249 #[.agg (Ab c).toArray,.int .i64 0,.int .u32 v] w (Ret w (.agg (Ab (c.set 17 (v % 32))).toArray)):=by
    have e31:=Bi hv0 hv1
    have e255:=Db hv0 hv1
    have e3:=Ec hv0 hv1
    have E:=lh (Ak hc 17 (v % 32))
    generalize c.set 17 (v % 32)=S at *
    clear hc
    exact Xz25
theorem rwrite_1 (hc:c.length=25) (v:Int) (hv0:0≤v) (hv1:v<4294967296):Calls Tryz.prog 249 #[.agg (Ab c).toArray,.int .i64 1,.int .u32 v] w (Ret w (.agg (Ab (c.set 18 (v - v % 4))).toArray)):=by
    have e31:=Bi hv0 hv1
    have e255:=Db hv0 hv1
    have e3:=Ec hv0 hv1
    have E:=lh (Ak hc 18 (v - v % 4))
    generalize c.set 18 (v - v % 4)=S at *
    clear hc
    exact Xz25
theorem rwrite_2 (hc:c.length=25) (v:Int) (hv0:0≤v) (hv1:v<4294967296):Calls Tryz.prog 249 #[.agg (Ab c).toArray,.int .i64 2,.int .u32 v] w (Ret w (.agg (Ab (c.set 19 (v - v % 4))).toArray)):=by
    have e31:=Bi hv0 hv1
    have e255:=Db hv0 hv1
    have e3:=Ec hv0 hv1
    have E:=lh (Ak hc 19 (v - v % 4))
    generalize c.set 19 (v - v % 4)=S at *
    clear hc
    exact Xz25
theorem rwrite_3 (hc:c.length=25) (v:Int) (hv0:0≤v) (hv1:v<4294967296):Calls Tryz.prog 249 #[.agg (Ab c).toArray,.int .i64 3,.int .u32 v] w (Ret w (.agg (Ab (c.set 20 (v))).toArray)):=by
    have e31:=Bi hv0 hv1
    have e255:=Db hv0 hv1
    have e3:=Ec hv0 hv1
    have E:=lh (Ak hc 20 (v))
    generalize c.set 20 (v)=S at *
    clear hc
    exact Xz25
theorem rwrite_4 (hc:c.length=25) (v:Int) (hv0:0≤v) (hv1:v<4294967296):Calls Tryz.prog 249 #[.agg (Ab c).toArray,.int .i64 4,.int .u32 v] w (Ret w (.agg (Ab (c.set 21 (v))).toArray)):=by
    have e31:=Bi hv0 hv1
    have e255:=Db hv0 hv1
    have e3:=Ec hv0 hv1
    have E:=lh (Ak hc 21 (v))
    generalize c.set 21 (v)=S at *
    clear hc
    exact Xz25
theorem rwrite_5 (hc:c.length=25) (v:Int) (hv0:0≤v) (hv1:v<4294967296):Calls Tryz.prog 249 #[.agg (Ab c).toArray,.int .i64 5,.int .u32 v] w (Ret w (.agg (Ab (c.set 22 (v))).toArray)):=by
    have e31:=Bi hv0 hv1
    have e255:=Db hv0 hv1
    have e3:=Ec hv0 hv1
    have E:=lh (Ak hc 22 (v))
    generalize c.set 22 (v)=S at *
    clear hc
    exact Xz25
theorem rwrite_6 (hc:c.length=25) (v:Int) (hv0:0≤v) (hv1:v<4294967296):Calls Tryz.prog 249 #[.agg (Ab c).toArray,.int .i64 6,.int .u32 v] w (Ret w (.agg (Ab (c.set 23 (v % 256))).toArray)):=by
    have e31:=Bi hv0 hv1
    have e255:=Db hv0 hv1
    have e3:=Ec hv0 hv1
    have E:=lh (Ak hc 23 (v % 256))
    generalize c.set 23 (v % 256)=S at *
    clear hc
    exact Xz25
theorem rwrite_7 (hc:c.length=25) (v:Int) (hv0:0≤v) (hv1:v<4294967296):Calls Tryz.prog 249 #[.agg (Ab c).toArray,.int .i64 7,.int .u32 v] w (Ret w (.agg (Ab (c.set 24 (v % 32))).toArray)):=by
    have e31:=Bi hv0 hv1
    have e255:=Db hv0 hv1
    have e3:=Ec hv0 hv1
    have E:=lh (Ak hc 24 (v % 32))
    generalize c.set 24 (v % 32)=S at *
    clear hc
    exact Xz25
theorem rwrite_any (hc:c.length=25) (k v:Int) (h0:0≤k) (h1:k≤7) (hv0:0≤v) (hv1:v<4294967296):Calls Tryz.prog 249 #[.agg (Ab c).toArray,.int .i64 k,.int .u32 v] w (Ret w (.agg (Ab (CW c k v)).toArray)):=by
 obtain rfl|rfl|rfl|rfl|rfl|rfl|rfl|rfl:k=0∨k=1∨k=2∨k=3∨k=4∨k=5∨k=6∨k=7:=by omega
 · exact rwrite_0 hc v hv0 hv1
 · exact rwrite_1 hc v hv0 hv1
 · exact rwrite_2 hc v hv0 hv1
 · exact rwrite_3 hc v hv0 hv1
 · exact rwrite_4 hc v hv0 hv1
 · exact rwrite_5 hc v hv0 hv1
 · exact rwrite_6 hc v hv0 hv1
 · exact rwrite_7 hc v hv0 hv1
end
end Go.Proofs.YtnmpfmapncicmaaGreat
