/-
  Texts joined: TpRun2. No law is proved here.
-/
import Derived.Test.YtnmpfmapncicmaaGreatB9
namespace Go.Proofs.YtnmpfmapncicmaaGreat
set_option linter.all false
set_option maxRecDepth 100000
set_option maxHeartbeats 40000000
open Go.RowKit
section
variable {c:List Int} {i:In} {w:World}
theorem Hn {P:Prop} (h:P:=by
  unfold Ap;dsimp only;(repeat rw[if_neg (by omega)]);rw[if_pos ho];simp only[u32,BU,IntKind.wrap_u32]):P:=h
theorem Xz70 {P:Prop} (h:P:=by
  refine Yh [4,0] ?_;clear L;intro hHeld L
  refine YT ?_
  refine YW 2 [4,0] (Ab Z) ?_;clear L hHeld;intro wz L hHeld
  refine YW 3 [4,0] (efL ⟨1,i.imm,i.a,0⟩) ?_;clear L hHeld;intro wz L hHeld
  refine YD ?_
  clear hHeld
  go_wp2_with fail
  exact Yr2 (Ret.mk L.bel)):P:=h
theorem run_inn (hc:CpuOk c) (hi:i.Good) (ho:i.op=60):Calls Tryz.prog 97 #[.agg (Ab c).toArray,.agg (inL i).toArray] w (Ret w (.tuple #[.agg (Ab (Ap c i).1).toArray,efV (Ap c i).2])):=by
 have e:Ap c i=((c).set 16 ((rg c 16+4) % 4294967296),⟨1,i.imm,i.a,0⟩):=by
  exact Hn
 rw[e]
 dsimp only
 obtain⟨Z,hZ⟩:∃ z,c.set 16 ((rg c 16+4) % 4294967296)=z:=⟨_,rfl⟩
 have hz:(Ab c).set 16 (.int .u32 ((rg c 16+4) % 4294967296))=Ab Z:=by rw[←hZ];exact Ak hc.len _ _
 rw[hZ]
 have HZ:=lh hz
 clear hz hZ e
 have h64:wrap64 i.imm=i.imm:=by have:=hi.imm;unfold wrap64;omega
 obtain⟨hia0,hia1,hib0,hib1,hca,hcb⟩:=inF hc hi
 have L:=Lay.start w
 go_in
 go_wp2_with (refine YS ?_;clear L;intro wz L)
 refine YQ ?_;clear L;intro wz L
 go_wp2_with (first|(refine YL ?_)|((first|refine Yt (efL ⟨1,i.imm,i.a,0⟩) ?_|refine Yt (Ab Z) ?_|refine YS ?_);clear L;intro wz L))
 exact Xz70
theorem Xz67 {P:Prop} (h:P:=by
  refine Yh [4,0] ?_;clear L;intro hHeld L
  refine YT ?_
  refine YW 2 [4,0] (Ab Z) ?_;clear L hHeld;intro wz L hHeld
  refine YW 3 [4,0] (efL ⟨2,i.imm,0,rg c i.a.toNat⟩) ?_;clear L hHeld;intro wz L hHeld
  refine YD ?_
  clear hHeld
  go_wp2_with fail
  exact Yr2 (Ret.mk L.bel)):P:=h
theorem run_out (hc:CpuOk c) (hi:i.Good) (ho:i.op=61):Calls Tryz.prog 97 #[.agg (Ab c).toArray,.agg (inL i).toArray] w (Ret w (.tuple #[.agg (Ab (Ap c i).1).toArray,efV (Ap c i).2])):=by
 have e:Ap c i=((c).set 16 ((rg c 16+4) % 4294967296),⟨2,i.imm,0,rg c i.a.toNat⟩):=by
  exact Hn
 rw[e]
 dsimp only
 obtain⟨Z,hZ⟩:∃ z,c.set 16 ((rg c 16+4) % 4294967296)=z:=⟨_,rfl⟩
 have hz:(Ab c).set 16 (.int .u32 ((rg c 16+4) % 4294967296))=Ab Z:=by rw[←hZ];exact Ak hc.len _ _
 rw[hZ]
 have HZ:=lh hz
 clear hz hZ e
 have h64:wrap64 i.imm=i.imm:=by have:=hi.imm;unfold wrap64;omega
 obtain⟨hia0,hia1,hib0,hib1,hca,hcb⟩:=inF hc hi
 have L:=Lay.start w
 go_in
 go_wp2_with (refine YS ?_;clear L;intro wz L)
 refine YQ ?_;clear L;intro wz L
 go_wp2_with (first|(refine YL ?_)|((first|refine Yt (efL ⟨2,i.imm,0,rg c i.a.toNat⟩) ?_|refine Yt (Ab Z) ?_|refine YS ?_);clear L;intro wz L))
 exact Xz67
theorem Xz72 {P:Prop} (h:P:=by
  refine Yh [4,0] ?_;clear L;intro hHeld L
  refine YT ?_
  refine YW 2 [4,0] (Ab Z) ?_;clear L hHeld;intro wz L hHeld
  refine YW 3 [4,0] (efL ⟨3,0,0,0⟩) ?_;clear L hHeld;intro wz L hHeld
  refine YD ?_
  clear hHeld
  go_wp2_with fail
  exact Yr2 (Ret.mk L.bel)):P:=h
theorem run_wfi (hc:CpuOk c) (hi:i.Good) (ho:i.op=62):Calls Tryz.prog 97 #[.agg (Ab c).toArray,.agg (inL i).toArray] w (Ret w (.tuple #[.agg (Ab (Ap c i).1).toArray,efV (Ap c i).2])):=by
 have e:Ap c i=((c).set 16 ((rg c 16+4) % 4294967296),⟨3,0,0,0⟩):=by
  exact Hn
 rw[e]
 dsimp only
 obtain⟨Z,hZ⟩:∃ z,c.set 16 ((rg c 16+4) % 4294967296)=z:=⟨_,rfl⟩
 have hz:(Ab c).set 16 (.int .u32 ((rg c 16+4) % 4294967296))=Ab Z:=by rw[←hZ];exact Ak hc.len _ _
 rw[hZ]
 have HZ:=lh hz
 clear hz hZ e
 have h64:wrap64 i.imm=i.imm:=by have:=hi.imm;unfold wrap64;omega
 obtain⟨hia0,hia1,hib0,hib1,hca,hcb⟩:=inF hc hi
 have L:=Lay.start w
 go_in
 go_wp2_with (refine YS ?_;clear L;intro wz L)
 refine YQ ?_;clear L;intro wz L
 go_wp2_with (first|(refine YL ?_)|((first|refine Yt (efL ⟨3,0,0,0⟩) ?_|refine Yt (Ab Z) ?_|refine YS ?_);clear L;intro wz L))
 exact Xz72
theorem Xz73 {P:Prop} (h:P:=by
  refine Yh [4,0] ?_;clear L;intro hHeld L
  refine YT ?_
  refine YW 2 [4,0] (Ab Z) ?_;clear L hHeld;intro wz L hHeld
  refine YW 3 [4,0] (efL ⟨5,0,0,0⟩) ?_;clear L hHeld;intro wz L hHeld
  refine YD ?_
  clear hHeld
  go_wp2_with fail
  exact Yr2 (Ret.mk L.bel)):P:=h
theorem run_flush (hc:CpuOk c) (hi:i.Good) (ho:i.op=63):Calls Tryz.prog 97 #[.agg (Ab c).toArray,.agg (inL i).toArray] w (Ret w (.tuple #[.agg (Ab (Ap c i).1).toArray,efV (Ap c i).2])):=by
 have e:Ap c i=((c).set 16 ((rg c 16+4) % 4294967296),⟨5,0,0,0⟩):=by
  exact Hn
 rw[e]
 dsimp only
 obtain⟨Z,hZ⟩:∃ z,c.set 16 ((rg c 16+4) % 4294967296)=z:=⟨_,rfl⟩
 have hz:(Ab c).set 16 (.int .u32 ((rg c 16+4) % 4294967296))=Ab Z:=by rw[←hZ];exact Ak hc.len _ _
 rw[hZ]
 have HZ:=lh hz
 clear hz hZ e
 have h64:wrap64 i.imm=i.imm:=by have:=hi.imm;unfold wrap64;omega
 obtain⟨hia0,hia1,hib0,hib1,hca,hcb⟩:=inF hc hi
 have L:=Lay.start w
 go_in
 go_wp2_with (refine YS ?_;clear L;intro wz L)
 refine YQ ?_;clear L;intro wz L
 go_wp2_with (first|(refine YL ?_)|((first|refine Yt (efL ⟨5,0,0,0⟩) ?_|refine Yt (Ab Z) ?_|refine YS ?_);clear L;intro wz L))
 exact Xz73
theorem Xz74 {P:Prop} (h:P:=by
  refine Yh [4,0] ?_;clear L;intro hHeld L
  refine YT ?_
  refine YW 2 [4,0] (Ab Z) ?_;clear L hHeld;intro wz L hHeld
  refine YW 3 [4,0] (efL ⟨4,0,0,0⟩) ?_;clear L hHeld;intro wz L hHeld
  refine YD ?_
  clear hHeld
  go_wp2_with fail
  exact Yr2 (Ret.mk L.bel)):P:=h
theorem run_halt (hc:CpuOk c) (hi:i.Good) (ho:i.op=64):Calls Tryz.prog 97 #[.agg (Ab c).toArray,.agg (inL i).toArray] w (Ret w (.tuple #[.agg (Ab (Ap c i).1).toArray,efV (Ap c i).2])):=by
 have e:Ap c i=((c).set 16 ((rg c 16+4) % 4294967296),⟨4,0,0,0⟩):=by
  exact Hn
 rw[e]
 dsimp only
 obtain⟨Z,hZ⟩:∃ z,c.set 16 ((rg c 16+4) % 4294967296)=z:=⟨_,rfl⟩
 have hz:(Ab c).set 16 (.int .u32 ((rg c 16+4) % 4294967296))=Ab Z:=by rw[←hZ];exact Ak hc.len _ _
 rw[hZ]
 have HZ:=lh hz
 clear hz hZ e
 have h64:wrap64 i.imm=i.imm:=by have:=hi.imm;unfold wrap64;omega
 obtain⟨hia0,hia1,hib0,hib1,hca,hcb⟩:=inF hc hi
 have L:=Lay.start w
 go_in
 go_wp2_with (refine YS ?_;clear L;intro wz L)
 refine YQ ?_;clear L;intro wz L
 go_wp2_with (first|(refine YL ?_)|((first|refine Yt (efL ⟨4,0,0,0⟩) ?_|refine Yt (Ab Z) ?_|refine YS ?_);clear L;intro wz L))
 exact Xz74
theorem Xz11 {P:Prop} (h:P:=by
  go_wp2_with (first|(refine YL ?_)|(refine YS ?_;clear L;intro wz L))
  refine Yh [4,0] ?_;clear L;intro hHeld L
  refine YT ?_
  refine zor 1 ?_;intro K hK
  go_simp
  with_reducible refine (HT.out _).mono ?_
  rintro e wz ⟨rfl,hbz⟩
  replace L:=L.below hbz
  clear hbz
  go_simp
  refine hK.out _ _ (L.kept [4,0] rfl) ?_;clear hHeld hK K;intro hHeld
  (try simp only[q1,q2,q3,Act.put,q4,s0,s1])
  refine YW 3 [4,0] (Ab Z) ?_;clear L hHeld;intro wz L hHeld
  refine YW 4 [4,0] (efL ef0) ?_;clear L hHeld;intro wz L hHeld
  refine YD ?_
  clear hHeld
  go_wp2_with fail
  exact Yr2 (Ret.mk L.bel)):P:=h
theorem run_ecall (hc:CpuOk c) (hi:i.Good) (ho:i.op=56):Calls Tryz.prog 97 #[.agg (Ab c).toArray,.agg (inL i).toArray] w (Ret w (.tuple #[.agg (Ab (Ap c i).1).toArray,efV (Ap c i).2])):=by
 have e:Ap c i=(AN c 7 0,ef0):=by
  unfold Ap;dsimp only;(repeat rw[if_neg (by omega)]);rw[if_pos ho]
 rw[e]
 dsimp only
 have T:=fun w=>Eq c 7 0 w hc (by decide) (by decide)
 obtain⟨Z,hZ⟩:∃ z,AN c 7 0=z:=⟨_,rfl⟩
 rw[hZ] at T ⊢
 have HT:=lh T
 clear T hZ e
 obtain⟨hia0,hia1,hib0,hib1,hca,hcb⟩:=inF hc hi
 have L:=Lay.start w
 go_in
 go_wp2_with (refine YS ?_;clear L;intro wz L)
 refine YQ ?_;clear L;intro wz L
 exact Xz11
theorem run_eret (hc:CpuOk c) (hi:i.Good) (ho:i.op=57):Calls Tryz.prog 97 #[.agg (Ab c).toArray,.agg (inL i).toArray] w (Ret w (.tuple #[.agg (Ab (Ap c i).1).toArray,efV (Ap c i).2])):=by
 have e:Ap c i=(GC c,ef0):=by
  unfold Ap;dsimp only;(repeat rw[if_neg (by omega)]);rw[if_pos ho]
 rw[e]
 dsimp only
 have T:=fun w=>return_any c w hc
 obtain⟨Z,hZ⟩:∃ z,GC c=z:=⟨_,rfl⟩
 rw[hZ] at T ⊢
 have HT:=lh T
 clear T hZ e
 obtain⟨hia0,hia1,hib0,hib1,hca,hcb⟩:=inF hc hi
 have L:=Lay.start w
 go_in
 go_wp2_with (refine YS ?_;clear L;intro wz L)
 refine YQ ?_;clear L;intro wz L
 exact Xz11
theorem run_csrw (hc:CpuOk c) (hi:i.Good) (ho:i.op=59):Calls Tryz.prog 97 #[.agg (Ab c).toArray,.agg (inL i).toArray] w (Ret w (.tuple #[.agg (Ab (Ap c i).1).toArray,efV (Ap c i).2])):=by
 have e:Ap c i=((CW c i.imm (rg c i.a.toNat)).set 16 ((rg c 16+4) % 4294967296),ef0):=by
  exact Hn
 rw[e]
 dsimp only
 have hk:=hi.csr (.inr ho)
 have ST:=fun w=>write_any c i.imm (rg c i.a.toNat) w hc.len hk.1 hk.2 (hc.at _).1 (hc.at _).2
 obtain⟨S,hS⟩:∃ s,CW c i.imm (rg c i.a.toNat)=s:=⟨_,rfl⟩
 rw[hS]
 obtain⟨Z,hZ⟩:∃ z,S.set 16 ((rg c 16+4) % 4294967296)=z:=⟨_,rfl⟩
 have hsl:S.length=25:=by rw[←hS];first|exact hc.len|exact Br hc.len _ _|exact Ei hc.len _ _
 have hz:(Ab S).set 16 (.int .u32 ((rg c 16+4) % 4294967296))=Ab Z:=by rw[←hZ];exact Ak hsl _ _
 rw[hZ]
 rw[hS] at ST
 have HST:=lh ST
 clear ST
 have HZ:=lh hz
 clear hz hZ hS e
 have h64:wrap64 i.imm=i.imm:=by have:=hi.imm;unfold wrap64;omega
 obtain⟨hia0,hia1,hib0,hib1,hca,hcb⟩:=inF hc hi
 have L:=Lay.start w
 go_in
 go_wp2_with (refine YS ?_;clear L;intro wz L)
 refine YQ ?_;clear L;intro wz L
 go_wp2_with (first|(refine YL ?_)|((first|refine Yt (Ab Z) ?_|refine YS ?_);clear L;intro wz L))
 exact Xz6
theorem run_csrr (hc:CpuOk c) (hi:i.Good) (ho:i.op=58):Calls Tryz.prog 97 #[.agg (Ab c).toArray,.agg (inL i).toArray] w (Ret w (.tuple #[.agg (Ab (Ap c i).1).toArray,efV (Ap c i).2])):=by
 have e:Ap c i=((Bm c i.a (rg c (17+i.imm.toNat))).set 16 ((rg c 16+4) % 4294967296),ef0):=by
  exact Hn
 rw[e]
 dsimp only
 have hk:=hi.csr (.inl ho)
 have hk0:=hk.1
 have hk1:i.imm<8:=by omega
 have ST:=fun w=>Cv c i.a (rg c (17+i.imm.toNat)) w hc.len hi.a.1 (by have:=hi.a.2;omega)
 obtain⟨S,hS⟩:∃ s,Bm c i.a (rg c (17+i.imm.toNat))=s:=⟨_,rfl⟩
 rw[hS]
 obtain⟨Z,hZ⟩:∃ z,S.set 16 ((rg c 16+4) % 4294967296)=z:=⟨_,rfl⟩
 have hsl:S.length=25:=by rw[←hS];first|exact hc.len|exact Br hc.len _ _|exact Ei hc.len _ _
 have hz:(Ab S).set 16 (.int .u32 ((rg c 16+4) % 4294967296))=Ab Z:=by rw[←hZ];exact Ak hsl _ _
 rw[hZ]
 rw[hS] at ST
 have HST:=lh ST
 clear ST hk
 have HZ:=lh hz
 clear hz hZ hS e
 obtain⟨hia0,hia1,hib0,hib1,hca,hcb⟩:=inF hc hi
 have L:=Lay.start w
 go_in
 go_wp2_with (refine YS ?_;clear L;intro wz L)
 refine YQ ?_;clear L;intro wz L
 have hcs:(Ab c)[17+i.imm.toNat]?=some (.int .u32 (rg c (17+i.imm.toNat))):=AB hc.len (by omega)
 go_wp2_with (first|(refine YL ?_)|(refine YS ?_;clear L;intro wz L))
 (try simp only[Act.put,q4,s0,s1])
 refine Bf 9 (by kernel_rfl) (by kernel_rfl) ?_
 simp only[List.take_succ_cons,List.take_zero,List.drop_succ_cons,List.drop_zero]
 repeat (first|(go_big_quiet_want;(first|fail|(refine BZ (ty:=29) L (fun _ h=>Aa h) 4 rfl (Ab c) rfl rfl τ29 rfl Av rfl ?_)|(refine zlq τ3 L 3 ?_)|(refine zlq τ21 L 3 ?_)|(refine AK (ty:=25) L (fun _ h=>Aa h) 4 rfl rfl rfl τ25 rfl hcs ?_));go_big_quiet_on;(try simp only[Act.put,q4,s0,s1]))|go_big_quiet_step (first|fail|(go_at_call 166;exact A9 (HST.out _))))
 refine wpQuiet_nil ?_
 intro wz hwz
 replace L:=L.below (Aa hwz)
 clear hwz
 go_wp2_with ((first|refine Yt (Ab Z) ?_|refine YS ?_);clear L;intro wz L)
 exact Xz6
end
end Go.Proofs.YtnmpfmapncicmaaGreat
