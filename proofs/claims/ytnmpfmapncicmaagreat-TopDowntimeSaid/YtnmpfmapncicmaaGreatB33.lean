/-
  Texts joined: TpRq. No law is proved here.
-/
import Derived.Test.YtnmpfmapncicmaaGreatB30
namespace Go.Proofs.YtnmpfmapncicmaaGreat
set_option linter.all false
set_option maxRecDepth 100000
set_option maxHeartbeats 40000000
open Go.RowKit
section
variable {c:List Int} {i:In} {w:World}
theorem sys_ecall (hc:CpuOk c) (hi:i.Good) (ho:i.op=56):Calls Tryz.prog 193 #[.agg (Ab c).toArray,.agg (inL i).toArray] w (Ret w (.tuple #[.agg (Ab (Ap c i).1).toArray,efV (Ap c i).2])):=by
 have e:Ap c i=(AN c 7 0,ef0):=by
  unfold Ap;dsimp only;(repeat rw[if_neg (by omega)]);rw[if_pos ho]
 rw[e]
 dsimp only
 have T:=fun w=>C6 (w:=w) hc 7 0 (by decide) (by decide)
 obtain⟨Z,hZ⟩:∃ z,AN c 7 0=z:=⟨_,rfl⟩
 rw[hZ] at T ⊢
 have HT:=lh T
 have hop:(inL i)[0]?=some (.int .i64 56):=by rw[←ho];rfl
 clear T hZ e
 have L:=Lay.start w
 go_in
 exact Xz11
theorem sys_eret (hc:CpuOk c) (hi:i.Good) (ho:i.op=57):Calls Tryz.prog 193 #[.agg (Ab c).toArray,.agg (inL i).toArray] w (Ret w (.tuple #[.agg (Ab (Ap c i).1).toArray,efV (Ap c i).2])):=by
 have e:Ap c i=(GC c,ef0):=by
  unfold Ap;dsimp only;(repeat rw[if_neg (by omega)]);rw[if_pos ho]
 rw[e]
 dsimp only
 have T:=fun w=>rreturn_any (w:=w) hc
 obtain⟨Z,hZ⟩:∃ z,GC c=z:=⟨_,rfl⟩
 rw[hZ] at T ⊢
 have HT:=lh T
 have hop:(inL i)[0]?=some (.int .i64 57):=by rw[←ho];rfl
 clear T hZ e
 have L:=Lay.start w
 go_in
 exact Xz11
theorem sys_csrr (hc:CpuOk c) (hi:i.Good) (ho:i.op=58):Calls Tryz.prog 193 #[.agg (Ab c).toArray,.agg (inL i).toArray] w (Ret w (.tuple #[.agg (Ab (Ap c i).1).toArray,efV (Ap c i).2])):=by
 have e:Ap c i=((Bm c i.a (rg c (17+i.imm.toNat))).set 16 ((rg c 16+4) % 4294967296),ef0):=by
  exact Hn
 rw[e]
 dsimp only
 have hk:=hi.csr (.inl ho)
 have hk0:=hk.1
 have hk1:i.imm<8:=by omega
 have ST:=fun w=>CT (w:=w) hc.len i.a (rg c (17+i.imm.toNat)) hi.a.1 (by have:=hi.a.2;omega)
 obtain⟨S,hS⟩:∃ s,Bm c i.a (rg c (17+i.imm.toNat))=s:=⟨_,rfl⟩
 rw[hS]
 obtain⟨Z,hZ⟩:∃ z,S.set 16 ((rg c 16+4) % 4294967296)=z:=⟨_,rfl⟩
 have hsl:S.length=25:=by rw[←hS];first|exact hc.len|exact Br hc.len _ _|exact Ei hc.len _ _
 have hz:(Ab S).set 16 (.int .u32 ((rg c 16+4) % 4294967296))=Ab Z:=by rw[←hZ];exact Ak hsl _ _
 rw[hZ]
 have hpc:(Ab S)[16]?=some (.int .u32 (rg c 16)):=by rw[←hS,←Ea hi.a.2];rfl
 rw[hS] at ST
 have HST:=lh ST
 have hop:(inL i)[0]?=some (.int .i64 58):=by rw[←ho];rfl
 clear ST hk
 have HZ:=lh hz
 clear hz hZ hS e
 obtain⟨hia0,hia1,hib0,hib1,hca,hcb⟩:=inF hc hi
 have hcs:(Ab c)[17+i.imm.toNat]?=some (.int .u32 (rg c (17+i.imm.toNat))):=AB hc.len (by omega)
 have L:=Lay.start w
 go_in
 go_wp2_with (first|(refine YL ?_)|(refine YS ?_;clear L;intro wz L))
 (try simp only[Act.put,q4,s0,s1])
 refine Bf 9 (by kernel_rfl) (by kernel_rfl) ?_
 simp only[List.take_succ_cons,List.take_zero,List.drop_succ_cons,List.drop_zero]
 repeat (first|(go_big_quiet_want;(first|fail|(refine BZ (ty:=29) L (fun _ h=>Aa h) 4 rfl (Ab c) rfl rfl τ29 rfl Av rfl ?_)|(refine zlq τ3 L 3 ?_)|(refine zlq τ21 L 3 ?_)|(refine AK (ty:=25) L (fun _ h=>Aa h) 4 rfl rfl rfl τ25 rfl hcs ?_));go_big_quiet_on;(try simp only[Act.put,q4,s0,s1]))|go_big_quiet_step (first|fail|(go_at_call 149;exact A9 (HST.out _))))
 refine wpQuiet_nil ?_
 intro wz hwz
 replace L:=L.below (Aa hwz)
 clear hwz
 go_wp2_with (first|(refine YL ?_)|((first|refine Yt (Ab Z) ?_|refine YS ?_);clear L;intro wz L))
 exact Xz6
theorem sys_csrw (hc:CpuOk c) (hi:i.Good) (ho:i.op=59):Calls Tryz.prog 193 #[.agg (Ab c).toArray,.agg (inL i).toArray] w (Ret w (.tuple #[.agg (Ab (Ap c i).1).toArray,efV (Ap c i).2])):=by
 have e:Ap c i=((CW c i.imm (rg c i.a.toNat)).set 16 ((rg c 16+4) % 4294967296),ef0):=by
  exact Hn
 rw[e]
 dsimp only
 have hk:=hi.csr (.inr ho)
 have ST:=fun w=>rwrite_any (w:=w) hc.len i.imm (rg c i.a.toNat) hk.1 hk.2 (hc.at _).1 (hc.at _).2
 obtain⟨S,hS⟩:∃ s,CW c i.imm (rg c i.a.toNat)=s:=⟨_,rfl⟩
 rw[hS]
 obtain⟨Z,hZ⟩:∃ z,S.set 16 ((rg c 16+4) % 4294967296)=z:=⟨_,rfl⟩
 have hsl:S.length=25:=by rw[←hS];first|exact hc.len|exact Br hc.len _ _|exact Ei hc.len _ _
 have hz:(Ab S).set 16 (.int .u32 ((rg c 16+4) % 4294967296))=Ab Z:=by rw[←hZ];exact Ak hsl _ _
 rw[hZ]
 have hpc:(Ab S)[16]?=some (.int .u32 (rg c 16)):=by
  rw[←hS]
  have e:rg (CW c i.imm (rg c i.a.toNat)) 16=rg c 16:=by
   rw[CW,if_pos ⟨hk.1,hk.2⟩,rg_set',if_neg (fun h=>by have:=h.1;omega)]
  rw[←e];rfl
 rw[hS] at ST
 have HST:=lh ST
 have hop:(inL i)[0]?=some (.int .i64 59):=by rw[←ho];rfl
 have h64:wrap64 i.imm=i.imm:=by have:=hi.imm;unfold wrap64;omega
 have h65:IntKind.i64.wrap i.imm=i.imm:=by have:=hi.imm;exact IntWalk.i64_in _ (by omega)
 clear ST
 have HZ:=lh hz
 clear hz hZ hS e
 obtain⟨hia0,hia1,hib0,hib1,hca,hcb⟩:=inF hc hi
 have L:=Lay.start w
 go_in
 go_wp2_with (first|(refine YL ?_)|(refine YS ?_;clear L;intro wz L))
 (try simp only[Act.put,q4,s0,s1])
 refine Bf 10 (by kernel_rfl) (by kernel_rfl) ?_
 simp only[List.take_succ_cons,List.take_zero,List.drop_succ_cons,List.drop_zero]
 repeat (first|(go_big_quiet_want;(first|fail|(refine BZ (ty:=29) L (fun _ h=>Aa h) 4 rfl (Ab c) rfl rfl τ29 rfl Av rfl ?_)|(refine zlq τ3 L 3 ?_)|(refine zlq τ21 L 3 ?_)|(refine AK (ty:=25) L (fun _ h=>Aa h) 4 rfl rfl rfl τ25 rfl hca ?_));go_big_quiet_on;(try simp only[Act.put,q4,s0,s1]))|go_big_quiet_step (first|fail|(go_at_call 249;exact A9 (HST.out _))))
 refine wpQuiet_nil ?_
 intro wz hwz
 replace L:=L.below (Aa hwz)
 clear hwz
 go_wp2_with (first|(refine YL ?_)|((first|refine Yt (Ab Z) ?_|refine YS ?_);clear L;intro wz L))
 exact Xz6
theorem sys_in (hc:CpuOk c) (hi:i.Good) (ho:i.op=60):Calls Tryz.prog 193 #[.agg (Ab c).toArray,.agg (inL i).toArray] w (Ret w (.tuple #[.agg (Ab (Ap c i).1).toArray,efV (Ap c i).2])):=by
 have e:Ap c i=((c).set 16 ((rg c 16+4) % 4294967296),⟨1,i.imm,i.a,0⟩):=by
  exact Hn
 rw[e]
 dsimp only
 obtain⟨Z,hZ⟩:∃ z,c.set 16 ((rg c 16+4) % 4294967296)=z:=⟨_,rfl⟩
 have hz:(Ab c).set 16 (.int .u32 ((rg c 16+4) % 4294967296))=Ab Z:=by rw[←hZ];exact Ak hc.len _ _
 rw[hZ]
 have HZ:=lh hz
 clear hz hZ e
 have h64:wrap64 i.imm=i.imm:=by have:=hi.imm;unfold wrap64;omega
 have h65:IntKind.i64.wrap i.imm=i.imm:=by have:=hi.imm;exact IntWalk.i64_in _ (by omega)
 have hop:(inL i)[0]?=some (.int .i64 60):=by rw[←ho];rfl
 obtain⟨hia0,hia1,hib0,hib1,hca,hcb⟩:=inF hc hi
 have L:=Lay.start w
 go_in
 go_wp2_with (first|(refine YL ?_)|((first|refine Yt (Ab Z) ?_|refine YS ?_);clear L;intro wz L))
 skip
 try go_wp2_with (first|(refine YL ?_)|((first|refine Yt (Ab Z) ?_|refine YS ?_);clear L;intro wz L))
 exact Xz70
theorem sys_out (hc:CpuOk c) (hi:i.Good) (ho:i.op=61):Calls Tryz.prog 193 #[.agg (Ab c).toArray,.agg (inL i).toArray] w (Ret w (.tuple #[.agg (Ab (Ap c i).1).toArray,efV (Ap c i).2])):=by
 have e:Ap c i=((c).set 16 ((rg c 16+4) % 4294967296),⟨2,i.imm,0,rg c i.a.toNat⟩):=by
  exact Hn
 rw[e]
 dsimp only
 obtain⟨Z,hZ⟩:∃ z,c.set 16 ((rg c 16+4) % 4294967296)=z:=⟨_,rfl⟩
 have hz:(Ab c).set 16 (.int .u32 ((rg c 16+4) % 4294967296))=Ab Z:=by rw[←hZ];exact Ak hc.len _ _
 rw[hZ]
 have HZ:=lh hz
 clear hz hZ e
 have h64:wrap64 i.imm=i.imm:=by have:=hi.imm;unfold wrap64;omega
 have h65:IntKind.i64.wrap i.imm=i.imm:=by have:=hi.imm;exact IntWalk.i64_in _ (by omega)
 have hop:(inL i)[0]?=some (.int .i64 61):=by rw[←ho];rfl
 obtain⟨hia0,hia1,hib0,hib1,hca,hcb⟩:=inF hc hi
 have L:=Lay.start w
 go_in
 go_wp2_with (first|(refine YL ?_)|((first|refine Yt (Ab Z) ?_|refine YS ?_);clear L;intro wz L))
 (try simp only[Act.put,q4,s0,s1])
 refine Bf 9 (by kernel_rfl) (by kernel_rfl) ?_
 simp only[List.take_succ_cons,List.take_zero,List.drop_succ_cons,List.drop_zero]
 repeat (first|(go_big_quiet_want;(first|fail|(refine zlq τ3 L 3 ?_)|(refine zlq τ21 L 3 ?_)|(refine AK (ty:=25) L (fun _ h=>Aa h) 4 rfl rfl rfl τ25 rfl hca ?_));go_big_quiet_on;(try simp only[Act.put,q4,s0,s1]))|go_big_quiet_step (first|fail|fail))
 refine wpQuiet_nil ?_
 intro wz hwz
 replace L:=L.below (Aa hwz)
 clear hwz
 try go_wp2_with (first|(refine YL ?_)|((first|refine Yt (Ab Z) ?_|refine YS ?_);clear L;intro wz L))
 exact Xz67
theorem sys_wfi (hc:CpuOk c) (hi:i.Good) (ho:i.op=62):Calls Tryz.prog 193 #[.agg (Ab c).toArray,.agg (inL i).toArray] w (Ret w (.tuple #[.agg (Ab (Ap c i).1).toArray,efV (Ap c i).2])):=by
 have e:Ap c i=((c).set 16 ((rg c 16+4) % 4294967296),⟨3,0,0,0⟩):=by
  exact Hn
 rw[e]
 dsimp only
 obtain⟨Z,hZ⟩:∃ z,c.set 16 ((rg c 16+4) % 4294967296)=z:=⟨_,rfl⟩
 have hz:(Ab c).set 16 (.int .u32 ((rg c 16+4) % 4294967296))=Ab Z:=by rw[←hZ];exact Ak hc.len _ _
 rw[hZ]
 have HZ:=lh hz
 clear hz hZ e
 have h64:wrap64 i.imm=i.imm:=by have:=hi.imm;unfold wrap64;omega
 have h65:IntKind.i64.wrap i.imm=i.imm:=by have:=hi.imm;exact IntWalk.i64_in _ (by omega)
 have hop:(inL i)[0]?=some (.int .i64 62):=by rw[←ho];rfl
 obtain⟨hia0,hia1,hib0,hib1,hca,hcb⟩:=inF hc hi
 have L:=Lay.start w
 go_in
 go_wp2_with (first|(refine YL ?_)|((first|refine Yt (efL ⟨3,0,0,0⟩) ?_|refine Yt (Ab Z) ?_|refine YS ?_);clear L;intro wz L))
 skip
 try go_wp2_with (first|(refine YL ?_)|((first|refine Yt (Ab Z) ?_|refine YS ?_);clear L;intro wz L))
 exact Xz72
theorem sys_flush (hc:CpuOk c) (hi:i.Good) (ho:i.op=63):Calls Tryz.prog 193 #[.agg (Ab c).toArray,.agg (inL i).toArray] w (Ret w (.tuple #[.agg (Ab (Ap c i).1).toArray,efV (Ap c i).2])):=by
 have e:Ap c i=((c).set 16 ((rg c 16+4) % 4294967296),⟨5,0,0,0⟩):=by
  exact Hn
 rw[e]
 dsimp only
 obtain⟨Z,hZ⟩:∃ z,c.set 16 ((rg c 16+4) % 4294967296)=z:=⟨_,rfl⟩
 have hz:(Ab c).set 16 (.int .u32 ((rg c 16+4) % 4294967296))=Ab Z:=by rw[←hZ];exact Ak hc.len _ _
 rw[hZ]
 have HZ:=lh hz
 clear hz hZ e
 have h64:wrap64 i.imm=i.imm:=by have:=hi.imm;unfold wrap64;omega
 have h65:IntKind.i64.wrap i.imm=i.imm:=by have:=hi.imm;exact IntWalk.i64_in _ (by omega)
 have hop:(inL i)[0]?=some (.int .i64 63):=by rw[←ho];rfl
 obtain⟨hia0,hia1,hib0,hib1,hca,hcb⟩:=inF hc hi
 have L:=Lay.start w
 go_in
 go_wp2_with (first|(refine YL ?_)|((first|refine Yt (efL ⟨5,0,0,0⟩) ?_|refine Yt (Ab Z) ?_|refine YS ?_);clear L;intro wz L))
 skip
 try go_wp2_with (first|(refine YL ?_)|((first|refine Yt (Ab Z) ?_|refine YS ?_);clear L;intro wz L))
 exact Xz73
theorem sys_halt (hc:CpuOk c) (hi:i.Good) (ho:i.op=64):Calls Tryz.prog 193 #[.agg (Ab c).toArray,.agg (inL i).toArray] w (Ret w (.tuple #[.agg (Ab (Ap c i).1).toArray,efV (Ap c i).2])):=by
 have e:Ap c i=((c).set 16 ((rg c 16+4) % 4294967296),⟨4,0,0,0⟩):=by
  exact Hn
 rw[e]
 dsimp only
 obtain⟨Z,hZ⟩:∃ z,c.set 16 ((rg c 16+4) % 4294967296)=z:=⟨_,rfl⟩
 have hz:(Ab c).set 16 (.int .u32 ((rg c 16+4) % 4294967296))=Ab Z:=by rw[←hZ];exact Ak hc.len _ _
 rw[hZ]
 have HZ:=lh hz
 clear hz hZ e
 have h64:wrap64 i.imm=i.imm:=by have:=hi.imm;unfold wrap64;omega
 have h65:IntKind.i64.wrap i.imm=i.imm:=by have:=hi.imm;exact IntWalk.i64_in _ (by omega)
 have hop:(inL i)[0]?=some (.int .i64 64):=by rw[←ho];rfl
 obtain⟨hia0,hia1,hib0,hib1,hca,hcb⟩:=inF hc hi
 have L:=Lay.start w
 go_in
 go_wp2_with (first|(refine YL ?_)|((first|refine Yt (efL ⟨4,0,0,0⟩) ?_|refine Yt (Ab Z) ?_|refine YS ?_);clear L;intro wz L))
 skip
 try go_wp2_with (first|(refine YL ?_)|((first|refine Yt (Ab Z) ?_|refine YS ?_);clear L;intro wz L))
 exact Xz74
theorem system_any (hc:CpuOk c) (hi:i.Good) (h0:56≤i.op):Calls Tryz.prog 193 #[.agg (Ab c).toArray,.agg (inL i).toArray] w (Ret w (.tuple #[.agg (Ab (Ap c i).1).toArray,efV (Ap c i).2])):=by
 have hv:=Dd hi.f
 obtain h|h|h|h|h|h|h|h|h:i.op=56∨i.op=57∨i.op=58∨i.op=59∨i.op=60∨i.op=61∨i.op=62∨i.op=63∨i.op=64:=by omega
 · exact sys_ecall hc hi h
 · exact sys_eret hc hi h
 · exact sys_csrr hc hi h
 · exact sys_csrw hc hi h
 · exact sys_in hc hi h
 · exact sys_out hc hi h
 · exact sys_wfi hc hi h
 · exact sys_flush hc hi h
 · exact sys_halt hc hi h
end
end Go.Proofs.YtnmpfmapncicmaaGreat
