/-
  Texts joined: TpRo TpRp. No law is proved here.
-/
import Derived.Test.YtnmpfmapncicmaaGreatB23
import Derived.Test.YtnmpfmapncicmaaGreatB24
namespace Go.Proofs.YtnmpfmapncicmaaGreat
set_option linter.all false
set_option maxRecDepth 100000
set_option maxHeartbeats 40000000
open Go.RowKit
def RetL2 (w0:World) (l:List Bx) (k g:Nat) (r:Int×List Int×Int) (e:Ending) (w':World):Prop:=Bc w0 (l.set k ⟨g,words r.2.1,25⟩) (.tuple #[.int .u32 r.1,.int .i64 r.2.2]) e w'
theorem Ac {l:List Bx} {k:Nat} {x y:Bx} (h:l[k]?=some x):(y :: l)[k+1]?=some x:=by rw[List.getElem?_cons_succ];exact h
section
variable {w0 w:World} {l:List Bx} {k g n:Nat} {xs c:List Int} {va size acc:Int}
theorem reach_bad (L:Lay w0 w l) (hk:l[k]?=some ⟨g,words xs,25⟩) (hn:xs.length=n) (hc:CpuOk c) (hm:MemOk xs) (hx0:0≤va) (hx1:va<4294967296) (ha0:1≤acc) (ha1:acc≤3) (hs:size=1∨size=4) (hal:va % size≠0) :
    Calls Tryz.prog 191 #[.agg (Ab c).toArray,.slice (some ⟨g,0,none⟩) n n,.int .u32 va,.int .i64 size,.int .i64 acc] w (RetL2 w0 l k g (0,xs,3)):=by
 have HK:=lh (fun w=>D5 acc w ha0 ha1)
 have HC:=lh (fun w=>D6 acc w ha0 ha1)
 have HPG:=lh (fun w=>Ey (c:=c) (w:=w) hc)
 have HWI:=lh (fun w=>Ct (some ⟨g,0,none⟩) xs n va size w hm hx0 hx1 hs)
 rw[hn] at HWI
 have HM:=lh hm
 have HN:=lh hn
 have n0:0<n:=by rw[←hn];exact hm.p
 have n1:n≤1024:=by rw[←hn];exact hm.q
 have HI:=lh hk
 obtain rfl|rfl:=hs
 · omega
 have hal':(va % 4 != 0)=true:=by rw[bne_iff_ne];exact hal
 clear hk hn hc hm hal
 go_in
 go_wp2_with (first|(refine YL ?_)|(refine YS ?_;clear L;intro wz L))
 go_ret2
 exact⟨rfl,by dsimp only;rw[AY HI.out];exact L.drop1⟩
theorem Xz86 {P:Prop} (h:P:=by
  first
  | (replace hal1:=hal1 rfl)
  | clear hal1
  clear hk hn hc hm hal hpg hin
  go_in
  go_wp2_with (first|(refine YL ?_)|(refine YS ?_;clear L;intro wz L))
  go_ret2
  exact⟨rfl,by dsimp only;rw[AY HI.out];exact L.drop1⟩):P:=h
theorem reach_flat (L:Lay w0 w l) (hk:l[k]?=some ⟨g,words xs,25⟩) (hn:xs.length=n) (hc:CpuOk c) (hm:MemOk xs) (hx0:0≤va) (hx1:va<4294967296) (ha0:1≤acc) (ha1:acc≤3) (hs:size=1∨size=4) (hal:va % size=0) (hpg:BR c=false) (hin:inB xs va size=true) :
    Calls Tryz.prog 191 #[.agg (Ab c).toArray,.slice (some ⟨g,0,none⟩) n n,.int .u32 va,.int .i64 size,.int .i64 acc] w (RetL2 w0 l k g (va,xs,0)):=by
 have HK:=lh (fun w=>D5 acc w ha0 ha1)
 have HC:=lh (fun w=>D6 acc w ha0 ha1)
 have HPG:=lh (fun w=>Ey (c:=c) (w:=w) hc)
 have HWI:=lh (fun w=>Ct (some ⟨g,0,none⟩) xs n va size w hm hx0 hx1 hs)
 rw[hn] at HWI
 have HM:=lh hm
 have HN:=lh hn
 have n0:0<n:=by rw[←hn];exact hm.p
 have n1:n≤1024:=by rw[←hn];exact hm.q
 have HI:=lh hk
 rw[hpg] at HPG
 rw[hin] at HWI
 have hal1:size=4→(va % 4 != 0)=false:=fun h=>by rw[h] at hal;rw[hal];rfl
 obtain rfl|rfl:=hs
 all_goals
  have hal':(va % 4 != 0)=false∨True:=.inr trivial
  clear hal'
  exact Xz86
theorem reach_out (L:Lay w0 w l) (hk:l[k]?=some ⟨g,words xs,25⟩) (hn:xs.length=n) (hc:CpuOk c) (hm:MemOk xs) (hx0:0≤va) (hx1:va<4294967296) (ha0:1≤acc) (ha1:acc≤3) (hs:size=1∨size=4) (hal:va % size=0) (hpg:BR c=false) (hin:inB xs va size=false) :
    Calls Tryz.prog 191 #[.agg (Ab c).toArray,.slice (some ⟨g,0,none⟩) n n,.int .u32 va,.int .i64 size,.int .i64 acc] w (RetL2 w0 l k g (0,xs,AE acc)):=by
 have HK:=lh (fun w=>D5 acc w ha0 ha1)
 have HC:=lh (fun w=>D6 acc w ha0 ha1)
 have HPG:=lh (fun w=>Ey (c:=c) (w:=w) hc)
 have HWI:=lh (fun w=>Ct (some ⟨g,0,none⟩) xs n va size w hm hx0 hx1 hs)
 rw[hn] at HWI
 have HM:=lh hm
 have HN:=lh hn
 have n0:0<n:=by rw[←hn];exact hm.p
 have n1:n≤1024:=by rw[←hn];exact hm.q
 have HI:=lh hk
 rw[hpg] at HPG
 rw[hin] at HWI
 have hal1:size=4→(va % 4 != 0)=false:=fun h=>by rw[h] at hal;rw[hal];rfl
 obtain rfl|rfl:=hs
 all_goals
  exact Xz86
theorem reach_fault (L:Lay w0 w l) (hk:l[k]?=some ⟨g,words xs,25⟩) (hn:xs.length=n) (hc:CpuOk c) (hm:MemOk xs) (hx0:0≤va) (hx1:va<4294967296) (ha0:1≤acc) (ha1:acc≤3) (hs:size=1∨size=4) (hal:va % size=0) (hpg:BR c=true) (hw:Cb xs (rg c 23) va acc=none) :
    Calls Tryz.prog 191 #[.agg (Ab c).toArray,.slice (some ⟨g,0,none⟩) n n,.int .u32 va,.int .i64 size,.int .i64 acc] w (RetL2 w0 l k g (0,xs,AE acc)):=by
 have W:=fun v w h=>rwalk_any (w:=w) (va:=v) (xs:=xs) (rg c 23) va acc h hm (hc.at 23).1 (hc.at 23).2 hx0 hx1 ha0 ha1
 rw[hw] at W
 change ∀ v w,MemRow w v xs→Calls Tryz.prog 246 #[v,.int .u32 (rg c 23),.int .u32 va,.int .i64 acc] w (Ret w (.agg (List.toArray [.int .u32 0,.int .u32 0,.int .i64 (AE acc)]))) at W
 have HK:=lh (fun w=>D5 acc w ha0 ha1)
 have HC:=lh (fun w=>D6 acc w ha0 ha1)
 have HPG:=lh (fun w=>Ey (c:=c) (w:=w) hc)
 have HWI:=lh (fun w=>Ct (some ⟨g,0,none⟩) xs n va size w hm hx0 hx1 hs)
 rw[hn] at HWI
 have HM:=lh hm
 have HN:=lh hn
 have n0:0<n:=by rw[←hn];exact hm.p
 have n1:n≤1024:=by rw[←hn];exact hm.q
 have HI:=lh hk
 rw[hpg] at HPG
 have hfa:(AE acc != 0)=true:=by
  unfold AE
  repeat' split
  all_goals rfl
 generalize AE acc=fa at *
 have HW':=lh W
 have HW:=lh (fun w h=>HW'.out (.slice (some ⟨g,0,none⟩) n n) w h)
 have hal1:size=4→(va % 4 != 0)=false:=fun h=>by rw[h] at hal;rw[hal];rfl
 obtain rfl|rfl:=hs
 all_goals
  first
  | (replace hal1:=hal1 rfl)
  | clear hal1
  clear hk hn hc hm hal hpg hw W HW'
  go_in
  go_wp2_with (first|(refine YL ?_)|((first|(go_at_call 246;(with_reducible refine zcl L (HW.out _ (L.memRow (k:=k+1) (Ac HI.out) HN.out n0 n1)) ?_))|refine YS ?_);clear L;intro wz L))
  refine YQ ?_;clear L;intro wz L
  go_wp2_with fail
  go_ret2
  exact⟨rfl,by dsimp only;rw[AY HI.out];exact L.drop1.drop1⟩
theorem reach_page {a e':Int} (L:Lay w0 w l) (hk:l[k]?=some ⟨g,words xs,25⟩) (hn:xs.length=n) (hc:CpuOk c) (hm:MemOk xs) (hx0:0≤va) (hx1:va<4294967296) (ha0:1≤acc) (ha1:acc≤3) (hs:size=1∨size=4) (hal:va % size=0) (hpg:BR c=true) (hw:Cb xs (rg c 23) va acc=some (a,e')) :
    Calls Tryz.prog 191 #[.agg (Ab c).toArray,.slice (some ⟨g,0,none⟩) n n,.int .u32 va,.int .i64 size,.int .i64 acc] w (RetL2 w0 l k g (a,Dg xs e' acc,0)):=by
 have W:=fun v w h=>rwalk_any (w:=w) (va:=v) (xs:=xs) (rg c 23) va acc h hm (hc.at 23).1 (hc.at 23).2 hx0 hx1 ha0 ha1
 have hh:=G9 hm (hc.at 23).1 hx0 hw
 rw[hw] at W
 change ∀ v w,MemRow w v xs→Calls Tryz.prog 246 #[v,.int .u32 (rg c 23),.int .u32 va,.int .i64 acc] w (Ret w (.agg (List.toArray [.int .u32 a,.int .u32 e',.int .i64 0]))) at W
 have HK:=lh (fun w=>D5 acc w ha0 ha1)
 have HC:=lh (fun w=>D6 acc w ha0 ha1)
 have HPG:=lh (fun w=>Ey (c:=c) (w:=w) hc)
 have HWI:=lh (fun w=>Ct (some ⟨g,0,none⟩) xs n va size w hm hx0 hx1 hs)
 rw[hn] at HWI
 have HM:=lh hm
 have HN:=lh hn
 have n0:0<n:=by rw[←hn];exact hm.p
 have n1:n≤1024:=by rw[←hn];exact hm.q
 have HI:=lh hk
 rw[hpg] at HPG
 have HMK:=lh (fun l' k' (w:World) (L:Lay w0 w l') hk=>rmark_any (k:=k') (g:=g) L hk hn hm e' acc hh.2.2.1 (by have:=hh.2.2.2.1;omega) hh.2.2.2.2 ha0 ha1)
 generalize Dg xs e' acc=ys at *
 have HW':=lh W
 have HW:=lh (fun w h=>HW'.out (.slice (some ⟨g,0,none⟩) n n) w h)
 have hal1:size=4→(va % 4 != 0)=false:=fun h=>by rw[h] at hal;rw[hal];rfl
 obtain rfl|rfl:=hs
 all_goals
  first
  | (replace hal1:=hal1 rfl)
  | clear hal1
  clear hk hn hc hm hal hpg hw W HW' hh
  go_in
  go_wp2_with (first|(refine YL ?_)|((first|(go_at_call 246;(with_reducible refine zcl L (HW.out _ (L.memRow (k:=k+1) (Ac HI.out) HN.out n0 n1)) ?_))|refine YS ?_);clear L;intro wz L))
  refine (HMK.out _ (k+2) _ L (Ac (Ac HI.out))).mono ?_
  rintro e wz ⟨rfl,Lz⟩
  replace L:=Lz
  clear Lz
  simp only[List.set_cons_succ] at L
  go_wp2_with (refine YL ?_)
  go_ret2
  exact⟨rfl,L.drop1.drop1⟩
theorem AX (L:Lay w0 w l) (hk:l[k]?=some ⟨g,words xs,25⟩) (hn:xs.length=n) (hc:CpuOk c) (hm:MemOk xs) (hx0:0≤va) (hx1:va<4294967296) (ha0:1≤acc) (ha1:acc≤3) (hs:size=1∨size=4) :
    Calls Tryz.prog 191 #[.agg (Ab c).toArray,.slice (some ⟨g,0,none⟩) n n,.int .u32 va,.int .i64 size,.int .i64 acc] w (RetL2 w0 l k g (Ah c xs va size acc)):=by
 unfold Ah
 by_cases hal:va % size≠0
 · rw[if_pos hal];exact reach_bad L hk hn hc hm hx0 hx1 ha0 ha1 hs hal
 rw[if_neg hal]
 have hal:=Classical.byContradiction hal
 cases hpg:BR c with
 | false =>
   rw[if_neg (by decide)]
   cases hin:inB xs va size with
   | true=>rw[if_pos rfl];exact reach_flat L hk hn hc hm hx0 hx1 ha0 ha1 hs hal hpg hin
   | false=>rw[if_neg (by decide)];exact reach_out L hk hn hc hm hx0 hx1 ha0 ha1 hs hal hpg hin
 | true =>
   rw[if_pos rfl]
   cases hw:Cb xs (rg c 23) va acc with
   | none=>exact reach_fault L hk hn hc hm hx0 hx1 ha0 ha1 hs hal hpg hw
   | some r=>exact reach_page L hk hn hc hm hx0 hx1 ha0 ha1 hs hal hpg hw
end
section
variable {c:List Int} {i:In} {w:World}
theorem Xz63 {P:Prop} (h:P:=by
  go_wp2_with (first|(refine op_mul (ty:=25) (m:=4) (n:=i.imm % 4294967296) q rfl rfl rfl rfl HQ.out ?_)|(refine op_add (ty:=25) (m:=rg c 16) (n:=q) N rfl rfl rfl rfl HN.out ?_)|(refine YL ?_)|((first|refine Yt (Ab Z) ?_|refine YS ?_);clear L;intro wz L))
  exact Yr1 (Ret.mk L.bel)):P:=h
theorem jump_jal (hc:CpuOk c) (hi:i.Good) (ho:i.op=48):Calls Tryz.prog 194 #[.agg (Ab c).toArray,.agg (inL i).toArray] w (Ret w (.agg (Ab (Ap c i).1).toArray)):=by
 obtain⟨q,hq⟩:∃ q,4*(i.imm % 4294967296) % 4294967296=q:=⟨_,rfl⟩
 obtain⟨S,hS⟩:∃ s,Bm c i.a ((rg c 16+4) % 4294967296)=s:=⟨_,rfl⟩
 have hsl:S.length=25:=by rw[←hS];exact Br hc.len _ _
 obtain⟨N,hN⟩:∃ n,(rg c 16+q) % 4294967296=n:=⟨_,rfl⟩
 have e:Ap c i=(S.set 16 N,ef0):=by
  unfold Ap;dsimp only;rw[if_neg (by omega),if_neg (by omega),if_pos ho];simp only[u32,BU,IntKind.wrap_u32];rw[hq,hS,hN]
 rw[e]
 dsimp only
 have ST:=fun w=>CT (w:=w) hc.len i.a ((rg c 16+4) % 4294967296) hi.a.1 (by have:=hi.a.2;omega)
 rw[hS] at ST
 have HST:=lh ST
 have HQ:=lh hq
 have hop:(inL i)[0]?=some (.int .i64 48):=by rw[←ho];rfl
 clear ST hS hq e
 obtain⟨Z,hZ⟩:∃ z,S.set 16 N=z:=⟨_,rfl⟩
 have hz:(Ab S).set 16 (.int .u32 N)=Ab Z:=by rw[←hZ];exact Ak hsl _ _
 rw[hZ]
 have HZ:=lh hz
 have HN:=lh hN
 clear hz hZ hN
 obtain⟨hia0,hia1,hib0,hib1,hca,hcb⟩:=inF hc hi
 have L:=Lay.start w
 go_in
 exact Xz63
theorem Xz112 {P:Prop} (h:P:=by
  go_wp2_with (first|(refine YL ?_)|((first|refine Yt (Ab Z) ?_|refine YS ?_);clear L;intro wz L))
  exact Yr1 (Ret.mk L.bel)):P:=h
theorem jump_jalr (hc:CpuOk c) (hi:i.Good) (ho:i.op=49):Calls Tryz.prog 194 #[.agg (Ab c).toArray,.agg (inL i).toArray] w (Ret w (.agg (Ab (Ap c i).1).toArray)):=by
 obtain⟨S,hS⟩:∃ s,Bm c i.a ((rg c 16+4) % 4294967296)=s:=⟨_,rfl⟩
 have hsl:S.length=25:=by rw[←hS];exact Br hc.len _ _
 obtain⟨N,hN⟩:∃ n,(rg c i.b.toNat+i.imm % 4294967296) % 4294967296=n:=⟨_,rfl⟩
 have e:Ap c i=(S.set 16 N,ef0):=by
  exact Xz116
 rw[e]
 dsimp only
 have ST:=fun w=>CT (w:=w) hc.len i.a ((rg c 16+4) % 4294967296) hi.a.1 (by have:=hi.a.2;omega)
 rw[hS] at ST
 have HST:=lh ST
 have hop:(inL i)[0]?=some (.int .i64 49):=by rw[←ho];rfl
 clear ST hS e
 obtain⟨Z,hZ⟩:∃ z,S.set 16 N=z:=⟨_,rfl⟩
 have hz:(Ab S).set 16 (.int .u32 N)=Ab Z:=by rw[←hZ];exact Ak hsl _ _
 rw[hZ]
 have HZ:=lh hz
 have HN:=lh hN
 clear hz hZ hN
 obtain⟨hia0,hia1,hib0,hib1,hca,hcb⟩:=inF hc hi
 have L:=Lay.start w
 go_in
 go_wp2_with (first|(refine YL ?_)|(refine YS ?_;clear L;intro wz L))
 refine YQ ?_;clear L;intro wz L
 rw[show (rg c i.b.toNat+i.imm % 4294967296) % 4294967296=N from HN.out]
 exact Xz112
theorem Gn (hc:CpuOk c) (hi:i.Good) {o:Int} (h6:o=40∨o=41∨o=42∨o=43∨o=44∨o=45) (ho:i.op=o):Calls Tryz.prog 194 #[.agg (Ab c).toArray,.agg (inL i).toArray] w (Ret w (.agg (Ab (Ap c i).1).toArray)):=by
 have hop:(inL i)[0]?=some (.int .i64 o):=by rw[←ho];rfl
 have TK:∀ w,Calls Tryz.prog 250 #[.int .i64 o,.int .u32 (rg c i.a.toNat),.int .u32 (rg c i.b.toNat)] w (Ret w (.bool (GA o (rg c i.a.toNat) (rg c i.b.toNat)))):=fun w=>(rtaken_any o (rg c i.a.toNat) (rg c i.b.toNat) w (by omega) (by omega)).mono (fun _ _ h=>⟨h.1,by rw[h.2];exact Below.refl _ _⟩)
 cases hb:GA o (rg c i.a.toNat) (rg c i.b.toNat) with
 | true =>
   rw[hb] at TK
   obtain⟨q,hq⟩:∃ q,4*(i.imm % 4294967296) % 4294967296=q:=⟨_,rfl⟩
   obtain⟨N,hN⟩:∃ n,(rg c 16+q) % 4294967296=n:=⟨_,rfl⟩
   obtain⟨Z,hZ⟩:∃ z,c.set 16 N=z:=⟨_,rfl⟩
   have e:Ap c i=(Z,ef0):=by
    exact Xz114
   rw[e]
   dsimp only
   have hz:(Ab c).set 16 (.int .u32 N)=Ab Z:=by rw[←hZ];exact Ak hc.len _ _
   have HZ:=lh hz
   have HN:=lh hN
   have HQ:=lh hq
   have HTK:=lh TK
   clear hz hZ hN hq e hb TK
   rcases h6 with rfl|rfl|rfl|rfl|rfl|rfl
   all_goals
    obtain⟨hia0,hia1,hib0,hib1,hca,hcb⟩:=inF hc hi
    have L:=Lay.start w
    go_in
    go_wp2_with (first|(refine YL ?_)|(refine YS ?_;clear L;intro wz L))
    (try simp only[Act.put,q4,s0,s1])
    refine wp_region_quiet_below (by kernel_rfl) (by kernel_rfl) ?_
    repeat (first|(go_big_quiet_want;(first|fail|(refine AK (ty:=3) L (fun _ h=>Aa h) 1 rfl rfl rfl τ3 rfl hop ?_)|(refine zlq τ3 L 1 ?_)|(refine AK (ty:=25) L (fun _ h=>Aa h) 2 rfl rfl rfl τ25 rfl hca ?_)|(refine AK (ty:=25) L (fun _ h=>Aa h) 2 rfl rfl rfl τ25 rfl hcb ?_));go_big_quiet_on;(try simp only[Act.put,q4,s0,s1]))|go_big_quiet_step (first|fail|(go_at_call 250;exact A9 (HTK.out _))))
    refine wpQuiet_nil ?_
    intro wz hwz
    replace L:=L.below (Aa hwz)
    clear hwz
    exact Xz63
 | false =>
   rw[hb] at TK
   obtain⟨Z,hZ⟩:∃ z,c.set 16 ((rg c 16+4) % 4294967296)=z:=⟨_,rfl⟩
   have e:Ap c i=(Z,ef0):=by
    exact Xz105
   rw[e]
   dsimp only
   have hz:(Ab c).set 16 (.int .u32 ((rg c 16+4) % 4294967296))=Ab Z:=by rw[←hZ];exact Ak hc.len _ _
   have HZ:=lh hz
   have HTK:=lh TK
   clear hz hZ e hb TK
   rcases h6 with rfl|rfl|rfl|rfl|rfl|rfl
   all_goals
    obtain⟨hia0,hia1,hib0,hib1,hca,hcb⟩:=inF hc hi
    have L:=Lay.start w
    go_in
    go_wp2_with (first|(refine YL ?_)|(refine YS ?_;clear L;intro wz L))
    (try simp only[Act.put,q4,s0,s1])
    refine wp_region_quiet_below (by kernel_rfl) (by kernel_rfl) ?_
    repeat (first|(go_big_quiet_want;(first|fail|(refine AK (ty:=3) L (fun _ h=>Aa h) 1 rfl rfl rfl τ3 rfl hop ?_)|(refine zlq τ3 L 1 ?_)|(refine AK (ty:=25) L (fun _ h=>Aa h) 2 rfl rfl rfl τ25 rfl hca ?_)|(refine AK (ty:=25) L (fun _ h=>Aa h) 2 rfl rfl rfl τ25 rfl hcb ?_));go_big_quiet_on;(try simp only[Act.put,q4,s0,s1]))|go_big_quiet_step (first|fail|(go_at_call 250;exact A9 (HTK.out _))))
    refine wpQuiet_nil ?_
    intro wz hwz
    replace L:=L.below (Aa hwz)
    clear hwz
    exact Xz112
theorem jump_beq (hc:CpuOk c) (hi:i.Good) (ho:i.op=40):Calls Tryz.prog 194 #[.agg (Ab c).toArray,.agg (inL i).toArray] w (Ret w (.agg (Ab (Ap c i).1).toArray)):=Gn hc hi (by decide) ho
theorem jump_bne (hc:CpuOk c) (hi:i.Good) (ho:i.op=41):Calls Tryz.prog 194 #[.agg (Ab c).toArray,.agg (inL i).toArray] w (Ret w (.agg (Ab (Ap c i).1).toArray)):=Gn hc hi (by decide) ho
theorem jump_blt (hc:CpuOk c) (hi:i.Good) (ho:i.op=42):Calls Tryz.prog 194 #[.agg (Ab c).toArray,.agg (inL i).toArray] w (Ret w (.agg (Ab (Ap c i).1).toArray)):=Gn hc hi (by decide) ho
theorem jump_bge (hc:CpuOk c) (hi:i.Good) (ho:i.op=43):Calls Tryz.prog 194 #[.agg (Ab c).toArray,.agg (inL i).toArray] w (Ret w (.agg (Ab (Ap c i).1).toArray)):=Gn hc hi (by decide) ho
theorem jump_bltu (hc:CpuOk c) (hi:i.Good) (ho:i.op=44):Calls Tryz.prog 194 #[.agg (Ab c).toArray,.agg (inL i).toArray] w (Ret w (.agg (Ab (Ap c i).1).toArray)):=Gn hc hi (by decide) ho
theorem jump_bgeu (hc:CpuOk c) (hi:i.Good) (ho:i.op=45):Calls Tryz.prog 194 #[.agg (Ab c).toArray,.agg (inL i).toArray] w (Ret w (.agg (Ab (Ap c i).1).toArray)):=Gn hc hi (by decide) ho
theorem jump_any (hc:CpuOk c) (hi:i.Good) (h0:40≤i.op) (h1:i.op<56):Calls Tryz.prog 194 #[.agg (Ab c).toArray,.agg (inL i).toArray] w (Ret w (.agg (Ab (Ap c i).1).toArray)):=by
 have hv:=Dd hi.f
 obtain h|h|h|h|h|h|h|h:i.op=40∨i.op=41∨i.op=42∨i.op=43∨i.op=44∨i.op=45∨i.op=48∨i.op=49:=by omega
 · exact jump_beq hc hi h
 · exact jump_bne hc hi h
 · exact jump_blt hc hi h
 · exact jump_bge hc hi h
 · exact jump_bltu hc hi h
 · exact jump_bgeu hc hi h
 · exact jump_jal hc hi h
 · exact jump_jalr hc hi h
end
end Go.Proofs.YtnmpfmapncicmaaGreat
