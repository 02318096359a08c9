/-
  Texts joined: TpRt. No law is proved here.
-/
import Derived.Test.YtnmpfmapncicmaaGreatB33
namespace Go.Proofs.YtnmpfmapncicmaaGreat
set_option linter.all false
set_option maxRecDepth 100000
set_option maxHeartbeats 40000000
open Go.RowKit
theorem rsext8_any (v:Int) (w:World) (h0:0≤v) (h1:v<256):Calls Tryz.prog 251 #[.int .u32 v,.int .i64 8] w (Same w (.int .u32 (sx8 v))):=by
 obtain⟨k,rfl⟩:∃ k:Nat,v=k:=⟨v.toNat,by omega⟩
 have hk:k<256:=by omega
 have e1:bits .and .u32 (k:Int) 255=k:=by rw[Db (by omega) (by omega)];omega
 have H:∀ k:Nat,k<256→bits .or .u32 (k:Int) 4294967040=(k:Int)+4294967040:=by decide +kernel
 have e2:=H k hk
 unfold sx8
 clear H
 by_cases h:128≤(k:Int)
 · rw[if_pos h]
   have e3:((k:Int) / 128 == 1)=true:=by rw[beq_iff_eq];omega
   go_in
   go_wp2
   go_ret
   exact Same.mk' rfl
 · rw[if_neg h]
   have e3:((k:Int) / 128 == 1)=false:=by rw[beq_eq_false_iff_ne];omega
   go_in
   go_wp2
   go_ret
   exact Same.mk' rfl
theorem Lay.drop3 {w0 w:World} {x y z:Bx} {l:List Bx} (L:Lay w0 w (x :: y :: z :: l)):Lay w0 w l:=L.drop1.drop1.drop1
section
variable {w0 w:World} {l:List Bx} {k g n:Nat} {xs ys c:List Int} {i:In} {A a q:Int}
theorem tr_trap_lw (L:Lay w0 w l) (hk:l[k]?=some ⟨g,words xs,25⟩) (hn:xs.length=n) (hc:CpuOk c) (hm:MemOk xs) (hi:i.Good) (ho:i.op=32) (hA0:0≤A) (hA1:A<4294967296) (hAu:(rg c i.b.toNat+i.imm % 4294967296) % 4294967296=A)
    (hr:Ah c xs A 4 2=(a,ys,q)) (hq:q≠0) (hq0:0≤q) (hq1:q<4294967296) :
    Calls Tryz.prog 195 #[.agg (Ab c).toArray,.slice (some ⟨g,0,none⟩) n n,.agg (inL i).toArray] w (Bc w0 (l.set k ⟨g,words ys,25⟩) (.agg (Ab (AN c q A)).toArray)):=by
 obtain⟨op,ia,ib,ic,imm⟩:=i
 dsimp only at ho
 subst ho
 have R:=fun l' k' (w:World) (L:Lay w0 w l') hk=>AX (k:=k') (g:=g) (va:=A) (size:=4) (acc:=2) L hk hn hc hm hA0 hA1 (by decide) (by decide) (by decide)
 rw[hr] at R
 have HR:=lh R
 have HN:=lh hn
 have n0:0<n:=by rw[←hn];exact hm.p
 have n1:n≤1024:=by rw[←hn];exact hm.q
 have HI:=lh hk
 have HA:=lh hAu
 have hib0:0≤ib:=hi.b.1
 have hib1:ib<16:=by have:ib≤15:=hi.b.2;omega
 have hia0:0≤ia:=hi.a.1
 have hia1:ia<16:=by have:ia≤15:=hi.a.2;omega
 have hca:(Ab c)[ia.toNat]?=some (.int .u32 (rg c ia.toNat)):=AB hc.len (by omega)
 have hcb:(Ab c)[ib.toNat]?=some (.int .u32 (rg c ib.toNat)):=AB hc.len (by omega)
 have T:=fun w=>C6 (w:=w) hc q A hq0 hq1
 have hqb:(q != 0)=true:=by rw[bne_iff_ne];exact hq
 generalize AN c q A=Z at *
 have HT:=lh T
 clear R hk hn hc hm hi hr hq T hAu hA0 hA1
 go_in
 go_wp2_with (first|(refine YL ?_)|(refine YS ?_;clear L;intro wz L))
 refine YQ ?_;clear L;intro wz L
 rw[show (rg c ib.toNat+imm % 4294967296) % 4294967296=A from HA.out]
 go_wp2_with (refine YL ?_)
 refine (HR.out _ (k+3) _ L (Ac (Ac (Ac HI.out)))).mono ?_
 rintro e wz ⟨rfl,Lz⟩
 replace L:=Lz
 clear Lz
 dsimp only at L
 simp only[List.set_cons_succ] at L
 dsimp only
 go_wp2_with (first|(refine YL ?_)|(refine YS ?_;clear L;intro wz L))
 exact Yr1 ⟨rfl,L.drop3⟩
theorem tr_trap_lb (L:Lay w0 w l) (hk:l[k]?=some ⟨g,words xs,25⟩) (hn:xs.length=n) (hc:CpuOk c) (hm:MemOk xs) (hi:i.Good) (ho:i.op=33) (hA0:0≤A) (hA1:A<4294967296) (hAu:(rg c i.b.toNat+i.imm % 4294967296) % 4294967296=A)
    (hr:Ah c xs A 1 2=(a,ys,q)) (hq:q≠0) (hq0:0≤q) (hq1:q<4294967296) :
    Calls Tryz.prog 195 #[.agg (Ab c).toArray,.slice (some ⟨g,0,none⟩) n n,.agg (inL i).toArray] w (Bc w0 (l.set k ⟨g,words ys,25⟩) (.agg (Ab (AN c q A)).toArray)):=by
 obtain⟨op,ia,ib,ic,imm⟩:=i
 dsimp only at ho
 subst ho
 have R:=fun l' k' (w:World) (L:Lay w0 w l') hk=>AX (k:=k') (g:=g) (va:=A) (size:=1) (acc:=2) L hk hn hc hm hA0 hA1 (by decide) (by decide) (by decide)
 rw[hr] at R
 have HR:=lh R
 have HN:=lh hn
 have n0:0<n:=by rw[←hn];exact hm.p
 have n1:n≤1024:=by rw[←hn];exact hm.q
 have HI:=lh hk
 have HA:=lh hAu
 have hib0:0≤ib:=hi.b.1
 have hib1:ib<16:=by have:ib≤15:=hi.b.2;omega
 have hia0:0≤ia:=hi.a.1
 have hia1:ia<16:=by have:ia≤15:=hi.a.2;omega
 have hca:(Ab c)[ia.toNat]?=some (.int .u32 (rg c ia.toNat)):=AB hc.len (by omega)
 have hcb:(Ab c)[ib.toNat]?=some (.int .u32 (rg c ib.toNat)):=AB hc.len (by omega)
 have T:=fun w=>C6 (w:=w) hc q A hq0 hq1
 have hqb:(q != 0)=true:=by rw[bne_iff_ne];exact hq
 generalize AN c q A=Z at *
 have HT:=lh T
 clear R hk hn hc hm hi hr hq T hAu hA0 hA1
 go_in
 go_wp2_with (first|(refine YL ?_)|(refine YS ?_;clear L;intro wz L))
 refine YQ ?_;clear L;intro wz L
 rw[show (rg c ib.toNat+imm % 4294967296) % 4294967296=A from HA.out]
 go_wp2_with (refine YL ?_)
 refine (HR.out _ (k+3) _ L (Ac (Ac (Ac HI.out)))).mono ?_
 rintro e wz ⟨rfl,Lz⟩
 replace L:=Lz
 clear Lz
 dsimp only at L
 simp only[List.set_cons_succ] at L
 dsimp only
 go_wp2_with (first|(refine YL ?_)|(refine YS ?_;clear L;intro wz L))
 exact Yr1 ⟨rfl,L.drop3⟩
theorem tr_trap_lbu (L:Lay w0 w l) (hk:l[k]?=some ⟨g,words xs,25⟩) (hn:xs.length=n) (hc:CpuOk c) (hm:MemOk xs) (hi:i.Good) (ho:i.op=34) (hA0:0≤A) (hA1:A<4294967296) (hAu:(rg c i.b.toNat+i.imm % 4294967296) % 4294967296=A)
    (hr:Ah c xs A 1 2=(a,ys,q)) (hq:q≠0) (hq0:0≤q) (hq1:q<4294967296) :
    Calls Tryz.prog 195 #[.agg (Ab c).toArray,.slice (some ⟨g,0,none⟩) n n,.agg (inL i).toArray] w (Bc w0 (l.set k ⟨g,words ys,25⟩) (.agg (Ab (AN c q A)).toArray)):=by
 obtain⟨op,ia,ib,ic,imm⟩:=i
 dsimp only at ho
 subst ho
 have R:=fun l' k' (w:World) (L:Lay w0 w l') hk=>AX (k:=k') (g:=g) (va:=A) (size:=1) (acc:=2) L hk hn hc hm hA0 hA1 (by decide) (by decide) (by decide)
 rw[hr] at R
 have HR:=lh R
 have HN:=lh hn
 have n0:0<n:=by rw[←hn];exact hm.p
 have n1:n≤1024:=by rw[←hn];exact hm.q
 have HI:=lh hk
 have HA:=lh hAu
 have hib0:0≤ib:=hi.b.1
 have hib1:ib<16:=by have:ib≤15:=hi.b.2;omega
 have hia0:0≤ia:=hi.a.1
 have hia1:ia<16:=by have:ia≤15:=hi.a.2;omega
 have hca:(Ab c)[ia.toNat]?=some (.int .u32 (rg c ia.toNat)):=AB hc.len (by omega)
 have hcb:(Ab c)[ib.toNat]?=some (.int .u32 (rg c ib.toNat)):=AB hc.len (by omega)
 have T:=fun w=>C6 (w:=w) hc q A hq0 hq1
 have hqb:(q != 0)=true:=by rw[bne_iff_ne];exact hq
 generalize AN c q A=Z at *
 have HT:=lh T
 clear R hk hn hc hm hi hr hq T hAu hA0 hA1
 go_in
 go_wp2_with (first|(refine YL ?_)|(refine YS ?_;clear L;intro wz L))
 refine YQ ?_;clear L;intro wz L
 rw[show (rg c ib.toNat+imm % 4294967296) % 4294967296=A from HA.out]
 go_wp2_with (refine YL ?_)
 refine (HR.out _ (k+3) _ L (Ac (Ac (Ac HI.out)))).mono ?_
 rintro e wz ⟨rfl,Lz⟩
 replace L:=Lz
 clear Lz
 dsimp only at L
 simp only[List.set_cons_succ] at L
 dsimp only
 go_wp2_with (first|(refine YL ?_)|(refine YS ?_;clear L;intro wz L))
 exact Yr1 ⟨rfl,L.drop3⟩
theorem tr_trap_sw (L:Lay w0 w l) (hk:l[k]?=some ⟨g,words xs,25⟩) (hn:xs.length=n) (hc:CpuOk c) (hm:MemOk xs) (hi:i.Good) (ho:i.op=35) (hA0:0≤A) (hA1:A<4294967296) (hAu:(rg c i.b.toNat+i.imm % 4294967296) % 4294967296=A)
    (hr:Ah c xs A 4 3=(a,ys,q)) (hq:q≠0) (hq0:0≤q) (hq1:q<4294967296) :
    Calls Tryz.prog 195 #[.agg (Ab c).toArray,.slice (some ⟨g,0,none⟩) n n,.agg (inL i).toArray] w (Bc w0 (l.set k ⟨g,words ys,25⟩) (.agg (Ab (AN c q A)).toArray)):=by
 obtain⟨op,ia,ib,ic,imm⟩:=i
 dsimp only at ho
 subst ho
 have R:=fun l' k' (w:World) (L:Lay w0 w l') hk=>AX (k:=k') (g:=g) (va:=A) (size:=4) (acc:=3) L hk hn hc hm hA0 hA1 (by decide) (by decide) (by decide)
 rw[hr] at R
 have HR:=lh R
 have HN:=lh hn
 have n0:0<n:=by rw[←hn];exact hm.p
 have n1:n≤1024:=by rw[←hn];exact hm.q
 have HI:=lh hk
 have HA:=lh hAu
 have hib0:0≤ib:=hi.b.1
 have hib1:ib<16:=by have:ib≤15:=hi.b.2;omega
 have hia0:0≤ia:=hi.a.1
 have hia1:ia<16:=by have:ia≤15:=hi.a.2;omega
 have hca:(Ab c)[ia.toNat]?=some (.int .u32 (rg c ia.toNat)):=AB hc.len (by omega)
 have hcb:(Ab c)[ib.toNat]?=some (.int .u32 (rg c ib.toNat)):=AB hc.len (by omega)
 have T:=fun w=>C6 (w:=w) hc q A hq0 hq1
 have hqb:(q != 0)=true:=by rw[bne_iff_ne];exact hq
 generalize AN c q A=Z at *
 have HT:=lh T
 clear R hk hn hc hm hi hr hq T hAu hA0 hA1
 go_in
 go_wp2_with (first|(refine YL ?_)|(refine YS ?_;clear L;intro wz L))
 refine YQ ?_;clear L;intro wz L
 rw[show (rg c ib.toNat+imm % 4294967296) % 4294967296=A from HA.out]
 go_wp2_with (refine YL ?_)
 refine (HR.out _ (k+3) _ L (Ac (Ac (Ac HI.out)))).mono ?_
 rintro e wz ⟨rfl,Lz⟩
 replace L:=Lz
 clear Lz
 dsimp only at L
 simp only[List.set_cons_succ] at L
 dsimp only
 go_wp2_with (first|(refine YL ?_)|(refine YS ?_;clear L;intro wz L))
 exact Yr1 ⟨rfl,L.drop3⟩
theorem tr_trap_sb (L:Lay w0 w l) (hk:l[k]?=some ⟨g,words xs,25⟩) (hn:xs.length=n) (hc:CpuOk c) (hm:MemOk xs) (hi:i.Good) (ho:i.op=36) (hA0:0≤A) (hA1:A<4294967296) (hAu:(rg c i.b.toNat+i.imm % 4294967296) % 4294967296=A)
    (hr:Ah c xs A 1 3=(a,ys,q)) (hq:q≠0) (hq0:0≤q) (hq1:q<4294967296) :
    Calls Tryz.prog 195 #[.agg (Ab c).toArray,.slice (some ⟨g,0,none⟩) n n,.agg (inL i).toArray] w (Bc w0 (l.set k ⟨g,words ys,25⟩) (.agg (Ab (AN c q A)).toArray)):=by
 obtain⟨op,ia,ib,ic,imm⟩:=i
 dsimp only at ho
 subst ho
 have R:=fun l' k' (w:World) (L:Lay w0 w l') hk=>AX (k:=k') (g:=g) (va:=A) (size:=1) (acc:=3) L hk hn hc hm hA0 hA1 (by decide) (by decide) (by decide)
 rw[hr] at R
 have HR:=lh R
 have HN:=lh hn
 have n0:0<n:=by rw[←hn];exact hm.p
 have n1:n≤1024:=by rw[←hn];exact hm.q
 have HI:=lh hk
 have HA:=lh hAu
 have hib0:0≤ib:=hi.b.1
 have hib1:ib<16:=by have:ib≤15:=hi.b.2;omega
 have hia0:0≤ia:=hi.a.1
 have hia1:ia<16:=by have:ia≤15:=hi.a.2;omega
 have hca:(Ab c)[ia.toNat]?=some (.int .u32 (rg c ia.toNat)):=AB hc.len (by omega)
 have hcb:(Ab c)[ib.toNat]?=some (.int .u32 (rg c ib.toNat)):=AB hc.len (by omega)
 have T:=fun w=>C6 (w:=w) hc q A hq0 hq1
 have hqb:(q != 0)=true:=by rw[bne_iff_ne];exact hq
 generalize AN c q A=Z at *
 have HT:=lh T
 clear R hk hn hc hm hi hr hq T hAu hA0 hA1
 go_in
 go_wp2_with (first|(refine YL ?_)|(refine YS ?_;clear L;intro wz L))
 refine YQ ?_;clear L;intro wz L
 rw[show (rg c ib.toNat+imm % 4294967296) % 4294967296=A from HA.out]
 go_wp2_with (refine YL ?_)
 refine (HR.out _ (k+3) _ L (Ac (Ac (Ac HI.out)))).mono ?_
 rintro e wz ⟨rfl,Lz⟩
 replace L:=Lz
 clear Lz
 dsimp only at L
 simp only[List.set_cons_succ] at L
 dsimp only
 go_wp2_with (first|(refine YL ?_)|(refine YS ?_;clear L;intro wz L))
 exact Yr1 ⟨rfl,L.drop3⟩
theorem tr_lw {x:Int} (L:Lay w0 w l) (hk:l[k]?=some ⟨g,words xs,25⟩) (hn:xs.length=n) (hc:CpuOk c) (hm:MemOk xs) (hi:i.Good) (ho:i.op=32) (hA0:0≤A) (hA1:A<4294967296) (hAu:(rg c i.b.toNat+i.imm % 4294967296) % 4294967296=A)
    (hr:Ah c xs A 4 2=(a,ys,0)) (hm2:MemOk ys) (hl2:ys.length=n) (ha0:0≤a) (ha1:a<4294967296) (hin:inB ys a 4=true) (hx:Cg ys a 4=x) (_hx0:0≤x) (_hx1:x<256∨32≠33) :
    Calls Tryz.prog 195 #[.agg (Ab c).toArray,.slice (some ⟨g,0,none⟩) n n,.agg (inL i).toArray] w (Bc w0 (l.set k ⟨g,words ys,25⟩) (.agg (Ab ((Bm c i.a (x)).set 16 ((rg c 16+4) % 4294967296))).toArray)):=by
 obtain⟨op,ia,ib,ic,imm⟩:=i
 dsimp only at ho
 subst ho
 have R:=fun l' k' (w:World) (L:Lay w0 w l') hk=>AX (k:=k') (g:=g) (va:=A) (size:=4) (acc:=2) L hk hn hc hm hA0 hA1 (by decide) (by decide) (by decide)
 rw[hr] at R
 have HR:=lh R
 have HN:=lh hn
 have n0:0<n:=by rw[←hn];exact hm.p
 have n1:n≤1024:=by rw[←hn];exact hm.q
 have HI:=lh hk
 have HA:=lh hAu
 have hib0:0≤ib:=hi.b.1
 have hib1:ib<16:=by have:ib≤15:=hi.b.2;omega
 have hia0:0≤ia:=hi.a.1
 have hia1:ia<16:=by have:ia≤15:=hi.a.2;omega
 have hca:(Ab c)[ia.toNat]?=some (.int .u32 (rg c ia.toNat)):=AB hc.len (by omega)
 have hcb:(Ab c)[ib.toNat]?=some (.int .u32 (rg c ib.toNat)):=AB hc.len (by omega)
 have LD:=fun v w h=>BX v ys a 4 w h hm2 ha0 ha1 (by decide) hin
 rw[hx] at LD
 have HLD:=lh LD
 have HI2:=lh (BK hk ⟨g,words ys,25⟩)
 have HN2:=lh hl2
 have ST:=fun w=>CT (w:=w) hc.len ia (x) hia0 (by omega)
 dsimp only
 obtain⟨S,hS⟩:∃ s,Bm c ia (x)=s:=⟨_,rfl⟩
 have hsl:S.length=25:=by rw[←hS];exact Br hc.len _ _
 have hpc:(Ab S)[16]?=some (.int .u32 (rg c 16)):=by rw[←hS,←Ea (show ia≤15 by omega)];rfl
 rw[hS] at ST ⊢
 obtain⟨Z,hZ⟩:∃ z,S.set 16 ((rg c 16+4) % 4294967296)=z:=⟨_,rfl⟩
 have hz:(Ab S).set 16 (.int .u32 ((rg c 16+4) % 4294967296))=Ab Z:=by rw[←hZ];exact Ak hsl _ _
 rw[hZ]
 have HZ:=lh hz
 have HST:=lh ST
 skip
 clear R hk hn hc hm hi hr hAu hA0 hA1 LD hm2 hl2 hin hx hz hZ ST hS hsl
 go_in
 go_wp2_with (first|(refine YL ?_)|(refine YS ?_;clear L;intro wz L))
 refine YQ ?_;clear L;intro wz L
 rw[show (rg c ib.toNat+imm % 4294967296) % 4294967296=A from HA.out]
 go_wp2_with (refine YL ?_)
 refine (HR.out _ (k+3) _ L (Ac (Ac (Ac HI.out)))).mono ?_
 rintro e wz ⟨rfl,Lz⟩
 replace L:=Lz
 clear Lz
 dsimp only at L
 simp only[List.set_cons_succ] at L
 dsimp only
 go_wp2_with (first|(go_at_call 145;(with_reducible refine (HLD.out _ _ (L.memRow (k:=k+3) (Ac (Ac (Ac HI2.out))) HN2.out n0 n1)).mono ?_);rintro e wz ⟨rfl,rfl⟩)|fail|(refine YL ?_)|((first|refine Yt (Ab Z) ?_|refine YS ?_);clear L;intro wz L))
 exact Yr1 ⟨rfl,L.drop3⟩
theorem tr_lbu {x:Int} (L:Lay w0 w l) (hk:l[k]?=some ⟨g,words xs,25⟩) (hn:xs.length=n) (hc:CpuOk c) (hm:MemOk xs) (hi:i.Good) (ho:i.op=34) (hA0:0≤A) (hA1:A<4294967296) (hAu:(rg c i.b.toNat+i.imm % 4294967296) % 4294967296=A)
    (hr:Ah c xs A 1 2=(a,ys,0)) (hm2:MemOk ys) (hl2:ys.length=n) (ha0:0≤a) (ha1:a<4294967296) (hin:inB ys a 1=true) (hx:Cg ys a 1=x) (_hx0:0≤x) (_hx1:x<256∨34≠33) :
    Calls Tryz.prog 195 #[.agg (Ab c).toArray,.slice (some ⟨g,0,none⟩) n n,.agg (inL i).toArray] w (Bc w0 (l.set k ⟨g,words ys,25⟩) (.agg (Ab ((Bm c i.a (x)).set 16 ((rg c 16+4) % 4294967296))).toArray)):=by
 obtain⟨op,ia,ib,ic,imm⟩:=i
 dsimp only at ho
 subst ho
 have R:=fun l' k' (w:World) (L:Lay w0 w l') hk=>AX (k:=k') (g:=g) (va:=A) (size:=1) (acc:=2) L hk hn hc hm hA0 hA1 (by decide) (by decide) (by decide)
 rw[hr] at R
 have HR:=lh R
 have HN:=lh hn
 have n0:0<n:=by rw[←hn];exact hm.p
 have n1:n≤1024:=by rw[←hn];exact hm.q
 have HI:=lh hk
 have HA:=lh hAu
 have hib0:0≤ib:=hi.b.1
 have hib1:ib<16:=by have:ib≤15:=hi.b.2;omega
 have hia0:0≤ia:=hi.a.1
 have hia1:ia<16:=by have:ia≤15:=hi.a.2;omega
 have hca:(Ab c)[ia.toNat]?=some (.int .u32 (rg c ia.toNat)):=AB hc.len (by omega)
 have hcb:(Ab c)[ib.toNat]?=some (.int .u32 (rg c ib.toNat)):=AB hc.len (by omega)
 have LD:=fun v w h=>BX v ys a 1 w h hm2 ha0 ha1 (by decide) hin
 rw[hx] at LD
 have HLD:=lh LD
 have HI2:=lh (BK hk ⟨g,words ys,25⟩)
 have HN2:=lh hl2
 have ST:=fun w=>CT (w:=w) hc.len ia (x) hia0 (by omega)
 dsimp only
 obtain⟨S,hS⟩:∃ s,Bm c ia (x)=s:=⟨_,rfl⟩
 have hsl:S.length=25:=by rw[←hS];exact Br hc.len _ _
 have hpc:(Ab S)[16]?=some (.int .u32 (rg c 16)):=by rw[←hS,←Ea (show ia≤15 by omega)];rfl
 rw[hS] at ST ⊢
 obtain⟨Z,hZ⟩:∃ z,S.set 16 ((rg c 16+4) % 4294967296)=z:=⟨_,rfl⟩
 have hz:(Ab S).set 16 (.int .u32 ((rg c 16+4) % 4294967296))=Ab Z:=by rw[←hZ];exact Ak hsl _ _
 rw[hZ]
 have HZ:=lh hz
 have HST:=lh ST
 skip
 clear R hk hn hc hm hi hr hAu hA0 hA1 LD hm2 hl2 hin hx hz hZ ST hS hsl
 go_in
 go_wp2_with (first|(refine YL ?_)|(refine YS ?_;clear L;intro wz L))
 refine YQ ?_;clear L;intro wz L
 rw[show (rg c ib.toNat+imm % 4294967296) % 4294967296=A from HA.out]
 go_wp2_with (refine YL ?_)
 refine (HR.out _ (k+3) _ L (Ac (Ac (Ac HI.out)))).mono ?_
 rintro e wz ⟨rfl,Lz⟩
 replace L:=Lz
 clear Lz
 dsimp only at L
 simp only[List.set_cons_succ] at L
 dsimp only
 go_wp2_with (first|(go_at_call 145;(with_reducible refine (HLD.out _ _ (L.memRow (k:=k+3) (Ac (Ac (Ac HI2.out))) HN2.out n0 n1)).mono ?_);rintro e wz ⟨rfl,rfl⟩)|fail|(refine YL ?_)|((first|refine Yt (Ab Z) ?_|refine YS ?_);clear L;intro wz L))
 exact Yr1 ⟨rfl,L.drop3⟩
theorem tr_lb {x:Int} (L:Lay w0 w l) (hk:l[k]?=some ⟨g,words xs,25⟩) (hn:xs.length=n) (hc:CpuOk c) (hm:MemOk xs) (hi:i.Good) (ho:i.op=33) (hA0:0≤A) (hA1:A<4294967296) (hAu:(rg c i.b.toNat+i.imm % 4294967296) % 4294967296=A)
    (hr:Ah c xs A 1 2=(a,ys,0)) (hm2:MemOk ys) (hl2:ys.length=n) (ha0:0≤a) (ha1:a<4294967296) (hin:inB ys a 1=true) (hx:Cg ys a 1=x) (_hx0:0≤x) (_hx1:x<256∨33≠33) :
    Calls Tryz.prog 195 #[.agg (Ab c).toArray,.slice (some ⟨g,0,none⟩) n n,.agg (inL i).toArray] w (Bc w0 (l.set k ⟨g,words ys,25⟩) (.agg (Ab ((Bm c i.a (sx8 x)).set 16 ((rg c 16+4) % 4294967296))).toArray)):=by
 obtain⟨op,ia,ib,ic,imm⟩:=i
 dsimp only at ho
 subst ho
 have R:=fun l' k' (w:World) (L:Lay w0 w l') hk=>AX (k:=k') (g:=g) (va:=A) (size:=1) (acc:=2) L hk hn hc hm hA0 hA1 (by decide) (by decide) (by decide)
 rw[hr] at R
 have HR:=lh R
 have HN:=lh hn
 have n0:0<n:=by rw[←hn];exact hm.p
 have n1:n≤1024:=by rw[←hn];exact hm.q
 have HI:=lh hk
 have HA:=lh hAu
 have hib0:0≤ib:=hi.b.1
 have hib1:ib<16:=by have:ib≤15:=hi.b.2;omega
 have hia0:0≤ia:=hi.a.1
 have hia1:ia<16:=by have:ia≤15:=hi.a.2;omega
 have hca:(Ab c)[ia.toNat]?=some (.int .u32 (rg c ia.toNat)):=AB hc.len (by omega)
 have hcb:(Ab c)[ib.toNat]?=some (.int .u32 (rg c ib.toNat)):=AB hc.len (by omega)
 have LD:=fun v w h=>BX v ys a 1 w h hm2 ha0 ha1 (by decide) hin
 rw[hx] at LD
 have HLD:=lh LD
 have HI2:=lh (BK hk ⟨g,words ys,25⟩)
 have HN2:=lh hl2
 have ST:=fun w=>CT (w:=w) hc.len ia (sx8 x) hia0 (by omega)
 dsimp only
 obtain⟨S,hS⟩:∃ s,Bm c ia (sx8 x)=s:=⟨_,rfl⟩
 have hsl:S.length=25:=by rw[←hS];exact Br hc.len _ _
 have hpc:(Ab S)[16]?=some (.int .u32 (rg c 16)):=by rw[←hS,←Ea (show ia≤15 by omega)];rfl
 rw[hS] at ST ⊢
 obtain⟨Z,hZ⟩:∃ z,S.set 16 ((rg c 16+4) % 4294967296)=z:=⟨_,rfl⟩
 have hz:(Ab S).set 16 (.int .u32 ((rg c 16+4) % 4294967296))=Ab Z:=by rw[←hZ];exact Ak hsl _ _
 rw[hZ]
 have HZ:=lh hz
 have HST:=lh ST
 have HSX:=lh (fun w=>rsext8_any x w _hx0 (by omega))
 clear R hk hn hc hm hi hr hAu hA0 hA1 LD hm2 hl2 hin hx hz hZ ST hS hsl
 go_in
 go_wp2_with (first|(refine YL ?_)|(refine YS ?_;clear L;intro wz L))
 refine YQ ?_;clear L;intro wz L
 rw[show (rg c ib.toNat+imm % 4294967296) % 4294967296=A from HA.out]
 go_wp2_with (refine YL ?_)
 refine (HR.out _ (k+3) _ L (Ac (Ac (Ac HI.out)))).mono ?_
 rintro e wz ⟨rfl,Lz⟩
 replace L:=Lz
 clear Lz
 dsimp only at L
 simp only[List.set_cons_succ] at L
 dsimp only
 go_wp2_with (first|(go_at_call 145;(with_reducible refine (HLD.out _ _ (L.memRow (k:=k+3) (Ac (Ac (Ac HI2.out))) HN2.out n0 n1)).mono ?_);rintro e wz ⟨rfl,rfl⟩)|(refine YL ?_)|((first|refine Yt (Ab Z) ?_|refine YS ?_);clear L;intro wz L))
 exact Yr1 ⟨rfl,L.drop3⟩
theorem tr_sw (L:Lay w0 w l) (hk:l[k]?=some ⟨g,words xs,25⟩) (hn:xs.length=n) (hc:CpuOk c) (hm:MemOk xs) (hi:i.Good) (ho:i.op=35) (hA0:0≤A) (hA1:A<4294967296) (hAu:(rg c i.b.toNat+i.imm % 4294967296) % 4294967296=A)
    (hr:Ah c xs A 4 3=(a,ys,0)) (hm2:MemOk ys) (hl2:ys.length=n) (ha0:0≤a) (ha1:a<4294967296) (hin:inB ys a 4=true) :
    Calls Tryz.prog 195 #[.agg (Ab c).toArray,.slice (some ⟨g,0,none⟩) n n,.agg (inL i).toArray] w (Bc w0 (l.set k ⟨g,words (BO ys a 4 (rg c i.a.toNat)),25⟩) (.agg (Ab (c.set 16 ((rg c 16+4) % 4294967296))).toArray)):=by
 obtain⟨op,ia,ib,ic,imm⟩:=i
 dsimp only at ho
 subst ho
 have R:=fun l' k' (w:World) (L:Lay w0 w l') hk=>AX (k:=k') (g:=g) (va:=A) (size:=4) (acc:=3) L hk hn hc hm hA0 hA1 (by decide) (by decide) (by decide)
 rw[hr] at R
 have HR:=lh R
 have HN:=lh hn
 have n0:0<n:=by rw[←hn];exact hm.p
 have n1:n≤1024:=by rw[←hn];exact hm.q
 have HI:=lh hk
 have HA:=lh hAu
 have hib0:0≤ib:=hi.b.1
 have hib1:ib<16:=by have:ib≤15:=hi.b.2;omega
 have hia0:0≤ia:=hi.a.1
 have hia1:ia<16:=by have:ia≤15:=hi.a.2;omega
 have hca:(Ab c)[ia.toNat]?=some (.int .u32 (rg c ia.toNat)):=AB hc.len (by omega)
 have hcb:(Ab c)[ib.toNat]?=some (.int .u32 (rg c ib.toNat)):=AB hc.len (by omega)
 have HPU:=lh (fun l' k' (w:World) (L:Lay w0 w l') hk=>rput_word (k:=k') (g:=g) L hk hl2 hm2 a (rg c ia.toNat) ha0 ha1 hin (hc.at _).1 (hc.at _).2)
 dsimp only
 generalize BO ys a 4 (rg c ia.toNat)=zs at *
 have HI2:=lh (BK hk ⟨g,words ys,25⟩)
 obtain⟨Z,hZ⟩:∃ z,c.set 16 ((rg c 16+4) % 4294967296)=z:=⟨_,rfl⟩
 have hz:(Ab c).set 16 (.int .u32 ((rg c 16+4) % 4294967296))=Ab Z:=by rw[←hZ];exact Ak hc.len _ _
 rw[hZ]
 have HZ:=lh hz
 clear R hk hn hc hm hi hr hAu hA0 hA1 hm2 hl2 hin hz hZ
 go_in
 go_wp2_with (first|(refine YL ?_)|(refine YS ?_;clear L;intro wz L))
 refine YQ ?_;clear L;intro wz L
 rw[show (rg c ib.toNat+imm % 4294967296) % 4294967296=A from HA.out]
 go_wp2_with (refine YL ?_)
 refine (HR.out _ (k+3) _ L (Ac (Ac (Ac HI.out)))).mono ?_
 rintro e wz ⟨rfl,Lz⟩
 replace L:=Lz
 clear Lz
 dsimp only at L
 simp only[List.set_cons_succ] at L
 dsimp only
 go_wp2_with (refine YL ?_)
 refine (HPU.out _ (k+3) _ L (Ac (Ac (Ac HI2.out)))).mono ?_
 rintro e wz ⟨rfl,Lz⟩
 replace L:=Lz
 clear Lz
 simp only[List.set_cons_succ,List.set_set] at L
 go_wp2_with (first|(refine YL ?_)|((first|refine Yt (Ab Z) ?_|refine YS ?_);clear L;intro wz L))
 exact Yr1 ⟨rfl,L.drop3⟩
theorem tr_sb (L:Lay w0 w l) (hk:l[k]?=some ⟨g,words xs,25⟩) (hn:xs.length=n) (hc:CpuOk c) (hm:MemOk xs) (hi:i.Good) (ho:i.op=36) (hA0:0≤A) (hA1:A<4294967296) (hAu:(rg c i.b.toNat+i.imm % 4294967296) % 4294967296=A)
    (hr:Ah c xs A 1 3=(a,ys,0)) (hm2:MemOk ys) (hl2:ys.length=n) (ha0:0≤a) (ha1:a<4294967296) (hin:inB ys a 1=true) :
    Calls Tryz.prog 195 #[.agg (Ab c).toArray,.slice (some ⟨g,0,none⟩) n n,.agg (inL i).toArray] w (Bc w0 (l.set k ⟨g,words (BO ys a 1 (rg c i.a.toNat)),25⟩) (.agg (Ab (c.set 16 ((rg c 16+4) % 4294967296))).toArray)):=by
 obtain⟨op,ia,ib,ic,imm⟩:=i
 dsimp only at ho
 subst ho
 have R:=fun l' k' (w:World) (L:Lay w0 w l') hk=>AX (k:=k') (g:=g) (va:=A) (size:=1) (acc:=3) L hk hn hc hm hA0 hA1 (by decide) (by decide) (by decide)
 rw[hr] at R
 have HR:=lh R
 have HN:=lh hn
 have n0:0<n:=by rw[←hn];exact hm.p
 have n1:n≤1024:=by rw[←hn];exact hm.q
 have HI:=lh hk
 have HA:=lh hAu
 have hib0:0≤ib:=hi.b.1
 have hib1:ib<16:=by have:ib≤15:=hi.b.2;omega
 have hia0:0≤ia:=hi.a.1
 have hia1:ia<16:=by have:ia≤15:=hi.a.2;omega
 have hca:(Ab c)[ia.toNat]?=some (.int .u32 (rg c ia.toNat)):=AB hc.len (by omega)
 have hcb:(Ab c)[ib.toNat]?=some (.int .u32 (rg c ib.toNat)):=AB hc.len (by omega)
 have HPU:=lh (fun l' k' (w:World) (L:Lay w0 w l') hk=>rput_byte (k:=k') (g:=g) L hk hl2 hm2 a (rg c ia.toNat) ha0 ha1 hin (hc.at _).1 (hc.at _).2)
 dsimp only
 generalize BO ys a 1 (rg c ia.toNat)=zs at *
 have HI2:=lh (BK hk ⟨g,words ys,25⟩)
 obtain⟨Z,hZ⟩:∃ z,c.set 16 ((rg c 16+4) % 4294967296)=z:=⟨_,rfl⟩
 have hz:(Ab c).set 16 (.int .u32 ((rg c 16+4) % 4294967296))=Ab Z:=by rw[←hZ];exact Ak hc.len _ _
 rw[hZ]
 have HZ:=lh hz
 clear R hk hn hc hm hi hr hAu hA0 hA1 hm2 hl2 hin hz hZ
 go_in
 go_wp2_with (first|(refine YL ?_)|(refine YS ?_;clear L;intro wz L))
 refine YQ ?_;clear L;intro wz L
 rw[show (rg c ib.toNat+imm % 4294967296) % 4294967296=A from HA.out]
 go_wp2_with (refine YL ?_)
 refine (HR.out _ (k+3) _ L (Ac (Ac (Ac HI.out)))).mono ?_
 rintro e wz ⟨rfl,Lz⟩
 replace L:=Lz
 clear Lz
 dsimp only at L
 simp only[List.set_cons_succ] at L
 dsimp only
 go_wp2_with (refine YL ?_)
 refine (HPU.out _ (k+3) _ L (Ac (Ac (Ac HI2.out)))).mono ?_
 rintro e wz ⟨rfl,Lz⟩
 replace L:=Lz
 clear Lz
 simp only[List.set_cons_succ,List.set_set] at L
 go_wp2_with (first|(refine YL ?_)|((first|refine Yt (Ab Z) ?_|refine YS ?_);clear L;intro wz L))
 exact Yr1 ⟨rfl,L.drop3⟩
end
end Go.Proofs.YtnmpfmapncicmaaGreat
