/-
  Texts joined: TpRu. No law is proved here.
-/
import Derived.Test.YtnmpfmapncicmaaGreatB35
import Derived.Test.YtnmpfmapncicmaaGreatB31
namespace Go.Proofs.YtnmpfmapncicmaaGreat
set_option linter.all false
set_option maxRecDepth 100000
set_option maxHeartbeats 40000000
open Go.RowKit
def memC (c xs:List Int) (i:In):List Int×List Int:=if i.op≤34 then C3 c xs i else BJ c xs i
section
variable {w0 w:World} {l:List Bx} {k g n:Nat} {xs ys c:List Int} {i:In}
theorem transfer_any (L:Lay w0 w l) (hk:l[k]?=some ⟨g,words xs,25⟩) (hn:xs.length=n) (hc:CpuOk c) (hm:MemOk xs) (hi:i.Good) (h0:32≤i.op) (h1:i.op<40) :
    Calls Tryz.prog 195 #[.agg (Ab c).toArray,.slice (some ⟨g,0,none⟩) n n,.agg (inL i).toArray] w (Bc w0 (l.set k ⟨g,words (memC c xs i).2,25⟩) (.agg (Ab (memC c xs i).1).toArray)):=by
 have hv:=Dd hi.f
 have hA:=As (rg c i.b.toNat+u32 i.imm)
 have hAu:(rg c i.b.toNat+i.imm % 4294967296) % 4294967296=u32 (rg c i.b.toNat+u32 i.imm):=by unfold u32;rw[IntKind.wrap_u32,IntKind.wrap_u32]
 have hpc:BU c=(rg c 16+4) % 4294967296:=by unfold BU u32;rw[IntKind.wrap_u32]
 unfold memC
 rcases (show i.op=32∨i.op=33∨i.op=34∨i.op=35∨i.op=36 by omega) with ho|ho|ho|ho|ho
 · rw[if_pos (by omega)]
   unfold C3
   dsimp only
   rw[show An i.op=4 by rw[ho];rfl,if_neg (show i.op≠33 by omega),hpc]
   obtain⟨hm',_,ha0,ha1,hin,hk0,hk1⟩:=BE (c:=c) (acc:=2) (size:=4) hc hm hA.1 hA.2 (by decide)
   have hl:=Cc c xs (u32 (rg c i.b.toNat+u32 i.imm)) 4 2
   generalize hr:Ah c xs (u32 (rg c i.b.toNat+u32 i.imm)) 4 2=r at *
   obtain⟨a,m',q⟩:=r
   dsimp only at *
   by_cases hq:q=0
   · subst hq
     rw[if_neg (by decide)]
     exact tr_lw L hk hn hc hm hi ho hA.1 hA.2 hAu hr hm' (hl.trans hn) ha0 ha1 (hin rfl) rfl (Ff hm' a 4).1 (.inr (by decide))
   · rw[if_pos hq]
     exact tr_trap_lw L hk hn hc hm hi ho hA.1 hA.2 hAu hr hq hk0 hk1
 · rw[if_pos (by omega)]
   unfold C3
   dsimp only
   rw[show An i.op=1 by rw[ho];rfl,if_pos ho,hpc]
   obtain⟨hm',_,ha0,ha1,hin,hk0,hk1⟩:=BE (c:=c) (acc:=2) (size:=1) hc hm hA.1 hA.2 (by decide)
   have hl:=Cc c xs (u32 (rg c i.b.toNat+u32 i.imm)) 1 2
   generalize hr:Ah c xs (u32 (rg c i.b.toNat+u32 i.imm)) 1 2=r at *
   obtain⟨a,m',q⟩:=r
   dsimp only at *
   by_cases hq:q=0
   · subst hq
     rw[if_neg (by decide)]
     exact tr_lb L hk hn hc hm hi ho hA.1 hA.2 hAu hr hm' (hl.trans hn) ha0 ha1 (hin rfl) rfl (Ff hm' a 1).1 (.inl ((Ff hm' a 1).2.2 rfl))
   · rw[if_pos hq]
     exact tr_trap_lb L hk hn hc hm hi ho hA.1 hA.2 hAu hr hq hk0 hk1
 · rw[if_pos (by omega)]
   unfold C3
   dsimp only
   rw[show An i.op=1 by rw[ho];rfl,if_neg (show i.op≠33 by omega),hpc]
   obtain⟨hm',_,ha0,ha1,hin,hk0,hk1⟩:=BE (c:=c) (acc:=2) (size:=1) hc hm hA.1 hA.2 (by decide)
   have hl:=Cc c xs (u32 (rg c i.b.toNat+u32 i.imm)) 1 2
   generalize hr:Ah c xs (u32 (rg c i.b.toNat+u32 i.imm)) 1 2=r at *
   obtain⟨a,m',q⟩:=r
   dsimp only at *
   by_cases hq:q=0
   · subst hq
     rw[if_neg (by decide)]
     exact tr_lbu L hk hn hc hm hi ho hA.1 hA.2 hAu hr hm' (hl.trans hn) ha0 ha1 (hin rfl) rfl (Ff hm' a 1).1 (.inr (by decide))
   · rw[if_pos hq]
     exact tr_trap_lbu L hk hn hc hm hi ho hA.1 hA.2 hAu hr hq hk0 hk1
 · rw[if_neg (by omega)]
   unfold BJ
   dsimp only
   rw[show An i.op=4 by rw[ho];rfl,hpc]
   obtain⟨hm',_,ha0,ha1,hin,hk0,hk1⟩:=BE (c:=c) (acc:=3) (size:=4) hc hm hA.1 hA.2 (by decide)
   have hl:=Cc c xs (u32 (rg c i.b.toNat+u32 i.imm)) 4 3
   generalize hr:Ah c xs (u32 (rg c i.b.toNat+u32 i.imm)) 4 3=r at *
   obtain⟨a,m',q⟩:=r
   dsimp only at *
   by_cases hq:q=0
   · subst hq
     rw[if_neg (by decide)]
     exact tr_sw L hk hn hc hm hi ho hA.1 hA.2 hAu hr hm' (hl.trans hn) ha0 ha1 (hin rfl)
   · rw[if_pos hq]
     exact tr_trap_sw L hk hn hc hm hi ho hA.1 hA.2 hAu hr hq hk0 hk1
 · rw[if_neg (by omega)]
   unfold BJ
   dsimp only
   rw[show An i.op=1 by rw[ho];rfl,hpc]
   obtain⟨hm',_,ha0,ha1,hin,hk0,hk1⟩:=BE (c:=c) (acc:=3) (size:=1) hc hm hA.1 hA.2 (by decide)
   have hl:=Cc c xs (u32 (rg c i.b.toNat+u32 i.imm)) 1 3
   generalize hr:Ah c xs (u32 (rg c i.b.toNat+u32 i.imm)) 1 3=r at *
   obtain⟨a,m',q⟩:=r
   dsimp only at *
   by_cases hq:q=0
   · subst hq
     rw[if_neg (by decide)]
     exact tr_sb L hk hn hc hm hi ho hA.1 hA.2 hAu hr hm' (hl.trans hn) ha0 ha1 (hin rfl)
   · rw[if_pos hq]
     exact tr_trap_sb L hk hn hc hm hi ho hA.1 hA.2 hAu hr hq hk0 hk1
theorem do_fault {a q x:Int} (L:Lay w0 w l) (hk:l[k]?=some ⟨g,words xs,25⟩) (hn:xs.length=n) (hc:CpuOk c) (hm:MemOk xs) (hr:Ah c xs (rg c 16) 4 1=(a,ys,q)) (hq:q≠0) (hq0:0≤q) (hq1:q<4294967296) :
    Calls Tryz.prog 147 #[.agg (Ab c).toArray,.slice (some ⟨g,0,none⟩) n n] w (Bc w0 (l.set k ⟨g,words (ys),25⟩) (.tuple #[.agg (Ab (AN c q (rg c 16))).toArray,efV (ef0)])):=by
 have R:=fun l' k' (w:World) (L:Lay w0 w l') hk=>AX (k:=k') (g:=g) (va:=rg c 16) (size:=4) (acc:=1) L hk hn hc hm (hc.at 16).1 (hc.at 16).2 (by decide) (by decide) (by decide)
 rw[hr] at R
 have HR:=lh R
 have n0:0<n:=by rw[←hn];exact hm.p
 have n1:n≤1024:=by rw[←hn];exact hm.q
 have HI:=lh hk
 have T:=fun w=>C6 (w:=w) hc q (rg c 16) hq0 hq1
 have hqb:(q != 0)=true:=by rw[bne_iff_ne];exact hq
 generalize AN c q (rg c 16)=Z at *
 have HT:=lh T
 clear R hk hn hc hm hr hq T
 go_in
 go_wp2_with (first|(refine YL ?_)|(refine YS ?_;clear L;intro wz L))
 refine (HR.out _ (k+3) _ L (Ac (Ac (Ac HI.out)))).mono ?_
 rintro e wz ⟨rfl,Lz⟩
 replace L:=Lz
 clear Lz
 dsimp only at L
 simp only[List.set_cons_succ] at L
 dsimp only
 go_wp2_with (first|(refine YL ?_)|(refine YS ?_;clear L;intro wz L))
 exact Yr2 ⟨rfl,L.drop3⟩
theorem do_none {a q x:Int} (L:Lay w0 w l) (hk:l[k]?=some ⟨g,words xs,25⟩) (hn:xs.length=n) (hc:CpuOk c) (hm:MemOk xs) (hr:Ah c xs (rg c 16) 4 1=(a,ys,q)) (hm2:MemOk ys) (hl2:ys.length=n) (ha0:0≤a) (ha1:a<4294967296) (hin:inB ys a 4=true) (hq:q=0) (hx:Cg ys a 4=x) (hx0:0≤x) (hx1:x<4294967296) (hd:C9 x=none) :
    Calls Tryz.prog 147 #[.agg (Ab c).toArray,.slice (some ⟨g,0,none⟩) n n] w (Bc w0 (l.set k ⟨g,words (ys),25⟩) (.tuple #[.agg (Ab (AN c 1 x)).toArray,efV (ef0)])):=by
 have R:=fun l' k' (w:World) (L:Lay w0 w l') hk=>AX (k:=k') (g:=g) (va:=rg c 16) (size:=4) (acc:=1) L hk hn hc hm (hc.at 16).1 (hc.at 16).2 (by decide) (by decide) (by decide)
 rw[hr] at R
 have HR:=lh R
 have n0:0<n:=by rw[←hn];exact hm.p
 have n1:n≤1024:=by rw[←hn];exact hm.q
 have HI:=lh hk
 subst hq
 have LD:=fun v w h=>BX v ys a 4 w h hm2 ha0 ha1 (.inr rfl) hin
 rw[hx] at LD
 have HLD:=lh LD
 have HI2:=lh (BK hk ⟨g,words ys,25⟩)
 have HN2:=lh hl2
 have DE:=fun w=>Cd x w hx0 hx1
 rw[hd] at DE
 have DE2:∀ w,Calls Tryz.prog 146 #[.int .u32 x] w (Ret w (.tuple #[.agg (inL inZ).toArray,.bool false])):=DE
 have HDE:=lh DE2
 clear DE2
 have T:=fun w=>C6 (w:=w) hc 1 x (by decide) (by decide)
 generalize AN c 1 x=Z at *
 have HT:=lh T
 clear R hk hn hc hm hr T LD hm2 hl2 ha0 ha1 hin hx hx0 hx1 DE hd
 go_in
 go_wp2_with (first|(refine YL ?_)|(refine YS ?_;clear L;intro wz L))
 refine (HR.out _ (k+3) _ L (Ac (Ac (Ac HI.out)))).mono ?_
 rintro e wz ⟨rfl,Lz⟩
 replace L:=Lz
 clear Lz
 dsimp only at L
 simp only[List.set_cons_succ] at L
 dsimp only
 go_wp2_with (first|(go_at_call 145;(with_reducible refine (HLD.out _ _ (L.memRow (k:=k+3) (Ac (Ac (Ac HI2.out))) HN2.out n0 n1)).mono ?_);rintro e wz ⟨rfl,rfl⟩)|(refine YL ?_)|(refine YS ?_;clear L;intro wz L))
 exact Yr2 ⟨rfl,L.drop3.drop1⟩
theorem do_priv {a q x:Int} (L:Lay w0 w l) (hk:l[k]?=some ⟨g,words xs,25⟩) (hn:xs.length=n) (hc:CpuOk c) (hm:MemOk xs) (hr:Ah c xs (rg c 16) 4 1=(a,ys,q)) (hm2:MemOk ys) (hl2:ys.length=n) (ha0:0≤a) (ha1:a<4294967296) (hin:inB ys a 4=true) (hq:q=0) (hx:Cg ys a 4=x) (hx0:0≤x) (hx1:x<4294967296) (hd:C9 x=some i) (hi:i.Good) (hp:BP i.op=true) (hkn:(rg c 17 % 2 == 0)=true) :
    Calls Tryz.prog 147 #[.agg (Ab c).toArray,.slice (some ⟨g,0,none⟩) n n] w (Bc w0 (l.set k ⟨g,words (ys),25⟩) (.tuple #[.agg (Ab (AN c 2 x)).toArray,efV (ef0)])):=by
 have R:=fun l' k' (w:World) (L:Lay w0 w l') hk=>AX (k:=k') (g:=g) (va:=rg c 16) (size:=4) (acc:=1) L hk hn hc hm (hc.at 16).1 (hc.at 16).2 (by decide) (by decide) (by decide)
 rw[hr] at R
 have HR:=lh R
 have n0:0<n:=by rw[←hn];exact hm.p
 have n1:n≤1024:=by rw[←hn];exact hm.q
 have HI:=lh hk
 subst hq
 have LD:=fun v w h=>BX v ys a 4 w h hm2 ha0 ha1 (.inr rfl) hin
 rw[hx] at LD
 have HLD:=lh LD
 have HI2:=lh (BK hk ⟨g,words ys,25⟩)
 have HN2:=lh hl2
 have DE:=fun w=>Cd x w hx0 hx1
 rw[hd] at DE
 have DE2:∀ w,Calls Tryz.prog 146 #[.int .u32 x] w (Ret w (.tuple #[.agg (inL i).toArray,.bool true])):=DE
 have HDE:=lh DE2
 clear DE2
 have HP:=lh (fun w=>Dz i.op w)
 have k1:=and1 (hc.at 17).1 (hc.at 17).2
 rw[hp] at HP
 have T:=fun w=>C6 (w:=w) hc 2 x (by decide) (by decide)
 generalize AN c 2 x=Z at *
 have HT:=lh T
 clear R hk hn hc hm hr LD hm2 hl2 ha0 ha1 hin hx hx0 hx1 DE hd
 clear hp hi T
 go_in
 go_wp2_with (first|(refine YL ?_)|(refine YS ?_;clear L;intro wz L))
 refine (HR.out _ (k+3) _ L (Ac (Ac (Ac HI.out)))).mono ?_
 rintro e wz ⟨rfl,Lz⟩
 replace L:=Lz
 clear Lz
 dsimp only at L
 simp only[List.set_cons_succ] at L
 dsimp only
 go_wp2_with (first|(go_at_call 145;(with_reducible refine (HLD.out _ _ (L.memRow (k:=k+3) (Ac (Ac (Ac HI2.out))) HN2.out n0 n1)).mono ?_);rintro e wz ⟨rfl,rfl⟩)|(refine YL ?_)|(refine YS ?_;clear L;intro wz L))
 exact Yr2 ⟨rfl,L.drop3.drop1⟩
theorem Xz15 {P:Prop} (h:P:=by
  go_in
  go_wp2_with (first|(refine YL ?_)|(refine YS ?_;clear L;intro wz L))
  refine (HR.out _ (k+3) _ L (Ac (Ac (Ac HI.out)))).mono ?_
  rintro e wz ⟨rfl,Lz⟩
  replace L:=Lz
  clear Lz
  dsimp only at L
  simp only[List.set_cons_succ] at L
  dsimp only
  go_wp2_with (first|(go_at_call 145;(with_reducible refine (HLD.out _ _ (L.memRow (k:=k+3) (Ac (Ac (Ac HI2.out))) HN2.out n0 n1)).mono ?_);rintro e wz ⟨rfl,rfl⟩)|(refine YL ?_)|(refine YS ?_;clear L;intro wz L))
  exact Yr2 ⟨rfl,L.drop3.drop1⟩):P:=h
theorem do_sys {a q x:Int} (L:Lay w0 w l) (hk:l[k]?=some ⟨g,words xs,25⟩) (hn:xs.length=n) (hc:CpuOk c) (hm:MemOk xs) (hr:Ah c xs (rg c 16) 4 1=(a,ys,q)) (hm2:MemOk ys) (hl2:ys.length=n) (ha0:0≤a) (ha1:a<4294967296) (hin:inB ys a 4=true) (hq:q=0) (hx:Cg ys a 4=x) (hx0:0≤x) (hx1:x<4294967296) (hd:C9 x=some i) (hi:i.Good) (hp:(BP i.op && (rg c 17 % 2 == 0))=false) (ho:56≤i.op) :
    Calls Tryz.prog 147 #[.agg (Ab c).toArray,.slice (some ⟨g,0,none⟩) n n] w (Bc w0 (l.set k ⟨g,words (ys),25⟩) (.tuple #[.agg (Ab ((Ap c i).1)).toArray,efV ((Ap c i).2)])):=by
 have R:=fun l' k' (w:World) (L:Lay w0 w l') hk=>AX (k:=k') (g:=g) (va:=rg c 16) (size:=4) (acc:=1) L hk hn hc hm (hc.at 16).1 (hc.at 16).2 (by decide) (by decide) (by decide)
 rw[hr] at R
 have HR:=lh R
 have n0:0<n:=by rw[←hn];exact hm.p
 have n1:n≤1024:=by rw[←hn];exact hm.q
 have HI:=lh hk
 subst hq
 have LD:=fun v w h=>BX v ys a 4 w h hm2 ha0 ha1 (.inr rfl) hin
 rw[hx] at LD
 have HLD:=lh LD
 have HI2:=lh (BK hk ⟨g,words ys,25⟩)
 have HN2:=lh hl2
 have DE:=fun w=>Cd x w hx0 hx1
 rw[hd] at DE
 have DE2:∀ w,Calls Tryz.prog 146 #[.int .u32 x] w (Ret w (.tuple #[.agg (inL i).toArray,.bool true])):=DE
 have HDE:=lh DE2
 clear DE2
 have HP:=lh (fun w=>Dz i.op w)
 have k1:=and1 (hc.at 17).1 (hc.at 17).2
 have SY:=fun w=>system_any (w:=w) hc hi ho
 generalize (Ap c i).1=Z at *
 generalize (Ap c i).2=ee at *
 have HSY:=lh SY
 clear R hk hn hc hm hr LD hm2 hl2 ha0 ha1 hin hx hx0 hx1 DE hd
 clear hi SY
 obtain⟨b1,hb1⟩:∃ b,BP i.op=b:=⟨_,rfl⟩
 obtain⟨b2,hb2⟩:∃ b,(rg c 17 % 2 == 0)=b:=⟨_,rfl⟩
 rw[hb1] at HP
 rw[hb1,hb2] at hp
 clear hb1
 cases b1
 · clear hp hb2
   exact Xz15
 · cases b2
   · clear hp
     exact Xz15
   · cases hp
theorem do_jump {a q x:Int} (L:Lay w0 w l) (hk:l[k]?=some ⟨g,words xs,25⟩) (hn:xs.length=n) (hc:CpuOk c) (hm:MemOk xs) (hr:Ah c xs (rg c 16) 4 1=(a,ys,q)) (hm2:MemOk ys) (hl2:ys.length=n) (ha0:0≤a) (ha1:a<4294967296) (hin:inB ys a 4=true) (hq:q=0) (hx:Cg ys a 4=x) (hx0:0≤x) (hx1:x<4294967296) (hd:C9 x=some i) (hi:i.Good) (hp:(BP i.op && (rg c 17 % 2 == 0))=false) (ho:40≤i.op) (ho2:i.op<56) :
    Calls Tryz.prog 147 #[.agg (Ab c).toArray,.slice (some ⟨g,0,none⟩) n n] w (Bc w0 (l.set k ⟨g,words (ys),25⟩) (.tuple #[.agg (Ab ((Ap c i).1)).toArray,efV (ef0)])):=by
 have R:=fun l' k' (w:World) (L:Lay w0 w l') hk=>AX (k:=k') (g:=g) (va:=rg c 16) (size:=4) (acc:=1) L hk hn hc hm (hc.at 16).1 (hc.at 16).2 (by decide) (by decide) (by decide)
 rw[hr] at R
 have HR:=lh R
 have n0:0<n:=by rw[←hn];exact hm.p
 have n1:n≤1024:=by rw[←hn];exact hm.q
 have HI:=lh hk
 subst hq
 have LD:=fun v w h=>BX v ys a 4 w h hm2 ha0 ha1 (.inr rfl) hin
 rw[hx] at LD
 have HLD:=lh LD
 have HI2:=lh (BK hk ⟨g,words ys,25⟩)
 have HN2:=lh hl2
 have DE:=fun w=>Cd x w hx0 hx1
 rw[hd] at DE
 have DE2:∀ w,Calls Tryz.prog 146 #[.int .u32 x] w (Ret w (.tuple #[.agg (inL i).toArray,.bool true])):=DE
 have HDE:=lh DE2
 clear DE2
 have HP:=lh (fun w=>Dz i.op w)
 have k1:=and1 (hc.at 17).1 (hc.at 17).2
 have SY:=fun w=>jump_any (w:=w) hc hi ho ho2
 generalize (Ap c i).1=Z at *
 have HSY:=lh SY
 clear R hk hn hc hm hr LD hm2 hl2 ha0 ha1 hin hx hx0 hx1 DE hd
 clear hi SY
 obtain⟨b1,hb1⟩:∃ b,BP i.op=b:=⟨_,rfl⟩
 obtain⟨b2,hb2⟩:∃ b,(rg c 17 % 2 == 0)=b:=⟨_,rfl⟩
 rw[hb1] at HP
 rw[hb1,hb2] at hp
 clear hb1
 cases b1
 · clear hp hb2
   exact Xz15
 · cases b2
   · clear hp
     exact Xz15
   · cases hp
theorem Xz39 {P:Prop} (h:P:=by
  go_in
  go_wp2_with (first|(refine YL ?_)|(refine YS ?_;clear L;intro wz L))
  refine (HR.out _ (k+3) _ L (Ac (Ac (Ac HI.out)))).mono ?_
  rintro e wz ⟨rfl,Lz⟩
  replace L:=Lz
  clear Lz
  dsimp only at L
  simp only[List.set_cons_succ] at L
  dsimp only
  go_wp2_with (first|(go_at_call 145;(with_reducible refine (HLD.out _ _ (L.memRow (k:=k+3) (Ac (Ac (Ac HI2.out))) HN2.out n0 n1)).mono ?_);rintro e wz ⟨rfl,rfl⟩)|(refine YL ?_)|(refine YS ?_;clear L;intro wz L))
  refine (HTR.out _ (k+4) _ L (Ac (Ac (Ac (Ac HI2.out))))).mono ?_
  rintro e wz ⟨rfl,Lz⟩
  replace L:=Lz
  clear Lz
  simp only[List.set_cons_succ,List.set_set] at L
  go_wp2_with (refine YS ?_;clear L;intro wz L)
  exact Yr2 ⟨rfl,L.drop3.drop1⟩):P:=h
theorem do_mem {a q x:Int} (L:Lay w0 w l) (hk:l[k]?=some ⟨g,words xs,25⟩) (hn:xs.length=n) (hc:CpuOk c) (hm:MemOk xs) (hr:Ah c xs (rg c 16) 4 1=(a,ys,q)) (hm2:MemOk ys) (hl2:ys.length=n) (ha0:0≤a) (ha1:a<4294967296) (hin:inB ys a 4=true) (hq:q=0) (hx:Cg ys a 4=x) (hx0:0≤x) (hx1:x<4294967296) (hd:C9 x=some i) (hi:i.Good) (hp:(BP i.op && (rg c 17 % 2 == 0))=false) (ho:32≤i.op) (ho2:i.op<40) :
    Calls Tryz.prog 147 #[.agg (Ab c).toArray,.slice (some ⟨g,0,none⟩) n n] w (Bc w0 (l.set k ⟨g,words ((memC c ys i).2),25⟩) (.tuple #[.agg (Ab ((memC c ys i).1)).toArray,efV (ef0)])):=by
 have R:=fun l' k' (w:World) (L:Lay w0 w l') hk=>AX (k:=k') (g:=g) (va:=rg c 16) (size:=4) (acc:=1) L hk hn hc hm (hc.at 16).1 (hc.at 16).2 (by decide) (by decide) (by decide)
 rw[hr] at R
 have HR:=lh R
 have n0:0<n:=by rw[←hn];exact hm.p
 have n1:n≤1024:=by rw[←hn];exact hm.q
 have HI:=lh hk
 subst hq
 have LD:=fun v w h=>BX v ys a 4 w h hm2 ha0 ha1 (.inr rfl) hin
 rw[hx] at LD
 have HLD:=lh LD
 have HI2:=lh (BK hk ⟨g,words ys,25⟩)
 have HN2:=lh hl2
 have DE:=fun w=>Cd x w hx0 hx1
 rw[hd] at DE
 have DE2:∀ w,Calls Tryz.prog 146 #[.int .u32 x] w (Ret w (.tuple #[.agg (inL i).toArray,.bool true])):=DE
 have HDE:=lh DE2
 clear DE2
 have HP:=lh (fun w=>Dz i.op w)
 have k1:=and1 (hc.at 17).1 (hc.at 17).2
 have HTR:=lh (fun l' k' (w:World) (L:Lay w0 w l') hk=>transfer_any (k:=k') (g:=g) L hk hl2 hc hm2 hi ho ho2)
 generalize (memC c ys i).1=Z at *
 generalize (memC c ys i).2=zs at *
 clear R hk hn hc hm hr LD hm2 hl2 ha0 ha1 hin hx hx0 hx1 DE hd
 clear hi
 obtain⟨b1,hb1⟩:∃ b,BP i.op=b:=⟨_,rfl⟩
 obtain⟨b2,hb2⟩:∃ b,(rg c 17 % 2 == 0)=b:=⟨_,rfl⟩
 rw[hb1] at HP
 rw[hb1,hb2] at hp
 clear hb1
 cases b1
 · clear hp hb2
   exact Xz39
 · cases b2
   · clear hp
     exact Xz39
   · cases hp
theorem do_lui {a q x:Int} (L:Lay w0 w l) (hk:l[k]?=some ⟨g,words xs,25⟩) (hn:xs.length=n) (hc:CpuOk c) (hm:MemOk xs) (hr:Ah c xs (rg c 16) 4 1=(a,ys,q)) (hm2:MemOk ys) (hl2:ys.length=n) (ha0:0≤a) (ha1:a<4294967296) (hin:inB ys a 4=true) (hq:q=0) (hx:Cg ys a 4=x) (hx0:0≤x) (hx1:x<4294967296) (hd:C9 x=some i) (hi:i.Good) (hp:BP i.op=false) (ho:i.op=24) :
    Calls Tryz.prog 147 #[.agg (Ab c).toArray,.slice (some ⟨g,0,none⟩) n n] w (Bc w0 (l.set k ⟨g,words (ys),25⟩) (.tuple #[.agg (Ab ((Bm c i.a (i.imm % 4294967296*65536 % 4294967296)).set 16 ((rg c 16+4) % 4294967296))).toArray,efV (ef0)])):=by
 have R:=fun l' k' (w:World) (L:Lay w0 w l') hk=>AX (k:=k') (g:=g) (va:=rg c 16) (size:=4) (acc:=1) L hk hn hc hm (hc.at 16).1 (hc.at 16).2 (by decide) (by decide) (by decide)
 rw[hr] at R
 have HR:=lh R
 have n0:0<n:=by rw[←hn];exact hm.p
 have n1:n≤1024:=by rw[←hn];exact hm.q
 have HI:=lh hk
 subst hq
 have LD:=fun v w h=>BX v ys a 4 w h hm2 ha0 ha1 (.inr rfl) hin
 rw[hx] at LD
 have HLD:=lh LD
 have HI2:=lh (BK hk ⟨g,words ys,25⟩)
 have HN2:=lh hl2
 have DE:=fun w=>Cd x w hx0 hx1
 rw[hd] at DE
 have DE2:∀ w,Calls Tryz.prog 146 #[.int .u32 x] w (Ret w (.tuple #[.agg (inL i).toArray,.bool true])):=DE
 have HDE:=lh DE2
 clear DE2
 have HP:=lh (fun w=>Dz i.op w)
 have k1:=and1 (hc.at 17).1 (hc.at 17).2
 rw[hp] at HP
 have hia0:=hi.a.1
 have hia1:i.a<16:=by have:=hi.a.2;omega
 have ST:=fun w=>CT (w:=w) hc.len i.a (i.imm % 4294967296*65536 % 4294967296) hia0 hia1
 obtain⟨S,hS⟩:∃ s,Bm c i.a (i.imm % 4294967296*65536 % 4294967296)=s:=⟨_,rfl⟩
 have hsl:S.length=25:=by rw[←hS];exact Br hc.len _ _
 have hpc:(Ab S)[16]?=some (.int .u32 (rg c 16)):=by rw[←hS,←Ea (show i.a≤15 by omega)];rfl
 rw[hS] at ST ⊢
 obtain⟨Z,hZ⟩:∃ z,S.set 16 ((rg c 16+4) % 4294967296)=z:=⟨_,rfl⟩
 have hz:(Ab S).set 16 (.int .u32 ((rg c 16+4) % 4294967296))=Ab Z:=by rw[←hZ];exact Ak hsl _ _
 rw[hZ]
 have HZ:=lh hz
 have HST:=lh ST
 have hop:(inL i)[0]?=some (.int .i64 24):=by rw[←ho];rfl
 rw[ho] at HP
 clear R hk hn hc hm hr LD hm2 hl2 ha0 ha1 hin hx hx0 hx1 DE hd
 clear hp ST hS hsl hz hZ hi ho
 go_in
 go_wp2_with (first|(refine YL ?_)|(refine YS ?_;clear L;intro wz L))
 refine (HR.out _ (k+3) _ L (Ac (Ac (Ac HI.out)))).mono ?_
 rintro e wz ⟨rfl,Lz⟩
 replace L:=Lz
 clear Lz
 dsimp only at L
 simp only[List.set_cons_succ] at L
 dsimp only
 go_wp2_with (first|(go_at_call 145;(with_reducible refine (HLD.out _ _ (L.memRow (k:=k+3) (Ac (Ac (Ac HI2.out))) HN2.out n0 n1)).mono ?_);rintro e wz ⟨rfl,rfl⟩)|(refine YL ?_)|((first|refine Yt (Ab Z) ?_|refine YS ?_);clear L;intro wz L))
 exact Yr2 ⟨rfl,L.drop3.drop1⟩
theorem do_alu3 {a q x:Int} (L:Lay w0 w l) (hk:l[k]?=some ⟨g,words xs,25⟩) (hn:xs.length=n) (hc:CpuOk c) (hm:MemOk xs) (hr:Ah c xs (rg c 16) 4 1=(a,ys,q)) (hm2:MemOk ys) (hl2:ys.length=n) (ha0:0≤a) (ha1:a<4294967296) (hin:inB ys a 4=true) (hq:q=0) (hx:Cg ys a 4=x) (hx0:0≤x) (hx1:x<4294967296) (hd:C9 x=some i) (hi:i.Good) (hp:BP i.op=false) (ho:i.op≤13) :
    Calls Tryz.prog 147 #[.agg (Ab c).toArray,.slice (some ⟨g,0,none⟩) n n] w (Bc w0 (l.set k ⟨g,words (ys),25⟩) (.tuple #[.agg (Ab ((Bm c i.a (AC i.op (rg c i.b.toNat) (rg c i.c.toNat))).set 16 ((rg c 16+4) % 4294967296))).toArray,efV (ef0)])):=by
 have R:=fun l' k' (w:World) (L:Lay w0 w l') hk=>AX (k:=k') (g:=g) (va:=rg c 16) (size:=4) (acc:=1) L hk hn hc hm (hc.at 16).1 (hc.at 16).2 (by decide) (by decide) (by decide)
 rw[hr] at R
 have HR:=lh R
 have n0:0<n:=by rw[←hn];exact hm.p
 have n1:n≤1024:=by rw[←hn];exact hm.q
 have HI:=lh hk
 subst hq
 have LD:=fun v w h=>BX v ys a 4 w h hm2 ha0 ha1 (.inr rfl) hin
 rw[hx] at LD
 have HLD:=lh LD
 have HI2:=lh (BK hk ⟨g,words ys,25⟩)
 have HN2:=lh hl2
 have DE:=fun w=>Cd x w hx0 hx1
 rw[hd] at DE
 have DE2:∀ w,Calls Tryz.prog 146 #[.int .u32 x] w (Ret w (.tuple #[.agg (inL i).toArray,.bool true])):=DE
 have HDE:=lh DE2
 clear DE2
 have HP:=lh (fun w=>Dz i.op w)
 have k1:=and1 (hc.at 17).1 (hc.at 17).2
 rw[hp] at HP
 have hv:=Dd hi.f
 have hib0:=hi.b.1
 have hib1:i.b<16:=by have:=hi.b.2;omega
 have hic0:=hi.c.1
 have hic1:i.c<16:=by have:=hi.c.2;omega
 have hcb:(Ab c)[i.b.toNat]?=some (.int .u32 (rg c i.b.toNat)):=AB hc.len (by omega)
 have hcc:(Ab c)[i.c.toNat]?=some (.int .u32 (rg c i.c.toNat)):=AB hc.len (by omega)
 have AL:=fun w=>ralu_any i.op (rg c i.b.toNat) (rg c i.c.toNat) w (by omega) (hc.at _).1 (hc.at _).2 (hc.at _).1 (hc.at _).2
 obtain⟨y,hy⟩:∃ y,AC i.op (rg c i.b.toNat) (rg c i.c.toNat)=y:=⟨_,rfl⟩
 rw[hy] at AL ⊢
 have HAL:=lh AL
 have hia0:=hi.a.1
 have hia1:i.a<16:=by have:=hi.a.2;omega
 have ST:=fun w=>CT (w:=w) hc.len i.a (y) hia0 hia1
 obtain⟨S,hS⟩:∃ s,Bm c i.a (y)=s:=⟨_,rfl⟩
 have hsl:S.length=25:=by rw[←hS];exact Br hc.len _ _
 have hpc:(Ab S)[16]?=some (.int .u32 (rg c 16)):=by rw[←hS,←Ea (show i.a≤15 by omega)];rfl
 rw[hS] at ST ⊢
 obtain⟨Z,hZ⟩:∃ z,S.set 16 ((rg c 16+4) % 4294967296)=z:=⟨_,rfl⟩
 have hz:(Ab S).set 16 (.int .u32 ((rg c 16+4) % 4294967296))=Ab Z:=by rw[←hZ];exact Ak hsl _ _
 rw[hZ]
 have HZ:=lh hz
 have HST:=lh ST
 have h24:(i.op == 24)=false:=by rw[beq_eq_false_iff_ne];omega
 clear R hk hn hc hm hr LD hm2 hl2 ha0 ha1 hin hx hx0 hx1 DE hd
 clear hp ST hS hsl hz hZ hi hv AL hy
 go_in
 go_wp2_with (first|(refine YL ?_)|(refine YS ?_;clear L;intro wz L))
 refine (HR.out _ (k+3) _ L (Ac (Ac (Ac HI.out)))).mono ?_
 rintro e wz ⟨rfl,Lz⟩
 replace L:=Lz
 clear Lz
 dsimp only at L
 simp only[List.set_cons_succ] at L
 dsimp only
 go_wp2_with (first|(go_at_call 145;(with_reducible refine (HLD.out _ _ (L.memRow (k:=k+3) (Ac (Ac (Ac HI2.out))) HN2.out n0 n1)).mono ?_);rintro e wz ⟨rfl,rfl⟩)|(refine YL ?_)|(refine YS ?_;clear L;intro wz L))
 (try simp only[Act.put,q4,s0,s1])
 refine wp_region_quiet_below (by kernel_rfl) (by kernel_rfl) ?_
 repeat (first|(go_big_quiet_want;(first|fail|(refine zlq τ3 L 0 ?_)|(refine AK (ty:=25) L (fun _ h=>Aa h) 3 rfl rfl rfl τ25 rfl hcb ?_));go_big_quiet_on;(try simp only[Act.put,q4,s0,s1]))|go_big_quiet_step (first|fail|(go_at_call 196;exact A9 (HAL.out _))))
 refine wpQuiet_nil ?_
 intro wz hwz
 replace L:=L.below (Aa hwz)
 clear hwz
 go_wp2_with (first|(refine YL ?_)|((first|refine Yt (Ab Z) ?_|refine YS ?_);clear L;intro wz L))
 exact Yr2 ⟨rfl,L.drop3.drop1⟩
theorem do_alui {a q x:Int} (L:Lay w0 w l) (hk:l[k]?=some ⟨g,words xs,25⟩) (hn:xs.length=n) (hc:CpuOk c) (hm:MemOk xs) (hr:Ah c xs (rg c 16) 4 1=(a,ys,q)) (hm2:MemOk ys) (hl2:ys.length=n) (ha0:0≤a) (ha1:a<4294967296) (hin:inB ys a 4=true) (hq:q=0) (hx:Cg ys a 4=x) (hx0:0≤x) (hx1:x<4294967296) (hd:C9 x=some i) (hi:i.Good) (hp:BP i.op=false) (ho:13<i.op) (ho2:i.op<24) :
    Calls Tryz.prog 147 #[.agg (Ab c).toArray,.slice (some ⟨g,0,none⟩) n n] w (Bc w0 (l.set k ⟨g,words (ys),25⟩) (.tuple #[.agg (Ab ((Bm c i.a (AC i.op (rg c i.b.toNat) (i.imm % 4294967296))).set 16 ((rg c 16+4) % 4294967296))).toArray,efV (ef0)])):=by
 have R:=fun l' k' (w:World) (L:Lay w0 w l') hk=>AX (k:=k') (g:=g) (va:=rg c 16) (size:=4) (acc:=1) L hk hn hc hm (hc.at 16).1 (hc.at 16).2 (by decide) (by decide) (by decide)
 rw[hr] at R
 have HR:=lh R
 have n0:0<n:=by rw[←hn];exact hm.p
 have n1:n≤1024:=by rw[←hn];exact hm.q
 have HI:=lh hk
 subst hq
 have LD:=fun v w h=>BX v ys a 4 w h hm2 ha0 ha1 (.inr rfl) hin
 rw[hx] at LD
 have HLD:=lh LD
 have HI2:=lh (BK hk ⟨g,words ys,25⟩)
 have HN2:=lh hl2
 have DE:=fun w=>Cd x w hx0 hx1
 rw[hd] at DE
 have DE2:∀ w,Calls Tryz.prog 146 #[.int .u32 x] w (Ret w (.tuple #[.agg (inL i).toArray,.bool true])):=DE
 have HDE:=lh DE2
 clear DE2
 have HP:=lh (fun w=>Dz i.op w)
 have k1:=and1 (hc.at 17).1 (hc.at 17).2
 rw[hp] at HP
 have hv:=Dd hi.f
 have hib0:=hi.b.1
 have hib1:i.b<16:=by have:=hi.b.2;omega
 have hcb:(Ab c)[i.b.toNat]?=some (.int .u32 (rg c i.b.toNat)):=AB hc.len (by omega)
 have AL:=fun w=>ralu_any i.op (rg c i.b.toNat) (i.imm % 4294967296) w (by omega) (hc.at _).1 (hc.at _).2 (by omega) (by omega)
 obtain⟨y,hy⟩:∃ y,AC i.op (rg c i.b.toNat) (i.imm % 4294967296)=y:=⟨_,rfl⟩
 rw[hy] at AL ⊢
 have HAL:=lh AL
 have hia0:=hi.a.1
 have hia1:i.a<16:=by have:=hi.a.2;omega
 have ST:=fun w=>CT (w:=w) hc.len i.a (y) hia0 hia1
 obtain⟨S,hS⟩:∃ s,Bm c i.a (y)=s:=⟨_,rfl⟩
 have hsl:S.length=25:=by rw[←hS];exact Br hc.len _ _
 have hpc:(Ab S)[16]?=some (.int .u32 (rg c 16)):=by rw[←hS,←Ea (show i.a≤15 by omega)];rfl
 rw[hS] at ST ⊢
 obtain⟨Z,hZ⟩:∃ z,S.set 16 ((rg c 16+4) % 4294967296)=z:=⟨_,rfl⟩
 have hz:(Ab S).set 16 (.int .u32 ((rg c 16+4) % 4294967296))=Ab Z:=by rw[←hZ];exact Ak hsl _ _
 rw[hZ]
 have HZ:=lh hz
 have HST:=lh ST
 have h24:(i.op == 24)=false:=by rw[beq_eq_false_iff_ne];omega
 clear R hk hn hc hm hr LD hm2 hl2 ha0 ha1 hin hx hx0 hx1 DE hd
 clear hp ST hS hsl hz hZ hi hv AL hy
 go_in
 go_wp2_with (first|(refine YL ?_)|(refine YS ?_;clear L;intro wz L))
 refine (HR.out _ (k+3) _ L (Ac (Ac (Ac HI.out)))).mono ?_
 rintro e wz ⟨rfl,Lz⟩
 replace L:=Lz
 clear Lz
 dsimp only at L
 simp only[List.set_cons_succ] at L
 dsimp only
 go_wp2_with (first|(go_at_call 145;(with_reducible refine (HLD.out _ _ (L.memRow (k:=k+3) (Ac (Ac (Ac HI2.out))) HN2.out n0 n1)).mono ?_);rintro e wz ⟨rfl,rfl⟩)|(refine YL ?_)|(refine YS ?_;clear L;intro wz L))
 (try simp only[Act.put,q4,s0,s1])
 refine wp_region_quiet_below (by kernel_rfl) (by kernel_rfl) ?_
 repeat (first|(go_big_quiet_want;(first|fail|(refine zlq τ3 L 0 ?_)|(refine AK (ty:=25) L (fun _ h=>Aa h) 3 rfl rfl rfl τ25 rfl hcb ?_));go_big_quiet_on;(try simp only[Act.put,q4,s0,s1]))|go_big_quiet_step (first|fail|(go_at_call 196;exact A9 (HAL.out _))))
 refine wpQuiet_nil ?_
 intro wz hwz
 replace L:=L.below (Aa hwz)
 clear hwz
 go_wp2_with (first|(refine YL ?_)|((first|refine Yt (Ab Z) ?_|refine YS ?_);clear L;intro wz L))
 exact Yr2 ⟨rfl,L.drop3.drop1⟩
theorem do_any (L:Lay w0 w l) (hk:l[k]?=some ⟨g,words xs,25⟩) (hn:xs.length=n) (hc:CpuOk c) (hm:MemOk xs) :
    Calls Tryz.prog 147 #[.agg (Ab c).toArray,.slice (some ⟨g,0,none⟩) n n] w (Bc w0 (l.set k ⟨g,words (Bn c xs).2.1,25⟩) (.tuple #[.agg (Ab (Bn c xs).1).toArray,efV (Bn c xs).2.2])):=by
 have RO:=BE (c:=c) (acc:=1) (size:=4) hc hm (hc.at 16).1 (hc.at 16).2 (.inr rfl)
 have hl:=Cc c xs (rg c 16) 4 1
 have hpc:BU c=(rg c 16+4) % 4294967296:=by unfold BU u32;rw[IntKind.wrap_u32]
 unfold Bn AM
 obtain⟨a,ys,q,hr⟩:∃ a ys q,Ah c xs (rg c 16) 4 1=(a,ys,q):=⟨_,_,_,rfl⟩
 rw[hr] at RO hl ⊢
 dsimp only at RO hl ⊢
 obtain⟨hm2,_,ha0,ha1,hin,hq0,hq1⟩:=RO
 by_cases hq:q=0
 case neg =>
  rw[if_pos hq]
  dsimp only
  rw[if_pos hq]
  exact do_fault (x:=0) L hk hn hc hm hr hq hq0 hq1
 have hq':¬q≠0:=fun h=>h hq
 rw[if_neg (c:=q≠0) hq']
 dsimp only
 rw[if_neg (by decide)]
 have hl2:=hl.trans hn
 have hin:=hin hq
 have hbd:=Bg hm2.w (a / 4).toNat
 have hx0:0≤A5 ys a:=hbd.1
 have hx1:A5 ys a<4294967296:=hbd.2
 have hx:Cg ys a 4=A5 ys a:=by unfold Cg;rw[if_neg (by decide)]
 cases hd:C9 (A5 ys a) with
 | none=>exact do_none L hk hn hc hm hr hm2 hl2 ha0 ha1 hin hq hx hx0 hx1 hd
 | some i =>
   have hi:=EA hx0 hx1 hd
   dsimp only
   have hkb:(rg c 17 % 2 == 0) = !BM c:=by
    unfold BM
    rcases Int.emod_two_eq (rg c 17) with h|h <;> rw[h] <;> rfl
   by_cases hp:BP i.op=true∧BM c=false
   · rw[if_pos hp]
     exact do_priv L hk hn hc hm hr hm2 hl2 ha0 ha1 hin hq hx hx0 hx1 hd hi hp.1 (by rw[hkb,hp.2];rfl)
   rw[if_neg hp]
   have hp2:(BP i.op && (rg c 17 % 2 == 0))=false:=by
    rw[hkb]
    cases h1:BP i.op
    · rfl
    · cases h2:BM c
      · exact absurd ⟨h1,h2⟩ hp
      · rfl
   have hv:=Dd hi.f
   by_cases hl1:32≤i.op∧i.op≤34
   · rw[if_pos hl1]
     have:=do_mem L hk hn hc hm hr hm2 hl2 ha0 ha1 hin hq hx hx0 hx1 hd hi hp2 hl1.1 (by omega)
     unfold memC at this
     rw[if_pos hl1.2] at this
     exact this
   rw[if_neg hl1]
   by_cases hs1:35≤i.op∧i.op≤36
   · rw[if_pos hs1]
     have:=do_mem L hk hn hc hm hr hm2 hl2 ha0 ha1 hin hq hx hx0 hx1 hd hi hp2 (by omega) (by omega)
     unfold memC at this
     rw[if_neg (by omega)] at this
     exact this
   rw[if_neg hs1]
   dsimp only
   by_cases h56:56≤i.op
   · exact do_sys L hk hn hc hm hr hm2 hl2 ha0 ha1 hin hq hx hx0 hx1 hd hi hp2 h56
   by_cases h40:40≤i.op
   · have e:(Ap c i).2=ef0:=by
       rcases (show i.op=48∨i.op=49∨i.op≤45 by omega) with h|h|h
       · unfold Ap;dsimp only;rw[if_neg (by omega),if_neg (by omega),if_pos h]
       · unfold Ap;dsimp only;(repeat rw[if_neg (by omega)]);rw[if_pos h]
       · unfold Ap;dsimp only;rw[if_neg (by omega),if_pos (by omega)]
     rw[e]
     exact do_jump L hk hn hc hm hr hm2 hl2 ha0 ha1 hin hq hx hx0 hx1 hd hi hp2 h40 (by omega)
   have hpf:BP i.op=false:=decide_eq_false (by omega)
   by_cases h24:i.op=24
   · have e:Ap c i=((Bm c i.a (i.imm % 4294967296*65536 % 4294967296)).set 16 ((rg c 16+4) % 4294967296),ef0):=by
       unfold Ap;dsimp only;rw[if_pos h24,hpc];unfold u32;rw[IntKind.wrap_u32,IntKind.wrap_u32]
     rw[e]
     exact do_lui L hk hn hc hm hr hm2 hl2 ha0 ha1 hin hq hx hx0 hx1 hd hi hpf h24
   have e:Ap c i=((Bm c i.a (AC i.op (rg c i.b.toNat) (if i.op≤13 then rg c i.c.toNat else i.imm % 4294967296))).set 16 ((rg c 16+4) % 4294967296),ef0):=by
    unfold Ap;dsimp only
    rw[if_neg h24,if_neg (by omega),if_neg (by omega),if_neg (by omega),if_neg (by omega),if_neg (by omega),if_neg (by omega),if_neg (by omega),if_neg (by omega),if_neg (by omega),if_neg (by omega),if_neg (by omega),if_neg (by omega),hpc]
    unfold u32;rw[IntKind.wrap_u32]
   rw[e]
   by_cases h13:i.op≤13
   · rw[if_pos h13]
     exact do_alu3 L hk hn hc hm hr hm2 hl2 ha0 ha1 hin hq hx hx0 hx1 hd hi hpf h13
   · rw[if_neg h13]
     exact do_alui L hk hn hc hm hr hm2 hl2 ha0 ha1 hin hq hx hx0 hx1 hd hi hpf (by omega) (by omega)
end
end Go.Proofs.YtnmpfmapncicmaaGreat
