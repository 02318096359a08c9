/-
  Texts joined: TpRm. No law is proved here.
-/
import Derived.Test.YtnmpfmapncicmaaGreatB18
namespace Go.Proofs.YtnmpfmapncicmaaGreat
set_option linter.all false
open Go.RowKit
def Bc (w0:World) (l:List Bx) (v:Value) (e:Ending) (w':World):Prop:=e=.returned v∧Lay w0 w' l
theorem BK {l:List Bx} {k:Nat} {x:Bx} (h:l[k]?=some x) (y:Bx):(l.set k y)[k]?=some y:=List.getElem?_set_self (List.getElem?_eq_some_iff.1 h).1
theorem bx_ne {l:List Bx} {k j:Nat} (h:k≠j) (y:Bx):(l.set k y)[j]?=l[j]?:=List.getElem?_set_ne h
theorem AY {l:List Bx} {k:Nat} {x:Bx} (h:l[k]?=some x):l.set k x=l:=by
 apply List.ext_getElem?
 intro j
 by_cases e:k=j
 · subst e;rw[BK h,h]
 · rw[List.getElem?_set_ne e]
section
variable {w0 w:World} {l:List Bx} {k g n:Nat} {xs:List Int}
theorem Lay.setWord (L:Lay w0 w l) (hk:l[k]?=some ⟨g,words xs,25⟩) (j:Nat) (y:Int):Lay w0 (w.setCell ⟨g,j,none⟩ (.int .u32 y)) (l.set k ⟨g,words (xs.set j y),25⟩):=by
 have h:=(L.at hk).set_at j (.int .u32 y)
 rw[List.setIfInBounds_toArray,Gc] at h
 exact L.put hk h (But.setCell g j w _)
theorem Lay.memRow (L:Lay w0 w l) (hk:l[k]?=some ⟨g,words xs,25⟩) (hn:xs.length=n) (h0:0<n) (h1:n≤1024):MemRow w (.slice (some ⟨g,0,none⟩) n n) xs:=by
 refine ⟨g,0,n,by rw[hn],by omega,by unfold maxLen;omega,by omega,(L.at hk).lt,fun i x hx=>?_⟩
 rw[Nat.zero_add,(L.at hk).cell,List.getElem?_toArray]
 unfold words
 rw[List.getElem?_map,hx];rfl
theorem Lay.wordCell (L:Lay w0 w l) (hk:l[k]?=some ⟨g,words xs,25⟩) {i:Nat} (hi:i<xs.length):w.cell? ⟨g,i,none⟩=some (.int .u32 (rg xs i)):=by
 rw[(L.at hk).cell,List.getElem?_toArray]
 unfold words rg
 rw[List.getElem?_map,List.getElem?_eq_getElem hi];rfl
theorem DM (ao:Option Addr) (n cap:Nat) (w:World) (hn:n % 32=0) (hq:n≤1024):Calls Tryz.prog 132 #[.slice ao n cap] w (Same w (.int .i64 (n / 32:Nat))):=by
 have e0:(n:Int) % 32=0:=by omega
 go_in
 go_wp2_with fail
 go_ret
 exact Same.mk' (by simp)
theorem Ct (ao:Option Addr) (xs:List Int) (cap:Nat) (addr size:Int) (w:World) (hm:MemOk xs) (h0:0≤addr) (h1:addr<4294967296) (hs:size=1∨size=4) :
    Calls Tryz.prog 190 #[.slice ao xs.length cap,.int .u32 addr,.int .i64 size] w (Same w (.bool (inB xs addr size))):=by
 have P:=fun w=>DM ao xs.length cap w hm.r hm.q
 obtain⟨hp,hp1,hp2⟩:=hm.pages
 have hq:=hm.q
 unfold inB
 obtain⟨q,hqq⟩:∃ q,xs.length / 32=q:=⟨_,rfl⟩
 have e:Ao xs=q:=by omega
 rw[hqq] at P
 rw[e]
 have hq32:q≤32:=by omega
 have HP:=lh P;clear P hqq e hp
 by_cases hal:addr % size=0
 · obtain rfl|rfl:=hs
   all_goals
    go_in
    go_wp2_with (go_at_call 132;(with_reducible refine (HP.out _).mono ?_);rintro e wz ⟨rfl,rfl⟩)
    exact Xz57
 · obtain rfl|rfl:=hs
   · omega
   · have hne:(addr % 4 == 0)=false:=by rw[beq_eq_false_iff_ne];exact hal
     rw[decide_eq_false (fun h=>hal h.1)]
     go_in
     go_wp2_with fail
     go_ret
     exact Same.mk
theorem BX (va:Value) (xs:List Int) (addr size:Int) (w:World) (ha:MemRow w va xs) (hm:MemOk xs) (h0:0≤addr) (h1:addr<4294967296) (hs:size=1∨size=4) (hin:inB xs addr size=true) :
    Calls Tryz.prog 145 #[va,.int .u32 addr,.int .i64 size] w (Same w (.tuple #[.int .u32 (Cg xs addr size),.bool true])):=by
 obtain⟨b,off,cap,rfl,hc1,hc2,hlt,hrow⟩:=ha.open
 have hw:=E8 hm h0 hs hin
 have hcell:=hrow.cell hw
 have hbd:=Bg hm.w (addr / 4).toNat
 have P:=fun w=>Ct (some ⟨b,off,none⟩) xs cap addr size w hm h0 h1 hs
 rw[hin] at P
 unfold Cg A5
 obtain⟨x,hx⟩:∃ x,rg xs (addr / 4).toNat=x:=⟨_,rfl⟩
 rw[hx] at hcell hbd ⊢
 obtain⟨n,hn⟩:∃ n,xs.length=n:=⟨_,rfl⟩
 rw[hn] at hw P ⊢
 have HP:=lh P;clear P hin
 have a0:0≤addr / 4:=by omega
 have a1:addr / 4<(n:Int):=by omega
 clear hx hn hrow hm ha
 obtain rfl|rfl:=hs
 · have e:x / 2 ^ (addr % 4*8).toNat % 256=bits .and .u32 (x / 2 ^ (addr % 4*8).toNat) 255:=by
     have hx:=shr_range hbd.1 hbd.2 (addr % 4*8).toNat
     rw[Db hx.1 hx.2]
   rw[if_pos rfl,e]
   clear e
   obtain⟨j,hj0,hj1⟩:∃ j:Int,0≤j∧addr % 4=j:=⟨addr % 4,by omega,rfl⟩
   have hj4:j=0∨j=1∨j=2∨j=3:=by omega
   rw[hj1]
   have HJ:=lh hj1
   obtain rfl|rfl|rfl|rfl:=hj4
   all_goals
    go_in
    go_wp2_with (go_at_call 190;(with_reducible refine (HP.out _).mono ?_);rintro e wz ⟨rfl,rfl⟩)
    go_ret2
    first|exact Same.mk|exact Same.mk' (by rw[show x / 2 ^ ((0:Int)*8).toNat=x from Int.ediv_one x];rfl)
 · rw[if_neg (by decide)]
   go_in
   go_wp2_with (go_at_call 190;(with_reducible refine (HP.out _).mono ?_);rintro e wz ⟨rfl,rfl⟩)
   go_ret2
   exact Same.mk
theorem rload_no (ao:Option Addr) (xs:List Int) (cap:Nat) (addr size:Int) (w:World) (hm:MemOk xs) (h0:0≤addr) (h1:addr<4294967296) (hs:size=1∨size=4) (hin:inB xs addr size=false) :
    Calls Tryz.prog 145 #[.slice ao xs.length cap,.int .u32 addr,.int .i64 size] w (Same w (.tuple #[.int .u32 0,.bool false])):=by
 have P:=fun w=>Ct ao xs cap addr size w hm h0 h1 hs
 rw[hin] at P
 have HP:=lh P;clear P hin
 go_in
 go_wp2_with (go_at_call 190;(with_reducible refine (HP.out _).mono ?_);rintro e wz ⟨rfl,rfl⟩)
 go_ret2
 exact Same.mk
theorem rput_word (L:Lay w0 w l) (hk:l[k]?=some ⟨g,words xs,25⟩) (hn:xs.length=n) (hm:MemOk xs) (addr v:Int) (h0:0≤addr) (_h1:addr<4294967296) (hin:inB xs addr 4=true) (hv0:0≤v) (hv1:v<4294967296) :
    Calls Tryz.prog 235 #[.slice (some ⟨g,0,none⟩) n n,.int .u32 addr,.int .i64 4,.int .u32 v] w (Bc w0 (l.set k ⟨g,words (BO xs addr 4 v),25⟩) (.tuple #[])):=by
 have hw:=E8 hm h0 (by omega) hin
 have hcell:=L.wordCell hk hw
 have hfree:=(L.at hk).free (addr / 4).toNat
 have hbd:=Bg hm.w (addr / 4).toNat
 have a0:0≤addr / 4:=by omega
 have a1:addr / 4<(n:Int):=by omega
 have F:=fun y=>L.setWord hk (addr / 4).toNat y
 unfold BO A5
 obtain⟨x,hx⟩:∃ x,rg xs (addr / 4).toNat=x:=⟨_,rfl⟩
 rw[hx] at hcell hbd ⊢
 have HF:=lh F
 clear hin hm hw hk hx hn L F
 go_in
 go_wp2_with fail
 exact bodyPost_ret (v:=.tuple #[]) (results_none rfl _ _ _) rfl ⟨rfl,HF.out _⟩
theorem rput_byte (L:Lay w0 w l) (hk:l[k]?=some ⟨g,words xs,25⟩) (hn:xs.length=n) (hm:MemOk xs) (addr v:Int) (h0:0≤addr) (_h1:addr<4294967296) (hin:inB xs addr 1=true) (hv0:0≤v) (hv1:v<4294967296) :
    Calls Tryz.prog 235 #[.slice (some ⟨g,0,none⟩) n n,.int .u32 addr,.int .i64 1,.int .u32 v] w (Bc w0 (l.set k ⟨g,words (BO xs addr 1 v),25⟩) (.tuple #[])):=by
 have hw:=E8 hm h0 (by omega) hin
 have hcell:=L.wordCell hk hw
 have hfree:=(L.at hk).free (addr / 4).toNat
 have hbd:=Bg hm.w (addr / 4).toNat
 have a0:0≤addr / 4:=by omega
 have a1:addr / 4<(n:Int):=by omega
 have F:=fun y=>L.setWord hk (addr / 4).toNat y
 unfold BO A5
 obtain⟨x,hx⟩:∃ x,rg xs (addr / 4).toNat=x:=⟨_,rfl⟩
 rw[hx] at hcell hbd ⊢
 have HF:=lh F
 clear hin hm hw hk hx hn L F
 have ev:=Db hv0 hv1
 have hb0:0≤v % 256:=by omega
 have hb1:v % 256<256:=by omega
 have E:=fun k hk=>byte_putI k hk hbd.1 hbd.2 hb0 hb1
 have E0:=E 0 (by decide) 255 (by decide) (v % 256) (by omega)
 have E1:=E 1 (by decide) 65280 (by decide) (v % 256*256) (by omega)
 have E2:=E 2 (by decide) 16711680 (by decide) (v % 256*65536) (by omega)
 have E3:=E 3 (by decide) 4278190080 (by decide) (v % 256*16777216) (by omega)
 have w0':IntKind.u32.wrap (v % 256)=v % 256:=by rw[IntKind.wrap_u32];omega
 have w1:IntKind.u32.wrap (v % 256*256)=v % 256*256:=by rw[IntKind.wrap_u32];omega
 have w2:IntKind.u32.wrap (v % 256*65536)=v % 256*65536:=by rw[IntKind.wrap_u32];omega
 have w3:IntKind.u32.wrap (v % 256*16777216)=v % 256*16777216:=by rw[IntKind.wrap_u32];omega
 have H0:=lh E0;have H1:=lh E1;have H2:=lh E2;have H3:=lh E3
 clear E E0 E1 E2 E3
 rw[if_pos rfl]
 obtain⟨j,hj0,hj1⟩:∃ j:Int,0≤j∧addr % 4=j:=⟨addr % 4,by omega,rfl⟩
 have hj4:j=0∨j=1∨j=2∨j=3:=by omega
 rw[hj1]
 obtain rfl|rfl|rfl|rfl:=hj4
 rw[show ED x 0 v=_ from H0.out.symm]
 rotate_left
 rw[show ED x 1 v=_ from H1.out.symm]
 rotate_left
 rw[show ED x 2 v=_ from H2.out.symm]
 rotate_left
 rw[show ED x 3 v=_ from H3.out.symm]
 rotate_left
 all_goals
  go_in
  go_wp2_with fail
  exact bodyPost_ret (v:=.tuple #[]) (results_none rfl _ _ _) rfl ⟨rfl,HF.out _⟩
end
end Go.Proofs.YtnmpfmapncicmaaGreat
