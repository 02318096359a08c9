/-
  Texts joined: TpAu TpAv TpAw TpAx. No law is proved here.
-/
import Derived.Test.YtnmpfmapncicmaaGreatB19
import Derived.Test.YtnmpfmapncicmaaGreatB24
namespace Go.Proofs.YtnmpfmapncicmaaGreat
set_option linter.all false
set_option maxRecDepth 100000
set_option maxHeartbeats 40000000
open Go.RowKit
theorem numL_take {l:List UInt8} {k:Nat} {c:UInt8} (h:l[k]?=some c):Gx (l.take (k+1))=10*Gx (l.take k)+((c.toNat:Int) - 48):=by
 unfold Gx
 rw[List.take_add_one,h,List.foldl_append];rfl
theorem numL_bd {l:List UInt8} (h:∀ c∈l,FY c=true):∀ k,k≤l.length→0≤Gx (l.take k)∧Gx (l.take k)<(10:Int) ^ k
 | 0,_=>by rw[List.take_zero];exact⟨by decide,by decide⟩
 | k+1,hk=>by
   have ih:=numL_bd h k (by omega)
   have hc:l[k]?=some l[k]:=List.getElem?_eq_getElem (by omega)
   have hd:=h _ (List.mem_of_getElem? hc)
   rw[numL_take hc]
   unfold FY at hd
   simp only[Bool.and_eq_true,decide_eq_true_eq] at hd
   rw[Int.pow_succ]
   omega
theorem digC_bd {c:UInt8} (h:FY c=true):48≤c.toNat∧c.toNat≤57:=by
 unfold FY at h
 simpa only[Bool.and_eq_true,decide_eq_true_eq] using h
theorem Xz10 {P:Prop} (h:P:=by
  go_in
  go_wp2_with (first|(refine Ad rfl (Ax (l:=l) (j:=0) rfl rfl rfl τ9 H0.out) ?_)|(refine A1 (by rfl) (Ax (l:=l) (j:=0) rfl rfl rfl τ9 H0.out) ?_)|(refine A1 (by rfl) (Ax (l:=l) (j:=1) rfl rfl rfl τ9 H1.out) ?_))
  go_loopw [7,8] (fun v i wr=>∃ k:Nat,k≤n∧i=.int .i64 k∧v=.int .i64 (Gx (l.take k))∧wr=w) (fun _ i _=>n - (intOf i).toNat)
  case atStart=>exact⟨0,Nat.zero_le _,rfl,rfl,rfl⟩
  case round =>
   obtain⟨k,hk,rfl,rfl,rfl⟩:=hrel
   by_cases hlt:k<n
   · obtain⟨d,hd⟩:=A6 (xs:=l) (k:=k) (by rw[HN.out];exact hlt)
     have hdd:=hc d (List.mem_of_getElem? hd)
     have hdb:=digC_bd hdd
     have hbd:=HB.out k hk
     have hp:(10:Int) ^ k≤10 ^ 8:=by
      have:((10 ^ k:Nat):Int)≤((10 ^ 8:Nat):Int):=by exact_mod_cast Nat.pow_le_pow_right (by decide) (by omega)
      simpa using this
     have hx0:=hbd.1
     have hx1:Gx (l.take k)<100000000:=by omega
     have HT:=lh (numL_take hd)
     have HD:=lh hd
     clear hd hbd hp
     generalize Gx (l.take k)=x at *
     have e1:((d.toNat:Int) - 48) % 256=(d.toNat:Int) - 48:=by omega
     go_wp2_with (first|(refine Ad rfl (Ax (l:=l) rfl rfl rfl τ9 HD.out) ?_)|(go_at_call 267;(with_reducible refine (Dm hdd _).mono ?_);rintro e wz ⟨rfl,rfl⟩))
     go_roundw
     case rel=>exact⟨k+1,by omega,by go_num,by rw[HT.out],trivial⟩
     case measure=>simp [intOf];omega
   · obtain rfl:k=n:=by omega
     have hbd:=HB.out k (nlr _)
     have hp:(10:Int) ^ k≤10 ^ 9:=by
      have:((10 ^ k:Nat):Int)≤((10 ^ 9:Nat):Int):=by exact_mod_cast Nat.pow_le_pow_right (by decide) (by omega)
      simpa using this
     have hx0:=hbd.1
     have hx1:Gx (l.take k)<1000000000:=by omega
     clear hbd hp
     have hall:l.take k=l:=by rw[←HN.out];exact List.take_length
     rw[hall] at hx0 hx1 ⊢
     clear hall HB
     generalize Gx l=x at *
     go_wp2_with fail
     go_ret2
     first|exact Same.mk|exact Same.mk' (by simp;omega)):P:=h
theorem number_any (l:List UInt8) (w:World) (hq:numB l=true):Calls Tryz.prog 269 #[.string (bsL l)] w (Same w (.tuple #[.int .i64 (Gx l),.bool true])):=by
 unfold numB at hq
 simp only[Bool.and_eq_true,decide_eq_true_eq,List.all_eq_true] at hq
 obtain⟨⟨h1,h9⟩,hc⟩:=hq
 have HB:=lh (numL_bd hc)
 have hsz:=BI l
 obtain⟨c0,h0⟩:=A6 (xs:=l) (k:=0) (by omega)
 have hd0:=digC_bd (hc c0 (List.mem_of_getElem? h0))
 have H0:=lh h0
 clear h0
 obtain⟨n,hn⟩:∃ n,l.length=n:=⟨_,rfl⟩
 rw[hn] at hsz h9 h1 HB
 have HN:=lh hn
 by_cases h2:2<n
 · obtain⟨c1,hc1⟩:=A6 (xs:=l) (k:=1) (by omega)
   have hd1:=digC_bd (hc c1 (List.mem_of_getElem? hc1))
   have H1:=lh hc1
   clear hc1 hn
   have q1:((c1.toNat:Int) == 120)=false:=by simp;omega
   have q5:((c0.toNat:Int) == 45)=false:=by simp;omega
   by_cases hz:c0.toNat=48
   have q0:((c0.toNat:Int) == 48)=true:=by rw[hz];rfl
   rotate_left
   have q0:((c0.toNat:Int) == 48)=false:=by simp;omega
   rotate_left
   all_goals
    clear hz
    exact Xz10
 · have H1:=H0
   clear hn
   have q5:((c0.toNat:Int) == 45)=false:=by simp;omega
   exact Xz10
def decT (r:Nat):List UInt8:=if r<10 then [UInt8.ofNat (48+r)] else [49,UInt8.ofNat (38+r)]
theorem regT_eq (r:Nat):regT r=[114]++decT r:=by unfold regT decT;split <;> rfl
theorem Jp (n:Nat):Bl (n:Int)=bsL [UInt8.ofNat n]:=by unfold Bl bsL;rw[Int.toNat_natCast]
theorem digits_low (r:Nat) (w:World) (h:r<10):Calls Tryz.prog 276 #[.int .u64 r] w (Ret w (.string (bsL (decT r)))):=by
 have hb:=Jp (48+r)
 unfold decT
 rw[if_pos h,←hb,show ((48+r:Nat):Int)=48+(r:Int) by omega]
 have hc:=CO (48+(r:Int))
 clear hb
 generalize hB:Bl (48+(r:Int))=B at *
 clear hB
 go_in
 go_wp2
 go_ret
 exact Ret.mk bel
theorem digits_two (r:Nat) (w:World) (h:10≤r) (h2:r<16):Calls Tryz.prog 276 #[.int .u64 r] w (Ret w (.string (bsL (decT r)))):=by
 have hb:=Jp (38+r)
 have ha:=bsL_app [49] [UInt8.ofNat (38+r)]
 unfold decT
 rw[if_neg (by omega)]
 rw[show ([49,UInt8.ofNat (38+r)]:List UInt8)=[49]++[UInt8.ofNat (38+r)] from rfl,←ha,←hb,show ((38+r:Nat):Int)=38+(r:Int) by omega]
 have hc:=CO (38+(r:Int))
 have D:∀ w:World,Calls Tryz.prog 276 #[.int .u64 1] w (Ret w (.string (bsL [49]))):=fun w=>digits_low 1 w (by decide)
 have HD:=lh D
 clear hb ha D
 have zB:(Bl (38+(r:Int))).size=1:=rfl
 have zA:(bsL [49]).size=1:=rfl
 generalize hB:Bl (38+(r:Int))=B at *
 generalize hB:bsL [49]=A at *
 clear hB
 have e1:(r:Int) / 10=1:=by omega
 have e3:IntKind.u64.wrap 1=1:=rfl
 have e5:IntKind.u64.wrap (38+(r:Int))=38+(r:Int):=by show (38+(r:Int)) % 18446744073709551616=_;omega
 have e6:IntKind.u64.wrap ((r:Int) % 10)=(r:Int) % 10:=by show ((r:Int) % 10) % 18446744073709551616=_;omega
 have e4:IntKind.u8.wrap (38+(r:Int))=38+(r:Int):=by show (38+(r:Int)) % 256=_;omega
 have e3:IntKind.u64.wrap 1=1:=rfl
 have e7:IntKind.u8.wrap (IntKind.u64.wrap (48+(r:Int).tmod 10))=38+(r:Int):=by
  rw[Int.tmod_eq_emod_of_nonneg (by omega)]
  show (48+(r:Int) % 10) % 18446744073709551616 % 256=_
  omega
 go_in
 go_wp2_with fail
 go_region_law (first|(go_simp;go_at_call 276;(with_reducible refine (HD.out _).mono ?_);rintro e w1 ⟨rfl,hb1⟩;obtain⟨hc1,hf1⟩:=Cn hb1;have hz1:=BH hb1;try simp only[Bo] at hz1;try simp only[sizes] at hc1 hf1))
 all_goals
  go_wp2_with fail
  go_ret
  exact Ret.mk bel
theorem reg_any (r:Nat) (w:World) (h:r<16):Calls Tryz.prog 274 #[.int .i64 r] w (Ret w (.string (bsL (regT r)))):=by
 have D:∀ w:World,Calls Tryz.prog 276 #[.int .u64 r] w (Ret w (.string (bsL (decT r)))):=fun w=>by
  by_cases hr:r<10
  · exact digits_low r w hr
  · exact digits_two r w (by omega) h
 have zd:(bsL (decT r)).size≤2:=by rw[BI];unfold decT;split <;> simp
 rw[regT_eq,←bsL_app]
 have zA:(bsL [114]).size=1:=rfl
 have HD:=lh D
 clear D
 generalize bsL (decT r)=A at *
 have E:∀ w:World,Calls Tryz.prog 275 #[.int .i64 r] w (Ret w (.string A)):=fun w=>by
  go_in
  go_wp2_with fail
  refine (HD.out _).mono ?_
  rintro e w1 ⟨rfl,hb1⟩
  go_wp2_with fail
  go_ret
  exact Ret.mk hb1
 have HE:=lh E
 clear E HD
 go_in
 go_wp2_with fail
 refine (HE.out _).mono ?_
 rintro e w1 ⟨rfl,hb1⟩
 have hq:(⟨#[114]⟩:ByteArray).size+A.size≤3:=by show 1+A.size≤3;omega
 go_wp2_with fail
 go_ret
 exact Ret.mk hb1
theorem regGo_miss {t:List UInt8} {k r:Nat} (h:(t == regT r)=false):Jg t (k+1) r=Jg t k (r+1):=by
 rw[Jg,if_neg (fun e=>by rw[e] at h;simp at h)]
theorem regGo_hit {t:List UInt8} {k r:Nat} (h:(t == regT r)=true):Jg t (k+1) r=some r:=by
 rw[Jg,if_pos (by simpa using h)]
def regV (o:Option Nat):Value:=match o with
 | some r=>.tuple #[.int .i64 r,.bool true]
 | none=>.tuple #[.int .i64 0,.bool false]
theorem regOf_any (t:List UInt8) (w:World):Calls Tryz.prog 268 #[.string (bsL t)] w (Ret w (regV (FP t))):=by
 obtain⟨o,ho⟩:∃ o,FP t=o:=⟨_,rfl⟩
 rw[ho]
 have HO:=lh ho
 clear ho
 go_in
 go_wp2_with fail
 go_loopw [4] (fun i wr=>∃ r:Nat,r≤16∧i=.int .i64 r∧Jg t (16 - r) r=o∧Below w.heap.size w wr) (fun i _=>16 - (intOf i).toNat)
 case atStart=>exact⟨0,by decide,rfl,HO.out,Below.refl _ _⟩
 case round =>
  obtain⟨r,hr,rfl,hgo,hbw⟩:=hrel
  by_cases hlt:r<16
  · obtain⟨k,hk⟩:∃ k,16 - r=k+1:=⟨15 - r,by omega⟩
    rw[hk] at hgo
    have hs1:=fun h=>(regGo_hit (k:=k) (r:=r) (t:=t) h).symm.trans hgo
    have hs0:=fun h=>(regGo_miss (k:=k) (r:=r) (t:=t) h).symm.trans hgo
    clear hgo
    have HS1:=lh hs1;have HS0:=lh hs0
    clear hs1 hs0
    go_wp2_with fail
    refine (reg_any r _ hlt).mono ?_
    rintro e w1 ⟨rfl,hb1⟩
    have hbw1:=hbw.trans (hb1.mono hbw.size)
    clear hb1
    cases hte:t == regT r with
    | true =>
      have hov:=HS1.out hte
      go_wp2_with (refine Ad rfl (Aj rfl rfl rfl hte) ?_)
      go_ret2
      rw[←hov]
      exact Ret.mk hbw1
    | false =>
      have hov:=HS0.out hte
      go_wp2_with (refine Ad rfl (Aj rfl rfl rfl hte) ?_)
      go_roundw
      case rel=>exact⟨r+1,by omega,by go_num,by rw[show 16 - (r+1)=k by omega];exact hov,hbw1⟩
      case measure=>simp [intOf];omega
  · obtain rfl:r=16:=by omega
    have hov:none=o:=hgo
    subst hov
    go_wp2_with fail
    go_ret2
    exact Ret.mk hbw
def tab1:Array Value:=#[.string ⟨#[97,100,100]⟩,.string ⟨#[115,117,98]⟩,.string ⟨#[97,110,100]⟩,.string ⟨#[111,114]⟩,.string ⟨#[120,111,114]⟩,.string ⟨#[115,104,108]⟩,.string ⟨#[115,104,114]⟩,.string ⟨#[115,97,114]⟩,.string ⟨#[109,117,108]⟩,.string ⟨#[100,105,118]⟩,.string ⟨#[114,101,109]⟩,.string ⟨#[115,108,116]⟩,.string ⟨#[115,108,116,117]⟩]
theorem tab1_at:∀ j:Nat,j<13→tab1[j]?=some (.string (bsL (DB (1+j)))):=by
 intro j hj
 match j,hj with
 | 0,_=>rfl
 | 1,_=>rfl
 | 2,_=>rfl
 | 3,_=>rfl
 | 4,_=>rfl
 | 5,_=>rfl
 | 6,_=>rfl
 | 7,_=>rfl
 | 8,_=>rfl
 | 9,_=>rfl
 | 10,_=>rfl
 | 11,_=>rfl
 | 12,_=>rfl
 | k+13,h=>omega
theorem mnem_1 (op:Nat) (w:World) (h0:1≤op) (h1:op<14):Calls Tryz.prog 270 #[.int .i64 op] w (Ret w (.string (bsL (DB op)))):=by
 have hT:=tab1_at (op - 1) (by omega)
 rw[show 1+(op - 1)=op by omega] at hT
 have hq:(w.alloc (.cells tab1 9)).cell? ⟨w.heap.size,op - 1,none⟩=some (.string (bsL (DB op))):=by
  rw[(HasBlock.made w tab1 9).cell,hT]
 have e0:((op:Int) - 1).toNat=op - 1:=by omega
 generalize bsL (DB op)=A at *
 clear hT
 unfold tab1 at hq
 go_in
 go_wp2_with fail
 go_ret
 exact Ret.mk bel
def tab16:Array Value:=#[.string ⟨#[97,100,100,105]⟩,.string ⟨#[97,110,100,105]⟩,.string ⟨#[111,114,105]⟩,.string ⟨#[120,111,114,105]⟩,.string ⟨#[115,104,108,105]⟩,.string ⟨#[115,104,114,105]⟩,.string ⟨#[115,97,114,105]⟩,.string ⟨#[115,108,116,105]⟩,.string ⟨#[108,117,105]⟩]
theorem Xz108 {P:Prop} (h:P:=by
  intro j hj
  match j,hj with
  | 0,_=>rfl
  | 1,_=>rfl
  | 2,_=>rfl
  | 3,_=>rfl
  | 4,_=>rfl
  | 5,_=>rfl
  | 6,_=>rfl
  | 7,_=>rfl
  | 8,_=>rfl
  | k+9,h=>omega):P:=h
theorem tab16_at:∀ j:Nat,j<9→tab16[j]?=some (.string (bsL (DB (16+j)))):=by
 exact Xz108
theorem mnem_16 (op:Nat) (w:World) (h0:16≤op) (h1:op<25):Calls Tryz.prog 270 #[.int .i64 op] w (Ret w (.string (bsL (DB op)))):=by
 have hT:=tab16_at (op - 16) (by omega)
 rw[show 16+(op - 16)=op by omega] at hT
 have hq:(w.alloc (.cells tab16 9)).cell? ⟨w.heap.size,op - 16,none⟩=some (.string (bsL (DB op))):=by
  rw[(HasBlock.made w tab16 9).cell,hT]
 have e0:((op:Int) - 16).toNat=op - 16:=by omega
 generalize bsL (DB op)=A at *
 clear hT
 unfold tab16 at hq
 go_in
 go_wp2_with fail
 go_ret
 exact Ret.mk bel
def tab32:Array Value:=#[.string ⟨#[108,119]⟩,.string ⟨#[108,98]⟩,.string ⟨#[108,98,117]⟩,.string ⟨#[115,119]⟩,.string ⟨#[115,98]⟩]
theorem tab32_at:∀ j:Nat,j<5→tab32[j]?=some (.string (bsL (DB (32+j)))):=by
 intro j hj
 match j,hj with
 | 0,_=>rfl
 | 1,_=>rfl
 | 2,_=>rfl
 | 3,_=>rfl
 | 4,_=>rfl
 | k+5,h=>omega
theorem mnem_32 (op:Nat) (w:World) (h0:32≤op) (h1:op<37):Calls Tryz.prog 270 #[.int .i64 op] w (Ret w (.string (bsL (DB op)))):=by
 have hT:=tab32_at (op - 32) (by omega)
 rw[show 32+(op - 32)=op by omega] at hT
 have hq:(w.alloc (.cells tab32 9)).cell? ⟨w.heap.size,op - 32,none⟩=some (.string (bsL (DB op))):=by
  rw[(HasBlock.made w tab32 9).cell,hT]
 have e0:((op:Int) - 32).toNat=op - 32:=by omega
 generalize bsL (DB op)=A at *
 clear hT
 unfold tab32 at hq
 go_in
 go_wp2_with fail
 go_ret
 exact Ret.mk bel
def tab40:Array Value:=#[.string ⟨#[98,101,113]⟩,.string ⟨#[98,110,101]⟩,.string ⟨#[98,108,116]⟩,.string ⟨#[98,103,101]⟩,.string ⟨#[98,108,116,117]⟩,.string ⟨#[98,103,101,117]⟩]
theorem tab40_at:∀ j:Nat,j<6→tab40[j]?=some (.string (bsL (DB (40+j)))):=by
 intro j hj
 match j,hj with
 | 0,_=>rfl
 | 1,_=>rfl
 | 2,_=>rfl
 | 3,_=>rfl
 | 4,_=>rfl
 | 5,_=>rfl
 | k+6,h=>omega
theorem mnem_40 (op:Nat) (w:World) (h0:40≤op) (h1:op<46):Calls Tryz.prog 270 #[.int .i64 op] w (Ret w (.string (bsL (DB op)))):=by
 have hT:=tab40_at (op - 40) (by omega)
 rw[show 40+(op - 40)=op by omega] at hT
 have hq:(w.alloc (.cells tab40 9)).cell? ⟨w.heap.size,op - 40,none⟩=some (.string (bsL (DB op))):=by
  rw[(HasBlock.made w tab40 9).cell,hT]
 have e0:((op:Int) - 40).toNat=op - 40:=by omega
 generalize bsL (DB op)=A at *
 clear hT
 unfold tab40 at hq
 go_in
 go_wp2_with fail
 go_ret
 exact Ret.mk bel
def tab56:Array Value:=#[.string ⟨#[101,99,97,108,108]⟩,.string ⟨#[101,114,101,116]⟩,.string ⟨#[99,115,114,114]⟩,.string ⟨#[99,115,114,119]⟩,.string ⟨#[105,110]⟩,.string ⟨#[111,117,116]⟩,.string ⟨#[119,102,105]⟩,.string ⟨#[102,108,117,115,104]⟩,.string ⟨#[104,97,108,116]⟩]
theorem tab56_at:∀ j:Nat,j<9→tab56[j]?=some (.string (bsL (DB (56+j)))):=by
 exact Xz108
theorem mnem_56 (op:Nat) (w:World) (h0:56≤op) (h1:op<65):Calls Tryz.prog 270 #[.int .i64 op] w (Ret w (.string (bsL (DB op)))):=by
 have hT:=tab56_at (op - 56) (by omega)
 rw[show 56+(op - 56)=op by omega] at hT
 have hq:(w.alloc (.cells tab56 9)).cell? ⟨w.heap.size,op - 56,none⟩=some (.string (bsL (DB op))):=by
  rw[(HasBlock.made w tab56 9).cell,hT]
 have e0:((op:Int) - 56).toNat=op - 56:=by omega
 generalize bsL (DB op)=A at *
 clear hT
 unfold tab56 at hq
 go_in
 go_wp2_with fail
 go_ret
 exact Ret.mk bel
theorem mnem_48 (w:World):Calls Tryz.prog 270 #[.int .i64 48] w (Ret w (.string (bsL (DB 48)))):=by
 go_in
 go_wp2_with fail
 go_ret
 exact Ret.mk (Below.refl _ _)
theorem mnem_49 (w:World):Calls Tryz.prog 270 #[.int .i64 49] w (Ret w (.string (bsL (DB 49)))):=by
 go_in
 go_wp2_with fail
 go_ret
 exact Ret.mk (Below.refl _ _)
theorem mnem_any (op:Nat) (w:World) (h:0<A2 op):Calls Tryz.prog 270 #[.int .i64 op] w (Ret w (.string (bsL (DB op)))):=by
 have hr:(1≤op∧op<14)∨(16≤op∧op<25)∨(32≤op∧op<37)∨(40≤op∧op<46)∨op=48∨op=49∨(56≤op∧op<65):=by
  unfold A2 at h
  repeat' split at h
  all_goals omega
 rcases hr with h|h|h|h|rfl|rfl|h
 · exact mnem_1 op w h.1 h.2
 · exact mnem_16 op w h.1 h.2
 · exact mnem_32 op w h.1 h.2
 · exact mnem_40 op w h.1 h.2
 · exact mnem_48 w
 · exact mnem_49 w
 · exact mnem_56 op w h.1 h.2
theorem opGo_hit {t:List UInt8} {k op:Nat} (h0:0<A2 op) (h:(DB op == t)=true):opGo t (k+1) op=op:=by rw[opGo,if_pos ⟨h0,by simpa using h⟩]
theorem opGo_miss {t:List UInt8} {k op:Nat} (h:¬0<A2 op∨(DB op == t)=false):opGo t (k+1) op=opGo t k (op+1):=by
 rw[opGo,if_neg (fun e=>by rcases h with h|h;exact h e.1;rw[e.2] at h;simp at h)]
theorem FR (t:List UInt8) (w:World):Calls Tryz.prog 233 #[.string (bsL t)] w (Ret w (.int .i64 (Jw t))):=by
 obtain⟨o,ho⟩:∃ o,Jw t=o:=⟨_,rfl⟩
 rw[ho]
 have HO:=lh ho
 clear ho
 go_in
 go_wp2_with fail
 go_loopw [3] (fun i wr=>∃ r:Nat,1≤r∧r≤65∧i=.int .i64 r∧opGo t (65 - r) r=o∧Below w.heap.size w wr) (fun i _=>65 - (intOf i).toNat)
 case atStart=>exact⟨1,by decide,by decide,rfl,HO.out,Below.refl _ _⟩
 case round =>
  obtain⟨r,hr0,hr,rfl,hgo,hbw⟩:=hrel
  by_cases hlt:r≤64
  · obtain⟨k,hk⟩:∃ k,65 - r=k+1:=⟨64 - r,by omega⟩
    rw[hk] at hgo
    have hs1:=fun h0 h=>(opGo_hit (k:=k) (op:=r) (t:=t) h0 h).symm.trans hgo
    have hs0:=fun h=>(opGo_miss (k:=k) (op:=r) (t:=t) h).symm.trans hgo
    clear hgo
    have HS1:=lh hs1;have HS0:=lh hs0
    clear hs1 hs0
    by_cases hf:0<A2 r
    · have HF:=lh hf
      cases hte:DB r == t with
      | true =>
        have hov:=lh (HS1.out hf hte)
        go_wp2_with (first|(go_at_call 181;(with_reducible refine (BC _ _).mono ?_);rintro e wz ⟨rfl,rfl⟩)|(go_at_call 270;(with_reducible refine (mnem_any r _ HF.out).mono ?_);rintro e wz ⟨rfl,hb1⟩;have hbw1:=hbw.trans (hb1.mono hbw.size);clear hb1)|(refine A1 (by rfl) (Aj rfl rfl rfl hte) ?_))
        go_ret
        rw[←hov.out]
        exact Ret.mk hbw1
      | false =>
        have hov:=lh (HS0.out (.inr hte))
        go_wp2_with (first|(go_at_call 181;(with_reducible refine (BC _ _).mono ?_);rintro e wz ⟨rfl,rfl⟩)|(go_at_call 270;(with_reducible refine (mnem_any r _ HF.out).mono ?_);rintro e wz ⟨rfl,hb1⟩;have hbw1:=hbw.trans (hb1.mono hbw.size);clear hb1)|(refine A1 (by rfl) (Aj rfl rfl rfl hte) ?_))
        go_roundw
        case rel=>exact⟨r+1,by omega,by omega,by go_num,by rw[show 65 - (r+1)=k by omega];exact hov.out,hbw1⟩
        case measure=>simp [intOf];omega
    · have hov:=lh (HS0.out (.inl hf))
      go_wp2_with (go_at_call 181;(with_reducible refine (BC _ _).mono ?_);rintro e wz ⟨rfl,rfl⟩)
      go_roundw
      case rel=>exact⟨r+1,by omega,by omega,by go_num,by rw[show 65 - (r+1)=k by omega];exact hov.out,hbw⟩
      case measure=>simp [intOf];omega
  · obtain rfl:r=65:=by omega
    have hov:0=o:=hgo
    subst hov
    go_wp2_with fail
    go_ret
    exact Ret.mk hbw
theorem regV_none:regV none=.tuple #[.int .i64 0,.bool false]:=rfl
theorem regV_some (r:Nat):regV (some r)=.tuple #[.int .i64 r,.bool true]:=rfl
theorem Xz37 {P:Prop} (h:P:=by
  go_in
  go_wp2_with (first|(go_at_call 268;(with_reducible refine (HR.out _).mono ?_);rintro e wz ⟨rfl,hb1⟩)|(refine Ad rfl (Ax (l:=l) rfl rfl rfl τ9 HC.out) ?_)|(refine A1 (by rfl) (Ax (l:=l) rfl rfl rfl τ9 HC.out) ?_)|(go_at_call 266;(with_reducible refine (BY hlc _).mono ?_);rintro e wz ⟨rfl,rfl⟩))
  go_ret
  exact Ret.mk hb1):P:=h
theorem Xz110 {P:Prop} (h:P:=by
  go_in
  go_wp2_with (go_at_call 268;(with_reducible refine (HR.out _).mono ?_);rintro e wz ⟨rfl,hb1⟩)
  go_ret
  exact Ret.mk hb1):P:=h
theorem GZ (t:List UInt8) (w:World) (hl:t.length≤1000):Calls Tryz.prog 230 #[.string (bsL t)] w (Ret w (.bool (Fd t))):=by
 have hR:=fun w=>regOf_any t w
 have hsz:=BI t
 cases t with
 | nil =>
   have e:Fd []=false:=rfl
   rw[e]
   rw[show FP []=none from rfl,regV_none] at hR
   have HR:=lh hR;clear hR
   exact Xz110
 | cons c cs =>
   have hc:(c :: cs)[0]?=some c:=rfl
   have e:Fd (c :: cs)=(decide ((c :: cs).length≤12) && Hb c && (FP (c :: cs)).isNone):=by unfold Fd F3;simp
   rw[e]
   clear e
   have HC:=lh hc;clear hc
   have h1:1≤(c :: cs).length:=by simp
   generalize c :: cs=l at *
   obtain⟨n,hn⟩:∃ n,l.length=n:=⟨_,rfl⟩
   rw[hn] at hsz hl h1 ⊢
   clear hn
   by_cases h12:n≤12
   · rw[decide_eq_true h12,Bool.true_and]
     cases hlc:Hb c with
     | true =>
       cases ho:FP l with
       | none =>
         rw[ho,regV_none] at hR
         have HR:=lh hR;clear hR ho
         exact Xz37
       | some r =>
         rw[ho,regV_some] at hR
         have HR:=lh hR;clear hR ho
         exact Xz37
     | false =>
       rw[Bool.false_and]
       obtain⟨o,ho⟩:∃ o,FP l=o:=⟨_,rfl⟩
       rw[ho] at hR
       have HR:Hid (∃ a b:Value,∀ w:World,Calls Tryz.prog 268 #[.string (bsL l)] w (Ret w (.tuple #[a,b]))):=lh (by cases o;exact⟨_,_,hR⟩;exact⟨_,_,hR⟩)
       clear hR ho
       obtain⟨a,b,HR⟩:=HR.out
       have HR:=lh HR
       exact Xz37
   · rw[decide_eq_false h12,Bool.false_and,Bool.false_and]
     obtain⟨o,ho⟩:∃ o,FP l=o:=⟨_,rfl⟩
     rw[ho] at hR
     have HR:Hid (∃ a b:Value,∀ w:World,Calls Tryz.prog 268 #[.string (bsL l)] w (Ret w (.tuple #[a,b]))):=lh (by cases o;exact⟨_,_,hR⟩;exact⟨_,_,hR⟩)
     clear hR ho
     obtain⟨a,b,HR⟩:=HR.out
     have HR:=lh HR
     exact Xz110
end Go.Proofs.YtnmpfmapncicmaaGreat
