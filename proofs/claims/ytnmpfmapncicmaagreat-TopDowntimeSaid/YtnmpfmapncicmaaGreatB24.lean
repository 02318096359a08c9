/-
  Texts joined: TpRi TpRk. No law is proved here.
-/
import Derived.Test.YtnmpfmapncicmaaGreatB21
import Derived.IntWalk
namespace Go.Proofs.YtnmpfmapncicmaaGreat
set_option linter.all false
set_option maxRecDepth 100000
set_option maxHeartbeats 40000000
open Go.RowKit
theorem BC (op:Int) (w:World):Calls Tryz.prog 181 #[.int .i64 op] w (Same w (.int .i64 (A2 op))):=by
 have K:(op=16∨op=23∨op=24∨op=48∨op=49∨op=56∨op=57∨op=58∨op=59∨op=60∨op=61)∨(¬(op=16∨op=23∨op=24∨op=48∨op=49∨op=56∨op=57∨op=58∨op=59∨op=60∨op=61)):=Classical.em _
 rcases K with K|K
 · rcases K with rfl|rfl|rfl|rfl|rfl|rfl|rfl|rfl|rfl|rfl|rfl
   all_goals
    go_in
    go_wp2
    go_ret
    exact Same.mk' rfl
 · have n16:(op == 16)=false:=by rw[beq_eq_false_iff_ne];omega
   have n23:(op == 23)=false:=by rw[beq_eq_false_iff_ne];omega
   have n24:(op == 24)=false:=by rw[beq_eq_false_iff_ne];omega
   have n48:(op == 48)=false:=by rw[beq_eq_false_iff_ne];omega
   have n49:(op == 49)=false:=by rw[beq_eq_false_iff_ne];omega
   have n56:(op == 56)=false:=by rw[beq_eq_false_iff_ne];omega
   have n57:(op == 57)=false:=by rw[beq_eq_false_iff_ne];omega
   have n58:(op == 58)=false:=by rw[beq_eq_false_iff_ne];omega
   have n59:(op == 59)=false:=by rw[beq_eq_false_iff_ne];omega
   have n60:(op == 60)=false:=by rw[beq_eq_false_iff_ne];omega
   have n61:(op == 61)=false:=by rw[beq_eq_false_iff_ne];omega
   have I:op≤0∨(1≤op∧op≤13)∨(14≤op∧op≤15)∨(17≤op∧op≤19)∨(20≤op∧op≤22)∨(25≤op∧op≤31)∨(32≤op∧op≤36)∨(37≤op∧op≤39)∨(40≤op∧op≤45)∨(46≤op∧op≤47)∨(50≤op∧op≤55)∨(62≤op∧op≤64)∨65≤op:=by omega
   obtain⟨f,hf⟩:∃ f,A2 op=f:=⟨_,rfl⟩
   rw[hf]
   unfold A2 at hf
   rcases I with I|⟨I,I'⟩|⟨I,I'⟩|⟨I,I'⟩|⟨I,I'⟩|⟨I,I'⟩|⟨I,I'⟩|⟨I,I'⟩|⟨I,I'⟩|⟨I,I'⟩|⟨I,I'⟩|⟨I,I'⟩|I
   obtain rfl:0=f:=by rw[←hf];repeat rw[if_neg (by omega)]
   rotate_left
   obtain rfl:2=f:=by rw[←hf];rw[if_pos (by omega)]
   rotate_left
   obtain rfl:0=f:=by rw[←hf];repeat rw[if_neg (by omega)]
   rotate_left
   obtain rfl:4=f:=by rw[←hf,if_neg (by omega),if_neg (by omega),if_pos (by omega)]
   rotate_left
   obtain rfl:5=f:=by rw[←hf,if_neg (by omega),if_neg (by omega),if_neg (by omega),if_pos (by omega)]
   rotate_left
   obtain rfl:0=f:=by rw[←hf];repeat rw[if_neg (by omega)]
   rotate_left
   obtain rfl:3=f:=by rw[←hf,if_neg (by omega),if_pos (by omega)]
   rotate_left
   obtain rfl:0=f:=by rw[←hf];repeat rw[if_neg (by omega)]
   rotate_left
   obtain rfl:3=f:=by rw[←hf,if_neg (by omega),if_pos (by omega)]
   rotate_left
   obtain rfl:0=f:=by rw[←hf];repeat rw[if_neg (by omega)]
   rotate_left
   obtain rfl:0=f:=by rw[←hf];repeat rw[if_neg (by omega)]
   rotate_left
   obtain rfl:1=f:=by rw[←hf];(repeat rw[if_neg (by omega)]);rw[if_pos (by omega)]
   rotate_left
   obtain rfl:0=f:=by rw[←hf];repeat rw[if_neg (by omega)]
   rotate_left
   all_goals
    clear hf K
    go_in
    go_wp2
    go_ret
    exact Same.mk' rfl
theorem Ft (op:Int):0≤A2 op∧A2 op≤9:=by
 unfold A2
 repeat' split
 all_goals omega
theorem Df (f:Int) (w:World) (h0:0≤f) (h1:f≤9):Calls Tryz.prog 182 #[.int .i64 f] w (Same w (.tuple #[.int .i64 (loF f),.int .i64 (hiF f)])):=by
 obtain rfl|rfl|rfl|rfl|rfl|rfl|rfl|rfl|rfl|rfl:f=0∨f=1∨f=2∨f=3∨f=4∨f=5∨f=6∨f=7∨f=8∨f=9:=by omega
 all_goals
  clear h0 h1
  go_in
  go_wp2
  go_ret2
  exact Same.mk' rfl
def regI (r:Int):Bool:=decide (0≤r∧r≤15)
theorem Xz88 {P:Prop} (h:P:=by
  go_in
  go_wp2
  go_ret
  exact Same.mk' (congrArg Value.bool (by first|(rw[Bool.eq_iff_iff];simp only[decide_eq_true_eq];omega)|(symm;rw[Bool.and_eq_false_iff,decide_eq_false_iff_not,decide_eq_false_iff_not];omega)))):P:=h
theorem G3 (r:Int) (w:World):Calls Tryz.prog 234 #[.int .i64 r] w (Same w (.bool (regI r))):=by
 unfold regI
 by_cases h:0≤r
 · go_in
   go_wp2
   exact Xz57
 · exact Xz88
theorem Dz (op:Int) (w:World):Calls Tryz.prog 192 #[.int .i64 op] w (Same w (.bool (BP op))):=by
 unfold BP
 by_cases h:57≤op
 · go_in
   go_wp2
   exact Xz57
 · exact Xz88
def plainI (op:Int):Int:=if op=16 then 1 else if op=17 then 3 else if op=18 then 4 else if op=19 then 5 else if op=20 then 6 else if op=21 then 7 else if op=22 then 8 else if op=23 then 12 else op
theorem AH (op:Int) (w:World) (ho:(1≤op∧op≤13)∨(16≤op∧op≤23)):Calls Tryz.prog 252 #[.int .i64 op] w (Same w (.int .i64 (plainI op))):=by
 rcases ho with ho|ho
 · have e:plainI op=op:=by unfold plainI;repeat rw[if_neg (by omega)]
   rw[e]
   have n0:(op == 16)=false:=by rw[beq_eq_false_iff_ne];omega
   have n1:(op == 17)=false:=by rw[beq_eq_false_iff_ne];omega
   have n2:(op == 18)=false:=by rw[beq_eq_false_iff_ne];omega
   have n3:(op == 19)=false:=by rw[beq_eq_false_iff_ne];omega
   have n4:(op == 20)=false:=by rw[beq_eq_false_iff_ne];omega
   have n5:(op == 21)=false:=by rw[beq_eq_false_iff_ne];omega
   have n6:(op == 22)=false:=by rw[beq_eq_false_iff_ne];omega
   have n7:(op == 23)=false:=by rw[beq_eq_false_iff_ne];omega
   clear ho e
   go_in
   go_wp2
   go_ret
   exact Same.mk
 · obtain rfl|rfl|rfl|rfl|rfl|rfl|rfl|rfl:op=16∨op=17∨op=18∨op=19∨op=20∨op=21∨op=22∨op=23:=by omega
   all_goals
    clear ho
    go_in
    go_wp2
    go_ret
    exact Same.mk' rfl
theorem Ji (a b:Int) (w:World) (ha0:0≤a) (ha1:a<4294967296) (hb0:0≤b) (hb1:b<4294967296):Calls Tryz.prog 253 #[.int .u32 a,.int .u32 b] w (Ret w (.tuple #[.int .u32 (divQ a b),.int .u32 (divR a b)])):=by
 unfold divQ divR
 by_cases hz:b=0
 · subst hz
   rw[if_pos rfl,if_pos rfl]
   go_in
   go_wp2
   go_ret2
   exact Ret.mk' rfl bel
 · rw[if_neg hz,if_neg hz]
   have hz':(b == 0)=false:=by simpa using hz
   have hy:wrap32 b≠0:=by unfold wrap32;omega
   have hy':(wrap32 b == 0)=false:=by simpa using hy
   have hxb : -2147483648≤wrap32 a∧wrap32 a≤2147483647:=by unfold wrap32;omega
   have hyb : -2147483648≤wrap32 b∧wrap32 b≤2147483647:=by unfold wrap32;omega
   unfold i32
   have hq : -2147483648≤(wrap32 a).tdiv (wrap32 b)∧(wrap32 a).tdiv (wrap32 b)≤2147483648:=by
    have h1:=Int.natAbs_tdiv_le_natAbs (wrap32 a) (wrap32 b)
    omega
   have hr : -2147483648≤(wrap32 a).tmod (wrap32 b)∧(wrap32 a).tmod (wrap32 b)≤2147483648:=by
    have h1:((wrap32 a).tmod (wrap32 b)).natAbs≤(wrap32 a).natAbs:=by rw[Int.natAbs_tmod];exact Nat.mod_le _ _
    omega
   have w1:wrap64 (wrap32 a)=wrap32 a:=by unfold wrap64;omega
   have w2:wrap64 (wrap32 b)=wrap32 b:=by unfold wrap64;omega
   have hy2:(wrap64 (wrap32 b) == 0)=false:=by rw[w2];exact hy'
   have w5:IntKind.i64.wrap ((wrap64 (wrap32 a)).tdiv (wrap64 (wrap32 b)))=(wrap32 a).tdiv (wrap32 b):=by rw[w1,w2];exact IntWalk.i64_in _ (by omega)
   have w6:IntKind.i64.wrap ((wrap64 (wrap32 a)).tmod (wrap64 (wrap32 b)))=(wrap32 a).tmod (wrap32 b):=by rw[w1,w2];exact IntWalk.i64_in _ (by omega)
   have hy3:wrap64 (wrap32 b)≠0:=by rw[w2];exact hy
   have W1:=lh w1
   have W2:=lh w2
   clear w1 w2 hy'
   clear hq hr hxb hyb hz hy
   go_in
   go_wp2
   refine wp_region_quiet_below (by kernel_rfl) (by kernel_rfl) ?_
   repeat (go_big_quiet_step (first|fail|fail))
   refine wpQuiet_nil ?_
   intro w1 hw1
   have hb1:=Aa hw1
   clear hw1
   obtain⟨hc1,hf1⟩:=Cn hb1
   have hz1:=BH hb1
   try simp only[Bo] at hz1
   try simp only[sizes] at hc1 hf1
   go_wp2
   go_ret2
   exact Ret.mk' (by refine congrArg Value.tuple ?_;first|rfl|(show #[Value.int .u32 (_ % 4294967296),Value.int .u32 (_ % 4294967296)]=#[Value.int .u32 (IntKind.u32.wrap _),Value.int .u32 (IntKind.u32.wrap _)];simp only[IntKind.wrap_u32,W1.out,W2.out])) bel
theorem Gz {P:Prop} (h:P:=by
  rw[←E]
  clear E
  go_in
  go_wp2_with (refine YL ?_)
  go_ret2
  exact Ret.mk' rfl bel):P:=h
theorem ralu_1 (a b:Int) (w:World) (ha0:0≤a) (ha1:a<4294967296) (hb0:0≤b) (hb1:b<4294967296):Calls Tryz.prog 196 #[.int .i64 1,.int .u32 a,.int .u32 b] w (Ret w (.tuple #[.int .u32 (AC 1 a b),.bool true])):=by
 have P:∀ w,Calls Tryz.prog 252 #[.int .i64 1] w (Same w (.int .i64 1)):=fun w=>AH 1 w (by decide)
 have HP:=lh P;clear P
 have e31:=Bi hb0 hb1
 have hs0:0≤b % 32:=by omega
 have hs1:b % 32<32:=by omega
 have E:((a+b) % 4294967296)=AC 1 a b:=Co _
 exact Gz
theorem ralu_2 (a b:Int) (w:World) (ha0:0≤a) (ha1:a<4294967296) (hb0:0≤b) (hb1:b<4294967296):Calls Tryz.prog 196 #[.int .i64 2,.int .u32 a,.int .u32 b] w (Ret w (.tuple #[.int .u32 (AC 2 a b),.bool true])):=by
 have P:∀ w,Calls Tryz.prog 252 #[.int .i64 2] w (Same w (.int .i64 2)):=fun w=>AH 2 w (by decide)
 have HP:=lh P;clear P
 have e31:=Bi hb0 hb1
 have hs0:0≤b % 32:=by omega
 have hs1:b % 32<32:=by omega
 have E:((a - b) % 4294967296)=AC 2 a b:=Co _
 exact Gz
theorem ralu_3 (a b:Int) (w:World) (ha0:0≤a) (ha1:a<4294967296) (hb0:0≤b) (hb1:b<4294967296):Calls Tryz.prog 196 #[.int .i64 3,.int .u32 a,.int .u32 b] w (Ret w (.tuple #[.int .u32 (AC 3 a b),.bool true])):=by
 have P:∀ w,Calls Tryz.prog 252 #[.int .i64 3] w (Same w (.int .i64 3)):=fun w=>AH 3 w (by decide)
 have HP:=lh P;clear P
 have e31:=Bi hb0 hb1
 have hs0:0≤b % 32:=by omega
 have hs1:b % 32<32:=by omega
 have E:(bits .and .u32 a b)=AC 3 a b:=rfl
 exact Gz
theorem ralu_4 (a b:Int) (w:World) (ha0:0≤a) (ha1:a<4294967296) (hb0:0≤b) (hb1:b<4294967296):Calls Tryz.prog 196 #[.int .i64 4,.int .u32 a,.int .u32 b] w (Ret w (.tuple #[.int .u32 (AC 4 a b),.bool true])):=by
 have P:∀ w,Calls Tryz.prog 252 #[.int .i64 4] w (Same w (.int .i64 4)):=fun w=>AH 4 w (by decide)
 have HP:=lh P;clear P
 have e31:=Bi hb0 hb1
 have hs0:0≤b % 32:=by omega
 have hs1:b % 32<32:=by omega
 have E:(bits .or .u32 a b)=AC 4 a b:=rfl
 exact Gz
theorem ralu_5 (a b:Int) (w:World) (ha0:0≤a) (ha1:a<4294967296) (hb0:0≤b) (hb1:b<4294967296):Calls Tryz.prog 196 #[.int .i64 5,.int .u32 a,.int .u32 b] w (Ret w (.tuple #[.int .u32 (AC 5 a b),.bool true])):=by
 have P:∀ w,Calls Tryz.prog 252 #[.int .i64 5] w (Same w (.int .i64 5)):=fun w=>AH 5 w (by decide)
 have HP:=lh P;clear P
 have e31:=Bi hb0 hb1
 have hs0:0≤b % 32:=by omega
 have hs1:b % 32<32:=by omega
 have E:(bits .xor .u32 a b)=AC 5 a b:=rfl
 exact Gz
theorem ralu_6 (a b:Int) (w:World) (ha0:0≤a) (ha1:a<4294967296) (hb0:0≤b) (hb1:b<4294967296):Calls Tryz.prog 196 #[.int .i64 6,.int .u32 a,.int .u32 b] w (Ret w (.tuple #[.int .u32 (AC 6 a b),.bool true])):=by
 have P:∀ w,Calls Tryz.prog 252 #[.int .i64 6] w (Same w (.int .i64 6)):=fun w=>AH 6 w (by decide)
 have HP:=lh P;clear P
 have e31:=Bi hb0 hb1
 have hs0:0≤b % 32:=by omega
 have hs1:b % 32<32:=by omega
 have E:(a*2 ^ (b % 32).toNat % 4294967296)=AC 6 a b:=Co _
 exact Gz
theorem ralu_7 (a b:Int) (w:World) (ha0:0≤a) (ha1:a<4294967296) (hb0:0≤b) (hb1:b<4294967296):Calls Tryz.prog 196 #[.int .i64 7,.int .u32 a,.int .u32 b] w (Ret w (.tuple #[.int .u32 (AC 7 a b),.bool true])):=by
 have P:∀ w,Calls Tryz.prog 252 #[.int .i64 7] w (Same w (.int .i64 7)):=fun w=>AH 7 w (by decide)
 have HP:=lh P;clear P
 have e31:=Bi hb0 hb1
 have hs0:0≤b % 32:=by omega
 have hs1:b % 32<32:=by omega
 have E:(a / 2 ^ (b % 32).toNat)=AC 7 a b:=rfl
 exact Gz
theorem ralu_8 (a b:Int) (w:World) (ha0:0≤a) (ha1:a<4294967296) (hb0:0≤b) (hb1:b<4294967296):Calls Tryz.prog 196 #[.int .i64 8,.int .u32 a,.int .u32 b] w (Ret w (.tuple #[.int .u32 (AC 8 a b),.bool true])):=by
 have P:∀ w,Calls Tryz.prog 252 #[.int .i64 8] w (Same w (.int .i64 8)):=fun w=>AH 8 w (by decide)
 have HP:=lh P;clear P
 have e31:=Bi hb0 hb1
 have hs0:0≤b % 32:=by omega
 have hs1:b % 32<32:=by omega
 have E:(wrap32 a / 2 ^ (b % 32).toNat % 4294967296)=AC 8 a b:=Co _
 exact Gz
theorem ralu_9 (a b:Int) (w:World) (ha0:0≤a) (ha1:a<4294967296) (hb0:0≤b) (hb1:b<4294967296):Calls Tryz.prog 196 #[.int .i64 9,.int .u32 a,.int .u32 b] w (Ret w (.tuple #[.int .u32 (AC 9 a b),.bool true])):=by
 have P:∀ w,Calls Tryz.prog 252 #[.int .i64 9] w (Same w (.int .i64 9)):=fun w=>AH 9 w (by decide)
 have HP:=lh P;clear P
 have e31:=Bi hb0 hb1
 have hs0:0≤b % 32:=by omega
 have hs1:b % 32<32:=by omega
 have E:(a*b % 4294967296)=AC 9 a b:=Co _
 exact Gz
theorem Xz90 {P:Prop} (h:P:=by
  rw[←E]
  clear E
  have HD:=lh D;clear D
  go_in
  go_wp2_with (first|(go_at_call 253;(with_reducible refine (HD.out _).mono ?_);rintro e w1 ⟨rfl,hb1⟩)|(refine YL ?_))
  go_ret2
  exact Ret.mk' rfl hb1):P:=h
theorem ralu_10 (a b:Int) (w:World) (ha0:0≤a) (ha1:a<4294967296) (hb0:0≤b) (hb1:b<4294967296):Calls Tryz.prog 196 #[.int .i64 10,.int .u32 a,.int .u32 b] w (Ret w (.tuple #[.int .u32 (AC 10 a b),.bool true])):=by
 have P:∀ w,Calls Tryz.prog 252 #[.int .i64 10] w (Same w (.int .i64 10)):=fun w=>AH 10 w (by decide)
 have HP:=lh P;clear P
 have D:=fun w=>Ji a b w ha0 ha1 hb0 hb1
 have E:divQ a b=AC 10 a b:=rfl
 exact Xz90
theorem ralu_11 (a b:Int) (w:World) (ha0:0≤a) (ha1:a<4294967296) (hb0:0≤b) (hb1:b<4294967296):Calls Tryz.prog 196 #[.int .i64 11,.int .u32 a,.int .u32 b] w (Ret w (.tuple #[.int .u32 (AC 11 a b),.bool true])):=by
 have P:∀ w,Calls Tryz.prog 252 #[.int .i64 11] w (Same w (.int .i64 11)):=fun w=>AH 11 w (by decide)
 have HP:=lh P;clear P
 have D:=fun w=>Ji a b w ha0 ha1 hb0 hb1
 have E:divR a b=AC 11 a b:=rfl
 exact Xz90
theorem Xz43 {P:Prop} (h:P:=by
  rw[e]
  by_cases hc:wrap32 a<wrap32 b
  rw[if_pos hc]
  have hq:decide (wrap32 a<wrap32 b)=true:=decide_eq_true hc
  have T:∀ w,Calls Tryz.prog 242 #[.bool true] w (Same w (.int .u32 1)):=fun w=>DO true w
  rotate_left
  rw[if_neg hc]
  have hq:decide (wrap32 a<wrap32 b)=false:=decide_eq_false hc
  have T:∀ w,Calls Tryz.prog 242 #[.bool false] w (Same w (.int .u32 0)):=fun w=>DO false w
  rotate_left
  all_goals
   have HT:=lh T;clear T e
   go_in
   go_wp2_with (first|(go_at_call 242;(with_reducible refine (HT.out _).mono ?_);rintro e wz ⟨rfl,rfl⟩)|(refine YL ?_))
   go_ret2
   exact Ret.mk' rfl bel):P:=h
theorem ralu_12 (a b:Int) (w:World) (ha0:0≤a) (ha1:a<4294967296) (hb0:0≤b) (hb1:b<4294967296):Calls Tryz.prog 196 #[.int .i64 12,.int .u32 a,.int .u32 b] w (Ret w (.tuple #[.int .u32 (AC 12 a b),.bool true])):=by
 have P:∀ w,Calls Tryz.prog 252 #[.int .i64 12] w (Same w (.int .i64 12)):=fun w=>AH 12 w (by decide)
 have HP:=lh P;clear P
 have e:AC 12 a b=if wrap32 a<wrap32 b then 1 else 0:=rfl
 exact Xz43
theorem ralu_13 (a b:Int) (w:World) (ha0:0≤a) (ha1:a<4294967296) (hb0:0≤b) (hb1:b<4294967296):Calls Tryz.prog 196 #[.int .i64 13,.int .u32 a,.int .u32 b] w (Ret w (.tuple #[.int .u32 (AC 13 a b),.bool true])):=by
 have P:∀ w,Calls Tryz.prog 252 #[.int .i64 13] w (Same w (.int .i64 13)):=fun w=>AH 13 w (by decide)
 have HP:=lh P;clear P
 have e:AC 13 a b=if a<b then 1 else 0:=rfl
 rw[e]
 by_cases hc:a<b
 rw[if_pos hc]
 have hq:decide (a<b)=true:=decide_eq_true hc
 have T:∀ w,Calls Tryz.prog 242 #[.bool true] w (Same w (.int .u32 1)):=fun w=>DO true w
 rotate_left
 rw[if_neg hc]
 have hq:decide (a<b)=false:=decide_eq_false hc
 have T:∀ w,Calls Tryz.prog 242 #[.bool false] w (Same w (.int .u32 0)):=fun w=>DO false w
 rotate_left
 all_goals
  have HT:=lh T;clear T e
  go_in
  go_wp2_with (first|(go_at_call 242;(with_reducible refine (HT.out _).mono ?_);rintro e wz ⟨rfl,rfl⟩)|(refine YL ?_))
  go_ret2
  exact Ret.mk' rfl bel
theorem ralu_16 (a b:Int) (w:World) (ha0:0≤a) (ha1:a<4294967296) (hb0:0≤b) (hb1:b<4294967296):Calls Tryz.prog 196 #[.int .i64 16,.int .u32 a,.int .u32 b] w (Ret w (.tuple #[.int .u32 (AC 16 a b),.bool true])):=by
 have P:∀ w,Calls Tryz.prog 252 #[.int .i64 16] w (Same w (.int .i64 1)):=fun w=>AH 16 w (by decide)
 have HP:=lh P;clear P
 have e31:=Bi hb0 hb1
 have hs0:0≤b % 32:=by omega
 have hs1:b % 32<32:=by omega
 have E:((a+b) % 4294967296)=AC 16 a b:=Co _
 exact Gz
theorem ralu_17 (a b:Int) (w:World) (ha0:0≤a) (ha1:a<4294967296) (hb0:0≤b) (hb1:b<4294967296):Calls Tryz.prog 196 #[.int .i64 17,.int .u32 a,.int .u32 b] w (Ret w (.tuple #[.int .u32 (AC 17 a b),.bool true])):=by
 have P:∀ w,Calls Tryz.prog 252 #[.int .i64 17] w (Same w (.int .i64 3)):=fun w=>AH 17 w (by decide)
 have HP:=lh P;clear P
 have e31:=Bi hb0 hb1
 have hs0:0≤b % 32:=by omega
 have hs1:b % 32<32:=by omega
 have E:(bits .and .u32 a b)=AC 17 a b:=rfl
 exact Gz
theorem ralu_18 (a b:Int) (w:World) (ha0:0≤a) (ha1:a<4294967296) (hb0:0≤b) (hb1:b<4294967296):Calls Tryz.prog 196 #[.int .i64 18,.int .u32 a,.int .u32 b] w (Ret w (.tuple #[.int .u32 (AC 18 a b),.bool true])):=by
 have P:∀ w,Calls Tryz.prog 252 #[.int .i64 18] w (Same w (.int .i64 4)):=fun w=>AH 18 w (by decide)
 have HP:=lh P;clear P
 have e31:=Bi hb0 hb1
 have hs0:0≤b % 32:=by omega
 have hs1:b % 32<32:=by omega
 have E:(bits .or .u32 a b)=AC 18 a b:=rfl
 exact Gz
theorem ralu_19 (a b:Int) (w:World) (ha0:0≤a) (ha1:a<4294967296) (hb0:0≤b) (hb1:b<4294967296):Calls Tryz.prog 196 #[.int .i64 19,.int .u32 a,.int .u32 b] w (Ret w (.tuple #[.int .u32 (AC 19 a b),.bool true])):=by
 have P:∀ w,Calls Tryz.prog 252 #[.int .i64 19] w (Same w (.int .i64 5)):=fun w=>AH 19 w (by decide)
 have HP:=lh P;clear P
 have e31:=Bi hb0 hb1
 have hs0:0≤b % 32:=by omega
 have hs1:b % 32<32:=by omega
 have E:(bits .xor .u32 a b)=AC 19 a b:=rfl
 exact Gz
theorem ralu_20 (a b:Int) (w:World) (ha0:0≤a) (ha1:a<4294967296) (hb0:0≤b) (hb1:b<4294967296):Calls Tryz.prog 196 #[.int .i64 20,.int .u32 a,.int .u32 b] w (Ret w (.tuple #[.int .u32 (AC 20 a b),.bool true])):=by
 have P:∀ w,Calls Tryz.prog 252 #[.int .i64 20] w (Same w (.int .i64 6)):=fun w=>AH 20 w (by decide)
 have HP:=lh P;clear P
 have e31:=Bi hb0 hb1
 have hs0:0≤b % 32:=by omega
 have hs1:b % 32<32:=by omega
 have E:(a*2 ^ (b % 32).toNat % 4294967296)=AC 20 a b:=Co _
 exact Gz
theorem ralu_21 (a b:Int) (w:World) (ha0:0≤a) (ha1:a<4294967296) (hb0:0≤b) (hb1:b<4294967296):Calls Tryz.prog 196 #[.int .i64 21,.int .u32 a,.int .u32 b] w (Ret w (.tuple #[.int .u32 (AC 21 a b),.bool true])):=by
 have P:∀ w,Calls Tryz.prog 252 #[.int .i64 21] w (Same w (.int .i64 7)):=fun w=>AH 21 w (by decide)
 have HP:=lh P;clear P
 have e31:=Bi hb0 hb1
 have hs0:0≤b % 32:=by omega
 have hs1:b % 32<32:=by omega
 have E:(a / 2 ^ (b % 32).toNat)=AC 21 a b:=rfl
 exact Gz
theorem ralu_22 (a b:Int) (w:World) (ha0:0≤a) (ha1:a<4294967296) (hb0:0≤b) (hb1:b<4294967296):Calls Tryz.prog 196 #[.int .i64 22,.int .u32 a,.int .u32 b] w (Ret w (.tuple #[.int .u32 (AC 22 a b),.bool true])):=by
 have P:∀ w,Calls Tryz.prog 252 #[.int .i64 22] w (Same w (.int .i64 8)):=fun w=>AH 22 w (by decide)
 have HP:=lh P;clear P
 have e31:=Bi hb0 hb1
 have hs0:0≤b % 32:=by omega
 have hs1:b % 32<32:=by omega
 have E:(wrap32 a / 2 ^ (b % 32).toNat % 4294967296)=AC 22 a b:=Co _
 exact Gz
theorem ralu_23 (a b:Int) (w:World) (ha0:0≤a) (ha1:a<4294967296) (hb0:0≤b) (hb1:b<4294967296):Calls Tryz.prog 196 #[.int .i64 23,.int .u32 a,.int .u32 b] w (Ret w (.tuple #[.int .u32 (AC 23 a b),.bool true])):=by
 have P:∀ w,Calls Tryz.prog 252 #[.int .i64 23] w (Same w (.int .i64 12)):=fun w=>AH 23 w (by decide)
 have HP:=lh P;clear P
 have e:AC 23 a b=if wrap32 a<wrap32 b then 1 else 0:=rfl
 exact Xz43
theorem ralu_any (op a b:Int) (w:World) (ho:(1≤op∧op≤13)∨(16≤op∧op≤23)) (ha0:0≤a) (ha1:a<4294967296) (hb0:0≤b) (hb1:b<4294967296):Calls Tryz.prog 196 #[.int .i64 op,.int .u32 a,.int .u32 b] w (Ret w (.tuple #[.int .u32 (AC op a b),.bool true])):=by
 rcases aluOps ho with rfl|rfl|rfl|rfl|rfl|rfl|rfl|rfl|rfl|rfl|rfl|rfl|rfl|rfl|rfl|rfl|rfl|rfl|rfl|rfl|rfl
 · exact ralu_1 a b w ha0 ha1 hb0 hb1
 · exact ralu_2 a b w ha0 ha1 hb0 hb1
 · exact ralu_3 a b w ha0 ha1 hb0 hb1
 · exact ralu_4 a b w ha0 ha1 hb0 hb1
 · exact ralu_5 a b w ha0 ha1 hb0 hb1
 · exact ralu_6 a b w ha0 ha1 hb0 hb1
 · exact ralu_7 a b w ha0 ha1 hb0 hb1
 · exact ralu_8 a b w ha0 ha1 hb0 hb1
 · exact ralu_9 a b w ha0 ha1 hb0 hb1
 · exact ralu_10 a b w ha0 ha1 hb0 hb1
 · exact ralu_11 a b w ha0 ha1 hb0 hb1
 · exact ralu_12 a b w ha0 ha1 hb0 hb1
 · exact ralu_13 a b w ha0 ha1 hb0 hb1
 · exact ralu_16 a b w ha0 ha1 hb0 hb1
 · exact ralu_17 a b w ha0 ha1 hb0 hb1
 · exact ralu_18 a b w ha0 ha1 hb0 hb1
 · exact ralu_19 a b w ha0 ha1 hb0 hb1
 · exact ralu_20 a b w ha0 ha1 hb0 hb1
 · exact ralu_21 a b w ha0 ha1 hb0 hb1
 · exact ralu_22 a b w ha0 ha1 hb0 hb1
 · exact ralu_23 a b w ha0 ha1 hb0 hb1
end Go.Proofs.YtnmpfmapncicmaaGreat
