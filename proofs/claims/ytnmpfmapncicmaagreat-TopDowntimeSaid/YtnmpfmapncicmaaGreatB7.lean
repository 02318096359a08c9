/-
  Texts joined: TpAlu. No law is proved here.
-/
import Derived.Test.YtnmpfmapncicmaaGreatB6
namespace Go.Proofs.YtnmpfmapncicmaaGreat
set_option linter.all false
set_option maxRecDepth 100000
set_option maxHeartbeats 40000000
open Go.RowKit
theorem u32_wrap32 (q:Int):IntKind.u32.wrap (wrap32 q)=u32 q:=by unfold u32 wrap32;rw[IntKind.wrap_u32,IntKind.wrap_u32];omega
theorem divide_any (a b:Int) (w:World) (ha0:0≤a) (ha1:a<4294967296) (hb0:0≤b) (hb1:b<4294967296):Calls Tryz.prog 219 #[.int .u32 a,.int .u32 b] w (Ret w (.tuple #[.int .u32 (divQ a b),.int .u32 (divR a b)])):=by
 unfold divQ divR
 by_cases hz:b=0
 · subst hz
   rw[if_pos rfl,if_pos rfl]
   go_in
   go_wp2
   go_ret2
   exact Ret.mk' rfl bel
 · rw[if_neg hz,if_neg hz]
   have hz':(b == 0)=false:=by simpa using hz
   by_cases ho:a=2147483648∧b=4294967295
   · obtain⟨rfl,rfl⟩:=ho
     rw[show u32 ((i32 2147483648).tdiv (i32 4294967295))=2147483648 by decide +kernel,show u32 ((i32 2147483648).tmod (i32 4294967295))=0 by decide +kernel]
     go_in
     go_wp2
     go_ret2
     exact Ret.mk' rfl bel
   · have ho':((a == 2147483648) && (b == 4294967295))=false:=by
       rw[Bool.eq_false_iff];intro h;rw[Bool.and_eq_true,beq_iff_eq,beq_iff_eq] at h;exact ho h
     have hy:wrap32 b≠0:=by unfold wrap32;omega
     have hy':(wrap32 b == 0)=false:=by simpa using hy
     have hq:=u32_wrap32 ((wrap32 a).tdiv (wrap32 b))
     unfold i32
     clear ho
     by_cases h1:a=2147483648
     have h2:(b == 4294967295)=false:=by subst h1;simpa using ho'
     subst h1
     clear ho'
     rotate_left
     have h2:(a == 2147483648)=false:=by simpa using h1
     clear ho' h1
     rotate_left
     all_goals
      go_in
      go_wp2
      refine wp_region_quiet_below (by kernel_rfl) (by kernel_rfl) ?_
      repeat (go_big_quiet_step (first|fail|fail))
      refine wpQuiet_nil ?_
      intro w1 hw1
      have hb1:=Aa hw1
      clear hw1
      obtain⟨hc1,hf1⟩:=Cn hb1
      have hz1:=BH hb1
      try simp only[Bo] at hz1
      try simp only[sizes] at hc1 hf1
      go_wp2
      go_ret2
      exact Ret.mk' (by refine congrArg Value.tuple ?_;show #[Value.int .u32 (u32 _),Value.int .u32 (_ % 4294967296)]=#[_,Value.int .u32 (IntKind.u32.wrap _)];rw[IntKind.wrap_u32]) bel
theorem aluOps {op:Int} (h:(1≤op∧op≤13)∨(16≤op∧op≤23)):op=1∨op=2∨op=3∨op=4∨op=5∨op=6∨op=7∨op=8∨op=9∨op=10∨op=11∨op=12∨op=13∨op=16∨op=17∨op=18∨op=19∨op=20∨op=21∨op=22∨op=23:=by omega
theorem Co (x:Int):x % 4294967296=u32 x:=(IntKind.wrap_u32 x).symm
theorem alu_1 (a b:Int) (w:World) (ha0:0≤a) (ha1:a<4294967296) (hb0:0≤b) (hb1:b<4294967296):Calls Tryz.prog 171 #[.int .i64 1,.int .u32 a,.int .u32 b] w (Ret w (.tuple #[.int .u32 (AC 1 a b),.bool true])):=by
 have e31:=Bi hb0 hb1
 have hs0:0≤b % 32:=by omega
 have hs1:b % 32<32:=by omega
 have E:((a+b) % 4294967296)=AC 1 a b:=Co _
 rw[←E]
 clear E
 go_in
 go_wp2
 go_ret2
 exact Ret.mk' rfl bel
theorem alu_2 (a b:Int) (w:World) (ha0:0≤a) (ha1:a<4294967296) (hb0:0≤b) (hb1:b<4294967296):Calls Tryz.prog 171 #[.int .i64 2,.int .u32 a,.int .u32 b] w (Ret w (.tuple #[.int .u32 (AC 2 a b),.bool true])):=by
 have e31:=Bi hb0 hb1
 have hs0:0≤b % 32:=by omega
 have hs1:b % 32<32:=by omega
 have E:((a + -b % 4294967296) % 4294967296)=AC 2 a b:=(by show _=u32 (a - b);rw[←Co];omega)
 rw[←E]
 clear E
 go_in
 go_wp2
 go_ret2
 exact Ret.mk' rfl bel
theorem alu_3 (a b:Int) (w:World) (ha0:0≤a) (ha1:a<4294967296) (hb0:0≤b) (hb1:b<4294967296):Calls Tryz.prog 171 #[.int .i64 3,.int .u32 a,.int .u32 b] w (Ret w (.tuple #[.int .u32 (AC 3 a b),.bool true])):=by
 have e31:=Bi hb0 hb1
 have hs0:0≤b % 32:=by omega
 have hs1:b % 32<32:=by omega
 have E:(bits .and .u32 a b)=AC 3 a b:=rfl
 rw[←E]
 clear E
 go_in
 go_wp2
 go_ret2
 exact Ret.mk' rfl bel
theorem alu_4 (a b:Int) (w:World) (ha0:0≤a) (ha1:a<4294967296) (hb0:0≤b) (hb1:b<4294967296):Calls Tryz.prog 171 #[.int .i64 4,.int .u32 a,.int .u32 b] w (Ret w (.tuple #[.int .u32 (AC 4 a b),.bool true])):=by
 have e31:=Bi hb0 hb1
 have hs0:0≤b % 32:=by omega
 have hs1:b % 32<32:=by omega
 have E:(bits .or .u32 a b)=AC 4 a b:=rfl
 rw[←E]
 clear E
 go_in
 go_wp2
 go_ret2
 exact Ret.mk' rfl bel
theorem alu_5 (a b:Int) (w:World) (ha0:0≤a) (ha1:a<4294967296) (hb0:0≤b) (hb1:b<4294967296):Calls Tryz.prog 171 #[.int .i64 5,.int .u32 a,.int .u32 b] w (Ret w (.tuple #[.int .u32 (AC 5 a b),.bool true])):=by
 have e31:=Bi hb0 hb1
 have hs0:0≤b % 32:=by omega
 have hs1:b % 32<32:=by omega
 have E:(bits .xor .u32 a b)=AC 5 a b:=rfl
 rw[←E]
 clear E
 go_in
 go_wp2
 go_ret2
 exact Ret.mk' rfl bel
theorem alu_6 (a b:Int) (w:World) (ha0:0≤a) (ha1:a<4294967296) (hb0:0≤b) (hb1:b<4294967296):Calls Tryz.prog 171 #[.int .i64 6,.int .u32 a,.int .u32 b] w (Ret w (.tuple #[.int .u32 (AC 6 a b),.bool true])):=by
 have e31:=Bi hb0 hb1
 have hs0:0≤b % 32:=by omega
 have hs1:b % 32<32:=by omega
 have E:(a*2 ^ (b % 32).toNat % 4294967296)=AC 6 a b:=Co _
 rw[←E]
 clear E
 go_in
 go_wp2
 go_ret2
 exact Ret.mk' rfl bel
theorem alu_7 (a b:Int) (w:World) (ha0:0≤a) (ha1:a<4294967296) (hb0:0≤b) (hb1:b<4294967296):Calls Tryz.prog 171 #[.int .i64 7,.int .u32 a,.int .u32 b] w (Ret w (.tuple #[.int .u32 (AC 7 a b),.bool true])):=by
 have e31:=Bi hb0 hb1
 have hs0:0≤b % 32:=by omega
 have hs1:b % 32<32:=by omega
 have E:(a / 2 ^ (b % 32).toNat)=AC 7 a b:=rfl
 rw[←E]
 clear E
 go_in
 go_wp2
 go_ret2
 exact Ret.mk' rfl bel
theorem alu_8 (a b:Int) (w:World) (ha0:0≤a) (ha1:a<4294967296) (hb0:0≤b) (hb1:b<4294967296):Calls Tryz.prog 171 #[.int .i64 8,.int .u32 a,.int .u32 b] w (Ret w (.tuple #[.int .u32 (AC 8 a b),.bool true])):=by
 have e31:=Bi hb0 hb1
 have hs0:0≤b % 32:=by omega
 have hs1:b % 32<32:=by omega
 have E:(wrap32 a / 2 ^ (b % 32).toNat % 4294967296)=AC 8 a b:=Co _
 rw[←E]
 clear E
 go_in
 go_wp2
 go_ret2
 exact Ret.mk' rfl bel
theorem alu_9 (a b:Int) (w:World) (ha0:0≤a) (ha1:a<4294967296) (hb0:0≤b) (hb1:b<4294967296):Calls Tryz.prog 171 #[.int .i64 9,.int .u32 a,.int .u32 b] w (Ret w (.tuple #[.int .u32 (AC 9 a b),.bool true])):=by
 have e31:=Bi hb0 hb1
 have hs0:0≤b % 32:=by omega
 have hs1:b % 32<32:=by omega
 have E:(a*b % 4294967296)=AC 9 a b:=Co _
 rw[←E]
 clear E
 go_in
 go_wp2
 go_ret2
 exact Ret.mk' rfl bel
theorem Xz96 {P:Prop} (h:P:=by
  rw[←E]
  clear E
  have HD:=lh D;clear D
  go_in
  go_wp2_with (go_at_call 219;(with_reducible refine (HD.out _).mono ?_);rintro e w1 ⟨rfl,hb1⟩)
  go_ret2
  exact Ret.mk' rfl hb1):P:=h
theorem alu_10 (a b:Int) (w:World) (ha0:0≤a) (ha1:a<4294967296) (hb0:0≤b) (hb1:b<4294967296):Calls Tryz.prog 171 #[.int .i64 10,.int .u32 a,.int .u32 b] w (Ret w (.tuple #[.int .u32 (AC 10 a b),.bool true])):=by
 have D:=fun w=>divide_any a b w ha0 ha1 hb0 hb1
 have E:divQ a b=AC 10 a b:=rfl
 exact Xz96
theorem alu_11 (a b:Int) (w:World) (ha0:0≤a) (ha1:a<4294967296) (hb0:0≤b) (hb1:b<4294967296):Calls Tryz.prog 171 #[.int .i64 11,.int .u32 a,.int .u32 b] w (Ret w (.tuple #[.int .u32 (AC 11 a b),.bool true])):=by
 have D:=fun w=>divide_any a b w ha0 ha1 hb0 hb1
 have E:divR a b=AC 11 a b:=rfl
 exact Xz96
theorem Xz35 {P:Prop} (h:P:=by
  have HT:=lh T;clear T e
  go_in
  go_wp2_with (go_at_call 220;(with_reducible refine (HT.out _).mono ?_);rintro e wz ⟨rfl,rfl⟩)
  go_ret2
  exact Ret.mk' rfl bel):P:=h
theorem alu_12 (a b:Int) (w:World) (ha0:0≤a) (ha1:a<4294967296) (hb0:0≤b) (hb1:b<4294967296):Calls Tryz.prog 171 #[.int .i64 12,.int .u32 a,.int .u32 b] w (Ret w (.tuple #[.int .u32 (AC 12 a b),.bool true])):=by
 have e:AC 12 a b=if wrap32 a<wrap32 b then 1 else 0:=rfl
 rw[e]
 by_cases hc:wrap32 a<wrap32 b
 · rw[if_pos hc]
   have hq:decide (wrap32 a<wrap32 b)=true:=decide_eq_true hc
   have T:=fun w=>Ed true w
   exact Xz35
 · rw[if_neg hc]
   have hq:decide (wrap32 a<wrap32 b)=false:=decide_eq_false hc
   have T:=fun w=>Ed false w
   exact Xz35
theorem alu_13 (a b:Int) (w:World) (ha0:0≤a) (ha1:a<4294967296) (hb0:0≤b) (hb1:b<4294967296):Calls Tryz.prog 171 #[.int .i64 13,.int .u32 a,.int .u32 b] w (Ret w (.tuple #[.int .u32 (AC 13 a b),.bool true])):=by
 have e:AC 13 a b=if a<b then 1 else 0:=rfl
 rw[e]
 by_cases hc:a<b
 · rw[if_pos hc]
   have hq:decide (a<b)=true:=decide_eq_true hc
   have T:=fun w=>Ed true w
   exact Xz35
 · rw[if_neg hc]
   have hq:decide (a<b)=false:=decide_eq_false hc
   have T:=fun w=>Ed false w
   exact Xz35
end Go.Proofs.YtnmpfmapncicmaaGreat
