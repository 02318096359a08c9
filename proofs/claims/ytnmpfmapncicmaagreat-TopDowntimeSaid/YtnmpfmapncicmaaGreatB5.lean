/-
  Texts joined: TpDec TpDecode TpLay. No law is proved here.
-/
import Derived.Test.YtnmpfmapncicmaaGreatB2
import Derived.Test.YtnmpfmapncicmaaGreatB3
namespace Go.Proofs.YtnmpfmapncicmaaGreat
set_option linter.all false
set_option maxRecDepth 100000
set_option maxHeartbeats 40000000
open Go.RowKit
def EE (r:Int) (used:Bool):Bool:=if used=true then decide (0≤r∧r≤15) else r == 0
theorem Fq (r:Int) (b:Bool) (w:World):Calls Tryz.prog 217 #[.int .i64 r,.bool b] w (Same w (.bool (EE r b))):=by
 cases b
 · go_in
   go_wp2
   go_ret
   exact Same.mk' rfl
 · by_cases h:0≤r
   · go_in
     go_wp2
     go_ret
     exact Same.mk' (congrArg Value.bool (by simp [EE,h]))
   · have h':decide (0≤r)=false:=decide_eq_false h
     go_in
     go_wp2
     go_ret
     exact Same.mk' (congrArg Value.bool (by simp [EE];omega))
def inV (i:In):Value:=.agg #[.int .i64 i.op,.int .i64 i.a,.int .i64 i.b,.int .i64 i.c,.int .i32 i.imm]
theorem Xz16 {P:Prop} (h:P:=by
  go_in
  go_wp2_with fail
  refine (HU.out _).mono ?_
  rintro e w1 ⟨rfl,hb1⟩
  obtain⟨hc1,hf1⟩:=Cn hb1
  have hz1:=BH hb1
  try simp only[Bo] at hz1
  try simp only[sizes] at hc1 hf1
  go_wp2_with (first|(go_at_call 217;((with_reducible refine (HRA.out _).mono ?_);rintro e wz ⟨rfl,rfl⟩))|(go_at_call 217;((with_reducible refine (HRB.out _).mono ?_);rintro e wz ⟨rfl,rfl⟩))|(go_at_call 217;((with_reducible refine (HRC.out _).mono ?_);rintro e wz ⟨rfl,rfl⟩)))
  go_ret
  exact Ret.mk' (by simp) bel):P:=h
theorem valid_any (op a b c imm f:Int) (A B C L H:Bool) (w:World) (hf:A2 op=f) (h0:f≠0) (hA:EE a (decide (2≤f))=A) (hB:EE b (decide (2≤f∧f≤5))=B) (hC:EE c (decide (f=2))=C) (hL:decide (loF f≤imm)=L) (hH:decide (imm≤hiF f)=H) :
    Calls Tryz.prog 164 #[.agg #[.int .i64 op,.int .i64 a,.int .i64 b,.int .i64 c,.int .i32 imm]] w (Ret w (.bool (A && B && C && L && H))):=by
 have U:=fun w=>use_any op w
 rw[hf] at U
 unfold useV useA at U
 rw[decide_eq_true h0] at U
 have RA:=fun w=>Fq a (decide (2≤f)) w
 have RB:=fun w=>Fq b (decide (2≤f∧f≤5)) w
 have RC:=fun w=>Fq c (decide (f=2)) w
 rw[hA] at RA
 rw[hB] at RB
 rw[hC] at RC
 obtain⟨ua,hua⟩:∃ u,decide (2≤f)=u:=⟨_,rfl⟩
 obtain⟨ub,hub⟩:∃ u,decide (2≤f∧f≤5)=u:=⟨_,rfl⟩
 obtain⟨uc,huc⟩:∃ u,decide (f=2)=u:=⟨_,rfl⟩
 obtain⟨lo,hlo⟩:∃ u,loF f=u:=⟨_,rfl⟩
 obtain⟨hi,hhi⟩:∃ u,hiF f=u:=⟨_,rfl⟩
 rw[hua,hub,huc,hlo,hhi] at U
 rw[hua] at RA
 rw[hub] at RB
 rw[huc] at RC
 rw[hlo] at hL
 rw[hhi] at hH
 have HU:=lh U;have HRA:=lh RA;have HRB:=lh RB;have HRC:=lh RC
 clear U RA RB RC hA hB hC hua hub huc hlo hhi hf h0
 cases A
 · exact Xz16
 cases B
 · exact Xz16
 cases C
 · exact Xz16
 cases L
 · exact Xz16
 go_in
 go_wp2_with fail
 refine (HU.out _).mono ?_
 rintro e w1 ⟨rfl,hb1⟩
 obtain⟨hc1,hf1⟩:=Cn hb1
 have hz1:=BH hb1
 try simp only[Bo] at hz1
 try simp only[sizes] at hc1 hf1
 go_wp2_with (first|(go_at_call 217;((with_reducible refine (HRA.out _).mono ?_);rintro e wz ⟨rfl,rfl⟩))|(go_at_call 217;((with_reducible refine (HRB.out _).mono ?_);rintro e wz ⟨rfl,rfl⟩))|(go_at_call 217;((with_reducible refine (HRC.out _).mono ?_);rintro e wz ⟨rfl,rfl⟩)))
 go_ret
 exact Ret.mk' (by simp) bel
theorem sext16_any (v:Int) (w:World) (h0:0≤v) (h1:v<65536):Calls Tryz.prog 163 #[.int .u32 v,.int .i64 16] w (Same w (.int .u32 (if 32768≤v then v+4294901760 else v))):=by
 have e1:IntKind.u32.wrap (v*65536)=v*65536:=by rw[IntKind.wrap_u32];omega
 by_cases h:32768≤v
 · rw[if_pos h]
   have e2:wrap32 (v*65536)=v*65536 - 4294967296:=by unfold wrap32;omega
   have e3:(v*65536 - 4294967296) / 65536=v - 65536:=by omega
   have e4:IntKind.u32.wrap (v - 65536)=v+4294901760:=by rw[IntKind.wrap_u32];omega
   go_in
   go_wp2
   go_ret
   exact Same.mk
 · rw[if_neg h]
   have e2:wrap32 (v*65536)=v*65536:=by unfold wrap32;omega
   have e3:v*65536 / 65536=v:=by omega
   have e4:IntKind.u32.wrap v=v:=by rw[IntKind.wrap_u32];omega
   go_in
   go_wp2
   go_ret
   exact Same.mk
theorem sext8_any (v:Int) (w:World) (h0:0≤v) (h1:v<256):Calls Tryz.prog 163 #[.int .u32 v,.int .i64 8] w (Same w (.int .u32 (sx8 v))):=by
 have e1:IntKind.u32.wrap (v*16777216)=v*16777216:=by rw[IntKind.wrap_u32];omega
 unfold sx8
 by_cases h:128≤v
 · rw[if_pos h]
   have e2:wrap32 (v*16777216)=v*16777216 - 4294967296:=by unfold wrap32;omega
   have e3:(v*16777216 - 4294967296) / 16777216=v - 256:=by omega
   have e4:IntKind.u32.wrap (v - 256)=v+4294967040:=by rw[IntKind.wrap_u32];omega
   go_in
   go_wp2
   go_ret
   exact Same.mk
 · rw[if_neg h]
   have e2:wrap32 (v*16777216)=v*16777216:=by unfold wrap32;omega
   have e3:v*16777216 / 16777216=v:=by omega
   have e4:IntKind.u32.wrap v=v:=by rw[IntKind.wrap_u32];omega
   go_in
   go_wp2
   go_ret
   exact Same.mk
def inZ:In:=⟨0,0,0,0,0⟩
def decV (o:Option In):Value:=match o with
 | none=>.tuple #[inV inZ,.bool false]
 | some i=>.tuple #[inV i,.bool true]
theorem decI_if (x:Int) (hf:A2 (x / 16777216)≠0) :
    C9 x=if (EE (x / 1048576 % 16) (decide (2≤A2 (x / 16777216))) && EE (x / 65536 % 16) (decide (2≤A2 (x / 16777216)∧A2 (x / 16777216)≤5)) &&
     EE (if A2 (x / 16777216)=2 then x % 65536 else 0) (decide (A2 (x / 16777216)=2)) && decide (loF (A2 (x / 16777216))≤DQ (A2 (x / 16777216)) (x % 65536)) && decide (DQ (A2 (x / 16777216)) (x % 65536)≤hiF (A2 (x / 16777216))))=true
     then some ⟨x / 16777216,x / 1048576 % 16,x / 65536 % 16,if A2 (x / 16777216)=2 then x % 65536 else 0,DQ (A2 (x / 16777216)) (x % 65536)⟩ else none:=by
 unfold C9
 have hpos:1≤A2 (x / 16777216):=by
  revert hf
  unfold A2
  repeat' split
  all_goals omega
 generalize A2 (x / 16777216)=f at *
 generalize DQ f (x % 65536)=m
 refine ite_congr (propext ?_) (fun _=>rfl) (fun _=>rfl)
 unfold EE
 by_cases f1:2≤f <;> by_cases f2:f≤5 <;> by_cases f3:f=2 <;> simp [f1,f2,f3,hf] <;> omega
theorem FQ (op:Int) (w:World) (h:A2 op≠0):Calls Tryz.prog 93 #[.int .i64 op] w (Same w (.bool (BP op))):=by
 by_cases hp:BP op=true
 · rw[hp]
   have:=of_decide_eq_true hp
   obtain rfl|rfl|rfl|rfl|rfl|rfl|rfl|rfl:op=57∨op=58∨op=59∨op=60∨op=61∨op=62∨op=63∨op=64:=by omega
   all_goals
    clear h hp this
    go_in
    go_wp2
    go_ret
    exact Same.mk' rfl
 · have hp':BP op=false:=by simpa using hp
   rw[hp']
   have N:∀ k:Int,57≤k→k≤64→(op == k)=false:=fun k h1 h2=>by
    rw[beq_eq_false_iff_ne];rintro rfl;exact hp (decide_eq_true ⟨h1,h2⟩)
   have n0:=N 57 (by decide) (by decide)
   have n1:=N 58 (by decide) (by decide)
   have n2:=N 59 (by decide) (by decide)
   have n3:=N 60 (by decide) (by decide)
   have n4:=N 61 (by decide) (by decide)
   have n5:=N 62 (by decide) (by decide)
   have n6:=N 63 (by decide) (by decide)
   have n7:=N 64 (by decide) (by decide)
   clear N hp hp' h
   go_in
   go_wp2
   go_ret
   exact Same.mk' rfl
theorem valid_in (i:In) (f:Int) (A B C L H:Bool) (w:World) (hf:A2 i.op=f) (h0:f≠0) (hA:EE i.a (decide (2≤f))=A) (hB:EE i.b (decide (2≤f∧f≤5))=B) (hC:EE i.c (decide (f=2))=C) (hL:decide (loF f≤i.imm)=L) (hH:decide (i.imm≤hiF f)=H) :
    Calls Tryz.prog 164 #[inV i] w (Ret w (.bool (A && B && C && L && H))):=valid_any i.op i.a i.b i.c i.imm f A B C L H w hf h0 hA hB hC hL hH
def inL (i:In):List Value:=[.int .i64 i.op,.int .i64 i.a,.int .i64 i.b,.int .i64 i.c,.int .i32 i.imm]
theorem inst_zero:(Tryz.prog.info? 180).map (·.zero)=some (some (.agg (List.toArray (inL inZ)))):=by kernel_rfl
theorem JE (i:In):∀ v∈inL i,v.oneCell'=true:=by
 intro v hv
 simp only[inL,List.mem_cons,List.not_mem_nil,or_false] at hv
 rcases hv with rfl|rfl|rfl|rfl|rfl <;> rfl
theorem Bd:(Tryz.prog.info? 180).map (·.size)=some 5:=by kernel_rfl
theorem AW:(Tryz.prog.info? 3).map (·.size)=some 1:=by kernel_rfl
theorem Fg:(Tryz.prog.info? 21).map (·.size)=some 1:=by kernel_rfl
theorem Ee {ops:Array Oper} {rest:List Oper} {op:Oper} {a:Act} {w:World} {Q:Exit→Act→World→Prop} {B:Nat} {T:TypeId} {x:Operand} {cs:List Value} (i:In) (hB:HasBlock w B cs.toArray T)
    (hgd:op.guard=none) (ho:op.op=.load 180 x) (hx:a.eval x=.pointer (some ⟨B,0,none⟩)) (hv:cs=inL i)
    (h:wpList Tryz.prog ops Q rest (a.put op.dst (inV i)) w):wpList Tryz.prog ops Q (op :: rest) a w :=
 Hz (inL i) hB hgd ho hx Tryz.underlying180 rfl Bd (fun j v hv'=>by rw[Nat.zero_add,hv];exact hv') h
theorem CX {ops:Array Oper} {rest:List Oper} {op:Oper} {a:Act} {w:World} {Q:Exit→Act→World→Prop} {B:Nat} {T:TypeId} {x y:Operand} {cs:List Value} (i:In) (hB:HasBlock w B cs.toArray T)
    (hgd:op.guard=none) (ho:op.op=.store 180 x y) (hx:a.eval x=.pointer (some ⟨B,0,none⟩)) (hy:a.eval y=inV i) (hs:cs.length=5)
    (h:∀ w',HasBlock w' B (inL i).toArray T→But B w w'→wpList Tryz.prog ops Q rest (a.put op.dst undef) w'):wpList Tryz.prog ops Q (op :: rest) a w :=
 GB (inL i) hB hgd ho hx hy (by show 0+5≤_;omega) Bd (JE i) (fun w' hb hn=>by rw[Jj (by rw[hs];rfl)] at hb;exact h w' hb hn)
theorem HasBlock.loadInst {w:World} {B:Nat} {T:TypeId} {i:In} (h:HasBlock w B (inL i).toArray T):(loadVar 180 ⟨B,0,none⟩).run Tryz.prog w=.ok (inV i) w :=
 run_loadVar_mid w B 0 _ (inL i) _ (h.range 0 _ (fun j v hv=>by rw[Nat.zero_add];exact hv)) Tryz.underlying180 rfl Bd
theorem Xz68 {P:Prop} (h:P:=by
  go_simp
  have hl:=D1.loadInst
  exact bodyPost_ret (v:=decV (none)) (by simp [results,Tryz.results92,asAddr,hl];rfl) rfl (Ret.mk hbw)):P:=h
theorem DD (x:Int) (w:World) (h0:0≤x) (h1:x<4294967296):Calls Tryz.prog 92 #[.int .u32 x] w (Ret w (decV (C9 x))):=by
 have F24:∀ w,Calls Tryz.prog 161 #[.int .u32 x,.int .i64 24,.int .i64 8] w (Same w (.int .u32 (x / 16777216))):=fun w=>by
  have:=DC x 24 8 w h0 h1 (by decide) (by decide) (.inr (.inl rfl))
  rwa[show x / 2 ^ (24:Int).toNat % 2 ^ (8:Int).toNat=x / 16777216 by show x / 16777216 % 256=_;omega] at this
 have F20:∀ w,Calls Tryz.prog 161 #[.int .u32 x,.int .i64 20,.int .i64 4] w (Same w (.int .u32 (x / 1048576 % 16))):=fun w=>DC x 20 4 w h0 h1 (by decide) (by decide) (.inl rfl)
 have F16:∀ w,Calls Tryz.prog 161 #[.int .u32 x,.int .i64 16,.int .i64 4] w (Same w (.int .u32 (x / 65536 % 16))):=fun w=>DC x 16 4 w h0 h1 (by decide) (by decide) (.inl rfl)
 have F0:∀ w,Calls Tryz.prog 161 #[.int .u32 x,.int .i64 0,.int .i64 16] w (Same w (.int .u32 (x % 65536))):=fun w=>by
  have:=DC x 0 16 w h0 h1 (by decide) (by decide) (.inr (.inr rfl))
  rwa[show x / 2 ^ (0:Int).toNat % 2 ^ (16:Int).toNat=x % 65536 by show x / 1 % 65536=_;omega] at this
 have U:=fun w=>use_any (x / 16777216) w
 have hx24:0≤x / 16777216∧x / 16777216<256:=by omega
 have hx20:0≤x / 1048576 % 16∧x / 1048576 % 16<16:=by omega
 have hx16:0≤x / 65536 % 16∧x / 65536 % 16<16:=by omega
 have hx0:0≤x % 65536∧x % 65536<65536:=by omega
 have HF24:=lh F24;have HF20:=lh F20;have HF16:=lh F16;have HF0:=lh F0
 clear F24 F20 F16 F0
 by_cases hf:A2 (x / 16777216)=0
 · have e:C9 x=none:=by unfold C9;rw[if_neg (fun h=>h.1 hf)]
   rw[e]
   have U0:∀ w,Calls Tryz.prog 162 #[.int .i64 (x / 16777216)] w (Ret w (.tuple #[.agg #[.bool false,.bool false,.bool false,.int .i32 0,.int .i32 0],.bool false])):=fun w=>use_no _ w hf
   have HU:=lh U0;clear U U0 hf e
   have D1:=(HasBlock.made w (inL inZ).toArray 180).alloc (.cells (inL ⟨x / 16777216,x / 1048576 % 16,x / 65536 % 16,0,0⟩).toArray 180)
   have D0:=HasBlock.made (w.alloc (.cells (inL inZ).toArray 180)) (inL ⟨x / 16777216,x / 1048576 % 16,x / 65536 % 16,0,0⟩).toArray 180
   rw[World.size_alloc] at D0
   have hbw:Below w.heap.size w ((w.alloc (.cells (inL inZ).toArray 180)).alloc (.cells (inL ⟨x / 16777216,x / 1048576 % 16,x / 65536 % 16,0,0⟩).toArray 180)):=bel
   unfold inL inZ at D1 D0 hbw
   dsimp only at D1 D0 hbw
   go_in
   go_wp2_with (first|(go_at_call 161;((with_reducible refine (HF24.out _).mono ?_);rintro e wz ⟨rfl,rfl⟩))|(go_at_call 161;((with_reducible refine (HF20.out _).mono ?_);rintro e wz ⟨rfl,rfl⟩))|(go_at_call 161;((with_reducible refine (HF16.out _).mono ?_);rintro e wz ⟨rfl,rfl⟩)))
   refine (HU.out _).mono ?_
   rintro e w1 ⟨rfl,hb1⟩
   have hlt1:=(D0.below hb1).lt
   replace D1:=(D1.below hb1).alloc (.cells #[.bool false,.bool false,.bool false,.int .i32 0,.int .i32 0] 255)
   replace D0:=(D0.below hb1).alloc (.cells #[.bool false,.bool false,.bool false,.int .i32 0,.int .i32 0] 255)
   have D2:=HasBlock.made w1 #[.bool false,.bool false,.bool false,.int .i32 0,.int .i32 0] 255
   replace hbw:=(hbw.trans (hb1.mono hbw.size)).alloc (hbw.trans (hb1.mono hbw.size)).size (.cells #[.bool false,.bool false,.bool false,.int .i32 0,.int .i32 0] 255)
   clear hb1
   go_wp2_with (refine CX inZ D1 rfl rfl rfl rfl rfl ?_;intro w2 D1 N1;replace hbw:=N1.below hbw (by omega);clear N1)
   go_simp
   have hl:=D1.loadInst
   exact bodyPost_ret (v:=decV none) (by simp [results,Tryz.results92,asAddr,hl];rfl) rfl (Ret.mk hbw)
 · rw[decI_if x hf]
   have V:=fun (c imm:Int) (C L H:Bool) (w:World)=>valid_in ⟨x / 16777216,x / 1048576 % 16,x / 65536 % 16,c,imm⟩ (A2 (x / 16777216)) _ _ C L H w rfl hf rfl rfl
   have hpos:1≤A2 (x / 16777216):=by
    revert hf
    unfold A2
    repeat' split
    all_goals omega
   unfold useV useA at U
   obtain⟨f,hff⟩:∃ f,A2 (x / 16777216)=f:=⟨_,rfl⟩
   rw[hff] at U V hf hpos ⊢
   rw[decide_eq_true hf] at U
   obtain⟨o,ho⟩:∃ y,x / 16777216=y:=⟨_,rfl⟩
   obtain⟨a,ha⟩:∃ y,x / 1048576 % 16=y:=⟨_,rfl⟩
   obtain⟨b,hb⟩:∃ y,x / 65536 % 16=y:=⟨_,rfl⟩
   obtain⟨l,hl⟩:∃ y,x % 65536=y:=⟨_,rfl⟩
   rw[ho] at U V HF24 hx24 ⊢
   rw[ha] at V HF20 hx20 ⊢
   rw[hb] at V HF16 hx16 ⊢
   rw[hl] at HF0 hx0 ⊢
   have SX:=fun w=>sext16_any l w hx0.1 hx0.2
   have HSX:=lh SX
   clear SX hff ho ha hb hl h0 h1
   by_cases hf2:f=2
   · have V2:=fun w=>V l 0 _ _ _ w rfl rfl rfl
     have e1:DQ f l=0:=if_pos hf2
     rw[if_pos hf2,e1]
     rw[decide_eq_true hf2,show loF f=0 by rw[hf2];rfl] at U
     generalize hq:(EE a (decide (2≤f)) && EE b (decide (2≤f∧f≤5)) && EE l (decide (f=2)) && decide (loF f≤0) && decide (0≤hiF f))=q at V2 ⊢
     have HV2:=lh V2
     clear V V2 hq e1 hf2 hf hpos HSX
     cases q
     rw[if_neg (by simp)]
     rotate_left
     rw[if_pos rfl]
     rotate_left
     all_goals
      generalize decide (2≤f)=ua at U
      generalize decide (2≤f∧f≤5)=ub at U
      generalize hiF f=hi at U
      have HU:=lh U
      clear U
      have D1:=(HasBlock.made w (inL inZ).toArray 180).alloc (.cells (inL ⟨o,a,b,0,0⟩).toArray 180)
      have D0:=HasBlock.made (w.alloc (.cells (inL inZ).toArray 180)) (inL ⟨o,a,b,0,0⟩).toArray 180
      rw[World.size_alloc] at D0
      have hbw:Below w.heap.size w ((w.alloc (.cells (inL inZ).toArray 180)).alloc (.cells (inL ⟨o,a,b,0,0⟩).toArray 180)):=bel
      unfold inL inZ at D1 D0 hbw
      dsimp only at D1 D0 hbw
      go_in
      go_wp2_with (first|(go_at_call 161;((with_reducible refine (HF24.out _).mono ?_);rintro e wz ⟨rfl,rfl⟩))|(go_at_call 161;((with_reducible refine (HF20.out _).mono ?_);rintro e wz ⟨rfl,rfl⟩))|(go_at_call 161;((with_reducible refine (HF16.out _).mono ?_);rintro e wz ⟨rfl,rfl⟩)))
      refine (HU.out _).mono ?_
      rintro e w1 ⟨rfl,hb1⟩
      have hlt1:=(D0.below hb1).lt
      replace D1:=(D1.below hb1).alloc (.cells #[.bool ua,.bool ub,.bool true,.int .i32 0,.int .i32 hi] 255)
      replace D0:=(D0.below hb1).alloc (.cells #[.bool ua,.bool ub,.bool true,.int .i32 0,.int .i32 hi] 255)
      have D2:=HasBlock.made w1 #[.bool ua,.bool ub,.bool true,.int .i32 0,.int .i32 hi] 255
      replace hbw:=(hbw.trans (hb1.mono hbw.size)).alloc (hbw.trans (hb1.mono hbw.size)).size (.cells #[.bool ua,.bool ub,.bool true,.int .i32 0,.int .i32 hi] 255)
      clear hb1
     · go_wp2_with (first|(go_at_call 161;((with_reducible refine (HF0.out _).mono ?_);rintro e wz ⟨rfl,rfl⟩))|(refine AA (ty:=4) _ D2 rfl rfl rfl Tryz.underlying4 rfl rfl ?_)|(refine AA (ty:=21) _ D2 rfl rfl rfl Tryz.underlying21 rfl rfl ?_)|(refine A3 (ty:=3) (.int .i64 l) D0 rfl rfl rfl rfl rfl AW rfl ?_;intro w2 D0 N1;have D1:=N1.block D1 (by omega);have D2:=N1.block D2 (by omega);replace hbw:=N1.below hbw (by omega);clear N1)|(refine A3 (ty:=21) (.int .i32 (0)) D0 rfl rfl rfl rfl rfl Fg rfl ?_;intro w2 D0 N1;have D1:=N1.block D1 (by omega);have D2:=N1.block D2 (by omega);replace hbw:=N1.below hbw (by omega);clear N1)|(refine Ee ⟨o,a,b,l,(0)⟩ D0 rfl rfl rfl rfl ?_)|(go_at_call 164;(with_reducible refine (HV2.out _).mono ?_);rintro e w3 ⟨rfl,hb3⟩;replace D0:=D0.below hb3;replace D1:=D1.below hb3;replace hbw:=hbw.trans (hb3.mono hbw.size))|(refine CX (inZ) D1 rfl rfl rfl rfl rfl ?_;intro w4 D1 N1;replace hbw:=N1.below hbw (by omega);clear N1))
       exact Xz68
     · go_wp2_with (first|(go_at_call 161;((with_reducible refine (HF0.out _).mono ?_);rintro e wz ⟨rfl,rfl⟩))|(refine AA (ty:=4) _ D2 rfl rfl rfl Tryz.underlying4 rfl rfl ?_)|(refine AA (ty:=21) _ D2 rfl rfl rfl Tryz.underlying21 rfl rfl ?_)|(refine A3 (ty:=3) (.int .i64 l) D0 rfl rfl rfl rfl rfl AW rfl ?_;intro w2 D0 N1;have D1:=N1.block D1 (by omega);have D2:=N1.block D2 (by omega);replace hbw:=N1.below hbw (by omega);clear N1)|(refine A3 (ty:=21) (.int .i32 (0)) D0 rfl rfl rfl rfl rfl Fg rfl ?_;intro w2 D0 N1;have D1:=N1.block D1 (by omega);have D2:=N1.block D2 (by omega);replace hbw:=N1.below hbw (by omega);clear N1)|(refine Ee ⟨o,a,b,l,(0)⟩ D0 rfl rfl rfl rfl ?_)|(go_at_call 164;(with_reducible refine (HV2.out _).mono ?_);rintro e w3 ⟨rfl,hb3⟩;replace D0:=D0.below hb3;replace D1:=D1.below hb3;replace hbw:=hbw.trans (hb3.mono hbw.size))|(refine CX (⟨o,a,b,l,0⟩) D1 rfl rfl rfl rfl rfl ?_;intro w4 D1 N1;replace hbw:=N1.below hbw (by omega);clear N1))
       go_simp
       have hl:=D1.loadInst
       exact bodyPost_ret (v:=decV (some ⟨o,a,b,l,0⟩)) (by simp [results,Tryz.results92,asAddr,hl];rfl) rfl (Ret.mk hbw)
   · rw[decide_eq_false hf2] at U
     by_cases hs:f=3∨f=7
     · have V2:=fun w=>V 0 (if 32768≤l then l - 65536 else l) _ _ _ w rfl rfl rfl
       have e1:DQ f l=if 32768≤l then l - 65536 else l:=by unfold DQ;rw[if_neg hf2,if_pos hs]
       rw[if_neg hf2,e1]
       rw[show loF f = -32768 from if_pos hs] at U
       generalize hq:(EE a (decide (2≤f)) && EE b (decide (2≤f∧f≤5)) && EE 0 (decide (f=2)) && decide (loF f≤if 32768≤l then l - 65536 else l) && decide ((if 32768≤l then l - 65536 else l)≤hiF f))=q at V2 ⊢
       have hw:wrap32 (if 32768≤l then l+4294901760 else l)=if 32768≤l then l - 65536 else l:=by unfold wrap32;split <;> omega
       generalize (if 32768≤l then l+4294901760 else l)=s at HSX hw
       rw[←hw] at V2 ⊢
       have HV2:=lh V2
       clear V V2 hq e1 hf2 hf hpos hs hw
       cases q
       rw[if_neg (by simp)]
       rotate_left
       rw[if_pos rfl]
       rotate_left
       all_goals
        generalize decide (2≤f)=ua at U
        generalize decide (2≤f∧f≤5)=ub at U
        generalize hiF f=hi at U
        have HU:=lh U
        clear U
        have D1:=(HasBlock.made w (inL inZ).toArray 180).alloc (.cells (inL ⟨o,a,b,0,0⟩).toArray 180)
        have D0:=HasBlock.made (w.alloc (.cells (inL inZ).toArray 180)) (inL ⟨o,a,b,0,0⟩).toArray 180
        rw[World.size_alloc] at D0
        have hbw:Below w.heap.size w ((w.alloc (.cells (inL inZ).toArray 180)).alloc (.cells (inL ⟨o,a,b,0,0⟩).toArray 180)):=bel
        unfold inL inZ at D1 D0 hbw
        dsimp only at D1 D0 hbw
        go_in
        go_wp2_with (first|(go_at_call 161;((with_reducible refine (HF24.out _).mono ?_);rintro e wz ⟨rfl,rfl⟩))|(go_at_call 161;((with_reducible refine (HF20.out _).mono ?_);rintro e wz ⟨rfl,rfl⟩))|(go_at_call 161;((with_reducible refine (HF16.out _).mono ?_);rintro e wz ⟨rfl,rfl⟩)))
        refine (HU.out _).mono ?_
        rintro e w1 ⟨rfl,hb1⟩
        have hlt1:=(D0.below hb1).lt
        replace D1:=(D1.below hb1).alloc (.cells #[.bool ua,.bool ub,.bool false,.int .i32 (-32768),.int .i32 hi] 255)
        replace D0:=(D0.below hb1).alloc (.cells #[.bool ua,.bool ub,.bool false,.int .i32 (-32768),.int .i32 hi] 255)
        have D2:=HasBlock.made w1 #[.bool ua,.bool ub,.bool false,.int .i32 (-32768),.int .i32 hi] 255
        replace hbw:=(hbw.trans (hb1.mono hbw.size)).alloc (hbw.trans (hb1.mono hbw.size)).size (.cells #[.bool ua,.bool ub,.bool false,.int .i32 (-32768),.int .i32 hi] 255)
        clear hb1
       · go_wp2_with (first|(go_at_call 161;((with_reducible refine (HF0.out _).mono ?_);rintro e wz ⟨rfl,rfl⟩))|(go_at_call 163;((with_reducible refine (HSX.out _).mono ?_);rintro e wz ⟨rfl,rfl⟩))|(refine AA (ty:=4) _ D2 rfl rfl rfl Tryz.underlying4 rfl rfl ?_)|(refine AA (ty:=21) _ D2 rfl rfl rfl Tryz.underlying21 rfl rfl ?_)|(refine A3 (ty:=3) (.int .i64 l) D0 rfl rfl rfl rfl rfl AW rfl ?_;intro w2 D0 N1;have D1:=N1.block D1 (by omega);have D2:=N1.block D2 (by omega);replace hbw:=N1.below hbw (by omega);clear N1)|(refine A3 (ty:=21) (.int .i32 (wrap32 s)) D0 rfl rfl rfl rfl rfl Fg rfl ?_;intro w2 D0 N1;have D1:=N1.block D1 (by omega);have D2:=N1.block D2 (by omega);replace hbw:=N1.below hbw (by omega);clear N1)|(refine Ee ⟨o,a,b,0,(wrap32 s)⟩ D0 rfl rfl rfl rfl ?_)|(go_at_call 164;(with_reducible refine (HV2.out _).mono ?_);rintro e w3 ⟨rfl,hb3⟩;replace D0:=D0.below hb3;replace D1:=D1.below hb3;replace hbw:=hbw.trans (hb3.mono hbw.size))|(refine CX (inZ) D1 rfl rfl rfl rfl rfl ?_;intro w4 D1 N1;replace hbw:=N1.below hbw (by omega);clear N1))
         exact Xz68
       · go_wp2_with (first|(go_at_call 161;((with_reducible refine (HF0.out _).mono ?_);rintro e wz ⟨rfl,rfl⟩))|(go_at_call 163;((with_reducible refine (HSX.out _).mono ?_);rintro e wz ⟨rfl,rfl⟩))|(refine AA (ty:=4) _ D2 rfl rfl rfl Tryz.underlying4 rfl rfl ?_)|(refine AA (ty:=21) _ D2 rfl rfl rfl Tryz.underlying21 rfl rfl ?_)|(refine A3 (ty:=3) (.int .i64 l) D0 rfl rfl rfl rfl rfl AW rfl ?_;intro w2 D0 N1;have D1:=N1.block D1 (by omega);have D2:=N1.block D2 (by omega);replace hbw:=N1.below hbw (by omega);clear N1)|(refine A3 (ty:=21) (.int .i32 (wrap32 s)) D0 rfl rfl rfl rfl rfl Fg rfl ?_;intro w2 D0 N1;have D1:=N1.block D1 (by omega);have D2:=N1.block D2 (by omega);replace hbw:=N1.below hbw (by omega);clear N1)|(refine Ee ⟨o,a,b,0,(wrap32 s)⟩ D0 rfl rfl rfl rfl ?_)|(go_at_call 164;(with_reducible refine (HV2.out _).mono ?_);rintro e w3 ⟨rfl,hb3⟩;replace D0:=D0.below hb3;replace D1:=D1.below hb3;replace hbw:=hbw.trans (hb3.mono hbw.size))|(refine CX (⟨o,a,b,0,wrap32 s⟩) D1 rfl rfl rfl rfl rfl ?_;intro w4 D1 N1;replace hbw:=N1.below hbw (by omega);clear N1))
         go_simp
         have hl:=D1.loadInst
         exact bodyPost_ret (v:=decV (some ⟨o,a,b,0,wrap32 s⟩)) (by simp [results,Tryz.results92,asAddr,hl];rfl) rfl (Ret.mk hbw)
     · have V2:=fun w=>V 0 l _ _ _ w rfl rfl rfl
       have e1:DQ f l=l:=by unfold DQ;rw[if_neg hf2,if_neg hs]
       rw[if_neg hf2,e1]
       rw[show loF f=0 from if_neg hs] at U
       generalize hq:(EE a (decide (2≤f)) && EE b (decide (2≤f∧f≤5)) && EE 0 (decide (f=2)) && decide (loF f≤l) && decide (l≤hiF f))=q at V2 ⊢
       have hw:wrap32 l=l:=by unfold wrap32;omega
       have HV2:=lh V2
       clear V V2 hq e1 hf2 hf hpos hs HSX
       cases q
       rw[if_neg (by simp)]
       rotate_left
       rw[if_pos rfl]
       rotate_left
       all_goals
        generalize decide (2≤f)=ua at U
        generalize decide (2≤f∧f≤5)=ub at U
        generalize hiF f=hi at U
        have HU:=lh U
        clear U
        have D1:=(HasBlock.made w (inL inZ).toArray 180).alloc (.cells (inL ⟨o,a,b,0,0⟩).toArray 180)
        have D0:=HasBlock.made (w.alloc (.cells (inL inZ).toArray 180)) (inL ⟨o,a,b,0,0⟩).toArray 180
        rw[World.size_alloc] at D0
        have hbw:Below w.heap.size w ((w.alloc (.cells (inL inZ).toArray 180)).alloc (.cells (inL ⟨o,a,b,0,0⟩).toArray 180)):=bel
        unfold inL inZ at D1 D0 hbw
        dsimp only at D1 D0 hbw
        go_in
        go_wp2_with (first|(go_at_call 161;((with_reducible refine (HF24.out _).mono ?_);rintro e wz ⟨rfl,rfl⟩))|(go_at_call 161;((with_reducible refine (HF20.out _).mono ?_);rintro e wz ⟨rfl,rfl⟩))|(go_at_call 161;((with_reducible refine (HF16.out _).mono ?_);rintro e wz ⟨rfl,rfl⟩)))
        refine (HU.out _).mono ?_
        rintro e w1 ⟨rfl,hb1⟩
        have hlt1:=(D0.below hb1).lt
        replace D1:=(D1.below hb1).alloc (.cells #[.bool ua,.bool ub,.bool false,.int .i32 0,.int .i32 hi] 255)
        replace D0:=(D0.below hb1).alloc (.cells #[.bool ua,.bool ub,.bool false,.int .i32 0,.int .i32 hi] 255)
        have D2:=HasBlock.made w1 #[.bool ua,.bool ub,.bool false,.int .i32 0,.int .i32 hi] 255
        replace hbw:=(hbw.trans (hb1.mono hbw.size)).alloc (hbw.trans (hb1.mono hbw.size)).size (.cells #[.bool ua,.bool ub,.bool false,.int .i32 0,.int .i32 hi] 255)
        clear hb1
       · go_wp2_with (first|(go_at_call 161;((with_reducible refine (HF0.out _).mono ?_);rintro e wz ⟨rfl,rfl⟩))|(refine AA (ty:=4) _ D2 rfl rfl rfl Tryz.underlying4 rfl rfl ?_)|(refine AA (ty:=21) _ D2 rfl rfl rfl Tryz.underlying21 rfl rfl ?_)|(refine A3 (ty:=3) (.int .i64 l) D0 rfl rfl rfl rfl rfl AW rfl ?_;intro w2 D0 N1;have D1:=N1.block D1 (by omega);have D2:=N1.block D2 (by omega);replace hbw:=N1.below hbw (by omega);clear N1)|(refine A3 (ty:=21) (.int .i32 (l)) D0 rfl rfl rfl rfl rfl Fg rfl ?_;intro w2 D0 N1;have D1:=N1.block D1 (by omega);have D2:=N1.block D2 (by omega);replace hbw:=N1.below hbw (by omega);clear N1)|(refine Ee ⟨o,a,b,0,(l)⟩ D0 rfl rfl rfl rfl ?_)|(go_at_call 164;(with_reducible refine (HV2.out _).mono ?_);rintro e w3 ⟨rfl,hb3⟩;replace D0:=D0.below hb3;replace D1:=D1.below hb3;replace hbw:=hbw.trans (hb3.mono hbw.size))|(refine CX (inZ) D1 rfl rfl rfl rfl rfl ?_;intro w4 D1 N1;replace hbw:=N1.below hbw (by omega);clear N1))
         exact Xz68
       · go_wp2_with (first|(go_at_call 161;((with_reducible refine (HF0.out _).mono ?_);rintro e wz ⟨rfl,rfl⟩))|(refine AA (ty:=4) _ D2 rfl rfl rfl Tryz.underlying4 rfl rfl ?_)|(refine AA (ty:=21) _ D2 rfl rfl rfl Tryz.underlying21 rfl rfl ?_)|(refine A3 (ty:=3) (.int .i64 l) D0 rfl rfl rfl rfl rfl AW rfl ?_;intro w2 D0 N1;have D1:=N1.block D1 (by omega);have D2:=N1.block D2 (by omega);replace hbw:=N1.below hbw (by omega);clear N1)|(refine A3 (ty:=21) (.int .i32 (l)) D0 rfl rfl rfl rfl rfl Fg rfl ?_;intro w2 D0 N1;have D1:=N1.block D1 (by omega);have D2:=N1.block D2 (by omega);replace hbw:=N1.below hbw (by omega);clear N1)|(refine Ee ⟨o,a,b,0,(l)⟩ D0 rfl rfl rfl rfl ?_)|(go_at_call 164;(with_reducible refine (HV2.out _).mono ?_);rintro e w3 ⟨rfl,hb3⟩;replace D0:=D0.below hb3;replace D1:=D1.below hb3;replace hbw:=hbw.trans (hb3.mono hbw.size))|(refine CX (⟨o,a,b,0,l⟩) D1 rfl rfl rfl rfl rfl ?_;intro w4 D1 N1;replace hbw:=N1.below hbw (by omega);clear N1))
         go_simp
         have hl:=D1.loadInst
         exact bodyPost_ret (v:=decV (some ⟨o,a,b,0,l⟩)) (by simp [results,Tryz.results92,asAddr,hl];rfl) rfl (Ret.mk hbw)
structure Bx where
 b:Nat
 cs:List Value
 T:TypeId
structure Lay (w0 w:World) (l:List Bx):Prop where
 bel:Below w0.heap.size w0 w
 has:∀ x∈l,HasBlock w x.b x.cs.toArray x.T∧w0.heap.size≤x.b
 dif:(l.map (·.b)).Pairwise (·>·)
theorem Lay.start (w:World):Lay w w []:=⟨Below.refl _ _,fun x hx=>(by cases hx),.nil⟩
section
variable {P:Program} {w0 w w':World} {l:List Bx}
theorem Lay.at (L:Lay w0 w l) {k B:Nat} {cs:List Value} {T:TypeId} (hk:l[k]?=some ⟨B,cs,T⟩):HasBlock w B cs.toArray T:=(L.has _ (List.mem_of_getElem? hk)).1
theorem Lay.old (L:Lay w0 w l) {k B:Nat} {cs:List Value} {T:TypeId} (hk:l[k]?=some ⟨B,cs,T⟩):w0.heap.size≤B:=(L.has _ (List.mem_of_getElem? hk)).2
theorem Lay.below (L:Lay w0 w l) (h:Below w.heap.size w w'):Lay w0 w' l :=
 ⟨L.bel.trans (h.mono L.bel.size),fun x hx=>⟨(L.has x hx).1.below h,(L.has x hx).2⟩,L.dif⟩
theorem Lay.new (L:Lay w0 w l) {cs:List Value} {T:TypeId} (h:NewBox w cs T w'):Lay w0 w' (⟨w.heap.size,cs,T⟩ :: l) :=
 ⟨L.bel.trans (h.bel.mono L.bel.size),fun x hx=>by
   rcases List.mem_cons.1 hx with rfl|hx
   · exact⟨h.box,L.bel.size⟩
   · exact⟨(L.has x hx).1.below h.bel,(L.has x hx).2⟩,List.Pairwise.cons (fun b hb=>by
     obtain⟨x,hx,rfl⟩:=List.mem_map.1 hb
     exact (L.has x hx).1.lt) L.dif⟩
theorem G4:∀ {l:List Nat},l.Pairwise (·>·)→∀ {i j a:Nat},l[i]?=some a→l[j]?=some a→i=j
 | [],_,_,_,_,h,_=>by cases h
 | x :: l,hp,0,0,_,_,_=>rfl
 | x :: l,hp,0,j+1,a,h1,h2=>by
   have e:x=a:=by simpa using h1
   have:=(List.pairwise_cons.1 hp).1 a (List.mem_of_getElem? (by simpa using h2))
   omega
 | x :: l,hp,i+1,0,a,h1,h2=>by
   have e:x=a:=by simpa using h2
   have:=(List.pairwise_cons.1 hp).1 a (List.mem_of_getElem? (by simpa using h1))
   omega
 | x :: l,hp,i+1,j+1,a,h1,h2=>by
   exact congrArg (·+1) (G4 (List.pairwise_cons.1 hp).2 (a:=a) (by simpa using h1) (by simpa using h2))
theorem Lay.put (L:Lay w0 w l) {k B:Nat} {cs cs':List Value} {T:TypeId} (hk:l[k]?=some ⟨B,cs,T⟩) (h:HasBlock w' B cs'.toArray T) (hn:But B w w'):Lay w0 w' (l.set k ⟨B,cs',T⟩):=by
 have hlen:k<l.length:=(List.getElem?_eq_some_iff.1 hk).1
 have hmap:(l.set k ⟨B,cs',T⟩).map (·.b)=l.map (·.b):=by
  apply List.ext_getElem?
  intro j
  rw[List.getElem?_map,List.getElem?_map]
  by_cases hj:k=j
  · subst hj;rw[List.getElem?_set_self hlen,hk];rfl
  · rw[List.getElem?_set_ne hj]
 refine ⟨hn.below L.bel (L.old hk),fun x hx=>?_,by rw[hmap];exact L.dif⟩
 obtain⟨j,hj⟩:=List.getElem?_of_mem hx
 by_cases hkj:k=j
 · subst hkj
   rw[List.getElem?_set_self hlen] at hj
   cases hj
   exact⟨h,L.old hk⟩
 · rw[List.getElem?_set_ne hkj] at hj
   have hm:=L.has x (List.mem_of_getElem? hj)
   refine ⟨hn.block hm.1 (fun e=>hkj ?_),hm.2⟩
   exact G4 L.dif (a:=B) (by rw[List.getElem?_map,hk];rfl) (by rw[List.getElem?_map,hj];exact congrArg some e)
theorem Lay.drop1 {x:Bx} (L:Lay w0 w (x :: l)):Lay w0 w l:=⟨L.bel,fun y hy=>L.has y (List.mem_cons_of_mem _ hy),(List.pairwise_cons.1 L.dif).2⟩
theorem De {cs vs:List Value} {o:Nat} (h:(cs.drop o).take vs.length=vs):∀ j v,vs[j]?=some v→cs[o+j]?=some v:=fun j v hv=>by
 rw[←h,List.getElem?_take] at hv
 split at hv
 · rwa[List.getElem?_drop] at hv
 · cases hv
section
variable {ops:Array Oper} {rest:List Oper} {op:Oper} {a:Act} {Q:Exit→Act→World→Prop} {B o:Nat} {T ty:TypeId} {x y:Operand} {cs:List Value} {d:TypeDesc}
theorem AQ (L:Lay w0 w l) (k:Nat) (hk:l[k]?=some ⟨B,cs,T⟩) (vs:List Value)
    (hgd:op.guard=none) (ho:op.op=.load ty x) (hx:a.eval x=.pointer (some ⟨B,o,none⟩))
    (hu:P.underlying ty=some d) (hd:d.isRow=true) (hi:(P.info? ty).map (·.size)=some vs.length) (hv:(cs.drop o).take vs.length=vs)
    (h:wpList P ops Q rest (a.put op.dst (.agg vs.toArray)) w):wpList P ops Q (op :: rest) a w:=Hz vs (L.at hk) hgd ho hx hu hd hi (De hv) h
theorem A7 {j:Nat} {u:Value} (L:Lay w0 w l) (k:Nat) (hk:l[k]?=some ⟨B,cs,T⟩)
    (hgd:op.guard=none) (ho:op.op=.load ty x) (hx:a.eval x=.pointer (some ⟨B,j,none⟩))
    (hu:P.underlying ty=some d) (hd:d.isRow=false) (hv:cs[j]?=some u)
    (h:wpList P ops Q rest (a.put op.dst u) w):wpList P ops Q (op :: rest) a w:=AA u (L.at hk) hgd ho hx hu hd hv h
theorem Ag (L:Lay w0 w l) (k:Nat) (hk:l[k]?=some ⟨B,cs,T⟩) (vs cs':List Value)
    (hgd:op.guard=none) (ho:op.op=.store ty x y) (hx:a.eval x=.pointer (some ⟨B,o,none⟩)) (hy:a.eval y=.agg vs.toArray)
    (hi:(P.info? ty).map (·.size)=some vs.length) (h1:∀ v∈vs,v.oneCell'=true) (hn:Nat.ble (o+vs.length) cs.length=true) (hp:Dt cs o vs=cs')
    (h:∀ w',Lay w0 w' (l.set k ⟨B,cs',T⟩)→But B w w'→wpList P ops Q rest (a.put op.dst undef) w'):wpList P ops Q (op :: rest) a w :=
 GB vs (L.at hk) hgd ho hx hy (Nat.le_of_ble_eq_true hn) hi h1 (fun w' hb hbut=>h w' (L.put hk (by rw[←hp];exact hb) hbut) hbut)
theorem Aq {j:Nat} {u:Value} (L:Lay w0 w l) (k:Nat) (hk:l[k]?=some ⟨B,cs,T⟩) (cs':List Value)
    (hgd:op.guard=none) (ho:op.op=.store ty x y) (hx:a.eval x=.pointer (some ⟨B,j,none⟩)) (hy:a.eval y=u)
    (hi:(P.info? ty).map (·.size)=some 1) (h1:u.oneCell'=true) (hn:Nat.blt j cs.length=true) (hp:cs.set j u=cs')
    (h:∀ w',Lay w0 w' (l.set k ⟨B,cs',T⟩)→But B w w'→wpList P ops Q rest (a.put op.dst undef) w'):wpList P ops Q (op :: rest) a w :=
 A3 u (L.at hk) hgd ho hx hy hn hi h1 (fun w' hb hbut=>h w' (L.put hk (by rw[←hp];exact hb) hbut) hbut)
theorem AF (L:Lay w0 w l) (zs:List Value) (z:Value) (hgd:op.guard=none) (ho:op.op=.alloc ty) (hz:(P.info? ty).map (·.zero)=some (some z)) (hc:z.cells=zs.toArray)
    (h:∀ w',Lay w0 w' (⟨w.heap.size,zs,ty⟩ :: l)→NewBox w zs ty w'→wpList P ops Q rest (a.put op.dst (.pointer (some ⟨w.heap.size,0,none⟩))) w'):wpList P ops Q (op :: rest) a w :=
 alloc_box zs z hgd ho hz hc (fun w' hN=>h w' (L.new hN) hN)
theorem JD (L:Lay w0 w l) (vs:List Value) (hgd:op.guard=none) (ho:op.op=.box ty x) (hx:a.eval x=.agg vs.toArray)
    (h:∀ w',Lay w0 w' (⟨w.heap.size,vs,ty⟩ :: l)→NewBox w vs ty w'→wpList P ops Q rest (a.put op.dst (.pointer (some ⟨w.heap.size,0,none⟩))) w'):wpList P ops Q (op :: rest) a w :=
 make_box vs _ hgd ho hx rfl (fun w' hN=>h w' (L.new hN) hN)
theorem BZ {C:World→Prop} {K:Act→Prop} (L:Lay w0 w l) (hC:∀ w',C w'→Below w.heap.size w w') (k:Nat) (hk:l[k]?=some ⟨B,cs,T⟩) (vs:List Value) (ho:op.op=.load ty x) (hx:a.eval x=.pointer (some ⟨B,o,none⟩))
    (hu:P.underlying ty=some d) (hd:d.isRow=true) (hi:(P.info? ty).map (·.size)=some vs.length) (hv:(cs.drop o).take vs.length=vs)
    (h:K (a.put op.dst (.agg vs.toArray))):op.quiet P a C K:=Ju vs (fun w' hw=>(L.below (hC w' hw)).at hk) ho hx hu hd hi (De hv) h
theorem AK {C:World→Prop} {K:Act→Prop} {j:Nat} {u:Value} (L:Lay w0 w l) (hC:∀ w',C w'→Below w.heap.size w w') (k:Nat) (hk:l[k]?=some ⟨B,cs,T⟩) (ho:op.op=.load ty x) (hx:a.eval x=.pointer (some ⟨B,j,none⟩))
    (hu:P.underlying ty=some d) (hd:d.isRow=false) (hv:cs[j]?=some u)
    (h:K (a.put op.dst u)):op.quiet P a C K:=Jv u (fun w' hw=>(L.below (hC w' hw)).at hk) ho hx hu hd hv h
end
theorem AU {B:Nat} {T ty:TypeId} {cs:List Value} {d:TypeDesc} (L:Lay w0 w l) (k:Nat) (hk:l[k]?=some ⟨B,cs,T⟩) (vs:List Value) (hv:cs=vs) (hu:P.underlying ty=some d) (hd:d.isRow=true) (hi:(P.info? ty).map (·.size)=some vs.length) :
    (loadVar ty ⟨B,0,none⟩).run P w=.ok (.agg vs.toArray) w:=by
 subst hv
 exact run_loadVar_mid w B 0 _ cs _ ((L.at hk).range 0 _ (fun j v hv=>by rw[Nat.zero_add];exact hv)) hu hd hi
end
/-! ## Arithmetic on words, as it stands -/
section
variable {P:Program} {ops:Array Oper} {rest:List Oper} {op:Oper} {a:Act} {w:World} {Q:Exit→Act→World→Prop} {x y:Operand} {ty ty':TypeId} {m n:Int}
theorem op_mul (r:Int) (hgd:op.guard=none) (ho:op.op=.binOp .mul ty x y ty') (hx:a.eval x=.int .u32 m) (hy:a.eval y=.int .u32 n) (hr:m*n % 4294967296=r)
    (h:wpList P ops Q rest (a.put op.dst (.int .u32 r)) w):wpList P ops Q (op :: rest) a w:=by
 subst hr
 refine wpList_plain hgd fun _ hK=>?_
 unfold Oper.wp
 rw[show (execOp a.eval op).run P w=.ok (.value (.int .u32 (m*n % 4294967296))) w by
  unfold execOp;simp only[ho,hx,hy];simp [go_sem,IntKind.wrap_u32]]
 exact hK _ _ h
theorem op_add (r:Int) (hgd:op.guard=none) (ho:op.op=.binOp .add ty x y ty') (hx:a.eval x=.int .u32 m) (hy:a.eval y=.int .u32 n) (hr:(m+n) % 4294967296=r)
    (h:wpList P ops Q rest (a.put op.dst (.int .u32 r)) w):wpList P ops Q (op :: rest) a w:=by
 subst hr
 refine wpList_plain hgd fun _ hK=>?_
 unfold Oper.wp
 rw[show (execOp a.eval op).run P w=.ok (.value (.int .u32 ((m+n) % 4294967296))) w by
  unfold execOp;simp only[ho,hx,hy];simp [go_sem,IntKind.wrap_u32]]
 exact hK _ _ h
end
/-! ## Regions that draw their order: the boxes that are read stay -/
def Kept (l:List Bx) (w:World):Prop:=∀ x∈l,HasBlock w x.b x.cs.toArray x.T
section
variable {P:Program} {w0 w w':World} {l sub:List Bx}
theorem Lay.drew (L:Lay w0 w l):Lay w0 w.drew l:=L.below (Below.drew (Below.refl _ _))
theorem Lay.kept (L:Lay w0 w l) (ks:List Nat) (h:ks.filterMap (fun k=>l[k]?)=sub):Kept sub w:=fun x hx=>by
 rw[←h] at hx
 obtain⟨k,_,hk⟩:=List.mem_filterMap.1 hx
 exact (L.has x (List.mem_of_getElem? hk)).1
theorem Kept.at (H:Kept sub w) {k B:Nat} {cs:List Value} {T:TypeId} (hk:sub[k]?=some ⟨B,cs,T⟩):HasBlock w B cs.toArray T:=H _ (List.mem_of_getElem? hk)
section
variable {ops:Array Oper} {op:Oper} {a:Act} {Q:Exit→Act→World→Prop} {B o:Nat} {T ty:TypeId} {x y:Operand} {cs:List Value} {d:TypeDesc}
theorem Ck (j:Nat) (hj:sub[j]?=some ⟨B,cs,T⟩) (vs:List Value) (hw:Region.wanted op (yielded ops a.tmps)=true) (ho:op.op=.load ty x) (hx:a.eval x=.pointer (some ⟨B,o,none⟩))
    (hu:P.underlying ty=some d) (hd:d.isRow=true) (hi:(P.info? ty).map (·.size)=some vs.length) (hv:(cs.drop o).take vs.length=vs):YieldsIf P ops (Kept sub) op (.agg vs.toArray) a :=
 yieldsIf_load_mid hw ty x ho B o hx vs d (fun w hS=>(hS.at hj).range o vs (De hv)) hu hd hi
theorem G5 {k:Nat} {u:Value} (j:Nat) (hj:sub[j]?=some ⟨B,cs,T⟩) (hw:Region.wanted op (yielded ops a.tmps)=true) (ho:op.op=.load ty x) (hx:a.eval x=.pointer (some ⟨B,k,none⟩))
    (hu:P.underlying ty=some d) (hd:d.isRow=false) (hv:cs[k]?=some u):YieldsIf P ops (Kept sub) op u a :=
 .inl ⟨hw,fun w' hS=>by
  have hl:(loadVar ty ⟨B,k,none⟩).run P w'=.ok u w':=by
   have hc:w'.cell? ⟨B,k,none⟩=some u:=by rw[(hS.at hj).cell,List.getElem?_toArray];exact hv
   exact Xz56
  unfold execOp
  simp only[ho,hx,Instr.loadAt,Instr.sureAddr,Sem.run_bind,Sem.run_pure,Result.andThen_ok,hl]⟩
theorem Am {K:Act→World→Prop} (L:Lay w0 w l) (k:Nat) (hk:l[k]?=some ⟨B,cs,T⟩) (vs cs':List Value)
    (ho:op.op=.store ty x y) (hx:a.eval x=.pointer (some ⟨B,o,none⟩)) (hy:a.eval y=.agg vs.toArray)
    (hi:(P.info? ty).map (·.size)=some vs.length) (h1:∀ v∈vs,v.oneCell'=true) (hn:Nat.ble (o+vs.length) cs.length=true) (hp:Dt cs o vs=cs')
    (h:∀ w',Lay w0 w' (l.set k ⟨B,cs',T⟩)→But B w w'→K (a.put op.dst undef) w'):op.wp P a w K Q:=by
 have hB:=L.at hk
 have hn':o+vs.length≤cs.length:=Nat.le_of_ble_eq_true hn
 refine wp_store_mid ty x y ho B o vs.toArray hx hy (by rw[List.size_toArray];exact hB.there hn') (by rw[List.size_toArray];exact hi) (all_oneCell_toArray h1) ?_
 exact h _ (L.put hk (by rw[←hp];exact HasBlock.setCells vs o cs hB hn') (But.setCells B vs o w)) (But.setCells B vs o w)
theorem Cm {K:Act→World→Prop} {j:Nat} {u:Value} (L:Lay w0 w l) (k:Nat) (hk:l[k]?=some ⟨B,cs,T⟩) (cs':List Value)
    (ho:op.op=.store ty x y) (hx:a.eval x=.pointer (some ⟨B,j,none⟩)) (hy:a.eval y=u)
    (hi:(P.info? ty).map (·.size)=some 1) (h1:u.oneCell'=true) (hnb:Nat.blt j cs.length=true) (hp:cs.set j u=cs')
    (h:∀ w',Lay w0 w' (l.set k ⟨B,cs',T⟩)→But B w w'→K (a.put op.dst undef) w'):op.wp P a w K Q:=by
 have hB:=L.at hk
 have hn:j<cs.length:=by simpa using hnb
 have hc:u.cells=#[u]:=by cases u <;> first|rfl|cases h1
 have hs:(storeVar ty ⟨B,j,none⟩ u).run P w=.ok () (w.setCell ⟨B,j,none⟩ u):=by
  exact Xz102
 have hb:=hB.set_at j u
 rw[List.setIfInBounds_toArray] at hb
 unfold Oper.wp execOp
 simp only[ho,hx,hy,Instr.storeAt,Instr.sureAddr,Sem.run_bind,Sem.run_pure,Result.andThen_ok,hs]
 exact h _ (L.put hk (by rw[←hp];exact hb) (But.setCell B j w u)) (But.setCell B j w u)
theorem Ae {K:Act→World→Prop} {b:Bool} (hb:b=true) (h:op.wp P a w K Q):if b=true then op.wp P a w K Q else K (a.put op.dst undef) w:=by rw[if_pos hb];exact h
end
end
end Go.Proofs.YtnmpfmapncicmaaGreat
