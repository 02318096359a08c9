/-
  Texts joined: TpMc TpBits Base TpGolfA Regions RowsAt TpBlk TpNum TpRec. No law is proved here.
-/
import Derived.WalkKit
import Derived.Laws.BitsAllLaws
import Derived.Test.YtnmpfmapncicmaaGreatRows
import Derived.WalkSpells
import Derived.WalkLawsBesides
import Derived.Lib.Hide
import Derived.Deep.QuietTactic
import Derived.BigQuiet
import Derived.Lib.QuietBelow
import Derived.Deep.RegionHeld3
import Derived.StillTail
import Derived.Deep.MidRow
namespace Go.Proofs.YtnmpfmapncicmaaGreat
set_option linter.all false
set_option maxRecDepth 100000
set_option maxHeartbeats 40000000
/-! ## The processor: 25 words: 16 registers, the program counter (16), the control registers (17 to 24) -/
def rg (c:List Int) (i:Nat):Int:=c[i]?.getD 0
def Bm (c:List Int) (r:Int) (v:Int):List Int:=if r=0 then c else c.set r.toNat v
def BM (c:List Int):Bool:=rg c 17 % 2 == 1
def BR (c:List Int):Bool:=rg c 17 % 2 == 0 && rg c 17 / 4 % 2 == 1
def GK (s:Int):Int:=s / 4 % 2*4+1+8*(s % 2)+16*(s / 2 % 2)
def retS (s:Int):Int:=s / 8 % 2+2*(s / 16 % 2)+4*(s / 4 % 2)+8*(s / 8 % 2)+16*(s / 16 % 2)
def AN (c:List Int) (cause bad:Int):List Int:=((((c.set 19 (rg c 16)).set 20 cause).set 21 bad).set 17 (GK (rg c 17))).set 16 (rg c 18)
def GC (c:List Int):List Int:=(c.set 17 (retS (rg c 17))).set 16 (rg c 19)
def csrV (k v:Int):Int:=if k=0∨k=7 then v % 32 else if k=6 then v % 256 else if k=1∨k=2 then v - v % 4 else v
def CW (c:List Int) (k v:Int):List Int:=if 0≤k∧k≤7 then c.set (17+k.toNat) (csrV k v) else c
def i32 (x:Int):Int:=Go.RowKit.wrap32 x
def u32 (x:Int):Int:=IntKind.u32.wrap x
def divQ (a b:Int):Int:=if b=0 then 4294967295 else u32 ((i32 a).tdiv (i32 b))
def divR (a b:Int):Int:=if b=0 then a else u32 ((i32 a).tmod (i32 b))
def AC (op a b:Int):Int :=
 if op=1∨op=16 then u32 (a+b)
 else if op=2 then u32 (a - b)
 else if op=3∨op=17 then bits .and .u32 a b
 else if op=4∨op=18 then bits .or .u32 a b
 else if op=5∨op=19 then bits .xor .u32 a b
 else if op=6∨op=20 then u32 (a*2 ^ (b % 32).toNat)
 else if op=7∨op=21 then a / 2 ^ (b % 32).toNat
 else if op=8∨op=22 then u32 (i32 a / 2 ^ (b % 32).toNat)
 else if op=9 then u32 (a*b)
 else if op=10 then divQ a b
 else if op=11 then divR a b
 else if op=12∨op=23 then (if i32 a<i32 b then 1 else 0)
 else if op=13 then (if a<b then 1 else 0)
 else 0
def GA (op a b:Int):Bool :=
 if op=40 then decide (a=b) else if op=41 then decide (a≠b) else if op=42 then decide (i32 a<i32 b)
 else if op=43 then decide (i32 b≤i32 a) else if op=44 then decide (a<b) else decide (b≤a)
/-! ## Instructions -/
structure In where
 op:Int
 a:Int
 b:Int
 c:Int
 imm:Int
def A2 (op:Int):Int :=
 if 1≤op∧op≤13 then 2
 else if op=16∨op=23∨(32≤op∧op≤36)∨(40≤op∧op≤45)∨op=49 then 3
 else if 17≤op∧op≤19 then 4
 else if 20≤op∧op≤22 then 5
 else if op=24 then 6
 else if op=48 then 7
 else if op=58∨op=59 then 8
 else if op=60∨op=61 then 9
 else if op=56∨op=57∨(62≤op∧op≤64) then 1
 else 0
def loF (f:Int):Int:=if f=3∨f=7 then -32768 else 0
def hiF (f:Int):Int:=if f=3∨f=7 then 32767 else if f=4∨f=6 then 65535 else if f=5 then 31 else if f=8 then 7 else if f=9 then 11 else 0
def DQ (f lw:Int):Int:=if f=2 then 0 else if f=3∨f=7 then (if 32768≤lw then lw - 65536 else lw) else lw
def C9 (w:Int):Option In :=
 if A2 (w / 16777216)≠0∧(A2 (w / 16777216)=1→w / 1048576 % 16=0)∧(w / 65536 % 16=0∨2≤A2 (w / 16777216)∧A2 (w / 16777216)≤5) ∧
     (A2 (w / 16777216)=2→w % 65536≤15)∧loF (A2 (w / 16777216))≤DQ (A2 (w / 16777216)) (w % 65536)∧DQ (A2 (w / 16777216)) (w % 65536)≤hiF (A2 (w / 16777216))
 then some ⟨w / 16777216,w / 1048576 % 16,w / 65536 % 16,if A2 (w / 16777216)=2 then w % 65536 else 0,DQ (A2 (w / 16777216)) (w % 65536)⟩ else none
def BP (op:Int):Bool:=decide (57≤op∧op≤64)
/-! ## The memory: a list of words -/
def Ao (xs:List Int):Int:=((if xs.length % 32=0∧xs.length≤1024 then xs.length / 32 else 0:Nat):Int)
def inB (xs:List Int) (addr size:Int):Bool:=decide (addr % size=0∧addr+size≤Ao xs*128)
def A5 (xs:List Int) (addr:Int):Int:=rg xs (addr / 4).toNat
def Cg (xs:List Int) (addr size:Int):Int:=if size=1 then A5 xs addr / 2 ^ (addr % 4*8).toNat % 256 else A5 xs addr
def ED (w k v:Int):Int:=w - w / 2 ^ (k*8).toNat % 256*2 ^ (k*8).toNat+v % 256*2 ^ (k*8).toNat
def BO (xs:List Int) (addr size v:Int):List Int:=xs.set (addr / 4).toNat (if size=1 then ED (A5 xs addr) (addr % 4) v else v)
def AE (acc:Int):Int:=if acc=1 then 4 else if acc=3 then 6 else 5
def permB (e acc:Int):Bool:=e % 2 == 1 && (acc != 3 || e / 2 % 2 == 1) && (acc != 1 || e / 4 % 2 == 1)
def Cb (xs:List Int) (root va acc:Int):Option (Int×Int) :=
 if va<4096∧root<Ao xs∧permB (A5 xs (root*128+4*(va / 128))) acc=true∧A5 xs (root*128+4*(va / 128)) / 256 % 256<Ao xs
 then some (A5 xs (root*128+4*(va / 128)) / 256 % 256*128+va % 128,root*128+4*(va / 128)) else none
def Jl (e acc:Int):Int:=(e+(if e / 8 % 2=0 then 8 else 0))+(if acc=3∧e / 16 % 2=0 then 16 else 0)
def Dg (xs:List Int) (entry acc:Int):List Int:=xs.set (entry / 4).toNat (Jl (A5 xs entry) acc)
def Ah (c xs:List Int) (va size acc:Int):Int×List Int×Int :=
 if va % size≠0 then (0,xs,3)
 else if BR c=true then
  match Cb xs (rg c 23) va acc with
  | none=>(0,xs,AE acc)
  | some (a,e)=>(a,Dg xs e acc,0)
 else if inB xs va size=true then (va,xs,0) else (0,xs,AE acc)
def AM (c xs:List Int):Int×List Int×Int :=
 if (Ah c xs (rg c 16) 4 1).2.2≠0 then (0,(Ah c xs (rg c 16) 4 1).2.1,(Ah c xs (rg c 16) 4 1).2.2)
 else (A5 (Ah c xs (rg c 16) 4 1).2.1 (Ah c xs (rg c 16) 4 1).1,(Ah c xs (rg c 16) 4 1).2.1,0)
/-! ## Executing an instruction -/
structure Ef where
 k:Int
 p:Int
 r:Int
 v:Int
def ef0:Ef:=⟨0,0,0,0⟩
def An (op:Int):Int:=if op=32∨op=35 then 4 else 1
def sx8 (v:Int):Int:=if 128≤v then v+4294967040 else v
def BU (c:List Int):Int:=u32 (rg c 16+4)
def C3 (c xs:List Int) (i:In):List Int×List Int :=
 let va:=u32 (rg c i.b.toNat+u32 i.imm)
 let r:=Ah c xs va (An i.op) 2
 if r.2.2≠0 then (AN c r.2.2 va,r.2.1)
 else
  let v:=Cg r.2.1 r.1 (An i.op)
  ((Bm c i.a (if i.op=33 then sx8 v else v)).set 16 (BU c),r.2.1)
def BJ (c xs:List Int) (i:In):List Int×List Int :=
 let va:=u32 (rg c i.b.toNat+u32 i.imm)
 let r:=Ah c xs va (An i.op) 3
 if r.2.2≠0 then (AN c r.2.2 va,r.2.1)
 else (c.set 16 (BU c),BO r.2.1 r.1 (An i.op) (rg c i.a.toNat))
def Ap (c:List Int) (i:In):List Int×Ef :=
 let a:=rg c i.a.toNat
 let b:=rg c i.b.toNat
 let imm:=u32 i.imm
 let next:=BU c
 if i.op=24 then ((Bm c i.a (u32 (imm*65536))).set 16 next,ef0)
 else if 40≤i.op∧i.op≤45 then (c.set 16 (if GA i.op a b=true then u32 (rg c 16+u32 (4*imm)) else next),ef0)
 else if i.op=48 then ((Bm c i.a next).set 16 (u32 (rg c 16+u32 (4*imm))),ef0)
 else if i.op=49 then ((Bm c i.a next).set 16 (u32 (b+imm)),ef0)
 else if i.op=56 then (AN c 7 0,ef0)
 else if i.op=57 then (GC c,ef0)
 else if i.op=58 then ((Bm c i.a (rg c (17+i.imm.toNat))).set 16 next,ef0)
 else if i.op=59 then ((CW c i.imm a).set 16 next,ef0)
 else if i.op=60 then (c.set 16 next,⟨1,i.imm,i.a,0⟩)
 else if i.op=61 then (c.set 16 next,⟨2,i.imm,0,a⟩)
 else if i.op=62 then (c.set 16 next,⟨3,0,0,0⟩)
 else if i.op=63 then (c.set 16 next,⟨5,0,0,0⟩)
 else if i.op=64 then (c.set 16 next,⟨4,0,0,0⟩)
 else ((Bm c i.a (AC i.op b (if i.op≤13 then rg c i.c.toNat else imm))).set 16 next,ef0)
def Bn (c xs:List Int):List Int×List Int×Ef :=
 let f:=AM c xs
 if f.2.2≠0 then (AN c f.2.2 (rg c 16),f.2.1,ef0)
 else match C9 f.1 with
  | none=>(AN c 1 f.1,f.2.1,ef0)
  | some i =>
    if BP i.op=true∧BM c=false then (AN c 2 f.1,f.2.1,ef0)
    else if 32≤i.op∧i.op≤34 then ((C3 c f.2.1 i).1,(C3 c f.2.1 i).2,ef0)
    else if 35≤i.op∧i.op≤36 then ((BJ c f.2.1 i).1,(BJ c f.2.1 i).2,ef0)
    else ((Ap c i).1,f.2.1,(Ap c i).2)
/-! ## Valid processors -/
def Words (xs:List Int):Prop:=∀ (i:Nat) (x:Int),xs[i]?=some x→0≤x∧x<4294967296
structure CpuOk (c:List Int):Prop where
 len:c.length=25
 w:Words c
 x0:rg c 0=0
 s:rg c 17≤31
 e:rg c 24≤31
 r:rg c 23≤255
 v:rg c 18 % 4=0
theorem Bg {xs:List Int} (h:Words xs) (i:Nat):0≤rg xs i∧rg xs i<4294967296:=by
 unfold rg
 cases e:xs[i]? with
 | none=>exact⟨by decide,by decide⟩
 | some x=>exact h i x e
theorem CpuOk.at {c:List Int} (h:CpuOk c) (i:Nat):0≤rg c i∧rg c i<4294967296:=Bg h.w i
theorem Gb {v:Int} (h0:0≤v) (h1:v<4294967296) (j:Nat) (hj:j≤32):bits .and .u32 v ((2 ^ j - 1:Nat):Int)=v % 2 ^ j:=by
 obtain⟨n,rfl⟩:∃ n:Nat,v=n:=⟨v.toNat,by omega⟩
 have hp:2 ^ j≤2 ^ 32:=Nat.pow_le_pow_right (by decide) hj
 have hq:0<2 ^ j:=Nat.two_pow_pos j
 rw[u32_and_nat n _ (by omega) (by omega),Nat.and_two_pow_sub_one_eq_mod]
 rw[Int.natCast_emod,Int.natCast_pow];rfl
theorem and1 {v:Int} (h0:0≤v) (h1:v<4294967296):bits .and .u32 v 1=v % 2:=Gb h0 h1 1 (by decide)
theorem and15 {v:Int} (h0:0≤v) (h1:v<4294967296):bits .and .u32 v 15=v % 16:=Gb h0 h1 4 (by decide)
theorem Bi {v:Int} (h0:0≤v) (h1:v<4294967296):bits .and .u32 v 31=v % 32:=Gb h0 h1 5 (by decide)
theorem Db {v:Int} (h0:0≤v) (h1:v<4294967296):bits .and .u32 v 255=v % 256:=Gb h0 h1 8 (by decide)
theorem Hk {v:Int} (h0:0≤v) (h1:v<4294967296):bits .and .u32 v 65535=v % 65536:=Gb h0 h1 16 (by decide)
theorem AT {v:Int} (h0:0≤v) (h1:v<4294967296) (j:Nat) (hj:j<32):bits .and .u32 v ((2 ^ j:Nat):Int)=v / 2 ^ j % 2*2 ^ j:=by
 obtain⟨n,rfl⟩:∃ n:Nat,v=n:=⟨v.toNat,by omega⟩
 have hp:2 ^ j<2 ^ 32:=Nat.pow_lt_pow_right (by decide) hj
 rw[u32_and_nat n _ (by omega) (by omega)]
 have hb:n / 2 ^ j % 2=(n.testBit j).toNat:=by
  rw[Nat.testBit_eq_decide_div_mod_eq]
  rcases Nat.mod_two_eq_zero_or_one (n / 2 ^ j) with h|h <;> simp [h]
 have e:n &&& 2 ^ j=(n.testBit j).toNat*2 ^ j:=by
  apply Nat.eq_of_testBit_eq
  intro i
  rw[Nat.testBit_and,Nat.testBit_two_pow]
  by_cases hi:j=i
  · subst hi
    cases n.testBit j <;> simp
  · rw[decide_eq_false hi,Bool.and_false]
    cases n.testBit j
    · simp
    · rw[Bool.toNat_true,Nat.one_mul,Nat.testBit_two_pow,decide_eq_false hi]
 rw[e,←hb];simp
theorem Ec {v:Int} (h0:0≤v) (h1:v<4294967296):bits .andNot .u32 v 3=v - v % 4:=by
 obtain⟨n,rfl⟩:∃ n:Nat,v=n:=⟨v.toNat,by omega⟩
 have:=u32_andNot_nat n 3 (by omega) (by decide)
 rw[show ((3:Nat):Int)=3 from rfl] at this
 rw[this]
 have e:n &&& (4294967295 - 3)=n / 4*4:=by
  apply Nat.eq_of_testBit_eq
  intro i
  rw[Nat.testBit_and,show n / 4*4=(n >>> 2) <<< 2 by rw[Nat.shiftLeft_eq,Nat.shiftRight_eq_div_pow],show 4294967295 - 3=(2 ^ 30 - 1) <<< 2 by decide,Nat.testBit_shiftLeft,Nat.testBit_shiftLeft,Nat.testBit_shiftRight,Nat.testBit_two_pow_sub_one]
  by_cases hl:2≤i
  · by_cases hb:i - 2<30
    · simp [hl,hb,show 2+(i - 2)=i by omega]
    · have:n.testBit i=false:=Nat.testBit_lt_two_pow (Nat.lt_of_lt_of_le (show n<2 ^ 32 by omega) (Nat.pow_le_pow_right (by decide) (by omega)))
      simp [hl,hb,this,show 2+(i - 2)=i by omega]
  · simp [hl]
 rw[e];omega
theorem bit_orG {a p hi mid lo:Nat} (ha:a=2 ^ (p+1)*hi+(2 ^ p*mid+lo)) (hmid:mid<2) (hlo:lo<2 ^ p):a ||| 2 ^ p=2 ^ (p+1)*hi+(2 ^ p*1+lo):=by
 have hsum:∀ c,c<2→2 ^ p*c+lo<2 ^ (p+1):=fun c hc=>by
  rw[Nat.pow_succ]
  rcases (by omega:c=0∨c=1) with rfl|rfl <;> omega
 apply Nat.eq_of_testBit_eq
 intro i
 rw[Nat.testBit_or,Nat.testBit_two_pow,ha,Nat.testBit_two_pow_mul_add _ (hsum _ hmid),Nat.testBit_two_pow_mul_add _ (hsum 1 (by omega)),Nat.testBit_two_pow_mul_add _ hlo,Nat.testBit_two_pow_mul_add _ hlo]
 by_cases hi:p=i
 · subst hi;simp
 · by_cases hl:i<p
   · simp [hi,hl,show i<p+1 by omega]
   · simp [hi,show ¬i<p+1 by omega]
theorem Gv {a b p hi mid lo:Nat} (_hp:p≤24) (ha:a=2 ^ (p+8)*hi+(2 ^ p*mid+lo)) (hmid:mid<256) (hlo:lo<2 ^ p) (hb:b<256) (hhi:hi<2 ^ (24 - p)) :
    (a &&& (2 ^ (p+8)*(2 ^ (24 - p) - 1)+(2 ^ p - 1))) ||| 2 ^ p*b=2 ^ (p+8)*hi+(2 ^ p*b+lo):=by
 have hpp:0<2 ^ p:=Nat.two_pow_pos p
 have h8:2 ^ (p+8)=2 ^ p*256:=by rw[Nat.pow_add]
 have hm:∀ c,c<256→2 ^ p*c+lo<2 ^ (p+8):=fun c hc=>by
  rw[h8]
  calc 2 ^ p*c+lo<2 ^ p*c+2 ^ p:=by omega
   _=2 ^ p*(c+1):=by rw[Nat.mul_add,Nat.mul_one]
   _≤2 ^ p*256:=Nat.mul_le_mul_left _ (by omega)
 apply Nat.eq_of_testBit_eq
 intro j
 rw[Nat.testBit_or,Nat.testBit_and,ha,Nat.testBit_two_pow_mul_add _ (hm mid hmid),Nat.testBit_two_pow_mul_add _ (hm b hb),Nat.testBit_two_pow_mul_add _ (show 2 ^ p - 1<2 ^ (p+8) by have:=hm 0 (by omega);omega),
  Nat.testBit_two_pow_mul_add _ hlo,Nat.testBit_two_pow_mul_add _ hlo,Nat.testBit_two_pow_sub_one,Nat.testBit_two_pow_sub_one,Nat.testBit_two_pow_mul]
 by_cases h1:j<p
 · simp [h1,show j<p+8 by omega,show ¬p≤j by omega]
 · by_cases h2:j<p+8
   · simp [h1,h2,show p≤j by omega]
   · have hbj:b.testBit (j - p)=false:=Nat.testBit_lt_two_pow (Nat.lt_of_lt_of_le (show b<2 ^ 8 by omega) (Nat.pow_le_pow_right (by decide) (by omega)))
     by_cases h3:j - (p+8)<24 - p
     · simp [h2,h3,hbj]
     · have hh:hi.testBit (j - (p+8))=false:=Nat.testBit_lt_two_pow (Nat.lt_of_lt_of_le hhi (Nat.pow_le_pow_right (by decide) (by omega)))
       simp [h2,h3,hbj,hh]
theorem byte_put (a b:Nat) (ha:a<4294967296) (hb:b<256) (k:Nat) (hk:k≤3):((a &&& (4294967295 - 255*2 ^ (8*k))) ||| b*2 ^ (8*k):Nat)=a - a / 2 ^ (8*k) % 256*2 ^ (8*k)+b*2 ^ (8*k):=by
 obtain rfl|rfl|rfl|rfl:k=0∨k=1∨k=2∨k=3:=by omega
 · have:=Gv (a:=a) (b:=b) (p:=0) (hi:=a / 256) (mid:=a % 256) (lo:=0) (by omega) (by omega) (by omega) (by omega) hb (by omega)
   simp at this ⊢;omega
 · have:=Gv (a:=a) (b:=b) (p:=8) (hi:=a / 65536) (mid:=a / 256 % 256) (lo:=a % 256) (by omega) (by omega) (by omega) (by omega) hb (by omega)
   simp at this ⊢;rw[Nat.mul_comm b];omega
 · have:=Gv (a:=a) (b:=b) (p:=16) (hi:=a / 16777216) (mid:=a / 65536 % 256) (lo:=a % 65536) (by omega) (by omega) (by omega) (by omega) hb (by omega)
   simp at this ⊢;rw[Nat.mul_comm b];omega
 · have:=Gv (a:=a) (b:=b) (p:=24) (hi:=0) (mid:=a / 16777216 % 256) (lo:=a % 16777216) (by omega) (by omega) (by omega) (by omega) hb (by omega)
   simp at this ⊢;rw[Nat.mul_comm b];omega
theorem byte_putI {x b:Int} (k:Nat) (hk:k≤3) (hx0:0≤x) (hx1:x<4294967296) (hb0:0≤b) (hb1:b<256) (m:Nat) (hm:m=255*2 ^ (8*k)) (c:Int) (hc:c=b*2 ^ (8*k)) :
    bits .or .u32 (bits .andNot .u32 x (m:Int)) c=x - x / 2 ^ (8*k) % 256*2 ^ (8*k)+b*2 ^ (8*k):=by
 obtain⟨a,rfl⟩:∃ a:Nat,x=a:=⟨x.toNat,by omega⟩
 obtain⟨d,rfl⟩:∃ d:Nat,b=d:=⟨b.toNat,by omega⟩
 have hmb:m<4294967296:=by
  obtain rfl|rfl|rfl|rfl:k=0∨k=1∨k=2∨k=3:=by omega
  all_goals simp at hm;omega
 have hcb:d*2 ^ (8*k)<4294967296:=by
  obtain rfl|rfl|rfl|rfl:k=0∨k=1∨k=2∨k=3:=by omega
  all_goals simp;omega
 have e:=byte_put a d (by omega) (by omega) k hk
 have hle:a / 2 ^ (8*k) % 256*2 ^ (8*k)≤a:=by
  obtain rfl|rfl|rfl|rfl:k=0∨k=1∨k=2∨k=3:=by omega
  all_goals simp;omega
 rw[u32_andNot_nat a m (by omega) hmb,hc,show (d:Int)*2 ^ (8*k)=((d*2 ^ (8*k):Nat):Int) by simp,u32_or_nat _ _ (Nat.lt_of_le_of_lt Nat.and_le_left (by omega)) hcb,hm,e]
 rw[Int.natCast_add,Int.natCast_sub hle];simp
end Go.Proofs.YtnmpfmapncicmaaGreat
namespace Go.Proofs.YtnmpfmapncicmaaGreat
set_option linter.all false
set_option maxRecDepth 100000
set_option maxHeartbeats 40000000
open Go.RowKit
theorem lh {p : Prop} (h : p) : Hid p := Lib.hid h
theorem nlr (n : Nat) : n ≤ n := Nat.le_refl n
def Ret (w:World) (v:Value) (e:Ending) (w':World):Prop:=e=.returned v∧Below w.heap.size w w'
theorem Ret.mk {w w':World} {v:Value} (h:Below w.heap.size w w'):Ret w v (.returned v) w':=⟨rfl,h⟩
theorem Ret.mk' {w w':World} {v u:Value} (e:u=v) (h:Below w.heap.size w w'):Ret w v (.returned u) w':=⟨by rw[e],h⟩
theorem Cn {W w1:World} (hb:Below W.heap.size W w1):(∀ b o,b<W.heap.size→w1.cell? ⟨b,o,none⟩=W.cell? ⟨b,o,none⟩)∧(∀ b o,b<W.heap.size→w1.frozen? ⟨b,o,none⟩=W.frozen? ⟨b,o,none⟩) :=
 ⟨fun b o h=>hb.cell (p:=⟨b,o,none⟩) h,fun b o h=>hb.frozen (p:=⟨b,o,none⟩) h⟩
theorem BH {W w1:World} (hb:Below W.heap.size W w1):W.heap.size≤w1.heap.size:=hb.size
theorem sizes:(∀ (w:World) (o:Obj),(w.alloc o).heap.size=w.heap.size+1)∧(∀ (w:World) (a:Addr) (v:Value),(w.setCell a v).heap.size=w.heap.size)∧(∀ w:World,w.drew.heap.size=w.heap.size) :=
 ⟨fun _ _=>World.size_alloc ..,fun _ _ _=>World.size_setCell ..,fun _=>rfl⟩
theorem Bo:(∀ (w:World) (o:Obj),(w.alloc o).heap.size=w.heap.size+1)∧(∀ (w:World) (a:Addr) (v:Value),(w.setCell a v).heap.size=w.heap.size)∧(∀ w:World,w.drew.heap.size=w.heap.size)∧(∀ n m:Nat,(n+1≤m)=(n<m)) :=
 ⟨sizes.1,sizes.2.1,sizes.2.2,fun _ _=>rfl⟩
theorem A9 {P:Program} {f:FuncId} {args:Array Value} {w:World} {d:Nat} {os:Array Obj} {v:Value}
    (h:Calls P f args (Sort.grow (redrawn w d) os) (Ret (Sort.grow (redrawn w d) os) v)):Calls P f args (Sort.grow (redrawn w d) os) fun e w''=>e=.returned v∧∃ p:Regrown,w''=Sort.grow (redrawn w p.d) p.os :=
 Calls.regrown_of (h.mono fun _ _ hh=>⟨hh.1,hh.2⟩)
@[go_sem] theorem cell_regrown_lt (w:World) (d:Nat) (os:Array Obj) (b o:Nat) (h:b<w.heap.size):(Sort.grow (redrawn w d) os).cell? ⟨b,o,none⟩=w.cell? ⟨b,o,none⟩ :=
 (below_regrown w d os).cell (p:=⟨b,o,none⟩) h
theorem Aa {w w':World} (h:∃ p:Regrown,w'=Sort.grow (redrawn w p.d) p.os):Below w.heap.size w w':=by
 obtain⟨p,rfl⟩:=h
 exact below_regrown w p.d p.os
theorem isEmpty_iff (s:ByteArray):s.toList.isEmpty=decide (s.size=0):=by
 rw[ByteArray.toList_eq]
 cases s with
 | mk d =>
   cases d with
   | mk l=>cases l <;> simp [ByteArray.size]
theorem bel3 {n : Nat} {w w' : World} (h : Below n w w' := by (repeat' (first|(with_reducible first|assumption|exact Below.refl _ _|refine Below.drew ?_|refine Below.alloc' ?_ (nlr _) _|refine Below.setCell ?_ ?_ _)|refine Below.trans ?_ (Below.mono (by with_reducible assumption) ?_)|exact rfl|exact nlr _|omega|(simp only[sizes];done)|(simp only[sizes];omega)))) : Below n w w' := h
theorem bel {n : Nat} {w w' : World} (h : Below n w w' := by repeat' (first|(with_reducible first|exact Below.refl _ _|refine Below.drew ?_|refine Below.alloc ?_ ?_ _|refine Below.setCell ?_ ?_ _)|refine Below.trans ?_ (Below.mono (by with_reducible assumption) ?_)|exact nlr _|omega|(simp only[sizes];done)|(simp only[sizes];omega))) : Below n w w' := h
theorem sz5 {p : Prop} (h : p := by first|exact rfl|exact nlr _|omega|(dsimp only;omega)|(simp only[sizes];done)|(simp only[sizes];omega)) : p := h
theorem sz4 {p : Prop} (h : p := by first|exact rfl|exact nlr _|omega|(simp only[sizes];done)|(simp only[sizes];omega)) : p := h
theorem Z1 {P:Program} {w:World} {ops:Array Oper} {oi:Oper} {a a':Act} {Q:Exit→Act→World→Prop} {S:World→Prop} {md:Region.Mode} {i:Nat} {v:Value} {fuel:Nat} {listed:Array Bool}
    (h:wpAnyH P md ops Q S fuel (listed.setIfInBounds i true) a' w) (hi:ops[i]?=some oi:=by exact rfl) (hs:Region.noSelect ops=true:=by kernel_rfl) (hf:Region.free md ops listed i=true:=by kernel_rfl) (hr:(Region.ready md ops listed).contains i=true:=by kernel_rfl)
    (hQ:∀ c a w,Q (.panic c) (a.put oi.dst v) w→Q (.panic c) a w:=by exact fun _ _ _ h=>h) (hw:Region.wanted oi (yielded ops a.tmps)=true:=by rfl)
    (hy:∀ w',S w'→(execOp a.eval oi).run P w'=.ok (.value v) w':=by (intro w' hSw;(try dsimp only at hSw);first|(go_simp;done)|(go_simp;with_reducible rfl))) (hS:S w:=by assumption)
    (ha:a.put oi.dst v=a':=by first|(simp only[List.getElem_toArray,List.getElem_cons_succ,List.getElem_cons_zero,Act.put,List.setIfInBounds_toArray,List.set_cons_zero,List.set_cons_succ];exact rfl)|exact rfl) :
    wpAnyH P md ops Q S (fuel+1) listed a w:=wpAnyH_take hi hs hf hr hQ (Or.inl ⟨hw,hy⟩) hS (by rw[ha];exact h)
theorem ZD {P:Program} {w:World} {ops:Array Oper} {a:Act} {Q:Exit→Act→World→Prop} {md:Region.Mode} {fuel:Nat} {listed:Array Bool} {S:World→Prop} (h:Q .normal a w) (hr:Region.ready md ops listed=[]:=by kernel_rfl):wpAnyH P md ops Q S fuel listed a w:=wpAnyH_done hr h fuel
section
variable {P:Program} {ops:Array Oper} {md:Region.Mode} {C:World→Prop}
def GF (P:Program) (md:Region.Mode) (ops:Array Oper) (C:World→Prop) (n:Nat) (L:Array Bool→Act→Prop):Nat→Array Bool→Act→Prop
 | 0,listed,a=>L listed a
 | f+1,listed,a =>
   Region.ready md ops listed≠[]∧∀ i∈Region.ready md ops listed,i<n∧qOp P ops C i (GF P md ops C n L f (listed.setIfInBounds i true)) a
theorem FA {n g:Nat} {L:Array Bool→Act→Prop} {Q':Exit→Act→World→Prop} (hL:∀ listed a w,C w→L listed a→wpAny P md ops Q' g listed a w) :
    ∀ (f:Nat) (listed:Array Bool) (a:Act) (w:World),C w→GF P md ops C n L f listed a→wpAny P md ops Q' (f+g) listed a w
 | 0,listed,a,w,hw,h=>by rw[Nat.zero_add];exact hL _ _ _ hw h
 | f+1,listed,a,w,hw,h=>by
   rw[show f+1+g=(f+g)+1 by omega]
   exact⟨fun h0=>absurd h0 h.1,fun i hi=>wpOp_of_qOp hw (fun a' w' hw' h'=>FA hL f _ a' w' hw' h') (h.2 i hi).2⟩
theorem Xz118 {P:Prop} (h:P:=by
  rcases Nat.lt_or_ge j n with h|h
  · exact h
  · exact absurd hj (tail_waits hs hc hn inv _ i rfl hin hun j h)):P:=h
theorem wpAnyQL_first {n i:Nat} {oi:Oper} {v:Value} {L:Array Bool→Act→Prop} (hi:ops[i]?=some oi) (hsel:∀ (j:Nat) (o:Oper) cs b,ops[j]?=some o→o.op≠.select cs b)
    (hs:Region.sinkB md ops n=true) (hc:Region.chainB md ops n=true) (hn:n<ops.size) (hin:i<n)
    (hdone:∀ listed a,L listed a→∀ j∈Region.ready md ops listed,n≤j) :
    ∀ (f:Nat) (listed:Array Bool) (a:Act),HeadInv md ops n listed →
     (∀ j oj,ops[j]?=some oj→j≠i→listed.getD j true=false→(∀ e∈oj.after,Region.binds md e=true→e.on≠i)→oi.apart ops oj=true) →
     i∈Region.ready md ops listed→YieldsIn P ops C oi v a →
     GF P md ops C n L f (listed.setIfInBounds i true) (a.put oi.dst v)→GF P md ops C n L (f+1) listed a:=by
 intro f
 induction f with
 | zero =>
   intro listed a inv _ hr hy H
   have hun:=(mem_ready.1 hr).1
   refine ⟨fun h=>(by rw[h] at hr;cases hr),fun j hj=>?_⟩
   have hjn:j<n:=by
    exact Xz118
   refine ⟨hjn,?_⟩
   by_cases hji:j=i
   · subst hji;exact hy.qOp hi H
   · have:=hdone _ _ H j (ready_mono hj hji)
     omega
 | succ f ih =>
   intro listed a inv hfree hr hy H
   have hun:=(mem_ready.1 hr).1
   refine ⟨fun h=>(by rw[h] at hr;cases hr),fun j hj=>?_⟩
   have hjn:j<n:=by
    exact Xz118
   refine ⟨hjn,?_⟩
   by_cases hji:j=i
   · subst hji;exact hy.qOp hi H
   · have h1:=(H.2 j (ready_mono hj hji)).2
     obtain⟨hjun,oj,hoj,hall⟩:=mem_ready.1 hj
     have hnot:∀ e∈oj.after,Region.binds md e=true→e.on≠i:=fun e he hb heq=>by
      have h1:=hall e he hb
      rw[heq,getD_both hun] at h1
      cases h1
     have h2:=qOp_put hoj (hfree j oj hoj hji hjun hnot) (fun cs b=>hsel i oi cs b hi) (fun cs b=>hsel j oj cs b hoj) hy h1
     have hfree':∀ k ok,ops[k]?=some ok→k≠i→(listed.setIfInBounds j true).getD k true=false →
         (∀ e∈ok.after,Region.binds md e=true→e.on≠i)→oi.apart ops ok=true:=fun k ok hk hki hun hno=>by
      refine hfree k ok hk hki ?_ hno
      by_cases hjk:j=k
      · subst hjk;exact hjun
      · rw[getD_set_ne true hjk] at hun;exact hun
     refine qOp_mono (fun a' h3=>ih (listed.setIfInBounds j true) a' (inv.set hj hjn) hfree' (ready_mono hr (Ne.symm hji)) h3.1 ?_) h2
     rw[Array.setIfInBounds_comm _ _ hji]
     exact h3.2
theorem Jf {n g:Nat} {Lq:Act→Prop} (hsel:Region.noSelect ops=true) (hs:Region.sinkB md ops n=true) (hc:Region.chainB md ops n=true) (hn:n<ops.size) :
    ∀ (l:List Oper) (k:Nat) (listed:Array Bool) (a:Act),(∀ j,j<l.length→l[j]?=ops[k+j]?)→k+l.length=n→HeadInv md ops n listed →
    Region.lexHead md ops g l.length k listed=true→wpQuiet P ops C Lq l a →
    GF P md ops C n (fun listed' a'=>Region.seqB md ops g n listed'=true∧Lq a') l.length listed a
 | [],k,listed,a,_,hk,_,hB,h=>by
   have:k=n:=by simpa using hk
   subst this
   exact⟨by simpa [Region.lexHead] using hB,h⟩
 | o :: l,k,listed,a,hl,hk,inv,hB,h=>by
   have h0:ops[k]?=some o:=by simpa using (hl 0 (by simp)).symm
   simp only[List.length_cons,Region.lexHead,Bool.and_eq_true] at hB
   obtain⟨⟨hr,hf⟩,hB'⟩:=hB
   have hkn:k<n:=by simp only[List.length_cons] at hk;omega
   have hr':k∈Region.ready md ops listed:=by simpa using hr
   have hst:qOp P ops C k (wpQuiet P ops C Lq l) a:=by unfold qOp;simp only[h0];exact h
   obtain⟨v,hy,hK⟩:=yieldsIn_of_qOp h0 hst
   exact wpAnyQL_first h0 (Region.noSelect_spec hsel) hs hc hn hkn (fun listed' a' hL=>seqB_ready hL.1) l.length listed a inv (Region.free_spec h0 hf) hr' hy
    (Jf hsel hs hc hn l (k+1) _ _ (fun j hj=>by have:=hl (j+1) (by simp;omega);simpa [Nat.add_assoc,Nat.add_comm 1 j] using this) (by simp only[List.length_cons] at hk;omega) (inv.set hr' hkn) hB' hK)
theorem F9 {id:Nat} {Q:Exit→Act→World→Prop} {a:Act} {w:World} {l:List Oper} (n:Nat) (hm:P.follows .mixedOrders=true) (hB:Region.lexTailB .any l.toArray n=true) (hC:C { w with drawn:=w.drawn+1 })
    (h:wpQuiet P l.toArray C (fun a'=>∀ w',C w'→wpList P l.toArray Q (l.drop n) a' w') (l.take n) a):(Code.region id l.toArray true).wp P Q a w:=by
 simp only[Region.lexTailB,Bool.and_eq_true,decide_eq_true_eq] at hB
 obtain⟨⟨⟨⟨hsel,hn⟩,hs⟩,hc⟩,hlex⟩:=hB
 have hn':n<l.length:=by simpa using hn
 have htl:(l.take n).length=n:=by simp;omega
 have hdl:(l.drop n).length=l.toArray.size - n:=by simp
 have inv0:HeadInv .any l.toArray n (Array.replicate l.toArray.size false) :=
  ⟨by simp,fun j oj _ hl=>(by rw[getD_replicate_false] at hl;cases hl),fun t _ ht=>getD_in (by simpa using ht) (getD_replicate_false _ _)⟩
 have H:=Jf (md:=.any) (g:=l.toArray.size - n) hsel hs hc hn (l.take n) 0 _ a (fun j hj=>by
  have hj':j<n:=by rw[htl] at hj;exact hj
  simp [hj']) (by simpa using htl) inv0 (by rw[htl];exact hlex) h
 refine wp_region_any hm ?_
 have:=FA (Q':=Q) (g:=l.toArray.size - n) (fun listed a' w' hw' hL=>by
  have:=wpAny_of_seq (md:=.any) (Q':=Q) (l.drop n) n listed a' w' (fun j=>by simp [List.getElem?_drop]) (by rw[hdl];exact hL.1) (hL.2 w' hw')
  rwa[hdl] at this) _ _ _ _ hC H
 rw[htl,show n+(l.toArray.size - n)=l.toArray.size by omega] at this
 exact this
end
theorem Bf {P:Program} {id:Nat} {Q:Exit→Act→World→Prop} {a:Act} {w:World} {l:List Oper} (n:Nat) (hm:P.follows .mixedOrders=true) (hB:Region.lexTailB .any l.toArray n=true)
    (h:wpQuiet P l.toArray (fun w'=>∃ p:Regrown,w'=Sort.grow (redrawn w p.d) p.os) (fun a'=>∀ w',(∃ p:Regrown,w'=Sort.grow (redrawn w p.d) p.os)→wpList P l.toArray Q (l.drop n) a' w') (l.take n) a):(Code.region id l.toArray true).wp P Q a w :=
 F9 (C:=fun w'=>∃ p:Regrown,w'=Sort.grow (redrawn w p.d) p.os) n hm hB ⟨⟨w.drawn+1,#[]⟩,by rw[Sort.grow_empty];rfl⟩ h
def RowAt (w:World) (v:Value) (n:Nat) (vals:List Value):Prop :=
 ∃ (ao:Option Addr) (cap:Nat),v=.slice ao n cap∧n≤cap∧cap≤maxLen∧(vals=[]∨∃ b off,ao=some ⟨b,off,none⟩∧b<w.heap.size∧∀ (i:Nat) (u:Value),vals[i]?=some u→w.cell? ⟨b,off+i,none⟩=some u)
theorem RowAt.nil (w:World):RowAt w (.slice none 0 0) 0 []:=⟨none,0,rfl,nlr _,Nat.zero_le _,.inl rfl⟩
theorem RowAt.of_owns {w:World} {base:Nat} {e:TypeId} {size n:Nat} {v:Value} {vals:List Value} (h:w.ownsRow base e size v n vals):RowAt w v n vals:=by
 obtain⟨hl,h⟩:=h
 rcases h with ⟨rfl,rfl⟩|⟨g,cap,cur,rfl,hb,hg,hn,hm,hs,ht⟩
 · obtain rfl:vals=[]:=by simpa using hl
   exact RowAt.nil w
 · refine ⟨_,cap,rfl,hn,hm,.inr ⟨g,0,rfl,(Array.getElem?_eq_some_iff.1 hg).1,fun i u hu=>?_⟩⟩
   rw[Nat.zero_add,cell_of_row w g i cur e (0,0) hg]
   rw[←ht,List.getElem?_take] at hu
   split at hu
   · simpa using hu
   · cases hu
def IntRow (w:World) (v:Value) (xs:List Int):Prop:=RowAt w v xs.length (xs.map (Value.int .i64))
theorem IntRow.nil (w:World):IntRow w (.slice none 0 0) []:=RowAt.nil w
theorem Af {w w':World} {base:Nat} {e:TypeId} {size n:Nat} {v:Value} {xs:List Value} (h:w.ownsRow base e size v n xs) (hb:Below w.heap.size w w'):w'.ownsRow base e size v n xs :=
 h.kept (row:=none) ⟨hb.os,hb.tape,hb.output,hb.size,fun k hk _=>hb.block k hk⟩ (by cases hv:v.ownBlock <;> simp)
theorem A4 {w W w2:World} {e:TypeId} {size n:Nat} {v:Value} {xs:List Value} (hB:Below w.heap.size w W) (hown:W.ownsRow w.heap.size e size v n xs) (hg:W.grownBy w2 v.ownBlock):Below w.heap.size w w2 :=
 hB.grown hg hB.size (fun k hk=>(hown.lt k hk).1)
theorem below_append' {w W w2:World} {base:Nat} {e:TypeId} {size n:Nat} {v:Value} {xs:List Value} (hB:Below w.heap.size w W) (hown:W.ownsRow base e size v n xs) (hg:W.grownBy w2 v.ownBlock) (hb:w.heap.size≤base):Below w.heap.size w w2 :=
 hB.grown hg hB.size (fun k hk=>Nat.le_trans hb (hown.lt k hk).1)
theorem A8 (w:World) (cs:List Value) (e:TypeId) (n:Nat) (hn:n=w.heap.size):∀ (j:Nat) (u:Value),cs[j]?=some u→(w.alloc (.cells cs.toArray e)).cell? ((⟨n,0,none⟩:Addr).add j)=some u:=by
 subst hn
 intro j u h
 have e1:(⟨w.heap.size,0,none⟩:Addr).add j=⟨w.heap.size,j,none⟩:=by unfold Addr.add;split <;> simp_all
 rw[e1,World.cell?_alloc_at (hn:=rfl)]
 simpa using h
def HasBlock (w:World) (b:Nat) (cs:Array Value) (T:TypeId):Prop:=w.heap[b]?=some (.cells cs T (0,0))
theorem HasBlock.lt {w:World} {b:Nat} {cs:Array Value} {T:TypeId} (h:HasBlock w b cs T):b<w.heap.size:=(Array.getElem?_eq_some_iff.1 h).1
theorem HasBlock.alloc {w:World} {b:Nat} {cs:Array Value} {T:TypeId} (h:HasBlock w b cs T) (o:Obj):HasBlock (w.alloc o) b cs T:=(Below.heap_alloc w o b h.lt).trans h
theorem HasBlock.set_ne {w:World} {b:Nat} {cs:Array Value} {T:TypeId} (h:HasBlock w b cs T) {b' j:Nat} (hne:b≠b') (v:Value):HasBlock (w.setCell ⟨b',j,none⟩ v) b cs T:=(Below.heap_setCell w _ v b hne).trans h
theorem HasBlock.set_at {w:World} {b:Nat} {cs:Array Value} {T:TypeId} (h:HasBlock w b cs T) (j:Nat) (v:Value):HasBlock (w.setCell ⟨b,j,none⟩ v) b (cs.setIfInBounds j v) T:=by
 unfold HasBlock at *
 simp only[World.setCell,Array.getElem?_modify,h]
 simp
theorem HasBlock.below {w w':World} {b:Nat} {cs:Array Value} {T:TypeId} (h:HasBlock w b cs T) (hb:Below w.heap.size w w'):HasBlock w' b cs T:=(hb.block b h.lt).trans h
theorem HasBlock.made (w:World) (cs:Array Value) (T:TypeId):HasBlock (w.alloc (.cells cs T)) w.heap.size cs T:=heap_alloc_new w _
theorem HasBlock.cell {w:World} {b:Nat} {cs:Array Value} {T:TypeId} (h:HasBlock w b cs T) (j:Nat):w.cell? ⟨b,j,none⟩=cs[j]?:=cell_of_row w b j cs T (0,0) h
theorem HasBlock.free {w:World} {b:Nat} {cs:Array Value} {T:TypeId} (h:HasBlock w b cs T) (j:Nat):w.frozen? ⟨b,j,none⟩=false:=by
 unfold HasBlock at h
 simp [World.frozen?,h]
theorem Dh {P:Program} (t e:TypeId) (z:Value) (bytes:Nat) (ht:P.underlying t=some (.slice e)) (hinfo:(P.info? e).map (fun i=>(i.zero,i.size,i.bytes))=some (some z,1,bytes)) (hz:z.cells=#[z])
    (n:Nat) (hb:bytes*n≤281474976710656) (hn:n≤9223372036854775807) (w:World) :
    (Instr.makeSlice t (.int .i64 (n:Int)) (.int .i64 (n:Int))).run P w=.ok (.slice (some ⟨w.heap.size,0,none⟩) n n) (w.alloc (.cells (List.replicate n z).toArray e)):=by
 obtain⟨i,hi,hz0,hz1,hz2⟩:=info_parts hinfo
 have hbytes:(i.bytes:Int)*(n:Int)≤281474976710656:=by
  have h:((i.bytes*n:Nat):Int)≤281474976710656:=by rw[hz2];omega
  rwa[Int.natCast_mul] at h
 have hr:=run_make (P:=P) w t e i z ht hi hz0 .i64 .i64 n n (by omega) (by omega) hbytes (by omega)
 simp only[Int.toNat_natCast] at hr
 rw[hr,hz,hz1,Nat.mul_one]
 congr 3
 apply Array.toList_inj.1
 rw[toList_madeCells_one]
theorem A6 {α:Type} {xs:List α} {k:Nat} (h:k<xs.length):∃ x,xs[k]?=some x:=⟨xs[k],List.getElem?_eq_getElem h⟩
theorem AJ {α:Type} {xs:List α} {k:Nat} {x:α} (h:xs[k]?=some x):k<xs.length:=(List.getElem?_eq_some_iff.1 h).1
def Dt {α:Type} (cs:List α) (o:Nat) (vs:List α):List α:=cs.take o++vs++cs.drop (o+vs.length)
theorem Jj {α:Type} {cs vs:List α} (h:vs.length=cs.length):Dt cs 0 vs=vs:=by
 unfold Dt;rw[List.take_zero,Nat.zero_add,h,List.drop_length,List.append_nil,List.nil_append]
theorem putAt_in {α:Type} {cs vs:List α} {o j:Nat} (h:o+vs.length≤cs.length) (hj:j<vs.length):(Dt cs o vs)[o+j]?=vs[j]?:=by
 unfold Dt
 rw[List.getElem?_append_left (by rw[List.length_append,List.length_take];omega),List.getElem?_append_right (by rw[List.length_take];omega),List.length_take,Nat.min_eq_left (by omega),Nat.add_sub_cancel_left]
theorem EZ {α:Type} {cs vs:List α} {o j:Nat} (h:o+vs.length≤cs.length) (hj:j<o∨o+vs.length≤j):(Dt cs o vs)[j]?=cs[j]?:=by
 unfold Dt
 rcases hj with hj|hj
 · rw[List.append_assoc,List.getElem?_append_left (by rw[List.length_take];omega),List.getElem?_take_of_lt hj]
 · rw[List.getElem?_append_right (by rw[List.length_append,List.length_take];omega),List.length_append,List.length_take,Nat.min_eq_left (by omega),List.getElem?_drop]
   congr 1;omega
def Same (w:World) (v:Value) (e:Ending) (w':World):Prop:=e=.returned v∧w=w'
theorem Same.mk {w:World} {v:Value}:Same w v (.returned v) w:=⟨rfl,rfl⟩
theorem Same.mk' {w:World} {v u:Value} (e:u=v):Same w v (.returned u) w:=⟨by rw[e],rfl⟩
structure But (B:Nat) (w w':World):Prop where
 os:w'.os=w.os
 tape:w'.tape=w.tape
 output:w'.output=w.output
 size:w'.heap.size=w.heap.size
 heap:∀ b,b≠B→w'.heap[b]?=w.heap[b]?
theorem But.refl (B:Nat) (w:World):But B w w:=⟨rfl,rfl,rfl,rfl,fun _ _=>rfl⟩
theorem But.setCell (B j:Nat) (w:World) (v:Value):But B w (w.setCell ⟨B,j,none⟩ v):=⟨rfl,rfl,rfl,sizes.2.1 _ _ _,fun b hb=>Below.heap_setCell w _ v b hb⟩
theorem But.trans {B:Nat} {w w1 w2:World} (h:But B w w1) (g:But B w1 w2):But B w w2 :=
 ⟨g.os.trans h.os,g.tape.trans h.tape,g.output.trans h.output,g.size.trans h.size,fun b hb=>(g.heap b hb).trans (h.heap b hb)⟩
theorem But.setCells (B:Nat):∀ (vs:List Value) (o:Nat) (w:World),But B w (w.setCells B o vs)
 | [],_,w=>But.refl B w
 | v :: vs,o,w=>(But.setCell B o w v).trans (But.setCells B vs (o+1) _)
theorem But.block {B b:Nat} {w w':World} {cs:Array Value} {T:TypeId} (h:But B w w') (hb:HasBlock w b cs T) (hne:b≠B):HasBlock w' b cs T:=(h.heap b hne).trans hb
theorem But.below {B base:Nat} {w0 w w':World} (h:But B w w') (hb:Below base w0 w) (hB:base≤B):Below base w0 w' :=
 ⟨h.os.trans hb.os,h.tape.trans hb.tape,h.output.trans hb.output,by rw[h.size];exact hb.size,fun b hlt=>(h.heap b (by omega)).trans (hb.block b hlt)⟩
theorem HasBlock.setCells {w:World} {B:Nat} {T:TypeId}:∀ (vs:List Value) (o:Nat) (cs:List Value),HasBlock w B cs.toArray T→o+vs.length≤cs.length→HasBlock (w.setCells B o vs) B (Dt cs o vs).toArray T:=by
 intro vs o cs h hl
 have key:∀ (vs:List Value) (o:Nat) (cs:List Value) (w:World),HasBlock w B cs.toArray T→o+vs.length≤cs.length→HasBlock (w.setCells B o vs) B (Dt cs o vs).toArray T:=by
  intro vs
  induction vs with
  | nil=>intro o cs w h hl;unfold Dt;simpa [World.setCells] using h
  | cons v vs ih =>
    intro o cs w h hl
    rw[List.length_cons] at hl
    have h1:=h.set_at o v
    rw[List.setIfInBounds_toArray] at h1
    have h2:=ih (o+1) (cs.set o v) _ h1 (by rw[List.length_set];omega)
    rw[World.setCells]
    have e:Dt (cs.set o v) (o+1) vs=Dt cs o (v :: vs):=by
     apply List.ext_getElem?
     intro j
     by_cases hj:j<o
     · rw[EZ (by rw[List.length_set];omega) (.inl (by omega)),EZ (by rw[List.length_cons];omega) (.inl hj),List.getElem?_set_ne (by omega)]
     · by_cases hj2:j=o
       · subst hj2
         have:=putAt_in (cs:=cs) (vs:=v :: vs) (o:=j) (j:=0) (by rw[List.length_cons];omega) (by rw[List.length_cons];omega)
         rw[Nat.add_zero] at this
         rw[EZ (by rw[List.length_set];omega) (.inl (by omega)),List.getElem?_set_self (by omega),this];rfl
       · by_cases hj3:j<o+1+vs.length
         · obtain⟨k,rfl⟩:∃ k,j=o+1+k:=⟨j - (o+1),by omega⟩
           rw[putAt_in (by rw[List.length_set];omega) (by omega)]
           have:=putAt_in (cs:=cs) (vs:=v :: vs) (o:=o) (j:=k+1) (by rw[List.length_cons];omega) (by rw[List.length_cons];omega)
           rw[show o+1+k=o+(k+1) by omega,this];rfl
         · rw[EZ (by rw[List.length_set];omega) (.inr (by omega)),EZ (by rw[List.length_cons];omega) (.inr (by rw[List.length_cons];omega)),List.getElem?_set_ne (by omega)]
    rw[←e];exact h2
 exact key vs o cs w h hl
theorem HasBlock.range {w:World} {B:Nat} {T:TypeId} {cs:List Value} (h:HasBlock w B cs.toArray T) (o:Nat) (vs:List Value) (hv:∀ j v,vs[j]?=some v→cs[o+j]?=some v):w.rangeAt B o vs:=fun j v hj=>by
 rw[h.cell,List.getElem?_toArray];exact hv j v hj
theorem HasBlock.there {w:World} {B:Nat} {T:TypeId} {cs:List Value} (h:HasBlock w B cs.toArray T) {o n:Nat} (hn:o+n≤cs.length):w.there B o n:=fun j hj =>
 ⟨by rw[h.cell,List.getElem?_toArray,List.getElem?_eq_getElem (by omega)];rfl,h.free _⟩
section
variable {P:Program}
theorem Hz {ops:Array Oper} {rest:List Oper} {op:Oper} {a:Act} {w:World} {Q:Exit→Act→World→Prop} {B o:Nat} {T ty:TypeId} {x:Operand} {cs:List Value} {d:TypeDesc} (vs:List Value) (hB:HasBlock w B cs.toArray T)
    (hgd:op.guard=none) (ho:op.op=.load ty x) (hx:a.eval x=.pointer (some ⟨B,o,none⟩))
    (hu:P.underlying ty=some d) (hd:d.isRow=true) (hi:(P.info? ty).map (·.size)=some vs.length) (hv:∀ j v,vs[j]?=some v→cs[o+j]?=some v)
    (h:wpList P ops Q rest (a.put op.dst (.agg vs.toArray)) w):wpList P ops Q (op :: rest) a w :=
 wpList_load_mid hgd ty x ho B o hx vs d (hB.range o vs hv) hu hd hi h
theorem GB {ops:Array Oper} {rest:List Oper} {op:Oper} {a:Act} {w:World} {Q:Exit→Act→World→Prop} {B o:Nat} {T ty:TypeId} {x y:Operand} {cs:List Value} (vs:List Value) (hB:HasBlock w B cs.toArray T)
    (hgd:op.guard=none) (ho:op.op=.store ty x y) (hx:a.eval x=.pointer (some ⟨B,o,none⟩)) (hy:a.eval y=.agg vs.toArray)
    (hn:o+vs.length≤cs.length) (hi:(P.info? ty).map (·.size)=some vs.length) (h1:∀ v∈vs,v.oneCell'=true)
    (h:∀ w',HasBlock w' B (Dt cs o vs).toArray T→But B w w'→wpList P ops Q rest (a.put op.dst undef) w'):wpList P ops Q (op :: rest) a w:=by
 refine wpList_store_mid hgd ty x y ho B o vs.toArray hx hy (by rw[List.size_toArray];exact hB.there hn) (by rw[List.size_toArray];exact hi) (all_oneCell_toArray h1) ?_
 exact h _ (HasBlock.setCells vs o cs hB hn) (But.setCells B vs o w)
theorem Xz42 {P:Prop} (h:P:=by
  have hagg:(isAgg ty).run P w=.ok false w:=by
   unfold isAgg
   rw[Sem.run_bind,run_underlying hu w]
   cases d <;> simp_all
  simp [loadVar,Sem.run_bind,hagg,hc]):P:=h
theorem AA {ops:Array Oper} {rest:List Oper} {op:Oper} {a:Act} {w:World} {Q:Exit→Act→World→Prop} {B j:Nat} {T ty:TypeId} {x:Operand} {cs:List Value} {d:TypeDesc} (u:Value) (hB:HasBlock w B cs.toArray T)
    (hgd:op.guard=none) (ho:op.op=.load ty x) (hx:a.eval x=.pointer (some ⟨B,j,none⟩))
    (hu:P.underlying ty=some d) (hd:d.isRow=false) (hv:cs[j]?=some u)
    (h:wpList P ops Q rest (a.put op.dst u) w):wpList P ops Q (op :: rest) a w:=by
 refine wpList_plain hgd fun _ hK=>?_
 have hl:(loadVar ty ⟨B,j,none⟩).run P w=.ok u w:=by
  have hc:w.cell? ⟨B,j,none⟩=some u:=by rw[hB.cell,List.getElem?_toArray];exact hv
  exact Xz42
 unfold Oper.wp execOp
 simp only[ho,hx,Instr.loadAt,Instr.sureAddr,Sem.run_bind,Sem.run_pure,Result.andThen_ok,hl]
 exact hK _ _ h
theorem Xz102 {P:Prop} (h:P:=by
  have:=run_storeVar_mid (P:=P) w B j ty #[u] (hB.there (by show j+1≤_;omega)) hi (by simpa using h1)
  unfold storeVar at this ⊢
  rw[hc];exact this):P:=h
theorem A3 {ops:Array Oper} {rest:List Oper} {op:Oper} {a:Act} {w:World} {Q:Exit→Act→World→Prop} {B j:Nat} {T ty:TypeId} {x y:Operand} {cs:List Value} (u:Value) (hB:HasBlock w B cs.toArray T)
    (hgd:op.guard=none) (ho:op.op=.store ty x y) (hx:a.eval x=.pointer (some ⟨B,j,none⟩)) (hy:a.eval y=u)
    (hnb:Nat.blt j cs.length=true) (hi:(P.info? ty).map (·.size)=some 1) (h1:u.oneCell'=true)
    (h:∀ w',HasBlock w' B (cs.set j u).toArray T→But B w w'→wpList P ops Q rest (a.put op.dst undef) w'):wpList P ops Q (op :: rest) a w:=by
 have hn:j<cs.length:=by simpa using hnb
 refine wpList_plain hgd fun _ hK=>?_
 have hc:u.cells=#[u]:=by cases u <;> first|rfl|cases h1
 have hs:(storeVar ty ⟨B,j,none⟩ u).run P w=.ok () (w.setCell ⟨B,j,none⟩ u):=by
  exact Xz102
 have hb:=hB.set_at j u
 rw[List.setIfInBounds_toArray] at hb
 unfold Oper.wp execOp
 simp only[ho,hx,hy,Instr.storeAt,Instr.sureAddr,Sem.run_bind,Sem.run_pure,Result.andThen_ok,hs]
 exact hK _ _ (h _ hb (But.setCell B j w u))
end
theorem mask_any (n:Int) (w:World) (h:n=4∨n=8∨n=16):Calls Tryz.prog 216 #[.int .i64 n] w (Same w (.int .u32 (2 ^ n.toNat - 1))):=by
 obtain rfl|rfl|rfl:=h
 all_goals
  go_in
  go_wp2
  go_ret
  exact Same.mk' rfl
theorem field_any (x:Int) (lo:Nat) (n:Int) (w:World) (hx0:0≤x) (hx1:x<4294967296) (hl:lo≤31) (h:n=4∨n=8∨n=16):Calls Tryz.prog 161 #[.int .u32 x,.int .i64 lo,.int .i64 n] w (Same w (.int .u32 (x / 2 ^ lo % 2 ^ n.toNat))):=by
 have hp:(0:Int)<2 ^ lo:=Int.pow_pos (by decide)
 have hq0:0≤x / 2 ^ lo:=Int.ediv_nonneg hx0 (Int.le_of_lt hp)
 have hq1:x / 2 ^ lo<4294967296:=Int.lt_of_le_of_lt (Int.ediv_le_self _ hx0) hx1
 have e15:=and15 hq0 hq1
 have e255:=Db hq0 hq1
 have e65:=Hk hq0 hq1
 have hm:=mask_any n w h
 obtain rfl|rfl|rfl:=h
 all_goals
  go_in
  go_wp2_with (go_at_call 216;(with_reducible refine hm.mono ?_);rintro e wz ⟨rfl,rfl⟩)
  go_ret
  exact Same.mk' rfl
theorem DC (x lo n:Int) (w:World) (hx0:0≤x) (hx1:x<4294967296) (hl0:0≤lo) (hl:lo≤31) (h:n=4∨n=8∨n=16):Calls Tryz.prog 161 #[.int .u32 x,.int .i64 lo,.int .i64 n] w (Same w (.int .u32 (x / 2 ^ lo.toNat % 2 ^ n.toNat))):=by
 obtain⟨k,rfl⟩:∃ k:Nat,lo=k:=⟨lo.toNat,by omega⟩
 exact field_any x k n w hx0 hx1 (by omega) h
theorem setField_any (x k v:Int) (w:World) (hx0:0≤x) (hx1:x<4294967296) (hk0:0≤k) (hk:k≤3) (hv0:0≤v) (hv1:v<4294967296):Calls Tryz.prog 218 #[.int .u32 x,.int .i64 (k*8),.int .i64 8,.int .u32 v] w (Same w (.int .u32 (ED x k v))):=by
 have ev:=Db hv0 hv1
 have hb0:0≤v % 256:=by omega
 have hb1:v % 256<256:=by omega
 have hm:=mask_any 8 w (by omega)
 have E:=fun k hk=>byte_putI k hk hx0 hx1 hb0 hb1
 have E0:=E 0 (by decide) 255 (by decide) (v % 256) (by omega)
 have E1:=E 1 (by decide) 65280 (by decide) (v % 256*256) (by omega)
 have E2:=E 2 (by decide) 16711680 (by decide) (v % 256*65536) (by omega)
 have E3:=E 3 (by decide) 4278190080 (by decide) (v % 256*16777216) (by omega)
 have w0:IntKind.u32.wrap (v % 256)=v % 256:=by rw[IntKind.wrap_u32];omega
 have w1:IntKind.u32.wrap (v % 256*256)=v % 256*256:=by rw[IntKind.wrap_u32];omega
 have w2:IntKind.u32.wrap (v % 256*65536)=v % 256*65536:=by rw[IntKind.wrap_u32];omega
 have w3:IntKind.u32.wrap (v % 256*16777216)=v % 256*16777216:=by rw[IntKind.wrap_u32];omega
 have H0:=lh E0;have H1:=lh E1;have H2:=lh E2;have H3:=lh E3
 clear E E0 E1 E2 E3
 obtain rfl|rfl|rfl|rfl:k=0∨k=1∨k=2∨k=3:=by omega
 all_goals
  clear hk0 hk
  go_in
  go_wp2_with (go_at_call 216;(with_reducible refine hm.mono ?_);rintro e wz ⟨rfl,rfl⟩)
  go_ret
  refine Same.mk' (congrArg (Value.int .u32) ?_)
 · exact H0.out
 · exact H1.out
 · exact H2.out
 · exact H3.out
end Go.Proofs.YtnmpfmapncicmaaGreat
namespace Go.Proofs.YtnmpfmapncicmaaGreat
set_option linter.all false
set_option maxRecDepth 100000
set_option maxHeartbeats 40000000
structure Ev where
 k:Int
 n:Int
 d:ByteArray
structure En where
 p:Nat
 e:Ev
structure Sys (M O:Type) where
 cnt:M→Nat
 stuck:M→Bool
 rd:M→Bool
 step:M→Int→M×List O
 app:M→Ev→M×Bool
 ok:M→Prop
 val:Ev→Bool
 okStep:∀ m c,ok m→stuck m=false→ok (step m c).1
 cntStep:∀ m c,ok m→stuck m=false→cnt (step m c).1=cnt m+1
 okApp:∀ m e,ok m→ok (app m e).1
 cntApp:∀ m e,cnt (app m e).1=cnt m
 noApp:∀ m e,(app m e).2=false→(app m e).1=m
 clk:∀ m c d,ok m→rd m=false→step m c=step m d
inductive It where
 | ev (e:Ev)
 | st (c:Int)
namespace Sys
set_option linter.all false
set_option maxRecDepth 100000
set_option maxHeartbeats 40000000
variable {M O:Type} (S:Sys M O)
end Sys
end Go.Proofs.YtnmpfmapncicmaaGreat
