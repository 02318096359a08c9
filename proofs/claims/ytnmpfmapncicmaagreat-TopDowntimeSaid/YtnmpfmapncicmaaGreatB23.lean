/-
  Texts joined: TpRn. No law is proved here.
-/
import Derived.Test.YtnmpfmapncicmaaGreatB21
namespace Go.Proofs.YtnmpfmapncicmaaGreat
set_option linter.all false
set_option maxRecDepth 100000
set_option maxHeartbeats 40000000
open Go.RowKit
section
variable {P:Program} {w0 w:World} {l:List Bx}
theorem old_cell {ops:Array Oper} {rest:List Oper} {op:Oper} {a:Act} {Q:Exit→Act→World→Prop} {b o:Nat} {ty:TypeId} {x:Operand} {u:Value} {d:TypeDesc} (L:Lay w0 w l) (hlt:b<w0.heap.size) (hc0:w0.cell? ⟨b,o,none⟩=some u)
    (hgd:op.guard=none) (ho:op.op=.load ty x) (hx:a.eval x=.pointer (some ⟨b,o,none⟩)) (hu:P.underlying ty=some d) (hd:d.isRow=false)
    (h:wpList P ops Q rest (a.put op.dst u) w):wpList P ops Q (op :: rest) a w:=by
 refine wpList_plain hgd fun _ hK=>?_
 have hc:w.cell? ⟨b,o,none⟩=some u:=(L.bel.cell (p:=⟨b,o,none⟩) hlt).trans hc0
 have hl:(loadVar ty ⟨b,o,none⟩).run P w=.ok u w:=by
  exact Xz42
 unfold Oper.wp execOp
 simp only[ho,hx,Instr.loadAt,Instr.sureAddr,Sem.run_bind,Sem.run_pure,Result.andThen_ok,hl]
 exact hK _ _ h
end
section
variable {w0 w:World} {l:List Bx} {k g n:Nat} {xs c:List Int}
theorem rmark_any (L:Lay w0 w l) (hk:l[k]?=some ⟨g,words xs,25⟩) (hn:xs.length=n) (hm:MemOk xs) (ent acc:Int) (he0:0≤ent) (he1:ent<4294967296) (hin:inB xs ent 4=true) (_ha0:1≤acc) (ha1:acc≤3) :
    Calls Tryz.prog 247 #[.slice (some ⟨g,0,none⟩) n n,.int .u32 ent,.int .i64 acc] w (Bc w0 (l.set k ⟨g,words (Dg xs ent acc),25⟩) (.tuple #[])):=by
 have hw:=E8 hm he0 (.inr rfl) hin
 have hcell:=L.wordCell hk hw
 have hfree:=(L.at hk).free (ent / 4).toNat
 have hbd:=Bg hm.w (ent / 4).toNat
 have P:=fun w=>Ct (some ⟨g,0,none⟩) xs n ent 4 w hm he0 he1 (.inr rfl)
 rw[hin,hn] at P
 have HP:=lh P
 have a0:0≤ent / 4:=by omega
 have a1:ent / 4<(n:Int):=by omega
 unfold Dg A5
 have F:=fun y=>L.setWord hk (ent / 4).toNat y
 have F2:=fun y z=>(L.setWord hk (ent / 4).toNat y).setWord (BK hk _) (ent / 4).toNat z
 simp only[List.set_set] at F2
 obtain⟨x,hx⟩:∃ x,rg xs (ent / 4).toNat=x:=⟨_,rfl⟩
 rw[hx] at hcell hbd ⊢
 have M:=mark_is (acc:=acc) hbd.1 hbd.2
 have HF:=lh F
 have HF2:=lh F2
 have o8:=M.2.2
 clear hin hm hw hk hx hn L F F2 P
 by_cases h3:acc=3
 · subst h3
   have e:=M.2.1 rfl
   rw[←e]
   have HE:=lh e
   clear M e o8
   go_in
   go_wp2_with (refine YL ?_)
   exact bodyPost_ret (v:=.tuple #[]) (results_none rfl _ _ _) rfl ⟨rfl,HF2.out _ _⟩
 · have e:=M.1 h3
   rw[←e]
   have h3':(acc == 3)=false:=by rw[beq_eq_false_iff_ne];exact h3
   clear M e h3 o8
   go_in
   go_wp2_with (refine YL ?_)
   exact bodyPost_ret (v:=.tuple #[]) (results_none rfl _ _ _) rfl ⟨rfl,HF.out _⟩
/-! ## The page table -/
def trL (o:Option (Int×Int)) (acc:Int):List Value:=match o with
 | none=>[.int .u32 0,.int .u32 0,.int .i64 (AE acc)]
 | some (a,e)=>[.int .u32 a,.int .u32 e,.int .i64 0]
theorem trL_one (o:Option (Int×Int)) (acc:Int):∀ v∈trL o acc,v.oneCell'=true:=by
 intro v hv
 cases o with
 | none=>simp only[trL,List.mem_cons,List.not_mem_nil,or_false] at hv;rcases hv with rfl|rfl|rfl <;> rfl
 | some r=>simp only[trL,List.mem_cons,List.not_mem_nil,or_false] at hv;rcases hv with rfl|rfl|rfl <;> rfl
theorem DZ:(Tryz.prog.info? 294).map (·.size)=some 3:=by kernel_rfl
theorem three_one (a b c:Int):∀ v∈[Value.int .u32 a,Value.int .u32 b,Value.int .i64 c],v.oneCell'=true:=by
 intro v hv
 simp only[List.mem_cons,List.not_mem_nil,or_false] at hv
 rcases hv with rfl|rfl|rfl <;> rfl
theorem Xz17 {P:Prop} (h:P:=by
  rw[if_neg (fun h=>by have:=h.2.2.1;first|(simp at this;done)|(have:=h.2.2.2;omega))]
  dsimp only
  clear hbd w4 w5
  have L:=Lay.start w
  go_in
  go_wp2_with (first|(refine old_cell (ty:=25) L hlt hcell rfl rfl rfl τ25 rfl ?_)|(refine YL ?_)|(refine YS ?_;clear L;intro wz L))
  exact Yr1 (Ret.mk L.bel)):P:=h
theorem Xz18 {P:Prop} (h:P:=by
  have L:=Lay.start w
  go_in
  go_wp2_with (first|(refine old_cell (ty:=25) L hlt hcell rfl rfl rfl τ25 rfl ?_)|(refine YL ?_)|(refine YS ?_;clear L;intro wz L))
  exact Yr1 (Ret.mk L.bel)):P:=h
theorem rwalk_any {va:Value} (root x acc:Int) (ha:MemRow w va xs) (hm:MemOk xs) (hr0:0≤root) (hr1:root<4294967296) (hx0:0≤x) (hx1:x<4294967296) (ha0:1≤acc) (ha1:acc≤3) :
    Calls Tryz.prog 246 #[va,.int .u32 root,.int .u32 x,.int .i64 acc] w (Ret w (.agg (trL (Cb xs root x acc) acc).toArray)):=by
 have HROW:=lh ha
 obtain⟨b,off,cap,rfl,hc1,hc2,hlt,hrow⟩:=ha.open
 obtain⟨hp,hp1,hp2⟩:=hm.pages
 have P:=fun w=>DM (some ⟨b,off,none⟩) xs.length cap w hm.r hm.q
 obtain⟨q,hq⟩:∃ q,xs.length / 32=q:=⟨_,rfl⟩
 rw[hq] at P
 have hpq:Ao xs=q:=by omega
 have hq32:q≤32:=by omega
 have uq:IntKind.u32.wrap (q:Int)=q:=by rw[IntKind.wrap_u32];omega
 have HP:=lh P
 have C:=fun w=>D6 acc w ha0 ha1
 have K:=fun w=>D5 acc w ha0 ha1
 have HK:=lh K
 by_cases hx:x<4096
 case neg =>
  have e:Cb xs root x acc=none:=by unfold Cb;rw[if_neg (fun h=>hx h.1)]
  rw[e]
  unfold trL
  dsimp only
  generalize AE acc=fa at *
  have HC:=lh C
  clear e hrow hc1 hc2 hm hp hp1 hp2 hq hpq P K C
  have L:=Lay.start w
  go_in
  exact Xz64
 by_cases hroot:root<Ao xs
 case neg =>
  have e:Cb xs root x acc=none:=by unfold Cb;rw[if_neg (fun h=>hroot h.2.1)]
  rw[e]
  unfold trL
  dsimp only
  generalize AE acc=fa at *
  have HC:=lh C
  have hroot':(q:Int)≤root:=by omega
  clear e hrow hc1 hc2 hm hp hp1 hp2 hq hpq P K C hroot
  have L:=Lay.start w
  go_in
  exact Xz64
 have hin:inB xs (root*128+4*(x / 128)) 4=true:=decide_eq_true ⟨by omega,by omega⟩
 have hw:=E8 hm (by omega) (.inr rfl) hin
 have hcell:=hrow.cell hw
 have hbd:=Bg hm.w ((root*128+4*(x / 128)) / 4).toNat
 change w.cell? _=some (.int .u32 (A5 xs (root*128+4*(x / 128)))) at hcell
 change 0≤A5 xs (root*128+4*(x / 128))∧A5 xs (root*128+4*(x / 128))<4294967296 at hbd
 unfold Cb
 obtain⟨e,he⟩:∃ y,A5 xs (root*128+4*(x / 128))=y:=⟨_,rfl⟩
 rw[he] at hcell hbd ⊢
 have w1:IntKind.u32.wrap (root*128)=root*128:=by rw[IntKind.wrap_u32];omega
 have w2:IntKind.u32.wrap (4*(x / 128))=4*(x / 128):=by rw[IntKind.wrap_u32];omega
 have w3:IntKind.u32.wrap (root*128+4*(x / 128))=root*128+4*(x / 128):=by rw[IntKind.wrap_u32];omega
 have w4:IntKind.u32.wrap (e / 256 % 256*128)=e / 256 % 256*128:=by rw[IntKind.wrap_u32];omega
 have w5:IntKind.u32.wrap (e / 256 % 256*128+x % 128)=e / 256 % 256*128+x % 128:=by rw[IntKind.wrap_u32];omega
 have a255:=Db (v:=e / 256) (by omega) (by omega)
 have B1:(bits .and .u32 e 1 == 0)=(e % 2 == 0):=by rw[and1 hbd.1 hbd.2]
 have B2:(bits .and .u32 e 2 == 0)=(e / 2 % 2 == 0):=by
  rw[show bits .and .u32 e 2=e / 2 % 2*2 from AT hbd.1 hbd.2 1 (by decide),Bool.eq_iff_iff,beq_iff_eq,beq_iff_eq];omega
 have B4:(bits .and .u32 e 4 == 0)=(e / 4 % 2 == 0):=by
  rw[show bits .and .u32 e 4=e / 4 % 2*4 from AT hbd.1 hbd.2 2 (by decide),Bool.eq_iff_iff,beq_iff_eq,beq_iff_eq];omega
 have hr1':root<(q:Int):=by omega
 have n2:∀ z:Int,(z % 2 == 1) = !(z % 2 == 0):=fun z=>by
  rcases Int.emod_two_eq z with h|h <;> rw[h] <;> rfl
 unfold permB
 rw[n2,n2,n2]
 obtain⟨b0,h0⟩:∃ b,(e % 2 == 0)=b:=⟨_,rfl⟩
 obtain⟨b1,h1⟩:∃ b,(e / 2 % 2 == 0)=b:=⟨_,rfl⟩
 obtain⟨b2,h2⟩:∃ b,(e / 4 % 2 == 0)=b:=⟨_,rfl⟩
 rw[h0] at B1
 rw[h1] at B2
 rw[h2] at B4
 rw[h0,h1,h2,hpq]
 have hidx:root*128+4*(x / 128)<4294967296:=by omega
 have hi0:0≤(root*128+4*(x / 128)) / 4:=by omega
 have hi1:(root*128+4*(x / 128)) / 4<(xs.length:Int):=by omega
 obtain⟨m,hmm⟩:∃ m,xs.length=m:=⟨_,rfl⟩
 rw[hmm] at hi1 HP HROW ⊢
 clear h0 h1 h2 n2 he hw hin hroot P hrow hc1 hc2 hm hmm hp hp1 hp2 hq hpq K
 obtain⟨fa,hfa⟩:∃ fa,AE acc=fa:=⟨_,rfl⟩
 have htr:∀ o,trL o acc=match o with|none=>[.int .u32 0,.int .u32 0,.int .i64 fa]|some (a,e)=>[.int .u32 a,.int .u32 e,.int .i64 0]:=fun o=>by unfold trL;rw[hfa]
 rw[htr]
 rw[hfa] at C
 have HC:=lh C
 clear htr hfa C
 by_cases hfr:e / 256 % 256<(q:Int)
 · obtain rfl|rfl|rfl:acc=1∨acc=2∨acc=3:=by omega
   · cases b0 <;> cases b2
     · rw[if_pos ⟨hx,hr1',by simp,hfr⟩]
       dsimp only
       clear hbd
       exact Xz18
     all_goals
      exact Xz17
   · cases b0
     · rw[if_pos ⟨hx,hr1',by simp,hfr⟩]
       dsimp only
       clear hbd
       exact Xz18
     · exact Xz17
   · cases b0 <;> cases b1
     · rw[if_pos ⟨hx,hr1',by simp,hfr⟩]
       dsimp only
       clear hbd
       exact Xz18
     all_goals
      exact Xz17
 · have hfr':(q:Int)≤e / 256 % 256:=by omega
   obtain rfl|rfl|rfl:acc=1∨acc=2∨acc=3:=by omega
   · cases b0 <;> cases b2
     all_goals
      exact Xz17
   · cases b0
     all_goals
      exact Xz17
   · cases b0 <;> cases b1
     all_goals
      exact Xz17
end
end Go.Proofs.YtnmpfmapncicmaaGreat
