/-
  Texts joined: TpMch3 TpPort TpPortW BalRef BalTells BalPage BalChanged. No law is proved here.
-/
import Derived.Test.YtnmpfmapncicmaaGreatB17
import Derived.Laws.CopyOwn
import Derived.Laws.BytesArg
namespace Go.Proofs.YtnmpfmapncicmaaGreat
set_option linter.all false
set_option maxRecDepth 100000
set_option maxHeartbeats 40000000
open Go.RowKit
theorem Mc.Ok.awake {M:Mc} (h:M.Ok):({ M with w:=false }:Mc).Ok:=⟨h.c,h.m,h.keys,h.tm,h.dk,h.nc,h.T,h.G,h.bal,h.n,fun h=>by cases h⟩
theorem enI_bd {M:Mc} (hM:M.Ok):0≤enI M∧enI M<32:=by
 have h1:=linesI_bd M
 have h2:=(hM.c.at 24)
 obtain⟨a,ha⟩:∃ a:Nat,E7 M=a:=⟨(E7 M).toNat,by omega⟩
 obtain⟨b,hb⟩:∃ b:Nat,rg M.c 24=b:=⟨(rg M.c 24).toNat,by omega⟩
 unfold enI
 rw[ha,hb,Gw a b (by omega) (by omega)]
 have:a &&& b≤a:=Nat.and_le_left
 omega
section
variable {M:Mc} {v:Value} {w:World}
theorem Ew (hM:M.Ok) (ha:MemRow w v M.m):Calls Tryz.prog 46 #[.agg (mcL M v).toArray] w (Ret w (.bool (!Ba M))):=by
 have HI:=lh (fun w=>idle_any (v:=v) (w:=w) hM)
 have HY:=lh (fun w h=>BF (v:=v) (w:=w) hM h)
 have HA:=lh ha
 unfold Ba
 generalize Jm M=q at HI ⊢
 obtain⟨b,hb⟩:∃ b,M.h=b:=⟨_,rfl⟩
 have hb':(mcL M v)[48]?=some (.bool b):=by rw[←hb];rfl
 rw[hb]
 clear hM hb ha
 cases b <;> cases q
 all_goals
  have L:=Lay.start w
  go_in
  go_wp2_with (first|(refine Ca (ty:=4) L 0 rfl (by rfl) rfl rfl τ4 rfl hb' ?_)|(refine YL ?_)|((first|(go_at_call 38;(with_reducible refine zcl L (HY.out _ (HA.out.below L.bel)) ?_))|refine YS ?_);clear L;intro wz L))
  go_ret
  exact Ret.mk' (by refine congrArg Value.bool (Bool.eq_iff_iff.2 ?_);simp <;> omega) L.bel
def mc0:Mc:=⟨List.replicate 25 0,[],⟨#[]⟩,tm0,dk0,nc0,0,0,0,false,false⟩
theorem mc_zero:(Tryz.prog.info? 43).map (·.zero)=some (some (.agg (List.toArray (mcL mc0 (.slice none 0 0))))):=by kernel_rfl
theorem Xz29 {P:Prop} (h:P:=by
  have HT:=lh hT
  clear hT hZ hq e3 hz hi hE hc e2'
  go_wp2_with (first|(refine Yp (Ab M.c) ?_)|(refine YL ?_)|((first|refine Yu (mcL { M with c:=X,w:=false } v) ?_|refine YS ?_);clear L;intro wz L))
  exact Yr1 (Ret.mk L.bel)):P:=h
theorem Xz64 {P:Prop} (h:P:=by
  go_wp2_with (first|(refine YL ?_)|(refine YS ?_;clear L;intro wz L))
  exact Yr1 (Ret.mk L.bel)):P:=h
theorem Eh (hM:M.Ok) (hv:v.oneCell'=true):Calls Tryz.prog 47 #[.agg (mcL M v).toArray] w (Ret w (.agg (mcL (begM M) v).toArray)):=by
 have e2:bits .and .u32 (rg M.c 17) 2=rg M.c 17 / 2 % 2*2:=AT (hM.c.at 17).1 (hM.c.at 17).2 1 (by decide)
 unfold begM Bb
 by_cases hi:rg M.c 17 / 2 % 2=1
 · have e2':(bits .and .u32 (rg M.c 17) 2 == 0)=false:=by rw[e2,hi];rfl
   have HE:=lh (fun w=>Jn (v:=v) (w:=w) hM.awake)
   have eE:enI { M with w:=false }=enI M:=rfl
   rw[eE] at HE
   have hE:=enI_bd hM
   clear eE e2
   have TR:=fun (k:Nat) (hk:k<5) w=>Eq M.c (16+k) 0 w hM.c (by omega) (by omega)
   have HTR:=lh TR
   have hcl:=hM.c.len
   obtain⟨E,hEE⟩:∃ E,enI M=E:=⟨_,rfl⟩
   rw[hEE] at HE hE ⊢
   obtain⟨X,hX⟩:∃ X,(if rg M.c 17 / 2 % 2=1∧E≠0 then AN M.c (16+EV E) 0 else M.c)=X:=⟨_,rfl⟩
   rw[hX]
   have HX:=lh hX
   clear hX
   have hb0:bits .and .u32 E 1=E / 1 % 2*1:=AT hE.1 (by omega) 0 (by decide)
   have hb1:bits .and .u32 E 2=E / 2 % 2*2:=AT hE.1 (by omega) 1 (by decide)
   have hb2:bits .and .u32 E 4=E / 4 % 2*4:=AT hE.1 (by omega) 2 (by decide)
   have hb3:bits .and .u32 E 8=E / 8 % 2*8:=AT hE.1 (by omega) 3 (by decide)
   have hb4:bits .and .u32 E 16=E / 16 % 2*16:=AT hE.1 (by omega) 4 (by decide)
   have B0:=lh hb0;have B1:=lh hb1;have B2:=lh hb2;have B3:=lh hb3;have B4:=lh hb4
   clear hb0 hb1 hb2 hb3 hb4 TR hM hEE
   have L:=Lay.start w
   go_in
   go_wp2_with (first|(refine JD (ty:=43) L (mcL M v) rfl rfl rfl ?_;intro wB Lz Nz;clear Nz;replace L:=Lz;clear Lz)|(refine YL ?_)|((first|refine Yt (mcL { M with w:=false } v) ?_|refine YS ?_);clear L;intro wz L))
   (try simp only[Act.put,q4,s0,s1])
   go_loopw [15] (fun i wr=>∃ k:Nat,k≤5∧i=.int .i64 k∧E % 2 ^ k=0∧Lay w wr [⟨wB.heap.size,mcL mc0 (.slice none 0 0),43⟩,⟨w.heap.size,mcL { M with w:=false } v,43⟩]) (fun i _=>5 - (intOf i).toNat)
   case atStart=>exact⟨0,by omega,rfl,by show E % 1=0;omega,L⟩
   case round =>
    clear L
    obtain⟨k,hk,rfl,hc,L⟩:=hrel
    by_cases hlt:k<5
    · obtain rfl|rfl|rfl|rfl|rfl:k=0∨k=1∨k=2∨k=3∨k=4:=by omega
      all_goals simp only[Int.pow_zero,Int.reducePow] at hc
      · by_cases hq:E / 1 % 2=1
        · have hne:(bits .and .u32 E 1 != 0)=true:=by rw[B0.out,hq];rfl
          have e3:EV E=0:=by unfold EV;rw[if_pos (by omega)]
          have hT:=HTR.out 0 (by decide)
          have hz:E≠0:=by omega
          have hZ:X=AN M.c (16+0) 0:=by rw[←HX.out,if_pos ⟨hi,hz⟩,e3]
          have hT:∀ w,Calls Tryz.prog 90 #[.agg (Ab M.c).toArray,.int .i64 16,.int .u32 0] w (Ret w (.agg (Ab X).toArray)):=fun w=>by have:=hT w;rw[hZ];exact this
          exact Xz29
        · have hne:(bits .and .u32 E 1 != 0)=false:=by
            have:E / 1 % 2=0:=by omega
            rw[B0.out,this];rfl
          go_wp2_with fail
          go_roundw
          case rel=>exact⟨1,by decide,by go_num,by omega,L⟩
          case measure=>simp [intOf]
      · by_cases hq:E / 2 % 2=1
        · have hne:(bits .and .u32 E 2 != 0)=true:=by rw[B1.out,hq];rfl
          have e3:EV E=1:=by unfold EV;rw[if_neg (by omega)];rw[if_pos (by omega)]
          have hT:=HTR.out 1 (by decide)
          have hz:E≠0:=by omega
          have hZ:X=AN M.c (16+1) 0:=by rw[←HX.out,if_pos ⟨hi,hz⟩,e3]
          have hT:∀ w,Calls Tryz.prog 90 #[.agg (Ab M.c).toArray,.int .i64 17,.int .u32 0] w (Ret w (.agg (Ab X).toArray)):=fun w=>by have:=hT w;rw[hZ];exact this
          exact Xz29
        · have hne:(bits .and .u32 E 2 != 0)=false:=by
            have:E / 2 % 2=0:=by omega
            rw[B1.out,this];rfl
          go_wp2_with fail
          go_roundw
          case rel=>exact⟨2,by decide,by go_num,by omega,L⟩
          case measure=>simp [intOf]
      · by_cases hq:E / 4 % 2=1
        · have hne:(bits .and .u32 E 4 != 0)=true:=by rw[B2.out,hq];rfl
          have e3:EV E=2:=by unfold EV;rw[if_neg (by omega)];rw[if_neg (by omega)];rw[if_pos (by omega)]
          have hT:=HTR.out 2 (by decide)
          have hz:E≠0:=by omega
          have hZ:X=AN M.c (16+2) 0:=by rw[←HX.out,if_pos ⟨hi,hz⟩,e3]
          have hT:∀ w,Calls Tryz.prog 90 #[.agg (Ab M.c).toArray,.int .i64 18,.int .u32 0] w (Ret w (.agg (Ab X).toArray)):=fun w=>by have:=hT w;rw[hZ];exact this
          exact Xz29
        · have hne:(bits .and .u32 E 4 != 0)=false:=by
            have:E / 4 % 2=0:=by omega
            rw[B2.out,this];rfl
          go_wp2_with fail
          go_roundw
          case rel=>exact⟨3,by decide,by go_num,by omega,L⟩
          case measure=>simp [intOf]
      · by_cases hq:E / 8 % 2=1
        · have hne:(bits .and .u32 E 8 != 0)=true:=by rw[B3.out,hq];rfl
          have e3:EV E=3:=by unfold EV;rw[if_neg (by omega)];rw[if_neg (by omega)];rw[if_neg (by omega)];rw[if_pos (by omega)]
          have hT:=HTR.out 3 (by decide)
          have hz:E≠0:=by omega
          have hZ:X=AN M.c (16+3) 0:=by rw[←HX.out,if_pos ⟨hi,hz⟩,e3]
          have hT:∀ w,Calls Tryz.prog 90 #[.agg (Ab M.c).toArray,.int .i64 19,.int .u32 0] w (Ret w (.agg (Ab X).toArray)):=fun w=>by have:=hT w;rw[hZ];exact this
          exact Xz29
        · have hne:(bits .and .u32 E 8 != 0)=false:=by
            have:E / 8 % 2=0:=by omega
            rw[B3.out,this];rfl
          go_wp2_with fail
          go_roundw
          case rel=>exact⟨4,by decide,by go_num,by omega,L⟩
          case measure=>simp [intOf]
      · by_cases hq:E / 16 % 2=1
        · have hne:(bits .and .u32 E 16 != 0)=true:=by rw[B4.out,hq];rfl
          have e3:EV E=4:=by unfold EV;rw[if_neg (by omega)];rw[if_neg (by omega)];rw[if_neg (by omega)];rw[if_neg (by omega)];try rfl
          have hT:=HTR.out 4 (by decide)
          have hz:E≠0:=by omega
          have hZ:X=AN M.c (16+4) 0:=by rw[←HX.out,if_pos ⟨hi,hz⟩,e3]
          have hT:∀ w,Calls Tryz.prog 90 #[.agg (Ab M.c).toArray,.int .i64 20,.int .u32 0] w (Ret w (.agg (Ab X).toArray)):=fun w=>by have:=hT w;rw[hZ];exact this
          exact Xz29
        · have hne:(bits .and .u32 E 16 != 0)=false:=by
            have:E / 16 % 2=0:=by omega
            rw[B4.out,this];rfl
          go_wp2_with fail
          go_roundw
          case rel=>exact⟨5,by decide,by go_num,by omega,L⟩
          case measure=>simp [intOf]
    · obtain rfl:k=5:=by omega
      have hz:E=0:=by change E % 32=0 at hc;omega
      have hZ:X=M.c:=by rw[←HX.out,if_neg (fun h=>h.2 hz)]
      subst hZ
      exact Xz64
 · have e2':(bits .and .u32 (rg M.c 17) 2 == 0)=true:=by
     have:rg M.c 17 / 2 % 2=0:=by omega
     rw[e2,this];rfl
   rw[if_neg (fun h=>hi h.1)]
   clear hi e2
   have L:=Lay.start w
   go_in
   go_wp2_with (first|(refine YL ?_)|((first|refine Yt (mcL { M with w:=false } v) ?_|refine YS ?_);clear L;intro wz L))
   exact Yr1 (Ret.mk L.bel)
end
theorem inP_bd {M:Mc} (hM:M.Ok) {port clk:Int} (hc0:0≤clk) (hc1:clk<4294967296):0≤(inP M port clk).2∧(inP M port clk).2<4294967296:=by
 have hk:=hM.keys
 have hd:=hM.dk
 have hn:=hM.nc
 have hT:=hM.T
 have hcn:=cnt_le M.G
 have g1:0≤M.nc.g∧M.nc.g<4294967296:=by
  cases hr:M.nc.r with
  | true=>have:=hn.g.1 hr;omega
  | false=>have:=hn.g.2 hr;omega
 unfold inP
 split
 · unfold Cw
   split
   · split
     · exact⟨(by decide:(0:Int)≤4294967295),(by decide:(4294967295:Int)<4294967296)⟩
     · have:=byte_lt (M.keys.data[0]?.getD 0)
       exact⟨this.2.2,this.1⟩
   · split
     · show 0≤(M.keys.size:Int)∧(M.keys.size:Int)<_;omega
     · exact⟨(by decide:(0:Int)≤0),(by decide:(0:Int)<4294967296)⟩
 · dsimp only
   split
   · exact⟨hc0,hc1⟩
   · split
     · split <;> exact⟨by decide,by decide⟩
     · split
       · unfold F8
         split
         · exact hd.b
         · split
           · exact hd.f
           · split
             · have:=hd.s;omega
             · exact⟨by decide,by decide⟩
       · split
         · unfold F7
           split
           · exact hn.f
           · split
             · exact g1
             · split
               · split <;> split <;> exact⟨by decide,by decide⟩
               · exact⟨by decide,by decide⟩
         · unfold inI
           split
           · omega
           · split
             · omega
             · exact⟨by decide,by decide⟩
section
variable {M:Mc} {v:Value} {w:World} {port clk:Int}
theorem readPort_con (hM:M.Ok) (hv:v.oneCell'=true) (h0:port=0∨port=1):Calls Tryz.prog 49 #[.agg (mcL M v).toArray,.int .i64 port,.int .u32 clk] w (Ret w (.tuple #[.agg (mcL { M with keys:=(inP M port clk).1 } v).toArray,.int .u32 (inP M port clk).2])):=by
 have e:inP M port clk=Cw M.keys port:=by unfold inP;rw[if_pos (by omega)]
 rw[e]
 have C:∀ w,Calls Tryz.prog 98 #[.agg (DS M.keys).toArray,.int .i64 port] w (Ret w (.tuple #[.agg (DS (Cw M.keys port).1).toArray,.int .u32 (Cw M.keys port).2])):=fun w=>console_In_any M.keys port w (by have:=hM.keys;omega)
 generalize (Cw M.keys port).2=x at C ⊢
 generalize (Cw M.keys port).1=s at C ⊢
 clear e hM
 rcases h0 with rfl|rfl
 all_goals
  have HC:=lh C
  clear C
  have L:=Lay.start w
  go_in
  go_wp2_with (first|(refine Yp (DS M.keys) ?_)|(refine YL ?_)|((first|refine Yu (mcL { M with keys:=s } v) ?_|refine YS ?_);clear L;intro wz L))
  exact Yr2 (Ret.mk L.bel)
theorem Xz59 {P:Prop} (h:P:=by
  go_wp2_with (first|(refine Yp (dkL M.dk) ?_)|(refine Yp (mcL { M with keys:=M.keys } v) ?_)|(refine YS ?_;clear L;intro wz L))
  exact Yr2 (Ret.mk L.bel)):P:=h
theorem Xz60 {P:Prop} (h:P:=by
  go_wp2_with (first|(refine Yp (ncL M.nc) ?_)|(refine Yp (mcL { M with keys:=M.keys } v) ?_)|(refine YS ?_;clear L;intro wz L))
  exact Yr2 (Ret.mk L.bel)):P:=h
theorem Xz98 {P:Prop} (h:P:=by
  go_wp2_with (first|(refine Yp (blL M.T M.G) ?_)|(refine Yp (mcL { M with keys:=M.keys } v) ?_)|(refine YS ?_;clear L;intro wz L))
  exact Yr2 (Ret.mk L.bel)):P:=h
theorem readPort_any (hM:M.Ok) (hv:v.oneCell'=true) (h0:0≤port) (h1:port≤11):Calls Tryz.prog 49 #[.agg (mcL M v).toArray,.int .i64 port,.int .u32 clk] w (Ret w (.tuple #[.agg (mcL { M with keys:=(inP M port clk).1 } v).toArray,.int .u32 (inP M port clk).2])):=by
 by_cases h01:port=0∨port=1
 · exact readPort_con hM hv h01
 obtain rfl|h:port=2∨(3≤port∧port≤11):=by omega
 · show Calls Tryz.prog 49 #[.agg (mcL M v).toArray,.int .i64 2,.int .u32 clk] w (Ret w (.tuple #[.agg (mcL { M with keys:=M.keys } v).toArray,.int .u32 clk]))
   clear hM h0 h1 h01
   have L:=Lay.start w
   go_in
   go_wp2_with (first|(refine Yp (mcL { M with keys:=M.keys } v) ?_)|(refine YS ?_;clear L;intro wz L))
   exact Yr2 (Ret.mk L.bel)
 have TM:=fun w=>tmin_any M.tm w
 have D:=fun p w=>dkin_any M.dk p w hM.dk.s
 have N:=fun p w=>ncin_any M.nc p w
 have BL:∀ (p:Int) w,Calls Tryz.prog 102 #[.agg (blL M.T M.G).toArray,.int .i64 p] w (Ret w (.int .u32 (inI M.T M.G p))):=fun p w=>in_any M.T M.G p w hM.G
 clear hM h0 h1 h01
 obtain rfl|rfl|rfl|rfl|rfl|rfl|rfl|rfl|rfl:port=3∨port=4∨port=5∨port=6∨port=7∨port=8∨port=9∨port=10∨port=11:=by omega
 have C:=TM
 clear TM D N BL
 have e:inP M 3 clk=(M.keys,if M.tm.f=true then 1 else 0):=rfl
 rw[e]
 dsimp only
 generalize (if M.tm.f=true then (1:Int) else 0)=x at *
 rotate_left
 have C:=D 4
 clear TM D N BL
 have e:inP M 4 clk=(M.keys,F8 M.dk 4):=rfl
 rw[e]
 dsimp only
 generalize F8 M.dk 4=x at *
 rotate_left
 have C:=D 5
 clear TM D N BL
 have e:inP M 5 clk=(M.keys,F8 M.dk 5):=rfl
 rw[e]
 dsimp only
 generalize F8 M.dk 5=x at *
 rotate_left
 have C:=D 6
 clear TM D N BL
 have e:inP M 6 clk=(M.keys,F8 M.dk 6):=rfl
 rw[e]
 dsimp only
 generalize F8 M.dk 6=x at *
 rotate_left
 have C:=N 7
 clear TM D N BL
 have e:inP M 7 clk=(M.keys,F7 M.nc 7):=rfl
 rw[e]
 dsimp only
 generalize F7 M.nc 7=x at *
 rotate_left
 have C:=N 8
 clear TM D N BL
 have e:inP M 8 clk=(M.keys,F7 M.nc 8):=rfl
 rw[e]
 dsimp only
 generalize F7 M.nc 8=x at *
 rotate_left
 have C:=N 9
 clear TM D N BL
 have e:inP M 9 clk=(M.keys,F7 M.nc 9):=rfl
 rw[e]
 dsimp only
 generalize F7 M.nc 9=x at *
 rotate_left
 have C:=BL 10
 clear TM D N BL
 have e:inP M 10 clk=(M.keys,inI M.T M.G 10):=rfl
 rw[e]
 dsimp only
 generalize inI M.T M.G 10=x at *
 rotate_left
 have C:=BL 11
 clear TM D N BL
 have e:inP M 11 clk=(M.keys,inI M.T M.G 11):=rfl
 rw[e]
 dsimp only
 generalize inI M.T M.G 11=x at *
 rotate_left
 all_goals
  have HC:=lh C
  clear C e
  have L:=Lay.start w
  go_in
 · go_wp2_with (first|(refine Yp (tmL M.tm) ?_)|(refine Yp (mcL { M with keys:=M.keys } v) ?_)|(refine YS ?_;clear L;intro wz L))
   exact Yr2 (Ret.mk L.bel)
 · exact Xz59
 · exact Xz59
 · exact Xz59
 · exact Xz60
 · exact Xz60
 · exact Xz60
 · exact Xz98
 · exact Xz98
end
section
variable {w0 w:World} {l:List Bx} {ops:Array Oper} {rest:List Oper} {op:Oper} {a:Act} {Q:Exit→Act→World→Prop} {x:Operand}
theorem by_fill (b:Int):Instr.fill (fun i=>some (i*1,1)) ((Array.range (1*1)).map ((Value.int .u8 0).cells[· % (Value.int .u8 0).cells.size]!)) [(0,.int .u8 b)]=some #[.int .u8 b]:=by kernel_rfl
theorem Xz100 {P:Prop} (h:P:=by
  rw[iz1]
  have e:(Array.map (fun x:Nat×Operand=>(x.1,a.eval x.2)) #[(0,x)]).toList=[(0,.int .u8 b)]:=by simp [hx]
  exact (congrArg _ e).trans (by_fill b)):P:=h
theorem lay_byte (L:Lay w0 w l) (b:Int) (hgd:op.guard=none) (ho:op.op=.buildSlice 194 1 #[(0,x)]) (hx:a.eval x=.int .u8 b)
    (h:∀ w',Lay w0 w' (⟨w.heap.size,[.int .u8 b],5⟩ :: l)→NewBox w [.int .u8 b] 5 w'→wpList Tryz.prog ops Q rest (a.put op.dst (.slice (some ⟨w.heap.size,0,none⟩) 1 1)) w'):wpList Tryz.prog ops Q (op :: rest) a w:=by
 obtain⟨i0,hi,iz0,iz1,iz2⟩:=info_parts Hc
 refine wpList_plain hgd fun _ hK=>wp_buildSlice 194 5 1 #[(0,x)] ho #[.int .u8 b] i0 (.int .u8 0) τ194 hi iz0 (by rw[iz1];decide) (by rw[iz1];decide) ?_ ?_
 · exact Xz100
 · exact hK _ _ (h _ (L.new (NewBox.made w _ _)) (NewBox.made w _ _))
theorem lay_str1 {k g:Nat} {b:Int} (L:Lay w0 w l) (hk:l[k]?=some ⟨g,[.int .u8 b],5⟩) (hgd:op.guard=none) (ho:op.op=.convert 194 9 x) (hx:a.eval x=.slice (some ⟨g,0,none⟩) 1 1)
    (h:wpList Tryz.prog ops Q rest (a.put op.dst (.string (Bl b))) w):wpList Tryz.prog ops Q (op :: rest) a w:=by
 refine wpList_plain hgd fun _ hK=>?_
 have hr:=CO b w g (by rw[(L.at hk).cell];rfl)
 unfold Oper.wp execOp
 simp only[ho,hx,Sem.run_bind,hr,Result.andThen_ok,Sem.run_pure]
 exact hK _ _ h
end
def CB (base:Nat) (w:World) (r:Mc×List Ou) (e:Ending) (w':World):Prop:=∃ v vo,e=.returned (.tuple #[.agg (mcL r.1 v).toArray,vo])∧OwnMem base w' v r.1.m∧OutRow base w' vo r.2∧Below w.heap.size w w'
theorem OwnMem.cell1 {base:Nat} {w:World} {v:Value} {xs:List Int} (h:OwnMem base w v xs):v.oneCell'=true:=by
 obtain⟨g,cap,rfl,_⟩:=h.open;rfl
section
variable {M:Mc} {v:Value} {w:World} {port u:Int} {base:Nat}
theorem wp_byte (hm:OwnMem base w v M.m) (hb:base≤w.heap.size) (_hu0:0≤u):Calls Tryz.prog 50 #[.agg (mcL M v).toArray,.int .i64 0,.int .u32 u,.int .u64 M.n] w (CB base w (Be M 0 u)):=by
 have e:Be M 0 u=(M,[⟨1,M.n,0,Bl (u % 256)⟩]):=rfl
 rw[e]
 have hv:=hm.cell1
 have HO:=lh hm
 clear hm e
 have L:=Lay.start w
 go_in
 go_wp2_with (first|(refine lay_byte L (u % 256) rfl rfl rfl ?_;intro wz Lz Nz;clear Nz;replace L:=Lz;clear Lz;(try simp only[s0,s1] at L))|(refine lay_str1 L (k:=0) rfl rfl rfl rfl ?_)|(refine lay_out L ⟨1,M.n,0,Bl (u % 256)⟩ rfl rfl rfl ?_;intro wz Lz Nz;clear Nz;replace L:=Lz;clear Lz;(try simp only[s0,s1] at L))|(refine YL ?_)|(refine YS ?_;clear L;intro wz L))
 exact Yr2 ⟨v,_,rfl,HO.out.below L.bel,Ay (L.out1 (k:=0) rfl) hb,L.bel⟩
theorem wp_none (hm:OwnMem base w v M.m) (hp:port=1∨port=2):Calls Tryz.prog 50 #[.agg (mcL M v).toArray,.int .i64 port,.int .u32 u,.int .u64 M.n] w (CB base w (Be M port u)):=by
 have hv:=hm.cell1
 have HO:=lh hm
 clear hm
 rcases hp with rfl|rfl
 all_goals
  rw[show Be M _ u=(M,[]) from rfl]
  have L:=Lay.start w
  go_in
  go_wp2_with (first|(refine YL ?_)|(refine YS ?_;clear L;intro wz L))
  exact Yr2 ⟨v,_,rfl,HO.out.below L.bel,OutRow.nil _ _,L.bel⟩
theorem wp_timer (hm:OwnMem base w v M.m):Calls Tryz.prog 50 #[.agg (mcL M v).toArray,.int .i64 3,.int .u32 u,.int .u64 M.n] w (CB base w (Be M 3 u)):=by
 have hv:=hm.cell1
 have HO:=lh hm
 have HT:=lh (fun w=>arm_any M.tm u w)
 rw[show Be M 3 u=({ M with tm:=FG u },[]) from rfl]
 generalize FG u=t at *
 clear hm
 have L:=Lay.start w
 go_in
 go_wp2_with (first|(refine Yp (tmL M.tm) ?_)|(refine YL ?_)|((first|refine Yu (mcL { M with tm:=t } v) ?_|refine YS ?_);clear L;intro wz L))
 exact Yr2 ⟨v,_,rfl,HO.out.below L.bel,OutRow.nil _ _,L.bel⟩
theorem wp_disk (hM:M.Ok) (hm:OwnMem base w v M.m) (hb:base≤w.heap.size) (hp:4≤port∧port≤6):Calls Tryz.prog 50 #[.agg (mcL M v).toArray,.int .i64 port,.int .u32 u,.int .u64 M.n] w (CB base w (Be M port u)):=by
 have hv:=hm.cell1
 have HO:=lh hm
 have HA:=lh hm.row
 have C:=fun w h=>dkout_any (d:=M.dk) (va:=v) (port:=port) (v:=u) (p:=M.n) (w:=w) h hM.m hM.dk.f hM.dk.s
 have e:Be M port u=({ M with dk:=(CI M.dk M.m port u M.n).1 },(CI M.dk M.m port u M.n).2):=by
  unfold Be
  repeat' first|rw[if_neg (by omega)]|rw[if_pos (by omega)]
 rw[e]
 obtain⟨d',os,hr⟩:∃ d' os,CI M.dk M.m port u M.n=(d',os):=⟨_,_,rfl⟩
 rw[hr] at C ⊢
 dsimp only
 have h0:=hp.1
 have h1:=hp.2
 clear e hr hM hm hp
 obtain rfl|rfl|rfl:=(by omega:port=4∨port=4+1∨port=4+2)
 all_goals
  have HC:=lh C
  clear C h0 h1
  have L:=Lay.start w
  go_in
  go_wp2_with (first|(refine Yp (dkL M.dk) ?_)|(refine YL ?_)|(refine YS ?_;clear L;intro wz L))
  refine (HC.out _ (HA.out.below L.bel)).mono ?_
  rintro ee w1 ⟨vo,rfl,ho1,hb1⟩
  have ho:=Ay ho1 (Nat.le_trans hb L.bel.size)
  replace L:=L.below hb1
  clear ho1 hb1 HC
  dsimp only
  go_wp2_with (first|(refine Ag (ty:=36) L 1 rfl (dkL d') (mcL { M with dk:=d' } v) rfl rfl rfl rfl Bk (Gu _) rfl rfl ?_;intro wz Lz Nz;replace ho:=Ai ho (L.at (k:=1) rfl) (by decide) Nz;clear Nz;replace L:=Lz;clear Lz;(try simp only[s0,s1] at L))|(refine Ag (ty:=43) L 0 rfl (mcL { M with dk:=d' } v) (mcL { M with dk:=d' } v) rfl rfl rfl rfl Aw (Bp _ hv) rfl rfl ?_;intro wz Lz Nz;replace ho:=Ai ho (L.at (k:=0) rfl) (by decide) Nz;clear Nz;replace L:=Lz;clear Lz;(try simp only[s0,s1] at L))|(refine YL ?_))
  exact Yr2 ⟨v,_,rfl,HO.out.below L.bel,ho,L.bel⟩
theorem wp_nic (hM:M.Ok) (hm:OwnMem base w v M.m) (hb:base≤w.heap.size) (hp:7≤port∧port≤9):Calls Tryz.prog 50 #[.agg (mcL M v).toArray,.int .i64 port,.int .u32 u,.int .u64 M.n] w (CB base w (Be M port u)):=by
 have hv:=hm.cell1
 have HO:=lh hm
 have HA:=lh hm.row
 have C:=fun w h=>ncout_any (c:=M.nc) (va:=v) (port:=port) (v:=u) (p:=M.n) (w:=w) h hM.m hM.nc.f
 have e:Be M port u=({ M with nc:=(Cf M.nc M.m port u M.n).1 },(Cf M.nc M.m port u M.n).2):=by
  unfold Be
  repeat' first|rw[if_neg (by omega)]|rw[if_pos (by omega)]
 rw[e]
 obtain⟨d',os,hr⟩:∃ d' os,Cf M.nc M.m port u M.n=(d',os):=⟨_,_,rfl⟩
 rw[hr] at C ⊢
 dsimp only
 have h0:=hp.1
 have h1:=hp.2
 clear e hr hM hm hp
 obtain rfl|rfl|rfl:=(by omega:port=7∨port=7+1∨port=7+2)
 all_goals
  have HC:=lh C
  clear C h0 h1
  have L:=Lay.start w
  go_in
  go_wp2_with (first|(refine Yp (ncL M.nc) ?_)|(refine YL ?_)|(refine YS ?_;clear L;intro wz L))
  refine (HC.out _ (HA.out.below L.bel)).mono ?_
  rintro ee w1 ⟨vo,rfl,ho1,hb1⟩
  have ho:=Ay ho1 (Nat.le_trans hb L.bel.size)
  replace L:=L.below hb1
  clear ho1 hb1 HC
  dsimp only
  go_wp2_with (first|(refine Ag (ty:=38) L 1 rfl (ncL d') (mcL { M with nc:=d' } v) rfl rfl rfl rfl B7 (JC _) rfl rfl ?_;intro wz Lz Nz;replace ho:=Ai ho (L.at (k:=1) rfl) (by decide) Nz;clear Nz;replace L:=Lz;clear Lz;(try simp only[s0,s1] at L))|(refine Ag (ty:=43) L 0 rfl (mcL { M with nc:=d' } v) (mcL { M with nc:=d' } v) rfl rfl rfl rfl Aw (Bp _ hv) rfl rfl ?_;intro wz Lz Nz;replace ho:=Ai ho (L.at (k:=0) rfl) (by decide) Nz;clear Nz;replace L:=Lz;clear Lz;(try simp only[s0,s1] at L))|(refine YL ?_))
  exact Yr2 ⟨v,_,rfl,HO.out.below L.bel,ho,L.bel⟩
theorem GS:(Tryz.prog.info? 30).map (·.size)=some 1:=by kernel_rfl
theorem outM_len (G:Nat) (xs:List Int) (port:Int) (n:Nat):(Fc G xs port n).length=xs.length:=by
 unfold Fc;split
 · exact EB _ _ _
 · rfl
theorem wp_balloon (hM:M.Ok) (hm:OwnMem base w v M.m) (hb:base≤w.heap.size) (hu0:0≤u) (hp:port=10∨port=11):Calls Tryz.prog 50 #[.agg (mcL M v).toArray,.int .i64 port,.int .u32 u,.int .u64 M.n] w (CB base w (Be M port u)):=by
 have hv:=hm.cell1
 have HA:=lh hm.row
 have h0:=hM.m.p
 obtain⟨q,rfl⟩:∃ q:Nat,u=q:=⟨u.toNat,by omega⟩
 have C:∀ w,MemRow w v M.m→Calls Tryz.prog 106 #[.agg (blL M.T M.G).toArray,v,.int .i64 port,.int .u32 q] w (GE w M.T (Hy M.G M.m.length port q) (Fc M.G M.m port q)):=fun w h=>out_any v M.m M.T M.G q port w h hM.m.q hM.G
 have e:Be M port q=({ M with m:=Fc M.G M.m port q,G:=Hy M.G M.m.length port q },[]):=by
  unfold Be
  (repeat rw[if_neg (by omega)]);rw[if_pos hp,Int.toNat_natCast]
 rw[e]
 have hl:=outM_len M.G M.m port q
 generalize Hy M.G M.m.length port q=G' at *
 generalize Fc M.G M.m port q=m' at *
 obtain⟨n,hn⟩:∃ n,m'.length=n:=⟨_,rfl⟩
 have HN:=lh hn
 have hn0:0<n:=by omega
 clear e hM hm hl h0 hn
 rcases hp with rfl|rfl
 all_goals
  have HC:=lh C
  clear C
  have L:=Lay.start w
  go_in
  go_wp2_with (first|(refine Yp (blL M.T M.G) ?_)|(refine YL ?_)|(refine YS ?_;clear L;intro wz L))
  refine (HC.out _ (HA.out.below L.bel)).mono ?_
  rintro ee w1 ⟨v1,rfl,ho1,hb1⟩
  obtain⟨g,capg,curg,rfl,R,L'⟩:=Lay.mem HN.out L ho1 hb1
  replace L:=L'
  clear L' hb1 ho1 HC
  go_wp2_with (first|(refine YL ?_)|((first|refine Yu (mcL { M with G:=G' } v) ?_|refine Yt (mcL { M with m:=m',G:=G' } (.slice (some ⟨g,0,none⟩) n capg)) ?_|refine YS ?_);clear L;intro wz L))
  exact Yr2 ⟨_,_,rfl,(RowBx.mem HN.out R hn0 L (k:=0) rfl).lower hb,OutRow.nil _ _,L.bel⟩
theorem writePort_any (hM:M.Ok) (hm:OwnMem base w v M.m) (hb:base≤w.heap.size) (hu0:0≤u) (h0:0≤port) (h1:port≤11):Calls Tryz.prog 50 #[.agg (mcL M v).toArray,.int .i64 port,.int .u32 u,.int .u64 M.n] w (CB base w (Be M port u)):=by
 by_cases p0:port=0
 · subst p0;exact wp_byte hm hb hu0
 by_cases p1:port=1∨port=2
 · exact wp_none hm p1
 by_cases p3:port=3
 · subst p3;exact wp_timer hm
 by_cases p4:4≤port∧port≤6
 · exact wp_disk hM hm hb p4
 by_cases p7:7≤port∧port≤9
 · exact wp_nic hM hm hb p7
 · exact wp_balloon hM hm hb hu0 (by omega)
end
theorem size_word:(Tryz.prog.info? 25).map (·.size)=some 1:=by kernel_rfl
theorem owns_of_block {w:World} {base g n:Nat} {e:TypeId} {cs:List Value} (h:w.heap[g]?=some (.cells cs.toArray e (0,0))) (hb:base≤g) (hn:cs.length=n) (hm:n≤maxLen):w.ownsRow base e 1 (.slice (some ⟨g,0,none⟩) n n) n cs:=by
 refine ⟨by omega,.inr ⟨g,n,cs.toArray,rfl,hb,h,nlr _,hm,by simpa using hn,?_⟩⟩
 rw[Nat.mul_one,←hn]
 exact List.take_length
theorem CM (xs:List Int):(words xs).length=xs.length:=by simp [words]
theorem words_at {xs:List Int} {j:Nat} {u:Value} (h:(words xs)[j]?=some u):∃ x,xs[j]?=some x∧u=.int .u32 x:=by
 unfold words at h
 rw[List.getElem?_map] at h
 cases hx:xs[j]? with
 | none=>rw[hx] at h;simp at h
 | some x=>rw[hx] at h;simp at h;exact⟨x,rfl,h.symm⟩
theorem Ho (xs:List Int):∀ u∈words xs,u.oneCell'=true:=by
 intro u hu
 unfold words at hu
 rw[List.mem_map] at hu
 obtain⟨x,_,rfl⟩:=hu
 rfl
theorem bit_is (G v:Nat):G / 2 ^ v % 2=(G.testBit v).toNat:=by
 rw[Nat.testBit_eq_decide_div_mod_eq]
 have:=Nat.mod_lt (G / 2 ^ v) (show 0<2 by omega)
 by_cases h:G / 2 ^ v % 2=1
 · rw[decide_eq_true h,h];rfl
 · rw[decide_eq_false h];show _=0;omega
end Go.Proofs.YtnmpfmapncicmaaGreat
namespace Go.Proofs.YtnmpfmapncicmaaGreat
set_option linter.all false
set_option maxRecDepth 100000
set_option maxHeartbeats 40000000
open Go.RowKit
end Go.Proofs.YtnmpfmapncicmaaGreat
namespace Go.Proofs.YtnmpfmapncicmaaGreat
set_option linter.all false
set_option maxRecDepth 100000
set_option maxHeartbeats 40000000
open Go.RowKit
theorem info_int:(Tryz.prog.info? 3).map (fun i=>(i.zero,i.size,i.bytes))=some (some (.int .i64 0),1,8):=by kernel_rfl
def SameI (xs ys:List Int) (k:Nat):Prop:=∀ i,i<k→xs[i]?=ys[i]?
theorem SameI.eq {xs ys:List Int} (h:SameI xs ys xs.length) (hl:xs.length=ys.length):xs=ys:=by
 apply List.ext_getElem?
 intro i
 by_cases hi:i<xs.length
 · exact h i hi
 · rw[List.getElem?_eq_none (by omega),List.getElem?_eq_none (by omega)]
theorem SameI.step {xs ys:List Int} {k:Nat} {x:Int} (h:SameI xs ys k) (hx:xs[k]?=some x) (hy:ys[k]?=some x):SameI xs ys (k+1):=by
 intro i hi
 by_cases e:i=k
 · rw[e,hx,hy]
 · exact h i (by omega)
def BV (xs:List Int) (k:Nat):List Int:=(xs.drop (k*32)).take 32
def chL (xs ys:List Int):Nat→List Int
 | 0=>[]
 | k+1=>if BV xs k=BV ys k then chL xs ys k else chL xs ys k++[(k:Int)]
theorem Fs {xs:List Int} {k:Nat} (h:k*32+32≤xs.length):(BV xs k).length=32:=by
 unfold BV
 rw[List.length_take,List.length_drop];omega
theorem MemRow.page {w:World} {b off cap n:Nat} {xs:List Int} {k:Nat} (hn:xs.length=n) (h:MemRow w (.slice (some ⟨b,off,none⟩) n cap) xs) (hk:k*32+32≤n):MemRow w (.slice (some ⟨b,off+k*32,none⟩) 32 (cap - k*32)) (BV xs k):=by
 obtain⟨b',off',cap',hv,h1,h2,h0,h3,h4⟩:=h
 injection hv with e1 e2 e3
 injection e1 with e1
 injection e1 with e4 e5
 subst e4 e5 e3
 have hl:=Fs (xs:=xs) (k:=k) (by omega)
 refine ⟨b,off+k*32,cap - k*32,by rw[hl],by omega,by omega,by omega,h3,fun i x hx=>?_⟩
 unfold BV at hx
 exact Xz104
theorem one_int (x:Int):∀ u∈[Value.int .i64 x],u.oneCell'=true:=by
 intro u hu
 rw[List.mem_singleton] at hu
 rw[hu]
 rfl
theorem chL_le (xs ys:List Int) (k:Nat):(chL xs ys k).length≤k:=by
 induction k with
 | zero=>exact nlr _
 | succ k ih =>
   unfold chL
   split
   · omega
   · rw[List.length_append,List.length_singleton];omega
theorem chL_same {xs ys:List Int} {k:Nat} (h:decide (BV xs k=BV ys k)=true):chL xs ys (k+1)=chL xs ys k:=by
 rw[chL,if_pos (of_decide_eq_true h)]
theorem chL_diff {xs ys:List Int} {k:Nat} (h:decide (BV xs k=BV ys k)=false):chL xs ys (k+1)=chL xs ys k++[(k:Int)]:=by
 rw[chL,if_neg (of_decide_eq_false h)]
end Go.Proofs.YtnmpfmapncicmaaGreat
