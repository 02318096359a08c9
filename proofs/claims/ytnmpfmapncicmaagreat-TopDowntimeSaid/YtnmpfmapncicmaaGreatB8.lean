/-
  Texts joined: TpTm TpOu TpText TpPage TpDk TpAs TpSx Law. No law is proved here.
-/
import Derived.Test.YtnmpfmapncicmaaGreatB6
import Derived.Great.BuildSlice
import Derived.Lib.AppendStr
import Derived.ProofKit
import Derived.OpenShut
import Derived.Lib.SmallJoins
import Derived.Deep.Fields
namespace Go.Proofs.YtnmpfmapncicmaaGreat
set_option linter.all false
set_option maxRecDepth 100000
set_option maxHeartbeats 40000000
open Go.RowKit
def tmL (t:Tm):List Value:=[.bool t.a,.int .u32 t.d,.bool t.f]
theorem BS:(Tryz.prog.info? 34).map (·.size)=some 3:=by kernel_rfl
theorem tmL_one (t:Tm):∀ v∈tmL t,v.oneCell'=true:=by
 intro v hv
 simp only[tmL,List.mem_cons,List.not_mem_nil,or_false] at hv
 rcases hv with rfl|rfl|rfl <;> rfl
def tm0:Tm:=⟨false,0,false⟩
theorem tm_zero:(Tryz.prog.info? 34).map (·.zero)=some (some (.agg (List.toArray (tmL tm0)))):=by kernel_rfl
def BT (t:Tm):Tm×Bool:=if t.a=true then (⟨false,t.d,true⟩,true) else (t,false)
def Hq (t:Tm):Bool:=if t.a=true then !t.f && t.d != 0 else if t.f=true then true else t.d == 0
theorem Xz89 {P:Prop} (h:P:=by
  have L:=Lay.start w
  go_in
  go_wp2_with (refine YS ?_;clear L;intro wz L)
  exact Yr1 (Ret.mk L.bel)):P:=h
theorem arm_any (t:Tm) (d:Int) (w:World):Calls Tryz.prog 103 #[(.agg (tmL t).toArray),.int .u32 d] w (Ret w ((.agg (tmL (FG d)).toArray))):=by
 exact Xz89
theorem rarm_any (d:Int) (w:World):Calls Tryz.prog 202 #[.int .u32 d] w (Ret w ((.agg (tmL (FG d)).toArray))):=by
 by_cases h:d=0
 · subst h
   exact Xz89
 · have hq:(d == 0)=false:=by simpa using h
   have e:FG d=⟨true,d,false⟩:=by unfold FG;rw[show (d != 0)=true by simpa using h]
   rw[e]
   clear h e
   exact Xz89
theorem Xz33 {P:Prop} (h:P:=by
  have L:=Lay.start w
  go_in
  go_wp2_with (first|(refine YL ?_)|(refine YS ?_;clear L;intro wz L))
  exact Yr2 (Ret.mk L.bel)):P:=h
theorem fire_any (t:Tm) (w:World):Calls Tryz.prog 128 #[(.agg (tmL t).toArray)] w (Ret w (.tuple #[(.agg (tmL (BT t).1).toArray),.bool (BT t).2])):=by
 obtain⟨a,d,f⟩:=t
 cases a
 · exact Xz33
 · exact Xz33
theorem rfire_any (t:Tm) (w:World):Calls Tryz.prog 139 #[(.agg (tmL t).toArray)] w (Ret w (.tuple #[(.agg (tmL (BT t).1).toArray),.bool (BT t).2])):=by
 obtain⟨a,d,f⟩:=t
 cases a
 · exact Xz33
 · exact Xz33
theorem J6 {P:Prop} (h:P:=by
  have L:=Lay.start w
  go_in
  go_wp2_with (first|(refine YL ?_)|(refine YS ?_;clear L;intro wz L))
  go_ret
  exact Ret.mk' rfl L.bel):P:=h
theorem tmin_any (t:Tm) (w:World):Calls Tryz.prog 99 #[(.agg (tmL t).toArray)] w (Ret w (.int .u32 (if t.f=true then 1 else 0))):=by
 obtain⟨a,d,f⟩:=t
 cases a <;> cases f
 all_goals
  exact J6
theorem rtmin_any (t:Tm) (w:World):Calls Tryz.prog 198 #[(.agg (tmL t).toArray)] w (Ret w (.int .u32 (if t.f=true then 1 else 0))):=by
 obtain⟨a,d,f⟩:=t
 cases a <;> cases f
 all_goals
  exact J6
theorem tmpend_any (t:Tm) (w:World):Calls Tryz.prog 208 #[(.agg (tmL t).toArray)] w (Ret w (.bool t.f)):=by
 obtain⟨a,d,f⟩:=t
 cases a <;> cases f
 all_goals
  exact J6
theorem rtmpend_any (t:Tm) (w:World):Calls Tryz.prog 237 #[(.agg (tmL t).toArray)] w (Ret w (.bool t.f)):=by
 obtain⟨a,d,f⟩:=t
 cases a <;> cases f
 all_goals
  exact J6
theorem tmmay_any (t:Tm) (w:World):Calls Tryz.prog 153 #[(.agg (tmL t).toArray)] w (Ret w (.bool (Hq t))):=by
 obtain⟨a,d,f⟩:=t
 cases a <;> cases f
 all_goals
  exact J6
theorem rtmmay_any (t:Tm) (w:World):Calls Tryz.prog 134 #[(.agg (tmL t).toArray)] w (Ret w (.bool (Hq t))):=by
 obtain⟨a,d,f⟩:=t
 cases a <;> cases f
 all_goals
  exact J6
def ouL (o:Ou):List Value:=[.int .i64 o.k,.int .u64 o.p,.int .u32 o.b,.string o.d]
def ou0:Ou:=⟨0,0,0,⟨#[]⟩⟩
theorem ou_zero:(Tryz.prog.info? 103).map (·.zero)=some (some (.agg (List.toArray (ouL ou0)))):=by kernel_rfl
theorem Eb:(Tryz.prog.info? 103).map (·.size)=some 4:=by kernel_rfl
theorem ou_info3:(Tryz.prog.info? 103).map (fun i=>(i.zero,i.size,i.bytes))=some (some ((.agg (ouL ou0).toArray)),4,40):=by kernel_rfl
theorem ouL_one (o:Ou):∀ v∈ouL o,v.oneCell'=true:=by
 intro v hv
 simp only[ouL,List.mem_cons,List.not_mem_nil,or_false] at hv
 rcases hv with rfl|rfl|rfl|rfl <;> rfl
theorem ou_fill (o:Ou):Instr.fill (fun i=>some (i*4,4)) ((Array.range (1*4)).map ((Value.agg (ouL ou0).toArray).cells[· % (Value.agg (ouL ou0).toArray).cells.size]!)) [(0,(.agg (ouL o).toArray))]=some (ouL o).toArray:=by
 kernel_rfl
def OutRow (base:Nat) (w:World) (v:Value) (os:List Ou):Prop:=w.ownsRow base 103 4 v os.length (os.flatMap ouL)
theorem OutRow.nil (base:Nat) (w:World):OutRow base w (.slice none 0 0) []:=World.ownsRow_nil _ _ _ _
theorem OutRow.below {base:Nat} {w w':World} {v:Value} {os:List Ou} (h:OutRow base w v os) (hb:Below w.heap.size w w'):OutRow base w' v os:=Af h hb
section
variable {w0 w:World} {l:List Bx} {ops:Array Oper} {rest:List Oper} {op:Oper} {a:Act} {Q:Exit→Act→World→Prop} {x:Operand} {K:Act→World→Prop}
theorem DP (L:Lay w0 w l) (o:Ou) (ho:op.op=.buildSlice 59 1 #[(0,x)]) (hx:a.eval x=(.agg (ouL o).toArray))
    (h:∀ w',Lay w0 w' (⟨w.heap.size,ouL o,103⟩ :: l)→NewBox w (ouL o) 103 w'→K (a.put op.dst (.slice (some ⟨w.heap.size,0,none⟩) 1 1)) w'):op.wp Tryz.prog a w K Q:=by
 obtain⟨i0,hi,iz0,iz1,iz2⟩:=info_parts ou_info3
 refine wp_buildSlice 59 103 1 #[(0,x)] ho (ouL o).toArray i0 ((.agg (ouL ou0).toArray)) τ59 hi iz0 (by rw[iz1];decide) (by rw[iz1];decide) ?_ ?_
 · rw[iz1]
   have e:(Array.map (fun x:Nat×Operand=>(x.1,a.eval x.2)) #[(0,x)]).toList=[(0,(.agg (ouL o).toArray))]:=by simp [hx]
   exact (congrArg _ e).trans (ou_fill o)
 · exact h _ (L.new (NewBox.made w _ _)) (NewBox.made w _ _)
theorem lay_out (L:Lay w0 w l) (o:Ou) (hgd:op.guard=none) (ho:op.op=.buildSlice 59 1 #[(0,x)]) (hx:a.eval x=(.agg (ouL o).toArray))
    (h:∀ w',Lay w0 w' (⟨w.heap.size,ouL o,103⟩ :: l)→NewBox w (ouL o) 103 w'→wpList Tryz.prog ops Q rest (a.put op.dst (.slice (some ⟨w.heap.size,0,none⟩) 1 1)) w'):wpList Tryz.prog ops Q (op :: rest) a w :=
 wpList_plain hgd fun _ hK=>DP L o ho hx (fun w' L' N'=>hK _ _ (h w' L' N'))
theorem Lay.out1 {k g:Nat} {o:Ou} (L:Lay w0 w l) (hk:l[k]?=some ⟨g,ouL o,103⟩):OutRow w0.heap.size w (.slice (some ⟨g,0,none⟩) 1 1) [o] :=
 RowBx.owns (size:=4) ⟨nlr _,by decide,rfl,rfl,rfl⟩ L hk
end
/-! ## Disks -/
def dkL (d:Dk):List Value:=[.int .u32 d.bl,.int .u32 d.b,.int .u32 d.f,.int .i64 d.s,.int .i64 d.cmd,.int .u32 d.ob,.int .u32 d.of,.string d.od]
def dk0:Dk:=⟨0,0,0,0,0,0,0,⟨#[]⟩⟩
theorem dk_zero:(Tryz.prog.info? 36).map (·.zero)=some (some (.agg (List.toArray (dkL dk0)))):=by kernel_rfl
theorem Bk:(Tryz.prog.info? 36).map (·.size)=some 8:=by kernel_rfl
theorem Gu (d:Dk):∀ v∈dkL d,v.oneCell'=true:=by
 intro v hv
 simp only[dkL,List.mem_cons,List.not_mem_nil,or_false] at hv
 rcases hv with rfl|rfl|rfl|rfl|rfl|rfl|rfl|rfl <;> rfl
/-! ## Network interfaces -/
def ncL (c:Nc):List Value:=[.int .u32 c.f,.int .u32 c.l,.bool c.p,.int .u32 c.b,.bool c.r,.int .u32 c.g]
def nc0:Nc:=⟨0,0,false,0,false,0⟩
theorem nc_zero:(Tryz.prog.info? 38).map (·.zero)=some (some (.agg (List.toArray (ncL nc0)))):=by kernel_rfl
theorem B7:(Tryz.prog.info? 38).map (·.size)=some 6:=by kernel_rfl
theorem JC (c:Nc):∀ v∈ncL c,v.oneCell'=true:=by
 intro v hv
 simp only[ncL,List.mem_cons,List.not_mem_nil,or_false] at hv
 rcases hv with rfl|rfl|rfl|rfl|rfl|rfl <;> rfl
theorem Fk:(Tryz.prog.info? 4).map (·.size)=some 1:=by kernel_rfl
theorem str_info:(Tryz.prog.info? 9).map (·.size)=some 1:=by kernel_rfl
theorem DK:(Tryz.prog.info? 41).map (·.size)=some 1:=by kernel_rfl
theorem CK {x:Int} (_h0:0≤x) (k:Nat):((Do x k).toNat:Int)=x / 2 ^ (8*k) % 256:=by
 have h1:=Int.emod_nonneg (x / 2 ^ (8*k)) (show (256:Int)≠0 by decide)
 have h2:=Int.emod_lt_of_pos (x / 2 ^ (8*k)) (show (0:Int)<256 by decide)
 unfold Do
 rw[show ∀ n:Nat,(UInt8.ofNat n).toNat=n % 256 from fun n=>UInt8.toNat_ofNat' ..]
 omega
theorem Hc:(Tryz.prog.info? 5).map (fun i=>(i.zero,i.size,i.bytes))=some (some (.int .u8 0),1,1):=by kernel_rfl
def Bu (x:Int):List Value:=[.int .u8 (x % 256),.int .u8 (x / 256 % 256),.int .u8 (x / 65536 % 256),.int .u8 (x / 16777216)]
def EH (x:Int):ByteArray:=⟨(EX x).toArray⟩
theorem G2 {x:Int} (h0:0≤x) (h1:x<4294967296):Lib.strCells (EH x)=Bu x:=by
 show [Value.int .u8 (Do x 0).toNat,.int .u8 (Do x 1).toNat,.int .u8 (Do x 2).toNat,.int .u8 (Do x 3).toNat]=_
 rw[CK h0,CK h0,CK h0,CK h0]
 have e:x / 2 ^ (8*0)=x:=by show x / 1=x;omega
 have e3:x / 2 ^ (8*3) % 256=x / 16777216:=by show x / 16777216 % 256=_;omega
 rw[e,e3];rfl
theorem Fy (a b:ByteArray):Lib.strCells (a++b)=Lib.strCells a++Lib.strCells b:=by
 unfold Lib.strCells
 rw[ByteArray.data_append,Array.toList_append,List.map_append]
theorem textW_snoc (xs:List Int) (x:Int):DL (xs++[x])=DL xs++EH x:=by
 unfold DL EH
 apply ByteArray.ext
 rw[ByteArray.data_append]
 simp
theorem textW_take {xs:List Int} {k:Nat} {x:Int} (h:xs[k]?=some x):DL (xs.take (k+1))=DL (xs.take k)++EH x:=by
 rw[List.take_add_one,h];exact textW_snoc _ _
theorem textW_size (xs:List Int):(DL xs).size=4*xs.length:=by
 show (xs.flatMap EX).toArray.size=_
 rw[List.size_toArray]
 induction xs with
 | nil=>rfl
 | cons x xs ih=>rw[List.flatMap_cons,List.length_append,ih,List.length_cons];show 4+_=_;omega
theorem Fv {w:World} {base n:Nat} {v:Value} {s:ByteArray} (h:w.ownsRow base 5 1 v n (Lib.strCells s)) (hn:0<n):∃ g cap,v=.slice (some ⟨g,0,none⟩) n cap∧n≤cap∧cap≤maxLen∧(convert 194 9 v).run Tryz.prog w=.ok (.string s) w:=by
 rcases h.2 with ⟨_,hbad⟩|⟨g,cap,cur,rfl,_,_,h1,h2,_⟩
 · omega
 · have hsz:s.size=n:=by have:=h.1;rw[Lib.strCells_length] at this;omega
   have hnums:strOfNums (s.data.toList.map fun b=>(b.toNat:Int))=s:=by
    unfold strOfNums
    rw[List.map_map]
    have e:s.data.toList.map ((fun n:Int=>UInt8.ofNat n.toNat) ∘ fun b:UInt8=>(b.toNat:Int))=s.data.toList:=by
     conv=>rhs;rw[←List.map_id s.data.toList]
     refine List.map_congr_left fun b _=>?_
     simp
    rw[e]
   refine ⟨g,cap,rfl,h1,h2,?_⟩
   rw[←hnums]
   refine run_convert_bytes_arg w 194 5 τ194 τ5 g 0 n cap _ (by rw[List.length_map,Array.length_toList];exact hsz) (fun i hi=>?_) 9 τ9
   rw[Nat.zero_add]
   have:=h.cellAt i (by omega)
   rw[this]
   unfold Lib.strCells
   have hi':i<s.data.toList.length:=by rw[Array.length_toList];show i<s.size;omega
   rw[List.getElem?_map,List.getElem?_eq_getElem hi',List.getD_eq_getElem?_getD,List.getElem?_map,List.getElem?_eq_getElem hi']
   rfl
theorem wordCells_one (x:Int):∀ u∈Bu x,u.oneCell'=true:=by
 intro u hu
 simp only[Bu,List.mem_cons,List.not_mem_nil,or_false] at hu
 rcases hu with rfl|rfl|rfl|rfl <;> rfl
theorem text_any (va:Value) (xs:List Int) (w:World) (ha:MemRow w va xs) (hw:Words xs) (hl:xs.length≤1024):Calls Tryz.prog 88 #[va] w (Ret w (.string (DL xs))):=by
 obtain⟨b,off,cap,rfl,h1,h2,h0,h3,h4⟩:=ha
 obtain⟨n,hn⟩:∃ n,xs.length=n:=⟨_,rfl⟩
 rw[hn] at h1 h0 hl ⊢
 have H4:=lh h4;clear h4
 have HN:=lh hn;clear hn h2
 obtain⟨i0,hi,iz0,iz1,iz2⟩:=info_parts Hc
 have hmk:∀ w:World,(Instr.makeSlice 194 (.int .i64 0) (.int .i64 (4*(n:Int)))).run Tryz.prog w=.ok (.slice (some ⟨w.heap.size,0,none⟩) 0 (4*n)) (w.alloc (.cells (madeCells #[Value.int .u8 0] (4*n)) 5)):=fun w=>by
  have:=run_make (P:=Tryz.prog) w 194 5 i0 _ τ194 hi iz0 .i64 .i64 0 (4*n:Nat) (by decide) (by omega) (by rw[iz2];simp;omega) (by omega)
  rw[iz1,Int.toNat_natCast,Int.toNat_zero,Nat.mul_one,show ((4*n:Nat):Int)=4*(n:Int) by omega] at this
  exact this
 go_in
 go_wp2_with fail
 have hmade:(w.alloc (.cells (madeCells #[Value.int .u8 0] (4*n)) 5)).ownsRow w.heap.size 5 1 (.slice (some ⟨w.heap.size,0,none⟩) 0 (4*n)) 0 []:=World.ownsRow_made w _ _ (nlr _) (by unfold maxLen;omega) (by rw[size_madeCells,Nat.mul_one])
 have hb0:Below w.heap.size w (w.alloc (.cells (madeCells #[Value.int .u8 0] (4*n)) 5)):=bel
 generalize w.alloc (.cells (madeCells #[Value.int .u8 0] (4*n)) 5)=w0 at *
 go_loopw [3,12] (fun v i wr=>∃ k:Nat,k≤n∧i=.int .i64 k∧wr.ownsRow w.heap.size 5 1 v (4*k) (Lib.strCells (DL (xs.take k)))∧Below w.heap.size w wr) (fun _ i _=>n - (intOf i).toNat)
 case atStart=>exact⟨0,by omega,rfl,hmade,hb0⟩
 case round =>
  obtain⟨k,hk,rfl,hown,hbw⟩:=hrel
  have hbs0:=hbw.size
  by_cases hlt:k<n
  · obtain⟨x,hx⟩:=A6 (xs:=xs) (k:=k) (by rw[HN.out];exact hlt)
    have hc:=(hbw.cell (p:=⟨b,off+k,none⟩) h3).trans (H4.out k x hx)
    have hx0:=hw k x hx
    have HO:=lh hown;clear hown hmade
    go_wp2_with (at_builtin;refine wpList_append_own _ rfl (.tmp 16) (.tmp 28) 194 rfl w.heap.size 5 i0 (.int .u8 0) 1 1 τ194 hi iz0 iz1 iz2 rfl (by decide) _ (4*k) (Lib.strCells (DL (xs.take k))) rfl (HO.out.alloc _) ⟨wr.heap.size,0,none⟩ 4 4 (Bu x) rfl rfl (A8 _ (Bu x) _ _ (by first|rfl|simp only[sizes])) (wordCells_one x) (by unfold maxLen;omega) (by omega) (by first|exact nlr _|omega|(simp only[sizes];done)|(simp only[sizes];omega)) ?_;intro v3 w3 hown3 hgrow3 _;have hb3:=A4 bel (HO.out.alloc _) hgrow3;have hz3:=hb3.size)
    rw[←G2 hx0.1 hx0.2,←Fy,←textW_take hx] at hown3
    go_wp2_with fail
    go_roundw
    case rel=>exact⟨k+1,by omega,by go_num,hown3,hb3⟩
    case measure=>simp [intOf];omega
  · obtain rfl:k=n:=by omega
    rw[←HN.out,List.take_length] at hown
    obtain⟨g,cap1,rfl,h5,h6,hcv⟩:=Fv hown (by rw[HN.out];omega)
    clear hown hmade
    go_wp2_with fail
    go_ret
    exact Ret.mk hbw
def Ez (xs:List Int) (k:Nat):List Int:=(xs.drop (k*32)).take 32
theorem Gi {xs:List Int} {k:Nat} (h:k*32+32≤xs.length):(Ez xs k).length=32:=by
 unfold Ez
 rw[List.length_take,List.length_drop];omega
theorem GW (xs:List Int) (k:Nat):Bh xs k=DL (Ez xs k):=by unfold Bh Ez;rw[Int.toNat_natCast]
theorem Da {xs:List Int} {k:Nat} (h:k*32+32≤xs.length):(Bh xs k).size=128:=by rw[GW,textW_size,Gi h]
theorem MemRow.pos {w:World} {v:Value} {xs:List Int} (h:MemRow w v xs):0<xs.length:=by obtain⟨_,_,_,_,_,_,h0,_,_⟩:=h;exact h0
theorem Words.page {xs:List Int} (h:Words xs) (k:Nat):Words (Ez xs k):=fun i x hx=>by
 unfold Ez at hx
 rw[List.getElem?_take] at hx
 split at hx
 · rw[List.getElem?_drop] at hx;exact h _ x hx
 · cases hx
theorem Xz104 {P:Prop} (h:P:=by
  have hi:=AJ hx
  rw[List.getElem?_take] at hx
  split at hx
  · rw[List.getElem?_drop] at hx
    rw[Nat.add_assoc]
    exact h4 _ x hx
  · cases hx):P:=h
theorem MemRow.sub {w:World} {b off cap n:Nat} {xs:List Int} {k:Nat} (hn:xs.length=n) (h:MemRow w (.slice (some ⟨b,off,none⟩) n cap) xs) (hk:k*32+32≤n):MemRow w (.slice (some ⟨b,off+k*32,none⟩) 32 (cap - k*32)) (Ez xs k):=by
 obtain⟨b',off',cap',hv,h1,h2,h0,h3,h4⟩:=h
 injection hv with e1 e2 e3
 injection e1 with e1
 injection e1 with e4 e5
 subst e4 e5 e3
 have hl:=Gi (xs:=xs) (k:=k) (by omega)
 refine ⟨b,off+k*32,cap - k*32,by rw[hl],by omega,by omega,by omega,h3,fun i x hx=>?_⟩
 unfold Ez at hx
 exact Xz104
theorem Gm (va:Value) (xs:List Int) (p:Nat) (w:World) (ha:MemRow w va xs) (hw:Words xs) (hp:p<AO xs.length):Calls Tryz.prog 43 #[va,.int .i64 p] w (Ret w (.tuple #[.string (Bh xs p),.bool true])):=by
 have hfit:=BQ hp
 obtain⟨b,off,cap,rfl,h1,h2,hlt,hrow⟩:=ha.open
 have HX:=fun w=>EP (some ⟨b,off,none⟩) xs.length cap p w (by omega)
 rw[show hasB xs.length p=true from decide_eq_true (by omega)] at HX
 have HT:=fun w h=>text_any (.slice (some ⟨b,off+p*32,none⟩) 32 (cap - p*32)) (Ez xs p) w h (hw.page p) (by rw[Gi hfit.1];omega)
 rw[←GW] at HT
 obtain⟨n,hn⟩:∃ n,xs.length=n:=⟨_,rfl⟩
 rw[hn] at HX hfit hrow h1 ⊢
 have HR:=lh (hrow.sub (k:=p) hn hfit.1)
 have HH:=lh HX
 have HTT:=lh HT
 clear HX HT hn hw hp hrow ha
 have L:=Lay.start w
 go_in
 go_wp2_with ((first|(go_at_call 88;(with_reducible refine zcl L (HTT.out _ (HR.out.below L.bel)) ?_))|refine YS ?_);clear L;intro wz L)
 go_ret2
 exact Ret.mk L.bel
/-! ## Writing a page -/
theorem C8 (xs:List Int) (p:Nat) (s:ByteArray) (k:Nat):(F4 xs p s k).length=xs.length:=by
 induction k with
 | zero=>rfl
 | succ k ih=>unfold F4;rw[List.length_set,ih]
theorem Cr (s:ByteArray) (k:Nat):0≤BD s k∧BD s k<256:=by
 unfold BD
 have:=(s.data[k]?.getD 0).toNat_lt
 omega
theorem wordS_bd (s:ByteArray) (k:Nat):0≤EI s k∧EI s k<4294967296:=by
 have:=Cr s (4*k);have:=Cr s (4*k+1);have:=Cr s (4*k+2);have:=Cr s (4*k+3)
 unfold EI;omega
theorem four_bytes (s:ByteArray) (k:Nat) (h:4*k+4≤s.size):∃ b0 b1 b2 b3:UInt8,s.extract (4*k) (4*k+4)=⟨#[b0,b1,b2,b3]⟩∧BD s (4*k)=b0.toNat∧BD s (4*k+1)=b1.toNat∧BD s (4*k+2)=b2.toNat∧BD s (4*k+3)=b3.toNat:=by
 have hs:s.size=s.data.size:=rfl
 refine ⟨s.data[4*k]'(by omega),s.data[4*k+1]'(by omega),s.data[4*k+2]'(by omega),s.data[4*k+3]'(by omega),?_,?_,?_,?_,?_⟩
 · apply ByteArray.ext
   rw[ByteArray.data_extract]
   apply Array.ext
   · rw[Array.size_extract];simp;omega
   · intro i h1 h2
     rw[Array.getElem_extract]
     have:i<4:=h2
     obtain rfl|rfl|rfl|rfl:i=0∨i=1∨i=2∨i=3:=by omega
     all_goals rfl
 all_goals
  unfold BD
  rw[Array.getElem?_eq_getElem (by omega)];rfl
theorem or_bytes {a b c d:Nat} (ha:a<256) (hb:b<256) (hc:c<256) (hd:d<256):bits .or .u32 (bits .or .u32 (bits .or .u32 (a:Int) ((b:Int)*256)) ((c:Int)*65536)) ((d:Int)*16777216)=(a:Int)+256*b+65536*c+16777216*d:=by
 have or_low:∀ (x y:Nat) (k:Nat),x<2 ^ k→x ||| y*2 ^ k=x+y*2 ^ k:=fun x y k hx=>by
  rw[Nat.or_comm,←Nat.shiftLeft_eq,←Nat.shiftLeft_add_eq_or_of_lt hx];omega
 have key:∀ x y:Nat,x<4294967296→y<4294967296→bits .or .u32 (x:Int) (y:Int)=((x ||| y:Nat):Int):=fun x y hx hy=>by
  have:=Nat.or_lt_two_pow (n:=32) hx hy
  show IntKind.u32.wrap ((BitVec.ofInt 32 (x:Int) ||| BitVec.ofInt 32 (y:Int)).toNat:Int)=_
  have e1:(BitVec.ofInt 32 (x:Int)).toNat=x:=by rw[BitVec.ofInt_natCast,BitVec.toNat_ofNat];exact Nat.mod_eq_of_lt hx
  have e2:(BitVec.ofInt 32 (y:Int)).toNat=y:=by rw[BitVec.ofInt_natCast,BitVec.toNat_ofNat];exact Nat.mod_eq_of_lt hy
  rw[BitVec.toNat_or,e1,e2,IntKind.wrap_u32]
  omega
 have e1:(b:Int)*256=((b*256:Nat):Int):=by omega
 have e2:(c:Int)*65536=((c*65536:Nat):Int):=by omega
 have e3:(d:Int)*16777216=((d*16777216:Nat):Int):=by omega
 rw[e1,key _ _ (by omega) (by omega),or_low a b 8 (by omega),e2,key _ _ (by omega) (by omega),or_low _ c 16 (by omega),e3,key _ _ (by omega) (by omega),or_low _ d 24 (by omega)]
 omega
theorem FI (va:Value) (xs:List Int) (p:Nat) (s:ByteArray) (w:World) (ha:MemRow w va xs) (hp:p<AO xs.length) (hs:s.size=128):Calls Tryz.prog 45 #[va,.int .i64 p,.string s] w
    (AD (fun u=>.tuple #[u,.bool true]) (A0 xs p s) w):=by
 rw[show A0 xs p s=F4 xs p s 32 by unfold A0;rw[Int.toNat_natCast]]
 have hfit:=BQ hp
 have hrow:=ha
 obtain⟨b,off,cap,rfl,h1,h2,h0,h3,h4⟩:=ha
 clear h3 h4
 have HROW:=lh hrow;clear hrow
 have hhas:hasB xs.length p=true:=decide_eq_true (by omega)
 have HX:=fun w=>EP (some ⟨b,off,none⟩) xs.length cap p w (by omega)
 rw[hhas] at HX
 obtain⟨n,hn⟩:∃ n,xs.length=n:=⟨_,rfl⟩
 rw[hn] at HX hfit h0 h1 HROW ⊢
 have HH:=lh HX;clear HX hhas hp
 have HN:=lh hn;clear hn
 have hp32:p<32:=by omega
 go_in
 go_wp2_with fail
 refine (At _ xs _ HROW.out (by rw[HN.out];omega)).mono ?_
 rintro e w1 ⟨v1,rfl,ho1,hb1⟩
 have hz1:=BH hb1
 rw[OwnMem,HN.out] at ho1
 rcases ho1.1.2 with ⟨_,hbad⟩|⟨g,cap1,_,hv,hg,_,hgc,hgm,_⟩
 · omega
 subst hv
 unfold maxLen at hgm
 have HO:=lh ho1.1;clear ho1
 go_wp2_with fail
 refine (HH.out _).mono ?_
 rintro e w2 ⟨rfl,hb2⟩
 have hz2:=BH hb2
 have hb12:Below w.heap.size w w2:=hb1.trans (hb2.mono hb1.size)
 have ho2:=Af HO.out hb2
 clear hb1 hb2
 have HO2:=lh ho2;clear ho2
 go_wp2_with fail
 go_loopw [26] (fun i wr=>∃ k:Nat,k≤32∧i=.int .i64 k∧wr.ownsRow w.heap.size 25 1 (.slice (some ⟨g,0,none⟩) n cap1) n (words (F4 xs p s k))∧Below w.heap.size w wr) (fun i _=>32 - (intOf i).toNat)
 case atStart=>exact⟨0,by omega,rfl,HO2.out,hb12⟩
 case round =>
  obtain⟨k,hk,rfl,hown,hbw⟩:=hrel
  clear hb12 hz1 hz2
  have hsz0:=hbw.size
  by_cases hlt:k<32
  · obtain⟨b0,b1,b2,b3,zc,y0,y1,y2,y3⟩:=four_bytes s k (by omega)
    have l0:=b0.toNat_lt;have l1:=b1.toNat_lt;have l2:=b2.toNat_lt;have l3:=b3.toNat_lt
    have ws:EI s k=(b0.toNat:Int)+256*b1.toNat+65536*b2.toNat+16777216*b3.toNat:=by unfold EI;rw[y0,y1,y2,y3]
    have hor:=or_bytes l0 l1 l2 l3
    rw[←ws] at hor
    have hor:(bits .or .u32 (bits .or .u32 (bits .or .u32 ((b0.toNat:Int) % 4294967296) ((b1.toNat:Int) % 4294967296*256 % 4294967296)) ((b2.toNat:Int) % 4294967296*65536 % 4294967296)) ((b3.toNat:Int) % 4294967296*16777216 % 4294967296))=EI s k:=by
     rw[show (b0.toNat:Int) % 4294967296=b0.toNat by omega,show (b1.toNat:Int) % 4294967296*256 % 4294967296=(b1.toNat:Int)*256 by omega,show (b2.toNat:Int) % 4294967296*65536 % 4294967296=(b2.toNat:Int)*65536 by omega,show (b3.toNat:Int) % 4294967296*16777216 % 4294967296=(b3.toNat:Int)*16777216 by omega]
     exact hor
    clear y0 y1 y2 y3
    have hgl:=hown.lt g rfl
    have hlen:=C8 xs p s k
    rw[HN.out] at hlen
    obtain⟨x,hx⟩:=A6 (xs:=F4 xs p s k) (k:=p*32+k) (by omega)
    have hcell:wr.cell? ⟨g,p*32+k,none⟩=some (.int .u32 x):=(hown.cellAt (p*32+k) (by omega)).trans (by unfold words;rw[List.getElem?_map,hx];rfl)
    have hfree:=hown.frozenAt (p*32+k)
    have HO3:=lh hown;clear hown hx hlen
    go_wp2_with fail
    refine Bf 23 (by kernel_rfl) (by kernel_rfl) ?_
    simp only[List.take_succ_cons,List.take_zero,List.drop_succ_cons,List.drop_zero]
    repeat (go_big_quiet_step (first|fail|fail))
    refine wpQuiet_nil ?_
    intro w3 hw3
    have hb3:=Aa hw3
    clear hw3
    obtain⟨hc3,hf3⟩:=Cn hb3
    have hz3:=BH hb3
    try simp only[Bo] at hz3
    try simp only[sizes] at hc3 hf3
    have hown3:=Af HO3.out hb3
    have hgl3:g<w3.heap.size:=by omega
    have hc3':=(hb3.cell (p:=⟨g,p*32+k,none⟩) hgl.2).trans hcell
    have hf3':=(hb3.frozen (p:=⟨g,p*32+k,none⟩) hgl.2).trans hfree
    clear hc3 hf3
    go_wp2_with fail
    go_roundw
    case rel =>
     refine ⟨k+1,by omega,by go_num,?_,bel⟩
     have h5:=(hown3.stored (p*32+k) (.int .u32 (bits .or .u32 (bits .or .u32 (bits .or .u32 ((b0.toNat:Int) % 4294967296) ((b1.toNat:Int) % 4294967296*256 % 4294967296)) ((b2.toNat:Int) % 4294967296*65536 % 4294967296)) ((b3.toNat:Int) % 4294967296*16777216 % 4294967296)))).1
     rw[Gc] at h5
     rw[show F4 xs p s (k+1)=(F4 xs p s k).set (p*32+k) (bits .or .u32 (bits .or .u32 (bits .or .u32 ((b0.toNat:Int) % 4294967296) ((b1.toNat:Int) % 4294967296*256 % 4294967296)) ((b2.toNat:Int) % 4294967296*65536 % 4294967296)) ((b3.toNat:Int) % 4294967296*16777216 % 4294967296)) by rw[hor];rfl]
     exact h5
    case measure=>simp [intOf];omega
  · obtain rfl:k=32:=by omega
    have HO3:=lh hown;clear hown
    go_wp2_with fail
    go_ret2
    have hl:=(C8 xs p s 32).trans HN.out
    exact⟨.slice (some ⟨g,0,none⟩) n cap1,rfl,⟨by rw[hl];exact HO3.out,by omega⟩,hbw⟩
theorem setPage_len (va:Value) (xs:List Int) (p:Nat) (s:ByteArray) (w:World) (ha:MemRow w va xs) (hp:p<AO xs.length) (hs:s.size≠128):Calls Tryz.prog 45 #[va,.int .i64 p,.string s] w
    (AD (fun u=>.tuple #[u,.bool false]) xs w):=by
 have hfit:=BQ hp
 have HROW:=lh ha
 obtain⟨b,off,cap,rfl,h1,h2,hlt,hrow⟩:=ha.open
 have HX:=fun w=>EP (some ⟨b,off,none⟩) xs.length cap p w (by omega)
 rw[show hasB xs.length p=true from decide_eq_true (by omega)] at HX
 obtain⟨n,hn⟩:∃ n,xs.length=n:=⟨_,rfl⟩
 rw[hn] at HX h1 HROW ⊢
 have HH:=lh HX
 have HN:=lh hn
 have h0:=ha.pos
 have HK:=lh (fun v w h=>At v xs w h (by omega))
 have hq:((s.size:Int) != 128)=true:=by simp;omega
 clear HX hn hrow ha hp hs
 have L:=Lay.start w
 go_in
 go_wp2_with fail
 refine (HK.out _ _ (HROW.out.below L.bel)).mono ?_
 rintro e w1 ⟨v1,rfl,ho1,hb1⟩
 have ho2:=ho1
 replace L:=L.below hb1
 obtain⟨g,cap1,rfl,_,_,HO⟩:=ho1.open
 rw[HN.out] at ho2 ⊢
 clear hb1 ho1 HK HO
 have ho:=lh ho2
 clear ho2
 go_wp2_with (go_at_call 87;(with_reducible refine (HH.out _).mono ?_);rintro e wz ⟨rfl,hbz⟩;replace L:=L.below hbz;have ho:=lh (ho.out.below hbz);clear hbz)
 go_ret2
 exact⟨_,rfl,ho.out,L.bel⟩
theorem Xz8 {P:Prop} (h:P:=by
  have L:=Lay.start w
  go_in
  go_wp2_with (first|(refine YL ?_)|(refine YS ?_;clear L;intro wz L))
  go_ret
  exact Ret.mk L.bel):P:=h
theorem Xz46 {P:Prop} (h:P:=by
  have L:=Lay.start w
  go_in
  go_wp2_with (refine YS ?_;clear L;intro wz L)
  go_ret
  exact Ret.mk L.bel):P:=h
theorem dkin_any (d:Dk) (port:Int) (w:World) (hs:0≤d.s∧d.s≤3):Calls Tryz.prog 100 #[(.agg (dkL d).toArray),.int .i64 port] w (Ret w (.int .u32 (F8 d port))):=by
 have h3:d.s % 4294967296=d.s:=by omega
 unfold F8
 by_cases h4:port=4
 · subst h4
   exact Xz8
 by_cases h5:port=5
 · subst h5
   exact Xz8
 by_cases h6:port=6
 · subst h6
   exact Xz8
 rw[if_neg h4,if_neg h5,if_neg h6]
 have n4:(port == 4)=false:=by simpa using h4
 have n5:(port == 5)=false:=by simpa using h5
 have n6:(port == 6)=false:=by simpa using h6
 clear h4 h5 h6
 exact Xz46
theorem dkpend_any (d:Dk) (w:World) (hs:0≤d.s∧d.s≤3):Calls Tryz.prog 174 #[(.agg (dkL d).toArray)] w (Ret w (.bool (EW d))):=by
 obtain⟨bl,b,f,s,cmd,ob,of,od⟩:=d
 dsimp only at hs
 obtain rfl|rfl|rfl|rfl:s=0∨s=1∨s=2∨s=3:=by omega
 all_goals
  clear hs
  exact J6
def dkReq (d:Dk) (p:Nat):Ou:=if d.cmd=1 then ⟨3,p,d.ob,⟨#[]⟩⟩ else ⟨4,p,d.ob,d.od⟩
theorem dkreq_any (d:Dk) (p:Nat) (w:World) (hs:d.s=1) (hc:d.cmd=1∨d.cmd=2):Calls Tryz.prog 222 #[(.agg (dkL d).toArray),.int .u64 p] w (Ret w (.tuple #[(.agg (ouL (dkReq d p)).toArray),.bool true])):=by
 obtain⟨bl,b,f,s,cmd,ob,of,od⟩:=d
 dsimp only at hs hc
 subst hs
 rcases hc with rfl|rfl
 · exact Xz33
 · exact Xz33
theorem dkcmd_any (d:Dk) (w:World) (h:d.cmd=1∧d.od=⟨#[]⟩∨d.cmd=2∧d.od.size=128):Calls Tryz.prog 206 #[(.agg (dkL d).toArray)] w (Ret w (.bool true)):=by
 obtain⟨bl,b,f,s,cmd,ob,of,od⟩:=d
 dsimp only at h
 rcases h with ⟨rfl,rfl⟩|⟨rfl,h⟩
 rotate_left
 have h':(od.size:Int)=128:=by omega
 rotate_left
 all_goals
  exact Xz8
theorem dkmay_any (d:Dk) (n:Nat) (w:World) (hd:DkOk d n) (hn:n≤32):Calls Tryz.prog 154 #[(.agg (dkL d).toArray),.int .i64 n] w (Ret w (.bool true)):=by
 have hbl:decide ((64:Int)<d.bl)=false:=decide_eq_false (by have:=hd.bl;omega)
 by_cases hs:d.s=1
 · obtain⟨h1,h2,h3,h4,h5⟩:=hd.busy hs
   have MC:=fun w=>dkcmd_any d w h5
   have hob:decide (d.ob<d.bl)=true:=decide_eq_true h2
   have hof:decide (d.of<(n:Int))=true:=decide_eq_true h4
   have hw:wrap64 d.of=d.of:=by unfold wrap64;omega
   obtain⟨bl,b,f,s,cmd,ob,of,od⟩:=d
   dsimp only at hs hbl hob hof hw h3 h4
   subst hs
   have HM:=lh MC
   clear hd MC h1 h2 h5
   exact Xz8
 · obtain⟨h1,h2,h3,h4⟩:=hd.idle hs
   have h5:=hd.s
   obtain⟨bl,b,f,s,cmd,ob,of,od⟩:=d
   dsimp only at hs hbl h1 h2 h3 h4 h5
   subst h1 h2 h3 h4
   clear hd
   obtain rfl|rfl|rfl:s=0∨s=2∨s=3:=by omega
   all_goals
    clear hs h5
    exact Xz8
end Go.Proofs.YtnmpfmapncicmaaGreat
namespace Go.Proofs.YtnmpfmapncicmaaGreat
set_option linter.all false
set_option maxRecDepth 100000
set_option maxHeartbeats 40000000
/-! ## Strings az lists of bytes -/
def bsL (l:List UInt8):ByteArray:=⟨l.toArray⟩
def Cs (l:List UInt8) (a b:Nat):List UInt8:=(l.drop a).take (b - a)
def Hb (c:UInt8):Bool:=decide (97≤c.toNat) && decide (c.toNat≤122)
def FY (c:UInt8):Bool:=decide (48≤c.toNat) && decide (c.toNat≤57)
def G6 (c:UInt8):Bool:=Hb c || FY c || c.toNat == 95
def sgnC (c:UInt8):Bool:=c.toNat == 44 || c.toNat == 58 || c.toNat == 40 || c.toNat == 41 || c.toNat == 46
def J5 (c:UInt8):Bool:=c.toNat == 32 || Hb c || FY c || c.toNat == 45 || sgnC c
/-! ## Tokens -/
structure Tk where
 k:Nat
 t:List UInt8
 g:Bool
def Fu (l:List UInt8):Nat→Nat→Nat
 | 0,i=>i
 | k+1,i=>match l[i]? with
   | some c=>if G6 c then Fu l k (i+1) else i
   | none=>i
def tkGo (l:List UInt8):Nat→Nat→Bool→List Tk→List Tk
 | 0,_,_,acc=>acc
 | k+1,i,g,acc=>match l[i]? with
   | none=>acc
   | some c =>
     if c.toNat=32 then tkGo l k (i+1) true acc
     else if Hb c then tkGo l k (Fu l l.length i) false (acc++[⟨1,Cs l i (Fu l l.length i),g⟩])
     else if FY c || c.toNat == 45 then tkGo l k (Fu l l.length (i+1)) false (acc++[⟨2,Cs l i (Fu l l.length (i+1)),g⟩])
     else tkGo l k (i+1) false (acc++[⟨3,Cs l i (i+1),g⟩])
def FF (l:List UInt8):List Tk:=tkGo l l.length 0 true []
/-! ## Numbers, registers, names, operations -/
def Gx (l:List UInt8):Int:=l.foldl (fun n c=>10*n+((c.toNat:Int) - 48)) 0
def numB (l:List UInt8):Bool:=decide (1≤l.length) && decide (l.length≤9) && l.all FY
def regT (r:Nat):List UInt8:=if r<10 then [114,UInt8.ofNat (48+r)] else [114,49,UInt8.ofNat (38+r)]
def Jg (t:List UInt8):Nat→Nat→Option Nat
 | 0,_=>none
 | k+1,r=>if t=regT r then some r else Jg t k (r+1)
def FP (t:List UInt8):Option Nat:=Jg t 16 0
def F3 (t:List UInt8):Bool:=match t with
 | []=>false
 | c :: _=>Hb c
def Fd (t:List UInt8):Bool:=decide (1≤t.length) && decide (t.length≤12) && F3 t && (FP t).isNone
def DB (op:Nat):List UInt8 :=
 match op with
 | 1=>[97,100,100]
 | 2=>[115,117,98]
 | 3=>[97,110,100]
 | 4=>[111,114]
 | 5=>[120,111,114]
 | 6=>[115,104,108]
 | 7=>[115,104,114]
 | 8=>[115,97,114]
 | 9=>[109,117,108]
 | 10=>[100,105,118]
 | 11=>[114,101,109]
 | 12=>[115,108,116]
 | 13=>[115,108,116,117]
 | 16=>[97,100,100,105]
 | 17=>[97,110,100,105]
 | 18=>[111,114,105]
 | 19=>[120,111,114,105]
 | 20=>[115,104,108,105]
 | 21=>[115,104,114,105]
 | 22=>[115,97,114,105]
 | 23=>[115,108,116,105]
 | 24=>[108,117,105]
 | 32=>[108,119]
 | 33=>[108,98]
 | 34=>[108,98,117]
 | 35=>[115,119]
 | 36=>[115,98]
 | 40=>[98,101,113]
 | 41=>[98,110,101]
 | 42=>[98,108,116]
 | 43=>[98,103,101]
 | 44=>[98,108,116,117]
 | 45=>[98,103,101,117]
 | 48=>[106,97,108]
 | 49=>[106,97,108,114]
 | 56=>[101,99,97,108,108]
 | 57=>[101,114,101,116]
 | 58=>[99,115,114,114]
 | 59=>[99,115,114,119]
 | 60=>[105,110]
 | 61=>[111,117,116]
 | 62=>[119,102,105]
 | 63=>[102,108,117,115,104]
 | 64=>[104,97,108,116]
 | _=>[]
def opGo (t:List UInt8):Nat→Nat→Nat
 | 0,_=>0
 | k+1,op=>if 0<A2 op∧DB op=t then op else opGo t k (op+1)
def Jw (t:List UInt8):Nat:=opGo t 64 1
/-! ## Statements -/
def patP (op:Nat):List UInt8 :=
 if 32≤op∧op≤36 then [114,44,110,40,114,41]
 else if 40≤op∧op≤45 then [114,44,114,44,120]
 else if op=48 then [114,44,120]
 else if A2 op=1 then []
 else if A2 op=2 then [114,44,114,44,114]
 else if 6≤A2 op then [114,44,110]
 else [114,44,114,44,110]
def patOf (t:List UInt8):Option (List UInt8) :=
 if t=[108,105] then some [114,44,120] else if t=[109,118] then some [114,44,114] else if t=[110,111,112] then some [] else if Jw t=0 then none else some (patP (Jw t))
structure Ar where
 reg:Nat
 num:Int
 lab:List UInt8
def argOf (t:Tk) (p:UInt8):Option (Option Ar) :=
 if p.toNat=114 then (if t.k=1 then (FP t.t).map (fun r=>some ⟨r,0,[]⟩) else none)
 else if p.toNat=110∨p.toNat=120 then
  (if p.toNat=120∧t.k=1∧Fd t.t=true then some (some ⟨0,0,t.t⟩) else if t.k=2∧numB t.t=true then some (some ⟨0,Gx t.t,[]⟩) else none)
 else if t.k=3∧t.t=[p] then some none else none
def Di:List Tk→List UInt8→Option (List Ar)
 | [],[]=>some []
 | t :: ts,p :: ps=>match argOf t p with
   | none=>none
   | some o=>(Di ts ps).map (fun l=>o.toList++l)
 | _,_=>none
structure St where
 w:List UInt8
 op:Nat
 l:List Ar
 line:Nat
 at_:Nat
 size:Nat
def gapB:List Tk→Bool
 | []=>true
 | r :: _=>r.g
def CY (ts:List Tk):Option St :=
 match ts with
 | []=>none
 | t :: rest =>
   if t.k≠1∨F3 t.t=false then none
   else if gapB rest=false then none
   else match patOf t.t with
    | none=>none
    | some p=>(Di rest p).map (fun az=>⟨t.t,Jw t.t,az,0,0,if t.t=[108,105] then 2 else 1⟩)
def GD (s:List UInt8):Option (List UInt8×Option St) :=
 if (s.all J5)=false then none
 else match FF s with
  | a :: b :: ts =>
    if b.t=[58] then (if a.k=1∧Fd a.t=true then (if ts.isEmpty=true then some (a.t,none) else (CY ts).map (fun st=>(a.t,some st))) else none)
    else (CY (a :: b :: ts)).map (fun st=>([],some st))
  | []=>some ([],none)
  | ts=>(CY ts).map (fun st=>([],some st))
/-! ## The whole source -/
def EF:List UInt8→List UInt8→List (List UInt8)
 | [],cur=>if cur.isEmpty=true then [] else [cur]
 | c :: cs,cur=>if c.toNat=10 then cur :: EF cs [] else EF cs (cur++[c])
structure Lb where
 t:List UInt8
 a:Nat
def Dq:List Lb→List UInt8→Option Nat
 | [],_=>none
 | b :: l,t=>if b.t=t then some b.a else Dq l t
def DV:List (List UInt8)→List Lb→List St→Nat→Nat→Option (List Lb×List St)
 | [],lb,sts,_,_=>some (lb,sts)
 | s :: ss,lb,sts,at_,line=>match GD s with
   | none=>none
   | some (lab,st) =>
     if lab.isEmpty=false∧(Dq lb lab).isSome=true then none
     else match st with
      | none=>none
      | some st=>if 1024<at_+st.size then none else DV ss (if lab.isEmpty=true then lb else lb++[⟨lab,4*at_⟩]) (sts++[{ st with line:=line+1,at_:=at_ }]) (at_+st.size) (line+1)
def Dr (i:In):Int:=i.op*16777216+i.a*1048576+i.b*65536+i.imm % 65536+i.c
def EU (l:List Ar) (k:Nat):Int:=match l[k]? with
 | some a=>a.reg
 | none=>0
def numA (l:List Ar) (k:Nat):Int:=match l[k]? with
 | some a=>a.num
 | none=>0
def Bz (st:St) (v:Int):In :=
 if A2 st.op=2 then ⟨st.op,EU st.l 0,EU st.l 1,EU st.l 2,0⟩
 else if A2 st.op=1 then ⟨st.op,0,0,0,0⟩
 else if 32≤st.op∧st.op≤36 then ⟨st.op,EU st.l 0,EU st.l 2,0,numA st.l 1⟩
 else if 6≤A2 st.op then ⟨st.op,EU st.l 0,0,0,v⟩
 else ⟨st.op,EU st.l 0,EU st.l 1,0,v⟩
def lastV (lb:List Lb) (st:St):Option Int :=
 match st.l.getLast? with
 | none=>some 0
 | some a=>if a.lab.isEmpty=true then some a.num else (Dq lb a.lab).map (fun x=>if 0<st.op then (x:Int) / 4 - st.at_ else x)
def needA (st:St):Nat:=if A2 st.op=2 then 3 else if A2 st.op=1 then 0 else if 32≤st.op∧st.op≤36 then 3 else if 6≤A2 st.op then 1 else 2
def okI (i:In):Bool:=decide (A2 i.op≠0∧(0≤i.a∧i.a≤15)∧(0≤i.b∧i.b≤15)∧(0≤i.c∧i.c≤15)∧loF (A2 i.op)≤i.imm∧i.imm≤hiF (A2 i.op)∧(A2 i.op=2∨i.c=0)∧(A2 i.op=1→i.a=0)∧(i.b=0∨2≤A2 i.op∧A2 i.op≤5))
def GG (st:St) (v:Int):Option (List Int) :=
 if st.w=[108,105] then if st.l.length=0∨15<EU st.l 0 then none else some [24*16777216+EU st.l 0*1048576+u32 v / 65536,18*16777216+EU st.l 0*1048576+EU st.l 0*65536+u32 v % 65536]
 else if st.w=[109,118]∨st.w=[110,111,112] then none
 else if okI (Bz st v)=true∧needA st≤st.l.length then some [Dr (Bz st v)] else none
def asmGo (lb:List Lb):List St→Option (List Int)
 | []=>some []
 | st :: l=>match lastV lb st with
   | none=>none
   | some v=>match GG st v with
     | none=>none
     | some ws=>(asmGo lb l).map (fun r=>ws++r)
def asmI (src:List UInt8):Option (List Int) :=
 match DV (EF src []) [] [] 0 0 with
 | none=>none
 | some (lb,sts)=>asmGo lb sts
def srcK:List UInt8 :=
 [108,105,32,114,49,44,32,104,97,110,100,108,101,114,10,99,115,114,119,32,114,49,44,32,49,10,108,105,32,114,49,44,32,51,49,10,99,115,114,119,32,114,49,44,32,55,10,108,105,32,114,49,44,32,52,10,99,115,114,119,32,114,49,44,32,54,10,108,105,32,114,50,44,32,53,49,50,10,108,105,32,114,51,44,32,48,10,108,105,32,114,52,44,32,56,10,109,97,112,58,32,115,104,108,105,32,114,53,44,32,114,51,44,32,56,10,111,114,105,32,114,53,44,32,114,53,44,32,55,10,115,104,108,105,32,114,54,44,32,114,51,44,32,50,10,97,100,100,32,114,54,44,32,114,54,44,32,114,50,10,115,119,32,114,53,44,32,48,40,114,54,41,10,97,100,100,105,32,114,51,44,32,114,51,44,32,49,10,98,108,116,32,114,51,44,32,114,52,44,32,109,97,112,10,108,105,32,114,49,44,32,54,10,111,117,116,32,114,49,44,32,55,10,108,105,32,114,49,44,32,50,10,111,117,116,32,114,49,44,32,57,10,108,105,32,114,49,44,32,49,48,48,10,111,117,116,32,114,49,44,32,51,10,108,105,32,114,49,44,32,54,52,48,10,99,115,114,119,32,114,49,44,32,50,10,108,105,32,114,49,44,32,50,49,10,99,115,114,119,32,114,49,44,32,48,10,101,114,101,116,10,104,97,110,100,108,101,114,58,32,99,115,114,119,32,114,49,44,32,53,10,99,115,114,114,32,114,49,44,32,51,10,115,108,116,105,32,114,49,44,32,114,49,44,32,49,54,10,98,101,113,32,114,49,44,32,114,48,44,32,105,114,113,10,99,115,114,114,32,114,49,44,32,50,10,97,100,100,105,32,114,49,44,32,114,49,44,32,52,10,99,115,114,119,32,114,49,44,32,50,10,105,110,32,114,51,44,32,50,10,111,117,116,32,114,51,44,32,48,10,108,105,32,114,49,44,32,49,10,111,117,116,32,114,49,44,32,52,10,108,105,32,114,49,44,32,55,10,111,117,116,32,114,49,44,32,53,10,97,110,100,105,32,114,49,44,32,114,50,44,32,49,10,97,100,100,105,32,114,49,44,32,114,49,44,32,49,10,111,117,116,32,114,49,44,32,54,10,99,115,114,114,32,114,49,44,32,53,10,101,114,101,116,10,105,114,113,58,32,105,110,32,114,49,44,32,48,10,111,117,116,32,114,49,44,32,48,10,111,117,116,32,114,48,44,32,54,10,111,117,116,32,114,48,44,32,57,10,108,105,32,114,49,44,32,54,10,111,117,116,32,114,49,44,32,55,10,108,105,32,114,49,44,32,50,10,111,117,116,32,114,49,44,32,57,10,105,110,32,114,49,44,32,50,10,97,100,100,105,32,114,49,44,32,114,49,44,32,50,48,10,111,117,116,32,114,49,44,32,51,10,105,110,32,114,49,44,32,49,48,10,111,117,116,32,114,49,44,32,49,48,10,99,115,114,114,32,114,49,44,32,53,10,101,114,101,116,10]
def srcE:List UInt8 :=
 [108,111,111,112,58,32,105,110,32,114,49,44,32,49,10,98,101,113,32,114,49,44,32,114,48,44,32,108,111,111,112,10,105,110,32,114,50,44,32,48,10,111,117,116,32,114,50,44,32,48,10,106,97,108,32,114,48,44,32,108,111,111,112,10]
end Go.Proofs.YtnmpfmapncicmaaGreat
namespace Go.Proofs.YtnmpfmapncicmaaGreat
set_option linter.all false
set_option maxRecDepth 100000
set_option maxHeartbeats 40000000
open Go.RowKit
theorem BI (l:List UInt8):(bsL l).size=l.length:=by unfold bsL;exact List.size_toArray ..
theorem bsL_extract (l:List UInt8) (a b:Nat):(bsL l).extract a b=bsL (Cs l a b):=by
 apply ByteArray.ext
 rw[ByteArray.data_extract]
 unfold bsL Cs
 simp
theorem bsL_toList (l:List UInt8):(bsL l).toList=l:=by unfold bsL;exact ByteArray.toList_mk l
theorem bsL_at (l:List UInt8) (i:Nat):(bsL l)[i]?=l[i]?:=by
 by_cases h:i<l.length
 · rw[ByteArray.getElem?_lt' _ _ (by rw[BI];exact h),List.getElem?_eq_getElem h];rfl
 · rw[ByteArray.getElem?_ge' _ _ (by rw[BI];omega),List.getElem?_eq_none (by omega)]
theorem bsL_app (a b:List UInt8):bsL a++bsL b=bsL (a++b):=by
 apply ByteArray.ext
 rw[ByteArray.data_append]
 unfold bsL
 simp
section
variable {P:Program} {ops:Array Oper} {rest:List Oper} {op:Oper} {a:Act} {w:World} {Q:Exit→Act→World→Prop} {ty ty':TypeId} {x y z:Operand} {u:Value}
theorem Ad (hgd:op.guard=none) (hr:(execOp a.eval op).run P w=.ok (.value u) w) (h:wpList P ops Q rest (a.put op.dst u) w):wpList P ops Q (op :: rest) a w:=by
 refine wpList_plain hgd fun _ hK=>?_
 unfold Oper.wp
 rw[hr]
 exact hK _ _ h
theorem A1 (hw:Region.wanted op (yielded ops a.tmps)=true) (hr:(execOp a.eval op).run P w=.ok (.value u) w) (h:wpList P ops Q rest (a.put op.dst u) w):wpList P ops Q (op :: rest) a w :=
 wpList_step fun K hK=>by
  rw[if_pos hw]
  unfold Oper.wp
  rw[hr]
  exact hK _ _ h
theorem Ax {l:List UInt8} {j:Nat} {c:UInt8} (ho:op.op=.index ty x y) (hx:a.eval x=.string (bsL l)) (hy:a.eval y=.int .i64 (j:Int)) (hu:P.underlying ty=some .string) (hc:l[j]?=some c) :
    (execOp a.eval op).run P w=.ok (.value (.int .u8 c.toNat)) w:=by
 have hr:(Instr.index ty (.string (bsL l)) (.int .i64 (j:Int))).run P w=.ok (.int .u8 c.toNat) w:=by
  have h3:(if (0:Int)≤(j:Int) then (bsL l)[((j:Int)).toNat]? else none)=some c:=by rw[if_pos (by omega),Int.toNat_natCast,bsL_at,hc]
  simp [Instr.index,asIntOf,run_underlying hu,bsL_at,hc]
 unfold execOp
 simp only[ho,hx,hy,Sem.run_bind,hr,Result.andThen_ok,Sem.run_pure]
theorem CZ {l m:List UInt8} {i j:Nat} (ho:op.op=.slice ty x (some y) (some z) none) (hx:a.eval x=.string (bsL l)) (hy:a.eval y=.int .i64 (i:Int)) (hz:a.eval z=.int .i64 (j:Int)) (hu:P.underlying ty=some .string)
    (h1:i≤j) (h2:j≤l.length) (hm:Cs l i j=m):(execOp a.eval op).run P w=.ok (.value (.string (bsL m))) w:=by
 subst hm
 have hr:=run_slice_string (P:=P) w ty (bsL l) .i64 .i64 (i:Int) (j:Int) hu (by omega) (by omega) (by rw[BI];omega)
 rw[Int.toNat_natCast,Int.toNat_natCast,bsL_extract] at hr
 have hr2:(Instr.sliceAt ty (.string (bsL l)) (some (.int .i64 (i:Int))) (some (.int .i64 (j:Int))) none).run P w=.ok (.string (bsL (Cs l i j))) w:=by rw[run_sliceAt_string w ty _ _ _ _ hu];exact hr
 unfold execOp
 simp only[ho,hx,hy,hz,Option.map,Sem.run_bind,hr2,Result.andThen_ok,Sem.run_pure]
theorem Aj {A B:List UInt8} {r:Bool} (ho:op.op=.binOp .eql ty x y ty') (hx:a.eval x=.string (bsL A)) (hy:a.eval y=.string (bsL B)) (hr:(A == B)=r):(execOp a.eval op).run P w=.ok (.value (.bool r)) w:=by
 subst hr
 unfold execOp
 simp only[ho,hx,hy,eqGuard_at_string,binOp_string_eql,bsL_toList,Sem.run_bind,Sem.run_pure,Result.andThen_ok]
theorem Ex {A B:List UInt8} {r:Bool} (ho:op.op=.binOp .neq ty x y ty') (hx:a.eval x=.string (bsL A)) (hy:a.eval y=.string (bsL B)) (hr:(A != B)=r):(execOp a.eval op).run P w=.ok (.value (.bool r)) w:=by
 subst hr
 unfold execOp
 simp only[ho,hx,hy,eqGuard_at_string,binOp_string_neq,bsL_toList,bne,Sem.run_bind,Sem.run_pure,Result.andThen_ok]
end
end Go.Proofs.YtnmpfmapncicmaaGreat
namespace Go.Proofs.YtnmpfmapncicmaaGreat
set_option linter.all false
set_option maxRecDepth 100000
set_option maxHeartbeats 40000000
open Go.ChangeShapes Go.WideShapes Go.ChangeAt Go.RowKit Go.Joins Go.Deep
theorem Tryz.own:ownKnob Tryz.prog.godebug=none:=by kernel_rfl
theorem Tryz.laidOut:laidOutB Tryz.prog=true:=by kernel_rfl
theorem G0 {H:Type} {enc:TypeId×Value→H} {P:Program} (hl:laidOutB P=true) {W W':World} (hb:Below W.heap.size W W'):∀ (ts:List TypeId) (vs:List Value) (ds:List (DataW H)) (ps:List MemPlace),
    (∀ t∈ts,P.readableRec t=true∧t<P.types.size)→DataW.TrodAll enc P W 0 (fun _=>true) true ts vs ds ps→(∀ x∈ps,x.block<W.heap.size) →
    DataW.TrodAll enc P W' 0 (fun b=>decide (b<W.heap.size)) true ts vs ds ps
 | [],vs,ds,ps,_,h,_=>by
   obtain⟨rfl,rfl,rfl⟩:=trodAll_nil h
   exact trodAll_mk0
 | t :: ts,vs,ds,ps,hr,h,hlt=>by
   obtain⟨v,vs',d,ds',p,q,rfl,rfl,rfl,h0,h1⟩:=trodAll_cons h
   have:=hr t (List.mem_cons_self ..)
   exact trodAll_cons_mk (Below.trod hl this.1 this.2 h0 hb (fun x hx=>hlt x (List.mem_append_left _ hx)))
    (G0 hl hb ts vs' ds' q (fun u hu=>hr u (List.mem_cons_of_mem _ hu)) h1 (fun x hx=>hlt x (List.mem_append_right _ hx)))
theorem law_post {H:Type} {enc:TypeId×Value→H} {f:Func} {s:ChangeSpec} {W W':World} {args:Array Value} {ds gs:List (DataW H)} {before:List MemPlace}
    (hv:s.vars=[]) (hW:DataW.Whole enc Tryz.prog f.params.toList s.vars false W args.toList ds gs before) (hb:Below W.heap.size W W')
    (hr:∀ t∈f.params.toList,Tryz.prog.readableRec t=true∧t<Tryz.prog.types.size) (tb:TypeId) (hres:f.resultTypes=#[tb]) (hub:Tryz.prog.underlying tb=some .bool)
    (hfn:gs=[]→s.fn H ds={ results:=[.lit (.bool true)],args:=ds }):s.post enc Tryz.prog f false true false false W args (.bool true) W':=by
 have hW0:=hW
 obtain⟨p,q,hA,hV,rfl,hfz,hnd⟩:=hW
 rw[hv] at hV
 obtain⟨rfl,rfl⟩:=trodVars_none hV
 have hf:=hfn rfl
 have hlt:∀ x∈p,x.block<W.heap.size:=fun x hx=>hW0.lt x (List.mem_append_left _ hx)
 have e:s.fn H (ds++[])={ results:=[.lit (.bool true)],args:=ds }:=by rw[List.append_nil];exact hf
 refine ⟨ds,[],p++[],[],p,[],hW0,?_,?_,?_,hb.frame _,fun h=>by cases h⟩
 · rw[e,hres]
   exact trodAll_mk1 (shut_bool hub true)
 · rw[e]
   exact G0 Tryz.laidOut hb _ _ _ _ hr hA hlt
 · rw[e,hv]
   rfl
section
variable {H:Type} {enc:TypeId×Value→H} {P:Program} {w:World} {base:Nat} {spare:Nat→Bool} {held:Bool}
end
end Go.Proofs.YtnmpfmapncicmaaGreat
