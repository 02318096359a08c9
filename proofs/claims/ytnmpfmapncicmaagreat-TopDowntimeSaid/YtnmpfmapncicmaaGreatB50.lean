/-
  Texts joined: TpUd TpPg TpPi TpPj TpUe TpPk TpPl. No law is proved here.
-/
import Derived.Test.YtnmpfmapncicmaaGreatB46
import Derived.Test.YtnmpfmapncicmaaGreatB49
namespace Go.Proofs.YtnmpfmapncicmaaGreat
set_option linter.all false
set_option maxRecDepth 100000
set_option maxHeartbeats 40000000
open Go.RowKit
theorem encI_bd {i:In} (hv:FM i=true):0≤Dr i∧Dr i<4294967296:=by
 have hq:=of_decide_eq_true hv
 obtain⟨f0,ra,rb,rc,m0,m1,c0,a0,b0⟩:=hq
 have ra:=of_decide_eq_true ra
 have rb:=of_decide_eq_true rb
 have rc:=of_decide_eq_true rc
 have hop:1≤i.op∧i.op≤64:=by
  unfold A2 at f0
  repeat' split at f0
  all_goals omega
 have hz:i.imm % 65536=0∨i.c=0:=by
  exact Xz115
 unfold Dr
 omega
theorem encode_all (i:In) (w:World) (h0 : -2147483648≤i.imm) (h1:i.imm≤2147483647):Calls Tryz.prog 110 #[.agg (inL i).toArray] w (fun e w'=>∃ (x:Int) (b:Bool),e=.returned (.tuple #[.int .u32 x,.bool b])∧0≤x∧x<4294967296∧Below w.heap.size w w'):=by
 by_cases hv:FM i=true
 · have hb:=encI_bd hv
   refine (CH i w hv).mono ?_
   rintro e w' ⟨rfl,hbw⟩
   exact⟨_,_,rfl,hb.1,hb.2,hbw⟩
 · have HV:=lh (fun w=>Eu (w:=w) (i:=i) h0 h1)
   rw[Bool.eq_false_iff.2 hv] at HV
   clear hv h0 h1
   have L:=Lay.start w
   go_in
   go_wp2_with (first|(refine YL ?_)|(refine YS ?_;clear L;intro wz L))
   go_ret2
   exact⟨_,_,rfl,by decide,by decide,L.bel⟩
def iL (x:Int):List Value:=[.int .i64 x]
theorem iL_len (x:Int):(iL x).length=1:=rfl
theorem G7 (acc:List Int) (x:Int):words (acc++[x])=words acc++[.int .u32 x]:=by unfold words;rw[List.map_append];rfl
theorem one_u32' (x:Int):∀ u∈[Value.int .u32 x],u.oneCell'=true:=fun u hu=>by rw[List.mem_singleton.1 hu];rfl
theorem code_any (xs:List Int) (va:Value) (w:World) (ha:RdS iL 1 w va xs) (hl:xs.length≤40) (hx:∀ x∈xs,-9223372036854775808≤x∧x≤9223372036854775807) :
    Calls Tryz.prog 54 #[va] w (fun e w'=>∃ (v:Value) (ws:List Int),e=.returned v∧ws.length=xs.length∧Words ws∧w'.ownsRow w.heap.size 25 1 v ws.length (words ws)∧Below w.heap.size w w'):=by
 obtain⟨i0,hi,iz0,iz1,iz2⟩:=info_parts Eg
 obtain⟨ao,cap,rfl,hcap,hmax,ha⟩:=ha.open
 unfold maxLen at hmax
 have HA:=lh ha
 have HX:=lh hx
 obtain⟨n,hn⟩:∃ n,xs.length=n:=⟨_,rfl⟩
 have HN:=lh hn
 rw[hn] at hcap HA hl ⊢
 clear ha hx hn
 go_in
 go_wp2_with fail
 go_loopw [3,4,5,6] (fun vo i _ _ wr=>∃ (q:Nat) (acc:List Int),q≤n∧i=.int .i64 q∧acc.length=q∧(∀ x∈acc,0≤x∧x<4294967296)∧wr.ownsRow w.heap.size 25 1 vo acc.length (words acc)∧Below w.heap.size w wr) (fun _ i _ _ _=>n - (intOf i).toNat)
 case atStart=>exact⟨0,[],Nat.zero_le _,rfl,rfl,fun x hx=>(by cases hx),World.ownsRow_nil _ _ _ _,Below.refl _ _⟩
 case round =>
  obtain⟨q,acc,hq,rfl,hac,hbd,hown,hbw⟩:=hrel
  have HO:=lh hown
  have HBD:=lh hbd
  have HAC:=lh hac
  have hac2:acc.length≤40:=by omega
  clear hown hbd hac
  by_cases hlt:q<n
  · obtain⟨x,hx⟩:=A6 (xs:=xs) (k:=q) (by rw[HN.out];exact hlt)
    have hxb:=HX.out x (List.mem_of_getElem? hx)
    have hx0:=hxb.1
    have hx1:=hxb.2
    obtain⟨hxx,b,off,rfl,hbl,_,_,hcell⟩:=HA.out.at (by omega)
    have HC:=lh (show w.cell? ⟨b,off+q,none⟩=some (.int .i64 x) by have:=hcell q x hx 0 _ rfl;simpa using this)
    have HCw:=lh ((hbw.cell (p:=⟨b,off+q,none⟩) hbl).trans HC.out)
    clear hxx hcell hx hxb
    have L:=Lay.start wr
    by_cases h17:x.tmod 17=0
    · have h17b:(x.tmod 17 == 0)=true:=by rw[h17];rfl
      have hmask:0≤IntKind.u32.wrap (bits .and .i64 x 4294967295)∧IntKind.u32.wrap (bits .and .i64 x 4294967295)<4294967296:=by rw[IntKind.wrap_u32];omega
      rw[IntKind.wrap_u32] at hmask
      have HMASK:=lh hmask
      clear h17 hmask
      go_wp2_with (first|(refine Ad rfl (Au (ty:=3) (u:=.int .i64 x) rfl rfl τ3 rfl HCw.out) ?_)|(at_builtin;refine wpList_append_own _ rfl (.tmp 19) (.tmp 26) 30 rfl w.heap.size 25 i0 (.int .u32 0) 1 4 τ30 hi iz0 iz1 iz2 rfl (by decide) _ acc.length (words acc) rfl (World.ownsRow.alloc (Af HO.out (Below.refl wr.heap.size wr)) _) ⟨(wr).heap.size,0,none⟩ 1 1 [.int .u32 (bits .and .i64 x 4294967295 % 4294967296)] rfl rfl (A8 _ [.int .u32 (bits .and .i64 x 4294967295 % 4294967296)] _ _ rfl) (one_u32' _) (by unfold maxLen;omega) (by omega) (by rw[World.size_alloc];have:=((Below.refl wr.heap.size wr)).size;have:=hbw.size;omega) ?_;intro v3 w3 hown3 hgrow3 _;have hb3:=A4 ((hbw.trans (((Below.refl wr.heap.size wr)).mono hbw.size)).alloc (by have:=((Below.refl wr.heap.size wr)).size;have:=hbw.size;omega) _) (World.ownsRow.alloc (Af HO.out (Below.refl wr.heap.size wr)) _) hgrow3))
      go_roundw
      case rel=>exact⟨q+1,acc++[bits .and .i64 x 4294967295 % 4294967296],by omega,by go_num,by rw[List.length_append,HAC.out];rfl,fun z hz=>(by
       rcases List.mem_append.1 hz with hz|hz
       · exact HBD.out z hz
       · rw[List.mem_singleton.1 hz];exact HMASK.out),by rw[G7,List.length_append];exact hown3,hb3⟩
      case measure=>simp [intOf];omega
    · have h17b:(x.tmod 17 == 0)=false:=by rw[beq_eq_false_iff_ne];exact h17
      clear h17
      go_upto_region 7 with (refine Ad rfl (Au (ty:=3) (u:=.int .i64 x) rfl rfl τ3 rfl HCw.out) ?_)
      go_wp2_with (first|(refine Ad rfl (Au (ty:=3) (u:=.int .i64 x) rfl rfl τ3 rfl ((L.bel.cell (p:=⟨b,off+q,none⟩) (Nat.lt_of_lt_of_le hbl hbw.size)).trans HCw.out)) ?_)|(go_at_call 112;(with_reducible refine (inst_any' x _).mono ?_);rintro e wz ⟨ii,rfl,hi0,hi1,hbz⟩;replace L:=L.below hbz;clear hbz)|(go_at_call 110;(with_reducible refine (encode_all ii _ hi0 hi1).mono ?_);rintro e wz ⟨y,bb,rfl,hy0,hy1,hbz⟩;replace L:=L.below hbz;clear hbz)|(at_builtin;refine wpList_append_own _ rfl (.tmp 37) (.tmp 39) 30 rfl w.heap.size 25 i0 (.int .u32 0) 1 4 τ30 hi iz0 iz1 iz2 rfl (by decide) _ acc.length (words acc) rfl (World.ownsRow.alloc (Af HO.out L.bel) _) ⟨(wz).heap.size,0,none⟩ 1 1 [.int .u32 (y)] rfl rfl (A8 _ [.int .u32 (y)] _ _ rfl) (one_u32' _) (by unfold maxLen;omega) (by omega) (by rw[World.size_alloc];have:=(L.bel).size;have:=hbw.size;omega) ?_;intro v3 w3 hown3 hgrow3 _;have hb3:=A4 ((hbw.trans ((L.bel).mono hbw.size)).alloc (by have:=(L.bel).size;have:=hbw.size;omega) _) (World.ownsRow.alloc (Af HO.out L.bel) _) hgrow3))
      go_roundw
      case rel=>exact⟨q+1,acc++[y],by omega,by go_num,by rw[List.length_append,HAC.out];rfl,fun z hz=>(by
       rcases List.mem_append.1 hz with hz|hz
       · exact HBD.out z hz
       · rw[List.mem_singleton.1 hz];exact⟨hy0,hy1⟩),by rw[G7,List.length_append];exact hown3,hb3⟩
      case measure=>simp [intOf];omega
  · obtain rfl:q=n:=by omega
    clear hlt
    go_wp2_with fail
    go_ret
    exact⟨_,acc,rfl,HAC.out,CS HBD.out,HO.out,hbw⟩
theorem RowBx.set {n cap:Nat} {cur xs:List Value} {q:Nat} {u:Value} (R:RowBx n cap 1 cur xs):RowBx n cap 1 (cur.set q u) (xs.set q u) :=
 ⟨R.le,R.max,by rw[List.length_set];exact R.len,by rw[←R.cut,List.take_set],by rw[List.length_set];exact R.own⟩
theorem note_take (d:List Bool) (fs:List Int) {k:Nat} {f:Int} (h:fs[k]?=some f):DX d (fs.take (k+1))=(DX d (fs.take k)).set f.toNat true:=by
 have e:fs.take (k+1)=fs.take k++[f]:=by
  rw[List.take_add_one,h];rfl
 unfold DX
 rw[e,List.foldl_append];rfl
theorem pnote_any (va vf:Value) (d:List Bool) (r s:Int) (fs:List Int) (w:World) (ha:RdS bL 1 w va d) (hf:RdS iL 1 w vf fs) (h0:1≤d.length) (h1:d.length≤32) (hfl:fs.length≤1000) (hfs:∀ f∈fs,0≤f∧f<d.length) :
    Calls Tryz.prog 17 #[.agg (pcL va r s).toArray,vf] w (fun e w'=>∃ v,e=.returned (.agg (pcL v r s).toArray)∧w'.ownsRow w.heap.size 4 1 v d.length ((DX d fs).flatMap bL)∧Below w.heap.size w w'):=by
 obtain⟨ao,cap,rfl,hcap,hmax,ha⟩:=ha.open
 obtain⟨af,capf,rfl,hcapf,hmaxf,hf⟩:=hf.open
 unfold maxLen at hmax hmaxf
 have HC:=lh (fun w h=>pclone_any (.slice ao d.length cap) d r s w h h1)
 have HA:=lh ha
 have HF:=lh hf
 have HFS:=lh hfs
 obtain⟨n,hn⟩:∃ n,fs.length=n:=⟨_,rfl⟩
 obtain⟨m,hm⟩:∃ m,d.length=m:=⟨_,rfl⟩
 have HN:=lh hn
 have HM:=lh hm
 rw[hn] at hcapf HF hfl ⊢
 rw[hm] at hcap HA HC HFS h0 h1 ⊢
 clear ha hf hfs hn hm
 have L:=Lay.start w
 go_in
 go_wp2_with (first|(go_at_call 41;(with_reducible refine (HC.out _ (HA.out.below L.bel)).mono ?_);rintro e wz ⟨v1,rfl,ho1,hb1⟩;obtain⟨g,capg,curg,rfl,R,L'⟩:=L.row ho1 (by omega) hb1;replace L:=L';clear L' ho1 hb1)|(refine YL ?_)|(refine YS ?_;clear L;intro wz L))
 obtain⟨B4,hb4⟩:=L.snd
 dsimp only at hb4
 rw[hb4] at L ⊢
 clear hb4
 have L1:=lh L
 have R1:=lh R
 clear L R HC HA
 go_loopw [6,11] (fun _ i wr=>∃ (k:Nat) (cur:List Value),k≤n∧i=.int .i64 k∧RowBx m capg 1 cur ((DX d (fs.take k)).flatMap bL)∧Lay w wr [⟨g,cur,4⟩,⟨B4,pcL (.slice none 0 0) 0 0,48⟩,⟨w.heap.size,pcL (.slice (some ⟨g,0,none⟩) m capg) r s,48⟩]) (fun _ i _=>n - (intOf i).toNat)
 case atStart=>exact⟨0,curg,Nat.zero_le _,rfl,R1.out,L1.out⟩
 case round =>
  obtain⟨k,cur,hk,rfl,R,L⟩:=hrel
  have hcap2:=R.le
  have hcm:=R.max
  have hcl:=R.len
  unfold maxLen at hcm
  by_cases hlt:k<n
  · obtain⟨f,hfk⟩:=A6 (xs:=fs) (k:=k) (by rw[HN.out];exact hlt)
    have hfb:=HFS.out f (List.mem_of_getElem? hfk)
    obtain⟨q,rfl⟩:∃ q:Nat,f=q:=⟨f.toNat,by omega⟩
    have hq:q<m:=by omega
    obtain⟨hxx,b,off,rfl,hbl,_,_,hcell⟩:=HF.out.at (by omega)
    have HX:=lh (fun (w':World) (hb:Below w.heap.size w w')=>(hb.cell (p:=⟨b,off+k,none⟩) hbl).trans (show _=some (Value.int .i64 (q:Int)) by simpa using hcell k _ hfk 0 _ rfl))
    have HB:=lh (show Nat.blt q cur.length=true from blt_of (by rw[hcl];omega))
    have HRN:Hid (RowBx m capg 1 (cur.set q (.bool true)) ((DX d (fs.take (k+1))).flatMap bL)):=lh (by
     rw[note_take d fs hfk,←flat_set,Int.toNat_natCast];exact R.set)
    have t1:decide ((0:Int)≤(q:Int))=true:=decide_eq_true (by omega)
    have t2:decide ((q:Int)<(m:Int))=true:=decide_eq_true (by omega)
    have t2n:decide (q<m)=true:=decide_eq_true hq
    have R2:=lh R
    clear hxx hcell hfk hfb R
    go_wp2_with (first|(refine Ad rfl (Au (ty:=3) (u:=.int .i64 (q:Int)) rfl rfl τ3 rfl (HX.out _ L.bel)) ?_)|(refine Aq (ty:=4) (u:=.bool true) L 0 rfl (cur.set q (.bool true)) rfl rfl rfl rfl Fk rfl HB.out rfl ?_;intro wz Lz Nz;clear Nz;replace L:=Lz;clear Lz;simp only[List.set_cons_zero] at L)|(refine YL ?_))
    go_roundw
    case rel=>exact⟨k+1,_,by omega,by go_num,HRN.out,L⟩
    case measure=>simp [intOf];omega
  · obtain rfl:k=n:=by omega
    have hall:(DX d (fs.take k)).flatMap bL=(DX d fs).flatMap bL:=by rw[List.take_of_length_le (by rw[HN.out];exact nlr _)]
    rw[hall] at R
    have R2:=lh R
    clear hlt hall R
    go_wp2_with (first|(refine YL ?_)|(refine YS ?_;clear L;intro wz L))
    exact Yr1 ⟨_,rfl,R2.out.owns L (k:=0) rfl,L.bel⟩
end Go.Proofs.YtnmpfmapncicmaaGreat
namespace Go.Proofs.YtnmpfmapncicmaaGreat
set_option linter.all false
set_option maxRecDepth 100000
set_option maxHeartbeats 40000000
open Go.RowKit Go.Shelf
attribute [local go_sem] Oper.semAt_some
section
variable {P:Program} {w0 w w':World} {l:List Bx} {ops:Array Oper} {rest:List Oper} {op:Oper} {a:Act} {Q:Exit→Act→World→Prop} {x y:Operand} {ty:TypeId}
theorem lay_box1 (L:Lay w0 w l) (u:Value) (hgd:op.guard=none) (ho:op.op=.box ty x) (hx:a.eval x=u) (hc:u.cells=#[u])
    (h:∀ w',Lay w0 w' (⟨w.heap.size,[u],ty⟩ :: l)→NewBox w [u] ty w'→wpList P ops Q rest (a.put op.dst (.pointer (some ⟨w.heap.size,0,none⟩))) w'):wpList P ops Q (op :: rest) a w :=
 make_box [u] _ hgd ho hx (by rw[hc]) (fun w' hN=>h w' (L.new hN) hN)
theorem lay_make2 (L:Lay w0 w l) (t e:TypeId) (z:Value) (bytes n:Nat) (hgd:op.guard=none) (ho:op.op=.makeSlice t x y) (hx:a.eval x=.int .i64 (n:Int)) (hy:a.eval y=.int .i64 (n:Int))
    (ht:P.underlying t=some (.slice e)) (hinfo:(P.info? e).map (fun i=>(i.zero,i.size,i.bytes))=some (some z,1,bytes)) (hz:z.cells=#[z]) (hb:bytes*n≤281474976710656) (hn:n≤9223372036854775807)
    (h:∀ (g:Nat) (w':World),Lay w0 w' (⟨g,List.replicate n z,e⟩ :: l)→Below w.heap.size w w'→wpList P ops Q rest (a.put op.dst (.slice (some ⟨g,0,none⟩) n n)) w'):wpList P ops Q (op :: rest) a w :=
 op_made hgd (by unfold execOp;simp only[ho,hx,hy,Sem.run_bind,Dh t e z bytes ht hinfo hz n hb hn w];rfl) (h _ _ (L.new (NewBox.made w (List.replicate n z) e)) (NewBox.made w (List.replicate n z) e).bel)
end
theorem keeps_below {w w':World} (h:Below w.heap.size w w'):KeepsOthers w w':=⟨h.size,fun k _ hk _=>(h.block k (Array.getElem?_eq_some_iff.1 hk).1).trans hk⟩
theorem Lay.trd {w0 w:World} {x y z:Bx} {l:List Bx} (_L:Lay w0 w (x :: y :: z :: l)):∃ b,z.b=b:=⟨_,rfl⟩
theorem Lay.cons {w0 w:World} {l:List Bx} {B:Nat} {cs:List Value} {T:TypeId} (L:Lay w0 w l) (h:HasBlock w B cs.toArray T) (h0:w0.heap.size≤B) (hB:∀ x∈l,x.b<B):Lay w0 w (⟨B,cs,T⟩ :: l):=by
 refine ⟨L.bel,fun x hx=>?_,List.Pairwise.cons (fun b hb=>?_) L.dif⟩
 · rcases List.mem_cons.1 hx with rfl|hx
   · exact⟨h,h0⟩
   · exact L.has x hx
 · obtain⟨x,hx,rfl⟩:=List.mem_map.1 hb
   exact hB x hx
theorem Lay.putObj {w0 w:World} {l:List Bx} {D:Nat} {o:Obj} (L:Lay w0 w l) (o':Obj) (hK:w.heap[D]?=some o) (ho:o.isCells=false) (h0:w0.heap.size≤D):Lay w0 (w.putObj D o') l:=by
 refine ⟨L.bel.grown (grownBy_putObj' w D o') L.bel.size (fun k e=>by cases e;exact h0),fun x hx=>?_,L.dif⟩
 obtain⟨h1,h2⟩:=L.has x hx
 refine ⟨(World.putObj_heap_other (fun e=>?_)).trans h1,h2⟩
 subst e
 unfold HasBlock at h1
 rw[h1] at hK
 cases hK
 cases ho
def noPanic (Q:Exit→Act→World→Prop):Exit→Act→World→Prop
 | .panic _,_,_=>False
 | e,a,w=>Q e a w
theorem noPanic_out {Q:Exit→Act→World→Prop}:∀ (e:Exit) (a:Act) (w:World),noPanic Q e a w→Q e a w
 | .panic _,_,_,h=>h.elim
 | .normal,_,_,h=>h
 | .ret,_,_,h=>h
 | .exit _,_,_,h=>h
 | .goto _,_,_,h=>h
 | .outgrown,_,_,h=>h
theorem noPanic_normal {Q:Exit→Act→World→Prop} {a:Act} {w:World} (h:Q .normal a w):noPanic Q .normal a w:=h
theorem flat_false (m:Nat):(List.replicate m false).flatMap bL=List.replicate m (.bool false):=by
 have:=upT_zero m
 unfold upT at this
 simpa using this
def cpC (xs:List Int) (f:Int):List Value:=[.int .i64 f,.string (Bh xs f)]
def Car (B D:Nat) (v:Value) (n:Nat) (cs:List Value) (W:World):Prop:=W.heap[D]?=some (.deferred (some []))∧W.ownsRow B 124 2 v n cs
theorem Car.but {B D C n:Nat} {v:Value} {cs:List Value} {ds:Array Value} {T:TypeId} {W W':World} (h:Car B D v n cs W) (hC:HasBlock W C ds T) (hT:T≠124) (hn:But C W W'):Car B D v n cs W' :=
 ⟨(hn.heap D (fun e=>by subst e;have:=h.1;rw[hC] at this;cases this)).trans h.1,Ai h.2 hC hT hn⟩
theorem Car.bel {B D n:Nat} {v:Value} {cs:List Value} {W W':World} (h:Car B D v n cs W) (hb:Below W.heap.size W W'):Car B D v n cs W' :=
 ⟨(hb.block D (Array.getElem?_eq_some_iff.1 h.1).1).trans h.1,Af h.2 hb⟩
theorem CP {w:World} {base:Nat} {e:TypeId} {size n:Nat} {v:Value} {xs:List Value} (h:w.ownsRow base e size v n xs):∃ (o:Option Addr) (cap:Nat),v=.slice o n cap:=by
 rcases h.2 with ⟨rfl,h0⟩|⟨g,cap,cur,rfl,_,_,hn,hm,_⟩
 · subst h0
   exact⟨none,0,rfl⟩
 · exact⟨_,cap,rfl⟩
theorem cpC_one (xs:List Int) (f:Int):∀ u∈cpC xs f,u.oneCell'=true:=by
 intro u hu
 simp only[cpC,List.mem_cons,List.not_mem_nil,or_false] at hu
 rcases hu with rfl|rfl <;> rfl
theorem finI_app {n:Nat} (xs:List (Fin n)) (x:Fin n):Fh (xs++[x])=Fh xs++[((x.val:Nat):Int)]:=by unfold Fh;simp
theorem copy_info:(Tryz.prog.info? 124).map (fun i=>(i.zero,i.size,i.bytes))=some (some (.agg #[.int .i64 0,.string ⟨#[]⟩]),2,24):=by kernel_rfl
theorem pround_any (va vm:Value) (d:List Bool) (r s:Int) (xs:List Int) (w:World) (ha:RdS bL 1 w va d) (hm:MemRow w vm xs) (hw:Words xs) (hlen:xs.length=d.length*32) (h0:1≤d.length) (h1:d.length≤32)
    (r0:0≤r) (r1:r≤10) (s0:0≤s) (s1:s≤352) :
    Calls Tryz.prog 13 #[.agg (pcL va r s).toArray,vm] w (fun e w'=>∃ v u,e=.returned (.tuple #[.agg (pcL v (r+1) (s+(Cx d d.length).length)).toArray,u])∧w'.ownsRow w.heap.size 4 1 v d.length ((List.replicate d.length false).flatMap bL) ∧
     w'.ownsRow w.heap.size 124 2 u (Cx d d.length).length ((Cx d d.length).flatMap (cpC xs))∧Below w.heap.size w w'):=by
 obtain⟨ao,cap,rfl,hcap,hmax,ha⟩:=ha.open
 have hro:=hm
 obtain⟨bm,om,cm,rfl,m1,m2,m3,m4,_⟩:=hm
 unfold maxLen at hmax
 have HP:=lh (fun w=>CF (some ⟨bm,om,none⟩) xs.length cm w (by omega))
 rw[show AO xs.length=d.length by unfold AO;rw[if_pos ⟨by omega,by omega⟩];omega] at HP
 have HC:=lh (fun w h=>pclone_any (.slice ao d.length cap) d r s w h h1)
 have HA:=lh ha
 have HS:=lh (fun ao m cap w=>set_any ao m cap w)
 obtain⟨q,hq⟩:∃ q,xs.length=q:=⟨_,rfl⟩
 have HQ:=lh hq
 have HLEN:=lh hlen
 have HPG:=lh (fun (p:Nat) (W:World) (h:MemRow W (.slice (some ⟨bm,om,none⟩) xs.length cm) xs) (hp:p<AO xs.length)=>Gm _ xs p W h hw hp)
 have HRO:=lh hro
 obtain⟨m,hm⟩:∃ m,d.length=m:=⟨_,rfl⟩
 have HM:=lh hm
 rw[hq] at HPG HRO HP ⊢
 rw[hm] at hcap HA HC HP h0 h1 ⊢
 obtain⟨cnt,hcnt⟩:∃ c,(Cx d m).length=c:=⟨_,rfl⟩
 have hcl:cnt≤32:=by have:=J9 d m;omega
 have HCN:=lh hcnt
 rw[hcnt]
 clear hcnt
 have HV:=lh (fun (g capg:Nat) w=>pvalid_any (some ⟨g,0,none⟩) m capg r s w h0 h1 r0 (by omega) s0 s1)
 have c1:decide ((10:Int)<r)=false:=decide_eq_false (by omega)
 have wr1:wrap64 (r+1)=r+1:=by unfold wrap64;omega
 have wr2:wrap64 (s+(cnt:Int))=s+(cnt:Int):=by unfold wrap64;omega
 clear ha hm hq hw hro hlen m1 m2 m3 r0 s0 s1
 refine (callsIn_wide (n:=3)).1 ?_
 refine callsIn_of_wp_marks Tryz.func13 rfl trivial ?_ rfl
 refine wpIn_wide.2 ?_
 simp only[Tryz.ntmps13,List.size_toArray,List.length_cons,List.length_nil,Nat.reduceAdd,Nat.reduceSub,Array.replicate_succ,Array.replicate_zero,List.push_toArray,List.append_toArray,List.nil_append,List.cons_append]
 have L:=Lay.start w
 go_wp2_with (first|(refine lay_box1 (ty:=30) L (.slice (some ⟨bm,om,none⟩) q cm) rfl rfl rfl rfl ?_;intro wz Lz Nz;clear Nz;replace L:=Lz;clear Lz;(try simp only[s0,s1] at L))|(go_at_call 41;(with_reducible refine (HC.out _ (HA.out.below L.bel)).mono ?_);rintro e wz ⟨v1,rfl,ho1,hb1⟩;obtain⟨g,capg,curg,rfl,R,L'⟩:=L.row ho1 (by omega) hb1;replace L:=L';clear L' ho1 hb1)|(refine YL ?_)|(refine YS ?_;clear L;intro wz L))
 (try simp only[Act.put,q4,s0,s1])
 refine wp_region_quiet_below (by kernel_rfl) (by kernel_rfl) ?_
 repeat (first|(go_big_quiet_want;(first|fail|(first|(refine BZ (ty:=48) L (fun _ h=>Aa h) 3 rfl (pcL (.slice (some ⟨g,0,none⟩) m capg) r s) rfl rfl τ48 rfl B5 rfl ?_)|(refine zlq τ3 L 3 ?_)|(refine zlq τ30 L 2 ?_)|(refine zlq τ46 L 3 ?_)));go_big_quiet_on;(try simp only[Act.put,q4,s0,s1]))|go_big_quiet_step (first|fail|(first|(go_at_call 39;with_reducible exact A9 (HV.out _ _ _))|(go_at_call 9;with_reducible exact A9 (HP.out _)))))
 refine wpQuiet_nil ?_
 intro wz hwz
 replace L:=L.below (Aa hwz)
 clear hwz
 obtain⟨B4,hb4⟩:=L.snd
 obtain⟨B3,hb3⟩:=L.trd
 dsimp only at hb4 hb3
 rw[hb4,hb3] at L
 rw[hb4,hb3]
 clear hb4 hb3 HC HV
 go_wp2_with (first|(refine AF (ty:=53) L [.slice none 0 0] (.slice none 0 0) rfl rfl (by kernel_rfl) rfl ?_;have LA:=lh L;intro wB LB NB;replace L:=LB;clear LB)|(go_at_call 42;(with_reducible refine (HS.out _ _ _ _).mono ?_);rintro e w2 ⟨B,rfl,hcB,hB0,hB1,hb2⟩;clear L)|(refine YL ?_))
 have hs2:=hb2.size
 have hsN:=NB.bel.size
 have hlB:=NB.box.lt
 have hBw:Below wz.heap.size wz w2:=NB.bel.trans (hb2.mono hsN)
 have bO:Boxed w2 wz.heap.size 53 (.slice none 0 0):=NB.box.below hb2
 have HRD:Hid (RdS bL 1 wz (.slice (some ⟨g,0,none⟩) m capg) d):=lh (RdS.of_own1 (base:=w.heap.size) (by rw[HM.out];exact R.owns LA.out (k:=0) rfl))
 have hb3:=((LA.out.at (k:=2) rfl)).lt
 have HC3:=lh (fun (W:World) (h:Below wz.heap.size wz W)=>((LA.out.at (k:=2) rfl).below h).cell 0)
 obtain⟨i0,hi,hz0,hz1,hz2⟩:=info_parts copy_info
 refine (wpIn_wide (n:=3)).1 ?_
 refine wpIn_rangeFunc_ownG rfl (by decide) (gf:=86) (lb:=#[.pointer (some ⟨B,0,none⟩)]) rfl trivial (enters_of Tryz.func86 (by kernel_rfl) rfl)
  (Hs Fence.wide (3 - 1) trivial rfl (by decide) B _ d (by rw[HM.out];exact h1) wz w2 hB1 hcB HRD.out hBw) belowK_t (belowK_b (by omega)) (Below.refl _ _) (fun _=>rfl)
  (fun pre W=>(∃ v,Boxed W wz.heap.size 53 v∧W.ownsRow wz.heap.size 124 2 v (Fh pre).length ((Fh pre).flatMap (cpC xs))∧True)∧Below wz.heap.size wz W)
  (fun _ _ _=>False)
  (OwnFrom.and (Own.from (holdsRow_own wz.heap.size wz.heap.size 53 124 2 (fun pre=>(Fh pre).length) (fun pre=>(Fh pre).flatMap (cpC xs)) (fun _ _=>True)) _) (ownFrom_below (nlr _) (by omega)))
  (fun _ _ _ _ _ hs _ _=>hs)
  ⟨⟨_,bO,World.ownsRow_nil _ _ _ _,trivial⟩,hBw⟩
  (fun x=>{ tmps:=#[.agg (pcL (.slice ao m cap) r s).toArray,.slice (some ⟨bm,om,none⟩) q cm,.pointer (some ⟨w.heap.size,0,none⟩),.pointer (some ⟨B3,0,none⟩),.pointer (some ⟨B4,0,none⟩),.slice none 0 0,.pointer (some ⟨wz.heap.size,0,none⟩),.int .i64 ((x.val:Nat):Int),undef,undef,.agg (pcL (.slice ao m cap) r s).toArray,.agg (pcL (.slice (some ⟨g,0,none⟩) m capg) r s).toArray,.agg (pcL (.slice (some ⟨g,0,none⟩) m capg) r s).toArray,.bool true,.bool false,.bool false,.pointer (some ⟨w.heap.size,1,none⟩),.int .i64 r,.bool false,.bool false,.bool false,.slice (some ⟨bm,om,none⟩) q cm,.int .i64 (m:Int),.pointer (some ⟨w.heap.size,0,none⟩),.slice (some ⟨g,0,none⟩) m capg,.int .i64 (m:Int),.bool false,.bool false,undef,.pointer (some ⟨w.heap.size,0,none⟩),.slice (some ⟨g,0,none⟩) m capg,.func (.func 86) #[] #[.pointer (some ⟨B,0,none⟩)],.int .i64 ((x.val:Nat):Int),undef,undef,undef,undef,undef,undef,undef,undef,undef,undef,undef,undef,undef,undef,undef,undef,undef,undef,undef,undef,undef,undef,undef,undef,undef,undef,undef,undef,undef],defers:=[] }) ?assign ?body ?done ?stop
 case assign =>
  intro l x W K hK
  gi_wp2
  simpa [encF] using hK
 case body =>
  rintro l pre x W ⟨⟨v,hv,hrow,_⟩,hB⟩ hlt
  have hc3:=HC3.out W hB
  have hpl:(Fh pre).length<32:=by rw[finI_len];have:=HM.out;omega
  have hp:=x.isLt
  have HMR:=lh (HRO.out.below (LA.out.bel.trans (hB.mono LA.out.bel.size)))
  have HPP:=lh (HPG.out x.val W HMR.out (by unfold AO;rw[if_pos (by have:=HQ.out;have:=HLEN.out;have:=HM.out;omega)];have:=HQ.out;have:=HLEN.out;have:=HM.out;omega))
  clear hp
  gi_wp2_with (first|(refine ⟨trivial,?_⟩;gi_at_call 43;refine (CallsIn.inRound l (callsIn_wide.2 HPP.out)).mono ?_;rintro e W1 ⟨rfl,hb1⟩;have hv1:Boxed W1 wz.heap.size 53 v:=(hb1.block _ hv.lt).trans hv;have hrow1:=Af hrow hb1;have hB1:=hB.trans (hb1.mono hB.size);have hc:=hv1.cell;have hK1:=keeps_below hb1)|(gi_at_builtin;refine wpListIn_append_own _ rfl (.tmp 39) (.tmp 43) 53 rfl wz.heap.size 124 i0 (.agg #[.int .i64 0,.string ⟨#[]⟩]) 2 24 τ53 hi hz0 hz1 hz2 rfl (by decide) _ _ _ rfl (hrow1.alloc _) ⟨W1.heap.size,0,none⟩ 1 1 (cpC xs x.val) rfl rfl (A8 _ (cpC xs x.val) _ _ rfl) (cpC_one _ _) (by unfold maxLen;omega) (by omega) (by have:=hB1.size;simp;omega) ?_;intro v' w1 hown' hgrow _;obtain⟨g',cap',rfl⟩:=ownsRow_succ hown';obtain⟨hx1,hx2,hr2,hk2,hb3⟩:=hv1.appended (by decide) hrow1 hB1.size (nlr _) hown' hgrow;have hc1:=hx1.cell;have hf1:=hx1.frozen))
  exact⟨(hK1.trans hk2).from _,(hb1.mono hB.size).trans hb3,⟨_,hx2,by rw[finI_app,List.flatMap_append,List.length_append];simpa using hr2,trivial⟩,hB1.trans hb3⟩
 case done =>
  rintro D ys W hD rfl ⟨⟨v,hv,hrow,_⟩,hB⟩ hK
  rw[show Fh (FK d d.length)=Cx d m from (GR _ _).trans (by rw[HM.out]),HCN.out] at hrow
  have L:=(LA.out.below hB).cons (B:=wz.heap.size) hv LA.out.bel.size (fun x hx=>(LA.out.has x hx).1.lt)
  have C:Car wz.heap.size D v cnt ((Cx d m).flatMap (cpC xs)) W:=⟨hK,hrow⟩
  obtain⟨x6,y6,hv6⟩:=CP hrow
  subst hv6
  clear hv hrow hK HRD HC3 bO
  go_wp2_with (first|(refine lay_make2 L 46 4 (.bool false) 1 m rfl rfl rfl rfl τ46 H9 rfl (by omega) (by omega) ?_;intro g2 wq Lq Bq;replace C:=C.bel Bq;replace L:=Lq;clear Lq Bq)|(refine Aq (ty:=46) (u:=.slice (some ⟨g2,0,none⟩) m m) L 5 rfl (pcL (.slice (some ⟨g2,0,none⟩) m m) r s) rfl rfl rfl rfl flags_info rfl rfl rfl ?_;intro wq Lq Nq;replace C:=C.but (L.at (k:=5) rfl) (by decide) Nq;replace L:=Lq;clear Lq Nq;simp only[s0,s1] at L)|(refine Aq (ty:=3) (u:=.int .i64 (r+1)) L 5 rfl (pcL (.slice (some ⟨g2,0,none⟩) m m) (r+1) s) rfl rfl rfl (by first|rfl|(show Value.int .i64 _=_;first|rw[wr1]|rw[wr2])) AW rfl rfl rfl ?_;intro wq Lq Nq;replace C:=C.but (L.at (k:=5) rfl) (by decide) Nq;replace L:=Lq;clear Lq Nq;simp only[s0,s1] at L)|(refine Aq (ty:=3) (u:=.int .i64 (s+cnt)) L 5 rfl (pcL (.slice (some ⟨g2,0,none⟩) m m) (r+1) (s+cnt)) rfl rfl rfl (by first|rfl|(show Value.int .i64 _=_;first|rw[wr1]|rw[wr2])) AW rfl rfl rfl ?_;intro wq Lq Nq;replace C:=C.but (L.at (k:=5) rfl) (by decide) Nq;replace L:=Lq;clear Lq Nq;simp only[s0,s1] at L)|(refine YL ?_))
  refine wp_mono (Q:=noPanic _) ?_ noPanic_out
  have C0:=C
  refine Yh [5,1] ?_;clear L;intro hHeld L
  replace C:Car _ _ _ _ _ (World.drew _):=C0
  clear C0
  refine YT ?_
  refine zor 2 ?_;intro K hK
  refine Ae (by rfl) (Am (ty:=48) L 3 rfl (pcL (.slice (some ⟨g2,0,none⟩) m m) (r+1) (s+cnt)) (pcL (.slice (some ⟨g2,0,none⟩) m m) (r+1) (s+cnt)) rfl rfl rfl B5 (Fr rfl _ _) rfl rfl ?_)
  intro wq Lq Nq
  replace C:=C.but (L.at (k:=3) rfl) (by decide) Nq
  replace L:=Lq
  clear Lq Nq
  simp only[s0,s1] at L
  refine hK.out _ _ (L.kept [5,1] rfl) ?_;clear hHeld hK K;intro hHeld
  (try simp only[q1,q2,q3,Act.put,q4,s0,s1])
  refine YT ?_
  refine YD ?_
  clear hHeld
  refine noPanic_normal ?_
  go_simp
  go_wp2_with fail
  have hK:=C.1
  have hD0:w.heap.size≤D:=by have:=LA.out.bel.size;omega
  have hO:=L
  replace L:=L.putObj (.deferred none) hK rfl hD0
  have hl1:=AU L 3 rfl (pcL (.slice (some ⟨g2,0,none⟩) m m) (r+1) (s+cnt)) rfl τ48 rfl B5
  refine ⟨by simp,.inl ⟨_,_,rfl,run_takeDeferred hK,?_⟩⟩
  refine ⟨.tuple #[.agg (pcL (.slice (some ⟨g2,0,none⟩) m m) (r+1) (s+cnt)).toArray,.slice x6 cnt y6],by simp [results,Tryz.results13,asAddr,hl1] <;> rfl,?_⟩
  refine ⟨_,_,rfl,?_,Ay (ownsRow_putObj C.2 (.deferred none) hK rfl) LA.out.bel.size,L.bel⟩
  rw[flat_false]
  exact RowBx.owns (size:=1) ⟨nlr _,by unfold maxLen;omega,by rw[List.length_replicate,Nat.mul_one],by rw[List.take_of_length_le (by rw[List.length_replicate];omega)],by rw[List.length_replicate,Nat.mul_one]⟩ L (k:=0) rfl
 case stop =>
  rintro D c pre W _ _ h _
  exact h.elim
end Go.Proofs.YtnmpfmapncicmaaGreat
namespace Go.Proofs.YtnmpfmapncicmaaGreat
set_option linter.all false
set_option maxRecDepth 100000
set_option maxHeartbeats 40000000
open Go.RowKit
theorem CQ:(Tryz.prog.info? 124).map (·.size)=some 2:=by kernel_rfl
theorem takeL_step (ys xs fs:List Int) {k:Nat} {f:Int} (h:fs[k]?=some f):Es ys xs (fs.take (k+1))=A0 (Es ys xs (fs.take k)) f (Bh xs f):=by
 have e:fs.take (k+1)=fs.take k++[f]:=by
  rw[List.take_add_one,h];rfl
 unfold Es
 rw[e,List.foldl_append,List.foldl_cons,List.foldl_nil]
theorem papply_any (va vc:Value) (ys xs fs:List Int) (w:World) (ha:MemRow w va ys) (hc:RdS (cpC xs) 2 w vc fs) (hm:ys.length % 32=0) (hn:ys.length≤1024) (hx:xs.length=ys.length) (hf:∀ f∈fs,∃ p:Nat,f=p∧p<ys.length / 32) (hfl:fs.length≤1000) :
    Calls Tryz.prog 14 #[va,vc] w (AD (fun u=>.tuple #[u,.bool true]) (Es ys xs fs) w):=by
 obtain⟨af,capf,rfl,hcapf,hmaxf,hc⟩:=hc.open
 unfold maxLen at hmaxf
 have hro:=ha
 obtain⟨bm,om,cm,rfl,m1,m2,m3,m4,_⟩:=ha
 have HP:=lh (fun w=>CF (some ⟨bm,om,none⟩) ys.length cm w (by omega))
 rw[show AO ys.length=ys.length / 32 by unfold AO;rw[if_pos ⟨hm,hn⟩]] at HP
 have HC:=lh (fun w h=>At (.slice (some ⟨bm,om,none⟩) ys.length cm) ys w h (by omega))
 have HR:=lh hro
 have HF:=lh hc
 have HFS:=lh hf
 have HX:=lh hx
 have HT:=lh (fun k=>Hr ys xs (fs.take k))
 have hq0:0<ys.length / 32:=by omega
 obtain⟨q,hq⟩:∃ q,ys.length / 32=q:=⟨_,rfl⟩
 rw[hq] at HP HFS hq0
 obtain⟨n,hn'⟩:∃ n,ys.length=n:=⟨_,rfl⟩
 have HN:=lh hn'
 have HQ:Hid (n=q*32):=lh (by omega)
 rw[hn'] at HP HC HR ⊢
 obtain⟨N,hN⟩:∃ N,fs.length=N:=⟨_,rfl⟩
 have HNN:=lh hN
 rw[hN] at hcapf HF hfl ⊢
 have c0:((q:Int) == 0)=false:=by rw[beq_eq_false_iff_ne];omega
 have c0n:(q == 0)=false:=by rw[beq_eq_false_iff_ne];omega
 have hq32:q≤32:=by omega
 clear hc hro hf hx hq hn' hN m1 m2 m3 hm hn
 have L:=Lay.start w
 go_in
 go_wp2_with (first|(go_at_call 44;(with_reducible refine (HC.out _ (HR.out.below L.bel)).mono ?_);rintro e wz ⟨v0,rfl,ho0,hb0⟩;have ho:=ho0.lower (base':=w.heap.size) L.bel.size;replace L:=L.below hb0;clear hb0 ho0)|(refine YS ?_;clear L;intro wz L))
 have L1:=lh L
 have HO:=lh ho
 clear L ho HP HC
 go_loopw [21] (fun i wr=>∃ k:Nat,k≤N∧i=.int .i64 k∧Lay w wr []∧OwnMem w.heap.size wr v0 ys) (fun i _=>N - (intOf i).toNat)
 case atStart=>exact⟨0,Nat.zero_le _,rfl,L1.out,HO.out⟩
 case round =>
  obtain⟨k,hk,rfl,L,ho⟩:=hrel
  by_cases hlt:k<N
  · obtain⟨f,hfk⟩:=A6 (xs:=fs) (k:=k) (by rw[HNN.out];exact hlt)
    obtain⟨p,rfl,hp⟩:=HFS.out f (List.mem_of_getElem? hfk)
    obtain⟨hxx,b,off,rfl,hbl,_,_,hcell⟩:=HF.out.at (by omega)
    have HPE:=lh (fun (jj:Nat) (uu:Value) (hu:(cpC xs p)[jj]?=some uu)=>(L.bel.cell (p:=⟨b,off+k*2+jj,none⟩) hbl).trans (hcell k _ hfk jj uu hu))
    have hsz:(Bh xs p).size=128:=Da (by have:=HX.out;have:=HN.out;have:=HQ.out;omega)
    have t1:decide ((p:Int)<0)=false:=decide_eq_false (by omega)
    have t2:decide ((q:Int)≤(p:Int))=false:=decide_eq_false (by omega)
    have t2n:decide (q≤p)=false:=decide_eq_false (by omega)
    clear hxx hcell hfk
    go_wp2_with (first|(refine CD (ty:=124) (cpC xs p) rfl rfl rfl τ124 rfl CQ HPE.out ?_)|(refine AF (ty:=124) L [.int .i64 0,.string ⟨#[]⟩] (.agg (List.toArray [.int .i64 0,.string ⟨#[]⟩])) rfl rfl (by kernel_rfl) rfl ?_;intro wz Lz Nz;replace ho:=ho.below Nz.bel;replace L:=Lz;clear Lz Nz)|(refine Ag (ty:=124) L 0 rfl (cpC xs p) (cpC xs p) rfl rfl rfl rfl CQ (cpC_one _ _) rfl rfl ?_;intro wz Lz Nz;replace ho:=ho.but (L.at (k:=0) rfl) (by decide) Nz;clear Nz;replace L:=Lz;clear Lz;simp only[List.set_cons_zero] at L)|(refine YL ?_))
    go_roundw
    case rel=>exact⟨k+1,by omega,by go_num,L.drop1,ho⟩
    case measure=>simp [intOf];omega
  · obtain rfl:k=N:=by omega
    clear hlt L1 HO hk c0 c0n
    go_wp2_with fail
    have L1:=lh L
    have HO:=lh ho
    clear L ho
    go_loopw [7,44] (fun v i wr=>∃ j:Nat,j≤k∧i=.int .i64 j∧Lay w wr []∧OwnMem w.heap.size wr v (Es ys xs (fs.take j))) (fun _ i _=>k - (intOf i).toNat)
    case atStart=>exact⟨0,Nat.zero_le _,rfl,L1.out,HO.out⟩
    case round =>
     obtain⟨j,hj,rfl,L,ho⟩:=hrel
     by_cases hlt:j<k
     · obtain⟨f,hfk⟩:=A6 (xs:=fs) (k:=j) (by rw[HNN.out];exact hlt)
       obtain⟨p,rfl,hp⟩:=HFS.out f (List.mem_of_getElem? hfk)
       have HST:=lh (takeL_step ys xs fs hfk)
       obtain⟨hxx,b,off,rfl,hbl,_,_,hcell⟩:=HF.out.at (by omega)
       have HPE:=lh (fun (jj:Nat) (uu:Value) (hu:(cpC xs p)[jj]?=some uu)=>(L.bel.cell (p:=⟨b,off+j*2+jj,none⟩) hbl).trans (hcell j _ hfk jj uu hu))
       have HSZ:=lh (show (Bh xs p).size=128 from Da (by have:=HX.out;have:=HN.out;have:=HQ.out;omega))
       have HPN:=lh (show p<AO (Es ys xs (fs.take j)).length by rw[HT.out,HN.out,HQ.out];unfold AO;rw[if_pos (by omega)];omega)
       clear hxx hcell hfk
       go_wp2_with (first|(refine CD (ty:=124) (cpC xs p) rfl rfl rfl τ124 rfl CQ HPE.out ?_)|(refine AF (ty:=124) L [.int .i64 0,.string ⟨#[]⟩] (.agg (List.toArray [.int .i64 0,.string ⟨#[]⟩])) rfl rfl (by kernel_rfl) rfl ?_;intro wz Lz Nz;replace ho:=ho.below Nz.bel;replace L:=Lz;clear Lz Nz)|(refine Ag (ty:=124) L 0 rfl (cpC xs p) (cpC xs p) rfl rfl rfl rfl CQ (cpC_one _ _) rfl rfl ?_;intro wz Lz Nz;replace ho:=ho.but (L.at (k:=0) rfl) (by decide) Nz;clear Nz;replace L:=Lz;clear Lz;simp only[List.set_cons_zero] at L)|(go_at_call 45;(with_reducible refine (FI _ _ p _ _ ho.row HPN.out HSZ.out).mono ?_);rintro e wz ⟨v2,rfl,ho2,hb2⟩;replace ho:=ho2.lower (base':=w.heap.size) L.bel.size;replace L:=L.below hb2;clear hb2 ho2)|(refine YL ?_))
       go_roundw
       case rel=>exact⟨j+1,by omega,by go_num,L.drop1,by rw[HST.out];exact ho⟩
       case measure=>simp [intOf];omega
     · obtain rfl:j=k:=by omega
       rw[List.take_of_length_le (by rw[HNN.out];exact nlr _)] at ho
       have HO2:=lh ho
       clear hlt ho
       go_wp2_with fail
       go_ret2
       exact⟨_,rfl,HO2.out,L.bel⟩
theorem scrT_len {tgt:Nat}:∀ {k:Nat} {M:Mc} {l:List En} {o:List Ou} {R:Mc×List En×List Ou},sysM.scrT tgt k M l o=some R→M.Ok→R.1.m.length=M.m.length
 | 0,M,l,o,R,h,hM=>by
   rw[Sys.scrT] at h
   split at h
   · cases h;rfl
   · cases h
 | k+1,M,l,o,R,h,hM=>by
   rw[Sys.scrT] at h
   split at h
   · cases h;rfl
   · cases hs:sysM.stuck (sysM.due M l).1 with
     | true=>rw[hs,if_pos rfl] at h;cases h
     | false =>
       rw[hs,if_neg (by decide)] at h
       cases ht:sysM.takes (sysM.due M l).1 (sysM.due M l).2 with
       | none=>rw[ht] at h;cases h
       | some x =>
         rw[ht] at h
         have hd:=Sys.due_ok sysM l M hM
         rw[scrT_len h (sysM.okStep _ _ hd hs)]
         exact (Gf hd _).trans (due_len l M)
def lenV (v:Value):Nat:=match v with|.slice _ n _=>n|_=>0
def RetMc (w:World) (M:Mc) (e:Ending) (w':World):Prop:=∃ v,e=.returned (.agg (mcL M v).toArray)∧OwnMem w.heap.size w' v M.m∧Below w.heap.size w w'
theorem machine_any (kd:Int) (xs:List Int) (va:Value) (w:World) (hk : -9223372036854775808≤kd∧kd≤9223372036854775807) (ha:RdS iL 1 w va xs) (hl:xs.length≤40) (hx:∀ x∈xs,-9223372036854775808≤x∧x≤9223372036854775807) :
    Calls Tryz.prog 20 #[.int .i64 kd,va] w (fun e w'=>∃ M,RetMc w M e w'∧M.Ok∧M.m.length=256∧M.n≤87):=by
 obtain⟨i0,hi,iz0,iz1,iz2⟩:=info_parts Eg
 obtain⟨ao,cap,rfl,hcap,hmax,ha⟩:=ha.open
 unfold maxLen at hmax
 have HCO:=lh (fun w h=>code_any xs (.slice ao xs.length cap) w h hl hx)
 have HA:=lh ha
 obtain⟨r,hr⟩:∃ r,kd % 3=r:=⟨_,rfl⟩
 have HR:Hid (∀ w,Calls Tryz.prog 15 #[.int .i64 kd,.int .i64 3] w (Ret w (.int .i64 r))):=lh (fun w=>by rw[←hr];exact D4 kd 3 w hk (by decide) (by decide))
 have hr3:r=0∨r=1∨r=2:=by omega
 generalize xs.length=n at *
 clear hr hk ha hx
 have L:=Lay.start w
 go_in
 go_wp2_with (refine YS ?_;clear L;intro wz L)
 have hrow0:(wz.alloc (.cells #[] 25)).ownsRow wz.heap.size 25 1 (.slice (some ⟨wz.heap.size,0,none⟩) 0 0) 0 []:=World.ownsRow_made wz #[] 0 (nlr _) (Nat.zero_le _) (by simp)
 have hba:=(Below.refl wz.heap.size wz).alloc (nlr _) (.cells #[] 25)
 refine (HR.out _).mono ?_
 rintro e w1 ⟨rfl,hb1⟩
 have hrow:=Af hrow0 hb1
 have hbw:=hba.trans (hb1.mono hba.size)
 have L0:=lh L
 clear hrow0 hba hb1 HR L
 go_upto_if 12 with fail
 go_cut [5] from 12 to 23 (fun v wq=>∃ ws0:List Int,(r<2→ws0=imgK0)∧(r=2→ws0=[])∧wq.ownsRow wz.heap.size 25 1 v ws0.length (words ws0)∧Below wz.heap.size wz wq)
 case first =>
  by_cases hr2:r<2
  · go_wp2_with fail
    refine call_str (Y:=bsL srcK) (by kernel_rfl) (callK _) ?_
    rintro e w2 ⟨vk,rfl,hok,hb2⟩
    have hown0:=Ay (base':=wz.heap.size) hok hbw.size
    have hbw2:=hbw.trans (hb2.mono hbw.size)
    clear hrow hbw hok hb2
    have hbw:=hbw2
    clear hbw2
    obtain⟨xk,yk,hvk⟩:=E6 hown0
    subst hvk
    go_wp2_with fail
    go_loopw [5] (fun v wr=>∃ q:Nat,75≤q∧q≤160∧wr.ownsRow wz.heap.size 25 1 v q (words (imgK++List.replicate (q - 75) 0))∧Below wz.heap.size wz wr) (fun v _=>160 - lenV v)
    case atStart=>exact⟨75,nlr _,by decide,by rw[Nat.sub_self,List.replicate_zero,List.append_nil];exact hown0,hbw⟩
    case round =>
     obtain⟨q,hq0,hq1,hown,hbw⟩:=hrel
     obtain⟨x5,y5,hv5⟩:=E6 hown
     subst hv5
     have HO:=lh hown
     clear hown hown0
     by_cases hlt:q<160
     · go_wp2_with (at_builtin;refine wpList_append_own _ rfl (.tmp 20) (.tmp 21) 30 rfl wz.heap.size 25 i0 (.int .u32 0) 1 4 τ30 hi iz0 iz1 iz2 rfl (by decide) _ q (words (imgK++List.replicate (q - 75) 0)) rfl (World.ownsRow.alloc HO.out _) ⟨wr.heap.size,0,none⟩ 1 1 [.int .u32 0] rfl rfl (A8 _ [.int .u32 0] _ _ rfl) (one_u32' _) (by unfold maxLen;omega) (by omega) (by rw[World.size_alloc];have:=hbw.size;omega) ?_;intro v3 w3 hown3 hgrow3 _;have hb3:=A4 (hbw.alloc (by have:=hbw.size;omega) _) (World.ownsRow.alloc HO.out _) hgrow3;obtain⟨x6,y6,hv6⟩:=E6 hown3;subst hv6)
       go_roundw
       case rel=>exact⟨q+1,by omega,by omega,by rw[show q+1 - 75=(q - 75)+1 by omega,List.replicate_succ',←List.append_assoc,G7];exact hown3,hb3⟩
       case measure=>show 160 - (q+1)<160 - q;omega
     · have hq:q=160:=by omega
       subst hq
       go_wp2_with fail
       go_meet
       exact⟨imgK0,fun _=>rfl,fun h=>absurd hr2 (by omega),HO.out,hbw⟩
  · go_wp2_with fail
    go_meet
    exact⟨[],fun h=>absurd h (by omega),fun _=>rfl,hrow,hbw⟩
 case rest =>
  obtain⟨ws0,hw1,hw2,hrow,hbw⟩:=hcut
  have hl0:ws0.length≤160:=by
   rcases hr3 with h|h|h
   · rw[hw1 (by omega)];decide
   · rw[hw1 (by omega)];decide
   · rw[hw2 h];decide
  have hwd:Words ws0:=by
   rcases hr3 with h|h|h
   · rw[hw1 (by omega)];exact CS (by decide)
   · rw[hw1 (by omega)];exact CS (by decide)
   · rw[hw2 h];exact CS (by decide)
  obtain⟨x5,y5,hv5⟩:=E6 hrow
  subst hv5
  go_wp2_with fail
  refine (HCO.out _ (HA.out.below (L0.out.bel.trans (hbw.mono L0.out.bel.size)))).mono ?_
  rintro e w3 ⟨v2,ws,rfl,hwl,hww,hown2,hb3⟩
  obtain⟨x6,y6,hv6⟩:=E6 hown2
  subst hv6
  have hrow3:=Af hrow hb3
  have hbw3:=hbw.trans (hb3.mono hbw.size)
  have hwl2:ws.length≤40:=by omega
  have HWL:=lh hwl
  clear hrow hb3 hwl hbw
  go_wp2_with (at_builtin;refine DU rfl (.tmp 23) (.tmp 25) 30 rfl wz.heap.size _ 25 i0 (.int .u32 0) 1 4 τ30 hi iz0 iz1 iz2 rfl (by decide) _ ws0.length (words ws0) rfl hrow3 _ ws.length (words ws) rfl hown2 (Ho ws) (by unfold maxLen;omega) (by omega) hbw3.size ?_;intro v4 w4 hown4 hgrow4;have hb4:=below_append' hbw3 hrow3 hgrow4 (nlr _);obtain⟨x7,y7,hv7⟩:=E6 hown4;subst hv7;clear hgrow4 hrow3 hown2)
  obtain⟨img,himg⟩:∃ img,ws0++ws=img:=⟨_,rfl⟩
  have hil:img.length=ws0.length+ws.length:=by rw[←himg,List.length_append]
  have hiw:Words img:=by
   rw[←himg]
   exact CS (fun x hx=>by
    rcases List.mem_append.1 hx with hx|hx
    · exact EY hwd x hx
    · exact EY hww x hx)
  have hir:RdS wL 1 w4 (.slice x7 (ws0.length+ws.length) y7) img:=by
   refine RdS.words (base:=wz.heap.size) (n:=ws0.length+ws.length) ?_ hil
   rw[←himg,Hp]
   exact hown4
  have hM0:(DA 8 4 img).Ok:=JB (by decide) (by decide) (by decide) (by omega) hiw
  have hml:(DA 8 4 img).m.length=256:=GY 8 4 (by omega)
  have hrun:r=1→∃ M' o,sysM.scrT 87 87 (DA 8 4 img) [] []=some (M',[],o):=fun h=>by
   rw[←himg,hw1 (by omega)]
   exact kernel_run hww (by omega)
  have hnw:=new7_any 8 4 img _ w4 (by decide) (by decide) (by decide) (by omega) hir
  have hn0:(DA 8 4 img).n=0:=rfl
  clear hir hil hiw himg hown4 hwd hww hw1 hw2
  generalize DA 8 4 img=M0 at *
  refine Calls.mono hnw ?_
  rintro e w5 ⟨vm,rfl,hom,hb5⟩
  have L:=L0.out.below (hb4.mono (nlr _))
  have HNM:Hid (M0.m.length=256):=lh hml
  obtain⟨nm,hnm⟩:∃ n,M0.m.length=n:=⟨_,rfl⟩
  have HNM2:=lh hnm
  have hnm0:0<nm:=by omega
  obtain⟨g,capg,curg,rfl,R,L'⟩:=Lay.mem HNM2.out L hom hb5
  replace L:=L'
  have hd:=L.dif
  clear hnw L' hom hb5 L0 hnm
  go_upto_if 38 with (refine YS ?_;clear L;intro wz L)
  by_cases hr1:r=1
  · obtain⟨M',o,hrn⟩:=hrun hr1
    have hR1:=(Sys.scrT_ok sysM hrn hM0)
    have hl1:M'.m.length=256:=(scrT_len hrn hM0).trans hml
    have HRUN:Hid (∀ w v,MemRow w v M0.m→Calls Tryz.prog 28 #[.agg (mcL M0 v).toArray,.slice none 0 0,.int .u64 87] w (fun e w'=>∃ v' vo,e=.returned (.tuple #[.agg (mcL M' v').toArray,vo,.int .i64 0,.int .i64 0])∧OwnMem w.heap.size w' v' M'.m∧OutRow w.heap.size w' vo o∧Below w.heap.size w w')):=lh (fun w v h=>rrun7_any (tgt:=87) hM0 h (RdS.nil enL 4 w) (Nat.zero_le _) trivial (fun y hy=>(by cases hy)) (by omega) (by omega) hrn)
    have HNL:=lh hl1
    have HOK:Hid M'.Ok:=lh hR1.1
    have HCN:Hid (M'.n≤87):=lh (Nat.le_of_eq hR1.2)
    clear hrn hR1 hl1 hrun hM0 hml hn0
    obtain rfl:r=1:=hr1
    go_wp2_with (first|(go_at_call 28;(with_reducible refine (HRUN.out _ _ (RowBx.mem HNM2.out R hnm0 L (k:=1) rfl).row).mono ?_);rintro e wx ⟨v',vo,rfl,hom,hoo,hbz⟩;obtain⟨g2,capg2,curg2,rfl,R2,L'⟩:=Lay.mem HNL.out L hom hbz;replace L:=L';clear L' hom hoo hbz)|(refine YL ?_)|(refine YS ?_;clear L;intro wz L))
    exact Yr1 ⟨M',⟨_,rfl,RowBx.mem HNL.out R2 (by decide) L (k:=0) rfl,L.bel⟩,HOK.out,HNL.out,HCN.out⟩
  · have HOK:=lh hM0
    have HCN:Hid (M0.n≤87):=lh (by omega)
    clear hrun hM0 hml hn0
    go_wp2_with (first|(refine YL ?_)|(refine YS ?_;clear L;intro wz L))
    exact Yr1 ⟨M0,⟨_,rfl,RowBx.mem HNM2.out R hnm0 L (k:=1) rfl,L.bel⟩,HOK.out,HNM.out,HCN.out⟩
structure PreI (M:Mc) (ys:List Int) (d:List Bool):Prop where
 ok:M.Ok
 len:M.m.length=256
 yl:ys.length=256
 dl:d.length=8
 hi:∀ i,i<256→d[i / 32]?=some true∨rg ys i=rg M.m i
theorem PreI.start {M:Mc} (h:M.Ok) (hl:M.m.length=256):PreI M (List.replicate 256 0) (List.replicate 8 true) where
 ok:=h
 len:=hl
 yl:=List.length_replicate ..
 dl:=List.length_replicate ..
 hi i hi:=.inl (by rw[List.getElem?_replicate,if_pos (by omega)])
theorem PreI.all {M:Mc} {ys:List Int} {d:List Bool} (h:PreI M ys d):Es ys M.m (Cx d 8)=M.m:=by
 have:=take_all (xs:=M.m) (ys:=ys) (d:=d) h.ok.m.w (by rw[h.len]) (by rw[h.len,h.yl]) (by rw[h.len,h.dl]) (fun i hi=>h.hi i (by rw[←h.len];exact hi))
 rwa[h.dl] at this
theorem chL_len (xs ys:List Int) (k:Nat):(chL xs ys k).length≤k:=chL_le xs ys k
theorem PreI.next {M M':Mc} (_h:M.Ok) (hl:M.m.length=256) (h':M'.Ok) (hl':M'.m.length=256):PreI M' M.m (DX (List.replicate 8 false) (chL M.m M'.m 8)) where
 ok:=h'
 len:=hl'
 yl:=hl
 dl:=by rw[noteL_len,List.length_replicate]
 hi i hi:=by
  have hn:=noteL_at (d:=List.replicate 8 false) (fs:=chL M.m M'.m 8) (i:=i / 32) (fun f hf=>by obtain⟨j,_,rfl,_⟩:=chL_mem.1 hf;omega) (by rw[List.length_replicate];omega)
  by_cases e:BV M.m (i / 32)=BV M'.m (i / 32)
  · exact .inr ((page_rg (by rw[hl,hl']) (by rw[hl];omega)).1 e i rfl)
  · exact .inl (hn.2 (.inr (chL_mem.2 ⟨i / 32,by omega,rfl,e⟩)))
theorem noted {M M':Mc} {f:Int} (hf:f∈chL M.m M'.m 8):f∈Cx (DX (List.replicate 8 false) (chL M.m M'.m 8)) 8:=by
 obtain⟨j,hj,rfl,hd⟩:=chL_mem.1 hf
 refine setL_mem.2 ⟨j,hj,rfl,(noteL_at (d:=List.replicate 8 false) (i:=j) (fun g hg=>?_) (by rw[List.length_replicate];exact hj)).2 (.inr hf)⟩
 obtain⟨i,_,rfl,_⟩:=chL_mem.1 hg
 omega
theorem chL_rng {xs ys:List Int} {k:Nat}:∀ f∈chL xs ys k,0≤f∧f<k:=by
 intro f hf
 obtain⟨j,hj,rfl,_⟩:=chL_mem.1 hf
 omega
theorem setL_rng {d:List Bool} {k:Nat}:∀ f∈Cx d k,∃ p:Nat,f=p∧p<k:=by
 intro f hf
 obtain⟨j,hj,rfl,_⟩:=setL_mem.1 hf
 exact⟨j,rfl,hj⟩
theorem RdS.of_int {w:World} {v:Value} {xs:List Int} (h:IntRow w v xs):RdS iL 1 w v xs:=by
 obtain⟨ao,cap,hv,h1,h2,h3⟩:=h
 refine ⟨ao,cap,hv,h1,h2,?_⟩
 rcases h3 with h3|⟨b,off,e,hlt,hc⟩
 · exact .inl (by cases xs with|nil=>rfl|cons x xs=>simp at h3)
 · refine .inr ⟨b,off,e,hlt,fun i x hx j u hu=>?_⟩
   have e1:j=0∧u=.int .i64 x:=by
    cases j with
    | zero=>exact⟨rfl,by simpa [iL] using hu.symm⟩
    | succ j=>simp [iL] at hu
   obtain⟨rfl,rfl⟩:=e1
   rw[Nat.mul_one,Nat.add_zero]
   exact hc i _ (by rw[List.getElem?_map,hx];rfl)
theorem few_any (ao:Option Addr) (n cap:Nat) (w:World):Calls Tryz.prog 6 #[.slice ao n cap,.slice none 0 0] w (Ret w (.bool (decide (n≤40)))):=by
 by_cases h:n≤40
 · rw[decide_eq_true h]
   have t1:decide ((n:Int)≤40)=true:=decide_eq_true (by omega)
   go_in
   go_wp2_with fail
   go_ret
   exact Ret.mk (Below.refl _ _)
 · rw[decide_eq_false h]
   have t1:decide ((n:Int)≤40)=false:=decide_eq_false (by omega)
   go_in
   go_wp2_with fail
   go_ret
   exact Ret.mk (Below.refl _ _)
theorem guest_any (kd:Int) (xs:List Int) (va:Value) (w:World) (hk : -9223372036854775808≤kd∧kd≤9223372036854775807) (ha:RdS iL 1 w va xs) (hl:xs.length≤40) (hx:∀ x∈xs,-9223372036854775808≤x∧x≤9223372036854775807) :
    Calls Tryz.prog 8 #[.int .i64 kd,va] w (fun e w'=>∃ M,RetMc w M e w'∧M.Ok∧M.m.length=256∧M.n≤87):=by
 obtain⟨ao,cap,rfl,_,_,ha⟩:=ha.open
 have HM:=lh (fun w h=>machine_any kd xs (.slice ao xs.length cap) w hk h hl hx)
 have HA:=lh ha
 generalize xs.length=n at *
 clear ha hk hx
 have L:=Lay.start w
 go_in
 go_wp2_with (first|(go_at_call 20;(with_reducible refine (HM.out _ (HA.out.below L.bel)).mono ?_);rintro e wz ⟨M,⟨v,rfl,ho,hb⟩,hOk,hlen,hn⟩;have hom:=ho.lower (base':=w.heap.size) L.bel.size;have hv:=hom.cell1;replace L:=L.below hb;clear ho hb)|(refine Ag (ty:=43) L 0 rfl (mcL M v) (mcL M v) rfl rfl rfl rfl Aw (Bp _ hv) rfl rfl ?_;intro wz Lz Nz;replace hom:=hom.but (L.at (k:=0) rfl) (by decide) Nz;clear Nz;replace L:=Lz;clear Lz;simp only[List.set_cons_zero] at L)|(refine YS ?_;clear L;intro wz L))
 exact Yr1 ⟨M,⟨v,rfl,hom,L.bel⟩,hOk,hlen,hn⟩
theorem down_out (kd limit:Int) (ao at_:Option Addr) (nl nt cl ct:Nat) (w:World) (h:¬(nl≤40∧nt≤30∧0≤limit∧limit≤32)) :
    Calls Tryz.prog 3 #[.int .i64 kd,.slice ao nl cl,.slice at_ nt ct,.int .i64 limit] w (Ret w (.bool true)):=by
 have HF:=lh (fun w=>few_any ao nl cl w)
 have HW:=lh (fun w=>works_any w)
 by_cases h1:nl≤40
 · rw[decide_eq_true h1] at HF
   by_cases h2:nt≤30
   · have t2:decide ((30:Int)<(nt:Int))=false:=decide_eq_false (by omega)
     have t2n:decide (30<nt)=false:=decide_eq_false (by omega)
     by_cases h3:limit<0
     have t3:decide (limit<0)=true:=decide_eq_true h3
     rotate_left
     have t3:decide (limit<0)=false:=decide_eq_false h3
     have t4:decide ((32:Int)<limit)=true:=decide_eq_true (by omega)
     rotate_left
     all_goals
      exact Xz46
   · have t2:decide ((30:Int)<(nt:Int))=true:=decide_eq_true (by omega)
     have t2n:decide (30<nt)=true:=decide_eq_true (by omega)
     exact Xz46
 · rw[decide_eq_false h1] at HF
   exact Xz46
structure Dn (base:Nat) (xs:List Int) (v:Value) (ys:List Int) (vt:Value) (bs:List Int) (vb:Value) (d:List Bool) (vd:Value) (w:World):Prop where
 m:OwnMem base w v xs
 t:OwnMem base w vt ys
 b:OwnMem base w vb bs
 f:w.ownsRow base 4 1 vd d.length (d.flatMap bL)
section
variable {base:Nat} {xs ys bs:List Int} {v vt vb vd:Value} {d:List Bool} {w w':World}
theorem Dn.bel (h:Dn base xs v ys vt bs vb d vd w) (hb:Below w.heap.size w w'):Dn base xs v ys vt bs vb d vd w':=⟨h.m.below hb,h.t.below hb,h.b.below hb,Af h.f hb⟩
theorem Dn.but {B:Nat} {cs:Array Value} {T:TypeId} (h:Dn base xs v ys vt bs vb d vd w) (hB:HasBlock w B cs T) (h1:T≠25) (h2:T≠4) (hn:But B w w'):Dn base xs v ys vt bs vb d vd w' :=
 ⟨h.m.but hB h1 hn,h.t.but hB h1 hn,h.b.but hB h1 hn,Ai h.f hB h2 hn⟩
theorem Dn.rd (h:Dn base xs v ys vt bs vb d vd w):RdS bL 1 w vd d:=RdS.of_own1 h.f
end
theorem GX {base n:Nat} {w:World} {v:Value} {xs:List Int} (h:OwnMem base w v xs) (hn:xs.length=n):∃ g cap,v=.slice (some ⟨g,0,none⟩) n cap:=by
 obtain⟨g,cap,rfl,_⟩:=h.open
 exact⟨g,cap,by rw[hn]⟩
theorem ints_flat {w:World} {base n:Nat} {v:Value} {xs:List Int} (h:w.ownsRow base 3 1 v n (Jy xs)):w.ownsRow base 3 1 v n (xs.flatMap iL):=by
 have e:Jy xs=xs.flatMap iL:=by
  unfold Jy
  induction xs with
  | nil=>rfl
  | cons x xs ih =>
    rw[List.flatMap_cons,List.map_cons]
    exact congrArg (Value.int .i64 x :: ·) (List.map_eq_flatMap ..)
 rwa[←e]
def hasI (l:List Int) (f:Int):Nat→Bool
 | 0=>false
 | q+1=>hasI l f q || decide (l[q]?=some f)
theorem hasI_at {l:List Int} {f:Int}:∀ {n q:Nat},q<n→l[q]?=some f→hasI l f n=true
 | n+1,q,hq,h=>by
   unfold hasI
   by_cases e:q=n
   · subst e
     rw[decide_eq_true h,Bool.or_true]
   · rw[hasI_at (by omega) h,Bool.true_or]
theorem hasI_mem {l:List Int} {f:Int} (h:f∈l):hasI l f l.length=true:=by
 obtain⟨q,hq⟩:=List.getElem?_of_mem h
 exact hasI_at (List.getElem?_eq_some_iff.1 hq).1 hq
theorem cpC_len (xs:List Int):∀ f,(cpC xs f).length=2:=fun _=>rfl
theorem Xz23 {P:Prop} (h:P:=by
  refine hK.out _ _ (L.kept [1] rfl) ?_;clear hHeld hK K;intro hHeld
  (try simp only[q1,q2,q3,Act.put,q4,s0,s1])
  refine zor 5 ?_;intro K hK
  go_simp
  with_reducible refine (HNO.out _ _ D.rd hvf).mono ?_
  rintro e wz ⟨vd3,rfl,hof,hb⟩
  obtain⟨gd3,capd3,rfl⟩:=CP hof
  have D2:Dn w.heap.size M'.m (.slice (some ⟨g',0,none⟩) 256 capg') M.m v17 M.m (.slice (some ⟨g,0,none⟩) 256 capg) d2 (.slice gd3 8 capd3) wz:=⟨(D.bel hb).m,(D.bel hb).t,(D.bel hb).b,by rw[HNX.out.dl];exact Ay hof L.bel.size⟩
  replace L:=L.below hb
  clear hb D hof hvf
  go_simp
  refine hK.out _ _ (L.kept [1] rfl) ?_;clear hHeld hK K;intro hHeld
  (try simp only[q1,q2,q3,Act.put,q4,s0,s1])
  refine zor 6 ?_;intro K hK
  refine Ae (by rfl) (Am (ty:=48) L 0 rfl (pcL (.slice gd3 8 capd3) (r2:Int) (s2:Int)) (pcL (.slice gd3 8 capd3) (r2:Int) (s2:Int)) rfl rfl rfl B5 (Fr rfl _ _) rfl rfl ?_)
  intro wq Lq Nq
  replace D2:=D2.but (L.at (k:=0) rfl) (by decide) (by decide) Nq
  replace L:=Lq
  clear Lq Nq
  simp only[List.set_cons_zero] at L
  refine hK.out _ _ (L.kept [1] rfl) ?_;clear hHeld hK K;intro hHeld
  (try simp only[q1,q2,q3,Act.put,q4,s0,s1])
  refine YD ?_
  clear hHeld
  go_simp
  go_wp2_with fail
  go_meet
  exact⟨gd3,capd3,lh L,lh D2⟩):P:=h
theorem Xz107 {P:Prop} (h:P:=by
  clear hB hR2
  go_wp2_with (first|(go_skip;first|(go_step;go_big_op)|skip)|(refine YS ?_;clear L;intro wz L))
  go_ret
  exact Ret.mk L.bel):P:=h
theorem down_in (kd limit:Int) (va vt:Value) (xs ts:List Int) (w:World) (hk : -9223372036854775808≤kd∧kd≤9223372036854775807) (ha:RdS iL 1 w va xs) (hx:∀ x∈xs,-9223372036854775808≤x∧x≤9223372036854775807)
    (ht:RdS iL 1 w vt ts) (htx:∀ x∈ts,-9223372036854775808≤x∧x≤9223372036854775807) (h1:xs.length≤40) (h2:ts.length≤30) (l0:0≤limit) (l1:limit≤32) :
    Calls Tryz.prog 3 #[.int .i64 kd,va,vt,.int .i64 limit] w (Ret w (.bool true)):=by
 obtain⟨ao,cap,rfl,_,_,ha⟩:=ha.open
 obtain⟨at_,ct,rfl,_,_,ht⟩:=ht.open
 have HF:Hid (∀ w,Calls Tryz.prog 6 #[.slice ao xs.length cap,.slice none 0 0] w (Ret w (.bool true))):=lh (fun w=>by have:=few_any ao xs.length cap w;rwa[decide_eq_true h1] at this)
 have HW:=lh (fun w=>works_any w)
 have HG:=lh (fun w h=>guest_any kd xs (.slice ao xs.length cap) w hk h h1 hx)
 have HA:=lh ha
 have HT:=lh ht
 have HTX:=lh htx
 obtain⟨nl,hnl⟩:∃ n,xs.length=n:=⟨_,rfl⟩
 obtain⟨nt,hnt⟩:∃ n,ts.length=n:=⟨_,rfl⟩
 have HNT:=lh hnt
 rw[hnl] at HF HG HA ⊢
 rw[hnt] at HT h2 ⊢
 have t2:decide ((30:Int)<(nt:Int))=false:=decide_eq_false (by omega)
 have t2n:decide (30<nt)=false:=decide_eq_false (by omega)
 have t3:decide (limit<0)=false:=decide_eq_false (by omega)
 have t4:decide ((32:Int)<limit)=false:=decide_eq_false (by omega)
 have HBG:Hid (∀ w,Calls Tryz.prog 10 #[.int .i64 8] w (fun e w'=>∃ v,e=.returned (.tuple #[.agg (pcL v 0 0).toArray,.bool true])∧w'.ownsRow w.heap.size 4 1 v 8 ((List.replicate 8 true).flatMap bL)∧Below w.heap.size w w')):=lh (fun w=>begin_pages 8 w (by decide) (by decide))
 have HNW:Hid (∀ w,Calls Tryz.prog 11 #[.int .i64 8] w (RetMem w (List.replicate 256 0))):=lh (fun w=>mnew_any 8 w (by decide) (by decide))
 clear ha ht htx hx hnl hnt hk h1
 have L:=Lay.start w
 go_in
 go_wp2_with (first|(go_at_call 8;(with_reducible refine (HG.out _ (HA.out.below L.bel)).mono ?_);rintro e wz ⟨M,⟨v,rfl,ho,hb⟩,hOk,hlen,hn⟩;have hom:=ho.lower (base':=w.heap.size) L.bel.size;obtain⟨g,capg,rfl⟩:=GX hom hlen;replace L:=L.below hb;clear ho hb)|(refine AF (ty:=43) L (mcL mc0 (.slice none 0 0)) (.agg (List.toArray (mcL mc0 (.slice none 0 0)))) rfl rfl (by kernel_rfl) rfl ?_;intro wz Lz Nz;replace hom:=hom.below Nz.bel;replace L:=Lz;clear Lz Nz)|(refine Ag (ty:=43) L 0 rfl (mcL M (.slice (some ⟨g,0,none⟩) 256 capg)) (mcL M (.slice (some ⟨g,0,none⟩) 256 capg)) rfl rfl rfl rfl Aw (Bp _ rfl) rfl rfl ?_;intro wz Lz Nz;replace hom:=hom.but (L.at (k:=0) rfl) (by decide) Nz;clear Nz;replace L:=Lz;clear Lz;simp only[List.set_cons_zero] at L)|(go_at_call 9;(with_reducible refine (CF _ 256 _ _ (by decide)).mono ?_);rintro e wz ⟨rfl,hb⟩;rw[show ((AO 256:Nat):Int)=((8:Nat):Int) from rfl];replace hom:=hom.below hb;replace L:=L.below hb;clear hb)|(go_at_call 10;(with_reducible refine (HBG.out _).mono ?_);rintro e wz ⟨vd,rfl,ho,hb⟩;have hof:=Ay (base':=w.heap.size) ho L.bel.size;obtain⟨gd,capd,rfl⟩:=CP hof;replace hom:=hom.below hb;replace L:=L.below hb;clear ho hb)|(refine AF (ty:=48) L (pcL (.slice none 0 0) 0 0) (.agg (List.toArray (pcL (.slice none 0 0) 0 0))) rfl rfl (by kernel_rfl) rfl ?_;intro wz Lz Nz;replace hom:=hom.below Nz.bel;replace hof:=Af hof Nz.bel;replace L:=Lz;clear Lz Nz)|(refine Ag (ty:=48) L 0 rfl (pcL (.slice gd 8 capd) 0 0) (pcL (.slice gd 8 capd) 0 0) rfl rfl rfl rfl B5 (Fr rfl _ _) rfl rfl ?_;intro wz Lz Nz;replace hom:=hom.but (L.at (k:=0) rfl) (by decide) Nz;replace hof:=Ai hof (L.at (k:=0) rfl) (by decide) Nz;clear Nz;replace L:=Lz;clear Lz;simp only[List.set_cons_zero] at L)|(go_at_call 11;(with_reducible refine (HNW.out _).mono ?_);rintro e wz ⟨v13,rfl,ho,hb⟩;have hot:=ho.lower (base':=w.heap.size) L.bel.size;replace hom:=hom.below hb;replace hof:=Af hof hb;replace L:=L.below hb;clear ho hb)|(refine YL ?_)|(refine YS ?_;clear L;intro wz L))
 obtain⟨B11,hb11⟩:=L.fst1
 obtain⟨B9,hb9⟩:=L.snd
 dsimp only at hb11 hb9
 rw[hb11,hb9] at L
 rw[hb11,hb9]
 have D:Dn w.heap.size M.m (.slice (some ⟨g,0,none⟩) 256 capg) (List.replicate 256 0) v13 M.m (.slice (some ⟨g,0,none⟩) 256 capg) (List.replicate 8 true) (.slice gd 8 capd) _:=⟨hom,hot,hom,hof⟩
 have hI:=PreI.start hOk hlen
 have HL1:=lh L
 have HD1:=lh D
 have HI1:=lh hI
 clear hb11 hb9 L D hI hom hot hof hOk hlen HF HG HA HBG HNW t2 t2n t3 t4
 go_loopw [13,14] (fun vt iv wr=>∃ (i:Nat) (M:Mc) (v vd vb:Value) (ys bs:List Int) (d:List Bool) (r s:Nat),i≤nt∧iv=.int .i64 i∧r≤10∧s≤8*r∧Hid (PreI M ys d)∧Hid (Lay w wr [⟨B11,pcL vd r s,48⟩,⟨B9,mcL M v,43⟩])∧Hid (Dn w.heap.size M.m v ys vt bs vb d vd wr)) (fun _ iv _=>nt - (intOf iv).toNat)
 case atStart=>exact⟨0,M,_,_,_,_,_,_,0,0,Nat.zero_le _,rfl,by decide,by decide,HI1,HL1,HD1⟩
 case round =>
  clear HI1 HL1 HD1
  obtain⟨i,M,v,vd,vb,ys,bs,d,r,s,hi,rfl,hr,hs,HI,HL,HD⟩:=hrel
  have L:=HL.out
  clear HL
  obtain⟨g,capg,rfl⟩:=GX HD.out.m HI.out.len
  obtain⟨gd,capd,rfl⟩:=CP HD.out.f
  rw[HI.out.dl] at L
  have D:=HD.out
  rw[HI.out.dl] at D
  have hdl:=HI.out.dl
  obtain⟨bst,hbst⟩:∃ b,(decide (((Cx d 8).length:Int)≤limit) || decide ((10:Int)≤(r:Int)))=b:=⟨_,rfl⟩
  have HST:Hid (∀ w (h:RdS bL 1 w (.slice gd 8 capd) d),Calls Tryz.prog 12 #[.agg (pcL (.slice gd 8 capd) r s).toArray,.int .i64 limit] w (Ret w (.bool bst))):=lh (fun w h=>by
   have:=stop_any (.slice gd 8 capd) d r s limit w h (by omega) (by omega) (by omega) (by omega) (by omega) (by omega)
   rwa[hdl,hbst] at this)
  have hr10:bst=false→r<10:=fun e=>by
   subst e
   rw[Bool.or_eq_false_iff] at hbst
   have:=of_decide_eq_false hbst.2
   omega
  have HBS:=lh hbst
  clear hbst
  have HL:=lh L
  have HD1:=lh D
  clear L D HD
  go_upto_region 10 with fail
  go_cut [72] from 63 to 73 (fun q wx=>∃ b:Bool,q=.bool b∧(b=true→i<nt∧r<10)∧Hid (Lay w wx [⟨B11,pcL (.slice gd 8 capd) r s,48⟩,⟨B9,mcL M (.slice (some ⟨g,0,none⟩) 256 capg),43⟩])∧Hid (Dn w.heap.size M.m (.slice (some ⟨g,0,none⟩) 256 capg) ys u13 bs vb d (.slice gd 8 capd) wx))
  case first =>
   have L:=HL.out
   have D:=HD1.out
   clear HL HD1
   by_cases hlt:i<nt
   · have t1:decide ((i:Int)<(nt:Int))=true:=decide_eq_true (by omega)
     have t1n:decide (i<nt)=true:=decide_eq_true hlt
     go_wp2_with (first|(refine Yp (pcL (.slice gd 8 capd) r s) ?_)|(refine Bw (ty:=48) L 0 rfl (pcL (.slice gd 8 capd) r s) (by rfl) rfl rfl τ48 rfl B5 rfl ?_)|(go_at_call 12;(with_reducible refine (HST.out _ D.rd).mono ?_);rintro e wz ⟨rfl,hb⟩;replace D:=D.bel hb;replace L:=L.below hb;clear hb))
     go_meet
     exact⟨!bst,rfl,fun e=>⟨hlt,hr10 (by simpa using e)⟩,lh L,lh D⟩
   · have t1:decide ((i:Int)<(nt:Int))=false:=decide_eq_false (by omega)
     have t1n:decide (i<nt)=false:=decide_eq_false hlt
     go_wp2_with fail
     go_meet
     exact⟨false,rfl,fun e=>absurd e (by decide),lh L,lh D⟩
  case rest =>
   obtain⟨b,rfl,hb,HL,HD⟩:=hcut
   obtain⟨cnt,hcnt⟩:∃ c,(Cx d 8).length=c:=⟨_,rfl⟩
   have hc8:cnt≤8:=by have:=J9 d 8;omega
   have HCN:=lh hcnt
   have HRD:Hid (∀ w,RdS bL 1 w (.slice gd 8 capd) d→MemRow w (.slice (some ⟨g,0,none⟩) 256 capg) M.m→Calls Tryz.prog 13 #[.agg (pcL (.slice gd 8 capd) r s).toArray,.slice (some ⟨g,0,none⟩) 256 capg] w (fun e w'=>∃ v u,e=.returned (.tuple #[.agg (pcL v ((r+1:Nat):Int) ((s+cnt:Nat):Int)).toArray,u])∧w'.ownsRow w.heap.size 4 1 v 8 ((List.replicate 8 false).flatMap bL)∧w'.ownsRow w.heap.size 124 2 u cnt ((Cx d 8).flatMap (cpC M.m))∧Below w.heap.size w w')):=lh (fun w g1 g2=>by
    have:=pround_any _ _ d r s M.m w g1 g2 HI.out.ok.m.w (by rw[HI.out.len,hdl]) (by omega) (by omega) (by omega) (by omega) (by omega) (by omega)
    rw[hdl,hcnt] at this
    exact this)
   obtain⟨r2,hr2⟩:∃ r2,r+1=r2:=⟨_,rfl⟩
   obtain⟨s2,hs2⟩:∃ s2,s+cnt=s2:=⟨_,rfl⟩
   rw[hr2,hs2] at HRD
   have hs2b:s2≤8*r2:=by omega
   have HAP:Hid (∀ w vc,MemRow w u13 ys→w.ownsRow 0 124 2 vc cnt ((Cx d 8).flatMap (cpC M.m))→Calls Tryz.prog 14 #[u13,vc] w (AD (fun u=>.tuple #[u,.bool true]) M.m w)):=lh (fun w vc g1 g2=>by
    have:=papply_any u13 vc ys M.m (Cx d 8) w g1 (RdS.of_owns (cpC_len M.m) (by rw[hcnt];exact g2)) (by rw[HI.out.yl]) (by rw[HI.out.yl];decide) (by rw[HI.out.len,HI.out.yl]) (fun f hf=>by rw[HI.out.yl];exact setL_rng f hf) (by omega)
    rwa[HI.out.all] at this)
   cases b with
   | true =>
     obtain⟨hlt,hr9⟩:=hb rfl
     have hr2b:r2≤10:=by omega
     clear hr2 hs2
     obtain⟨x,hx⟩:=A6 (xs:=ts) (k:=i) (by rw[HNT.out];exact hlt)
     have hxb:=HTX.out x (List.mem_of_getElem? hx)
     obtain⟨hxx,b,off,rfl,hbl,_,_,hcell⟩:=HT.out.at (by omega)
     have HX:=lh (fun (w':World) (hb:Below w.heap.size w w')=>(hb.cell (p:=⟨b,off+i,none⟩) hbl).trans (show _=some (Value.int .i64 x) by simpa using hcell i _ hx 0 _ rfl))
     obtain⟨nr,hnr⟩:∃ n:Nat,x % 30=n:=⟨(x % 30).toNat,by omega⟩
     have hn30:nr≤30:=by omega
     have HRN:Hid (∀ w,Calls Tryz.prog 15 #[.int .i64 x,.int .i64 30] w (Ret w (.int .i64 nr))):=lh (fun w=>by rw[←hnr];exact D4 x 30 w hxb (by decide) (by decide))
     have L:=HL.out
     have D:=HD.out
     clear hb hcnt hx hxb hxx hcell hnr HL HD hr10 HST hdl
     go_wp2_with (first|(refine Yp (pcL (.slice gd 8 capd) r s) ?_)|(go_at_call 13;(with_reducible refine (HRD.out _ D.rd D.m.row).mono ?_);rintro e wz ⟨vd2,vc,rfl,hof2,hoc2,hb⟩;obtain⟨gd2,capd2,rfl⟩:=CP hof2;obtain⟨ac,capc,rfl⟩:=CP hoc2;have hoc:=Ay (base':=w.heap.size) hoc2 L.bel.size;have D2:Dn w.heap.size M.m (.slice (some ⟨g,0,none⟩) 256 capg) ys u13 bs vb (List.replicate 8 false) (.slice gd2 8 capd2) wz:=⟨(D.bel hb).m,(D.bel hb).t,(D.bel hb).b,Ay hof2 L.bel.size⟩;replace L:=L.below hb;clear hb hof2 hoc2 D)|(refine AF (ty:=48) L (pcL (.slice none 0 0) 0 0) (.agg (List.toArray (pcL (.slice none 0 0) 0 0))) rfl rfl (by kernel_rfl) rfl ?_;intro wz Lz Nz;replace D2:=D2.bel Nz.bel;replace hoc:=Af hoc Nz.bel;replace L:=Lz;clear Lz Nz)|(refine Ag (ty:=48) L 0 rfl (pcL (.slice gd2 8 capd2) (r2:Int) (s2:Int)) (pcL (.slice gd2 8 capd2) (r2:Int) (s2:Int)) rfl rfl rfl rfl B5 (Fr rfl _ _) rfl rfl ?_;intro wz Lz Nz;replace D2:=D2.but (L.at (k:=0) rfl) (by decide) (by decide) Nz;replace hoc:=Ai hoc (L.at (k:=0) rfl) (by decide) Nz;clear Nz;replace L:=Lz;clear Lz;simp only[List.set_cons_zero] at L)|(refine Yp (pcL (.slice gd2 8 capd2) (r2:Int) (s2:Int)) ?_)|(refine Ag (ty:=48) L 1 rfl (pcL (.slice gd2 8 capd2) (r2:Int) (s2:Int)) (pcL (.slice gd2 8 capd2) (r2:Int) (s2:Int)) rfl rfl rfl rfl B5 (Fr rfl _ _) rfl rfl ?_;intro wz Lz Nz;replace D2:=D2.but (L.at (k:=1) rfl) (by decide) (by decide) Nz;replace hoc:=Ai hoc (L.at (k:=1) rfl) (by decide) Nz;clear Nz;replace L:=Lz;clear Lz;simp only[s0,s1] at L;replace L:=L.drop1)|(go_at_call 14;(with_reducible refine (HAP.out _ _ D2.t.row (Ay hoc (Nat.zero_le _))).mono ?_);rintro e wz ⟨v17,rfl,hot,hb⟩;have D3:Dn w.heap.size M.m (.slice (some ⟨g,0,none⟩) 256 capg) M.m v17 M.m (.slice (some ⟨g,0,none⟩) 256 capg) (List.replicate 8 false) (.slice gd2 8 capd2) wz:=⟨(D2.bel hb).m,hot.lower L.bel.size,(D2.bel hb).m,(D2.bel hb).f⟩;replace L:=L.below hb;clear hb hot hoc D2)|(refine YL ?_))
     have hI0:=HI.out.ok
     have hl0:=HI.out.len
     obtain⟨v0,hv0⟩:∃ v0:Value,v0=.slice (some ⟨g,0,none⟩) 256 capg:=⟨_,rfl⟩
     have HL:=lh L
     have HD:=lh D3
     have HOK:=lh hI0
     clear L D3 hI0 HRD HAP HCN hv0 v0
     go_loopw [20] (fun kv wx=>∃ (k:Nat) (M':Mc) (v':Value),k≤nr∧kv=.int .i64 k∧Hid M'.Ok∧M'.m.length=256∧Hid (Lay w wx [⟨B11,pcL (.slice gd2 8 capd2) (r2:Int) (s2:Int),48⟩,⟨B9,mcL M' v',43⟩])∧Hid (Dn w.heap.size M'.m v' M.m v17 M.m (.slice (some ⟨g,0,none⟩) 256 capg) (List.replicate 8 false) (.slice gd2 8 capd2) wx)) (fun kv _=>nr - (intOf kv).toNat)
     case atStart=>exact⟨0,M,_,Nat.zero_le _,rfl,HOK,hl0,HL,HD⟩
     case round =>
      clear HL HD
      obtain⟨k,M',v',hk,rfl,HOK',hl',HL,HD⟩:=hrel
      have L:=HL.out
      have D:=HD.out
      clear HL HD
      obtain⟨g',capg',rfl⟩:=GX D.m hl'
      by_cases hlk:k<nr
      · have hl2:(AZ M' 3).1.m.length=256:=(Gf HOK'.out 3).trans hl'
        have hok2:Hid (AZ M' 3).1.Ok:=lh (Et HOK'.out ⟨by decide,by decide⟩)
        have HSP:=lh (fun w h=>step_any (v:=.slice (some ⟨g',0,none⟩) 256 capg') (w:=w) (clk:=3) HOK'.out h (by decide) (by decide))
        obtain⟨R,hR⟩:∃ R,AZ M' 3=R:=⟨_,rfl⟩
        rw[hR] at hl2 hok2 HSP
        clear hR
        go_wp2_with (first|(refine Ad rfl (Au (ty:=3) (u:=.int .i64 x) rfl rfl τ3 rfl (HX.out _ L.bel)) ?_)|(go_at_call 15;(with_reducible refine (HRN.out _).mono ?_);rintro e wz ⟨rfl,hb⟩;replace D:=D.bel hb;replace L:=L.below hb;clear hb)|(refine Yp (mcL M' (.slice (some ⟨g',0,none⟩) 256 capg')) ?_)|(go_at_call 16;(with_reducible refine (HSP.out _ D.m.row).mono ?_);rintro e wz ⟨v2,vo,rfl,hom,_,hb⟩;have D2:Dn w.heap.size R.1.m v2 M.m v17 M.m (.slice (some ⟨g,0,none⟩) 256 capg) (List.replicate 8 false) (.slice gd2 8 capd2) wz:=⟨hom.lower L.bel.size,(D.bel hb).t,(D.bel hb).b,(D.bel hb).f⟩;have hv2:=hom.cell1;replace L:=L.below hb;clear hb hom D)|(refine Ag (ty:=43) L 1 rfl (mcL R.1 v2) (mcL R.1 v2) rfl rfl rfl rfl Aw (Bp _ hv2) rfl rfl ?_;intro wz Lz Nz;replace D2:=D2.but (L.at (k:=1) rfl) (by decide) (by decide) Nz;clear Nz;replace L:=Lz;clear Lz;simp only[s0,s1] at L))
        go_roundw
        case rel=>exact⟨k+1,R.1,v2,by omega,by go_num,hok2,hl2,lh L,lh D2⟩
        case measure=>simp [intOf];omega
      · obtain rfl:k=nr:=by omega
        obtain⟨d2,hd2⟩:∃ d2,DX (List.replicate 8 false) (chL M.m M'.m 8)=d2:=⟨_,rfl⟩
        have HNX:Hid (PreI M' M.m d2):=lh (by rw[←hd2];exact PreI.next HOK.out hl0 HOK'.out hl')
        have HIN:Hid (∀ f∈chL M.m M'.m 8,f∈Cx d2 8):=lh (fun f hf=>by rw[←hd2];exact noted hf)
        have HCH:Hid (∀ w va,MemRow w va M.m→MemRow w (.slice (some ⟨g',0,none⟩) 256 capg') M'.m→Calls Tryz.prog 18 #[va,.slice (some ⟨g',0,none⟩) 256 capg'] w (fun e w'=>∃ v,e=.returned v∧IntRow w' v (chL M.m M'.m 8)∧Below w.heap.size w w')):=lh (fun w va g1 g2=>by
         have:=Ha va _ M.m M'.m w g1 g2 (by rw[hl',hl0]) (by rw[hl0];decide) (by rw[hl0])
         rwa[hl0] at this)
        have HNO:Hid (∀ w vf,RdS bL 1 w (.slice gd2 8 capd2) (List.replicate 8 false)→IntRow w vf (chL M.m M'.m 8)→Calls Tryz.prog 17 #[.agg (pcL (.slice gd2 8 capd2) (r2:Int) (s2:Int)).toArray,vf] w (fun e w'=>∃ v,e=.returned (.agg (pcL v (r2:Int) (s2:Int)).toArray)∧w'.ownsRow w.heap.size 4 1 v 8 (d2.flatMap bL)∧Below w.heap.size w w')):=lh (fun w vf g1 g2=>by
         have:=pnote_any _ vf (List.replicate 8 false) (r2:Int) (s2:Int) (chL M.m M'.m 8) w g1 (RdS.of_int g2) (by decide) (by decide) (Nat.le_trans (chL_len _ _ _) (by decide)) (fun f hf=>by have:=chL_rng f hf;rw[List.length_replicate];exact this)
         rw[hd2] at this
         exact this)
        have HPD:Hid (∀ w gd3 capd3,RdS bL 1 w (.slice gd3 8 capd3) d2→Calls Tryz.prog 19 #[.agg (pcL (.slice gd3 8 capd3) (r2:Int) (s2:Int)).toArray] w (fun e w'=>∃ v,e=.returned v∧w'.ownsRow w.heap.size 3 1 v (Cx d2 8).length (Jy (Cx d2 8))∧Below w.heap.size w w')):=lh (fun w gd3 capd3 g1=>by
         have:=GU _ d2 (r2:Int) (s2:Int) w g1 (by rw[HNX.out.dl];decide)
         rwa[HNX.out.dl] at this)
        clear hd2 hlk hk
        go_wp2_with (first|(refine Ad rfl (Au (ty:=3) (u:=.int .i64 x) rfl rfl τ3 rfl (HX.out _ L.bel)) ?_)|(go_at_call 15;(with_reducible refine (HRN.out _).mono ?_);rintro e wz ⟨rfl,hb⟩;replace D:=D.bel hb;replace L:=L.below hb;clear hb))
        go_cut [] from 108 to 114 (fun wx=>∃ (gd3:Option Addr) (capd3:Nat),Hid (Lay w wx [⟨B11,pcL (.slice gd3 8 capd3) (r2:Int) (s2:Int),48⟩,⟨B9,mcL M' (.slice (some ⟨g',0,none⟩) 256 capg'),43⟩])∧Hid (Dn w.heap.size M'.m (.slice (some ⟨g',0,none⟩) 256 capg') M.m v17 M.m (.slice (some ⟨g,0,none⟩) 256 capg) d2 (.slice gd3 8 capd3) wx))
        case first =>
         have D0:=D
         refine Yh [1] ?_;clear L;intro hHeld L
         replace D:Dn _ _ _ _ _ _ _ _ _ (World.drew _):=D0.bel (Below.drew (Below.refl _ _))
         clear D0
         refine YT ?_
         refine wpAnyH_ready (rs:=[0,4]) (by kernel_rfl) (by simp) ?_
         refine AllReadyH.cons rfl (fun K hK=>?_) (AllReadyH.cons rfl (fun K hK=>?_) AllReadyH.nil)
         · refine Ae (by rfl) (C7 (ty:=48) L 0 rfl (pcL (.slice gd2 8 capd2) (r2:Int) (s2:Int)) rfl rfl τ48 rfl B5 rfl ?_)
           refine hK.out _ _ (L.kept [1] rfl) ?_;clear hHeld hK K;intro hHeld
           (try simp only[q1,q2,q3,Act.put,q4,s0,s1])
           refine zor 4 ?_;intro K hK
           go_simp
           with_reducible refine (HCH.out _ _ D.b.row D.m.row).mono ?_
           rintro e wz ⟨vf,rfl,hvf,hb⟩
           replace L:=L.below hb
           replace D:=D.bel hb
           clear hb
           go_simp
           exact Xz23
         · go_simp
           with_reducible refine (HCH.out _ _ D.b.row D.m.row).mono ?_
           rintro e wz ⟨vf,rfl,hvf,hb⟩
           replace L:=L.below hb
           replace D:=D.bel hb
           clear hb
           go_simp
           refine hK.out _ _ (L.kept [1] rfl) ?_;clear hHeld hK K;intro hHeld
           (try simp only[q1,q2,q3,Act.put,q4,s0,s1])
           refine zor 0 ?_;intro K hK
           refine Ae (by rfl) (C7 (ty:=48) L 0 rfl (pcL (.slice gd2 8 capd2) (r2:Int) (s2:Int)) rfl rfl τ48 rfl B5 rfl ?_)
           exact Xz23
        case rest =>
         obtain⟨gd3,capd3,HL,HD⟩:=hcut
         have L:=HL.out
         have D2:=HD.out
         clear HL HD D
         go_wp2_with (first|(refine Yp (pcL (.slice gd3 8 capd3) (r2:Int) (s2:Int)) ?_)|(go_at_call 18;(with_reducible refine (HCH.out _ _ D2.t.row D2.m.row).mono ?_);rintro e wz ⟨v21,rfl,hv21,hb⟩;obtain⟨a21,c21,rfl,h21a,h21b,h21⟩:=(RdS.of_int hv21).open;replace D2:=D2.bel hb;replace L:=L.below hb;clear hb hv21)|(go_at_call 19;(with_reducible refine (HPD.out _ _ _ D2.rd).mono ?_);rintro e wz ⟨v22,rfl,hv22,hb⟩;obtain⟨a22,c22,rfl,h22a,h22b,h22⟩:=(RdS.of_owns iL_len (ints_flat hv22)).open;replace h21:=h21.below hb;replace D2:=D2.bel hb;replace L:=L.below hb;clear hb hv22)|(refine YL ?_))
         obtain⟨Dl,hDl⟩:∃ l,chL M.m M'.m 8=l:=⟨_,rfl⟩
         obtain⟨Nl,hNl⟩:∃ l,Cx d2 8=l:=⟨_,rfl⟩
         rw[hDl] at h21 HIN
         rw[hNl] at h22 HIN
         rw[hDl,hNl]
         obtain⟨nD,hnD⟩:∃ n,Dl.length=n:=⟨_,rfl⟩
         obtain⟨nN,hnN⟩:∃ n,Nl.length=n:=⟨_,rfl⟩
         have hD8:nD≤8:=by rw[←hnD,←hDl];exact chL_len _ _ _
         have hN8:nN≤8:=by rw[←hnN,←hNl];exact J9 _ _
         rw[hnD] at h21
         rw[hnN] at h22
         rw[hnD,hnN]
         have HnD:=lh hnD
         have HnN:=lh hnN
         have HL:=lh L
         have HD:=lh D2
         have HR1:=lh h21
         have HR2:=lh h22
         clear L D2 h21 h22 hDl hNl hnD hnN h21a h21b h22a h22b HCH HNO HPD
         go_loopw [23] (fun kv wx=>∃ k:Nat,k≤nD∧kv=.int .i64 k∧Hid (Lay w wx [⟨B11,pcL (.slice gd3 8 capd3) (r2:Int) (s2:Int),48⟩,⟨B9,mcL M' (.slice (some ⟨g',0,none⟩) 256 capg'),43⟩])∧Hid (Dn w.heap.size M'.m (.slice (some ⟨g',0,none⟩) 256 capg') M.m v17 M.m (.slice (some ⟨g,0,none⟩) 256 capg) d2 (.slice gd3 8 capd3) wx)∧Hid (RdS iL 1 wx (.slice a21 nD c21) Dl)∧Hid (RdS iL 1 wx (.slice a22 nN c22) Nl)) (fun kv _=>nD - (intOf kv).toNat)
         case atStart=>exact⟨0,Nat.zero_le _,rfl,HL,HD,HR1,HR2⟩
         case round =>
          clear HL HD HR1 HR2
          obtain⟨k,hk,rfl,HL,HD,HR1,HR2⟩:=hrel
          by_cases hlk:k<nD
          · obtain⟨f,hf⟩:=A6 (xs:=Dl) (k:=k) (by rw[HnD.out];exact hlk)
            have HFI:=lh (HIN.out f (List.mem_of_getElem? hf))
            have HF:=lh hf
            clear hf
            go_wp2_with fail
            go_loopw [24,25] (fun iv qv wx=>∃ q:Nat,q≤nN∧iv=.bool (hasI Nl f q)∧qv=.int .i64 q∧Hid (Lay w wx [⟨B11,pcL (.slice gd3 8 capd3) (r2:Int) (s2:Int),48⟩,⟨B9,mcL M' (.slice (some ⟨g',0,none⟩) 256 capg'),43⟩])∧Hid (Dn w.heap.size M'.m (.slice (some ⟨g',0,none⟩) 256 capg') M.m v17 M.m (.slice (some ⟨g,0,none⟩) 256 capg) d2 (.slice gd3 8 capd3) wx)∧Hid (RdS iL 1 wx (.slice a21 nD c21) Dl)∧Hid (RdS iL 1 wx (.slice a22 nN c22) Nl)) (fun _ qv _=>nN - (intOf qv).toNat)
            case atStart=>exact⟨0,Nat.zero_le _,rfl,rfl,HL,HD,HR1,HR2⟩
            case round =>
             clear HL HD HR1 HR2
             obtain⟨q,hq,rfl,rfl,HL,HD,HR1,HR2⟩:=hrel
             by_cases hlq:q<nN
             · obtain⟨z,hz⟩:=A6 (xs:=Nl) (k:=q) (by rw[HnN.out];exact hlq)
               obtain⟨_,b1,o1,rfl,hb1,_,_,hc1⟩:=HR1.out.at (by omega)
               obtain⟨_,b2,o2,rfl,hb2,_,_,hc2⟩:=HR2.out.at (by omega)
               have e1:wr.cell? ⟨b1,o1+k,none⟩=some (.int .i64 f):=by simpa using hc1 k _ HF.out 0 _ rfl
               have e2:wr.cell? ⟨b2,o2+q,none⟩=some (.int .i64 z):=by simpa using hc2 q _ hz 0 _ rfl
               obtain⟨c,hc⟩:∃ c,(z == f)=c:=⟨_,rfl⟩
               have hs:hasI Nl f (q+1)=(hasI Nl f q || c):=by rw[hasI,hz,←hc];congr 1;rw[Bool.eq_iff_iff,decide_eq_true_eq,beq_iff_eq];exact⟨fun e=>by injection e,fun e=>by rw[e]⟩
               obtain⟨iv,hiv⟩:∃ iv,hasI Nl f q=iv:=⟨_,rfl⟩
               rw[hiv] at hs
               rw[hiv]
               have HS:=lh hs
               have L:=HL.out
               have HDw:=HD.out
               clear hs hc1 hc2 hz hiv HL HD
               cases iv with
               | true =>
                 go_wp2_with fail
                 refine wp_region_quiet_below (by kernel_rfl) (by kernel_rfl) ?_
                 repeat (go_big_quiet_step (first|fail|fail))
                 refine wpQuiet_nil ?_
                 intro w1 hw1
                 have hb1:=Aa hw1
                 clear hw1
                 obtain⟨hc1,hf1⟩:=Cn hb1
                 have hz1:=BH hb1
                 try simp only[Bo] at hz1
                 try simp only[sizes] at hc1 hf1
                 go_wp2_with fail
                 go_roundw
                 case rel=>exact⟨q+1,by omega,by rw[HS.out];rfl,by go_num,lh (L.below hb1),lh (HDw.bel hb1),lh (HR1.out.below hb1),lh (HR2.out.below hb1)⟩
                 case measure=>simp [intOf];omega
               | false =>
                 go_wp2_with fail
                 refine wp_region_quiet_below (by kernel_rfl) (by kernel_rfl) ?_
                 repeat (go_big_quiet_step (first|fail|fail))
                 refine wpQuiet_nil ?_
                 intro w1 hw1
                 have hb1:=Aa hw1
                 clear hw1
                 obtain⟨hc1,hf1⟩:=Cn hb1
                 have hz1:=BH hb1
                 try simp only[Bo] at hz1
                 try simp only[sizes] at hc1 hf1
                 go_wp2_with fail
                 go_roundw
                 case rel=>exact⟨q+1,by omega,by rw[HS.out];first|rfl|simp [hc],by go_num,lh (L.below hb1),lh (HDw.bel hb1),lh (HR1.out.below hb1),lh (HR2.out.below hb1)⟩
                 case measure=>simp [intOf];omega
             · obtain rfl:q=nN:=by omega
               have hT:hasI Nl f q=true:=by have:=hasI_mem HFI.out;rwa[HnN.out] at this
               rw[hT]
               clear hlq hT
               go_wp2_with fail
               go_roundw
               case rel=>exact⟨k+1,by omega,by go_num,HL,HD,HR1,HR2⟩
               case measure=>simp [intOf];omega
          · obtain rfl:k=nD:=by omega
            clear hlk
            go_wp2_with fail
            go_roundw
            case rel=>exact⟨i+1,M',_,_,_,M.m,M.m,d2,r2,s2,by omega,by go_num,hr2b,hs2b,HNX,HL,HD⟩
            case measure=>simp [intOf];omega
   | false =>
     have hr11:r2≤11:=by omega
     have HR2':=lh hr2
     have HPD:Hid (∀ w,RdS bL 1 w (.slice gd 8 capd) d→Calls Tryz.prog 19 #[.agg (pcL (.slice gd 8 capd) r s).toArray] w (fun e w'=>∃ a c,e=.returned (.slice a cnt c)∧Below w.heap.size w w')):=lh (fun w g1=>by
      have:=GU _ d r s w g1 (by rw[hdl];decide)
      rw[hdl,hcnt] at this
      refine this.mono ?_
      rintro e w' ⟨v,rfl,ho,hb⟩
      obtain⟨a,c,rfl⟩:=CP ho
      exact⟨a,c,rfl,hb⟩)
     have HCH:Hid (∀ w va vb,MemRow w va M.m→MemRow w vb M.m→Calls Tryz.prog 18 #[va,vb] w (fun e w'=>∃ a c,e=.returned (.slice a 0 c)∧Below w.heap.size w w')):=lh (fun w va vb g1 g2=>by
      have:=Ha va vb M.m M.m w g1 g2 rfl (by rw[HI.out.len];decide) (by rw[HI.out.len])
      rw[chL_self] at this
      refine this.mono ?_
      rintro e w' ⟨v,rfl,ho,hb⟩
      obtain⟨a,c,rfl,_⟩:=ho
      exact⟨a,c,rfl,hb⟩)
     have hlen:=HI.out.len
     have L:=HL.out
     have D:=HD.out
     clear hb hcnt HL HD hr10 hdl hr2 hs2
     go_upto_region 40 with (first|(refine Yp (pcL (.slice gd 8 capd) r s) ?_)|(go_at_call 12;(with_reducible refine (HST.out _ D.rd).mono ?_);rintro e wz ⟨rfl,hb⟩;replace D:=D.bel hb;replace L:=L.below hb;clear hb)|(go_at_call 19;(with_reducible refine (HPD.out _ D.rd).mono ?_);rintro e wz ⟨a27,c27,rfl,hb⟩;replace D:=D.bel hb;replace L:=L.below hb;clear hb)|(go_at_call 13;(with_reducible refine (HRD.out _ D.rd D.m.row).mono ?_);rintro e wz ⟨vd2,vc,rfl,hof2,hoc2,hb⟩;obtain⟨gd2,capd2,rfl⟩:=CP hof2;obtain⟨ac,capc,rfl⟩:=CP hoc2;have hoc:=Ay (base':=w.heap.size) hoc2 L.bel.size;have D2:=D.bel hb;replace L:=L.below hb;clear hb hof2 hoc2 D)|(refine Ag (ty:=48) L 0 rfl (pcL (.slice gd2 8 capd2) (r2:Int) (s2:Int)) (pcL (.slice gd2 8 capd2) (r2:Int) (s2:Int)) rfl rfl rfl rfl B5 (Fr rfl _ _) rfl rfl ?_;intro wz Lz Nz;replace D2:=D2.but (L.at (k:=0) rfl) (by decide) (by decide) Nz;replace hoc:=Ai hoc (L.at (k:=0) rfl) (by decide) Nz;clear Nz;replace L:=Lz;clear Lz;simp only[List.set_cons_zero] at L)|(go_at_call 14;(with_reducible refine (HAP.out _ _ D2.t.row (Ay hoc (Nat.zero_le _))).mono ?_);rintro e wz ⟨v29,rfl,hot,hb⟩;obtain⟨g29,cap29,rfl⟩:=GX hot hlen;replace hot:=hot.row;have hmm:=(D2.bel hb).m.row;replace L:=L.below hb;clear hb hoc D2)|(go_at_call 18;(with_reducible refine (HCH.out _ _ _ hot hmm).mono ?_);rintro e wz ⟨a40,c40,rfl,hb⟩;replace L:=L.below hb;clear hb)|(refine YL ?_))
     have tn:((cnt:Int) != (cnt:Int))=false:=bne_self_eq_false _
     have tnn:(cnt != cnt)=false:=bne_self_eq_false _
     go_cut [188] from 165 to 189 (fun q wx=>q=.bool false∧Hid (Lay w wx [⟨B11,pcL (.slice gd2 8 capd2) (r2:Int) (s2:Int),48⟩,⟨B9,mcL M (.slice (some ⟨g,0,none⟩) 256 capg),43⟩]))
     case first =>
      go_wp2_with (first|(go_at_call 18;(with_reducible refine (HCH.out _ _ _ hot hmm).mono ?_);rintro e wz ⟨a40,c40,rfl,hb⟩;replace L:=L.below hb;clear hb)|(refine YL ?_))
      go_meet
      exact⟨rfl,lh L⟩
     case rest =>
      obtain⟨rfl,HL⟩:=hcut
      have L:=HL.out
      clear tn tnn HL hot hmm
      go_upto_region 42 with fail
      have hB:=HBS.out
      rw[HCN.out] at hB
      have hR2:=HR2'.out
      clear HBS HCN HR2'
      cases bst with
      | false =>
        exact Xz107
      | true =>
        by_cases q1:(cnt:Int)≤limit
        · have q2:decide ((cnt:Int)≤limit)=true:=decide_eq_true q1
          exact Xz107
        · have q2:decide ((cnt:Int)≤limit)=false:=decide_eq_false q1
          rw[q2,Bool.false_or,decide_eq_true_eq] at hB
          have q3:decide ((10:Int)<(r2:Int))=true:=decide_eq_true (by omega)
          have q3n:decide (10<r2)=true:=decide_eq_true (by omega)
          clear hB hR2 q1
          go_wp2_with (first|(go_skip;first|(go_step;go_big_op)|skip)|(refine YL ?_)|(refine YS ?_;clear L;intro wz L))
          go_ret
          exact Ret.mk L.bel
end Go.Proofs.YtnmpfmapncicmaaGreat
