/-
  Texts joined: Base RowsAt Str Regions Pool PoolModel. No law is proved here.
-/
import Derived.Test.YtbnngjhnkegliaaGreatRows
import Derived.WalkKit
import Derived.WalkSpells
import Derived.WalkLawsBesides
import Derived.Lib.Hide
import Derived.Deep.QuietTactic
import Derived.BigQuiet
import Derived.Lib.QuietBelow
import Derived.Laws.CopyOwn
import Derived.StillTail
import Derived.Deep.RegionWith
import Derived.Deep.RegionLaw
import Derived.Deep.Cut
import Derived.Deep.CutRange
namespace Go.Proofs.YtbnngjhnkegliaaGreat
open Go.RowKit
theorem lh {p : Prop} (h : p) : Hid p := Lib.hid h
theorem nlr (n : Nat) : n ≤ n := Nat.le_refl n
def Ret (w:World) (v:Value) (e:Ending) (w':World):Prop:=e=.returned v∧Below w.heap.size w w'
theorem Ret.mk {w w':World} {v:Value} (h:Below w.heap.size w w'):Ret w v (.returned v) w':=⟨rfl,h⟩
theorem Ret.mk' {w w':World} {v u:Value} (e:u=v) (h:Below w.heap.size w w'):Ret w v (.returned u) w':=⟨by rw[e],h⟩
theorem bcell {W w1:World} (hb:Below W.heap.size W w1):(∀ b o,b<W.heap.size→w1.cell? ⟨b,o,none⟩=W.cell? ⟨b,o,none⟩)∧(∀ b o,b<W.heap.size→w1.frozen? ⟨b,o,none⟩=W.frozen? ⟨b,o,none⟩) :=
 ⟨fun b o h=>hb.cell (p:=⟨b,o,none⟩) h,fun b o h=>hb.frozen (p:=⟨b,o,none⟩) h⟩
theorem bsize {W w1:World} (hb:Below W.heap.size W w1):W.heap.size≤w1.heap.size:=hb.size
theorem sizes:(∀ (w:World) (o:Obj),(w.alloc o).heap.size=w.heap.size+1)∧(∀ (w:World) (a:Addr) (v:Value),(w.setCell a v).heap.size=w.heap.size)∧(∀ w:World,w.drew.heap.size=w.heap.size) :=
 ⟨fun _ _=>World.size_alloc ..,fun _ _ _=>World.size_setCell ..,fun _=>rfl⟩
theorem sizes1:(∀ (w:World) (o:Obj),(w.alloc o).heap.size=w.heap.size+1)∧(∀ (w:World) (a:Addr) (v:Value),(w.setCell a v).heap.size=w.heap.size)∧(∀ w:World,w.drew.heap.size=w.heap.size)∧(∀ n m:Nat,(n+1≤m)=(n<m)) :=
 ⟨sizes.1,sizes.2.1,sizes.2.2,fun _ _=>rfl⟩
theorem quiet_ret {P:Program} {f:FuncId} {args:Array Value} {w:World} {d:Nat} {os:Array Obj} {v:Value}
    (h:Calls P f args (Sort.grow (redrawn w d) os) (Ret (Sort.grow (redrawn w d) os) v)):Calls P f args (Sort.grow (redrawn w d) os) fun e w''=>e=.returned v∧∃ p:Regrown,w''=Sort.grow (redrawn w p.d) p.os :=
 Calls.regrown_of (h.mono fun _ _ hh=>⟨hh.1,hh.2⟩)
@[go_sem] theorem cell_regrown_lt (w:World) (d:Nat) (os:Array Obj) (b o:Nat) (h:b<w.heap.size):(Sort.grow (redrawn w d) os).cell? ⟨b,o,none⟩=w.cell? ⟨b,o,none⟩ :=
 (below_regrown w d os).cell (p:=⟨b,o,none⟩) h
theorem below_of_regrown {w w':World} (h:∃ p:Regrown,w'=Sort.grow (redrawn w p.d) p.os):Below w.heap.size w w':=by
 obtain⟨p,rfl⟩:=h
 exact below_regrown w p.d p.os
theorem isEmpty_iff (s:ByteArray):s.toList.isEmpty=decide (s.size=0):=by
 rw[ByteArray.toList_eq]
 cases s with
 | mk d =>
   cases d with
   | mk l=>cases l <;> simp [ByteArray.size]
theorem bel3 {n : Nat} {w w' : World} (h : Below n w w' := by (repeat' (first|(with_reducible first|assumption|exact Below.refl _ _|refine Below.drew ?_|refine Below.alloc' ?_ (nlr _) _|refine Below.setCell ?_ ?_ _)|refine Below.trans ?_ (Below.mono (by with_reducible assumption) ?_)|exact rfl|exact nlr _|omega|(simp only[sizes];done)|(simp only[sizes];omega)))) : Below n w w' := h
theorem bel {n : Nat} {w w' : World} (h : Below n w w' := by repeat' (first|(with_reducible first|exact Below.refl _ _|refine Below.drew ?_|refine Below.alloc ?_ ?_ _|refine Below.setCell ?_ ?_ _)|refine Below.trans ?_ (Below.mono (by with_reducible assumption) ?_)|exact nlr _|omega|(simp only[sizes];done)|(simp only[sizes];omega))) : Below n w w' := h
theorem sz5 {p : Prop} (h : p := by first|exact rfl|exact nlr _|omega|(dsimp only;omega)|(simp only[sizes];done)|(simp only[sizes];omega)) : p := h
theorem sz4 {p : Prop} (h : p := by first|exact rfl|exact nlr _|omega|(simp only[sizes];done)|(simp only[sizes];omega)) : p := h
def RowAt (w:World) (v:Value) (n:Nat) (vals:List Value):Prop :=
 ∃ (ao:Option Addr) (cap:Nat),v=.slice ao n cap∧n≤cap∧cap≤maxLen∧(vals=[]∨∃ b off,ao=some ⟨b,off,none⟩∧b<w.heap.size∧∀ (i:Nat) (u:Value),vals[i]?=some u→w.cell? ⟨b,off+i,none⟩=some u)
theorem RowAt.below {w w':World} {v:Value} {n:Nat} {vals:List Value} (h:RowAt w v n vals) (hb:Below w.heap.size w w'):RowAt w' v n vals:=by
 obtain⟨ao,cap,hv,h1,h2,h3⟩:=h
 refine ⟨ao,cap,hv,h1,h2,?_⟩
 rcases h3 with h3|⟨b,off,ha,hlt,hc⟩
 · exact .inl h3
 · exact .inr ⟨b,off,ha,Nat.lt_of_lt_of_le hlt hb.size,fun i u hu=>(hb.cell (p:=⟨b,off+i,none⟩) hlt).trans (hc i u hu)⟩
theorem RowAt.nil (w:World):RowAt w (.slice none 0 0) 0 []:=⟨none,0,rfl,nlr _,Nat.zero_le _,.inl rfl⟩
theorem RowAt.of_owns {w:World} {base:Nat} {e:TypeId} {size n:Nat} {v:Value} {vals:List Value} (h:w.ownsRow base e size v n vals):RowAt w v n vals:=by
 obtain⟨hl,h⟩:=h
 rcases h with ⟨rfl,rfl⟩|⟨g,cap,cur,rfl,hb,hg,hn,hm,hs,ht⟩
 · obtain rfl:vals=[]:=by simpa using hl
   exact RowAt.nil w
 · refine ⟨_,cap,rfl,hn,hm,.inr ⟨g,0,rfl,(Array.getElem?_eq_some_iff.1 hg).1,fun i u hu=>?_⟩⟩
   rw[Nat.zero_add,cell_of_row w g i cur e (0,0) hg]
   rw[←ht,List.getElem?_take] at hu
   split at hu
   · simpa using hu
   · cases hu
def IntRow (w:World) (v:Value) (xs:List Int):Prop:=RowAt w v xs.length (xs.map (Value.int .i64))
theorem IntRow.below {w w':World} {v:Value} {xs:List Int} (h:IntRow w v xs) (hb:Below w.heap.size w w'):IntRow w' v xs:=RowAt.below h hb
theorem IntRow.out {w:World} {v:Value} {xs:List Int} (h:IntRow w v xs):∃ (ao:Option Addr) (cap:Nat),v=.slice ao xs.length cap∧xs.length≤cap∧cap≤maxLen ∧
    (xs.length=0∨∃ b off,ao=some ⟨b,off,none⟩∧b<w.heap.size∧∀ (i:Nat) (x:Int),xs[i]?=some x→w.cell? ⟨b,off+i,none⟩=some (.int .i64 x)):=by
 obtain⟨ao,cap,hv,h1,h2,h3⟩:=h
 refine ⟨ao,cap,hv,h1,h2,?_⟩
 rcases h3 with h3|⟨b,off,ha,hlt,hc⟩
 · exact .inl (by simpa using h3)
 · exact .inr ⟨b,off,ha,hlt,fun i x hx=>hc i _ (by rw[List.getElem?_map,hx];rfl)⟩
theorem IntRow.nil (w:World):IntRow w (.slice none 0 0) []:=RowAt.nil w
theorem owns_below {w w':World} {base:Nat} {e:TypeId} {size n:Nat} {v:Value} {xs:List Value} (h:w.ownsRow base e size v n xs) (hb:Below w.heap.size w w'):w'.ownsRow base e size v n xs :=
 h.kept (row:=none) ⟨hb.os,hb.tape,hb.output,hb.size,fun k hk _=>hb.block k hk⟩ (by cases hv:v.ownBlock <;> simp)
theorem below_append {w W w2:World} {e:TypeId} {size n:Nat} {v:Value} {xs:List Value} (hB:Below w.heap.size w W) (hown:W.ownsRow w.heap.size e size v n xs) (hg:W.grownBy w2 v.ownBlock):Below w.heap.size w w2 :=
 hB.grown hg hB.size (fun k hk=>(hown.lt k hk).1)
theorem below_append' {w W w2:World} {base:Nat} {e:TypeId} {size n:Nat} {v:Value} {xs:List Value} (hB:Below w.heap.size w W) (hown:W.ownsRow base e size v n xs) (hg:W.grownBy w2 v.ownBlock) (hb:w.heap.size≤base):Below w.heap.size w w2 :=
 hB.grown hg hB.size (fun k hk=>Nat.le_trans hb (hown.lt k hk).1)
theorem cells_made (w:World) (cs:List Value) (e:TypeId) (n:Nat) (hn:n=w.heap.size):∀ (j:Nat) (u:Value),cs[j]?=some u→(w.alloc (.cells cs.toArray e)).cell? ((⟨n,0,none⟩:Addr).add j)=some u:=by
 subst hn
 intro j u h
 have e1:(⟨w.heap.size,0,none⟩:Addr).add j=⟨w.heap.size,j,none⟩:=by unfold Addr.add;split <;> simp_all
 rw[e1,World.cell?_alloc_at (hn:=rfl)]
 simpa using h
def HasBlock (w:World) (b:Nat) (cs:Array Value) (T:TypeId):Prop:=w.heap[b]?=some (.cells cs T (0,0))
theorem HasBlock.lt {w:World} {b:Nat} {cs:Array Value} {T:TypeId} (h:HasBlock w b cs T):b<w.heap.size:=(Array.getElem?_eq_some_iff.1 h).1
theorem HasBlock.alloc {w:World} {b:Nat} {cs:Array Value} {T:TypeId} (h:HasBlock w b cs T) (o:Obj):HasBlock (w.alloc o) b cs T:=(Below.heap_alloc w o b h.lt).trans h
theorem HasBlock.drew {w:World} {b:Nat} {cs:Array Value} {T:TypeId} (h:HasBlock w b cs T):HasBlock w.drew b cs T:=h
theorem HasBlock.set_ne {w:World} {b:Nat} {cs:Array Value} {T:TypeId} (h:HasBlock w b cs T) {b' j:Nat} (hne:b≠b') (v:Value):HasBlock (w.setCell ⟨b',j,none⟩ v) b cs T:=(Below.heap_setCell w _ v b hne).trans h
theorem HasBlock.set_at {w:World} {b:Nat} {cs:Array Value} {T:TypeId} (h:HasBlock w b cs T) (j:Nat) (v:Value):HasBlock (w.setCell ⟨b,j,none⟩ v) b (cs.setIfInBounds j v) T:=by
 unfold HasBlock at *
 simp only[World.setCell,Array.getElem?_modify,h]
 simp
theorem HasBlock.below {w w':World} {b:Nat} {cs:Array Value} {T:TypeId} (h:HasBlock w b cs T) (hb:Below w.heap.size w w'):HasBlock w' b cs T:=(hb.block b h.lt).trans h
theorem HasBlock.made (w:World) (cs:Array Value) (T:TypeId):HasBlock (w.alloc (.cells cs T)) w.heap.size cs T:=heap_alloc_new w _
theorem HasBlock.cell {w:World} {b:Nat} {cs:Array Value} {T:TypeId} (h:HasBlock w b cs T) (j:Nat):w.cell? ⟨b,j,none⟩=cs[j]?:=cell_of_row w b j cs T (0,0) h
theorem HasBlock.free {w:World} {b:Nat} {cs:Array Value} {T:TypeId} (h:HasBlock w b cs T) (j:Nat):w.frozen? ⟨b,j,none⟩=false:=by
 unfold HasBlock at h
 simp [World.frozen?,h]
theorem HasBlock.append {W w2:World} {b:Nat} {cs:Array Value} {T:TypeId} (h:HasBlock W b cs T) {base:Nat} {e:TypeId} {size n:Nat} {v:Value} {xs:List Value} (hown:W.ownsRow base e size v n xs) (hg:W.grownBy w2 v.ownBlock) (hlt:b<base):HasBlock w2 b cs T :=
 (hg.block b h.lt (fun e=>by have:=(hown.lt b e.symm).1;omega)).trans h
theorem run_make_one {P:Program} (t e:TypeId) (z:Value) (bytes:Nat) (ht:P.underlying t=some (.slice e)) (hinfo:(P.info? e).map (fun i=>(i.zero,i.size,i.bytes))=some (some z,1,bytes)) (hz:z.cells=#[z])
    (n:Nat) (hb:bytes*n≤281474976710656) (hn:n≤9223372036854775807) (w:World) :
    (Instr.makeSlice t (.int .i64 (n:Int)) (.int .i64 (n:Int))).run P w=.ok (.slice (some ⟨w.heap.size,0,none⟩) n n) (w.alloc (.cells (List.replicate n z).toArray e)):=by
 obtain⟨i,hi,hz0,hz1,hz2⟩:=info_parts hinfo
 have hbytes:(i.bytes:Int)*(n:Int)≤281474976710656:=by
  have h:((i.bytes*n:Nat):Int)≤281474976710656:=by rw[hz2];omega
  rwa[Int.natCast_mul] at h
 have hr:=run_make (P:=P) w t e i z ht hi hz0 .i64 .i64 n n (by omega) (by omega) hbytes (by omega)
 simp only[Int.toNat_natCast] at hr
 rw[hr,hz,hz1,Nat.mul_one]
 congr 3
 apply Array.toList_inj.1
 rw[toList_madeCells_one]
theorem get_lt {α:Type} {xs:List α} {k:Nat} (h:k<xs.length):∃ x,xs[k]?=some x:=⟨xs[k],List.getElem?_eq_getElem h⟩
theorem lt_of_get {α:Type} {xs:List α} {k:Nat} {x:α} (h:xs[k]?=some x):k<xs.length:=(List.getElem?_eq_some_iff.1 h).1
section
variable {α:Type} (enc:α→Value)
def EncRow (w:World) (v:Value) (xs:List α):Prop:=RowAt w v xs.length (xs.map enc)
def OwnEnc (e:TypeId) (base:Nat) (w:World) (v:Value) (xs:List α):Prop:=w.ownsRow base e 1 v xs.length (xs.map enc)
def RetOwn (e:TypeId) (w:World) (xs:List α) (en:Ending) (w':World):Prop:=∃ v,en=.returned v∧OwnEnc enc e w.heap.size w' v xs∧Below w.heap.size w w'
end
theorem EncRow.below {α:Type} {enc:α→Value} {w w':World} {v:Value} {xs:List α} (h:EncRow enc w v xs) (hb:Below w.heap.size w w'):EncRow enc w' v xs:=RowAt.below h hb
theorem OwnEnc.row {α:Type} {enc:α→Value} {e:TypeId} {base:Nat} {w:World} {v:Value} {xs:List α} (h:OwnEnc enc e base w v xs):EncRow enc w v xs:=RowAt.of_owns h
theorem OwnEnc.below {α:Type} {enc:α→Value} {e:TypeId} {base:Nat} {w w':World} {v:Value} {xs:List α} (h:OwnEnc enc e base w v xs) (hb:Below w.heap.size w w'):OwnEnc enc e base w' v xs:=owns_below h hb
theorem owns_lower {w:World} {base base':Nat} {e:TypeId} {size n:Nat} {v:Value} {xs:List Value} (h:w.ownsRow base e size v n xs) (hb:base'≤base):w.ownsRow base' e size v n xs:=by
 obtain⟨h1,h2⟩:=h
 refine ⟨h1,?_⟩
 rcases h2 with h2|⟨g,cap,cur,e1,e2,h3⟩
 · exact .inl h2
 · exact .inr ⟨g,cap,cur,e1,Nat.le_trans hb e2,h3⟩
theorem OwnEnc.lower {α:Type} {enc:α→Value} {e:TypeId} {base base':Nat} {w:World} {v:Value} {xs:List α} (h:OwnEnc enc e base w v xs) (hb:base'≤base):OwnEnc enc e base' w v xs:=owns_lower h hb
theorem OwnEnc.alloc {α:Type} {enc:α→Value} {e:TypeId} {base:Nat} {w:World} {v:Value} {xs:List α} (h:OwnEnc enc e base w v xs) (o:Obj):OwnEnc enc e base (w.alloc o) v xs:=World.ownsRow.alloc h o
theorem EncRow.out {α:Type} {enc:α→Value} {w:World} {v:Value} {xs:List α} (h:EncRow enc w v xs):∃ (ao:Option Addr) (cap:Nat),v=.slice ao xs.length cap∧xs.length≤cap∧cap≤maxLen ∧
    (xs.length=0∨∃ b off,ao=some ⟨b,off,none⟩∧b<w.heap.size∧∀ (i:Nat) (x:α),xs[i]?=some x→w.cell? ⟨b,off+i,none⟩=some (enc x)):=by
 obtain⟨ao,cap,hv,h1,h2,h3⟩:=h
 refine ⟨ao,cap,hv,h1,h2,?_⟩
 rcases h3 with h3|⟨b,off,ha,hlt,hc⟩
 · exact .inl (by simpa using h3)
 · exact .inr ⟨b,off,ha,hlt,fun i x hx=>hc i _ (by rw[List.getElem?_map,hx];rfl)⟩
theorem OwnEnc.raw {α:Type} {enc:α→Value} {e:TypeId} {base:Nat} {w:World} {v:Value} {xs:List α} (h:OwnEnc enc e base w v xs):w.ownsRow base e 1 v xs.length (xs.map enc):=h
theorem OwnEnc.form {α:Type} {enc:α→Value} {e:TypeId} {base:Nat} {w:World} {v:Value} {xs:List α} (h:OwnEnc enc e base w v xs):∃ (ao:Option Addr) (cap:Nat),v=.slice ao xs.length cap∧xs.length≤cap∧cap≤9223372036854775807:=by
 rcases h.2 with ⟨rfl,h0⟩|⟨g,cap,cur,rfl,_,_,hn,hm,_⟩
 · have:xs=[]:=by simpa using h0
   subst this
   exact⟨none,0,rfl,nlr _,by omega⟩
 · exact⟨_,cap,rfl,hn,by unfold maxLen at hm;omega⟩
theorem OwnEnc.addr {α:Type} {enc:α→Value} {e:TypeId} {base n:Nat} {w:World} {ao:Option Addr} {k:Nat} {xs:List α} (h:OwnEnc enc e base w (.slice ao n k) xs) (hn:xs.length=n) (h0:0<n):∃ g,ao=some ⟨g,0,none⟩∧base≤g∧g<w.heap.size:=by
 rcases h.2 with ⟨hv,h0'⟩|⟨g,cap,cur,hv,hb,hg,_⟩
 · have:xs=[]:=by simpa using h0'
   subst this
   simp at hn
   omega
 · injection hv with hv
   exact⟨g,hv,hb,(Array.getElem?_eq_some_iff.1 hg).1⟩
theorem OwnEnc.len {α:Type} {enc:α→Value} {e:TypeId} {base n k:Nat} {ao:Option Addr} {w:World} {xs:List α} (h:OwnEnc enc e base w (.slice ao n k) xs):n=xs.length:=by
 obtain⟨ao',cap,hv,_⟩:=h.form
 injection hv
theorem OwnEnc.at {α:Type} {enc:α→Value} {e:TypeId} {base n g k:Nat} {w:World} {xs:List α} (h:OwnEnc enc e base w (.slice (some ⟨g,0,none⟩) n k) xs) {j:Nat} {x:α} (hx:xs[j]?=some x):w.cell? ⟨g,j,none⟩=some (enc x)∧w.frozen? ⟨g,j,none⟩=false:=by
 have hj:=lt_of_get hx
 obtain rfl:=h.len
 refine ⟨(World.ownsRow.cellAt h j (by omega)).trans (by rw[List.getElem?_map,hx];rfl),World.ownsRow.frozenAt h j⟩
theorem OwnEnc.put {α:Type} {enc:α→Value} {e:TypeId} {base n g k:Nat} {w:World} {xs:List α} (h:OwnEnc enc e base w (.slice (some ⟨g,0,none⟩) n k) xs) (j:Nat) (x:α):OwnEnc enc e base (w.setCell ⟨g,j,none⟩ (enc x)) (.slice (some ⟨g,0,none⟩) n k) (xs.set j x):=by
 obtain rfl:=h.len
 have h5:=(World.ownsRow.stored h j (enc x)).1
 unfold OwnEnc
 rw[List.length_set,List.map_set]
 exact h5
theorem add_of_none (b off j:Nat):(⟨b,off,none⟩:Addr).add j=⟨b,off+j,none⟩:=by unfold Addr.add;split <;> simp_all
theorem RowAt.cells {w:World} {a:Addr} {n cap:Nat} {vals:List Value} (h:RowAt w (.slice (some a) n cap) n vals):∀ (j:Nat) (u:Value),vals[j]?=some u→w.cell? (a.add j)=some u:=by
 obtain⟨ao,cap',hv,_,_,h3⟩:=h
 injection hv with e1 _ e2
 subst e1
 intro j u hu
 rcases h3 with h3|⟨b,off,ha,_,hc⟩
 · rw[h3] at hu;simp at hu
 · injection ha with ha
   subst ha
   rw[add_of_none]
   exact hc j u hu
theorem EncRow.cells' {α:Type} {enc:α→Value} {w:World} {a:Addr} {n cap:Nat} {xs:List α} (h:EncRow enc w (.slice (some a) n cap) xs):∀ (j:Nat) (u:Value),(xs.map enc)[j]?=some u→w.cell? (a.add j)=some u:=by
 have hn:n=xs.length:=by
  obtain⟨ao,cap,hv,_⟩:=h.out
  injection hv
 subst hn
 exact RowAt.cells h
theorem info_str:(Tryz.prog.info? 9).map (fun i=>(i.zero,i.size,i.bytes))=some (some (.string ⟨#[]⟩),1,16):=by kernel_rfl
abbrev StrRow:=EncRow Value.string
abbrev OwnStr:=OwnEnc Value.string 9
set_option maxHeartbeats 1000000 in
theorem clone_str (va:Value) (xs:List ByteArray) (w:World) (ha:EncRow Value.string w va xs) (hn:xs.length≤1099511627776):Calls Tryz.prog 73 #[va] w (RetOwn Value.string 9 w xs):=by
 obtain⟨ao,cap,rfl,h1,h2,h3⟩:=ha.out
 obtain⟨n,hn'⟩:∃ n,xs.length=n:=⟨_,rfl⟩
 have hrow:RowAt w (.slice ao n cap) n (xs.map Value.string):=by rw[←hn'];exact ha
 rw[hn'] at hn ⊢
 have HN:=lh hn';clear hn' h1 h2 ha
 have q22:∀ (w:World) (a:Option Addr) (n c n' c':Nat),(binOp .eql 22 (.slice a n c) (.slice none n' c')).run Tryz.prog w=.ok (.bool a.isNone) w:=fun w a n c n' c'=>Lib.run_eql_slice_nil w _ _ a n c n' c' Tryz.underlying22
 cases ao with
 | none =>
   have h0:xs=[]:=by
    rcases h3 with h3|⟨b,off,hb,_⟩
    · exact List.eq_nil_of_length_eq_zero h3
    · cases hb
   subst h0
   clear h3 hrow HN
   go_enter Tryz.func73,Tryz.ntmps73
   go_wp2_with fail
   go_ret
   exact⟨_,rfl,World.ownsRow_nil _ _ _ _,bel⟩
 | some a =>
   clear h3
   have HR:=lh hrow;clear hrow
   obtain⟨i0,hi,iz0,iz1,iz2⟩:=info_parts info_str
   go_enter Tryz.func73,Tryz.ntmps73
   go_wp2_with (at_builtin;refine wpList_append_own _ rfl _ _ 22 rfl w.heap.size 9 i0 (.string ⟨#[]⟩) 1 16 Tryz.underlying22 hi iz0 iz1 iz2 rfl (by decide) _ _ _ rfl (World.ownsRow_made w #[] 0 (nlr _) (Nat.zero_le _) (by simp)) a n cap (xs.map Value.string) rfl ?qc1 ?qc2 ?qc3 ?qc4 ?qc5 ?qc6 ?_)
   case qc1=>rw[List.length_map,HN.out,Nat.mul_one]
   case qc2=>exact fun j u hj=>Lib.cell?_alloc_some _ (HR.out.cells j u hj)
   case qc3=>intro u hu;rw[List.mem_map] at hu;obtain⟨x,_,rfl⟩:=hu;rfl
   case qc4=>unfold maxLen;omega
   case qc5=>omega
   case qc6=>simp
   intro v' w1 hown hgrow _
   have HO:=lh hown;clear hown
   go_wp2_with fail
   go_ret
   refine ⟨v',rfl,?_,?_⟩
   · unfold OwnEnc;rw[HN.out];simpa using HO.out
   · exact ((Below.refl _ w).alloc (nlr _) _).grown hgrow (by simp) (by intro k hk;simp [Value.ownBlock] at hk;omega)
theorem take_succ_eq {α:Type} {A B:List α} {k:Nat} {x:α} (h:A.take k=B.take k) (ha:A[k]?=some x) (hb:B[k]?=some x):A.take (k+1)=B.take (k+1):=by
 rw[List.take_add_one,List.take_add_one,h,ha,hb]
theorem toList_inj {x y:ByteArray} (h:x.toList=y.toList):x=y:=by
 rw[ByteArray.toList_eq,ByteArray.toList_eq] at h
 exact ByteArray.ext (Array.toList_inj.1 h)
theorem toList_ne {x y:ByteArray} (h:x≠y):(x.toList == y.toList)=false:=by
 rw[beq_eq_false_iff_ne]
 exact fun e=>h (toList_inj e)
set_option maxHeartbeats 1000000 in
theorem same_str (va vb:Value) (A B:List ByteArray) (w:World) (ha:StrRow w va A) (hb:StrRow w vb B):Calls Tryz.prog 25 #[va,vb] w (Ret w (.bool (decide (A=B)))):=by
 obtain⟨ao,ca,rfl,a1,a2,a3⟩:=ha.out
 obtain⟨bo,cb,rfl,b1,b2,b3⟩:=hb.out
 unfold maxLen at a2 b2
 clear ha hb
 obtain⟨n,hn⟩:∃ n,A.length=n:=⟨_,rfl⟩
 obtain⟨m,hm⟩:∃ n,B.length=n:=⟨_,rfl⟩
 rw[hn] at a1 a3 ⊢
 rw[hm] at b1 b3 ⊢
 by_cases hnm:n=m
 · subst hnm
   have HN:=lh hn;clear hn
   have HM:=lh hm;clear hm
   go_enter Tryz.func25,Tryz.ntmps25
   go_wp2_with fail
   go_loopw [5] (fun i wr=>∃ k:Nat,k≤n∧i=.int .i64 k∧Hid (A.take k=B.take k)∧Below w.heap.size w wr) (fun i _=>n - (intOf i).toNat)
   case atStart=>exact⟨0,Nat.zero_le _,rfl,rfl,bel⟩
   case round =>
    obtain⟨k,hk,rfl,hT,hbw⟩:=hrel
    by_cases hlt:k<n
    · obtain⟨x,hx⟩:=get_lt (xs:=A) (k:=k) (by rw[HN.out];exact hlt)
      obtain⟨y,hy⟩:=get_lt (xs:=B) (k:=k) (by rw[HM.out];exact hlt)
      obtain⟨b,off,rfl,hbs,hbc⟩:=a3.resolve_left (by omega)
      obtain⟨b',off',rfl,hbs',hbc'⟩:=b3.resolve_left (by omega)
      have c1:=(hbw.cell (p:=⟨b,off+k,none⟩) hbs).trans (hbc k x hx)
      have c2:=(hbw.cell (p:=⟨b',off'+k,none⟩) hbs').trans (hbc' k y hy)
      clear hbc hbc' a3 b3
      have hz0:=hbw.size
      have hbs2:b<wr.heap.size:=by omega
      have hbs2':b'<wr.heap.size:=by omega
      by_cases hxy:x=y
      · subst hxy
        have HX:=lh hx;clear hx
        have HY:=lh hy;clear hy
        go_wp2_with fail
        refine wp_region_quiet_below (by kernel_rfl) (by kernel_rfl) ?_
        repeat (go_big_quiet_step (first|fail|fail))
        refine wpQuiet_nil ?_
        intro w3 hw3
        have hb3:=below_of_regrown hw3
        clear hw3
        obtain⟨hc3,hf3⟩:=bcell hb3
        have hz3:=bsize hb3
        try simp only[sizes1] at hz3
        try simp only[sizes] at hc3 hf3
        go_wp2_with fail
        go_roundw
        case rel=>exact⟨k+1,by omega,by go_num,take_succ_eq hT.out HX.out HY.out,bel⟩
        case measure=>simp [intOf];omega
      · have hne:decide (A=B)=false:=by
          refine decide_eq_false (fun e=>hxy ?_)
          rw[e,hy] at hx
          injection hx with hx
          exact hx.symm
        have hne2:=toList_ne hxy
        have HNE:=lh hne;clear hne
        have HX:=lh hx;clear hx
        have HY:=lh hy;clear hy
        go_wp2_with fail
        refine wp_region_quiet_below (by kernel_rfl) (by kernel_rfl) ?_
        repeat (go_big_quiet_step (first|fail|fail))
        refine wpQuiet_nil ?_
        intro w3 hw3
        have hb3:=below_of_regrown hw3
        clear hw3
        obtain⟨hc3,hf3⟩:=bcell hb3
        have hz3:=bsize hb3
        try simp only[sizes1] at hz3
        try simp only[sizes] at hc3 hf3
        go_wp2_with fail
        go_ret
        exact Ret.mk' (by rw[HNE.out];rfl) bel
    · obtain rfl:k=n:=by omega
      have e:decide (A=B)=true:=by
       have h:=hT.out
       rw[List.take_of_length_le (by rw[HN.out];exact nlr _),List.take_of_length_le (by rw[HM.out];exact nlr _)] at h
       exact decide_eq_true h
      have HE:=lh e;clear e
      go_wp2_with fail
      go_ret
      exact Ret.mk' (by rw[HE.out];rfl) bel
 · have hne:decide (A=B)=false:=decide_eq_false (fun e=>hnm (by rw[←hn,←hm,e]))
   have HNE:=lh hne;clear hne hn hm
   have e1:((n:Int) != m)=true:=by rw[bne_iff_ne];omega
   have e2:(n != m)=true:=by rw[bne_iff_ne];omega
   go_enter Tryz.func25,Tryz.ntmps25
   go_wp2_with fail
   go_ret
   exact Ret.mk' (by rw[HNE.out];rfl) bel
section
variable {P:Program} {ops:Array Oper} {md:Region.Mode} {C:World→Prop}
def wpAnyQL (P:Program) (md:Region.Mode) (ops:Array Oper) (C:World→Prop) (n:Nat) (L:Array Bool→Act→Prop):Nat→Array Bool→Act→Prop
 | 0,listed,a=>L listed a
 | f+1,listed,a =>
   Region.ready md ops listed≠[]∧∀ i∈Region.ready md ops listed,i<n∧qOp P ops C i (wpAnyQL P md ops C n L f (listed.setIfInBounds i true)) a
theorem wpAny_of_headQ {n g:Nat} {L:Array Bool→Act→Prop} {Q':Exit→Act→World→Prop} (hL:∀ listed a w,C w→L listed a→wpAny P md ops Q' g listed a w) :
    ∀ (f:Nat) (listed:Array Bool) (a:Act) (w:World),C w→wpAnyQL P md ops C n L f listed a→wpAny P md ops Q' (f+g) listed a w
 | 0,listed,a,w,hw,h=>by rw[Nat.zero_add];exact hL _ _ _ hw h
 | f+1,listed,a,w,hw,h=>by
   rw[show f+1+g=(f+g)+1 by omega]
   exact⟨fun h0=>absurd h0 h.1,fun i hi=>wpOp_of_qOp hw (fun a' w' hw' h'=>wpAny_of_headQ hL f _ a' w' hw' h') (h.2 i hi).2⟩
theorem wpAnyQL_first {n i:Nat} {oi:Oper} {v:Value} {L:Array Bool→Act→Prop} (hi:ops[i]?=some oi) (hsel:∀ (j:Nat) (o:Oper) cs b,ops[j]?=some o→o.op≠.select cs b)
    (hs:Region.sinkB md ops n=true) (hc:Region.chainB md ops n=true) (hn:n<ops.size) (hin:i<n)
    (hdone:∀ listed a,L listed a→∀ j∈Region.ready md ops listed,n≤j) :
    ∀ (f:Nat) (listed:Array Bool) (a:Act),HeadInv md ops n listed →
     (∀ j oj,ops[j]?=some oj→j≠i→listed.getD j true=false→(∀ e∈oj.after,Region.binds md e=true→e.on≠i)→oi.apart ops oj=true) →
     i∈Region.ready md ops listed→YieldsIn P ops C oi v a →
     wpAnyQL P md ops C n L f (listed.setIfInBounds i true) (a.put oi.dst v)→wpAnyQL P md ops C n L (f+1) listed a:=by
 intro f
 induction f with
 | zero =>
   intro listed a inv _ hr hy H
   have hun:=(mem_ready.1 hr).1
   refine ⟨fun h=>(by rw[h] at hr;cases hr),fun j hj=>?_⟩
   have hjn:j<n:=by
    rcases Nat.lt_or_ge j n with h|h
    · exact h
    · exact absurd hj (tail_waits hs hc hn inv _ i rfl hin hun j h)
   refine ⟨hjn,?_⟩
   by_cases hji:j=i
   · subst hji;exact hy.qOp hi H
   · have:=hdone _ _ H j (ready_mono hj hji)
     omega
 | succ f ih =>
   intro listed a inv hfree hr hy H
   have hun:=(mem_ready.1 hr).1
   refine ⟨fun h=>(by rw[h] at hr;cases hr),fun j hj=>?_⟩
   have hjn:j<n:=by
    rcases Nat.lt_or_ge j n with h|h
    · exact h
    · exact absurd hj (tail_waits hs hc hn inv _ i rfl hin hun j h)
   refine ⟨hjn,?_⟩
   by_cases hji:j=i
   · subst hji;exact hy.qOp hi H
   · have h1:=(H.2 j (ready_mono hj hji)).2
     obtain⟨hjun,oj,hoj,hall⟩:=mem_ready.1 hj
     have hnot:∀ e∈oj.after,Region.binds md e=true→e.on≠i:=fun e he hb heq=>by
      have h1:=hall e he hb
      rw[heq,getD_both hun] at h1
      cases h1
     have h2:=qOp_put hoj (hfree j oj hoj hji hjun hnot) (fun cs b=>hsel i oi cs b hi) (fun cs b=>hsel j oj cs b hoj) hy h1
     have hfree':∀ k ok,ops[k]?=some ok→k≠i→(listed.setIfInBounds j true).getD k true=false →
         (∀ e∈ok.after,Region.binds md e=true→e.on≠i)→oi.apart ops ok=true:=fun k ok hk hki hun hno=>by
      refine hfree k ok hk hki ?_ hno
      by_cases hjk:j=k
      · subst hjk;exact hjun
      · rw[getD_set_ne true hjk] at hun;exact hun
     refine qOp_mono (fun a' h3=>ih (listed.setIfInBounds j true) a' (inv.set hj hjn) hfree' (ready_mono hr (Ne.symm hji)) h3.1 ?_) h2
     rw[Array.setIfInBounds_comm _ _ hji]
     exact h3.2
theorem wpAnyQL_lex {n g:Nat} {Lq:Act→Prop} (hsel:Region.noSelect ops=true) (hs:Region.sinkB md ops n=true) (hc:Region.chainB md ops n=true) (hn:n<ops.size) :
    ∀ (l:List Oper) (k:Nat) (listed:Array Bool) (a:Act),(∀ j,j<l.length→l[j]?=ops[k+j]?)→k+l.length=n→HeadInv md ops n listed →
    Region.lexHead md ops g l.length k listed=true→wpQuiet P ops C Lq l a →
    wpAnyQL P md ops C n (fun listed' a'=>Region.seqB md ops g n listed'=true∧Lq a') l.length listed a
 | [],k,listed,a,_,hk,_,hB,h=>by
   have:k=n:=by simpa using hk
   subst this
   exact⟨by simpa [Region.lexHead] using hB,h⟩
 | o :: l,k,listed,a,hl,hk,inv,hB,h=>by
   have h0:ops[k]?=some o:=by simpa using (hl 0 (by simp)).symm
   simp only[List.length_cons,Region.lexHead,Bool.and_eq_true] at hB
   obtain⟨⟨hr,hf⟩,hB'⟩:=hB
   have hkn:k<n:=by simp only[List.length_cons] at hk;omega
   have hr':k∈Region.ready md ops listed:=by simpa using hr
   have hst:qOp P ops C k (wpQuiet P ops C Lq l) a:=by unfold qOp;simp only[h0];exact h
   obtain⟨v,hy,hK⟩:=yieldsIn_of_qOp h0 hst
   exact wpAnyQL_first h0 (Region.noSelect_spec hsel) hs hc hn hkn (fun listed' a' hL=>seqB_ready hL.1) l.length listed a inv (Region.free_spec h0 hf) hr' hy
    (wpAnyQL_lex hsel hs hc hn l (k+1) _ _ (fun j hj=>by have:=hl (j+1) (by simp;omega);simpa [Nat.add_assoc,Nat.add_comm 1 j] using this) (by simp only[List.length_cons] at hk;omega) (inv.set hr' hkn) hB' hK)
theorem wp_region_quiet_tail {id:Nat} {Q:Exit→Act→World→Prop} {a:Act} {w:World} {l:List Oper} (n:Nat) (hm:P.follows .mixedOrders=true) (hB:Region.lexTailB .any l.toArray n=true) (hC:C { w with drawn:=w.drawn+1 })
    (h:wpQuiet P l.toArray C (fun a'=>∀ w',C w'→wpList P l.toArray Q (l.drop n) a' w') (l.take n) a):(Code.region id l.toArray true).wp P Q a w:=by
 simp only[Region.lexTailB,Bool.and_eq_true,decide_eq_true_eq] at hB
 obtain⟨⟨⟨⟨hsel,hn⟩,hs⟩,hc⟩,hlex⟩:=hB
 have hn':n<l.length:=by simpa using hn
 have htl:(l.take n).length=n:=by simp;omega
 have hdl:(l.drop n).length=l.toArray.size - n:=by simp
 have inv0:HeadInv .any l.toArray n (Array.replicate l.toArray.size false) :=
  ⟨by simp,fun j oj _ hl=>(by rw[getD_replicate_false] at hl;cases hl),fun t _ ht=>getD_in (by simpa using ht) (getD_replicate_false _ _)⟩
 have H:=wpAnyQL_lex (md:=.any) (g:=l.toArray.size - n) hsel hs hc hn (l.take n) 0 _ a (fun j hj=>by
  have hj':j<n:=by rw[htl] at hj;exact hj
  simp [hj']) (by simpa using htl) inv0 (by rw[htl];exact hlex) h
 refine wp_region_any hm ?_
 have:=wpAny_of_headQ (Q':=Q) (g:=l.toArray.size - n) (fun listed a' w' hw' hL=>by
  have:=wpAny_of_seq (md:=.any) (Q':=Q) (l.drop n) n listed a' w' (fun j=>by simp [List.getElem?_drop]) (by rw[hdl];exact hL.1) (hL.2 w' hw')
  rwa[hdl] at this) _ _ _ _ hC H
 rw[htl,show n+(l.toArray.size - n)=l.toArray.size by omega] at this
 exact this
end
theorem wp_region_tail_below {P:Program} {id:Nat} {Q:Exit→Act→World→Prop} {a:Act} {w:World} {l:List Oper} (n:Nat) (hm:P.follows .mixedOrders=true) (hB:Region.lexTailB .any l.toArray n=true)
    (h:wpQuiet P l.toArray (fun w'=>∃ p:Regrown,w'=Sort.grow (redrawn w p.d) p.os) (fun a'=>∀ w',(∃ p:Regrown,w'=Sort.grow (redrawn w p.d) p.os)→wpList P l.toArray Q (l.drop n) a' w') (l.take n) a):(Code.region id l.toArray true).wp P Q a w :=
 wp_region_quiet_tail (C:=fun w'=>∃ p:Regrown,w'=Sort.grow (redrawn w p.d) p.os) n hm hB ⟨⟨w.drawn+1,#[]⟩,by rw[Sort.grow_empty];rfl⟩ h
theorem info_int:(Tryz.prog.info? 3).map (fun i=>(i.zero,i.size,i.bytes))=some (some (.int .i64 0),1,8):=by kernel_rfl
theorem info_ints:(Tryz.prog.info? 23).map (fun i=>(i.zero,i.size,i.bytes))=some (some (.slice none 0 0),1,24):=by kernel_rfl
abbrev NumRow:=EncRow (Value.int .i64)
abbrev OwnNum:=OwnEnc (Value.int .i64) 3
set_option maxHeartbeats 1000000 in
theorem clone_num (va:Value) (xs:List Int) (w:World) (ha:EncRow (Value.int .i64) w va xs) (hn:xs.length≤1099511627776):Calls Tryz.prog 74 #[va] w (RetOwn (Value.int .i64) 3 w xs):=by
 obtain⟨ao,cap,rfl,h1,h2,h3⟩:=ha.out
 obtain⟨n,hn'⟩:∃ n,xs.length=n:=⟨_,rfl⟩
 have hrow:RowAt w (.slice ao n cap) n (xs.map (Value.int .i64)):=by rw[←hn'];exact ha
 rw[hn'] at hn ⊢
 have HN:=lh hn';clear hn' h1 h2 ha
 have q22:∀ (w:World) (a:Option Addr) (n c n' c':Nat),(binOp .eql 23 (.slice a n c) (.slice none n' c')).run Tryz.prog w=.ok (.bool a.isNone) w:=fun w a n c n' c'=>Lib.run_eql_slice_nil w _ _ a n c n' c' Tryz.underlying23
 cases ao with
 | none =>
   have h0:xs=[]:=by
    rcases h3 with h3|⟨b,off,hb,_⟩
    · exact List.eq_nil_of_length_eq_zero h3
    · cases hb
   subst h0
   clear h3 hrow HN
   go_enter Tryz.func74,Tryz.ntmps74
   go_wp2_with fail
   go_ret
   exact⟨_,rfl,World.ownsRow_nil _ _ _ _,bel⟩
 | some a =>
   clear h3
   have HR:=lh hrow;clear hrow
   obtain⟨i0,hi,iz0,iz1,iz2⟩:=info_parts info_int
   go_enter Tryz.func74,Tryz.ntmps74
   go_wp2_with (at_builtin;refine wpList_append_own _ rfl _ _ 23 rfl w.heap.size 3 i0 (.int .i64 0) 1 8 Tryz.underlying23 hi iz0 iz1 iz2 rfl (by decide) _ _ _ rfl (World.ownsRow_made w #[] 0 (nlr _) (Nat.zero_le _) (by simp)) a n cap (xs.map (Value.int .i64)) rfl ?qc1 ?qc2 ?qc3 ?qc4 ?qc5 ?qc6 ?_)
   case qc1=>rw[List.length_map,HN.out,Nat.mul_one]
   case qc2=>exact fun j u hj=>Lib.cell?_alloc_some _ (HR.out.cells j u hj)
   case qc3=>intro u hu;rw[List.mem_map] at hu;obtain⟨x,_,rfl⟩:=hu;rfl
   case qc4=>unfold maxLen;omega
   case qc5=>omega
   case qc6=>simp
   intro v' w1 hown hgrow _
   have HO:=lh hown;clear hown
   go_wp2_with fail
   go_ret
   refine ⟨v',rfl,?_,?_⟩
   · unfold OwnEnc;rw[HN.out];simpa using HO.out
   · exact ((Below.refl _ w).alloc (nlr _) _).grown hgrow (by simp) (by intro k hk;simp [Value.ownBlock] at hk;omega)
def MapRow (w:World) (v:Value) (M:List (List Int)):Prop:=∃ us:List Value,RowAt w v M.length us∧us.length=M.length∧∀ (i:Nat) (u:Value) (xs:List Int),us[i]?=some u→M[i]?=some xs→NumRow w u xs
theorem MapRow.below {w w':World} {v:Value} {M:List (List Int)} (h:MapRow w v M) (hb:Below w.heap.size w w'):MapRow w' v M:=by
 obtain⟨us,h1,h2,h3⟩:=h
 exact⟨us,h1.below hb,h2,fun i u xs hu hx=>(h3 i u xs hu hx).below hb⟩
def PoolRow (w:World) (v:Value) (F:List ByteArray) (R:List Int) (M:List (List Int)):Prop:=∃ vf vr vm,v=.agg #[vf,vr,vm]∧StrRow w vf F∧NumRow w vr R∧MapRow w vm M
theorem PoolRow.below {w w':World} {v:Value} {F:List ByteArray} {R:List Int} {M:List (List Int)} (h:PoolRow w v F R M) (hb:Below w.heap.size w w'):PoolRow w' v F R M:=by
 obtain⟨vf,vr,vm,e,h1,h2,h3⟩:=h
 exact⟨vf,vr,vm,e,h1.below hb,h2.below hb,h3.below hb⟩
def Apart (v v':Value):Prop:=∀ k,v.ownBlock=some k→v'.ownBlock≠some k
def OwnRows (base:Nat) (w:World) (us:List Value) (M:List (List Int)):Prop:=us.length=M.length∧(∀ (i:Nat) (u:Value) (xs:List Int),us[i]?=some u→M[i]?=some xs→OwnNum base w u xs)∧∀ (i j:Nat) (u u':Value),i≠j→us[i]?=some u→us[j]?=some u'→Apart u u'
theorem OwnRows.nil (base:Nat) (w:World):OwnRows base w [] []:=⟨rfl,fun i u xs h=>by simp at h,fun i j u u' _ h=>by simp at h⟩
theorem OwnRows.below {base:Nat} {w w':World} {us:List Value} {M:List (List Int)} (h:OwnRows base w us M) (hb:Below w.heap.size w w'):OwnRows base w' us M :=
 ⟨h.1,fun i u xs hu hx=>(h.2.1 i u xs hu hx).below hb,h.2.2⟩
theorem OwnRows.snoc {base:Nat} {w:World} {us:List Value} {M:List (List Int)} {u:Value} {xs:List Int} (h:OwnRows base w us M) (hu:OwnNum base w u xs) (ha:∀ (i:Nat) (u':Value),us[i]?=some u'→Apart u' u):OwnRows base w (us++[u]) (M++[xs]):=by
 obtain⟨h1,h2,h3⟩:=h
 refine ⟨by simp [h1],fun i v ys hv hy=>?_,fun i j v v' hij hv hv'=>?_⟩
 · rw[List.getElem?_append] at hv hy
   rw[←h1] at hy
   split at hv
   · rename_i hlt
     rw[if_pos hlt] at hy
     exact h2 i v ys hv hy
   · rename_i hge
     rw[if_neg hge] at hy
     obtain h0:i - us.length=0:=by have:=lt_of_get hv;simp at this;omega
     rw[h0] at hv hy
     simp at hv hy
     subst hv hy
     exact hu
 · rw[List.getElem?_append] at hv hv'
   split at hv
   · split at hv'
     · exact h3 i j v v' hij hv hv'
     · have h0:j - us.length=0:=by have:=lt_of_get hv';simp at this;omega
       rw[h0] at hv'
       simp at hv'
       subst hv'
       exact ha i v hv
   · have h0:i - us.length=0:=by have:=lt_of_get hv;simp at this;omega
     rw[h0] at hv
     simp at hv
     subst hv
     split at hv'
     · intro k hk hk'
       exact ha j v' hv' k hk' hk
     · have h0':j - us.length=0:=by have:=lt_of_get hv';simp at this;omega
       omega
def zeroB (s:ByteArray):Bool:=s.data.toList.all (fun c=>c == 0)
def cntRow (n:Nat) (P:List Int):List Int:=(List.range n).map (fun f:Nat=>((P.count (f:Int):Nat):Int))
theorem cntRow_len (n:Nat) (P:List Int):(cntRow n P).length=n:=by simp [cntRow]
theorem cntRow_at {n f:Nat} (P:List Int) (h:f<n):(cntRow n P)[f]?=some ((P.count (f:Int):Nat):Int):=by
 unfold cntRow
 rw[List.getElem?_map,List.getElem?_range h]
 rfl
theorem cntRow_nil (n:Nat):cntRow n []=List.replicate n 0:=by
 apply List.ext_getElem?
 intro i
 by_cases h:i<n
 · rw[cntRow_at [] h,List.getElem?_replicate,if_pos h];rfl
 · rw[List.getElem?_eq_none (by rw[cntRow_len];omega),List.getElem?_eq_none (by rw[List.length_replicate];omega)]
theorem cntRow_neg (n:Nat) (P:List Int):cntRow n (P++[-1])=cntRow n P:=by
 unfold cntRow
 apply List.map_congr_left
 intro f _
 rw[List.count_append,List.count_singleton,if_neg (by rw[beq_iff_eq];omega),Nat.add_zero]
theorem cntRow_inc {n f:Nat} (P:List Int) (h:f<n):cntRow n (P++[(f:Int)])=(cntRow n P).set f (((P.count (f:Int):Nat):Int)+1):=by
 apply List.ext_getElem?
 intro i
 rw[List.getElem?_set,cntRow_len]
 by_cases hi:i<n
 · rw[cntRow_at _ hi,List.count_append,List.count_singleton]
   by_cases e:f=i
   · subst e
     rw[if_pos rfl,if_pos h,if_pos (by rw[beq_iff_eq])]
     rfl
   · rw[if_neg e,if_neg (by rw[beq_iff_eq];omega),cntRow_at _ hi,Nat.add_zero]
 · rw[List.getElem?_eq_none (by rw[cntRow_len];omega),if_neg (by omega),List.getElem?_eq_none (by rw[cntRow_len];omega)]
theorem count_le_len (P:List Int) (f:Int):P.count f≤P.length:=List.count_le_length
def pageOk (n:Nat) (f:Int):Bool:=decide (-1≤f∧f<n)
def rowOk (n:Nat) (l:List Int):Bool:=decide (1≤l.length∧l.length≤32) && l.all (pageOk n)
def mapOk (n:Nat) (M:List (List Int)):Bool:=M.all (rowOk n)
def frameOk (F:List ByteArray) (R:List Int) (P:List Int) (f:Nat):Bool :=
 match F[f]?,R[f]? with
 | some s,some r=>decide (r=((P.count (f:Int):Nat):Int)) && (decide (P.count (f:Int)=0) == decide (s.size=0)) && (decide (s.size=0) || (decide (s.size=128) && !zeroB s))
 | _,_=>false
def framesOk (F:List ByteArray) (R:List Int) (P:List Int):Nat→Bool
 | 0=>true
 | k+1=>framesOk F R P k && frameOk F R P k
def poolHead (F:List ByteArray) (R:List Int) (M:List (List Int)):Bool:=decide (1≤F.length∧F.length≤96∧R.length=F.length∧M.length≤8)
def poolB (F:List ByteArray) (R:List Int) (M:List (List Int)):Bool:=poolHead F R M && (mapOk F.length M && framesOk F R M.flatten F.length)
theorem framesOk_false {F:List ByteArray} {R P:List Int} {k n:Nat} (h:frameOk F R P k=false) (hk:k<n):framesOk F R P n=false:=by
 induction n with
 | zero=>omega
 | succ n ih =>
   unfold framesOk
   by_cases e:k=n
   · subst e;rw[h,Bool.and_false]
   · rw[ih (by omega),Bool.false_and]
theorem mapOk_false {n k:Nat} {M:List (List Int)} {l:List Int} (h:M[k]?=some l) (hl:rowOk n l=false):mapOk n M=false:=by
 unfold mapOk
 rw[List.all_eq_false]
 exact⟨l,List.mem_of_getElem? h,by rw[hl];decide⟩
theorem rowOk_len {n:Nat} {l:List Int} (h:¬(1≤l.length∧l.length≤32)):rowOk n l=false:=by
 unfold rowOk
 rw[decide_eq_false h,Bool.false_and]
theorem rowOk_at {n k:Nat} {l:List Int} {f:Int} (h:l[k]?=some f) (hf:pageOk n f=false):rowOk n l=false:=by
 unfold rowOk
 have:l.all (pageOk n)=false:=by
  rw[List.all_eq_false]
  exact⟨f,List.mem_of_getElem? h,by rw[hf];decide⟩
 rw[this,Bool.and_false]
def mapUp (n:Nat) (M:List (List Int)) (k:Nat):Bool:=mapOk n (M.take k)
theorem mapUp_succ {n k:Nat} {M:List (List Int)} {l:List Int} (h:M[k]?=some l) (h1:mapUp n M k=true) (h2:rowOk n l=true):mapUp n M (k+1)=true:=by
 unfold mapUp mapOk at *
 rw[List.take_add_one,h,List.all_append,h1]
 simpa using h2
theorem flat_succ {M:List (List Int)} {k:Nat} {l:List Int} (h:M[k]?=some l):(M.take (k+1)).flatten=(M.take k).flatten++l:=by
 rw[List.take_add_one,h,List.flatten_append]
 simp
theorem take_succ' {l:List Int} {k:Nat} {f:Int} (h:l[k]?=some f):l.take (k+1)=l.take k++[f]:=by
 rw[List.take_add_one,h]
 rfl
theorem rowUp_all {n:Nat} {l:List Int} (h1:1≤l.length∧l.length≤32) (h2:(l.take l.length).all (pageOk n)=true):rowOk n l=true:=by
 unfold rowOk
 rw[decide_eq_true h1]
 rw[List.take_length] at h2
 rw[h2]
 rfl
theorem rowUp_succ {n k:Nat} {l:List Int} {f:Int} (h:l[k]?=some f) (h1:(l.take k).all (pageOk n)=true) (hf:pageOk n f=true):(l.take (k+1)).all (pageOk n)=true:=by
 rw[take_succ' h,List.all_append,h1]
 simpa using hf
end Go.Proofs.YtbnngjhnkegliaaGreat
