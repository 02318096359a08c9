/-
  PROVED: 'HostTellsSaid': for every host, claim, numbers and content, HostTells hands back true and leaves all memory as it was. Conditions: none.
-/
import Derived.Test.YtbnngjhnkegliaaGreatB35
import Derived.Deep.Slices
namespace Go.Proofs.YtbnngjhnkegliaaGreat
open Go.ChangeShapes Go.WideShapes Go.ChangeAt Go.RowKit Go.Deep
def RowOf {α:Type} (R:World→List Value→α→Prop) (size:Nat) (w:World) (v:Value) (xs:List α):Prop :=
 ∃ (ao:Option Addr) (cap:Nat),v=.slice ao xs.length cap∧xs.length≤cap∧cap≤maxLen∧(xs.length=0∨∃ b off,ao=some ⟨b,off,none⟩∧b<w.heap.size∧∀ (i:Nat) (a:α),xs[i]?=some a→∃ cs:List Value,cs.length=size∧R w cs a∧∀ (j:Nat) (u:Value),cs[j]?=some u→w.cell? ⟨b,off+i*size+j,none⟩=some u)
theorem list_of {α:Type} (n:Nat) (p:Nat→α→Prop) (h:∀ i,i<n→∃ a,p i a):∃ xs:List α,xs.length=n∧∀ (i:Nat) (a:α),xs[i]?=some a→p i a:=by
 induction n with
 | zero=>exact⟨[],rfl,fun i a h=>by simp at h⟩
 | succ n ih =>
   obtain⟨xs,hl,hx⟩:=ih (fun i hi=>h i (by omega))
   obtain⟨a,ha⟩:=h n (by omega)
   refine ⟨xs++[a],by simp [hl],fun i b hb=>?_⟩
   rw[List.getElem?_append] at hb
   split at hb
   · exact hx i b hb
   · rename_i hi
     have hlt:=(List.getElem?_eq_some_iff.1 hb).1
     simp at hlt
     obtain rfl:i=n:=by omega
     rw[hl] at hb
     simp at hb
     exact hb ▸ ha
theorem open_rowOf {α:Type} {R:World→List Value→α→Prop} {size:Nat} {H:Type} {enc:TypeId×Value→H} {P:Program} {W:World} {base:Nat} {sp:Nat→Bool} {held:Bool} {t e:TypeId} {fuel:Nat} {cs:List Value} {x:DataW H×List MemPlace}
    (ht:P.underlying t=some (.slice e)) (hc:P.cellsOf e=size) (hpos:0<size)
    (hR:∀ (n:Nat) (cs:List Value) (y:DataW H×List MemPlace),DataW.trod enc P W base sp held n e cs=some y→cs.length=size→∃ a,R W cs a)
    (h:DataW.trod enc P W base sp held fuel t cs=some x):∃ (v:Value) (xs:List α),cs=[v]∧RowOf R size W v xs:=by
 rcases open_slice ht h with ⟨rfl,_⟩|⟨a,len,cap,m,n,D,Pl,rfl,hb,hl,hm,hmm,hx,hi⟩
 · exact⟨_,[],rfl,none,0,rfl,nlr _,Nat.zero_le _,.inl rfl⟩
 · have hlm:len≤m:=by rw[hmm];split <;> omega
   obtain⟨xs,hxl,hxp⟩:=list_of len (fun i a'=>∃ cs':List Value,cs'.length=size∧R W cs' a'∧∀ j,j<size→W.cell? ((a.add (i*size)).add j)=cs'[j]?) (fun i hil=>by
    obtain⟨cs',h1,h2⟩:=hi i (by omega)
    rw[hc] at h1
    obtain⟨_,h3,h4⟩:=World.cells?_some h1
    obtain⟨a',ha'⟩:=hR n cs' _ h2 h3
    exact⟨a',cs',h3,ha',h4⟩)
   refine ⟨_,xs,rfl,some a,cap,by rw[hxl],by omega,hm,?_⟩
   by_cases h0:len=0
   · exact .inl (by omega)
   right
   obtain⟨b,off,spot⟩:=a
   have hsp:spot=none:=by
    obtain⟨y,hy⟩:=get_lt (xs:=xs) (k:=0) (by omega)
    obtain⟨cs',h1,_,h3⟩:=hxp 0 y hy
    have h4:=h3 0 hpos
    rw[List.getElem?_eq_getElem (by omega)] at h4
    rw[Nat.zero_mul] at h4
    simpa [Addr.add] using World.cell?_spot h4
   subst hsp
   refine ⟨b,off,rfl,?_,fun i a' ha'=>?_⟩
   · obtain⟨y,hy⟩:=get_lt (xs:=xs) (k:=0) (by omega)
     obtain⟨cs',h1,_,h3⟩:=hxp 0 y hy
     have h4:=h3 0 hpos
     rw[List.getElem?_eq_getElem (by omega)] at h4
     rw[Nat.zero_mul,Go.WideShapes.add_plain,Go.WideShapes.add_plain] at h4
     exact World.block_lt_of_cell? W _ h4
   · obtain⟨cs',h1,h2,h3⟩:=hxp i a' ha'
     refine ⟨cs',h1,h2,fun j u hu=>?_⟩
     have h4:=h3 j (by have:=lt_of_get hu;omega)
     rw[Go.WideShapes.add_plain,Go.WideShapes.add_plain,hu] at h4
     exact h4
theorem open_cells {H:Type} {enc:TypeId×Value→H} {P:Program} {w:World} {base:Nat} {sp:Nat→Bool} {held:Bool} {t:TypeId} {fs:Array Field} {fuel:Nat} {cs:List Value} {x:DataW H×List MemPlace} (hs:P.underlying t=some (.struct fs)) (hone:oneCellFields P fs=true)
    (h:DataW.trod enc P w base sp held fuel t cs=some x) (hl:cs.length=fs.size):∃ n,∀ (j:Nat) (f:Field),fs[j]?=some f→∃ c y,cs[j]?=some c∧DataW.trod enc P w base sp held n f.type [c]=some y:=by
 obtain⟨xs,n,_,_,_,hlen,hg⟩:=DataW.trod_struct hs h
 refine ⟨n,fun j f hj=>?_⟩
 obtain⟨ho,hk⟩:=hone_of hone j f hj
 have hjl:j<fs.size:=(Array.getElem?_eq_some_iff.1 hj).1
 have h1:=hg j f hj
 rw[ho,hk] at h1
 have h2:(cs.drop j).take 1=[cs[j]'(by omega)]:=by
  rw[List.drop_eq_getElem_cons (by omega)]
  rfl
 rw[h2] at h1
 rw[List.getElem?_eq_getElem (by omega)] at h1
 exact⟨_,_,List.getElem?_eq_getElem (by omega),h1⟩
theorem rowAt_of_rowOf {α:Type} {f:α→List Value} {size:Nat} {w:World} {v:Value} {xs:List α} (hpos:0<size) (hf:∀ a,(f a).length=size) (h:RowOf (fun _ cs a=>cs=f a) size w v xs):RowAt w v xs.length (xs.flatMap f):=by
 obtain⟨ao,cap,hv,h1,h2,h3⟩:=h
 refine ⟨ao,cap,hv,h1,h2,?_⟩
 rcases h3 with h3|⟨b,off,ha,hlt,hc⟩
 · left
   rw[List.eq_nil_of_length_eq_zero h3]
   rfl
 · refine .inr ⟨b,off,ha,hlt,fun i u hu=>?_⟩
   have hlen:(xs.flatMap f).length=xs.length*size:=by
    clear h1 h2 hc hu hv
    induction xs with
    | nil=>simp
    | cons y ys ih=>rw[List.flatMap_cons,List.length_append,hf,ih,List.length_cons,Nat.add_mul];omega
   have hi:=lt_of_get hu
   rw[hlen] at hi
   have hk:i / size<xs.length:=Nat.div_lt_of_lt_mul (by rw[Nat.mul_comm];exact hi)
   have hm:i % size<size:=Nat.mod_lt _ hpos
   obtain⟨a,ha'⟩:=get_lt hk
   obtain⟨cs,e1,rfl,e3⟩:=hc _ a ha'
   have e:off+i=off+i / size*size+i % size:=by have:=Nat.div_add_mod i size;rw[Nat.mul_comm] at this;omega
   rw[e]
   apply e3
   have h4:∀ (ys:List α) (k:Nat),ys[k]?=some a→∀ j,j<size→(ys.flatMap f)[k*size+j]?=(f a)[j]?:=by
    intro ys
    induction ys with
    | nil=>intro k h;simp at h
    | cons y ys ih =>
      intro k h j hj
      cases k with
      | zero =>
        simp at h
        subst h
        rw[List.flatMap_cons,Nat.zero_mul,Nat.zero_add,List.getElem?_append_left (by rw[hf];exact hj)]
      | succ k =>
        simp at h
        rw[List.flatMap_cons,List.getElem?_append_right (by rw[hf,Nat.add_mul];omega),hf,show (k+1)*size+j - size=k*size+j from by rw[Nat.add_mul];omega]
        exact ih k h j hj
   rw[←h4 xs _ ha' _ hm,←hu]
   congr 1
   have:=Nat.div_add_mod i size
   rw[Nat.mul_comm] at this
   omega
end Go.Proofs.YtbnngjhnkegliaaGreat
namespace Go.Proofs.YtbnngjhnkegliaaGreat
open Go.ChangeShapes Go.WideShapes Go.ChangeAt Go.RowKit Go.ChangeMaps
theorem flat_one {α:Type} (f:α→Value) (xs:List α):xs.flatMap (fun x=>[f x])=xs.map f:=by
 induction xs with
 | nil=>rfl
 | cons x xs ih=>rw[List.flatMap_cons,ih];rfl
theorem strs_cells {H:Type} {enc:TypeId×Value→H} {w:World} {base:Nat} {sp:Nat→Bool} {held:Bool} {fuel:Nat} {c:Value} {x:DataW H×List MemPlace}
    (h:DataW.trod enc Tryz.prog w base sp held fuel 22 [c]=some x):∃ ss:List ByteArray,StrRow w c ss:=by
 obtain⟨v,xs,hcs,hrow⟩:=open_rowOf (R:=fun _ cs (s:ByteArray)=>cs=[.string s]) (size:=1) Tryz.underlying22 (by kernel_rfl) (by decide) (fun n cs y hy _=>by
  obtain⟨s,hs,_⟩:=DataW.trod_string Tryz.underlying9 hy
  exact⟨s,hs⟩) h
 injection hcs with hcs
 subst hcs
 have hr:=rowAt_of_rowOf (f:=fun s=>[Value.string s]) (by decide) (fun _=>rfl) hrow
 rw[flat_one] at hr
 exact⟨xs,hr⟩
abbrev I64:={x:Int // -9223372036854775808≤x∧x≤9223372036854775807}
theorem nums_cells {H:Type} {enc:TypeId×Value→H} {w:World} {base:Nat} {sp:Nat→Bool} {held:Bool} {fuel:Nat} {c:Value} {x:DataW H×List MemPlace}
    (h:DataW.trod enc Tryz.prog w base sp held fuel 23 [c]=some x):∃ l:List Int,NumRow w c l∧∀ x∈l,-9223372036854775808≤x∧x≤9223372036854775807:=by
 obtain⟨v,xs,hcs,hrow⟩:=open_rowOf (R:=fun _ cs (s:I64)=>cs=[.int .i64 s.1]) (size:=1) Tryz.underlying23 (by kernel_rfl) (by decide) (fun n cs y hy _=>by
  obtain⟨i,hi,_,wi⟩:=DataW.trod_int Tryz.underlying3 hy
  exact⟨⟨i,bounds_i64 wi⟩,hi⟩) h
 injection hcs with hcs
 subst hcs
 have hr:=rowAt_of_rowOf (f:=fun s:I64=>[Value.int .i64 s.1]) (by decide) (fun _=>rfl) hrow
 rw[flat_one] at hr
 refine ⟨xs.map Subtype.val,?_,fun x hx=>?_⟩
 · unfold NumRow EncRow
   rw[List.length_map,List.map_map]
   exact hr
 · rw[List.mem_map] at hx
   obtain⟨y,_,rfl⟩:=hx
   exact y.2
theorem rows_cells {H:Type} {enc:TypeId×Value→H} {w:World} {base:Nat} {sp:Nat→Bool} {held:Bool} {fuel:Nat} {c:Value} {x:DataW H×List MemPlace}
    (h:DataW.trod enc Tryz.prog w base sp held fuel 24 [c]=some x):∃ M:List (List Int),MapRow w c M∧∀ l∈M,∀ x∈l,-9223372036854775808≤x∧x≤9223372036854775807:=by
 obtain⟨v,xs,hcs,hrow⟩:=open_rowOf (R:=fun w cs (s:List Int)=>(∃ u,cs=[u]∧NumRow w u s)∧∀ x∈s,-9223372036854775808≤x∧x≤9223372036854775807) (size:=1) Tryz.underlying24 (by kernel_rfl) (by decide) (fun n cs y hy hl=>by
  match cs,hl with
  | [u],_ =>
    obtain⟨l,hl,hb⟩:=nums_cells hy
    exact⟨l,⟨u,rfl,hl⟩,hb⟩) h
 injection hcs with hcs
 subst hcs
 obtain⟨ao,cap,rfl,h1,h2,h3⟩:=hrow
 rcases h3 with h3|⟨b,off,rfl,hlt,hc⟩
 · have hnil:=List.eq_nil_of_length_eq_zero h3
   subst hnil
   exact⟨[],⟨[],⟨ao,cap,rfl,h1,h2,.inl rfl⟩,rfl,fun i u xs hu=>by simp at hu⟩,fun l hl=>by simp at hl⟩
 · obtain⟨us,hul,hup⟩:=list_of xs.length (fun i u=>w.cell? ⟨b,off+i,none⟩=some u∧∀ l,xs[i]?=some l→NumRow w u l∧∀ x∈l,-9223372036854775808≤x∧x≤9223372036854775807) (fun i hi=>by
     obtain⟨l,hl⟩:=get_lt hi
     obtain⟨cs,_,⟨⟨u,rfl,hr⟩,hb⟩,hcell⟩:=hc i l hl
     refine ⟨u,?_,fun l' hl'=>?_⟩
     · have:=hcell 0 u rfl
       rw[Nat.mul_one,Nat.add_zero] at this
       exact this
     · rw[hl] at hl'
       injection hl' with hl'
       subst hl'
       exact⟨hr,hb⟩)
   refine ⟨xs,⟨us,⟨_,cap,rfl,h1,h2,.inr ⟨b,off,rfl,hlt,fun i u hu=>(hup i u hu).1⟩⟩,hul,fun i u l hu hl=>((hup i u hu).2 l hl).1⟩,fun l hl=>?_⟩
   obtain⟨i,hi⟩:=List.getElem?_of_mem hl
   obtain⟨u,hu⟩:=get_lt (xs:=us) (k:=i) (by rw[hul];exact lt_of_get hi)
   exact ((hup i u hu).2 l hi).2
theorem pool_cells {H:Type} {enc:TypeId×Value→H} {w:World} {base:Nat} {sp:Nat→Bool} {held:Bool} {fuel:Nat} {cs:List Value} {x:DataW H×List MemPlace}
    (h:DataW.trod enc Tryz.prog w base sp held fuel 26 cs=some x) (hl:cs.length=3):∃ (P:Pl) (vf vr vm:Value),cs=[vf,vr,vm]∧StrRow w vf P.F∧NumRow w vr P.R∧MapRow w vm P.M∧P.fit:=by
 obtain⟨n,hf⟩:=open_cells Tryz.underlying26 (by kernel_rfl) h hl
 obtain⟨c0,y0,e0,t0⟩:=hf 0 _ rfl
 obtain⟨c1,y1,e1,t1⟩:=hf 1 _ rfl
 obtain⟨c2,y2,e2,t2⟩:=hf 2 _ rfl
 obtain⟨F,hF⟩:=strs_cells t0
 obtain⟨R,hR,hRb⟩:=nums_cells t1
 obtain⟨M,hM,hMb⟩:=rows_cells t2
 refine ⟨⟨F,R,M⟩,c0,c1,c2,?_,hF,hR,hM,hRb,hMb⟩
 match cs,hl with
 | [a0,a1,a2],_ =>
   simp only[List.getElem?_cons_zero,List.getElem?_cons_succ,Option.some.injEq] at e0 e1 e2
   rw[e0,e1,e2]
theorem open_part {H:Type} {enc:TypeId×Value→H} {P:Program} {w:World} {base:Nat} {sp:Nat→Bool} {held:Bool} {t:TypeId} {fs:Array Field} {fuel:Nat} {cs:List Value} {x:DataW H×List MemPlace} (hs:P.underlying t=some (.struct fs))
    (h:DataW.trod enc P w base sp held fuel t cs=some x):∃ n,∀ (j:Nat) (ty:TypeId) (off k:Nat),(∃ f:Field,fs[j]?=some f∧f.type=ty∧f.offset=off)→P.cellsOf ty=k→∃ y,DataW.trod enc P w base sp held n ty ((cs.drop off).take k)=some y:=by
 obtain⟨xs,n,_,_,_,hlen,hg⟩:=DataW.trod_struct hs h
 refine ⟨n,fun j ty off k hf hk=>?_⟩
 obtain⟨f,hj,rfl,rfl⟩:=hf
 subst hk
 have hjl:j<fs.size:=(Array.getElem?_eq_some_iff.1 hj).1
 have h1:=hg j f hj
 rw[List.getElem?_eq_getElem (by omega)] at h1
 exact⟨_,h1⟩
theorem bools_cells {H:Type} {enc:TypeId×Value→H} {w:World} {base:Nat} {sp:Nat→Bool} {held:Bool} {fuel:Nat} {c:Value} {x:DataW H×List MemPlace}
    (h:DataW.trod enc Tryz.prog w base sp held fuel 47 [c]=some x):∃ ss:List Bool,BoolRow w c ss:=by
 obtain⟨v,xs,hcs,hrow⟩:=open_rowOf (R:=fun _ cs (s:Bool)=>cs=[.bool s]) (size:=1) Tryz.underlying47 (by kernel_rfl) (by decide) (fun n cs y hy _=>by
  obtain⟨s,hs,_⟩:=DataW.trod_bool Tryz.underlying4 hy
  exact⟨s,hs⟩) h
 injection hcs with hcs
 subst hcs
 have hr:=rowAt_of_rowOf (f:=fun s=>[Value.bool s]) (by decide) (fun _=>rfl) hrow
 rw[flat_one] at hr
 exact⟨xs,hr⟩
theorem claim_cells {H:Type} {enc:TypeId×Value→H} {w:World} {base:Nat} {sp:Nat→Bool} {held:Bool} {fuel:Nat} {cs:List Value} {x:DataW H×List MemPlace}
    (h:DataW.trod enc Tryz.prog w base sp held fuel 32 cs=some x) (hl:cs.length=5):∃ c:Clm,cs=[.int .i64 c.r,.int .i64 c.l,.int .i64 c.s,.int .i64 c.p,.int .i64 c.a]∧I63 c.r∧I63 c.l∧I63 c.s∧I63 c.p∧I63 c.a:=by
 obtain⟨n,hf⟩:=open_cells Tryz.underlying32 (by kernel_rfl) h hl
 obtain⟨c0,y0,e0,t0⟩:=hf 0 _ rfl
 obtain⟨c1,y1,e1,t1⟩:=hf 1 _ rfl
 obtain⟨c2,y2,e2,t2⟩:=hf 2 _ rfl
 obtain⟨c3,y3,e3,t3⟩:=hf 3 _ rfl
 obtain⟨c4,y4,e4,t4⟩:=hf 4 _ rfl
 obtain⟨a,ha,_,wa⟩:=DataW.trod_int Tryz.underlying3 t0
 obtain⟨b,hb,_,wb⟩:=DataW.trod_int Tryz.underlying3 t1
 obtain⟨c,hc,_,wc⟩:=DataW.trod_int Tryz.underlying3 t2
 obtain⟨d,hd,_,wd⟩:=DataW.trod_int Tryz.underlying3 t3
 obtain⟨e,he,_,we⟩:=DataW.trod_int Tryz.underlying3 t4
 injection ha with ha
 injection hb with hb
 injection hc with hc
 injection hd with hd
 injection he with he
 refine ⟨⟨a,b,c,d,e⟩,?_,bounds_i64 wa,bounds_i64 wb,bounds_i64 wc,bounds_i64 wd,bounds_i64 we⟩
 match cs,hl with
 | [a0,a1,a2,a3,a4],_ =>
   simp only[List.getElem?_cons_zero,List.getElem?_cons_succ,Option.some.injEq] at e0 e1 e2 e3 e4
   rw[e0,e1,e2,e3,e4,ha,hb,hc,hd,he]
def GmFit (g:Gm):Prop:=I63 g.c.r∧I63 g.c.l∧I63 g.c.s∧I63 g.c.p∧I63 g.c.a∧I63 g.h
def GmRead (w:World) (cs:List Value) (y:Gm×Gv):Prop:=cs=gmCells y.1 y.2∧StrRow w y.2.s y.1.s∧BoolRow w y.2.u y.1.u∧BoolRow w y.2.e y.1.e∧GmFit y.1
set_option maxRecDepth 100000 in
theorem guest_cells {H:Type} {enc:TypeId×Value→H} {w:World} {base:Nat} {sp:Nat→Bool} {held:Bool} {fuel:Nat} {cs:List Value} {x:DataW H×List MemPlace}
    (h:DataW.trod enc Tryz.prog w base sp held fuel 49 cs=some x) (hl:cs.length=9):∃ y:Gm×Gv,GmRead w cs y:=by
 obtain⟨n,hf⟩:=open_part Tryz.underlying49 h
 match cs,hl with
 | [a0,a1,a2,a3,a4,a5,a6,a7,a8],_ =>
   obtain⟨y0,t0⟩:=hf 0 32 0 5 ⟨_,rfl,rfl,rfl⟩ (by kernel_rfl)
   obtain⟨y1,t1⟩:=hf 1 22 5 1 ⟨_,rfl,rfl,rfl⟩ (by kernel_rfl)
   obtain⟨y2,t2⟩:=hf 2 47 6 1 ⟨_,rfl,rfl,rfl⟩ (by kernel_rfl)
   obtain⟨y3,t3⟩:=hf 3 3 7 1 ⟨_,rfl,rfl,rfl⟩ (by kernel_rfl)
   obtain⟨y4,t4⟩:=hf 4 47 8 1 ⟨_,rfl,rfl,rfl⟩ (by kernel_rfl)
   replace t0:DataW.trod enc Tryz.prog w base sp held n 32 [a0,a1,a2,a3,a4]=some y0:=t0
   replace t1:DataW.trod enc Tryz.prog w base sp held n 22 [a5]=some y1:=t1
   replace t2:DataW.trod enc Tryz.prog w base sp held n 47 [a6]=some y2:=t2
   replace t3:DataW.trod enc Tryz.prog w base sp held n 3 [a7]=some y3:=t3
   replace t4:DataW.trod enc Tryz.prog w base sp held n 47 [a8]=some y4:=t4
   obtain⟨c,hc,b1,b2,b3,b4,b5⟩:=claim_cells t0 rfl
   obtain⟨S,hS⟩:=strs_cells t1
   obtain⟨U,hU⟩:=bools_cells t2
   obtain⟨hd,hh,_,wh⟩:=DataW.trod_int Tryz.underlying3 t3
   obtain⟨E,hE⟩:=bools_cells t4
   injection hh with hh
   simp only[List.cons.injEq,and_true] at hc
   obtain⟨h0,h1,h2,h3,h4⟩:=hc
   exact⟨(⟨c,S,U,hd,E⟩,⟨a5,a6,a8⟩),by rw[h0,h1,h2,h3,h4,hh];rfl,hS,hU,hE,b1,b2,b3,b4,b5,bounds_i64 wh⟩
theorem flat_pairs (xs:List (Gm×Gv)):gmFlat (xs.map Prod.fst) (xs.map Prod.snd)=xs.flatMap (fun y=>gmCells y.1 y.2):=by
 unfold gmFlat
 induction xs with
 | nil=>rfl
 | cons y ys ih=>rw[List.map_cons,List.map_cons,List.zipWith_cons_cons,List.flatten_cons,List.flatMap_cons,ih]
theorem guests_cells {H:Type} {enc:TypeId×Value→H} {w:World} {base:Nat} {sp:Nat→Bool} {held:Bool} {fuel:Nat} {c:Value} {x:DataW H×List MemPlace}
    (h:DataW.trod enc Tryz.prog w base sp held fuel 27 [c]=some x):∃ (G:List Gm) (gs:List Gv),gs.length=G.length∧RowAt w c G.length (gmFlat G gs)∧(∀ (i:Nat) (x:Gv) (g:Gm),gs[i]?=some x→G[i]?=some g→StrRow w x.s g.s∧BoolRow w x.u g.u∧BoolRow w x.e g.e)∧∀ g∈G,GmFit g:=by
 obtain⟨v,xs,hcs,hrow⟩:=open_rowOf (R:=GmRead) (size:=9) Tryz.underlying27 (by kernel_rfl) (by decide) (fun n cs y hy hl=>guest_cells hy hl) h
 injection hcs with hcs
 subst hcs
 have hr:=rowAt_of_rowOf (f:=fun y:Gm×Gv=>gmCells y.1 y.2) (size:=9) (w:=w) (v:=c) (xs:=xs) (by decide) (fun _=>rfl) (by
  obtain⟨ao,cap,hv,h1,h2,h3⟩:=hrow
  refine ⟨ao,cap,hv,h1,h2,?_⟩
  rcases h3 with h3|⟨b,off,ha,hlt,hc⟩
  · exact .inl h3
  · refine .inr ⟨b,off,ha,hlt,fun i a hi=>?_⟩
    obtain⟨cs,q1,q2,q3⟩:=hc i a hi
    exact⟨cs,q1,q2.1,q3⟩)
 have hR:∀ y∈xs,StrRow w y.2.s y.1.s∧BoolRow w y.2.u y.1.u∧BoolRow w y.2.e y.1.e∧GmFit y.1:=by
  intro y hy
  obtain⟨ao,cap,hv,h1,h2,h3⟩:=hrow
  rcases h3 with h3|⟨b,off,ha,hlt,hc⟩
  · rw[List.eq_nil_of_length_eq_zero h3] at hy
    simp at hy
  · obtain⟨i,hi⟩:=List.getElem?_of_mem hy
    obtain⟨cs,q1,q2,q3⟩:=hc i y hi
    exact q2.2
 refine ⟨xs.map Prod.fst,xs.map Prod.snd,by rw[List.length_map,List.length_map],by rw[flat_pairs,List.length_map];exact hr,fun i x g hx hg=>?_,fun g hg=>?_⟩
 · rw[List.getElem?_map] at hx hg
   cases hy:xs[i]? with
   | none=>rw[hy] at hx;cases hx
   | some y =>
     rw[hy] at hx hg
     injection hx with hx
     injection hg with hg
     subst hx hg
     obtain⟨a,b,c,_⟩:=hR y (List.mem_of_getElem? hy)
     exact⟨a,b,c⟩
 · rw[List.mem_map] at hg
   obtain⟨y,hy,rfl⟩:=hg
   exact (hR y hy).2.2.2
set_option maxRecDepth 100000 in
theorem host_arg {H:Type} {enc:TypeId×Value→H} {w:World} {r:Reach} {b0 base:Nat} {sp:Nat→Bool} {held:Bool} {v:Value} {d:DataW H} {p:List MemPlace} (hv:Value.okWide Tryz.prog w r b0 30 v) (h:DataW.Trod enc Tryz.prog w base sp held 30 v d p):∃ K:Ho,HoAt w v K∧K.Fit:=by
 obtain⟨cs,rfl,hsz⟩:=okWide_struct Tryz.underlying30 hv
 obtain⟨l⟩:=cs
 obtain⟨fuel,hf⟩:=h
 have hl:l.length=7:=hsz.trans (by kernel_rfl)
 obtain⟨n,hp⟩:=open_part Tryz.underlying30 hf
 match l,hl with
 | [a0,a1,a2,a3,a4,a5,a6],_ =>
   obtain⟨y0,t0⟩:=hp 0 26 0 3 ⟨_,rfl,rfl,rfl⟩ (by kernel_rfl)
   obtain⟨y1,t1⟩:=hp 1 27 3 1 ⟨_,rfl,rfl,rfl⟩ (by kernel_rfl)
   obtain⟨y2,t2⟩:=hp 2 3 4 1 ⟨_,rfl,rfl,rfl⟩ (by kernel_rfl)
   obtain⟨y3,t3⟩:=hp 3 28 5 1 ⟨_,rfl,rfl,rfl⟩ (by kernel_rfl)
   obtain⟨y4,t4⟩:=hp 4 3 6 1 ⟨_,rfl,rfl,rfl⟩ (by kernel_rfl)
   replace t0:DataW.trod enc Tryz.prog w base sp held n 26 [a0,a1,a2]=some y0:=t0
   replace t1:DataW.trod enc Tryz.prog w base sp held n 27 [a3]=some y1:=t1
   replace t2:DataW.trod enc Tryz.prog w base sp held n 3 [a4]=some y2:=t2
   replace t3:DataW.trod enc Tryz.prog w base sp held n 28 [a5]=some y3:=t3
   replace t4:DataW.trod enc Tryz.prog w base sp held n 3 [a6]=some y4:=t4
   obtain⟨P,vf,vr,vm,hc,hF,hR,hM,hfit⟩:=pool_cells t0 rfl
   obtain⟨G,gs,g1,g2,g3,g4⟩:=guests_cells t1
   obtain⟨tt,ht,_,wt⟩:=DataW.trod_int Tryz.underlying3 t2
   obtain⟨dd,hd,_,wd⟩:=DataW.trod_int Tryz.underlying28 t3
   obtain⟨ss,hs,_,ws⟩:=DataW.trod_int Tryz.underlying3 t4
   injection ht with ht
   injection hd with hd
   injection hs with hs
   simp only[List.cons.injEq,and_true] at hc
   obtain⟨q0,q1,q2⟩:=hc
   subst q0 q1 q2 ht hd hs
   have hrow:HoRow w a0 a1 a2 a3 ⟨P,G,tt,dd,ss⟩:=⟨⟨a0,a1,a2,rfl,hF,hR,hM⟩,gs,g1,g2,g3⟩
   exact⟨_,hrow.at_,hfit,bounds_i64 wt,⟨(bounds_u64 wd).1,Int.lt_of_le_of_lt (bounds_u64 wd).2 (by decide)⟩,bounds_i64 ws,g4⟩
set_option maxRecDepth 100000 in
theorem claim_arg {H:Type} {enc:TypeId×Value→H} {w:World} {r:Reach} {b0 base:Nat} {sp:Nat→Bool} {held:Bool} {v:Value} {d:DataW H} {p:List MemPlace} (hv:Value.okWide Tryz.prog w r b0 32 v) (h:DataW.Trod enc Tryz.prog w base sp held 32 v d p):∃ c:Clm,v=.agg #[.int .i64 c.r,.int .i64 c.l,.int .i64 c.s,.int .i64 c.p,.int .i64 c.a]∧I63 c.p:=by
 obtain⟨cs,rfl,hsz⟩:=okWide_struct Tryz.underlying32 hv
 obtain⟨l⟩:=cs
 obtain⟨fuel,hf⟩:=h
 obtain⟨c,hc,_,_,_,b,_⟩:=claim_cells hf (hsz.trans (by kernel_rfl))
 exact⟨c,congrArg (fun z:List Value=>Value.agg z.toArray) hc,b⟩
end Go.Proofs.YtbnngjhnkegliaaGreat
namespace Go.Proofs.YtbnngjhnkegliaaGreat
open Go.RowKit
def newB (n t:Int):Bool:=newOk n && taxB t
def newHI (n t d:Int):Ho:=if newB n t=true then ⟨newPl n,[],t,d,0⟩ else ⟨⟨[],[],[]⟩,[],0,0,0⟩
theorem zero_host (w:World):HoAt w (.agg #[.slice none 0 0,.slice none 0 0,.slice none 0 0,.slice none 0 0,.int .i64 0,.int .u64 0,.int .i64 0]) ⟨⟨[],[],[]⟩,[],0,0,0⟩:=(OwnH.start (base:=0) (t:=0) (d:=0) (n:=0) (own_pnil 0 w)).at_
set_option maxRecDepth 100000 in
set_option maxHeartbeats 4000000 in
theorem hnew_row (n t d:Int) (w:World):Calls Tryz.prog 7 #[.int .i64 n,.int .i64 t,.int .u64 d] w (RetHoV (fun v=>.tuple #[v,.bool (newB n t)]) (newHI n t d) w):=by
 have C1:=fun w=>pnew_any_own n w
 obtain⟨P,hP⟩:∃ P,newPl n=P:=⟨_,rfl⟩
 obtain⟨b,hb⟩:∃ b,newOk n=b:=⟨_,rfl⟩
 rw[hP,hb] at C1
 have HC:=lh C1;clear C1
 have HP:=lh hP;clear hP
 have HB:=lh hb;clear hb
 have D2:=HasBlock.made w #[.slice none 0 0,.slice none 0 0,.slice none 0 0,.slice none 0 0,.int .i64 0,.int .u64 0,.int .i64 0] 30
 have hbw:Below w.heap.size w (w.alloc (.cells #[.slice none 0 0,.slice none 0 0,.slice none 0 0,.slice none 0 0,.int .i64 0,.int .u64 0,.int .i64 0] 30)):=(Below.refl _ _).alloc (nlr _) _
 go_enter Tryz.func7,Tryz.ntmps7
 go_wp2_with fail
 with_reducible refine (HC.out _).mono ?_
 rintro e w1 ⟨of0,or0,om0,kf0,kr0,km0,us0,rfl,O0,hbk⟩
 have hz1:=hbk.size
 simp only[sizes] at O0 hz1
 replace D2:=D2.below hbk
 replace hbw:=hbw.trans (hbk.mono hbw.size)
 clear hbk
 obtain⟨n0,hgn⟩:∃ n,(Pl.F P).length=n:=⟨_,rfl⟩
 obtain⟨r0,hgr⟩:∃ n,(Pl.R P).length=n:=⟨_,rfl⟩
 obtain⟨m0,hgm⟩:∃ n,(Pl.M P).length=n:=⟨_,rfl⟩
 rw[hgn,hgr,hgm] at O0 ⊢
 have HG0:=lh (And.intro hgn (And.intro hgr hgm))
 clear hgn hgr hgm
 have D2k:=D2
 obtain⟨D2_c,D2_f,D2_z⟩:=D2.all
 cases b
 · have HNO:Hid (newB n t=false):=lh (by unfold newB;rw[HB.out];rfl)
   have DF:=(D2k.fill7 (.slice none 0 0) (.slice none 0 0) (.slice none 0 0) (.slice none 0 0) (.int .i64 0) (.int .u64 0) (.int .i64 0)).alloc (.cells #[.slice of0 n0 kf0,.slice or0 r0 kr0,.slice om0 m0 km0] 26)
   have BF:=(Below.fill7 hbw (nlr _) (.slice none 0 0) (.slice none 0 0) (.slice none 0 0) (.slice none 0 0) (.int .i64 0) (.int .u64 0) (.int .i64 0)).alloc (by simp only[sizes];omega) (.cells #[.slice of0 n0 kf0,.slice or0 r0 kr0,.slice om0 m0 km0] 26)
   go_wp2_with fail
   generalize hW:(((((((World.setCell w1 ⟨w.heap.size,0,none⟩ (.slice none 0 0)).setCell ⟨w.heap.size,1,none⟩ (.slice none 0 0)).setCell ⟨w.heap.size,2,none⟩ (.slice none 0 0)).setCell ⟨w.heap.size,3,none⟩ (.slice none 0 0)).setCell ⟨w.heap.size,4,none⟩ (.int .i64 0)).setCell ⟨w.heap.size,5,none⟩ (.int .u64 0)).setCell ⟨w.heap.size,6,none⟩ (.int .i64 0)).alloc (.cells #[.slice of0 n0 kf0,.slice or0 r0 kr0,.slice om0 m0 km0] 26)=wf at DF BF ⊢
   clear D2_c D2_f D2_z hW
   obtain⟨DF_c,DF_f,DF_z⟩:=DF.all
   refine bodyPost_ret (v:=.tuple #[.agg #[.slice none 0 0,.slice none 0 0,.slice none 0 0,.slice none 0 0,.int .i64 0,.int .u64 0,.int .i64 0],.bool false]) (by simp [results,Tryz.results7,go_sem,DF_c]) rfl ?_
   rw[HNO.out,show newHI n t d=⟨⟨[],[],[]⟩,[],0,0,0⟩ from by unfold newHI;rw[HNO.out];rfl]
   exact⟨_,rfl,zero_host _,BF⟩
 by_cases g1:t<0
 · have HNO:Hid (newB n t=false):=lh (by unfold newB taxB;rw[HB.out,decide_eq_false (by omega)];rfl)
   have t1:decide (t<0)=true:=decide_eq_true g1
   have DF:=(D2k.fill7 (.slice none 0 0) (.slice none 0 0) (.slice none 0 0) (.slice none 0 0) (.int .i64 0) (.int .u64 0) (.int .i64 0)).alloc (.cells #[.slice of0 n0 kf0,.slice or0 r0 kr0,.slice om0 m0 km0] 26)
   have BF:=(Below.fill7 hbw (nlr _) (.slice none 0 0) (.slice none 0 0) (.slice none 0 0) (.slice none 0 0) (.int .i64 0) (.int .u64 0) (.int .i64 0)).alloc (by simp only[sizes];omega) (.cells #[.slice of0 n0 kf0,.slice or0 r0 kr0,.slice om0 m0 km0] 26)
   go_wp2_with fail
   generalize hW:(((((((World.setCell w1 ⟨w.heap.size,0,none⟩ (.slice none 0 0)).setCell ⟨w.heap.size,1,none⟩ (.slice none 0 0)).setCell ⟨w.heap.size,2,none⟩ (.slice none 0 0)).setCell ⟨w.heap.size,3,none⟩ (.slice none 0 0)).setCell ⟨w.heap.size,4,none⟩ (.int .i64 0)).setCell ⟨w.heap.size,5,none⟩ (.int .u64 0)).setCell ⟨w.heap.size,6,none⟩ (.int .i64 0)).alloc (.cells #[.slice of0 n0 kf0,.slice or0 r0 kr0,.slice om0 m0 km0] 26)=wf at DF BF ⊢
   clear D2_c D2_f D2_z hW
   obtain⟨DF_c,DF_f,DF_z⟩:=DF.all
   refine bodyPost_ret (v:=.tuple #[.agg #[.slice none 0 0,.slice none 0 0,.slice none 0 0,.slice none 0 0,.int .i64 0,.int .u64 0,.int .i64 0],.bool false]) (by simp [results,Tryz.results7,go_sem,DF_c]) rfl ?_
   rw[HNO.out,show newHI n t d=⟨⟨[],[],[]⟩,[],0,0,0⟩ from by unfold newHI;rw[HNO.out];rfl]
   exact⟨_,rfl,zero_host _,BF⟩
 have t1:decide (t<0)=false:=decide_eq_false g1
 by_cases g2:99<t
 · have HNO:Hid (newB n t=false):=lh (by unfold newB taxB;rw[HB.out,decide_eq_false (by omega)];rfl)
   have t2:decide (t>99)=true:=decide_eq_true g2
   have t2':decide (99<t)=true:=decide_eq_true g2
   have DF:=(D2k.fill7 (.slice none 0 0) (.slice none 0 0) (.slice none 0 0) (.slice none 0 0) (.int .i64 0) (.int .u64 0) (.int .i64 0)).alloc (.cells #[.slice of0 n0 kf0,.slice or0 r0 kr0,.slice om0 m0 km0] 26)
   have BF:=(Below.fill7 hbw (nlr _) (.slice none 0 0) (.slice none 0 0) (.slice none 0 0) (.slice none 0 0) (.int .i64 0) (.int .u64 0) (.int .i64 0)).alloc (by simp only[sizes];omega) (.cells #[.slice of0 n0 kf0,.slice or0 r0 kr0,.slice om0 m0 km0] 26)
   go_wp2_with fail
   generalize hW:(((((((World.setCell w1 ⟨w.heap.size,0,none⟩ (.slice none 0 0)).setCell ⟨w.heap.size,1,none⟩ (.slice none 0 0)).setCell ⟨w.heap.size,2,none⟩ (.slice none 0 0)).setCell ⟨w.heap.size,3,none⟩ (.slice none 0 0)).setCell ⟨w.heap.size,4,none⟩ (.int .i64 0)).setCell ⟨w.heap.size,5,none⟩ (.int .u64 0)).setCell ⟨w.heap.size,6,none⟩ (.int .i64 0)).alloc (.cells #[.slice of0 n0 kf0,.slice or0 r0 kr0,.slice om0 m0 km0] 26)=wf at DF BF ⊢
   clear D2_c D2_f D2_z hW
   obtain⟨DF_c,DF_f,DF_z⟩:=DF.all
   refine bodyPost_ret (v:=.tuple #[.agg #[.slice none 0 0,.slice none 0 0,.slice none 0 0,.slice none 0 0,.int .i64 0,.int .u64 0,.int .i64 0],.bool false]) (by simp [results,Tryz.results7,go_sem,DF_c]) rfl ?_
   rw[HNO.out,show newHI n t d=⟨⟨[],[],[]⟩,[],0,0,0⟩ from by unfold newHI;rw[HNO.out];rfl]
   exact⟨_,rfl,zero_host _,BF⟩
 have t2:decide (t>99)=false:=decide_eq_false g2
 have t2':decide (99<t)=false:=decide_eq_false g2
 have HYES:Hid (newB n t=true):=lh (by unfold newB taxB;rw[HB.out,decide_eq_true (by omega)];rfl)
 have OS:OwnH (w.heap.size+1) w1 (.slice of0 n0 kf0) (.slice or0 r0 kr0) (.slice om0 m0 km0) us0 (.slice none 0 0) [] ⟨P,[],t,d,0⟩:=OwnH.start O0
 have OF:=(OS.fill7 (Nat.lt_succ_self _) (.slice of0 n0 kf0) (.slice or0 r0 kr0) (.slice om0 m0 km0) (.slice none 0 0) (.int .i64 t) (.int .u64 d) (.int .i64 0)).alloc (.cells #[.slice of0 n0 kf0,.slice or0 r0 kr0,.slice om0 m0 km0] 26)
 have DF:=(D2k.fill7 (.slice of0 n0 kf0) (.slice or0 r0 kr0) (.slice om0 m0 km0) (.slice none 0 0) (.int .i64 t) (.int .u64 d) (.int .i64 0)).alloc (.cells #[.slice of0 n0 kf0,.slice or0 r0 kr0,.slice om0 m0 km0] 26)
 have BF:=(Below.fill7 hbw (nlr _) (.slice of0 n0 kf0) (.slice or0 r0 kr0) (.slice om0 m0 km0) (.slice none 0 0) (.int .i64 t) (.int .u64 d) (.int .i64 0)).alloc (by simp only[sizes];omega) (.cells #[.slice of0 n0 kf0,.slice or0 r0 kr0,.slice om0 m0 km0] 26)
 go_wp2_with fail
 generalize hW:(((((((World.setCell w1 ⟨w.heap.size,0,none⟩ (.slice of0 n0 kf0)).setCell ⟨w.heap.size,1,none⟩ (.slice or0 r0 kr0)).setCell ⟨w.heap.size,2,none⟩ (.slice om0 m0 km0)).setCell ⟨w.heap.size,3,none⟩ (.slice none 0 0)).setCell ⟨w.heap.size,4,none⟩ (.int .i64 t)).setCell ⟨w.heap.size,5,none⟩ (.int .u64 d)).setCell ⟨w.heap.size,6,none⟩ (.int .i64 0)).alloc (.cells #[.slice of0 n0 kf0,.slice or0 r0 kr0,.slice om0 m0 km0] 26)=wf at OF DF BF ⊢
 clear D2_c D2_f D2_z hW
 obtain⟨DF_c,DF_f,DF_z⟩:=DF.all
 refine bodyPost_ret (v:=.tuple #[.agg #[.slice of0 n0 kf0,.slice or0 r0 kr0,.slice om0 m0 km0,.slice none 0 0,.int .i64 t,.int .u64 d,.int .i64 0],.bool true]) (by simp [results,Tryz.results7,go_sem,DF_c]) rfl ?_
 rw[HYES.out,show newHI n t d=⟨P,[],t,d,0⟩ from by unfold newHI;rw[HYES.out,if_pos rfl,HP.out]]
 exact (hoRet' (k:=fun v=>.tuple #[v,.bool true]) (H:=⟨P,[],t,d,0⟩) HG0.out.1 HG0.out.2.1 HG0.out.2.2 rfl rfl rfl rfl OF BF).v
set_option maxRecDepth 100000 in
set_option maxHeartbeats 4000000 in
theorem rnew_row (n t d:Int) (w:World):Calls Tryz.prog 8 #[.int .i64 n,.int .i64 t,.int .u64 d] w (RetHoV (fun v=>.tuple #[v,.bool (newB n t)]) (newHI n t d) w):=by
 have C1:=fun w=>rnew_any_own n w
 obtain⟨P,hP⟩:∃ P,newPl n=P:=⟨_,rfl⟩
 obtain⟨b,hb⟩:∃ b,newOk n=b:=⟨_,rfl⟩
 rw[hP,hb] at C1
 have HC:=lh C1;clear C1
 have HP:=lh hP;clear hP
 have HB:=lh hb;clear hb
 have D2:=HasBlock.made w #[.slice none 0 0,.slice none 0 0,.slice none 0 0,.slice none 0 0,.int .i64 0,.int .u64 0,.int .i64 0] 30
 have hbw:Below w.heap.size w (w.alloc (.cells #[.slice none 0 0,.slice none 0 0,.slice none 0 0,.slice none 0 0,.int .i64 0,.int .u64 0,.int .i64 0] 30)):=(Below.refl _ _).alloc (nlr _) _
 go_enter Tryz.func8,Tryz.ntmps8
 go_wp2_with fail
 with_reducible refine (HC.out _).mono ?_
 rintro e w1 ⟨of0,or0,om0,kf0,kr0,km0,us0,rfl,O0,hbk⟩
 have hz1:=hbk.size
 simp only[sizes] at O0 hz1
 replace D2:=D2.below hbk
 replace hbw:=hbw.trans (hbk.mono hbw.size)
 clear hbk
 obtain⟨n0,hgn⟩:∃ n,(Pl.F P).length=n:=⟨_,rfl⟩
 obtain⟨r0,hgr⟩:∃ n,(Pl.R P).length=n:=⟨_,rfl⟩
 obtain⟨m0,hgm⟩:∃ n,(Pl.M P).length=n:=⟨_,rfl⟩
 rw[hgn,hgr,hgm] at O0 ⊢
 have HG0:=lh (And.intro hgn (And.intro hgr hgm))
 clear hgn hgr hgm
 have D2k:=D2
 obtain⟨D2_c,D2_f,D2_z⟩:=D2.all
 cases b
 · have HNO:Hid (newB n t=false):=lh (by unfold newB;rw[HB.out];rfl)
   have DF:=(D2k.fill7 (.slice none 0 0) (.slice none 0 0) (.slice none 0 0) (.slice none 0 0) (.int .i64 0) (.int .u64 0) (.int .i64 0)).alloc (.cells #[.slice of0 n0 kf0,.slice or0 r0 kr0,.slice om0 m0 km0] 26)
   have BF:=(Below.fill7 hbw (nlr _) (.slice none 0 0) (.slice none 0 0) (.slice none 0 0) (.slice none 0 0) (.int .i64 0) (.int .u64 0) (.int .i64 0)).alloc (by simp only[sizes];omega) (.cells #[.slice of0 n0 kf0,.slice or0 r0 kr0,.slice om0 m0 km0] 26)
   go_wp2_with fail
   generalize hW:(((((((World.setCell w1 ⟨w.heap.size,0,none⟩ (.slice none 0 0)).setCell ⟨w.heap.size,1,none⟩ (.slice none 0 0)).setCell ⟨w.heap.size,2,none⟩ (.slice none 0 0)).setCell ⟨w.heap.size,3,none⟩ (.slice none 0 0)).setCell ⟨w.heap.size,4,none⟩ (.int .i64 0)).setCell ⟨w.heap.size,5,none⟩ (.int .u64 0)).setCell ⟨w.heap.size,6,none⟩ (.int .i64 0)).alloc (.cells #[.slice of0 n0 kf0,.slice or0 r0 kr0,.slice om0 m0 km0] 26)=wf at DF BF ⊢
   clear D2_c D2_f D2_z hW
   obtain⟨DF_c,DF_f,DF_z⟩:=DF.all
   refine bodyPost_ret (v:=.tuple #[.agg #[.slice none 0 0,.slice none 0 0,.slice none 0 0,.slice none 0 0,.int .i64 0,.int .u64 0,.int .i64 0],.bool false]) (by simp [results,Tryz.results8,go_sem,DF_c]) rfl ?_
   rw[HNO.out,show newHI n t d=⟨⟨[],[],[]⟩,[],0,0,0⟩ from by unfold newHI;rw[HNO.out];rfl]
   exact⟨_,rfl,zero_host _,BF⟩
 have TX:=fun w=>vmfleetref35_taxed_any t w
 obtain⟨tb,htb⟩:∃ b,taxB t=b:=⟨_,rfl⟩
 rw[htb] at TX
 have HTX:=lh TX;clear TX
 have HTB:=lh htb;clear htb
 have DP:=HasBlock.made w1 #[.slice of0 n0 kf0,.slice or0 r0 kr0,.slice om0 m0 km0] 26
 go_wp2_with fail
 clear D2_c D2_f D2_z D2
 replace O0:=O0.alloc (.cells #[.slice of0 n0 kf0,.slice or0 r0 kr0,.slice om0 m0 km0] 26)
 replace D2k:=D2k.alloc (.cells #[.slice of0 n0 kf0,.slice or0 r0 kr0,.slice om0 m0 km0] 26)
 replace hbw:=hbw.alloc (by omega) (.cells #[.slice of0 n0 kf0,.slice or0 r0 kr0,.slice om0 m0 km0] 26)
 with_reducible refine (HTX.out _).mono ?_
 rintro e w2 ⟨rfl,hb2⟩
 have hz2:=hb2.size
 simp only[sizes] at hz2
 replace O0:=O0.below hb2
 replace D2k:=D2k.below hb2
 replace DP:=DP.below hb2
 replace hbw:=hbw.trans (hb2.mono hbw.size)
 clear hb2
 have D2:=D2k
 obtain⟨D2_c,D2_f,D2_z⟩:=D2.all
 obtain⟨DP_c,DP_f,DP_z⟩:=DP.all
 cases tb
 · have HNO:Hid (newB n t=false):=lh (by unfold newB;rw[HB.out,HTB.out];rfl)
   have DF:=D2k.fill7 (.slice none 0 0) (.slice none 0 0) (.slice none 0 0) (.slice none 0 0) (.int .i64 0) (.int .u64 0) (.int .i64 0)
   have BF:=Below.fill7 hbw (nlr _) (.slice none 0 0) (.slice none 0 0) (.slice none 0 0) (.slice none 0 0) (.int .i64 0) (.int .u64 0) (.int .i64 0)
   go_wp2_with fail
   clear D2_c D2_f D2_z DP_c DP_f DP_z
   generalize hW:(((((((World.setCell w2 ⟨w.heap.size,0,none⟩ (.slice none 0 0)).setCell ⟨w.heap.size,1,none⟩ (.slice none 0 0)).setCell ⟨w.heap.size,2,none⟩ (.slice none 0 0)).setCell ⟨w.heap.size,3,none⟩ (.slice none 0 0)).setCell ⟨w.heap.size,4,none⟩ (.int .i64 0)).setCell ⟨w.heap.size,5,none⟩ (.int .u64 0)).setCell ⟨w.heap.size,6,none⟩ (.int .i64 0))=wf at DF BF ⊢
   clear hW
   obtain⟨DF_c,DF_f,DF_z⟩:=DF.all
   refine bodyPost_ret (v:=.tuple #[.agg #[.slice none 0 0,.slice none 0 0,.slice none 0 0,.slice none 0 0,.int .i64 0,.int .u64 0,.int .i64 0],.bool false]) (by simp [results,Tryz.results8,go_sem,DF_c]) rfl ?_
   rw[HNO.out,show newHI n t d=⟨⟨[],[],[]⟩,[],0,0,0⟩ from by unfold newHI;rw[HNO.out];rfl]
   exact⟨_,rfl,zero_host _,BF⟩
 · have HYES:Hid (newB n t=true):=lh (by unfold newB;rw[HB.out,HTB.out];rfl)
   have OS:OwnH (w.heap.size+1) w2 (.slice of0 n0 kf0) (.slice or0 r0 kr0) (.slice om0 m0 km0) us0 (.slice none 0 0) [] ⟨P,[],t,d,0⟩:=OwnH.start O0
   have OF:=OS.fill7 (Nat.lt_succ_self _) (.slice of0 n0 kf0) (.slice or0 r0 kr0) (.slice om0 m0 km0) (.slice none 0 0) (.int .i64 t) (.int .u64 d) (.int .i64 0)
   have DF:=D2k.fill7 (.slice of0 n0 kf0) (.slice or0 r0 kr0) (.slice om0 m0 km0) (.slice none 0 0) (.int .i64 t) (.int .u64 d) (.int .i64 0)
   have BF:=Below.fill7 hbw (nlr _) (.slice of0 n0 kf0) (.slice or0 r0 kr0) (.slice om0 m0 km0) (.slice none 0 0) (.int .i64 t) (.int .u64 d) (.int .i64 0)
   go_wp2_with fail
   clear D2_c D2_f D2_z DP_c DP_f DP_z
   generalize hW:(((((((World.setCell w2 ⟨w.heap.size,0,none⟩ (.slice of0 n0 kf0)).setCell ⟨w.heap.size,1,none⟩ (.slice or0 r0 kr0)).setCell ⟨w.heap.size,2,none⟩ (.slice om0 m0 km0)).setCell ⟨w.heap.size,3,none⟩ (.slice none 0 0)).setCell ⟨w.heap.size,4,none⟩ (.int .i64 t)).setCell ⟨w.heap.size,5,none⟩ (.int .u64 d)).setCell ⟨w.heap.size,6,none⟩ (.int .i64 0))=wf at OF DF BF ⊢
   clear hW
   obtain⟨DF_c,DF_f,DF_z⟩:=DF.all
   refine bodyPost_ret (v:=.tuple #[.agg #[.slice of0 n0 kf0,.slice or0 r0 kr0,.slice om0 m0 km0,.slice none 0 0,.int .i64 t,.int .u64 d,.int .i64 0],.bool true]) (by simp [results,Tryz.results8,go_sem,DF_c]) rfl ?_
   rw[HYES.out,show newHI n t d=⟨P,[],t,d,0⟩ from by unfold newHI;rw[HYES.out,if_pos rfl,HP.out]]
   exact (hoRet' (k:=fun v=>.tuple #[v,.bool true]) (H:=⟨P,[],t,d,0⟩) HG0.out.1 HG0.out.2.1 HG0.out.2.2 rfl rfl rfl rfl OF BF).v
def RetLightH (H:Ho) (w:World) (e:Ending) (w':World):Prop:=∃ b:Bool,e=.returned (.bool b)∧(b=true→H.Small)∧Below w.heap.size w w'
set_option maxRecDepth 100000 in
set_option maxHeartbeats 4000000 in
theorem lighth_any (v:Value) (H:Ho) (w:World) (ha:HoAt w v H):Calls Tryz.prog 5 #[v] w (RetLightH H w):=by
 obtain⟨of,or',om,og,kf,kr,km,kg,n,r,m,q,tx,dx,sx,HN,HR,HM,HQ,HT,HD,HS,rfl,kf1,kf2,kr1,kr2,km1,km2,kg1,kg2,h⟩:=HoAt.opened ha
 have hbw:Below w.heap.size w (w.alloc (.cells #[.slice of n kf,.slice or' r kr,.slice om m km,.slice og q kg,.int .i64 tx,.int .u64 dx,.int .i64 sx] 30)):=(Below.refl _ _).alloc (nlr _) _
 by_cases g1:120<n
 · go_enter Tryz.func5,Tryz.ntmps5
   go_wp2_with fail
   go_ret
   exact⟨false,rfl,(fun h=>by cases h),bel⟩
 by_cases g2:120<r
 · go_enter Tryz.func5,Tryz.ntmps5
   go_wp2_with fail
   go_ret
   exact⟨false,rfl,(fun h=>by cases h),bel⟩
 by_cases g3:10<m
 · go_enter Tryz.func5,Tryz.ntmps5
   go_wp2_with fail
   go_ret
   exact⟨false,rfl,(fun h=>by cases h),bel⟩
 by_cases g4:10<q
 · go_enter Tryz.func5,Tryz.ntmps5
   go_wp2_with fail
   go_ret
   exact⟨false,rfl,(fun h=>by cases h),bel⟩
 have D1:=HasBlock.made w #[.slice of n kf,.slice or' r kr,.slice om m km,.slice og q kg,.int .i64 tx,.int .u64 dx,.int .i64 sx] 30
 have hrow:=h.below hbw
 clear h
 go_enter Tryz.func5,Tryz.ntmps5
 go_wp2_with fail
 generalize hW:w.alloc (.cells #[.slice of n kf,.slice or' r kr,.slice om m km,.slice og q kg,.int .i64 tx,.int .u64 dx,.int .i64 sx] 30)=w1 at D1 hbw hrow ⊢
 clear hW
 have HROW:=lh hrow;clear hrow
 have D1k:=D1
 obtain⟨D1_c,D1_f,D1_z⟩:=D1.all
 go_loop [3] (fun i=>∃ k:Nat,k≤n∧i=.int .i64 k) (fun i=>n - (intOf i).toNat)
 case atStart=>exact⟨0,Nat.zero_le _,rfl⟩
 case round =>
  obtain⟨j,hj,rfl⟩:=hrel
  by_cases hlt:j<n
  · obtain⟨s,hs⟩:=get_lt (xs:=H.P.F) (k:=j) (by rw[HN.out];exact hlt)
    obtain⟨fb,foff,rfl,hfb,cf⟩:=HROW.out.p.parts.1.elem hs
    clear hs
    by_cases g5:300<s.size
    · go_wp2_with fail
      go_ret
      exact⟨false,rfl,(fun h=>by cases h),hbw⟩
    · go_wp2_with fail
      go_round
      case rel=>exact⟨j+1,by omega,by go_num⟩
      case measure=>simp [intOf];omega
  · obtain rfl:j=n:=by omega
    clear hlt
    go_wp2_with fail
    go_loop [4] (fun i=>∃ k:Nat,k≤m∧i=.int .i64 k∧Hid (∀ l∈H.P.M.take k,l.length≤40)) (fun i=>m - (intOf i).toNat)
    case atStart=>exact⟨0,Nat.zero_le _,rfl,fun l hl=>by simp at hl⟩
    case round =>
     obtain⟨k,hk,rfl,hA⟩:=hrel
     by_cases hlt:k<m
     · obtain⟨l,hl⟩:=get_lt (xs:=H.P.M) (k:=k) (by rw[HM.out];exact hlt)
       obtain⟨mb,moff,lo,lc,rfl,hmb,cm,u1,u2,hr⟩:=HROW.out.p.guest hl
       clear hr
       by_cases g6:40<l.length
       · clear hl
         go_wp2_with fail
         go_ret
         exact⟨false,rfl,(fun h=>by cases h),hbw⟩
       · have hup:∀ l'∈H.P.M.take (k+1),l'.length≤40:=by
           intro l' hl'
           rw[List.take_add_one,hl,List.mem_append] at hl'
           rcases hl' with hl'|hl'
           · exact hA.out l' hl'
           · simp at hl'
             subst hl'
             omega
         have HUP:=lh hup;clear hup hl
         go_wp2_with fail
         go_round
         case rel=>exact⟨k+1,by omega,by go_num,HUP.out⟩
         case measure=>simp [intOf];omega
     · obtain rfl:k=m:=by omega
       have hall:∀ l∈H.P.M,l.length≤40:=by
        have h:=hA.out
        rw[List.take_of_length_le (by rw[HM.out];exact nlr _)] at h
        exact h
       have HALL:=lh hall;clear hall hA hlt
       go_wp2_with fail
       clear D1_c D1_f D1_z
       go_loopw [5] (fun i wr=>∃ x:Nat,x≤q∧i=.int .i64 x∧Hid (∀ (y:Nat) (g:Gm),y<x→H.G[y]?=some g→g.s.length≤40∧g.u.length≤40∧g.e.length≤40)∧Below w1.heap.size w1 wr) (fun i _=>q - (intOf i).toNat)
       case atStart=>exact⟨0,Nat.zero_le _,rfl,(fun y g hy=>absurd hy (Nat.not_lt_zero _)),Below.refl _ _⟩
       case round =>
        obtain⟨x,hx,rfl,hB,hbr⟩:=hrel
        have D2:=D1k.below hbr
        have hbwr:=hbw.trans (hbr.mono hbw.size)
        by_cases hlt:x<q
        · obtain⟨g,hg⟩:=get_lt (xs:=H.G) (k:=x) (by rw[HQ.out];exact hlt)
          obtain⟨gb,goff,so,sc,uo,uc,eo,ec,rfl,hgb,s1,s2,u1,u2,e3,e4,cs',hS,hU,hE⟩:=(HROW.out.below hbr).guest hg
          clear hU hE
          obtain⟨⟨rr,cl',ss,pp,aa⟩,SS,U,hd,E⟩:=g
          dsimp only at cs' hS s1 u1 e3
          have hup:∀ (y:Nat) (g':Gm),y<x+1→H.G[y]?=some g'→SS.length≤40∧U.length≤40∧E.length≤40→g'.s.length≤40∧g'.u.length≤40∧g'.e.length≤40:=by
           intro y g' hy hg' hsm
           by_cases e:y=x
           · subst e
             rw[hg] at hg'
             injection hg' with hg'
             subst hg'
             exact hsm
           · exact hB.out y g' (by omega) hg'
          obtain⟨sl,hsl⟩:∃ a,SS.length=a:=⟨_,rfl⟩
          obtain⟨ul,hul⟩:∃ a,U.length=a:=⟨_,rfl⟩
          obtain⟨el,hel⟩:∃ a,E.length=a:=⟨_,rfl⟩
          rw[hsl] at cs' hS s1 hup
          rw[hul] at cs' u1 hup
          rw[hel] at cs' e3 hup
          have HSL:=lh hsl;clear hsl hul hel
          have HUP:=lh hup;clear hup hg
          have HSS:=lh hS;clear hS
          have x0:(0:Int)≤(x:Int):=by omega
          have xq:(x:Int)<(q:Int):=by omega
          have c0:wr.cell? ⟨gb,goff+x*9,none⟩=_:=cs' 0 _ rfl
          have c1:wr.cell? ⟨gb,goff+x*9+1,none⟩=_:=cs' 1 _ rfl
          have c2:wr.cell? ⟨gb,goff+x*9+2,none⟩=_:=cs' 2 _ rfl
          have c3:wr.cell? ⟨gb,goff+x*9+3,none⟩=_:=cs' 3 _ rfl
          have c4:wr.cell? ⟨gb,goff+x*9+4,none⟩=_:=cs' 4 _ rfl
          have c5:wr.cell? ⟨gb,goff+x*9+5,none⟩=_:=cs' 5 _ rfl
          have c6:wr.cell? ⟨gb,goff+x*9+6,none⟩=_:=cs' 6 _ rfl
          have c7:wr.cell? ⟨gb,goff+x*9+7,none⟩=_:=cs' 7 _ rfl
          have c8:wr.cell? ⟨gb,goff+x*9+8,none⟩=_:=cs' 8 _ rfl
          dsimp only at c0 c1 c2 c3 c4 c5 c6 c7 c8
          clear cs'
          have hgb2:gb<wr.heap.size:=hgb
          by_cases h1:40<sl
          · have t1:decide (40<sl)=true:=decide_eq_true h1
            obtain⟨D2_c,D2_f,D2_z⟩:=D2.all
            go_wp2_with fail
            go_ret
            exact⟨false,rfl,(fun h=>by cases h),hbwr.alloc hbwr.size _⟩
          by_cases h2:40<ul
          · obtain⟨D2_c,D2_f,D2_z⟩:=D2.all
            go_wp2_with fail
            go_ret
            exact⟨false,rfl,(fun h=>by cases h),hbwr.alloc hbwr.size _⟩
          by_cases h3:40<el
          · obtain⟨D2_c,D2_f,D2_z⟩:=D2.all
            go_wp2_with fail
            go_ret
            exact⟨false,rfl,(fun h=>by cases h),hbwr.alloc hbwr.size _⟩
          have h1':decide (40<sl)=false:=decide_eq_false h1
          have h2':decide (40<ul)=false:=decide_eq_false h2
          have h3':decide (40<el)=false:=decide_eq_false h3
          have E1:=HasBlock.made wr #[.int .i64 rr,.int .i64 cl',.int .i64 ss,.int .i64 pp,.int .i64 aa,.slice so sl sc,.slice uo ul uc,.int .i64 hd,.slice eo el ec] 49
          have hbx:Below wr.heap.size wr (wr.alloc (.cells #[.int .i64 rr,.int .i64 cl',.int .i64 ss,.int .i64 pp,.int .i64 aa,.slice so sl sc,.slice uo ul uc,.int .i64 hd,.slice eo el ec] 49)):=(Below.refl _ _).alloc (nlr _) _
          have D3:=D2.below hbx
          have HS3:=lh (HSS.out.below hbx)
          have hbr3:=hbr.trans (hbx.mono hbr.size)
          have hbw3:=hbw.trans (hbr3.mono hbw.size)
          obtain⟨D2_c,D2_f,D2_z⟩:=D2.all
          go_wp2_with fail
          generalize hW:wr.alloc (.cells #[.int .i64 rr,.int .i64 cl',.int .i64 ss,.int .i64 pp,.int .i64 aa,.slice so sl sc,.slice uo ul uc,.int .i64 hd,.slice eo el ec] 49)=w3 at E1 D3 HS3 hbr3 hbw3 ⊢
          clear hW D2_c D2_f D2_z c0 c1 c2 c3 c4 c5 c6 c7 c8 hgb hgb2 hbx
          obtain⟨E1_c,E1_f,E1_z⟩:=E1.all
          go_loop [7] (fun i=>∃ k:Nat,k≤sl∧i=.int .i64 k) (fun i=>sl - (intOf i).toNat)
          case atStart=>exact⟨0,Nat.zero_le _,rfl⟩
          case round =>
           obtain⟨j2,hj2,rfl⟩:=hrel
           by_cases hlt2:j2<sl
           · obtain⟨s,hs⟩:=get_lt (xs:=SS) (k:=j2) (by rw[HSL.out];exact hlt2)
             obtain⟨fb,foff,rfl,hfb,cf⟩:=HS3.out.elem hs
             clear hs
             by_cases g5:300<s.size
             · go_wp2_with fail
               go_ret
               exact⟨false,rfl,(fun h=>by cases h),hbw3⟩
             · go_wp2_with fail
               go_round
               case rel=>exact⟨j2+1,by omega,by go_num⟩
               case measure=>simp [intOf];omega
           · obtain rfl:j2=sl:=by omega
             go_wp2_with fail
             go_roundw
             case rel=>exact⟨x+1,by omega,by go_num,lh (fun y g hy hg=>HUP.out y g hy hg ⟨by omega,by omega,by omega⟩),hbr3⟩
             case measure=>simp [intOf];omega
        · obtain rfl:x=q:=by omega
          have hsm:H.Small:=⟨by rw[HN.out];omega,by rw[HR.out];omega,by rw[HM.out];omega,fun l hl=>by have:=HALL.out l hl;omega,by rw[HQ.out];omega,fun i g hg=>by
           have h:=hB.out i g (by rw[←HQ.out];exact lt_of_get hg) hg
           omega⟩
          have HSM:=lh hsm;clear hsm
          obtain⟨D2_c,D2_f,D2_z⟩:=D2.all
          go_wp2_with fail
          go_ret
          exact⟨true,rfl,(fun _=>HSM.out),hbwr⟩
set_option maxRecDepth 100000 in
set_option maxHeartbeats 8000000 in
theorem lawTellsH_any (v:Value) (H:Ho) (cr cl cs cp ca i p k:Int) (d:ByteArray) (fr tx0:Int) (sd:Int) (w:World) (ha:HoAt w v H) (hf:H.Fit) (hcb : -9223372036854775808≤cp∧cp≤9223372036854775807) (hk : -9223372036854775808≤k∧k≤9223372036854775807):Calls Tryz.prog 3 #[v,.agg #[.int .i64 cr,.int .i64 cl,.int .i64 cs,.int .i64 cp,.int .i64 ca],.int .i64 i,.int .i64 p,.int .i64 k,.string d,.int .i64 fr,.int .i64 tx0,.int .u64 sd] w (Ret w (.bool true)):=by
 have L:=fun v w h=>lighth_any v H w h
 have HL:=lh L;clear L
 have N1:=fun w=>hnew_row fr tx0 sd w
 have N2:=fun w=>rnew_row fr tx0 sd w
 obtain⟨K0,hK0⟩:∃ K,newHI fr tx0 sd=K:=⟨_,rfl⟩
 obtain⟨b0,hb0⟩:∃ b,newB fr tx0=b:=⟨_,rfl⟩
 rw[hK0,hb0] at N1 N2
 clear hK0 hb0
 have HN1:=lh N1;clear N1
 have HN2:=lh N2;clear N2
 have e0:(b0 == b0)=true:=by simp
 have hw0:=lh ha
 obtain⟨of,or',om,og,kf,kr,km,kg,n,r,m,q,tx,dx,sx,HN,HR,HM,HQ,HT,HD,HS,rfl,kf1,kf2,kr1,kr2,km1,km2,kg1,kg2,h⟩:=HoAt.opened ha
 have HA:Hid (∀ w':World,Below w.heap.size w w'→HoAt w' (.agg #[.slice of n kf,.slice or' r kr,.slice om m km,.slice og q kg,.int .i64 tx,.int .u64 dx,.int .i64 sx]) H):=lh (fun w' hb=>hw0.out.below hb)
 clear hw0 h
 have D0:=(HasBlock.made w #[.slice of n kf,.slice or' r kr,.slice om m km,.slice og q kg,.int .i64 tx,.int .u64 dx,.int .i64 sx] 30).alloc (.cells #[.int .i64 cr,.int .i64 cl,.int .i64 cs,.int .i64 cp,.int .i64 ca] 32)
 have DC:=HasBlock.made (w.alloc (.cells #[.slice of n kf,.slice or' r kr,.slice om m km,.slice og q kg,.int .i64 tx,.int .u64 dx,.int .i64 sx] 30)) #[.int .i64 cr,.int .i64 cl,.int .i64 cs,.int .i64 cp,.int .i64 ca] 32
 rw[World.size_alloc] at DC
 have hbw:Below w.heap.size w ((w.alloc (.cells #[.slice of n kf,.slice or' r kr,.slice om m km,.slice og q kg,.int .i64 tx,.int .u64 dx,.int .i64 sx] 30)).alloc (.cells #[.int .i64 cr,.int .i64 cl,.int .i64 cs,.int .i64 cp,.int .i64 ca] 32)):=bel
 go_enter Tryz.func3,Tryz.ntmps3
 go_wp2_with fail
 with_reducible refine (HL.out _ _ (HA.out _ hbw)).mono ?_
 rintro e w1 ⟨b,rfl,hl,hbk⟩
 replace D0:=D0.below hbk
 replace DC:=DC.below hbk
 replace hbw:=hbw.trans (hbk.mono hbw.size)
 clear hbk
 cases b
 · clear hl
   obtain⟨D0_c,D0_f,D0_z⟩:=D0.all
   obtain⟨DC_c,DC_f,DC_z⟩:=DC.all
   go_wp2_with fail
   clear D0_c D0_f D0_z
   clear DC_c DC_f DC_z
   with_reducible refine (awake_any _).mono ?_
   rintro e w9 ⟨rfl,hb9⟩
   go_wp2_with fail
   go_ret
   exact Ret.mk (hbw.trans (hb9.mono hbw.size))
 have hsm:=hl rfl
 clear hl
 by_cases h3:300<d.size
 · obtain⟨D0_c,D0_f,D0_z⟩:=D0.all
   obtain⟨DC_c,DC_f,DC_z⟩:=DC.all
   go_wp2_with fail
   clear D0_c D0_f D0_z
   clear DC_c DC_f DC_z
   with_reducible refine (awake_any _).mono ?_
   rintro e w9 ⟨rfl,hb9⟩
   go_wp2_with fail
   go_ret
   exact Ret.mk (hbw.trans (hb9.mono hbw.size))
 have TL:=fun v w h=>tellsh_any v H cr cl cs cp ca i p k d w h hf hsm hcb hk
 have HTL:=lh TL;clear TL hsm hf hcb hk
 obtain⟨D0_c,D0_f,D0_z⟩:=D0.all
 obtain⟨DC_c,DC_f,DC_z⟩:=DC.all
 go_wp2_with fail
 clear D0_c D0_f D0_z
 clear DC_c DC_f DC_z
 with_reducible refine (HN1.out _).mono ?_
 rintro e w2 ⟨v1,rfl,hh1,hbk⟩
 obtain⟨of1,n1,kf1,or1,r1,kr1,om1,m1,km1,og1,q1,kg1,t1,d1,s1,rfl⟩:=hh1.form
 replace D0:=D0.below hbk
 replace DC:=DC.below hbk
 replace hbw:=hbw.trans (hbk.mono hbw.size)
 clear hbk
 obtain⟨D0_c,D0_f,D0_z⟩:=D0.all
 obtain⟨DC_c,DC_f,DC_z⟩:=DC.all
 go_upto_region 4 with (fail)
 clear D0_c D0_f D0_z
 clear DC_c DC_f DC_z
 have hbx:Below w2.heap.size w2 (w2.alloc (.cells #[.slice of1 n1 kf1,.slice or1 r1 kr1,.slice om1 m1 km1,.slice og1 q1 kg1,.int .i64 t1,.int .u64 d1,.int .i64 s1] 30)):=(Below.refl _ _).alloc (nlr _) _
 have hwE1:=hbw.size
 have lD0:=D0.lt
 have lDC:=DC.lt
 replace D0:=D0.below hbx
 replace DC:=DC.below hbx
 replace hh1:=hh1.below hbx
 have E1:=HasBlock.made w2 #[.slice of1 n1 kf1,.slice or1 r1 kr1,.slice om1 m1 km1,.slice og1 q1 kg1,.int .i64 t1,.int .u64 d1,.int .i64 s1] 30
 replace hbw:=hbw.trans (hbx.mono hbw.size)
 clear hbx
 obtain⟨B1,hB⟩:∃ B,w2.heap.size=B:=⟨_,rfl⟩
 rw[hB] at E1 hwE1 ⊢
 rw[hB] at lD0
 rw[hB] at lDC
 generalize hW:w2.alloc (.cells #[.slice of1 n1 kf1,.slice or1 r1 kr1,.slice om1 m1 km1,.slice og1 q1 kg1,.int .i64 t1,.int .u64 d1,.int .i64 s1] 30)=w3 at D0 DC E1 hh1 hbw ⊢
 clear hW hB
 clear hwE1
 obtain⟨D0_c,D0_f,D0_z⟩:=D0.all
 obtain⟨DC_c,DC_f,DC_z⟩:=DC.all
 obtain⟨E1_c,E1_f,E1_z⟩:=E1.all
 go_wp2_with fail
 clear D0_c D0_f D0_z
 clear DC_c DC_f DC_z
 clear E1_c E1_f E1_z
 with_reducible refine (HN2.out _).mono ?_
 rintro e w4 ⟨v2,rfl,hh2,hbk⟩
 obtain⟨of2,n2,kf2,or2,r2,kr2,om2,m2,km2,og2,q2,kg2,t2,d2,s2,rfl⟩:=hh2.form
 replace D0:=D0.below hbk
 replace DC:=DC.below hbk
 replace E1:=E1.below hbk
 replace hh1:=hh1.below hbk
 replace hbw:=hbw.trans (hbk.mono hbw.size)
 clear hbk
 obtain⟨D0_c,D0_f,D0_z⟩:=D0.all
 obtain⟨DC_c,DC_f,DC_z⟩:=DC.all
 obtain⟨E1_c,E1_f,E1_z⟩:=E1.all
 go_upto_region 5 with (fail)
 clear D0_c D0_f D0_z
 clear DC_c DC_f DC_z
 clear E1_c E1_f E1_z
 have hbx:Below w4.heap.size w4 (w4.alloc (.cells #[.slice of2 n2 kf2,.slice or2 r2 kr2,.slice om2 m2 km2,.slice og2 q2 kg2,.int .i64 t2,.int .u64 d2,.int .i64 s2] 30)):=(Below.refl _ _).alloc (nlr _) _
 have hwE2:=hbw.size
 have lD0:=D0.lt
 have lDC:=DC.lt
 have lE1:=E1.lt
 replace D0:=D0.below hbx
 replace DC:=DC.below hbx
 replace E1:=E1.below hbx
 replace hh1:=hh1.below hbx
 replace hh2:=hh2.below hbx
 have E2:=HasBlock.made w4 #[.slice of2 n2 kf2,.slice or2 r2 kr2,.slice om2 m2 km2,.slice og2 q2 kg2,.int .i64 t2,.int .u64 d2,.int .i64 s2] 30
 replace hbw:=hbw.trans (hbx.mono hbw.size)
 clear hbx
 obtain⟨B2,hB⟩:∃ B,w4.heap.size=B:=⟨_,rfl⟩
 rw[hB] at E2 hwE2 ⊢
 rw[hB] at lD0
 rw[hB] at lDC
 rw[hB] at lE1
 generalize hW:w4.alloc (.cells #[.slice of2 n2 kf2,.slice or2 r2 kr2,.slice om2 m2 km2,.slice og2 q2 kg2,.int .i64 t2,.int .u64 d2,.int .i64 s2] 30)=w5 at D0 DC E1 E2 hh1 hh2 hbw ⊢
 clear hW hB
 clear hwE2
 obtain⟨D0_c,D0_f,D0_z⟩:=D0.all
 obtain⟨DC_c,DC_f,DC_z⟩:=DC.all
 obtain⟨E1_c,E1_f,E1_z⟩:=E1.all
 obtain⟨E2_c,E2_f,E2_z⟩:=E2.all
 go_wp2_with fail
 clear D0_c D0_f D0_z
 clear DC_c DC_f DC_z
 clear E1_c E1_f E1_z
 clear E2_c E2_f E2_z
 with_reducible refine (rsame_any _ _ K0 _ hh1 hh2).mono ?_
 rintro e w6 ⟨rfl,hbk⟩
 replace D0:=D0.below hbk
 replace DC:=DC.below hbk
 replace E1:=E1.below hbk
 replace E2:=E2.below hbk
 replace hh1:=hh1.below hbk
 replace hh2:=hh2.below hbk
 replace hbw:=hbw.trans (hbk.mono hbw.size)
 clear hbk
 obtain⟨D0_c,D0_f,D0_z⟩:=D0.all
 obtain⟨DC_c,DC_f,DC_z⟩:=DC.all
 obtain⟨E1_c,E1_f,E1_z⟩:=E1.all
 obtain⟨E2_c,E2_f,E2_z⟩:=E2.all
 go_wp2_with fail
 clear D0_c D0_f D0_z
 clear DC_c DC_f DC_z
 clear E1_c E1_f E1_z
 clear E2_c E2_f E2_z
 with_reducible refine (HTL.out _ _ (HA.out _ hbw)).mono ?_
 rintro e w7 ⟨rfl,hbk⟩
 replace D0:=D0.below hbk
 replace DC:=DC.below hbk
 replace E1:=E1.below hbk
 replace E2:=E2.below hbk
 replace hh1:=hh1.below hbk
 replace hh2:=hh2.below hbk
 replace hbw:=hbw.trans (hbk.mono hbw.size)
 clear hbk
 obtain⟨D0_c,D0_f,D0_z⟩:=D0.all
 obtain⟨DC_c,DC_f,DC_z⟩:=DC.all
 obtain⟨E1_c,E1_f,E1_z⟩:=E1.all
 obtain⟨E2_c,E2_f,E2_z⟩:=E2.all
 go_wp2_with fail
 clear D0_c D0_f D0_z
 clear DC_c DC_f DC_z
 clear E1_c E1_f E1_z
 clear E2_c E2_f E2_z
 with_reducible refine (awake_any _).mono ?_
 rintro e w9 ⟨rfl,hb9⟩
 go_wp2_with fail
 go_ret
 exact Ret.mk (hbw.trans (hb9.mono hbw.size))
end Go.Proofs.YtbnngjhnkegliaaGreat
namespace Go.Proofs.YtbnngjhnkegliaaGreat
open Go.ChangeShapes Go.WideShapes Go.ChangeAt Go.RowKit Go.ChangeMaps
set_option maxRecDepth 100000 in
theorem hostTells_contract {H:Type} {enc:TypeId×Value→H} (W:World) (base:Nat) (args:Array Value) (ds gs:List (DataW H)) (before:List MemPlace)
    (hval0:∀ (j:Nat) t v,Tryz.f3.params[j]?=some t→args[j]?=some v→Value.okWide Tryz.prog W .any base t v)
    (hW:DataW.Whole enc Tryz.prog Tryz.f3.params.toList Rows.hostTellsSpec.vars false W args.toList ds gs before) :
    Calls Tryz.prog 3 args W fun e W'=>∃ v,e=.returned v∧Rows.hostTellsSpec.post enc Tryz.prog Tryz.f3 false true false false W args v W':=by
 have hW0:=hW
 obtain⟨p,q,hA0,hV,_,_,_⟩:=hW
 have hA:DataW.TrodAll enc Tryz.prog W 0 (fun _=>true) true Tryz.f3.params.toList args.toList ds p:=hA0
 clear hA0
 rw[Tryz.params3] at hA hval0
 obtain⟨v0,vs0,d0,ds0,p0,q0,hargs0,rfl,_,h0,r0⟩:=trodAll_cons hA
 obtain⟨v1,vs1,d1,ds1,p1,q1,hargs1,rfl,_,h1,r1⟩:=trodAll_cons r0
 obtain⟨v2,vs2,d2,ds2,p2,q2,hargs2,rfl,_,h2,r2⟩:=trodAll_cons r1
 obtain⟨v3,vs3,d3,ds3,p3,q3,hargs3,rfl,_,h3,r3⟩:=trodAll_cons r2
 obtain⟨v4,vs4,d4,ds4,p4,q4,hargs4,rfl,_,h4,r4⟩:=trodAll_cons r3
 obtain⟨v5,vs5,d5,ds5,p5,q5,hargs5,rfl,_,h5,r5⟩:=trodAll_cons r4
 obtain⟨v6,vs6,d6,ds6,p6,q6,hargs6,rfl,_,h6,r6⟩:=trodAll_cons r5
 obtain⟨v7,vs7,d7,ds7,p7,q7,hargs7,rfl,_,h7,r7⟩:=trodAll_cons r6
 obtain⟨v8,vs8,d8,ds8,p8,q8,hargs8,rfl,_,h8,r8⟩:=trodAll_cons r7
 obtain⟨hnil,rfl,_⟩:=trodAll_nil r8
 obtain rfl:args=#[v0,v1,v2,v3,v4,v5,v6,v7,v8]:=by cases args;simp_all
 obtain⟨K,hK,hf⟩:=host_arg (hval0 0 _ v0 rfl rfl) h0
 obtain⟨c,rfl,hcb⟩:=claim_arg (hval0 1 _ v1 rfl rfl) h1
 obtain⟨g,rfl,_,_,_⟩:=open_int Tryz.underlying3 (hval0 2 _ v2 rfl rfl) h2
 obtain⟨pp,rfl,_,_,_⟩:=open_int Tryz.underlying3 (hval0 3 _ v3 rfl rfl) h3
 obtain⟨n,rfl,_,_,wn⟩:=open_int Tryz.underlying3 (hval0 4 _ v4 rfl rfl) h4
 obtain⟨s,rfl,_,_,_⟩:=open_string Tryz.underlying9 (hval0 5 _ v5 rfl rfl) h5
 obtain⟨fr,rfl,_,_,_⟩:=open_int Tryz.underlying3 (hval0 6 _ v6 rfl rfl) h6
 obtain⟨tx,rfl,_,_,_⟩:=open_int Tryz.underlying3 (hval0 7 _ v7 rfl rfl) h7
 obtain⟨sd,rfl,_,_,_⟩:=open_int Tryz.underlying28 (hval0 8 _ v8 rfl rfl) h8
 have bn:=bounds_i64 wn
 refine Calls.mono (R:=Ret W (.bool true)) ?_ (fun e W' ⟨he,hb⟩=>⟨_,he,law_post rfl hW0 hb (of_decide_eq_true (by kernel_rfl)) 4 rfl Tryz.underlying4 (fun _=>rfl)⟩)
 exact lawTellsH_any v0 K c.r c.l c.s c.p c.a g pp n s fr tx sd W hK hf hcb bn
set_option maxRecDepth 100000 in
theorem hostTells_lifted (os:Os) (started:os.Started) (H:Type) (enc:TypeId×Value→H) :
    ReturnsInHanded {} Tryz.checked os 3 .any (Rows.hostTellsSpec.pre6 enc Tryz.prog Tryz.f3 Rows.hostTellsRow.domain false) (Rows.hostTellsSpec.post enc Tryz.prog Tryz.f3 false true false false):=by
 refine returnsInHanded_of_change (C:=Tryz.checked) Tryz.own started (by kernel_rfl) Tryz.func3
  (ChangeSpec.witness6 (enc:=enc) (C:=Tryz.checked) false ⟨#[],#[.agg #[.slice none 0 0,.slice none 0 0,.slice none 0 0,.slice none 0 0,.int .i64 0,.int .u64 0,.int .i64 0],.agg #[.int .i64 0,.int .i64 0,.int .i64 0,.int .i64 0,.int .i64 0],.int .i64 0,.int .i64 0,.int .i64 0,.string ⟨#[]⟩,.int .i64 0,.int .i64 0,.int .u64 0],[]⟩ 8 (by kernel_rfl) (by kernel_rfl) (by kernel_rfl) (by kernel_rfl)) ?_
 intro W base args ds gs before hval0 hW _ _
 exact hostTells_contract W base args ds gs before hval0 hW
theorem hostTells_holds:Rows.HostTellsSaid :=
 OpenClaim.holds_of_wide 3 Tryz.f3 rfl rfl rfl rfl rfl rfl rfl ⟨rfl,rfl,rfl,rfl,rfl⟩ rfl rfl rfl rfl rfl (by kernel_rfl) Tryz.func3 (by kernel_rfl)
  (of_decide_eq_true (by kernel_rfl)) (by unfold Func.isWrapper;first|(rw[if_pos (by decide +kernel)];kernel_rfl)|(rw[if_neg (by decide +kernel)];exact⟨rfl,rfl⟩))
  (fun os started H enc _=>hostTells_lifted os started H enc)
end Go.Proofs.YtbnngjhnkegliaaGreat
