/-
  Texts joined: TpPa TpPb TpPc TpPd TpPe TpPf TpSo TpUb TpSq TpUf TpUa. No law is proved here.
-/
import Derived.RangeFuncBox
import Derived.RangeFuncNested
import Derived.RangeFuncLeaves
import Derived.RangeFuncCalls
import Derived.Shelf.Abstract
import Derived.OwnWalkIn
import Derived.TacticsInMore
import Derived.LoopNIn
import Derived.LoopIn
import Derived.Maps.AppendAt
import Derived.Test.YtnmpfmapncicmaaGreatB44
import Derived.Laws.AppendOwnNone
import Derived.Test.YtnmpfmapncicmaaGreatB45
namespace Go.Proofs.YtnmpfmapncicmaaGreat
namespace Sys
variable {M O:Type} (S:Sys M O)
def clockE (c:Int):Ev:=⟨1,c,⟨#[]⟩⟩
def run:M→List It→M
 | m,[]=>m
 | m,.ev e :: l=>run (S.app m e).1 l
 | m,.st c :: l=>run (S.step m c).1 l
def log:M→List It→List En
 | _,[]=>[]
 | m,.ev e :: l=>⟨S.cnt m,e⟩ :: log (S.app m e).1 l
 | m,.st c :: l=>(if S.rd m then [⟨S.cnt m,clockE c⟩] else [])++log (S.step m c).1 l
def out:M→List It→List O
 | _,[]=>[]
 | m,.ev e :: l=>out (S.app m e).1 l
 | m,.st c :: l=>(S.step m c).2++out (S.step m c).1 l
def good:M→List It→Prop
 | _,[]=>True
 | m,.ev e :: l=>(S.app m e).2=true∧e.k≠1∧S.val e=true∧good (S.app m e).1 l
 | m,.st c :: l=>S.stuck m=false∧S.val (clockE c)=true∧good (S.step m c).1 l
def steps:List It→Nat
 | []=>0
 | .ev _ :: l=>steps l
 | .st _ :: l=>steps l+1
theorem run_append (m:M) (a b:List It):S.run m (a++b)=S.run (S.run m a) b:=by
 induction a generalizing m with
 | nil=>rfl
 | cons x a ih=>cases x <;> exact ih _
theorem out_append (m:M) (a b:List It):S.out m (a++b)=S.out m a++S.out (S.run m a) b:=by
 induction a generalizing m with
 | nil=>rfl
 | cons x a ih=>cases x <;> simp only[List.cons_append,out,run,ih,List.append_assoc]
theorem good_append (m:M) (a b:List It):S.good m (a++b)↔S.good m a∧S.good (S.run m a) b:=by
 induction a generalizing m with
 | nil=>simp [good,run]
 | cons x a ih=>cases x <;> simp only[List.cons_append,good,run,ih,and_assoc]
theorem steps_append (a b:List It):steps (a++b)=steps a+steps b:=by
 induction a with
 | nil=>simp [steps]
 | cons x a ih=>cases x <;> simp only[List.cons_append,steps,ih] <;> omega
theorem ok_run {m:M} (h:S.ok m) {l:List It} (hg:S.good m l):S.ok (S.run m l):=by
 induction l generalizing m with
 | nil=>exact h
 | cons x l ih =>
   cases x with
   | ev e=>exact ih (S.okApp _ _ h) hg.2.2.2
   | st c=>exact ih (S.okStep _ _ h hg.1) hg.2.2
theorem cnt_run {m:M} (h:S.ok m) {l:List It} (hg:S.good m l):S.cnt (S.run m l)=S.cnt m+steps l:=by
 induction l generalizing m with
 | nil=>rfl
 | cons x l ih =>
   cases x with
   | ev e=>rw[run,ih (S.okApp _ _ h) hg.2.2.2,S.cntApp];rfl
   | st c=>rw[run,ih (S.okStep _ _ h hg.1) hg.2.2,S.cntStep _ _ h hg.1,steps];omega
/-! ## The form of a log -/
def Seq (lo hi:Nat):List En→Prop
 | []=>True
 | x :: l=>lo≤x.p∧x.p≤hi∧(x.e.k=1→x.p<hi∧∀ y∈l,x.p<y.p)∧Seq x.p hi l
theorem Seq.low {lo lo' hi:Nat} {l:List En} (h:Seq lo hi l) (hl:lo'≤lo):Seq lo' hi l:=by
 cases l with
 | nil=>trivial
 | cons x l=>exact⟨Nat.le_trans hl h.1,h.2⟩
theorem Seq.ge {lo hi:Nat} {l:List En} (h:Seq lo hi l):∀ y∈l,lo≤y.p∧y.p≤hi:=by
 induction l generalizing lo with
 | nil=>intro y hy;cases hy
 | cons x l ih =>
   intro y hy
   rcases List.mem_cons.1 hy with rfl|hy
   · exact⟨h.1,h.2.1⟩
   · have:=ih h.2.2.2 y hy
     exact⟨Nat.le_trans h.1 this.1,this.2⟩
theorem seq_log {m:M} (h:S.ok m) {l:List It} (hg:S.good m l):Seq (S.cnt m) (S.cnt (S.run m l)) (S.log m l):=by
 induction l generalizing m with
 | nil=>trivial
 | cons x l ih =>
   cases x with
   | ev e =>
     have hi:=ih (S.okApp _ e h) hg.2.2.2
     rw[S.cntApp] at hi
     refine ⟨Nat.le_refl _,?_,fun he=>absurd he hg.2.1,hi⟩
     rw[run,S.cnt_run (S.okApp _ e h) hg.2.2.2,S.cntApp];show S.cnt m≤_;omega
   | st c =>
     have hok:=S.okStep _ c h hg.1
     have hi:=ih hok hg.2.2
     have hc:=S.cntStep _ c h hg.1
     rw[hc] at hi
     have hr:=S.cnt_run hok hg.2.2
     rw[hc] at hr
     show Seq (S.cnt m) (S.cnt (S.run (S.step m c).1 l)) (_++S.log (S.step m c).1 l)
     split
     · refine ⟨Nat.le_refl _,?_,fun _=>⟨?_,fun y hy=>?_⟩,hi.low (by show S.cnt m≤_;omega)⟩
       · show S.cnt m≤_;omega
       · show S.cnt m<_;omega
       · have:=(hi.ge y hy).1;show S.cnt m<_;omega
     · exact hi.low (by omega)
def due:M→List En→M×List En
 | m,[]=>(m,[])
 | m,x :: l=>if x.p≤S.cnt m∧x.e.k≠1 then due (S.app m x.e).1 l else (m,x :: l)
def takes (m:M) (l:List En):Option (Int×List En) :=
 match l with
 | []=>if S.rd m then none else some (0,[])
 | x :: r=>if x.e.k=1∧x.p≤S.cnt m then (if S.rd m∧x.p=S.cnt m then some (x.e.n,r) else none) else if S.rd m then none else some (0,x :: r)
theorem split_step:∀ l:List It,0<steps l→∃ (es:List Ev) (c:Int) (r:List It),l=es.map It.ev++.st c :: r
 | [],h=>absurd h (by simp [steps])
 | .st c :: r,_=>⟨[],c,r,rfl⟩
 | .ev e :: l,h=>by
   obtain⟨es,c,r,rfl⟩:=split_step l h
   exact⟨e :: es,c,r,rfl⟩
theorem steps_evs (es:List Ev):steps (es.map It.ev)=0:=by
 induction es with
 | nil=>rfl
 | cons e es ih=>exact ih
theorem evs_of {l:List It} (h:steps l=0):∃ es:List Ev,l=es.map It.ev:=by
 induction l with
 | nil=>exact⟨[],rfl⟩
 | cons x l ih =>
   cases x with
   | ev e=>obtain⟨es,rfl⟩:=ih h;exact⟨e :: es,rfl⟩
   | st c=>simp [steps] at h
theorem out_evs (m:M) (es:List Ev):S.out m (es.map It.ev)=[]:=by
 induction es generalizing m with
 | nil=>rfl
 | cons e es ih=>exact ih _
theorem out_none {m:M} {l:List It} (h:steps l=0):S.out m l=[]:=by
 obtain⟨es,rfl⟩:=evs_of h;exact S.out_evs m es
theorem log_st (m:M) (c:Int) (r:List It):S.log m (.st c :: r)=(if S.rd m then [⟨S.cnt m,clockE c⟩] else [])++S.log (S.step m c).1 r:=rfl
theorem due_step {m:M} {c:Int} {r:List It} (h:S.ok m) (hg:S.good m (.st c :: r)):S.due m (S.log m (.st c :: r))=(m,S.log m (.st c :: r)):=by
 have hok:=S.okStep _ c h hg.1
 have hc:=S.cntStep _ c h hg.1
 have hs:=S.seq_log hok hg.2.2
 rw[log_st]
 split
 · show S.due m (⟨S.cnt m,clockE c⟩ :: _)=_
   rw[due,if_neg (fun hh=>hh.2 rfl)];rfl
 · rw[List.nil_append]
   cases hl:S.log (S.step m c).1 r with
   | nil=>rfl
   | cons x l =>
     rw[hl] at hs
     rw[due,if_neg (fun hh=>by have:=hs.1;omega)]
theorem due_evs {m:M} {es:List Ev} {r:List It} (h:S.ok m) (hg:S.good m (es.map It.ev++r)) (hr:S.due (S.run m (es.map It.ev)) (S.log (S.run m (es.map It.ev)) r)=(S.run m (es.map It.ev),S.log (S.run m (es.map It.ev)) r)) :
    S.due m (S.log m (es.map It.ev++r))=(S.run m (es.map It.ev),S.log (S.run m (es.map It.ev)) r):=by
 induction es generalizing m with
 | nil=>exact hr
 | cons e es ih =>
   show S.due m (⟨S.cnt m,e⟩ :: _)=_
   rw[due,if_pos ⟨Nat.le_refl _,hg.2.1⟩]
   exact ih (S.okApp _ e h) hg.2.2.2 hr
theorem takes_step {m:M} {c:Int} {r:List It} (h:S.ok m) (hg:S.good m (.st c :: r)):∃ v,S.takes m (S.log m (.st c :: r))=some (v,S.log (S.step m c).1 r)∧S.step m v=S.step m c∧(v=c∨v=0):=by
 have hok:=S.okStep _ c h hg.1
 have hc:=S.cntStep _ c h hg.1
 have hs:=S.seq_log hok hg.2.2
 rw[log_st]
 cases hr:S.rd m with
 | true =>
   refine ⟨c,?_,rfl,.inl rfl⟩
   rw[if_pos rfl]
   show S.takes m (⟨S.cnt m,clockE c⟩ :: _)=_
   rw[takes,if_pos ⟨rfl,Nat.le_refl _⟩,if_pos ⟨hr,rfl⟩];rfl
 | false =>
   refine ⟨0,?_,S.clk _ _ _ h hr,.inr rfl⟩
   rw[if_neg (by simp)]
   rw[List.nil_append]
   cases hl:S.log (S.step m c).1 r with
   | nil=>rw[takes,if_neg (by rw[hr];simp)]
   | cons x l =>
     rw[hl] at hs
     rw[takes,if_neg (fun hh=>by have:=hs.1;omega),if_neg (by rw[hr];simp)]
def scrT (tgt:Nat):Nat→M→List En→List O→Option (M×List En×List O)
 | 0,m,l,o=>if S.cnt m=tgt then some (m,l,o) else none
 | k+1,m,l,o =>
   if S.cnt m=tgt then some (m,l,o)
   else if S.stuck (S.due m l).1 then none
   else match S.takes (S.due m l).1 (S.due m l).2 with
    | none=>none
    | some (v,r)=>scrT tgt k (S.step (S.due m l).1 v).1 r (o++(S.step (S.due m l).1 v).2)
theorem scrT_good:∀ (k:Nat) (m:M) (l:List It) (o:List O),S.ok m→S.good m l→steps l≤k →
    ∃ pre post,l=pre++post∧steps post=0∧S.scrT (S.cnt m+steps l) k m (S.log m l) o=some (S.run m pre,S.log (S.run m pre) post,o++S.out m l):=by
 intro k
 induction k with
 | zero =>
   intro m l o h hg hk
   exact⟨[],l,rfl,by omega,by rw[S.out_none (by omega),List.append_nil,scrT,if_pos (by omega)];rfl⟩
 | succ k ih =>
   intro m l o h hg hk
   by_cases h0:steps l=0
   · exact⟨[],l,rfl,h0,by rw[S.out_none h0,List.append_nil,scrT,if_pos (by omega)];rfl⟩
   · obtain⟨es,x,r,rfl⟩:=split_step l (by omega)
     obtain⟨ge,gr⟩:=(S.good_append m _ _).1 hg
     have hm:=S.ok_run h ge
     have cm:=S.cnt_run h ge
     rw[steps_evs,Nat.add_zero] at cm
     have hd:=S.due_evs h hg (S.due_step hm gr)
     obtain⟨v,tv,sv,_⟩:=S.takes_step hm gr
     have hcn:=S.cntStep _ x hm gr.1
     obtain⟨pre,post,e1,e2,e4⟩:=ih (S.step (S.run m (es.map It.ev)) x).1 r (o++(S.step (S.run m (es.map It.ev)) x).2) (S.okStep _ x hm gr.1) gr.2.2
      (by rw[steps_append,steps_evs,steps] at hk;omega)
     refine ⟨es.map It.ev++.st x :: pre,post,by rw[List.append_assoc,e1];rfl,e2,?_⟩
     rw[scrT,if_neg (by omega),hd,if_neg (by rw[gr.1];simp),tv]
     show S.scrT _ k (S.step _ v).1 _ (o++(S.step _ v).2)=_
     rw[sv,show S.cnt m+steps (es.map It.ev++.st x :: r)=S.cnt (S.step (S.run m (es.map It.ev)) x).1+steps r by rw[steps_append,steps_evs,steps];omega,e4,run_append,out_append,out_evs]
     show some (_,_,_)=some (_,_,o++([]++((S.step _ x).2++S.out _ r)))
     rw[List.nil_append,List.append_assoc];rfl
inductive Took (m:M) (l:List En) (v:Int) (r:List En):Prop
 | clock (x:En):l=x :: r→x.p=S.cnt m→x.e.k=1→S.rd m=true→v=x.e.n→Took m l v r
 | none:S.rd m=false→v=0→r=l→(∀ x l',l=x :: l'→S.cnt m<x.p)→Took m l v r
theorem due_cons {m:M} {x:En} {l:List En} (h:x.p≤S.cnt m∧x.e.k≠1):S.due m (x :: l)=S.due (S.app m x.e).1 l:=by rw[due,if_pos h]
theorem due_stop {m:M} {x:En} {l:List En} (h:¬(x.p≤S.cnt m∧x.e.k≠1)):S.due m (x :: l)=(m,x :: l):=by rw[due,if_neg h]
theorem due_cnt (l:List En):∀ m:M,S.cnt (S.due m l).1=S.cnt m:=by
 induction l with
 | nil=>intro m;rfl
 | cons x l ih =>
   intro m
   by_cases h:x.p≤S.cnt m∧x.e.k≠1
   · rw[S.due_cons h,ih,S.cntApp]
   · rw[S.due_stop h]
theorem due_ok (l:List En):∀ m:M,S.ok m→S.ok (S.due m l).1:=by
 induction l with
 | nil=>intro m h;exact h
 | cons x l ih =>
   intro m h
   by_cases hx:x.p≤S.cnt m∧x.e.k≠1
   · rw[S.due_cons hx];exact ih _ (S.okApp _ _ h)
   · rw[S.due_stop hx];exact h
theorem due_head {m m':M} {x:En} {l':List En}:∀ {l:List En},S.due m l=(m',x :: l')→¬(x.p≤S.cnt m'∧x.e.k≠1)
 | [],h=>by cases h
 | y :: l,h=>by
   by_cases hy:y.p≤S.cnt m∧y.e.k≠1
   · rw[S.due_cons hy] at h;exact due_head h
   · rw[S.due_stop hy] at h
     cases h
     exact hy
theorem due_seq {lo hi:Nat}:∀ {l:List En} {m:M},Seq lo hi l→Seq lo hi (S.due m l).2
 | [],_,h=>h
 | x :: l,m,h=>by
   by_cases hx:x.p≤S.cnt m∧x.e.k≠1
   · rw[S.due_cons hx];exact due_seq (h.2.2.2.low h.1)
   · rw[S.due_stop hx];exact h
theorem took {m m':M} {l l':List En} {v:Int} {r:List En} {hi:Nat} (hd:S.due m l=(m',l')) (hs:Seq (S.cnt m) hi l) (h:S.takes m' l'=some (v,r)):S.Took m' l' v r∧Seq (S.cnt m'+1) hi r:=by
 have hs':=S.due_seq (m:=m) hs
 have hc:=S.due_cnt l m
 rw[hd] at hs' hc
 cases l' with
 | nil =>
   unfold takes at h
   dsimp only at h
   split at h
   · cases h
   · rename_i hr
     cases h
     exact⟨.none (by simpa using hr) rfl rfl (fun x l' e=>by cases e),trivial⟩
 | cons x l' =>
   have hh:=S.due_head hd
   unfold takes at h
   dsimp only at h
   split at h
   · rename_i h1
     split at h
     · rename_i h2
       cases h
       refine ⟨.clock x rfl h2.2 h1.1 h2.1 rfl,?_⟩
       have h3:=hs'.2.2.1 h1.1
       have h4:=hs'.2.2.2
       cases hr:r with
       | nil=>trivial
       | cons y r' =>
         rw[hr] at h3 h4
         exact⟨by have:=h3.2 y List.mem_cons_self;have:=h2.2;omega,h4.2⟩
     · cases h
   · rename_i h1
     split at h
     · cases h
     · rename_i h2
       cases h
       have hp:S.cnt m'<x.p:=by
        by_cases hk:x.e.k=1
        · have:¬x.p≤S.cnt m':=fun e=>h1 ⟨hk,e⟩
          omega
        · have:¬x.p≤S.cnt m':=fun e=>hh ⟨e,hk⟩
          omega
       exact⟨.none (by simpa using h2) rfl rfl (fun y l'' e=>by cases e;exact hp),hp,hs'.2⟩
theorem scrT_step {tgt k:Nat} {m:M} {l:List En} {o:List O} {R:M×List En×List O} (h:S.scrT tgt k m l o=some R) (hc:S.cnt m<tgt) :
    ∃ k' v r,k=k'+1∧S.stuck (S.due m l).1=false∧S.takes (S.due m l).1 (S.due m l).2=some (v,r)∧S.scrT tgt k' (S.step (S.due m l).1 v).1 r (o++(S.step (S.due m l).1 v).2)=some R:=by
 cases k with
 | zero=>rw[scrT,if_neg (by omega)] at h;cases h
 | succ k =>
   rw[scrT,if_neg (by omega)] at h
   cases hs:S.stuck (S.due m l).1 with
   | true=>rw[hs,if_pos rfl] at h;cases h
   | false =>
     rw[hs,if_neg (by decide)] at h
     cases ht:S.takes (S.due m l).1 (S.due m l).2 with
     | none=>rw[ht] at h;cases h
     | some x =>
       obtain⟨v,r⟩:=x
       rw[ht] at h
       exact⟨k,v,r,rfl,rfl,rfl,h⟩
theorem scrT_end {tgt k:Nat} {m:M} {l:List En} {o:List O} {R:M×List En×List O} (h:S.scrT tgt k m l o=some R) (hc:S.cnt m=tgt):R=(m,l,o):=by
 cases k with
 | zero=>rw[scrT,if_pos hc] at h;exact (Option.some.inj h).symm
 | succ k=>rw[scrT,if_pos hc] at h;exact (Option.some.inj h).symm
theorem scrT_ok {tgt:Nat}:∀ {k:Nat} {m:M} {l:List En} {o:List O} {R:M×List En×List O},S.scrT tgt k m l o=some R→S.ok m→S.ok R.1∧S.cnt R.1=tgt
 | 0,m,l,o,R,h,hm=>by
   rw[scrT] at h
   split at h
   · cases h;exact⟨hm,by assumption⟩
   · cases h
 | k+1,m,l,o,R,h,hm=>by
   rw[scrT] at h
   split at h
   · cases h;exact⟨hm,by assumption⟩
   · cases hs:S.stuck (S.due m l).1 with
     | true=>rw[hs,if_pos rfl] at h;cases h
     | false =>
       rw[hs,if_neg (by decide)] at h
       cases ht:S.takes (S.due m l).1 (S.due m l).2 with
       | none=>rw[ht] at h;cases h
       | some x=>rw[ht] at h;exact scrT_ok h (S.okStep _ _ (S.due_ok l m hm) hs)
end Sys
end Go.Proofs.YtnmpfmapncicmaaGreat
namespace Go.Proofs.YtnmpfmapncicmaaGreat
set_option linter.all false
set_option maxRecDepth 100000
set_option maxHeartbeats 40000000
open Go.RowKit Go.Shelf
attribute [local go_sem] Oper.semAt_some
def bL (b:Bool):List Value:=[.bool b]
theorem bL_len (b:Bool):(bL b).length=1:=rfl
def FK (d:List Bool):Nat→List (Fin d.length)
 | 0=>[]
 | k+1=>if h:k<d.length∧d[k]?=some true then FK d k++[⟨k,h.1⟩] else FK d k
theorem GR (d:List Bool) (k:Nat):(FK d k).map (fun i=>(i.val:Int))=Cx d k:=by
 induction k with
 | zero=>rfl
 | succ k ih =>
   unfold FK Cx
   by_cases h:d[k]?=some true
   · have hk:k<d.length:=(List.getElem?_eq_some_iff.1 h).1
     rw[dif_pos ⟨hk,h⟩,if_pos h,List.map_append,ih];rfl
   · rw[dif_neg (fun e=>h e.2),if_neg h,ih]
theorem setF_len (d:List Bool) (k:Nat):(FK d k).length≤k:=by
 have:=J9 d k
 rw[←GR,List.length_map] at this
 exact this
theorem setF_yes {d:List Bool} {k:Nat} (hk:k<d.length) (h:d[k]?=some true):FK d (k+1)=FK d k++[⟨k,hk⟩]:=by
 rw[FK,dif_pos ⟨hk,h⟩]
theorem setF_no {d:List Bool} {k:Nat} (h:d[k]?=some false):FK d (k+1)=FK d k:=by
 rw[FK,dif_neg (fun e=>by rw[h] at e;cases e.2)]
def encF (d:List Bool) (i:Fin d.length):Array Value:=#[.int .i64 ((i.val:Nat):Int)]
theorem set1_in (F:Fence) (n:Nat) (hf:F.fn 86) (hro:F.round=none) (hn:1≤n) (l Bs:Nat) (va:Value) (d:List Bool) (hd:d.length≤32) (J Jx:List (Fin d.length)→World→Prop)
    (w₀:World) (hY:∀ pre x W,J pre W→pre.length<d.length→YieldAt F (n - 1) Tryz.prog l (encF d x) W fun e W' =>
      (e=.returned (.bool true)∧J (pre++[x]) W'∧Below w₀.heap.size W W')∨(e=.returned (.bool false)∧Jx (pre++[x]) W'))
    (W:World) (hBs:W.cell? ⟨Bs,0,none⟩=some va) (ha:RdS bL 1 w₀ va d) (hbw:Below w₀.heap.size w₀ W) (h0:J [] W) :
    CallsIn F n Tryz.prog 86 #[.func (.yield l) #[] #[],.pointer (some ⟨Bs,0,none⟩)] W fun e W'=>(∃ v,e=.returned v) ∧
     ((∃ ys,ys=FK d d.length∧J ys W')∨(∃ pre,True∧Jx pre W')):=by
 obtain⟨ao,cap,rfl,hcap,hmax,ha⟩:=ha.open
 unfold maxLen at hmax
 have HA:=lh ha
 clear ha
 refine callsIn_of_wp Tryz.func86 rfl hf ?_ hro
 simp only[Tryz.ntmps86,List.size_toArray,List.length_cons,List.length_nil,Nat.reduceAdd,Nat.reduceSub,Array.replicate_succ,Array.replicate_zero,List.push_toArray,List.append_toArray,List.nil_append,List.cons_append]
 gi_wp2
 gi_loopw [7] (fun i wr=>∃ k:Nat,k≤d.length∧i=.int .i64 k∧J (FK d k) wr∧Below w₀.heap.size w₀ wr) (fun i _=>d.length - (intOf i).toNat)
 case atStart=>exact⟨0,Nat.zero_le _,rfl,h0,hbw⟩
 case round =>
  obtain⟨k,hk,rfl,hJs,hbr⟩:=hrel
  have hrow:=HA.out.below hbr
  by_cases hlt:k<d.length
  · have hlt2:(k:Int)<(d.length:Int):=by omega
    obtain⟨x,hx⟩:∃ x,d[k]?=some x:=⟨_,List.getElem?_eq_getElem hlt⟩
    obtain⟨hxx,b,off,rfl,hbl,_,_,hcell⟩:=hrow.at (by omega)
    have hc:wr.cell? ⟨b,off+k,none⟩=some (.bool x):=by have:=hcell k x hx 0 _ rfl;simpa using this
    clear hxx hcell hrow
    cases x with
    | true =>
      have hsf:=setF_yes hlt hx
      obtain⟨fn,tmps,assign,body,hy,hR⟩:=hY _ (⟨k,hlt⟩:Fin d.length) wr hJs (by have:=setF_len d k;omega)
      dsimp only[encF] at hy
      clear hx
      gi_wp2
      refine hR.mono ?_
      rintro e W3 (⟨rfl,hJ3,hk3⟩|⟨rfl,hJx3⟩)
      · gi_wp2
        go_roundw
        case rel=>exact⟨k+1,by omega,by simp,by rw[hsf];exact hJ3,hbr.trans hk3⟩
        case measure=>simp [intOf];omega
      · gi_wp2
        refine bodyPost_ret (results_none rfl _ _ _) rfl ?_
        exact⟨⟨_,rfl⟩,.inr ⟨_,trivial,hJx3⟩⟩
    | false =>
      have hsf:=setF_no hx
      clear hx
      gi_wp2
      refine ⟨fun _ h=>(by cases h),?_⟩
      gi_wp2
      go_roundw
      case rel=>exact⟨k+1,by omega,by simp,by rw[hsf];exact hJs,hbr⟩
      case measure=>simp [intOf];omega
  · obtain rfl:k=d.length:=by omega
    gi_wp2
    go_end0
    exact⟨⟨_,rfl⟩,.inl ⟨_,rfl,hJs⟩⟩
theorem Hs (F:Fence) (n:Nat) (hf:F.fn 86) (hro:F.round=none) (hn:1≤n) (Bs:Nat) (va:Value) (d:List Bool) (hd:d.length≤32) (w₀ w:World) (hBs:Bs<w.heap.size) (hc:w.cell? ⟨Bs,0,none⟩=some va) (ha:RdS bL 1 w₀ va d) (hbw:Below w₀.heap.size w₀ w) :
    SeqStopsK F n Tryz.prog 86 #[.pointer (some ⟨Bs,0,none⟩)] (encF d) (Below w₀.heap.size) (fun ys=>ys=FK d d.length) (fun _=>True) d.length w:=fun l J Jx W hW _ _ hY h0 =>
 set1_in F n hf hro hn l Bs va d hd J Jx w₀ hY W ((hW.cell (p:=⟨Bs,0,none⟩) hBs).trans hc) ha (hbw.trans (hW.mono hbw.size)) h0
theorem set_any (ao:Option Addr) (m cap:Nat) (w:World):Calls Tryz.prog 42 #[.slice ao m cap] w (fun e w'=>∃ B,e=.returned (.func (.func 86) #[] #[.pointer (some ⟨B,0,none⟩)])∧w'.cell? ⟨B,0,none⟩=some (.slice ao m cap)∧w.heap.size≤B∧B<w'.heap.size∧Below w.heap.size w w'):=by
 go_in
 go_wp2_with fail
 go_ret
 exact⟨_,rfl,by simp [go_sem],nlr _,by simp,bel⟩
attribute [local go_sem] Oper.semAt_some
def pcL (v:Value) (r s:Int):List Value:=[v,.int .i64 r,.int .i64 s]
theorem pcount_any (va:Value) (d:List Bool) (r s:Int) (w:World) (ha:RdS bL 1 w va d) (hd:d.length≤32):Calls Tryz.prog 40 #[.agg (pcL va r s).toArray] w (Ret w (.int .i64 (Cx d d.length).length)):=by
 obtain⟨ao,cap,rfl,hcap,hmax,ha⟩:=ha.open
 refine (callsIn_wide (n:=3)).1 ?_
 unfold pcL
 refine callsIn_of_wp_marks Tryz.func40 rfl trivial ?_ rfl
 simp only[Tryz.ntmps40,List.size_toArray,List.length_cons,List.length_nil,Nat.reduceAdd,Nat.reduceSub,Array.replicate_succ,Array.replicate_zero,List.push_toArray,List.append_toArray,List.nil_append,List.cons_append]
 gi_wp2_with (refine ⟨trivial,?_⟩;gi_at_call 42;refine (callsIn_wide.2 (set_any _ _ _ _)).mono ?_;rintro e w2 ⟨B,rfl,hcB,hB0,hB1,hb2⟩)
 have hsz:=hb2.size
 simp only[sizes] at hsz
 have hBw:Below w.heap.size w w2:=(((Below.refl _ w).alloc (nlr _) _).alloc (by simp) _).trans (hb2.mono (by simp only[sizes];omega))
 have hs:w2.cell? ⟨w.heap.size+1,0,none⟩=some (.int .i64 ((0:Nat):Int))∧w2.frozen? ⟨w.heap.size+1,0,none⟩=false :=
  ⟨(hb2.cell (p:=⟨w.heap.size+1,0,none⟩) (by simp)).trans (by simp [go_sem]),(hb2.frozen (p:=⟨w.heap.size+1,0,none⟩) (by simp)).trans (by simp [go_sem])⟩
 refine wpIn_rangeFunc_ownF rfl (by decide) (gf:=86) (lb:=#[.pointer (some ⟨B,0,none⟩)]) rfl trivial (enters_of Tryz.func86 (by kernel_rfl) rfl)
  (Hs Fence.wide (3 - 1) trivial rfl (by decide) B (.slice ao d.length cap) d hd w w2 hB1 hcB ha hBw) belowK_t (belowK_b (by omega)) (Below.refl _ _) (fun _=>rfl)
  (fun pre W=>(W.cell? ⟨w.heap.size+1,0,none⟩=some (.int .i64 (pre.length:Nat))∧W.frozen? ⟨w.heap.size+1,0,none⟩=false)∧Below w.heap.size w W)
  (fun _ _ _=>False)
  (OwnFrom.and (Own.from (fun s A B row hs hg hr=>⟨cell_kept hs.1 hg hr,(frozen_kept hs.1 hg hr).trans hs.2⟩) _) (ownFrom_below (nlr _) (by omega)))
  (fun _ _ _ _ _ hs _ _=>hs)
  ⟨hs,hBw⟩
  (fun x=>{ tmps:=#[.agg #[.slice ao d.length cap,.int .i64 r,.int .i64 s],.pointer (some ⟨w.heap.size,0,none⟩),.int .i64 0,.pointer (some ⟨w.heap.size+1,0,none⟩),.pointer (some ⟨w.heap.size,0,none⟩),.slice ao d.length cap,.func (.func 86) #[] #[.pointer (some ⟨B,0,none⟩)],.int .i64 ((x.val:Nat):Int),undef,undef,undef],defers:=[] }) ?assign ?body ?done ?stop
 case assign =>
  intro l x W K hK
  unfold encF
  gi_wp2
  simpa using hK
 case body =>
  rintro l pre x W ⟨⟨hc,hf⟩,hB⟩ hlen
  gi_wp2
  exact⟨KeepsOthers.setCell _ _ _,(Below.refl w.heap.size W).setCell (p:=⟨w.heap.size+1,0,none⟩) (Nat.le_succ _) _,⟨by rw[List.length_append];exact World.cell?_setCell_same' _ _ _ (by rw[hc];rfl),by rw[World.frozen?_setCell];exact hf⟩,hB.setCell (p:=⟨w.heap.size+1,0,none⟩) (Nat.le_succ _) _⟩
 case done =>
  rintro D ys W hD rfl ⟨⟨hc,_⟩,hB⟩ hK
  have hl:(FK d d.length).length=(Cx d d.length).length:=by rw[←GR,List.length_map]
  rw[hl] at hc
  gi_wp2
  refine ⟨by simp,.inl ⟨_,_,rfl,run_takeDeferred hK,?_⟩⟩
  exact⟨_,results_tmp rfl _ _ _,Ret.mk (hB.trans (belowK_b (w:=w) (nlr _) W D _ _ (by omega) hK rfl rfl))⟩
 case stop =>
  rintro D c pre W _ _ h _
  exact h.elim
attribute [local go_sem] Oper.semAt_some
def Jy (xs:List Int):List Value:=xs.map (Value.int .i64)
def Fh {n:Nat} (xs:List (Fin n)):List Int:=xs.map (fun i=>(i.val:Int))
theorem ints_app {n:Nat} (xs:List (Fin n)) (x:Fin n):Jy (Fh (xs++[x]))=Jy (Fh xs)++[.int .i64 ((x.val:Nat):Int)]:=by unfold Jy Fh;simp
theorem finI_len {n:Nat} (xs:List (Fin n)):(Fh xs).length=xs.length:=List.length_map ..
theorem appendSeq_any (B:Nat) (va:Value) (d:List Bool) (w₀ w:World) (hd:d.length≤32) (hB1:B<w.heap.size) (hcB:w.cell? ⟨B,0,none⟩=some va) (ha:RdS bL 1 w₀ va d) (hbw:Below w₀.heap.size w₀ w) :
    Calls Tryz.prog 107 #[.slice none 0 0,.func (.func 86) #[] #[.pointer (some ⟨B,0,none⟩)]] w (fun e w'=>∃ v,e=.returned v∧w'.ownsRow w.heap.size 3 1 v (Cx d d.length).length (Jy (Cx d d.length))∧Below w.heap.size w w'):=by
 obtain⟨i0,hi,hz0,hz1,hz2⟩:=info_parts info_int
 refine (callsIn_wide (n:=3)).1 ?_
 refine callsIn_of_wp_marks Tryz.func107 rfl trivial ?_ rfl
 simp only[Tryz.ntmps107,List.size_toArray,List.length_cons,List.length_nil,Nat.reduceAdd,Nat.reduceSub,Array.replicate_succ,Array.replicate_zero,List.push_toArray,List.append_toArray,List.nil_append,List.cons_append]
 gi_wp2
 have bO:=Boxed.new w 22 (.slice none 0 0)
 have hB0:Below w.heap.size w (w.alloc (.cells #[.slice none 0 0] 22)):=(Below.refl _ w).alloc (nlr _) _
 have hB2:B<(w.alloc (.cells #[.slice none 0 0] 22)).heap.size:=by rw[World.size_alloc];omega
 have hcB2:=(hB0.cell (p:=⟨B,0,none⟩) hB1).trans hcB
 have hbw2:=hbw.trans (hB0.mono hbw.size)
 refine wpIn_rangeFunc_ownG rfl (by decide) (gf:=86) (lb:=#[.pointer (some ⟨B,0,none⟩)]) rfl trivial (enters_of Tryz.func86 (by kernel_rfl) rfl)
  (Hs Fence.wide (3 - 1) trivial rfl (by decide) B va d hd w₀ _ hB2 hcB2 ha hbw2) belowK_t (belowK_b (by rw[World.size_alloc];exact Nat.le_succ_of_le hbw.size)) (Below.refl _ _) (fun _=>rfl)
  (fun pre W=>(∃ v,Boxed W w.heap.size 22 v∧W.ownsRow w.heap.size 3 1 v (Fh pre).length (Jy (Fh pre))∧True)∧Below w.heap.size w W)
  (fun _ _ _=>False)
  (OwnFrom.and (Own.from (holdsRow_own w.heap.size w.heap.size 22 3 1 (fun pre=>(Fh pre).length) (fun pre=>Jy (Fh pre)) (fun _ _=>True)) _) (ownFrom_below (nlr _) (by rw[World.size_alloc];omega)))
  (fun _ _ _ _ _ hs _ _=>hs)
  ⟨⟨_,bO,World.ownsRow_nil _ _ _ _,trivial⟩,hB0⟩
  (fun x=>{ tmps:=#[.slice none 0 0,.func (.func 86) #[] #[.pointer (some ⟨B,0,none⟩)],.pointer (some ⟨w.heap.size,0,none⟩),undef,.slice none 0 0,.int .i64 ((x.val:Nat):Int),.func (.func 86) #[] #[.pointer (some ⟨B,0,none⟩)],.int .i64 ((x.val:Nat):Int),undef,undef,undef,undef,undef],defers:=[] }) ?assign ?body ?done ?stop
 case assign =>
  intro l x W K hK
  gi_wp2
  simpa [encF] using hK
 case body =>
  rintro l pre x W ⟨⟨v,hv,hrow,_⟩,hB⟩ hlt
  have hc:=hv.cell
  have hpl:(Fh pre).length<32:=by rw[finI_len];omega
  gi_wp2_with (gi_at_builtin;refine wpListIn_append_own _ rfl _ _ 22 rfl w.heap.size 3 i0 (.int .i64 0) 1 8 τ22 hi hz0 hz1 hz2 rfl (by decide) _ _ _ rfl (hrow.alloc _) ⟨W.heap.size,0,none⟩ 1 1 [.int .i64 ((x.val:Nat):Int)] rfl rfl (cell_one_new _ _ _) (by simp [Value.oneCell']) (by unfold maxLen;omega) (by omega) (by have:=hB.size;simp;omega) ?_;intro v' w1 hown' hgrow _;obtain⟨g',cap',rfl⟩:=ownsRow_succ hown';obtain⟨hv1,hv2,hr2,hk2,hb2⟩:=hv.appended (by decide) hrow hB.size (nlr _) hown' hgrow;have hc1:=hv1.cell;have hf1:=hv1.frozen)
  exact⟨hk2.from _,hb2.mono hbw.size,⟨_,hv2,by rw[ints_app];simpa [Fh] using hr2,trivial⟩,hB.trans hb2⟩
 case done =>
  rintro D ys W hD rfl ⟨⟨v,hv,hrow,_⟩,hB⟩ hK
  have hc:=hv.cell
  gi_wp2
  refine ⟨by simp,.inl ⟨_,_,rfl,run_takeDeferred hK,?_⟩⟩
  have hrow2:=ownsRow_putObj hrow (.deferred none) hK rfl
  rw[show Fh (FK d d.length)=Cx d d.length from GR _ _] at hrow2
  exact⟨_,results_tmp rfl _ _ _,v,rfl,hrow2,hB.trans (belowK_b (w:=w) (nlr _) W D _ _ (by rw[World.size_alloc] at hD;omega) hK rfl rfl)⟩
 case stop =>
  rintro D c pre W _ _ h _
  exact h.elim
end Go.Proofs.YtnmpfmapncicmaaGreat
namespace Go.Proofs.YtnmpfmapncicmaaGreat
set_option linter.all false
set_option maxRecDepth 100000
set_option maxHeartbeats 40000000
open Go.RowKit
theorem flat_len {α:Type} {enc:α→List Value} {k:Nat} (hk:∀ x,(enc x).length=k) (xs:List α):(xs.flatMap enc).length=xs.length*k:=by
 induction xs with
 | nil=>simp
 | cons x xs ih=>rw[List.flatMap_cons,List.length_append,hk,ih,List.length_cons,Nat.succ_mul];omega
theorem flat_cells {α:Type} {enc:α→List Value} {k n cap:Nat} (hk:∀ x,(enc x).length=k) (h0:0<k) {w:World} {a:Addr} {xs:List α} (h:RdS enc k w (.slice (some a) n cap) xs) (hn:xs.length=n) {j:Nat} {u:Value} (hu:(xs.flatMap enc)[j]?=some u):w.cell? (a.add j)=some u:=by
 have hj:=(List.getElem?_eq_some_iff.1 hu).1
 rw[flat_len hk,hn] at hj
 have hn0:0<n:=by
  rcases Nat.eq_zero_or_pos n with h|h
  · rw[h,Nat.zero_mul] at hj;omega
  · exact h
 obtain⟨_,b,off,ha,_,_,_,hc⟩:=h.at hn0
 cases ha
 have hq:j / k<xs.length:=by rw[hn];exact Nat.div_lt_of_lt_mul (by rw[Nat.mul_comm];exact hj)
 have hx:=List.getElem?_eq_getElem hq
 have hr:=Nat.mod_lt j h0
 have hf:=flatS_at hk xs (j / k) (j % k) _ hx hr
 rw[Nat.mul_comm,Nat.div_add_mod] at hf
 rw[hu] at hf
 have:=hc (j / k) _ hx (j % k) u hf.symm
 have e:(⟨b,off,none⟩:Addr).add j=⟨b,off+j,none⟩:=by unfold Addr.add;split <;> simp_all
 rw[e]
 rw[show off+j / k*k+j % k=off+j by have:=Nat.div_add_mod j k;rw[Nat.mul_comm];omega] at this
 exact this
theorem H9:(Tryz.prog.info? 4).map (fun i=>(i.zero,i.size,i.bytes))=some (some (.bool false),1,1):=by kernel_rfl
theorem bL_one (b:Bool):∀ u∈bL b,u.oneCell'=true:=fun u hu=>by rw[List.mem_singleton.1 hu];rfl
theorem clone_flags (va:Value) (xs:List Bool) (w:World) (ha:RdS bL 1 w va xs) (hn:xs.length≤1000000):Calls Tryz.prog 85 #[va] w (fun e w'=>∃ v,e=.returned v∧w'.ownsRow w.heap.size 4 1 v xs.length (xs.flatMap bL)∧Below w.heap.size w w'):=by
 obtain⟨ao,cap,rfl,h1,h2,ha⟩:=ha.open
 unfold maxLen at h2
 obtain⟨n,hn'⟩:∃ n,xs.length=n:=⟨_,rfl⟩
 have hlen:(xs.flatMap bL).length=n*1:=by rw[←hn'];exact flat_len (bL_len) xs
 rw[hn'] at hn h1 ha ⊢
 have HN:=lh hn'
 have HL:=lh hlen
 clear hn' hlen
 have q22:∀ (w:World) (a:Option Addr) (n c n' c':Nat),(binOp .eql 46 (.slice a n c) (.slice none n' c')).run Tryz.prog w=.ok (.bool a.isNone) w:=fun w a n c n' c'=>Lib.run_eql_slice_nil w _ _ a n c n' c' τ46
 cases ao with
 | none =>
   have h0:xs=[]:=by
    rcases Nat.eq_zero_or_pos n with h|h
    · exact List.eq_nil_of_length_eq_zero (by rw[HN.out,h])
    · obtain⟨_,_,_,hx,_⟩:=ha.at h;cases hx
   have hz:n=0:=by rw[←HN.out,h0];rfl
   have H0:=lh h0
   have HZ:=lh hz
   clear h0 ha hz
   go_in
   go_wp2_with fail
   go_ret
   rw[H0.out,HZ.out]
   exact⟨_,rfl,World.ownsRow_nil _ _ _ _,bel⟩
 | some a =>
   have hsrc:∀ (j:Nat) (u:Value),(xs.flatMap bL)[j]?=some u→w.cell? (a.add j)=some u:=fun j u hu=>flat_cells (bL_len) (by decide) ha HN.out hu
   have HS:=lh hsrc
   have H1:=lh (show ∀ u∈xs.flatMap bL,u.oneCell'=true from fun u hu=>by
    obtain⟨x,_,hx⟩:=List.mem_flatMap.1 hu
    exact bL_one x u hx)
   clear hsrc ha
   obtain⟨i0,hi,iz0,iz1,iz2⟩:=info_parts H9
   go_in
   go_wp2_with (at_builtin;refine wpList_append_own _ rfl _ _ 46 rfl w.heap.size 4 i0 (.bool false) 1 1 τ46 hi iz0 iz1 iz2 rfl (by decide) _ _ _ rfl (World.ownsRow_made w #[] 0 (nlr _) (Nat.zero_le _) (by simp)) a n cap (xs.flatMap bL) rfl ?qc1 ?qc2 ?qc3 ?qc4 ?qc5 ?qc6 ?_)
   case qc1=>exact HL.out
   case qc2=>exact fun j u hj=>Lib.cell?_alloc_some _ (HS.out j u hj)
   case qc3=>exact H1.out
   case qc4=>unfold maxLen;omega
   case qc5=>omega
   case qc6=>simp
   intro v' w1 hown hgrow _
   have HO:=lh hown;clear hown
   go_wp2_with fail
   go_ret
   refine ⟨v',rfl,by simpa using HO.out,?_⟩
   exact ((Below.refl _ w).alloc (nlr _) _).grown hgrow (by simp) (by intro k hk;simp [Value.ownBlock] at hk;omega)
theorem B5:(Tryz.prog.info? 48).map (·.size)=some 3:=by kernel_rfl
theorem pc_zero:(Tryz.prog.info? 48).map (·.zero)=some (some (.agg (List.toArray (pcL (.slice none 0 0) 0 0)))):=by kernel_rfl
theorem flags_info:(Tryz.prog.info? 46).map (·.size)=some 1:=by kernel_rfl
theorem Fr {v:Value} (hv:v.oneCell'=true) (r s:Int):∀ u∈pcL v r s,u.oneCell'=true:=by
 intro u hu
 simp only[pcL,List.mem_cons,List.not_mem_nil,or_false] at hu
 rcases hu with rfl|rfl|rfl
 · exact hv
 · rfl
 · rfl
theorem pvalid_any (ao:Option Addr) (m cap:Nat) (r s:Int) (w:World) (h0:1≤m) (h1:m≤32) (r0:0≤r) (r1:r≤11) (s0:0≤s) (s1:s≤352):Calls Tryz.prog 39 #[.agg (pcL (.slice ao m cap) r s).toArray] w (Ret w (.bool true)):=by
 exact Xz8
theorem stop_any (va:Value) (d:List Bool) (r s limit:Int) (w:World) (ha:RdS bL 1 w va d) (h0:1≤d.length) (h1:d.length≤32) (r0:0≤r) (r1:r≤11) (s0:0≤s) (s1:s≤352) :
    Calls Tryz.prog 12 #[.agg (pcL va r s).toArray,.int .i64 limit] w (Ret w (.bool (decide (((Cx d d.length).length:Int)≤limit) || decide (10≤r)))):=by
 obtain⟨ao,cap,rfl,hcap,hmax,ha⟩:=ha.open
 have HV:=lh (fun w=>pvalid_any ao d.length cap r s w h0 h1 r0 r1 s0 s1)
 have HC:=lh (fun w h=>pcount_any (.slice ao d.length cap) d r s w h h1)
 have HA:=lh ha
 generalize d.length=m at *
 generalize ((Cx d m).length:Int)=c at *
 clear ha h0 h1 r0 r1 s0 s1 hcap hmax
 by_cases q1:c≤limit
 rw[decide_eq_true q1,Bool.true_or]
 have q1':decide (c≤limit)=true:=decide_eq_true q1
 rotate_left
 rw[decide_eq_false q1,Bool.false_or]
 have q1':decide (c≤limit)=false:=decide_eq_false q1
 clear q1
 rotate_left
 all_goals
  have L:=Lay.start w
  go_in
  go_wp2_with (first|(go_skip;first|(go_step;go_big_op)|skip)|(refine YL ?_)|((first|(go_at_call 40;(with_reducible refine zcl L (HC.out _ (HA.out.below L.bel)) ?_))|refine YS ?_);clear L;intro wz L))
  go_ret
  exact Ret.mk L.bel
theorem RdS.of_own1 {d:List Bool} {w:World} {base:Nat} {v:Value} (h:w.ownsRow base 4 1 v d.length (d.flatMap bL)):RdS bL 1 w v d:=RdS.of_owns bL_len h
theorem pclone_any (va:Value) (d:List Bool) (r s:Int) (w:World) (ha:RdS bL 1 w va d) (h1:d.length≤32) :
    Calls Tryz.prog 41 #[.agg (pcL va r s).toArray] w (fun e w'=>∃ v,e=.returned (.agg (pcL v r s).toArray)∧w'.ownsRow w.heap.size 4 1 v d.length (d.flatMap bL)∧Below w.heap.size w w'):=by
 obtain⟨ao,cap,rfl,hcap,hmax,ha⟩:=ha.open
 have HC:=lh (fun w h=>clone_flags (.slice ao d.length cap) d w h (by omega))
 have HA:=lh ha
 clear ha hcap hmax h1
 have L:=Lay.start w
 go_in
 go_wp2_with (first|(refine YL ?_)|(refine YS ?_;clear L;intro wz L))
 refine (HC.out _ (HA.out.below L.bel)).mono ?_
 rintro e w1 ⟨v1,rfl,ho1,hb1⟩
 have ho:=Ay (base':=w.heap.size) ho1 L.bel.size
 replace L:=L.below hb1
 clear ho1 hb1
 obtain⟨ao2,cap2,rfl,_⟩:=RdS.of_own bL_len ho
 go_wp2_with (first|(refine Aq (ty:=46) (u:=.slice ao2 d.length cap2) L 1 rfl (pcL (.slice ao2 d.length cap2) r s) rfl rfl rfl rfl flags_info rfl rfl rfl ?_;intro wz Lz Nz;have ho2:=Ai ho (L.at (k:=1) rfl) (by decide) Nz;clear ho;replace L:=Lz;clear Lz Nz;simp only[s0,s1] at L)|(refine Yp (pcL (.slice ao2 d.length cap2) r s) ?_)|(refine Ag (ty:=48) L 0 rfl (pcL (.slice ao2 d.length cap2) r s) (pcL (.slice ao2 d.length cap2) r s) rfl rfl rfl rfl B5 (Fr rfl _ _) rfl rfl ?_;intro wz Lz Nz;have ho3:=Ai ho2 (L.at (k:=0) rfl) (by decide) Nz;clear ho2;replace L:=Lz;clear Lz Nz;simp only[List.set_cons_zero] at L))
 exact Yr1 ⟨_,rfl,ho3,L.bel⟩
theorem collect_any (B:Nat) (va:Value) (d:List Bool) (w₀ w:World) (hd:d.length≤32) (hB1:B<w.heap.size) (hcB:w.cell? ⟨B,0,none⟩=some va) (ha:RdS bL 1 w₀ va d) (hbw:Below w₀.heap.size w₀ w) :
    Calls Tryz.prog 52 #[.func (.func 86) #[] #[.pointer (some ⟨B,0,none⟩)]] w (fun e w'=>∃ v,e=.returned v∧w'.ownsRow w.heap.size 3 1 v (Cx d d.length).length (Jy (Cx d d.length))∧Below w.heap.size w w'):=by
 have HA:=lh (appendSeq_any B va d w₀ w hd hB1 hcB ha hbw)
 clear ha hbw hcB
 go_in
 go_wp2_with (go_at_call 107;(with_reducible refine HA.out.mono ?_);rintro e w1 ⟨v,rfl,ho,hb⟩)
 go_ret
 exact⟨v,rfl,ho,hb⟩
theorem GU (va:Value) (d:List Bool) (r s:Int) (w:World) (ha:RdS bL 1 w va d) (h1:d.length≤32) :
    Calls Tryz.prog 19 #[.agg (pcL va r s).toArray] w (fun e w'=>∃ v,e=.returned v∧w'.ownsRow w.heap.size 3 1 v (Cx d d.length).length (Jy (Cx d d.length))∧Below w.heap.size w w'):=by
 obtain⟨ao,cap,rfl,hcap,hmax,ha⟩:=ha.open
 have HS:=lh (fun w=>set_any ao d.length cap w)
 have HA:=lh ha
 have HD:=lh h1
 clear ha hcap hmax h1
 have L:=Lay.start w
 go_in
 go_wp2_with (first|(go_at_call 42;(with_reducible refine (HS.out _).mono ?_);rintro e w1 ⟨B,rfl,hcB,hB0,hB1,hb1⟩;replace L:=L.below hb1;have HCB:=lh hcB;clear hb1 hcB)|(go_at_call 52;(with_reducible refine (collect_any B _ d w _ HD.out hB1 HCB.out HA.out L.bel).mono ?_);rintro e w2 ⟨v,rfl,ho2,hb2⟩;have ho:=Ay (base':=w.heap.size) ho2 L.bel.size;replace L:=L.below hb2;clear hb2 ho2)|(refine YL ?_)|(refine YS ?_;clear L;intro wz L))
 go_ret
 exact⟨v,rfl,ho,L.bel⟩
section
variable {P:Program} {w0 w w':World} {l:List Bx} {ops:Array Oper} {rest:List Oper} {op:Oper} {a:Act} {Q:Exit→Act→World→Prop} {x y:Operand} {u:Value}
theorem op_made (hgd:op.guard=none) (hr:(execOp a.eval op).run P w=.ok (.value u) w') (h:wpList P ops Q rest (a.put op.dst u) w'):wpList P ops Q (op :: rest) a w:=by
 refine wpList_plain hgd fun _ hK=>?_
 unfold Oper.wp
 rw[hr]
 exact hK _ _ h
theorem lay_make (L:Lay w0 w l) (t e:TypeId) (z:Value) (bytes n:Nat) (hgd:op.guard=none) (ho:op.op=.makeSlice t x y) (hx:a.eval x=.int .i64 (n:Int)) (hy:a.eval y=.int .i64 (n:Int))
    (ht:P.underlying t=some (.slice e)) (hinfo:(P.info? e).map (fun i=>(i.zero,i.size,i.bytes))=some (some z,1,bytes)) (hz:z.cells=#[z]) (hb:bytes*n≤281474976710656) (hn:n≤9223372036854775807)
    (h:∀ (g:Nat) (w':World),Lay w0 w' (⟨g,List.replicate n z,e⟩ :: l)→wpList P ops Q rest (a.put op.dst (.slice (some ⟨g,0,none⟩) n n)) w'):wpList P ops Q (op :: rest) a w :=
 op_made hgd (by unfold execOp;simp only[ho,hx,hy,Sem.run_bind,Dh t e z bytes ht hinfo hz n hb hn w];rfl) (h _ _ (L.new (NewBox.made w (List.replicate n z) e)))
end
theorem Lay.fst1 {w0 w:World} {x:Bx} {l:List Bx} (_L:Lay w0 w (x :: l)):∃ b,x.b=b:=⟨_,rfl⟩
theorem flat_set (d:List Bool) (k:Nat) (b:Bool):(d.flatMap bL).set k (.bool b)=(d.set k b).flatMap bL:=by
 induction d generalizing k with
 | nil=>rfl
 | cons x d ih =>
   cases k with
   | zero=>rfl
   | succ k=>rw[List.set_cons_succ,List.flatMap_cons,List.flatMap_cons,←ih];rfl
theorem JF (d:List Bool):(d.flatMap bL).length=d.length:=by rw[flat_len bL_len,Nat.mul_one]
def upT (n k:Nat):List Bool:=List.replicate k true++List.replicate (n - k) false
theorem J7 {n k:Nat} (h:k≤n):(upT n k).length=n:=by unfold upT;rw[List.length_append,List.length_replicate,List.length_replicate];omega
theorem upT_set {n k:Nat} (h:k<n):(upT n k).set k true=upT n (k+1):=by
 unfold upT
 rw[List.set_append_right k true (by rw[List.length_replicate];exact nlr _),List.length_replicate,Nat.sub_self,show n - k=(n - (k+1))+1 by omega,List.replicate_succ,List.set_cons_zero,List.replicate_succ',List.append_assoc]
 rfl
theorem upT_zero (n:Nat):(upT n 0).flatMap bL=List.replicate n (.bool false):=by
 unfold upT
 rw[List.replicate_zero,List.nil_append,Nat.sub_zero]
 induction n with
 | zero=>rfl
 | succ n ih=>rw[List.replicate_succ,List.flatMap_cons,ih,List.replicate_succ];rfl
theorem upT_all (n:Nat):upT n n=List.replicate n true:=by unfold upT;rw[Nat.sub_self];simp
theorem blt_of {a b:Nat} (h:a<b):Nat.blt a b=true:=by simpa using h
theorem begin_pages (n:Nat) (w:World) (h0:1≤n) (h1:n≤32) :
    Calls Tryz.prog 10 #[.int .i64 n] w (fun e w'=>∃ v,e=.returned (.tuple #[.agg (pcL v 0 0).toArray,.bool true])∧w'.ownsRow w.heap.size 4 1 v n ((List.replicate n true).flatMap bL)∧Below w.heap.size w w'):=by
 have L:=Lay.start w
 go_in
 go_wp2_with (first|(go_skip;first|(go_step;go_big_op)|skip)|(refine lay_make L 46 4 (.bool false) 1 n rfl rfl rfl rfl τ46 H9 rfl (by omega) (by omega) ?_;intro g wz Lz;replace L:=Lz;clear Lz)|(refine YL ?_)|(refine YS ?_;clear L;intro wz L))
 obtain⟨B4,hb4⟩:=L.fst1
 dsimp only at hb4
 rw[hb4] at L ⊢
 clear hb4
 rw[←upT_zero n] at L
 have L1:=lh L
 clear L
 go_loopw [5,19] (fun _ i wr=>∃ k:Nat,k≤n∧i=.int .i64 k∧Lay w wr [⟨B4,pcL (.slice (some ⟨g,0,none⟩) n n) 0 0,48⟩,⟨g,(upT n k).flatMap bL,4⟩,⟨w.heap.size,pcL (.slice none 0 0) 0 0,48⟩]) (fun _ i _=>n - (intOf i).toNat)
 case atStart=>exact⟨0,Nat.zero_le _,rfl,L1.out⟩
 case round =>
  obtain⟨k,hk,rfl,L⟩:=hrel
  by_cases hlt:k<n
  · have HB:=lh (show Nat.blt k ((upT n k).flatMap bL).length=true from blt_of (by rw[JF,J7 hk];exact hlt))
    have HS:=lh (show ((upT n k).flatMap bL).set k (.bool true)=(upT n (k+1)).flatMap bL by rw[flat_set,upT_set hlt])
    go_wp2_with (first|(refine Aq (ty:=4) (u:=.bool true) L 1 rfl ((upT n (k+1)).flatMap bL) rfl rfl rfl rfl Fk rfl HB.out HS.out ?_;intro wz Lz Nz;clear Nz;replace L:=Lz;clear Lz;simp only[s0,s1] at L)|(refine YL ?_))
    go_roundw
    case rel=>exact⟨k+1,by omega,by go_num,L⟩
    case measure=>simp [intOf];omega
  · obtain rfl:k=n:=by omega
    go_wp2_with (first|(refine YL ?_)|(refine YS ?_;clear L;intro wz L))
    exact Yr2 ⟨_,rfl,by rw[←upT_all];exact RowBx.owns (size:=1) ⟨nlr _,by unfold maxLen;omega,by rw[JF,J7 (nlr _),Nat.mul_one],by rw[List.take_of_length_le (by rw[JF,J7 (nlr _)];omega)],by rw[JF,J7 (nlr _),Nat.mul_one]⟩ L (k:=1) rfl,L.bel⟩
def RowIn (l:List Bx) (T:TypeId) (size:Nat) (v:Value) (n:Nat) (xs:List Value):Prop :=
 (v=.slice none 0 0∧n=0∧xs=[])∨∃ (i g cap:Nat) (cur:List Value),v=.slice (some ⟨g,0,none⟩) n cap∧RowBx n cap size cur xs∧l[i]?=some ⟨g,cur,T⟩
section
variable {w0 w w':World} {l:List Bx} {T:TypeId} {size n:Nat} {v:Value} {xs:List Value}
theorem RowIn.owns (h:RowIn l T size v n xs) (L:Lay w0 w l):w.ownsRow w0.heap.size T size v n xs:=by
 rcases h with ⟨rfl,rfl,rfl⟩|⟨i,g,cap,cur,rfl,R,hi⟩
 · exact World.ownsRow_nil _ _ _ _
 · exact R.owns L hi
theorem Lay.insert (L:Lay w0 w l) {g:Nat} {cur:List Value} (hg:HasBlock w g cur.toArray T) (h0:w0.heap.size≤g) (hne:∀ x∈l,x.b≠g) :
    ∃ l',Lay w0 w l'∧(⟨g,cur,T⟩:Bx)∈l'∧∀ x∈l,x∈l':=by
 refine ⟨l.filter (fun x=>decide (g<x.b))++⟨g,cur,T⟩ :: l.filter (fun x=>decide (x.b<g)),⟨L.bel,fun x hx=>?_,?_⟩,?_,fun x hx=>?_⟩
 · rcases List.mem_append.1 hx with hx|hx
   · exact L.has x (List.mem_filter.1 hx).1
   · rcases List.mem_cons.1 hx with rfl|hx
     · exact⟨hg,h0⟩
     · exact L.has x (List.mem_filter.1 hx).1
 · rw[List.map_append,List.map_cons,List.pairwise_append]
   refine ⟨L.dif.sublist ((List.filter_sublist (l:=l)).map _),List.pairwise_cons.2 ⟨fun b hb=>?_,L.dif.sublist ((List.filter_sublist (l:=l)).map _)⟩,fun b hb c hc=>?_⟩
   · obtain⟨x,hx,rfl⟩:=List.mem_map.1 hb
     exact of_decide_eq_true (List.mem_filter.1 hx).2
   · obtain⟨x,hx,rfl⟩:=List.mem_map.1 hb
     have h1:g<x.b:=of_decide_eq_true (List.mem_filter.1 hx).2
     rcases List.mem_cons.1 hc with rfl|hc
     · exact h1
     · obtain⟨y,hy,rfl⟩:=List.mem_map.1 hc
       have h2:y.b<g:=of_decide_eq_true (List.mem_filter.1 hy).2
       show x.b>y.b
       omega
 · exact List.mem_append_right _ List.mem_cons_self
 · rcases Nat.lt_trichotomy x.b g with h|h|h
   · exact List.mem_append_right _ (List.mem_cons_of_mem _ (List.mem_filter.2 ⟨hx,decide_eq_true h⟩))
   · exact absurd h (hne x hx)
   · exact List.mem_append_left _ (List.mem_filter.2 ⟨hx,decide_eq_true h⟩)
theorem Lay.withRow (L:Lay w0 w l) (h:w.ownsRow w0.heap.size T size v n xs) (hT:∀ x∈l,x.T≠T):∃ l',Lay w0 w l'∧RowIn l' T size v n xs∧∀ x∈l,x∈l':=by
 have hne:=fun x hx=>Ce h (L.has x hx).1 (hT x hx)
 obtain⟨hl,h⟩:=h
 rcases h with ⟨rfl,hn⟩|⟨g,cap,cur,rfl,hg0,hg,h1,h2,h3,h4⟩
 · subst hn
   exact⟨l,L,.inl ⟨rfl,rfl,List.eq_nil_of_length_eq_zero (by rw[hl,Nat.zero_mul])⟩,fun x hx=>hx⟩
 · obtain⟨l',L',hm,hs⟩:=L.insert (g:=g) (cur:=cur.toList) hg hg0 (fun x hx e=>hne x hx g rfl e.symm)
   obtain⟨i,hi⟩:=List.getElem?_of_mem hm
   exact⟨l',L',.inr ⟨i,g,cap,cur.toList,rfl,⟨h1,h2,by rw[Array.length_toList];exact h3,h4,hl⟩,hi⟩,hs⟩
end
section
variable {P:Program} {ops:Array Oper} {rest:List Oper} {o:Oper} {a:Act} {w:World} {Q:Exit→Act→World→Prop}
theorem DU (hgd:o.guard=none) (s x:Operand) (t:TypeId)
    (ho:o.op=.call { callee:=.builtin .append,args:=#[s,x],argTypes:=#[t,t] })
    (base base2:Nat) (e:TypeId) (i:TypeInfo) (z:Value) (size bytes:Nat) (ht:P.underlying t=some (.slice e)) (hi:P.info? e=some i) (hz:i.zero=some z)
    (hsize:i.size=size) (hby:i.bytes=bytes) (hzs:z.cells.size=size) (hsz:0<size)
    (v:Value) (n:Nat) (xs:List Value) (hs:a.eval s=v) (hown:w.ownsRow base e size v n xs)
    (vs:Value) (m:Nat) (ys:List Value) (hx:a.eval x=vs) (hsrc:w.ownsRow base2 e size vs m ys) (h1:∀ u∈ys,u.oneCell'=true)
    (h63:n+m≤maxLen) (hbytes:(n+m)*bytes≤140737488355328) (hbase:base≤w.heap.size)
    (h:∀ v' w',w'.ownsRow base e size v' (n+m) (xs++ys)→w.grownBy w' v.ownBlock→wpList P ops Q rest (a.put o.dst v') w'):wpList P ops Q (o :: rest) a w:=by
 have hl:=hsrc.1
 have hcells:=fun g=>hsrc.cells (g:=g)
 rcases hsrc.2 with ⟨e1,e2⟩|⟨g,cap,cur,rfl,_⟩
 · subst e2
   have hy:ys=[]:=List.eq_nil_of_length_eq_zero (by rw[hl,Nat.zero_mul])
   subst hy
   refine wpList_append_own_none hgd s x t ho base e i size ht hi v n xs hs hown (by rw[hx,e1]) ?_
   refine h v w ?_ ⟨rfl,rfl,rfl,nlr _,fun _ _ _=>rfl⟩
   rw[List.append_nil];exact hown
 · exact wpList_append_own w hgd s x t ho base e i z size bytes ht hi hz hsize hby hzs hsz v n xs hs hown ⟨g,0,none⟩ m cap ys hx hl (hcells g rfl) h1 h63 hbytes hbase (fun v' w' h2 h3 _=>h v' w' h2 h3)
end
theorem appM_len (M:Mc) (e:Ev):(EG M e).1.m.length=M.m.length:=by
 unfold EG
 repeat' split
 all_goals first|rfl|exact dkComp_len _ _ _|exact ncRecv_len _ _ _
theorem Agree.refl (S:Nat) (xs:List Int):Agree S xs xs:=⟨rfl,fun _ _=>rfl⟩
theorem Gf {M:Mc} (hM:M.Ok) (clk:Int):(AZ M clk).1.m.length=M.m.length:=by
 obtain⟨m',_,_,_,h⟩:=step_agree (S:=needN M) hM (Agree.refl _ M.m) (fun _ h=>h) clk
 exact h.len
theorem dkOut_outs (d:Dk) (xs:List Int) (port v:Int) (p:Nat):(CI d xs port v p).2.length≤1:=by
 unfold CI Ci
 repeat' split
 all_goals first|exact Nat.zero_le _|exact nlr _
theorem ncOut_outs (c:Nc) (xs:List Int) (port v:Int) (p:Nat):(Cf c xs port v p).2.length≤1:=by
 unfold Cf
 repeat' split
 all_goals first|exact Nat.zero_le _|exact nlr _
theorem outP_outs (M:Mc) (port v:Int):(Be M port v).2.length≤1:=by
 unfold Be
 repeat' split
 all_goals first|exact Nat.zero_le _|exact nlr _|exact dkOut_outs _ _ _ _ _|exact ncOut_outs _ _ _ _ _
theorem Fn (M:Mc) (clk:Int):(AZ M clk).2.length≤1:=by
 unfold AZ
 split
 · exact Nat.zero_le _
 · show (Hd _ _ _).2.length≤1
   unfold Hd
   repeat' split
   all_goals first|exact Nat.zero_le _|exact outP_outs _ _ _
theorem sys_app (M:Mc) {e:Ev} (h0:0≤e.n) (h1:e.n<4294967296):sysM.app M e=EG M e:=by
 show EG M (evN e)=_
 rw[evN_eq h0 h1]
theorem GM (M:Mc) {c:Int} (h0:0≤c) (h1:c<4294967296):sysM.step M c=AZ M c:=by
 show AZ M (c % 4294967296)=_
 rw[Int.emod_eq_of_lt h0 h1]
theorem due_len (l:List En):∀ M:Mc,(sysM.due M l).1.m.length=M.m.length:=by
 induction l with
 | nil=>intro M;rfl
 | cons x l ih =>
   intro M
   by_cases h:x.p≤sysM.cnt M∧x.e.k≠1
   · rw[Sys.due_cons _ h,ih];exact appM_len _ _
   · rw[Sys.due_stop _ h]
theorem FX {α:Type} {l:List α} {q:Nat} {x:α} (h:l[q]?=some x):l.drop q=x :: l.drop (q+1):=by
 obtain⟨hl,he⟩:=List.getElem?_eq_some_iff.1 h
 rw[List.drop_eq_getElem_cons hl,he]
def J0 (M:Mc) (l:List En):Bool :=
 match l with
 | []=>false
 | x :: _=>x.p == M.n && x.e.k != 1
theorem due_yes {M:Mc} {l:List En} (h:J0 M l=true):∃ x r,l=x :: r∧x.p=M.n∧x.e.k≠1:=by
 cases l with
 | nil=>cases h
 | cons x r =>
   unfold J0 at h
   rw[Bool.and_eq_true,beq_iff_eq,bne_iff_ne] at h
   exact⟨x,r,rfl,h.1,h.2⟩
theorem due_no {M:Mc} {l:List En} {hi:Nat} (hs:Sys.Seq M.n hi l) (h:J0 M l=false):sysM.due M l=(M,l):=by
 cases l with
 | nil=>rfl
 | cons x r =>
   refine Sys.due_stop _ (fun hh=>?_)
   have h1:x.p≤M.n:=hh.1
   have h2:M.n≤x.p:=hs.1
   unfold J0 at h
   rw[Bool.and_eq_false_iff,beq_eq_false_iff_ne,bne_eq_false_iff_eq] at h
   rcases h with h|h
   · omega
   · exact hh.2 h
theorem rd_is {M:Mc} (hs:Ba M=false):rdB M=rdK (Bb M) M.m:=by
 unfold rdB
 rw[hs]
 exact rdK_eq (Bb M) M.m
def cntOf (w:World) (b:Nat):Nat:=match w.cell? ⟨b,46,none⟩ with|some v=>(intOf v).toNat|none=>0
theorem Jc {w0 w:World} {l:List Bx} {j B:Nat} {M:Mc} {v:Value} (L:Lay w0 w l) (hj:l[j]?=some ⟨B,mcL M v,43⟩):cntOf w B=M.n:=by
 unfold cntOf
 rw[(L.at hj).cell]
 show (intOf (.int .u64 (M.n:Int))).toNat=M.n
 simp [intOf]
def enL (e:En):List Value:=.int .u64 e.p :: evL e.e
theorem enL_one (e:En):∀ u∈enL e,u.oneCell'=true:=by
 intro v hv
 simp only[enL,evL,List.mem_cons,List.not_mem_nil,or_false] at hv
 rcases hv with rfl|rfl|rfl|rfl <;> rfl
theorem DJ:(Tryz.prog.info? 113).map (·.size)=some 4:=by kernel_rfl
theorem seq_at {lo hi:Nat}:∀ {l:List En} {k:Nat} {x y:En},Sys.Seq lo hi l→l[k]?=some x→l[k+1]?=some y→x.p≤y.p∧(x.e.k=1→x.p<y.p)
 | [],_,_,_,_,h,_=>by cases h
 | [_],0,_,_,_,_,h=>by cases h
 | [_],k+1,_,_,_,h,_=>by cases h
 | a :: b :: l,0,x,y,hs,hx,hy=>by
   cases hx
   cases hy
   exact⟨hs.2.2.2.1,fun e=>(hs.2.2.1 e).2 _ List.mem_cons_self⟩
 | a :: b :: l,k+1,x,y,hs,hx,hy=>seq_at hs.2.2.2 (by simpa using hx) (by simpa using hy)
section
variable {w:World} {va:Value} {es:List En} {lo hi:Nat}
theorem Xz30 {P:Prop} (h:P:=by
  (try simp only[Act.put,q4,s0,s1])
  refine wp_region_quiet_below (by kernel_rfl) (by kernel_rfl) ?_
  repeat (first|(go_big_quiet_want;(first|fail|(refine BN (ty:=41) (u:=(.int .u64 x.p)) (fun w' h=>((Aa h).cell (p:=⟨b,_,none⟩) hblr).trans HX0.out) rfl rfl τ41 rfl ?_)|(refine BN (ty:=41) (u:=(.int .u64 y.p)) (fun w' h=>((Aa h).cell (p:=⟨b,_,none⟩) hblr).trans HY0.out) rfl rfl τ41 rfl ?_)|(refine BN (ty:=3) (u:=(.int .i64 x.e.k)) (fun w' h=>((Aa h).cell (p:=⟨b,_,none⟩) hblr).trans HX1.out) rfl rfl τ3 rfl ?_));go_big_quiet_on;(try simp only[Act.put,q4,s0,s1]))|go_big_quiet_step (first|fail|fail))
  refine wpQuiet_nil ?_
  intro wz hwz
  replace L:=L.below (Aa hwz)
  clear hwz
  go_wp2_with fail
  go_roundw
  case rel=>exact⟨k+1,by go_num,hb.trans ((L.bel).mono hb.size)⟩
  case measure=>simp [intOf];omega):P:=h
theorem rordered_any (ha:RdS enL 4 w va es) (hl:es.length≤4096) (hs:Sys.Seq lo hi es):Calls Tryz.prog 70 #[va] w (Ret w (.bool true)):=by
 obtain⟨ao,cap,rfl,hcap,hmax,ha⟩:=ha.open
 unfold maxLen at hmax
 have HA:=lh ha
 have HS:=lh hs
 obtain⟨n,hn⟩:∃ n,es.length=n:=⟨_,rfl⟩
 have HN:=lh hn
 rw[hn] at hcap HA hl ⊢
 clear ha hs hn
 go_in
 go_wp2_with fail
 go_loopw [3] (fun i wr=>∃ k:Nat,i=.int .i64 ((k+1:Nat):Int)∧Below w.heap.size w wr) (fun i _=>n - (intOf i).toNat)
 case atStart=>exact⟨0,rfl,Below.refl _ _⟩
 case round =>
  obtain⟨k,rfl,hb⟩:=hrel
  by_cases hlt:k+1<n
  · obtain⟨x,hx⟩:=A6 (xs:=es) (k:=k) (by rw[HN.out];omega)
    obtain⟨y,hy⟩:=A6 (xs:=es) (k:=k+1) (by rw[HN.out];omega)
    have hxy:=seq_at HS.out hx hy
    obtain⟨hxx,b,off,rfl,hbl,_,_,hcell⟩:=HA.out.at (by omega)
    have hblr:b<wr.heap.size:=Nat.lt_of_lt_of_le hbl hb.size
    have HX0:=lh (show wr.cell? ⟨b,off+k*4,none⟩=some (.int .u64 x.p) from (hb.cell (p:=⟨b,off+k*4,none⟩) hbl).trans (by simpa using hcell k x hx 0 _ rfl))
    have HX1:=lh (show wr.cell? ⟨b,off+k*4+1,none⟩=some (.int .i64 x.e.k) from (hb.cell (p:=⟨b,off+k*4+1,none⟩) hbl).trans (by simpa using hcell k x hx 1 _ rfl))
    have HY0:=lh (show wr.cell? ⟨b,off+(k+1)*4,none⟩=some (.int .u64 y.p) from (hb.cell (p:=⟨b,off+(k+1)*4,none⟩) hbl).trans (by simpa using hcell (k+1) y hy 0 _ rfl))
    have e1:decide ((y.p:Int)<(x.p:Int))=false:=decide_eq_false (by have:=hxy.1;omega)
    have e1n:decide (y.p<x.p)=false:=decide_eq_false (by have:=hxy.1;omega)
    obtain⟨q,hq⟩:∃ q,(y.p == x.p)=q:=⟨_,rfl⟩
    have hqi:((y.p:Int) == (x.p:Int))=q:=by rw[←hq,Bool.eq_iff_iff,beq_iff_eq,beq_iff_eq];omega
    have e3:q=true→(x.e.k == 1)=false:=fun h=>by
     have hp:y.p=x.p:=eq_of_beq (hq.trans h)
     rw[beq_eq_false_iff_ne]
     intro h1
     have:=hxy.2 h1
     omega
    clear hxy hxx hcell hx hy
    have L:=Lay.start wr
    go_upto_region 4 with fail
    cases q with
    | true =>
      have e3:=e3 rfl
      exact Xz30
    | false =>
      clear e3
      exact Xz30
  · have hlt2:n≤k+1:=by omega
    clear hlt
    go_wp2_with fail
    go_ret
    exact Ret.mk hb
end
def en0:En:=⟨0,⟨0,0,⟨#[]⟩⟩⟩
theorem bordered_one (ao:Option Addr) (n cap:Nat) (w:World) (h:n≤1):Calls Tryz.prog 64 #[.slice ao n cap] w (Ret w (.bool true)):=by
 have t1:decide ((1:Int)<(n:Int))=false:=decide_eq_false (by omega)
 go_in
 go_wp2_with fail
 go_loopw [3] (fun i wr=>i=.int .i64 1∧Below w.heap.size w wr) (fun _ _=>0)
 case atStart=>exact⟨rfl,Below.refl _ _⟩
 case round =>
  obtain⟨rfl,hb⟩:=hrel
  go_wp2_with fail
  go_ret
  exact Ret.mk hb
theorem bcheck_any {M:Mc} {v vs:Value} {w:World} {es:List En} {tgt:Nat} (hM:M.Ok) (ha:MemRow w v M.m) (hs:RdS enL 4 w vs es) (hlen:es.length≤1) (hseq:Sys.Seq M.n tgt es) (h1:M.n≤tgt) (h2:tgt - M.n≤4000) :
    Calls Tryz.prog 82 #[.agg (mcL M v).toArray,vs,.int .u64 tgt] w (Ret w (.int .i64 0)):=by
 obtain⟨ao,cap,rfl,hcap,hmax,hs⟩:=hs.open
 unfold maxLen at hmax
 have hn60:=hM.n
 have HA:=lh ha
 have HMAY:=lh (fun w h=>BF (v:=v) (w:=w) hM h)
 have HES:=lh hs
 have HSEQ:=lh hseq
 obtain⟨n,hn⟩:∃ n,es.length=n:=⟨_,rfl⟩
 have HN:=lh hn
 rw[hn] at hcap HES hlen ⊢
 have hsub:IntKind.u64.wrap ((tgt:Int) - (M.n:Int))=((tgt - M.n:Nat):Int):=by rw[IntKind.wrap_u64];omega
 have HO:=lh (fun w=>bordered_one ao n cap w hlen)
 have b1:decide (tgt<M.n)=false:=decide_eq_false (by omega)
 have b1i:decide ((tgt:Int)<(M.n:Int))=false:=decide_eq_false (by omega)
 have b2:decide (4000<tgt - M.n)=false:=decide_eq_false (by omega)
 have b2i:decide ((4000:Int)<((tgt - M.n:Nat):Int))=false:=decide_eq_false (by omega)
 have b3:decide (400<n)=false:=decide_eq_false (by omega)
 have b3i:decide ((400:Int)<(n:Int))=false:=decide_eq_false (by omega)
 clear hs hn ha hM hseq h1 h2
 have L:=Lay.start w
 go_in
 go_wp2_with (first|(refine YL ?_)|((first|(go_at_call 38;(with_reducible refine zcl L (HMAY.out _ (HA.out.below L.bel)) ?_))|refine YS ?_);clear L;intro wz L))
 clear b1 b1i b2 b2i b3 b3i
 have L1:=lh L
 clear L
 go_loopw [8,35] (fun _ i wr=>∃ k:Nat,k≤n∧i=.int .i64 k∧Lay w wr [⟨w.heap.size,mcL M v,43⟩]) (fun _ i _=>n - (intOf i).toNat)
 case atStart=>exact⟨0,Nat.zero_le _,rfl,L1.out⟩
 case round =>
  obtain⟨k,hk,rfl,L⟩:=hrel
  by_cases hlt:k<n
  · obtain⟨x,hx⟩:=A6 (xs:=es) (k:=k) (by rw[HN.out];exact hlt)
    have hp:=(HSEQ.out.ge x (List.mem_of_getElem? hx)).1
    obtain⟨hxx,b,off,rfl,hbl,_,_,hcell⟩:=HES.out.at (by omega)
    have HPE:=lh (fun (jj:Nat) (uu:Value) (hu:(enL x)[jj]?=some uu)=>(L.bel.cell (p:=⟨b,off+k*4+jj,none⟩) hbl).trans (hcell k x hx jj uu hu))
    have c1:decide (x.p<M.n)=false:=decide_eq_false (by omega)
    have c1i:decide ((x.p:Int)<(M.n:Int))=false:=decide_eq_false (by omega)
    clear hxx hcell hx hp
    go_wp2_with (first|(refine CD (ty:=113) (enL x) rfl rfl rfl τ113 rfl DJ HPE.out ?_)|(refine YL ?_)|((first|refine zal (ty:=113) L (enL en0) ?_|refine YS ?_);clear L;intro wz L))
    go_roundw
    case rel=>exact⟨k+1,by omega,by go_num,L.drop1⟩
    case measure=>simp [intOf];omega
  · obtain rfl:k=n:=by omega
    clear hlt
    go_wp2_with fail
    go_ret
    exact Ret.mk L.bel
def RetX (w:World) (f:Value→Value) (xs:List Int) (e:Ending) (w':World):Prop :=
 ∃ g,e=.returned (f (.slice (some ⟨g,0,none⟩) xs.length xs.length))∧w.heap.size≤g∧HasBlock w' g (words xs).toArray 25∧Below w.heap.size w w'
theorem Lay.own {w0 w w':World} {l:List Bx} {g:Nat} {cs:List Value} {T:TypeId} (L:Lay w0 w l) (hg:w.heap.size≤g) (h:HasBlock w' g cs.toArray T) (hb:Below w.heap.size w w'):Lay w0 w' (⟨g,cs,T⟩ :: l):=by
 have L':=L.below hb
 refine ⟨L'.bel,fun x hx=>?_,List.Pairwise.cons (fun b hb'=>?_) L'.dif⟩
 · rcases List.mem_cons.1 hx with rfl|hx
   · exact⟨h,Nat.le_trans L.bel.size hg⟩
   · exact L'.has x hx
 · obtain⟨x,hx,rfl⟩:=List.mem_map.1 hb'
   have:=(L.has x hx).1.lt
   show g>x.b
   omega
theorem rcopy_x (va:Value) (xs:List Int) (w:World) (ha:MemRow w va xs) (hn:xs.length≤1024):Calls Tryz.prog 138 #[va] w (RetX w (fun v=>v) xs):=by
 obtain⟨b,off,cap,rfl,h1,h2,h0,h3,h4⟩:=ha
 obtain⟨n,hn'⟩:∃ n,xs.length=n:=⟨_,rfl⟩
 have hmk:=Dh (P:=Tryz.prog) 30 25 (.int .u32 0) 4 τ30 Eg rfl n (by omega) (by omega)
 unfold RetX
 rw[hn'] at h0 h1 hn ⊢
 have HN:=lh hn';clear hn'
 have H4:=lh h4;clear h4
 have H2:=lh h2;clear h2
 go_in
 go_wp2_with (with_reducible refine wpList_copy_splice rfl (.tmp 7) (.tmp 8) 30 30 rfl 25 τ30 size_word _ _ n n n cap rfl rfl w.heap.size 0 (List.replicate n (.int .u32 0)) 25 ?c1 (words xs) ?c2 ?c3 ?c4 ?c5 w.heap.size w ?c6 ?c7 ?_)
 case c1=>have:=heap_alloc_new w (.cells (List.replicate n (.int .u32 0)).toArray 25);simpa using this
 case c2=>rw[CM,HN.out];exact (Nat.min_self n).symm
 case c3 =>
  intro _ j u hu
  obtain⟨x,hx,rfl⟩:=words_at hu
  exact H4.out j x hx
 case c4=>rw[CM,HN.out,List.length_replicate];omega
 case c5=>exact Ho xs
 case c6=>exact bel
 case c7=>exact nlr _
 rintro w1 hh hb1
 go_wp2_with fail
 go_ret
 have e:splice (List.replicate n (Value.int .u32 0)) 0 (words xs)=words xs:=by
  have hl:(words xs).length=n:=by rw[CM,HN.out]
  unfold splice
  rw[List.take_zero,List.nil_append,List.drop_eq_nil_of_le (by rw[List.length_replicate];omega),List.append_nil]
 have hh2:=hh.out
 rw[e] at hh2
 exact⟨_,rfl,nlr _,hh2,hb1⟩
section
variable {M:Mc} {v:Value} {w:World}
theorem rown7_any (hM:M.Ok) (ha:MemRow w v M.m):Calls Tryz.prog 71 #[.agg (mcL M v).toArray] w (RetX w (fun u=>.agg (mcL M u).toArray) M.m):=by
 have HC:=lh (fun w h=>rcopy_x v M.m w h hM.m.q)
 have HA:=lh ha
 unfold RetX at HC ⊢
 obtain⟨n,hn⟩:∃ n,M.m.length=n:=⟨_,rfl⟩
 rw[hn] at HC ⊢
 clear ha hn hM
 have L:=Lay.start w
 go_in
 go_wp2_with (first|(go_at_call 138;(with_reducible refine (HC.out _ (HA.out.below L.bel)).mono ?_);rintro ee wz ⟨g,rfl,hg,hbx,hbz⟩;replace L:=L.own hg hbx hbz;clear hg hbx hbz)|(refine YL ?_)|((first|refine Yt (mcL M (.slice (some ⟨g,0,none⟩) n n)) ?_|refine YS ?_);clear L;intro wz L))
 try go_simp
 have hl1:=AU L 1 rfl (mcL M (.slice (some ⟨g,0,none⟩) n n)) rfl τ43 rfl Aw
 have hg0:=L.bel.size
 exact Yr1 ⟨_,rfl,L.old (k:=0) rfl,L.at (k:=0) rfl,L.bel⟩
end
end Go.Proofs.YtnmpfmapncicmaaGreat
