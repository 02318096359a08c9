/-
  Texts joined: TpBf TpBg TpBh TpBi TpBj TpBk. No law is proved here.
-/
import Derived.Test.YtnmpfmapncicmaaGreatB41
import Derived.Test.YtnmpfmapncicmaaGreatB43
namespace Go.Proofs.YtnmpfmapncicmaaGreat
set_option linter.all false
set_option maxRecDepth 100000
set_option maxHeartbeats 40000000
open Go.RowKit
theorem Ce {w:World} {base size n B:Nat} {e T:TypeId} {v:Value} {xs:List Value} {cs:Array Value} (h:w.ownsRow base e size v n xs) (hB:HasBlock w B cs T) (hT:T≠e):∀ k,v.ownBlock=some k→k≠B:=by
 rintro k hk rfl
 rcases h.2 with ⟨rfl,_⟩|⟨g,cap,cur,rfl,_,hg,_⟩
 · cases hk
 · have:g=k:=by simpa [Value.ownBlock] using hk
   subst this
   have:=hB.symm.trans hg
   injection this with this
   injection this with _ h4 _
   exact hT h4
theorem Cl {w w':World} {b1 b2 s1 s2 n1 n2:Nat} {e1 e2:TypeId} {v1 v2:Value} {x1 x2:List Value} (h:w.ownsRow b1 e1 s1 v1 n1 x1) (h2:w.ownsRow b2 e2 s2 v2 n2 x2) (hne:e1≠e2) (hg:w.grownBy w' v2.ownBlock):w'.ownsRow b1 e1 s1 v1 n1 x1:=by
 refine h.kept hg ?_
 cases hv:v1.ownBlock with
 | none=>exact .inl rfl
 | some k =>
   refine .inr (fun e=>?_)
   rcases h.2 with ⟨rfl,_⟩|⟨g,cap,cur,rfl,_,hgg,_⟩
   · cases hv
   · have hk:g=k:=by simpa [Value.ownBlock] using hv
     subst hk
     exact Ce h2 hgg hne _ (by rw[←e]) rfl
theorem block_grown {w w':World} {B:Nat} {row:Option Nat} {cs:Array Value} {T:TypeId} (h:HasBlock w B cs T) (hg:w.grownBy w' row) (hne:row≠some B):HasBlock w' B cs T:=(hg.block B h.lt (by first|exact fun e=>hne e.symm|exact fun e=>hne e|exact .inr (fun e=>hne e.symm))).trans h
theorem Lay.grown {w0 w w':World} {l:List Bx} {base size n:Nat} {e:TypeId} {v:Value} {xs:List Value} (L:Lay w0 w l) (hown:w.ownsRow base e size v n xs) (hb:w0.heap.size≤base) (hg:w.grownBy w' v.ownBlock) (hne:∀ x∈l,∀ k,v.ownBlock=some k→k≠x.b):Lay w0 w' l :=
 ⟨L.bel.grown hg L.bel.size (fun k hk=>Nat.le_trans hb (hown.lt k hk).1),fun x hx=>⟨block_grown (L.has x hx).1 hg (fun e=>hne x hx _ e rfl),(L.has x hx).2⟩,L.dif⟩
structure Rows3 (base:Nat) (w:World) (vl:Value) (lb:List Lb) (vs:Value) (ps:List (St×Value)) (vn:Value) (ln:List (List UInt8)):Prop where
 l:w.ownsRow base 274 2 vl lb.length (lb.flatMap lbL)
 s:w.ownsRow base 209 6 vs ps.length (ps.flatMap fun p=>stL p.1 p.2)
 a:∀ p∈ps,w.ownsRow base 211 3 p.2 p.1.l.length (p.1.l.flatMap arL)
 n:w.ownsRow base 9 1 vn ln.length (ln.flatMap sL)
section
variable {base:Nat} {w w':World} {vl vs vn:Value} {lb:List Lb} {ps:List (St×Value)} {ln:List (List UInt8)}
theorem Rows3.below (h:Rows3 base w vl lb vs ps vn ln) (hb:Below w.heap.size w w'):Rows3 base w' vl lb vs ps vn ln:=⟨Af h.l hb,Af h.s hb,fun p hp=>Af (h.a p hp) hb,Af h.n hb⟩
theorem Rows3.but (h:Rows3 base w vl lb vs ps vn ln) {B:Nat} {cs:Array Value} (hB:HasBlock w B cs 209) (hn:But B w w') (hne:∀ k,vs.ownBlock=some k→k≠B):Rows3 base w' vl lb vs ps vn ln:=by
 refine ⟨Ai h.l hB (by decide) hn,?_,fun p hp=>Ai (h.a p hp) hB (by decide) hn,Ai h.n hB (by decide) hn⟩
 obtain⟨h1,h2⟩:=h.s
 refine ⟨h1,?_⟩
 rcases h2 with h2|⟨g,cap,cur,e1,e2,e3,e4⟩
 · exact .inl h2
 · exact .inr ⟨g,cap,cur,e1,e2,(hn.heap g (hne g (by rw[e1];rfl))).trans e3,e4⟩
theorem Rows3.butE (h:Rows3 base w vl lb vs ps vn ln) {B:Nat} {cs:Array Value} (hB:HasBlock w B cs 138) (hn:But B w w'):Rows3 base w' vl lb vs ps vn ln :=
 ⟨Ai h.l hB (by decide) hn,Ai h.s hB (by decide) hn,fun p hp=>Ai (h.a p hp) hB (by decide) hn,Ai h.n hB (by decide) hn⟩
theorem Rows3.labels (h:Rows3 base w vl lb vs ps vn ln) {vl':Value} {b:Lb} (hg:w.grownBy w' vl.ownBlock) (ho:w'.ownsRow base 274 2 vl' (lb.length+1) (lb.flatMap lbL++lbL b)):Rows3 base w' vl' (lb++[b]) vs ps vn ln :=
 ⟨by rw[lb_flat,List.length_append];exact ho,Cl h.s h.l (by decide) hg,fun p hp=>Cl (h.a p hp) h.l (by decide) hg,Cl h.n h.l (by decide) hg⟩
theorem Rows3.stmts (h:Rows3 base w vl lb vs ps vn ln) {vs':Value} {st:St} {va:Value} (hg:w.grownBy w' vs.ownBlock) (ha:w.ownsRow base 211 3 va st.l.length (st.l.flatMap arL))
    (ho:w'.ownsRow base 209 6 vs' (ps.length+1) ((ps.flatMap fun p=>stL p.1 p.2)++stL st va)):Rows3 base w' vl lb vs' (ps++[(st,va)]) vn ln :=
 ⟨Cl h.l h.s (by decide) hg,by rw[List.flatMap_append,List.length_append];simpa using ho,fun p hp=>by
   rcases List.mem_append.1 hp with hp|hp
   · exact Cl (h.a p hp) h.s (by decide) hg
   · rw[List.mem_singleton.1 hp];exact Cl ha h.s (by decide) hg,Cl h.n h.s (by decide) hg⟩
end
theorem RdS.of_own' {α:Type} {enc:α→List Value} {k n cn:Nat} {an:Option Addr} (hk:∀ x,(enc x).length=k) {w:World} {base:Nat} {e:TypeId} {xs:List α} (h:w.ownsRow base e k (.slice an n cn) xs.length (xs.flatMap enc)) (_hn:xs.length=n):RdS enc k w (.slice an n cn) xs:=RdS.of_owns hk h
theorem head_ne' {t:List UInt8} (h:F3 t=true):(t != [])=true:=by
 cases t with
 | nil=>cases h
 | cons c cs=>rfl
theorem info_st:(Tryz.prog.info? 209).map (fun i=>(i.zero,i.size,i.bytes))=some (some (.agg #[.string ⟨#[]⟩,.int .i64 0,.slice none 0 0,.int .i64 0,.int .i64 0,.int .i64 0]),6,72):=by kernel_rfl
theorem CN:(Tryz.prog.info? 138).map (·.size)=some 2:=by kernel_rfl
def seL:List Value:=[.int .i64 0,.int .i64 0]
theorem Gg {s:List UInt8} {ss:List (List UInt8)} {lb:List Lb} {sts:List St} {at_ line:Nat} {R:List Lb×List St} (h:DV (s :: ss) lb sts at_ line=some R) :
    ∃ lab st,GD s=some (lab,some st)∧(lab=[]∨Dq lb lab=none)∧at_+st.size≤1024 ∧
     DV ss (if lab.isEmpty=true then lb else lb++[⟨lab,4*at_⟩]) (sts++[{ st with line:=line+1,at_:=at_ }]) (at_+st.size) (line+1)=some R:=by
 rw[DV] at h
 cases hp:GD s with
 | none=>rw[hp] at h;cases h
 | some x =>
   obtain⟨lab,o⟩:=x
   rw[hp] at h
   dsimp only at h
   by_cases h1:lab.isEmpty=false∧(Dq lb lab).isSome=true
   · rw[if_pos h1] at h;cases h
   rw[if_neg h1] at h
   cases o with
   | none=>cases h
   | some st =>
     dsimp only at h
     by_cases h2:1024<at_+st.size
     · rw[if_pos h2] at h;cases h
     · rw[if_neg h2] at h
       refine ⟨lab,st,rfl,?_,by omega,h⟩
       cases lab with
       | nil=>exact .inl rfl
       | cons c cs =>
         refine .inr ?_
         cases ha:Dq lb (c :: cs) with
         | none=>rfl
         | some x=>exact absurd ⟨rfl,by rw[ha];rfl⟩ h1
theorem parse_word {s lab:List UInt8} {st:St} (h:GD s=some (lab,some st)):F3 st.w=true∧st.at_=0∧st.line=0∧1≤st.size∧st.size≤2:=by
 obtain⟨_,h⟩:=parse_is h
 have key:∀ {t:Tk} {rest:List Tk},CY (t :: rest)=some st→F3 st.w=true∧st.at_=0∧st.line=0∧1≤st.size∧st.size≤2:=fun hs=>by
  obtain⟨_,h2,_,p,ar,_,_,rfl⟩:=GN hs
  refine ⟨h2,rfl,rfl,?_,?_⟩ <;> dsimp only <;> split <;> omega
 cases h with
 | empty _ _ h3=>cases h3
 | plain t rest st' _ _ h3 _ h5=>cases h5;exact key h3
 | label a b _ _ _ _ _ h6=>cases h6
 | both a b t rest st' _ _ _ _ h5 _ h7=>cases h7;exact key h5
theorem read_any (src:List UInt8) (lb:List Lb) (sts:List St) (w:World) (hl:src.length≤8192) (hend:∀ c,src[src.length - 1]?=some c→c.toNat=10) (hln:(EF src []).length≤1000∧∀ s∈EF src [],s.length≤1000) (hR:DV (EF src []) [] [] 0 0=some (lb,sts)) :
    Calls Tryz.prog 108 #[.string (bsL src)] w (fun e w'=>∃ vl vs vn ps,e=.returned (.tuple #[vl,vs,.agg seL.toArray])∧ps.map (·.1)=sts∧Rows3 w.heap.size w' vl lb vs ps vn (EF src [])∧Below w.heap.size w w'):=by
 obtain⟨i0,hi,iz0,iz1,iz2⟩:=info_parts info_sym
 obtain⟨j0,hj,jz0,jz1,jz2⟩:=info_parts info_st
 have hsz:=BI src
 have HLN:=lh (fun w=>lines_any' src w hl hend)
 generalize EF src []=ln at *
 obtain⟨m,hm⟩:∃ m,src.length=m:=⟨_,rfl⟩
 rw[hm] at hsz hl
 clear hm hend
 obtain⟨n,hn⟩:∃ n,ln.length=n:=⟨_,rfl⟩
 have HLL:=lh hln.2
 have hn1:=hln.1
 rw[hn] at hn1
 have HN:=lh hn
 have HR:=lh hR
 clear hn hR hln
 have L:=Lay.start w
 go_in
 go_wp2_with (refine zal (ty:=138) L seL ?_;clear L;intro wz L)
 refine (HLN.out _).mono ?_
 rintro e w1 ⟨vn,rfl,hon,hb1⟩
 replace hon:=Ay (base':=w.heap.size) hon L.bel.size
 replace L:=L.below hb1
 clear hb1 HLN
 have RW0:Rows3 w.heap.size w1 (.slice none 0 0) [] (.slice none 0 0) [] vn ln:=⟨World.ownsRow_nil _ _ _ _,World.ownsRow_nil _ _ _ _,fun p hp=>(by cases hp),hon⟩
 obtain⟨an,cn,rfl,hrn⟩:=RdS.of_own sL_len hon
 rw[HN.out] at RW0 hrn ⊢
 clear hon hrn
 go_wp2_with fail
 go_loopw [5,6,7,9] (fun vl vs av i wr=>∃ (k at_:Nat) (lb':List Lb) (ps:List (St×Value)),k≤n∧i=.int .i64 k∧av=.int .i64 at_∧at_≤1024∧lb'.length≤k∧ps.length≤k∧DV (ln.drop k) lb' (ps.map (·.1)) at_ k=some (lb,sts)∧Rows3 w.heap.size wr vl lb' vs ps (.slice an n cn) ln∧Lay w wr [⟨w.heap.size,seL,138⟩]) (fun _ _ _ i _=>n - (intOf i).toNat)
 case atStart=>exact⟨0,0,[],[],Nat.zero_le _,rfl,rfl,Nat.zero_le _,nlr _,nlr _,HR.out,RW0,L⟩
 case round =>
  obtain⟨k,at_,lb',ps,hk,rfl,rfl,hat,hlb,hps,hgo,RW,L⟩:=hrel
  clear RW0
  by_cases hlt:k<n
  · obtain⟨s,hs⟩:=A6 (xs:=ln) (k:=k) (by rw[HN.out];exact hlt)
    have e1:ln.drop k=s :: ln.drop (k+1):=by
     rw[List.drop_eq_getElem_cons (AJ hs)];congr 1
     rw[List.getElem?_eq_getElem (AJ hs)] at hs;exact Option.some.inj hs
    rw[e1] at hgo
    clear e1
    obtain⟨lab,st,hps',hlab,hat2,hgo'⟩:=Gg hgo
    obtain⟨hw1,hat0,hline0,hsz1,hsz2⟩:=parse_word hps'
    have HW:=lh (head_ne' hw1)
    have HP:=lh (fun w=>parsed_any s lab (some st) w hps' (HLL.out s (List.mem_of_getElem? hs)))
    have HG:=lh hgo'
    obtain⟨hxx,b,off,rfl,hbl,_,_,hcell⟩:=(RdS.of_own' sL_len RW.n HN.out).at (by omega)
    have HC:=lh (show wr.cell? ⟨b,off+k,none⟩=some (.string (bsL s)) by have:=hcell k s hs 0 _ rfl;simpa using this)
    clear hxx hcell hs hgo hgo' hps'
    have hL6:∀ (s:St) (v:Value),(stL s v).length=6:=fun _ _=>rfl
    have he4:IntKind.u32.wrap (4*(at_:Int))=((4*at_:Nat):Int):=by rw[IntKind.wrap_u32];omega
    cases hlb0:lab with
    | nil =>
      subst hlb0
      rw[if_pos (by rfl)] at HG
      have HQ:=lh (show (([]:List UInt8) != [])=false from rfl)
      go_wp2_with (first|(refine Ad rfl (Au (ty:=9) (u:=.string (bsL s)) rfl rfl τ9 rfl HC.out) ?_)|(go_at_call 179;(with_reducible refine (HP.out _).mono ?_);rintro e wz ⟨va,rfl,hna,hbz⟩;replace hna:=Ay (base':=w.heap.size) hna L.bel.size;replace L:=L.below hbz;replace RW:=RW.below hbz;clear hbz;obtain⟨aa,ca,rfl,hra⟩:=RdS.of_own Dp hna;clear hra)|(refine AF (ty:=209) L ([.string ⟨#[]⟩,.int .i64 0,.slice none 0 0,.int .i64 0,.int .i64 0,.int .i64 0]) (.agg (List.toArray ([.string ⟨#[]⟩,.int .i64 0,.slice none 0 0,.int .i64 0,.int .i64 0,.int .i64 0]))) rfl rfl (by kernel_rfl) rfl ?_;intro wq Lz Nz;have hne:∀ k,Value.ownBlock u6=some k→k≠wz.heap.size:=(fun k hk e=>absurd (RW.s.lt k hk).2 (by rw[e];exact Nat.lt_irrefl _));replace RW:=RW.below Nz.bel;replace hna:=Af hna Nz.bel;clear Nz;replace L:=Lz;clear Lz)|(refine Ag (ty:=209) L 0 rfl (stL st (.slice aa ((some st).getD st0).l.length ca)) (stL st (.slice aa ((some st).getD st0).l.length ca)) rfl rfl rfl rfl Az (BB _ _ rfl) rfl rfl ?_;intro wq Lz Nz;replace RW:=RW.but (L.at (k:=0) rfl) Nz hne;replace hna:=Ai hna (L.at (k:=0) rfl) (by decide) Nz;clear Nz;replace L:=Lz;clear Lz;(try simp only[s0,s1] at L))|(refine Ad rfl (Ex (B:=[]) rfl rfl rfl HQ.out) ?_)|(refine Ad rfl (Ex (B:=[]) rfl rfl rfl HW.out) ?_)|(refine Aq (ty:=3) (u:=.int .i64 ((k+1:Nat):Int)) L 0 rfl (stL { st with line:=k+1 } (.slice aa ((some st).getD st0).l.length ca)) rfl rfl rfl rfl AW rfl rfl rfl ?_;intro wq Lz Nz;replace RW:=RW.but (L.at (k:=0) rfl) Nz hne;replace hna:=Ai hna (L.at (k:=0) rfl) (by decide) Nz;clear Nz;replace L:=Lz;clear Lz;(try simp only[s0,s1] at L))|(refine Aq (ty:=3) (u:=.int .i64 at_) L 0 rfl (stL { st with line:=k+1,at_:=at_ } (.slice aa ((some st).getD st0).l.length ca)) rfl rfl rfl rfl AW rfl rfl rfl ?_;intro wq Lz Nz;replace RW:=RW.but (L.at (k:=0) rfl) Nz hne;replace hna:=Ai hna (L.at (k:=0) rfl) (by decide) Nz;clear Nz;replace L:=Lz;clear Lz;(try simp only[s0,s1] at L))|(refine AQ (ty:=209) L 0 rfl (stL { st with line:=k+1,at_:=at_ } (.slice aa ((some st).getD st0).l.length ca)) rfl rfl rfl τ209 rfl Az rfl ?_)|(at_builtin;refine wpList_append_own _ rfl (.tmp 69) (.tmp 71) 204 rfl w.heap.size 209 j0 (.agg #[.string ⟨#[]⟩,.int .i64 0,.slice none 0 0,.int .i64 0,.int .i64 0,.int .i64 0]) 6 72 τ204 hj jz0 jz1 jz2 rfl (by decide) _ ps.length (ps.flatMap fun p=>stL p.1 p.2) rfl (World.ownsRow.alloc RW.s _) ⟨wq.heap.size,0,none⟩ 1 1 (stL { st with line:=k+1,at_:=at_ } (.slice aa ((some st).getD st0).l.length ca)) rfl rfl (A8 _ (stL { st with line:=k+1,at_:=at_ } (.slice aa ((some st).getD st0).l.length ca)) _ _ rfl) (BB _ _ rfl) (by unfold maxLen;omega) (by omega) (by rw[World.size_alloc];have:=L.bel.size;omega) ?_;intro v4 w4 hown4 hgrow4 _;have hal:=(Below.refl wq.heap.size wq).alloc (nlr _) (.cells (stL { st with line:=k+1,at_:=at_ } (.slice aa ((some st).getD st0).l.length ca)).toArray 209);have RWa:=RW.below hal;have La:=L.below hal;have hnb:=Af hna hal;replace L:=La.grown RWa.s (nlr _) hgrow4 (fun x hx=>(by simp only[List.mem_cons,List.not_mem_nil,or_false] at hx;rcases hx with rfl|rfl;exact hne;exact Ce RWa.s (La.at (k:=1) rfl) (by decide)));replace RW:=RWa.stmts (st:={ st with line:=k+1,at_:=at_ }) (va:=(.slice aa ((some st).getD st0).l.length ca)) hgrow4 hnb hown4;clear hal RWa La hown4 hgrow4 hnb)|(refine YL ?_))
      go_roundw
      case rel=>exact⟨k+1,at_+st.size,lb',ps++[({ st with line:=k+1,at_:=at_ },(.slice aa ((some st).getD st0).l.length ca))],by omega,by go_num,by go_num,hat2,(by omega),by rw[List.length_append];show ps.length+1≤k+1;omega,by rw[List.map_append];exact HG.out,RW,L.drop1⟩
      case measure=>simp [intOf];omega
    | cons c0 cs0 =>
      have hlab':=hlab.resolve_left (by rw[hlb0];intro e;cases e)
      have HQ:=lh (show (lab != [])=true by rw[hlb0];rfl)
      rw[if_neg (by rw[hlb0];simp)] at HG
      clear hlb0 hlab
      have HAD:=lh hlab'
      clear hlab'
      go_wp2_with (first|(refine Ad rfl (Au (ty:=9) (u:=.string (bsL s)) rfl rfl τ9 rfl HC.out) ?_)|(go_at_call 179;(with_reducible refine (HP.out _).mono ?_);rintro e wz ⟨va,rfl,hna,hbz⟩;replace hna:=Ay (base':=w.heap.size) hna L.bel.size;replace L:=L.below hbz;replace RW:=RW.below hbz;clear hbz;obtain⟨aa,ca,rfl,hra⟩:=RdS.of_own Dp hna;clear hra)|(refine AF (ty:=209) L ([.string ⟨#[]⟩,.int .i64 0,.slice none 0 0,.int .i64 0,.int .i64 0,.int .i64 0]) (.agg (List.toArray ([.string ⟨#[]⟩,.int .i64 0,.slice none 0 0,.int .i64 0,.int .i64 0,.int .i64 0]))) rfl rfl (by kernel_rfl) rfl ?_;intro wq Lz Nz;have hne:∀ k,Value.ownBlock u6=some k→k≠wz.heap.size:=(fun k hk e=>absurd (RW.s.lt k hk).2 (by rw[e];exact Nat.lt_irrefl _));replace RW:=RW.below Nz.bel;replace hna:=Af hna Nz.bel;clear Nz;replace L:=Lz;clear Lz)|(refine Ag (ty:=209) L 0 rfl (stL st (.slice aa ((some st).getD st0).l.length ca)) (stL st (.slice aa ((some st).getD st0).l.length ca)) rfl rfl rfl rfl Az (BB _ _ rfl) rfl rfl ?_;intro wq Lz Nz;replace RW:=RW.but (L.at (k:=0) rfl) Nz hne;replace hna:=Ai hna (L.at (k:=0) rfl) (by decide) Nz;clear Nz;replace L:=Lz;clear Lz;(try simp only[s0,s1] at L))|(refine Ad rfl (Ex (B:=[]) rfl rfl rfl HQ.out) ?_)|(refine Ad rfl (Ex (B:=[]) rfl rfl rfl HW.out) ?_)|(refine Aq (ty:=3) (u:=.int .i64 ((k+1:Nat):Int)) L 0 rfl (stL { st with line:=k+1 } (.slice aa ((some st).getD st0).l.length ca)) rfl rfl rfl rfl AW rfl rfl rfl ?_;intro wq Lz Nz;replace RW:=RW.but (L.at (k:=0) rfl) Nz hne;replace hna:=Ai hna (L.at (k:=0) rfl) (by decide) Nz;clear Nz;replace L:=Lz;clear Lz;(try simp only[s0,s1] at L))|(refine Aq (ty:=3) (u:=.int .i64 at_) L 0 rfl (stL { st with line:=k+1,at_:=at_ } (.slice aa ((some st).getD st0).l.length ca)) rfl rfl rfl rfl AW rfl rfl rfl ?_;intro wq Lz Nz;replace RW:=RW.but (L.at (k:=0) rfl) Nz hne;replace hna:=Ai hna (L.at (k:=0) rfl) (by decide) Nz;clear Nz;replace L:=Lz;clear Lz;(try simp only[s0,s1] at L))|(refine AQ (ty:=209) L 0 rfl (stL { st with line:=k+1,at_:=at_ } (.slice aa ((some st).getD st0).l.length ca)) rfl rfl rfl τ209 rfl Az rfl ?_)|(at_builtin;refine wpList_append_own _ rfl (.tmp 69) (.tmp 71) 204 rfl w.heap.size 209 j0 (.agg #[.string ⟨#[]⟩,.int .i64 0,.slice none 0 0,.int .i64 0,.int .i64 0,.int .i64 0]) 6 72 τ204 hj jz0 jz1 jz2 rfl (by decide) _ ps.length (ps.flatMap fun p=>stL p.1 p.2) rfl (World.ownsRow.alloc RW.s _) ⟨wq.heap.size,0,none⟩ 1 1 (stL { st with line:=k+1,at_:=at_ } (.slice aa ((some st).getD st0).l.length ca)) rfl rfl (A8 _ (stL { st with line:=k+1,at_:=at_ } (.slice aa ((some st).getD st0).l.length ca)) _ _ rfl) (BB _ _ rfl) (by unfold maxLen;omega) (by omega) (by rw[World.size_alloc];have:=L.bel.size;omega) ?_;intro v4 w4 hown4 hgrow4 _;have hal:=(Below.refl wq.heap.size wq).alloc (nlr _) (.cells (stL { st with line:=k+1,at_:=at_ } (.slice aa ((some st).getD st0).l.length ca)).toArray 209);have RWa:=RW.below hal;have La:=L.below hal;have hnb:=Af hna hal;replace L:=La.grown RWa.s (nlr _) hgrow4 (fun x hx=>(by simp only[List.mem_cons,List.not_mem_nil,or_false] at hx;rcases hx with rfl|rfl;exact hne;exact Ce RWa.s (La.at (k:=1) rfl) (by decide)));replace RW:=RWa.stmts (st:={ st with line:=k+1,at_:=at_ }) (va:=(.slice aa ((some st).getD st0).l.length ca)) hgrow4 hnb hown4;clear hal RWa La hown4 hgrow4 hnb)|(go_at_call 109;(with_reducible refine (Jt lb' lab _ _ (RdS.of_owns lbL_len RW.l) (by omega)).mono ?_);rw[HAD.out,show adrV none=.tuple #[.int .u32 0,.bool false] from rfl];rintro e wz ⟨rfl,rfl⟩)|(at_builtin;refine wpList_append_own _ rfl (.tmp 53) (.tmp 59) 203 rfl w.heap.size 274 i0 (.agg #[.string ⟨#[]⟩,.int .u32 0]) 2 24 τ203 hi iz0 iz1 iz2 rfl (by decide) _ lb'.length (lb'.flatMap lbL) rfl (World.ownsRow.alloc RW.l _) ⟨wq.heap.size,0,none⟩ 1 1 (lbL ⟨lab,4*at_⟩) rfl rfl (A8 _ (lbL ⟨lab,4*at_⟩) _ _ rfl) (lbL_one _) (by unfold maxLen;omega) (by omega) (by rw[World.size_alloc];have:=L.bel.size;omega) ?_;intro v3 w3 hown3 hgrow3 _;have hal:=(Below.refl wq.heap.size wq).alloc (nlr _) (.cells (lbL ⟨lab,4*at_⟩).toArray 274);have RWa:=RW.below hal;have La:=L.below hal;replace hna:=Cl (Af hna hal) RWa.l (by decide) hgrow3;replace L:=La.grown RWa.l (nlr _) hgrow3 (fun x hx=>Ce RWa.l (La.has x hx).1 (by simp only[List.mem_cons,List.not_mem_nil,or_false] at hx;rcases hx with rfl|rfl <;> (dsimp only;decide)));replace RW:=RWa.labels hgrow3 hown3;clear hal RWa La hown3 hgrow3)|(refine YL ?_))
      go_roundw
      case rel=>exact⟨k+1,at_+st.size,(lb'++[⟨lab,4*at_⟩]),ps++[({ st with line:=k+1,at_:=at_ },(.slice aa ((some st).getD st0).l.length ca))],by omega,by go_num,by go_num,hat2,(by rw[List.length_append];show lb'.length+1≤k+1;omega),by rw[List.length_append];show ps.length+1≤k+1;omega,by rw[List.map_append];exact HG.out,RW,L.drop1⟩
      case measure=>simp [intOf];omega
  · obtain rfl:k=n:=by omega
    rw[List.drop_eq_nil_of_le (by rw[HN.out];exact nlr _)] at hgo
    have hgo2:(lb',ps.map (·.1))=(lb,sts):=by
     have:some (lb',ps.map (·.1))=some (lb,sts):=hgo
     exact Option.some.inj this
    injection hgo2 with hg1 hg2
    have HG1:=lh hg1
    have HG2:=lh hg2
    clear hgo hg1 hg2
    go_wp2_with (refine Ag (ty:=138) L 0 rfl seL seL rfl rfl rfl rfl CN (by decide) rfl rfl ?_;intro wq Lz Nz;have RW2:=RW.butE (L.at (k:=0) rfl) Nz;clear Nz;replace L:=Lz;clear Lz)
    go_simp
    have hl1:=AU L 0 rfl seL rfl τ138 rfl CN
    obtain⟨xl,yl,rfl,_⟩:=RdS.of_own lbL_len RW2.l
    obtain⟨xs,ys,rfl,_⟩:=RdS.of_own (enc:=fun p:St×Value=>stL p.1 p.2) (fun p=>rfl) RW2.s
    refine bodyPost_ret (v:=.tuple #[.slice xl lb'.length yl,.slice xs ps.length ys,.agg seL.toArray]) (by simp [results,Tryz.results108,asAddr,hl1] <;> rfl) rfl ?_
    rw[←HG1.out,←HG2.out]
    exact⟨_,_,rfl,_,ps,rfl,RW2,L.bel⟩
theorem asm_step {lb:List Lb} {st:St} {l:List St} {r:List Int} (h:asmGo lb (st :: l)=some r):∃ v ws r',lastV lb st=some v∧GG st v=some ws∧asmGo lb l=some r'∧r=ws++r':=by
 rw[asmGo] at h
 cases hv:lastV lb st with
 | none=>rw[hv] at h;cases h
 | some v =>
   rw[hv] at h
   dsimp only at h
   cases hw:GG st v with
   | none=>rw[hw] at h;cases h
   | some ws =>
     rw[hw] at h
     dsimp only at h
     cases hg:asmGo lb l with
     | none=>rw[hg] at h;cases h
     | some r'=>rw[hg] at h;exact⟨v,ws,r',rfl,hw,rfl,(Option.some.inj h).symm⟩
inductive LastIs (lb:List Lb) (st:St) (v:Int):Prop
 | none:st.l=[]→v=0→LastIs lb st v
 | num (m:Nat) (a:Ar):st.l.length=m+1→st.l[m]?=some a→a.lab=[]→v=a.num→LastIs lb st v
 | lab (m:Nat) (a:Ar) (x:Nat):st.l.length=m+1→st.l[m]?=some a→(a.lab != [])=true→Dq lb a.lab=some x→v=(if 0<st.op then (x:Int) / 4 - st.at_ else x)→LastIs lb st v
theorem last_is {lb:List Lb} {st:St} {v:Int} (h:lastV lb st=some v):LastIs lb st v:=by
 unfold lastV at h
 cases hl:st.l with
 | nil =>
   rw[hl] at h
   have h:some (0:Int)=some v:=h
   exact .none hl (Option.some.inj h).symm
 | cons y ys =>
   have hlen:st.l.length=ys.length+1:=by rw[hl];rfl
   have hlast:st.l.getLast?=st.l[ys.length]?:=by rw[List.getLast?_eq_getElem?,hlen];rfl
   rw[hlast] at h
   obtain⟨a,ha⟩:=A6 (xs:=st.l) (k:=ys.length) (by omega)
   rw[ha] at h
   dsimp only at h
   by_cases he:a.lab.isEmpty=true
   · rw[if_pos he] at h
     exact .num ys.length a hlen ha (List.isEmpty_iff.1 he) (Option.some.inj h).symm
   · rw[if_neg he] at h
     cases hx:Dq lb a.lab with
     | none=>rw[hx] at h;cases h
     | some x =>
       rw[hx] at h
       refine .lab ys.length a x hlen ha ?_ hx (Option.some.inj h).symm
       cases hb:a.lab with
       | nil=>rw[hb] at he;exact absurd rfl he
       | cons c cs=>rfl
theorem words_is {st:St} {v:Int} {ws:List Int} (h:GG st v=some ws) :
    (st.w=[108,105]∧0<st.l.length∧0≤EU st.l 0∧EU st.l 0≤15∧ws=[24*16777216+EU st.l 0*1048576+u32 v / 65536,18*16777216+EU st.l 0*1048576+EU st.l 0*65536+u32 v % 65536]) ∨
    (st.w≠[108,105]∧st.w≠[109,118]∧st.w≠[110,111,112]∧okI (Bz st v)=true∧needA st≤st.l.length∧ws=[Dr (Bz st v)]):=by
 unfold GG at h
 by_cases h1:st.w=[108,105]
 · rw[if_pos h1] at h
   by_cases h2:st.l.length=0∨15<EU st.l 0
   · rw[if_pos h2] at h;cases h
   · rw[if_neg h2] at h
     refine .inl ⟨h1,by omega,?_,by omega,(Option.some.inj h).symm⟩
     unfold EU;split <;> omega
 · rw[if_neg h1] at h
   by_cases h2:st.w=[109,118]∨st.w=[110,111,112]
   · rw[if_pos h2] at h;cases h
   · rw[if_neg h2] at h
     by_cases h3:okI (Bz st v)=true∧needA st≤st.l.length
     · rw[if_pos h3] at h
       exact .inr ⟨h1,fun e=>h2 (.inl e),fun e=>h2 (.inr e),h3.1,h3.2,(Option.some.inj h).symm⟩
     · rw[if_neg h3] at h;cases h
theorem read_small':∀ {ls:List (List UInt8)} {lb:List Lb} {sts:List St} {at_ line:Nat} {R:List Lb×List St},DV ls lb sts at_ line=some R→(∀ b∈lb,b.a≤4096)→(∀ s∈sts,s.at_≤1024)→at_≤1024 →
    (∀ b∈R.1,b.a≤4096)∧R.1.length≤lb.length+ls.length∧∀ s∈R.2,s.at_≤1024
 | [],lb,sts,at_,line,R,h,h1,h2,_=>by
   have h:some (lb,sts)=some R:=h
   cases h
   exact⟨h1,nlr _,h2⟩
 | s :: ss,lb,sts,at_,line,R,h,h1,h2,h3=>by
   obtain⟨lab,st,_,_,h4,h5⟩:=Gg h
   have key:=read_small' h5 (fun b hb=>by
    split at hb
    · exact h1 b hb
    · rcases List.mem_append.1 hb with hb|hb
      · exact h1 b hb
      · rw[List.mem_singleton.1 hb];show 4*at_≤4096;omega) (fun s hs=>by
    rcases List.mem_append.1 hs with hs|hs
    · exact h2 s hs
    · rw[List.mem_singleton.1 hs];exact h3) h4
   refine ⟨key.1,Nat.le_trans key.2.1 ?_,key.2.2⟩
   rw[List.length_cons]
   split
   · omega
   · rw[List.length_append];show lb.length+1+ss.length≤_;omega
theorem read_small {ls:List (List UInt8)} {lb:List Lb} {sts:List St} (hl:ls.length≤1000) (h:DV ls [] [] 0 0=some (lb,sts)):(∀ b∈lb,b.a≤4096)∧lb.length≤10000∧∀ s∈sts,s.at_≤1024:=by
 obtain⟨h1,h2,h3⟩:=read_small' h (fun b hb=>by cases hb) (fun s hs=>by cases hs) (Nat.zero_le _)
 refine ⟨h1,?_,h3⟩
 have h2:lb.length≤0+ls.length:=h2
 omega
theorem addr_small:∀ {lb:List Lb} {t:List UInt8} {x:Nat},(∀ b∈lb,b.a≤4096)→Dq lb t=some x→x≤4096
 | [],_,_,_,h=>by cases h
 | b :: lb,t,x,hs,h=>by
   rw[Dq] at h
   split at h
   · cases h;exact hs b (List.mem_cons_self ..)
   · exact addr_small (fun b hb=>hs b (List.mem_cons_of_mem _ hb)) h
theorem read_count:∀ {ls:List (List UInt8)} {lb:List Lb} {sts:List St} {at_ line:Nat} {R:List Lb×List St},DV ls lb sts at_ line=some R→R.2.length≤sts.length+ls.length
 | [],lb,sts,at_,line,R,h=>by
   have h:some (lb,sts)=some R:=h
   cases h
   exact nlr _
 | s :: ss,lb,sts,at_,line,R,h=>by
   obtain⟨lab,st,hp,_,h4,h5⟩:=Gg h
   have:=read_count h5
   rw[List.length_append] at this
   rw[List.length_cons]
   have e:[({ st with line:=line+1,at_:=at_ }:St)].length=1:=rfl
   omega
theorem read_heads:∀ {ls:List (List UInt8)} {lb:List Lb} {sts:List St} {at_ line:Nat} {R:List Lb×List St},DV ls lb sts at_ line=some R→(∀ s∈sts,F3 s.w=true)→∀ s∈R.2,F3 s.w=true
 | [],lb,sts,at_,line,R,h,h2=>by
   have h:some (lb,sts)=some R:=h
   cases h
   exact h2
 | s :: ss,lb,sts,at_,line,R,h,h2=>by
   obtain⟨lab,st,hp,_,h4,h5⟩:=Gg h
   exact read_heads h5 (fun s hs=>by
    rcases List.mem_append.1 hs with hs|hs
    · exact h2 s hs
    · rw[List.mem_singleton.1 hs];exact (parse_word hp).1)
theorem one_u32 (x:Int):∀ u∈[Value.int .u32 x],u.oneCell'=true:=fun u hu=>by rw[List.mem_singleton.1 hu];rfl
theorem two_u32 (x y:Int):∀ u∈[Value.int .u32 x,Value.int .u32 y],u.oneCell'=true:=fun u hu=>by
 simp only[List.mem_cons,List.not_mem_nil,or_false] at hu
 rcases hu with rfl|rfl <;> rfl
theorem E6 {w:World} {base n:Nat} {e:TypeId} {v:Value} {xs:List Value} (h:w.ownsRow base e 1 v n xs):∃ ao cap,v=.slice ao n cap:=by
 obtain⟨hl,h⟩:=h
 rcases h with ⟨rfl,h0⟩|⟨g,cap,cur,rfl,_⟩
 · have:n=0:=by first|omega|(rw[h0] at hl;simpa using hl.symm)
   subst this
   exact⟨none,0,rfl⟩
 · exact⟨_,cap,rfl⟩
theorem Hp (xs ys:List Int):words (xs++ys)=words xs++words ys:=by unfold words;rw[List.map_append]
theorem BN {P:Program} {op:Oper} {a:Act} {ty:TypeId} {x:Operand} {d:TypeDesc} {B o:Nat} {C:World→Prop} {K:Act→Prop} {u:Value} (hc:∀ w,C w→w.cell? ⟨B,o,none⟩=some u) (ho:op.op=.load ty x) (hx:a.eval x=.pointer (some ⟨B,o,none⟩)) (hu:P.underlying ty=some d) (hd:d.isRow=false) (h:K (a.put op.dst u)):op.quiet P a C K :=
 ⟨_,fun w' hw=>by
   unfold Oper.quietAt
   rw[Au ho hx hu hd (hc w' hw)]
   exact⟨rfl,rfl⟩,h⟩
theorem CC:(Tryz.prog.info? 211).map (·.size)=some 3:=by kernel_rfl
theorem info_u32:(Tryz.prog.info? 25).map (fun i=>(i.zero,i.size,i.bytes))=some (some (.int .u32 0),1,4):=by kernel_rfl
def arZ:List Value:=[.int .i64 0,.int .i64 0,.string ⟨#[]⟩]
theorem asm_any (src:List UInt8) (ws:List Int) (w:World) (hl:src.length≤8192) (hend:∀ c,src[src.length - 1]?=some c→c.toNat=10) (hln:(EF src []).length≤1000∧∀ s∈EF src [],s.length≤1000) (hR:asmI src=some ws) :
    Calls Tryz.prog 53 #[.string (bsL src)] w (fun e w'=>∃ v,e=.returned (.tuple #[v,.agg seL.toArray])∧w'.ownsRow w.heap.size 25 1 v ws.length (words ws)∧Below w.heap.size w w'):=by
 obtain⟨i0,hi,iz0,iz1,iz2⟩:=info_parts info_u32
 unfold asmI at hR
 cases hrd:DV (EF src []) [] [] 0 0 with
 | none=>rw[hrd] at hR;cases hR
 | some x =>
   obtain⟨lb,sts⟩:=x
   rw[hrd] at hR
   dsimp only at hR
   have HSM:=lh (read_small hln.1 hrd)
   have hcnt:sts.length≤1000:=by
    have h1:sts.length≤0+(EF src []).length:=read_count hrd
    have h2:=hln.1
    omega
   have HHD:=lh (read_heads hrd (fun s hs=>by cases hs))
   have HRD:=lh (fun w=>read_any src lb sts w hl hend hln hrd)
   generalize EF src []=ln at *
   have HR:=lh hR
   clear hR hrd hln hend hl
   have L:=Lay.start w
   go_in
   go_wp2_with (refine zal (ty:=138) L seL ?_;clear L;intro wz L)
   refine (HRD.out _).mono ?_
   rintro e W ⟨vl,vs,vn,ps,rfl,hps,RW,hb1⟩
   have L0:=L.below hb1
   clear hb1 HRD L
   obtain⟨xl,yl,rfl,hrl⟩:=RdS.of_own lbL_len RW.l
   obtain⟨xs,ys,rfl,hrs⟩:=RdS.of_own (enc:=fun p:St×Value=>stL p.1 p.2) (fun p=>rfl) RW.s
   have HRL:=lh hrl
   have HRS:=lh hrs
   have HAR:=lh RW.a
   have HPS:=lh hps
   obtain⟨n,hn⟩:∃ n,ps.length=n:=⟨_,rfl⟩
   rw[hn] at HRS ⊢
   have HN:=lh hn
   have hn1:n≤1000:=by
    have h1:(ps.map (·.1)).length=ps.length:=List.length_map _
    rw[hps] at h1
    omega
   clear hrl hrs RW hps hn hcnt
   have L:=Lay.start W
   go_wp2_with (first|(refine YL ?_)|((first|refine zal (ty:=138) L seL ?_|refine YS ?_);clear L;intro wz L))
   have L0w:=lh L0
   go_loopw [7,8] (fun v i wr=>∃ (k:Nat) (acc rest:List Int),k≤n∧i=.int .i64 k∧asmGo lb ((ps.drop k).map (·.1))=some rest∧acc++rest=ws∧acc.length≤2*k∧wr.ownsRow W.heap.size 25 1 v acc.length (words acc)∧Below W.heap.size W wr) (fun _ i _=>n - (intOf i).toNat)
   case atStart=>exact⟨0,[],ws,Nat.zero_le _,rfl,by rw[List.drop_zero,HPS.out];exact HR.out,rfl,Nat.zero_le _,World.ownsRow_nil _ _ _ _,L.bel⟩
   case round =>
    obtain⟨k,acc,rest,hk,rfl,hgo,hacc,hal,hown,hbw⟩:=hrel
    clear L
    have HO:=lh hown
    clear hown
    by_cases hlt:k<n
    · obtain⟨⟨st,va⟩,hp⟩:=A6 (xs:=ps) (k:=k) (by rw[HN.out];exact hlt)
      have e1:ps.drop k=(st,va) :: ps.drop (k+1):=by
       rw[List.drop_eq_getElem_cons (AJ hp)];congr 1
       rw[List.getElem?_eq_getElem (AJ hp)] at hp;exact Option.some.inj hp
      rw[e1] at hgo
      clear e1
      obtain⟨V,wsv,r',hlast,hwords,hgo',hrr⟩:=asm_step hgo
      have hres:(acc++wsv)++r'=ws:=by rw[List.append_assoc,←hrr];exact hacc
      have hlast:=last_is hlast
      have hwords:=words_is hwords
      have HST:=lh (show st∈sts by rw[←HPS.out];exact List.mem_map.2 ⟨_,List.mem_of_getElem? hp,rfl⟩)
      have HG:=lh hgo'
      have HRES:=lh hres
      have hav:=HAR.out _ (List.mem_of_getElem? hp)
      obtain⟨aa,ca,hva,hra⟩:=RdS.of_own Dp hav
      dsimp only at hva hra
      subst hva
      obtain⟨hxx,b,off,rfl,hbl,hc1,hc2,hcell⟩:=HRS.out.at (by omega)
      unfold maxLen at hc2
      have HPT:=lh (fun (j:Nat) (u:Value) (hu:(stL st (.slice aa st.l.length ca))[j]?=some u)=>(hbw.cell (p:=⟨b,off+k*6+j,none⟩) hbl).trans (hcell k _ hp j u hu))
      have HRA:=lh hra
      have hbs0:=hbw.size
      clear hgo hgo' hres hrr hacc hav hra hxx hcell hp
      obtain⟨q,hq⟩:∃ q,st.l.length=q:=⟨_,rfl⟩
      rw[hq] at HPT HRA
      have HQ:=lh hq
      have HLV:=lh hlast
      have HWD:=lh hwords
      clear hq hlast hwords
      have L:=Lay.start wr
      go_upto_if 48 with (first|(refine CD (ty:=209) (stL st (.slice aa q ca)) rfl rfl rfl τ209 rfl Az HPT.out ?_)|(refine YL ?_)|((first|refine zal (ty:=209) L ([.string ⟨#[]⟩,.int .i64 0,.slice none 0 0,.int .i64 0,.int .i64 0,.int .i64 0]) ?_|refine YS ?_);clear L;intro wz L))
      go_cut [10,11,12,13] from 45 to 84 (fun v _ _ _ wq=>v=.int .i64 V∧Lay wr wq [⟨wr.heap.size,stL st (.slice aa q ca),209⟩])
      case first =>
       cases HLV.out with
       | none h1 h2 =>
         subst h2
         have hq:q=0:=by rw[←HQ.out,h1];rfl
         clear h1
         subst hq
         go_wp2_with fail
         go_meet
         exact⟨rfl,L⟩
       | num m a h1 h2 h3 h4 =>
         subst h4
         have hq:q=m+1:=by rw[←HQ.out,h1]
         clear h1
         subst hq
         obtain⟨hxx,b2,off2,rfl,hbl2,hcc1,hcc2,hcell2⟩:=HRA.out.at (Nat.succ_pos _)
         unfold maxLen at hcc2
         have HP2:=lh (fun (j:Nat) (u:Value) (hu:(arL a)[j]?=some u)=>((hbw.trans (L.bel.mono hbw.size)).cell (p:=⟨b2,off2+m*3+j,none⟩) hbl2).trans (hcell2 m a h2 j u hu))
         have HQ3:=lh (show (a.lab != [])=false by rw[h3];rfl)
         clear hxx hcell2 h2 h3
         go_wp2_with (first|(refine CD (ty:=211) (arL a) rfl rfl rfl τ211 rfl CC HP2.out ?_)|(refine Ad rfl (Ex (B:=[]) rfl rfl rfl HQ3.out) ?_)|(refine YL ?_)|((first|refine zal (ty:=211) L arZ ?_|refine YS ?_);clear L;intro wz L))
         go_meet
         exact⟨rfl,L.drop1⟩
       | lab m a x h1 h2 h3 h4 h5 =>
         have hq:q=m+1:=by rw[←HQ.out,h1]
         clear h1
         subst hq
         obtain⟨hxx,b2,off2,rfl,hbl2,hcc1,hcc2,hcell2⟩:=HRA.out.at (Nat.succ_pos _)
         unfold maxLen at hcc2
         have HP2:=lh (fun (j:Nat) (u:Value) (hu:(arL a)[j]?=some u)=>((hbw.trans (L.bel.mono hbw.size)).cell (p:=⟨b2,off2+m*3+j,none⟩) hbl2).trans (hcell2 m a h2 j u hu))
         have HQ3:=lh h3
         have HAD:=lh (fun w h=>Jt lb a.lab (.slice xl lb.length yl) w h HSM.out.2.1)
         rw[h4] at HAD
         have hx:x≤4096:=addr_small HSM.out.1 h4
         have hat:st.at_≤1024:=HSM.out.2.2 st HST.out
         clear hxx hcell2 h2 h3 h4
         by_cases hop:0<st.op
         rw[if_pos hop] at h5
         subst h5
         have hop':(0:Int)<st.op:=by omega
         rotate_left
         rw[if_neg hop] at h5
         subst h5
         have hop':¬(0:Int)<st.op:=by omega
         rotate_left
         all_goals
          go_wp2_with (first|(refine CD (ty:=211) (arL a) rfl rfl rfl τ211 rfl CC HP2.out ?_)|(refine Ad rfl (Ex (B:=[]) rfl rfl rfl HQ3.out) ?_)|(go_at_call 109;(with_reducible refine (HAD.out _ (HRL.out.below (hbw.trans (L.bel.mono hbw.size)))).mono ?_);rw[show adrV (some x)=.tuple #[.int .u32 x,.bool true] from rfl];rintro e wz ⟨rfl,rfl⟩)|(refine YL ?_)|((first|refine zal (ty:=211) L arZ ?_|refine YS ?_);clear L;intro wz L))
          go_meet
          exact⟨by first|rfl|simp,L.drop1⟩
      case rest =>
       obtain⟨rfl,L⟩:=hcut
       have hhd:=HHD.out st HST.out
       have HWO:=lh (CA (cs:=[119,111,114,100]) hhd (c:=46) (by decide))
       have HSP:=lh (CA (cs:=[115,112,97,99,101]) hhd (c:=46) (by decide))
       clear hhd
       rcases HWD.out with ⟨w1,w2,w3,w4,w5⟩|⟨w1,w2,w3,w4,w5,w6⟩
       · have HLI:=lh (show (st.w == [108,105])=true by rw[w1];rfl)
         have hq0:0<q:=by rw[←HQ.out];exact w2
         obtain⟨a,ha0⟩:=A6 (xs:=st.l) (k:=0) w2
         obtain⟨hxx,b2,off2,rfl,hbl2,hcc1,hcc2,hcell2⟩:=HRA.out.at hq0
         unfold maxLen at hcc2
         have HC2:=lh (show W.cell? ⟨b2,off2,none⟩=some (.int .i64 a.reg) by have:=hcell2 0 a ha0 0 _ rfl;simpa using this)
         have hreg:=(DH ha0).1
         rw[hreg] at w3 w4 w5
         have hu:u32 V=V % 4294967296:=by unfold u32;rw[IntKind.wrap_u32]
         rw[hu] at w5
         have HE1:Hid (∀ w:World,Calls Tryz.prog 110 #[.agg #[.int .i64 24,.int .i64 a.reg,.int .i64 0,.int .i64 0,.int .i32 (V % 4294967296 / 65536)]] w (Ret w (.tuple #[.int .u32 (Dr ⟨24,a.reg,0,0,V % 4294967296 / 65536⟩),.bool true]))):=lh (fun w=>CH ⟨24,a.reg,0,0,V % 4294967296 / 65536⟩ w (D7 (by unfold okI;rw[decide_eq_true_eq];dsimp only;rw[show A2 24=6 from rfl,show loF 6=0 from rfl,show hiF 6=65535 from rfl];omega)))
         have HE2:Hid (∀ w:World,Calls Tryz.prog 110 #[.agg #[.int .i64 18,.int .i64 a.reg,.int .i64 a.reg,.int .i64 0,.int .i32 (V % 65536)]] w (Ret w (.tuple #[.int .u32 (Dr ⟨18,a.reg,a.reg,0,V % 65536⟩),.bool true]))):=lh (fun w=>CH ⟨18,a.reg,a.reg,0,V % 65536⟩ w (D7 (by unfold okI;rw[decide_eq_true_eq];dsimp only;rw[show A2 18=4 from rfl,show loF 4=0 from rfl,show hiF 4=65535 from rfl];omega)))
         have hand:bits .and .u32 (V % 4294967296) 65535=V % 65536:=by rw[Hk (by omega) (by omega)];omega
         have hwr:IntKind.u32.wrap V=V % 4294967296:=IntKind.wrap_u32 V
         have hw5:wsv=[Dr ⟨24,a.reg,0,0,V % 4294967296 / 65536⟩,Dr ⟨18,a.reg,a.reg,0,V % 65536⟩]:=by
          rw[w5]
          unfold Dr
          dsimp only
          rw[show V % 4294967296 / 65536 % 65536=V % 4294967296 / 65536 by omega,show V % 65536 % 65536=V % 4294967296 % 65536 by omega]
          simp
         have HWS:=lh hw5
         clear w1 w2 w3 w4 w5 hw5 hxx hcell2 ha0 hreg
         go_wp2_with (first|(refine Ad rfl (Aj (B:=[46,119,111,114,100]) rfl rfl rfl HWO.out) ?_)|(refine Ad rfl (Aj (B:=[46,115,112,97,99,101]) rfl rfl rfl HSP.out) ?_)|(refine Ad rfl (Aj (B:=[108,105]) rfl rfl rfl HLI.out) ?_)|(refine Ad rfl (Au (ty:=3) (u:=.int .i64 a.reg) rfl rfl τ3 rfl (((hbw.trans (L.bel.mono hbw.size)).cell (p:=⟨b2,off2,none⟩) hbl2).trans HC2.out)) ?_)|(refine YL ?_)|(refine YS ?_;clear L;intro wz L))
         (try simp only[Act.put,q4,s0,s1])
         refine wp_region_quiet_below (by kernel_rfl) (by kernel_rfl) ?_
         repeat (first|(go_big_quiet_want;(first|fail|(refine zlq τ207 L 0 ?_)|(refine BN (ty:=3) (u:=.int .i64 a.reg) (fun w' h=>((hbw.trans (L.bel.mono hbw.size)).trans ((Aa h).mono (Nat.le_trans hbw.size L.bel.size))).cell (p:=⟨b2,off2,none⟩) hbl2 |>.trans HC2.out) rfl rfl τ3 rfl ?_));go_big_quiet_on;(try simp only[Act.put,q4,s0,s1]))|go_big_quiet_step (first|fail|(go_at_call 110;exact A9 (HE2.out _))))
         refine wpQuiet_nil ?_
         intro wz hwz
         replace L:=L.below (Aa hwz)
         clear hwz
         go_wp2_with (at_builtin;refine wpList_append_own _ rfl (.tmp 155) (.tmp 158) 30 rfl W.heap.size 25 i0 (.int .u32 0) 1 4 τ30 hi iz0 iz1 iz2 rfl (by decide) _ acc.length (words acc) rfl (World.ownsRow.alloc (Af HO.out L.bel) _) ⟨wz.heap.size,0,none⟩ 2 2 [.int .u32 (Dr ⟨24,a.reg,0,0,V % 4294967296 / 65536⟩),.int .u32 (Dr ⟨18,a.reg,a.reg,0,V % 65536⟩)] rfl rfl (A8 _ [.int .u32 (Dr ⟨24,a.reg,0,0,V % 4294967296 / 65536⟩),.int .u32 (Dr ⟨18,a.reg,a.reg,0,V % 65536⟩)] _ _ rfl) (two_u32 _ _) (by unfold maxLen;omega) (by omega) (by rw[World.size_alloc];have:=L.bel.size;have:=hbw.size;omega) ?_;intro v3 w3 hown3 hgrow3 _;have hb3:=A4 ((hbw.trans (L.bel.mono hbw.size)).alloc (by have:=L.bel.size;have:=hbw.size;omega) _) (World.ownsRow.alloc (Af HO.out L.bel) _) hgrow3)
         go_roundw
         case rel=>exact⟨k+1,acc++[Dr ⟨24,a.reg,0,0,V % 4294967296 / 65536⟩,Dr ⟨18,a.reg,a.reg,0,V % 65536⟩],r',by omega,by go_num,HG.out,by rw[←HWS.out];exact HRES.out,by rw[List.length_append];show acc.length+2≤2*(k+1);omega,by rw[Hp,List.length_append];exact hown3,hb3⟩
         case measure=>simp [intOf];omega
       · have HLI:=lh (show (st.w == [108,105])=false by simpa using w1)
         have HMV:=lh (show (st.w == [109,118])=false by simpa using w2)
         have HNP:=lh (show (st.w == [110,111,112])=false by simpa using w3)
         have HIN:=lh (fun w h=>inst_any st (.slice aa q ca) V w h w4 w5)
         have HWS:=lh w6
         clear w1 w2 w3 w4 w5 w6
         go_wp2_with (first|(refine Ad rfl (Aj (B:=[46,119,111,114,100]) rfl rfl rfl HWO.out) ?_)|(refine Ad rfl (Aj (B:=[46,115,112,97,99,101]) rfl rfl rfl HSP.out) ?_)|(refine Ad rfl (Aj (B:=[108,105]) rfl rfl rfl HLI.out) ?_)|(refine Ad rfl (Aj (B:=[109,118]) rfl rfl rfl HMV.out) ?_)|(refine Ad rfl (Aj (B:=[110,111,112]) rfl rfl rfl HNP.out) ?_)|(at_builtin;refine wpList_append_own _ rfl (.tmp 98) (.tmp 100) 30 rfl W.heap.size 25 i0 (.int .u32 0) 1 4 τ30 hi iz0 iz1 iz2 rfl (by decide) _ acc.length (words acc) rfl (World.ownsRow.alloc (Af HO.out L.bel) _) ⟨wz.heap.size,0,none⟩ 1 1 [.int .u32 (Dr (Bz st V))] rfl rfl (A8 _ [.int .u32 (Dr (Bz st V))] _ _ rfl) (one_u32 _) (by unfold maxLen;omega) (by omega) (by rw[World.size_alloc];have:=L.bel.size;have:=hbw.size;omega) ?_;intro v3 w3 hown3 hgrow3 _;have hb3:=A4 ((hbw.trans (L.bel.mono hbw.size)).alloc (by have:=L.bel.size;have:=hbw.size;omega) _) (World.ownsRow.alloc (Af HO.out L.bel) _) hgrow3)|(refine YL ?_)|((go_at_call 111;(with_reducible refine zcl L (HIN.out _ (HRA.out.below (hbw.trans (L.bel.mono hbw.size)))) ?_));clear L;intro wz L))
         go_roundw
         case rel=>exact⟨k+1,acc++[Dr (Bz st V)],r',by omega,by go_num,HG.out,by rw[←HWS.out];exact HRES.out,by rw[List.length_append];show acc.length+1≤2*(k+1);omega,by rw[Hp,List.length_append];exact hown3,hb3⟩
         case measure=>simp [intOf];omega
    · obtain rfl:k=n:=by omega
      rw[List.drop_eq_nil_of_le (by rw[HN.out];exact nlr _)] at hgo
      have hre:acc=ws:=by
       have:some ([]:List Int)=some rest:=hgo
       cases this
       rwa[List.append_nil] at hacc
      have HW:=lh hre
      clear hgo hacc hre
      have L:=L0w.out.below hbw
      go_wp2_with (refine Ag (ty:=138) L 0 rfl seL seL rfl rfl rfl rfl CN (by decide) rfl rfl ?_;intro wq Lz Nz;have hoq:=Ai HO.out (L.at (k:=0) rfl) (by decide) Nz;clear Nz;replace L:=Lz;clear Lz)
      go_simp
      have hl1:=AU L 0 rfl seL rfl τ138 rfl CN
      have hob:=Ay (base':=w.heap.size) hoq L0w.out.bel.size
      rw[HW.out] at hob
      obtain⟨x9,y9,hv9⟩:=E6 hob
      subst hv9
      refine bodyPost_ret (v:=.tuple #[.slice x9 ws.length y9,.agg seL.toArray]) (by simp [results,Tryz.results53,asAddr,hl1] <;> rfl) rfl ⟨_,rfl,hob,L.bel⟩
theorem But.setRow (g:Nat) (w:World) (cs:Array Value):But g w (w.setRow g cs):=⟨rfl,rfl,rfl,by simp [World.setRow],fun b hb=>setRow_other w g b cs hb⟩
section
variable {P:Program} {w0 w:World} {l:List Bx} {ops:Array Oper} {rest:List Oper} {o:Oper} {a:Act} {Q:Exit→Act→World→Prop}
theorem lay_copy (L:Lay w0 w l) (k:Nat) {g:Nat} {cur:List Value} {T:TypeId} (hk:l[k]?=some ⟨g,cur,T⟩) (hgd:o.guard=none) (d s:Operand) (dT sT:TypeId)
    (ho:o.op=.call { callee:=.builtin .copy,args:=#[d,s],argTypes:=#[dT,sT] }) (elem:TypeId) (hu:P.underlying dT=some (.slice elem)) (hsz:(P.info? elem).map (·.size)=some 1)
    (sp:Option Addr) (dLen dCap sLen sCap:Nat) (hd:a.eval d=.slice (some ⟨g,0,none⟩) dLen dCap) (hs:a.eval s=.slice sp sLen sCap) (cs:List Value) (hn:cs.length=Nat.min sLen dLen)
    (hsrc:0<cs.length→∃ ad,sp=some ad∧∀ j v,cs[j]?=some v→w.cell? (ad.add j)=some v) (hfit:cs.length≤cur.length) (h1:∀ v∈cs,v.oneCell'=true)
    (h:∀ w',Lay w0 w' (l.set k ⟨g,splice cur 0 cs,T⟩)→wpList P ops Q rest (a.put o.dst (goInt cs.length)) w'):wpList P ops Q (o :: rest) a w:=by
 by_cases h0:cs.length=0
 · obtain rfl:cs=[]:=List.eq_nil_of_length_eq_zero h0
   refine wpList_copy_nothing hgd d s dT sT ho elem hu hsz _ sp dLen dCap sLen sCap hd hs (by simpa using hn.symm) ?_
   exact h w (by rw[show splice cur 0 []=cur by simp [splice],AY hk];exact L)
 · obtain⟨ad,rfl,hsr⟩:=hsrc (by omega)
   refine wpList_copy_own hgd d s dT sT ho elem hu hsz g 0 dLen dCap ad sLen sCap hd hs cur.toArray T (L.at hk) cs hn hsr (by simpa using hfit) h1 ?_
   refine h _ (L.put hk ?_ (But.setRow _ _ _))
   have:=setRow_heap w g _ (splice cur 0 cs).toArray T _ (L.at hk)
   unfold HasBlock
   simpa [splice] using this
end
def cpu0:List Int:=(List.replicate 25 0).set 17 1
theorem reset_any (w:World):Calls Tryz.prog 113 #[.int .u32 0] w (Ret w (.agg (Ab cpu0).toArray)):=by
 have L:=Lay.start w
 go_in
 go_wp2_with (first|(refine YL ?_)|((first|refine zal (ty:=29) L (Ab (List.replicate 25 0)) ?_|refine Yt (Ab cpu0) ?_|refine YS ?_);clear L;intro wz L))
 exact Yr1 (Ret.mk L.bel)
def DA (p bl:Nat) (img:List Int):Mc:=⟨cpu0,img++List.replicate (p*32 - img.length) 0,⟨#[]⟩,tm0,{ dk0 with bl:=bl },nc0,0,0,0,false,false⟩
def wL (x:Int):List Value:=[.int .u32 x]
theorem wL_len (x:Int):(wL x).length=1:=rfl
theorem newsrc {w w':World} {ao:Option Addr} {q cap:Nat} {img:List Int} (ha:RdS wL 1 w (.slice ao q cap) img) (hq:img.length=q) (hb:Below w.heap.size w w') (h0:0<q):∃ ad,ao=some ad∧∀ j v,(words img)[j]?=some v→w'.cell? (ad.add j)=some v:=by
 obtain⟨_,b,off,rfl,hbl,_,_,hc⟩:=ha.at h0
 refine ⟨_,rfl,fun j v hv=>?_⟩
 obtain⟨x,hx,rfl⟩:=words_at hv
 have:=hc j x hx 0 _ rfl
 have e:(⟨b,off,none⟩:Addr).add j=⟨b,off+j,none⟩:=by unfold Addr.add;split <;> simp_all
 rw[e]
 exact (hb.cell (p:=⟨b,off+j,none⟩) hbl).trans (by simpa using this)
theorem RowBx.spliced {n cap q p:Nat} {cur:List Value} {img:List Int} (R:RowBx n cap 1 cur (words (List.replicate (p*32) 0))) (hq:img.length=q) (hqn:q≤n) (hp:p*32=n):RowBx n cap 1 (splice cur 0 (words img)) (words (img++List.replicate (p*32 - img.length) 0)):=by
 have hle:=R.le
 have hlen:=R.len
 have hcut:=R.cut
 have hw:(words img).length=q:=by rw[CM,hq]
 have hs:splice cur 0 (words img)=words img++cur.drop q:=by simp [splice,hw]
 refine ⟨R.le,R.max,?_,?_,?_⟩
 · rw[hs,List.length_append,List.length_drop,hw];omega
 · rw[hs,Nat.mul_one,List.take_append,hw,List.take_of_length_le (by omega),List.take_drop,show q+(n - q)=n by omega]
   rw[Nat.mul_one] at hcut
   rw[hcut]
   unfold words
   rw[List.map_append,List.map_replicate,List.map_replicate,List.drop_replicate,hq]
 · rw[CM,List.length_append,List.length_replicate];omega
theorem new7_any (p bl:Nat) (img:List Int) (va:Value) (w:World) (h1:1≤p) (h2:p≤32) (h3:bl≤64) (hq:img.length≤p*32) (ha:RdS wL 1 w va img):Calls Tryz.prog 55 #[.int .i64 p,.int .i64 bl,va] w (Dc w.heap.size w (DA p bl img,true)):=by
 obtain⟨ao,cap,rfl,hcap,hmax,ha⟩:=ha.open
 unfold maxLen at hmax
 have HA:=lh ha
 obtain⟨q,hqq⟩:∃ q,img.length=q:=⟨_,rfl⟩
 rw[hqq] at hq hcap HA ⊢
 have HQ:=lh hqq
 have HNW:=lh (fun w=>new_any p w h1 h2)
 obtain⟨n,hn⟩:∃ n,p*32=n:=⟨_,rfl⟩
 have HN:Hid ((List.replicate (p*32) (0:Int)).length=n):=lh (by rw[List.length_replicate];exact hn)
 have hpn:(p:Int)*32=n:=by omega
 have hqn:q≤n:=by omega
 clear ha hqq
 have L:=Lay.start w
 go_in
 go_wp2_with (first|(go_at_call 114;(with_reducible refine (HNW.out _).mono ?_);rintro ee wz ⟨v1,rfl,ho1,hb1⟩;obtain⟨g,capg,curg,rfl,R,L'⟩:=Lay.mem HN.out L ho1 hb1;replace L:=L';clear L' hb1 ho1)|(refine Ag (ty:=43) L 0 rfl (mcL { mc0 with c:=cpu0 } (.slice (some ⟨g,0,none⟩) n capg)) (mcL { mc0 with c:=cpu0 } (.slice (some ⟨g,0,none⟩) n capg)) rfl rfl rfl (by kernel_rfl) Aw (Bp _ rfl) rfl rfl ?_;intro wz Lz Nz;clear Nz;replace L:=Lz;clear Lz;(try simp only[s0,s1] at L))|(refine lay_copy L 1 rfl rfl (.tmp 36) (.tmp 37) 30 30 rfl 25 τ30 size_word ao n capg q cap rfl rfl (words img) (by rw[CM,HQ.out];exact (Nat.min_eq_left hqn).symm) (fun h0=>newsrc HA.out HQ.out L.bel (by rw[CM,HQ.out] at h0;exact h0)) (by rw[CM,HQ.out,R.len];have:=R.le;omega) (Ho img) ?_;intro wz Lz;replace L:=Lz;clear Lz;(try simp only[s0,s1] at L))|(refine YL ?_)|((first|(go_at_call 113;(with_reducible refine zcl L (reset_any _) ?_))|refine Yt (mcL (DA p bl img) (.slice (some ⟨g,0,none⟩) n capg)) ?_|refine YS ?_);clear L;intro wz L))
 try go_simp
 have hl1:=AU L 2 rfl (mcL (DA p bl img) (.slice (some ⟨g,0,none⟩) n capg)) rfl τ43 rfl Aw
 have R2:=R.spliced HQ.out hqn hn
 exact Yr2 ⟨_,rfl,RowBx.mem (by show (img++List.replicate (p*32 - img.length) 0).length=n;have:=HQ.out;rw[List.length_append,List.length_replicate];omega) R2 (by omega) L (k:=1) rfl,L.bel⟩
def Jz:List Int:=[1007681537,672202751,1008730112,1025507328,805371900]
def imgK:List Int:=[403701760,303104152,990904321,403701760,303104031,990904327,403701760,303104004,990904326,404750336,304218624,405798912,305332224,406847488,306446344,340983816,307560455,342032386,23461890,592838656,271777793,708116474,403701760,303104006,1024458759,403701760,303104002,1024458761,403701760,303104100,1024458755,403701760,303104640,990904322,403701760,303104021,990904320,956301312,990904325,974127107,386990096,672137233,974127106,269549572,990904322,1009778690,1026555904,403701760,303104001,1024458756,403701760,303104007,1024458757,286392321,269549569,1024458758,974127109,956301312,1007681536,1024458752,1023410182,1023410185,403701760,303104006,1024458759,403701760,303104002,1024458761,1007681538,269549588,1024458755,1007681546,1024458762,974127109,956301312]
theorem asmE:asmI srcE=some Jz:=by kernel_rfl
theorem asmK:asmI srcK=some imgK:=by kernel_rfl
theorem asm_ok {src:List UInt8} (h1:decide (src.length≤8192)=true) (h2:(src[src.length - 1]?.map (·.toNat) == some 10)=true) (h3:(decide ((EF src []).length≤1000) && (EF src []).all (fun s=>decide (s.length≤1000)))=true) {ws:List Int} (h4:asmI src=some ws) (w:World) :
    Calls Tryz.prog 53 #[.string (bsL src)] w (fun e w'=>∃ v,e=.returned (.tuple #[v,.agg seL.toArray])∧w'.ownsRow w.heap.size 25 1 v ws.length (words ws)∧Below w.heap.size w w'):=by
 rw[Bool.and_eq_true,decide_eq_true_eq,List.all_eq_true] at h3
 refine asm_any src ws w (of_decide_eq_true h1) (fun c hc=>?_) ⟨h3.1,fun s hs=>of_decide_eq_true (h3.2 s hs)⟩ h4
 rw[hc] at h2
 simpa using h2
theorem callE (w:World):Calls Tryz.prog 53 #[.string (bsL srcE)] w (fun e w'=>∃ v,e=.returned (.tuple #[v,.agg seL.toArray])∧w'.ownsRow w.heap.size 25 1 v 5 (words Jz)∧Below w.heap.size w w') :=
 asm_ok (by kernel_rfl) (by kernel_rfl) (by kernel_rfl) asmE w
theorem callK (w:World):Calls Tryz.prog 53 #[.string (bsL srcK)] w (fun e w'=>∃ v,e=.returned (.tuple #[v,.agg seL.toArray])∧w'.ownsRow w.heap.size 25 1 v 75 (words imgK)∧Below w.heap.size w w') :=
 asm_ok (by kernel_rfl) (by kernel_rfl) (by kernel_rfl) asmK w
theorem call_str {P:Program} {f:FuncId} {X Y:ByteArray} {w:World} {R Q:Ending→World→Prop} (hXY:X=Y) (h:Calls P f #[.string Y] w R) (k:∀ e w',R e w'→Q e w'):Calls P f #[.string X] w Q:=by subst hXY;exact h.mono k
theorem words_flat (xs:List Int):words xs=xs.flatMap wL:=by
 unfold words
 induction xs with
 | nil=>rfl
 | cons x xs ih=>rw[List.map_cons,ih,List.flatMap_cons];rfl
theorem RdS.words {w:World} {base n:Nat} {v:Value} {xs:List Int} (h:w.ownsRow base 25 1 v n (words xs)) (hn:xs.length=n):RdS wL 1 w v xs:=by
 subst hn
 rw[words_flat] at h
 exact RdS.of_owns wL_len h
theorem echo_any (w:World):Calls Tryz.prog 37 #[] w (fun e w'=>∃ v,e=.returned (.agg (mcL (DA 1 0 Jz) v).toArray)∧OwnMem w.heap.size w' v (DA 1 0 Jz).m∧Below w.heap.size w w'):=by
 have HNW:=lh (fun v w h=>new7_any 1 0 Jz v w (by decide) (by decide) (by decide) (by decide) h)
 generalize DA 1 0 Jz=M at *
 have L:=Lay.start w
 go_in
 go_wp2_with (refine YS ?_;clear L;intro wz L)
 refine call_str (Y:=bsL srcE) (by kernel_rfl) (callE _) ?_
 rintro e w1 ⟨va,rfl,hoa,hb1⟩
 replace L:=L.below hb1
 clear hb1
 have hrd:=RdS.words hoa rfl
 clear hoa
 obtain⟨xa,ya,hva⟩:∃ xa ya,va=.slice xa 5 ya:=by obtain⟨a,c,h,_⟩:=hrd;exact⟨a,c,h⟩
 subst hva
 have HRD:=lh hrd
 clear hrd
 have L0:=L
 clear L
 have L:=Lay.start w1
 go_wp2_with ((first|refine zal (ty:=138) L seL ?_|refine YS ?_);clear L;intro wz L)
 refine (HNW.out _ _ (HRD.out.below L.bel)).mono ?_
 rintro e w2 ⟨v,rfl,hom,hb2⟩
 replace L0:=L0.below L.bel
 obtain⟨n,hn⟩:∃ n,M.m.length=n:=⟨_,rfl⟩
 have HN:=lh hn
 have hn0:0<n:=by rw[←hn];exact hom.2
 clear hn L
 obtain⟨g,capg,curg,rfl,R,L⟩:=Lay.mem HN.out L0 hom hb2
 clear L0 hom hb2 HNW HRD
 go_wp2_with (first|(refine YL ?_)|(refine YS ?_;clear L;intro wz L))
 exact Yr1 ⟨_,rfl,RowBx.mem HN.out R hn0 L (k:=1) rfl,L.bel⟩
section
variable {P:Program} {w0 w:World} {l:List Bx} {ops:Array Oper} {rest:List Oper} {op:Oper} {a:Act} {Q:Exit→Act→World→Prop} {B:Nat} {T ty:TypeId} {x y:Operand} {cs vs:List Value} {d:TypeDesc}
theorem lay_whole (L:Lay w0 w l) (k:Nat) (hk:l[k]?=some ⟨B,cs,T⟩) (hgd:op.guard=none) (ho:op.op=.load ty x) (hx:a.eval x=.pointer (some ⟨B,0,none⟩))
    (hu:P.underlying ty=some d) (hd:d.isRow=true) (hi:(P.info? ty).map (·.size)=some cs.length)
    (h:wpList P ops Q rest (a.put op.dst (.agg cs.toArray)) w):wpList P ops Q (op :: rest) a w:=AQ L k hk cs hgd ho hx hu hd hi (by rw[List.drop_zero,List.take_length]) h
theorem lay_put_whole (L:Lay w0 w l) (k:Nat) (hk:l[k]?=some ⟨B,cs,T⟩) (hgd:op.guard=none) (ho:op.op=.store ty x y) (hx:a.eval x=.pointer (some ⟨B,0,none⟩)) (hy:a.eval y=.agg vs.toArray)
    (hi:(P.info? ty).map (·.size)=some vs.length) (h1:vs.all Value.oneCell'=true) (hn:vs.length=cs.length)
    (h:∀ w',Lay w0 w' (l.set k ⟨B,vs,T⟩)→But B w w'→wpList P ops Q rest (a.put op.dst undef) w'):wpList P ops Q (op :: rest) a w :=
 Ag L k hk vs vs hgd ho hx hy hi (fun v hv=>List.all_eq_true.1 h1 v hv) (by rw[Nat.zero_add,hn];exact Nat.ble_eq_true_of_le (nlr _)) (by
  unfold Dt
  simp [←hn]) h
end
end Go.Proofs.YtnmpfmapncicmaaGreat
