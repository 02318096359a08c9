/-
  Texts joined: TpLoc TpPre TpSr TpFil TpApp TpApp2 TpPh. No law is proved here.
-/
import Derived.Test.YtnmpfmapncicmaaGreatB22
namespace Go.Proofs.YtnmpfmapncicmaaGreat
set_option linter.all false
set_option maxRecDepth 100000
set_option maxHeartbeats 40000000
open Go.RowKit
/-! ## The pages that a step needs, as a number whose bits are pages -/
def oneN (xs:List Int) (f:Int):Nat:=if 0≤f∧f<Ao xs then 2 ^ f.toNat else 0
def Je (c xs:List Int) (va size acc:Int):Nat :=
 if va % size≠0 then 0
 else if BR c=true then
  (if 4096≤va then 0 else oneN xs (rg c 23) ||| (match Cb xs (rg c 23) va acc with|none=>0|some (a,_)=>oneN xs (a / 128)))
 else oneN xs (va / 128)
def outN (M:Mc) (port v:Int):Nat :=
 if port=6 then (if v=2∧M.dk.s=0∧M.dk.b<M.dk.bl then oneN M.m M.dk.f else 0)
 else if port=9 then (if v=1∧1≤M.nc.l∧M.nc.l≤128 then oneN M.m M.nc.f else 0)
 else if port=10 then (if M.G.testBit v.toNat=true then 0 else oneN M.m v)
 else 0
def operN (M:Mc) (c xs:List Int) (i:In):Nat :=
 if i.op=32 then Je c xs (u32 (rg c i.b.toNat+u32 i.imm)) 4 2
 else if i.op=33∨i.op=34 then Je c xs (u32 (rg c i.b.toNat+u32 i.imm)) 1 2
 else if i.op=35 then Je c xs (u32 (rg c i.b.toNat+u32 i.imm)) 4 3
 else if i.op=36 then Je c xs (u32 (rg c i.b.toNat+u32 i.imm)) 1 3
 else if i.op=61 then outN M i.imm (rg c i.a.toNat)
 else 0
def restN (M:Mc) (c:List Int) (f:Int×List Int×Int):Nat :=
 if f.2.2≠0 then 0
 else match C9 f.1 with
  | none=>0
  | some i=>if BP i.op=true∧BM c=false then 0 else operN M c f.2.1 i
def needN (M:Mc):Nat :=
 if Ba M=true then 0 else Je (Bb M) M.m (rg (Bb M) 16) 4 1 ||| restN M (Bb M) (AM (Bb M) M.m)
/-! ## Memories that agree on some pages -/
def Sub (N S:Nat):Prop:=∀ k,N.testBit k=true→S.testBit k=true
theorem Sub.left {A B S:Nat} (h:Sub (A ||| B) S):Sub A S:=fun k hk=>h k (by rw[Nat.testBit_or,hk];rfl)
theorem Sub.right {A B S:Nat} (h:Sub (A ||| B) S):Sub B S:=fun k hk=>h k (by rw[Nat.testBit_or,hk,Bool.or_true])
theorem Fm {xs:List Int} {f:Int} {S:Nat} (h:Sub (oneN xs f) S) (h0:0≤f) (h1:f<Ao xs):S.testBit f.toNat=true :=
 h _ (by unfold oneN;rw[if_pos ⟨h0,h1⟩,Nat.testBit_two_pow,decide_eq_true_eq])
structure Agree (S:Nat) (xs ys:List Int):Prop where
 len:xs.length=ys.length
 eq:∀ i:Nat,S.testBit (i / 32)=true→rg xs i=rg ys i
structure Rest (S:Nat) (xs xs':List Int):Prop where
 len:xs'.length=xs.length
 eq:∀ i:Nat,S.testBit (i / 32)=false→rg xs' i=rg xs i
theorem Rest.refl (S:Nat) (xs:List Int):Rest S xs xs:=⟨rfl,fun _ _=>rfl⟩
theorem Rest.trans {S:Nat} {a b c:List Int} (h:Rest S a b) (k:Rest S b c):Rest S a c:=⟨k.len.trans h.len,fun i hi=>(k.eq i hi).trans (h.eq i hi)⟩
theorem Agree.set {S:Nat} {xs ys:List Int} (h:Agree S xs ys) (j:Nat) (v:Int):Agree S (xs.set j v) (ys.set j v):=by
 refine ⟨by rw[List.length_set,List.length_set];exact h.len,fun i hi=>?_⟩
 rw[rg_set',rg_set',h.len,h.eq i hi]
theorem Rest.set {S:Nat} {xs:List Int} {j:Nat} (v:Int) (h:S.testBit (j / 32)=true):Rest S xs (xs.set j v):=by
 refine ⟨List.length_set ..,fun i hi=>?_⟩
 rw[rg_set',if_neg (fun e=>?_)]
 rw[e.1,hi] at h
 cases h
theorem Agree.pages {S:Nat} {xs ys:List Int} (h:Agree S xs ys):Ao xs=Ao ys:=Fb h.len
theorem page_word {a:Int} (h0:0≤a):(a / 4).toNat / 32=(a / 128).toNat:=by omega
theorem Agree.word {S:Nat} {xs ys:List Int} (h:Agree S xs ys) {a:Int} (h0:0≤a) (hs:S.testBit (a / 128).toNat=true):A5 xs a=A5 ys a :=
 h.eq _ (by rw[page_word h0];exact hs)
theorem walk_agree {S:Nat} {xs ys:List Int} {root va acc:Int} (h:Agree S xs ys) (r0:0≤root) (v0:0≤va) (hs:va<4096→root<Ao ys→S.testBit root.toNat=true):Cb xs root va acc=Cb ys root va acc:=by
 unfold Cb
 rw[h.pages]
 by_cases h1:va<4096
 · by_cases h2:root<Ao ys
   · have e:(root*128+4*(va / 128)) / 128=root:=by omega
     rw[h.word (a:=root*128+4*(va / 128)) (by omega) (by rw[e];exact hs h1 h2)]
   · rw[if_neg (fun e=>h2 e.2.1),if_neg (fun e=>h2 e.2.1)]
 · rw[if_neg (fun e=>h1 e.1),if_neg (fun e=>h1 e.1)]
theorem walk_some {xs:List Int} {root va acc a e:Int} (h:Cb xs root va acc=some (a,e)):va<4096∧root<Ao xs∧0≤a / 128∧a / 128<Ao xs∧0≤a∧e=root*128+4*(va / 128):=by
 unfold Cb at h
 split at h
 · rename_i hh
   obtain⟨h1,h2,h3,h4⟩:=hh
   cases h
   have e1:(A5 xs (root*128+4*(va / 128)) / 256 % 256*128+va % 128) / 128=A5 xs (root*128+4*(va / 128)) / 256 % 256:=by omega
   rw[e1]
   exact⟨h1,h2,by omega,h4,by omega,rfl⟩
 · cases h
structure ResAg (S:Nat) (xs ys:List Int) (r q:Int×List Int×Int):Prop where
 a:r.1=q.1
 k:r.2.2=q.2.2
 g:Agree S r.2.1 q.2.1
 x:Rest S xs r.2.1
 y:Rest S ys q.2.1
 p:q.2.2=0→S.testBit (q.1 / 128).toNat=true∧0≤q.1
theorem ResAg.fault {S:Nat} {xs ys:List Int} (h:Agree S xs ys) {k:Int} (hk:k≠0):ResAg S xs ys (0,xs,k) (0,ys,k) :=
 ⟨rfl,rfl,h,Rest.refl _ _,Rest.refl _ _,fun e=>absurd e hk⟩
theorem faultOf_ne (acc:Int):AE acc≠0:=by
 unfold AE
 repeat' split
 all_goals decide
theorem ET {S:Nat} {c xs ys:List Int} {va size acc:Int} (h:Agree S xs ys) (hc:CpuOk c) (v0:0≤va) (hz:size=1∨size=4) (hs:Sub (Je c ys va size acc) S):ResAg S xs ys (Ah c xs va size acc) (Ah c ys va size acc):=by
 unfold Je at hs
 unfold Ah
 by_cases hal:va % size≠0
 · rw[if_pos hal,if_pos hal]
   exact .fault h (by decide)
 rw[if_neg hal] at hs
 rw[if_neg hal,if_neg hal]
 by_cases hp:BR c=true
 · rw[if_pos hp] at hs
   rw[if_pos hp,if_pos hp]
   have r0:=(hc.at 23).1
   have hroot:va<4096→rg c 23<Ao ys→S.testBit (rg c 23).toNat=true:=fun h1 h2=>by
    rw[if_neg (by omega)] at hs
    exact Fm hs.left r0 h2
   rw[walk_agree h r0 v0 hroot]
   cases hw:Cb ys (rg c 23) va acc with
   | none=>exact .fault h (faultOf_ne _)
   | some r =>
     obtain⟨a,e⟩:=r
     have hh:=walk_some hw
     rw[if_neg (by omega),hw] at hs
     have hbit:=hroot hh.1 hh.2.1
     have ee:(e / 4).toNat / 32=(rg c 23).toNat:=by rw[hh.2.2.2.2.2];omega
     have e0:0≤e:=by rw[hh.2.2.2.2.2];omega
     have ew:e / 128=rg c 23:=by rw[hh.2.2.2.2.2];omega
     unfold Dg
     dsimp only
     dsimp only at hs
     rw[h.word e0 (by rw[ew];exact hbit)]
     exact⟨rfl,rfl,h.set _ _,Rest.set _ (by rw[ee];exact hbit),Rest.set _ (by rw[ee];exact hbit),fun _=>⟨Fm hs.right hh.2.2.1 hh.2.2.2.1,hh.2.2.2.2.1⟩⟩
 · rw[if_neg hp] at hs
   rw[if_neg hp,if_neg hp]
   have e:inB xs va size=inB ys va size:=by unfold inB;rw[h.pages]
   rw[e]
   by_cases hi:inB ys va size=true
   · rw[if_pos hi,if_pos hi]
     have hb:=of_decide_eq_true hi
     exact⟨rfl,rfl,h,Rest.refl _ _,Rest.refl _ _,fun _=>⟨Fm hs (by omega) (by omega),v0⟩⟩
   · rw[if_neg hi,if_neg hi]
     exact .fault h (faultOf_ne _)
theorem fetch_agree {S:Nat} {c xs ys:List Int} (h:Agree S xs ys) (hc:CpuOk c) (hs:Sub (Je c ys (rg c 16) 4 1) S) :
    (AM c xs).1=(AM c ys).1∧(AM c xs).2.2=(AM c ys).2.2∧Agree S (AM c xs).2.1 (AM c ys).2.1∧Rest S xs (AM c xs).2.1∧Rest S ys (AM c ys).2.1:=by
 have R:=ET h hc (hc.at 16).1 (.inr rfl) hs
 unfold AM
 rw[R.k,R.a]
 by_cases hk:(Ah c ys (rg c 16) 4 1).2.2≠0
 · rw[if_pos hk,if_pos hk];exact⟨rfl,rfl,R.g,R.x,R.y⟩
 · rw[if_neg hk,if_neg hk]
   have hp:=R.p (by omega)
   exact⟨R.g.word hp.2 hp.1,rfl,R.g,R.x,R.y⟩
theorem loadC_agree {S:Nat} {c xs ys:List Int} {i:In} (h:Agree S xs ys) (hc:CpuOk c) (hs:Sub (Je c ys (u32 (rg c i.b.toNat+u32 i.imm)) (An i.op) 2) S) :
    (C3 c xs i).1=(C3 c ys i).1∧Agree S (C3 c xs i).2 (C3 c ys i).2∧Rest S xs (C3 c xs i).2∧Rest S ys (C3 c ys i).2:=by
 have hwd:An i.op=1∨An i.op=4:=by unfold An;split;exact .inr rfl;exact .inl rfl
 have R:=ET h hc (As _).1 hwd hs
 unfold C3
 dsimp only
 rw[R.k,R.a]
 by_cases hk:(Ah c ys (u32 (rg c i.b.toNat+u32 i.imm)) (An i.op) 2).2.2≠0
 · rw[if_pos hk,if_pos hk];exact⟨rfl,R.g,R.x,R.y⟩
 · rw[if_neg hk,if_neg hk]
   have hp:=R.p (by omega)
   have e:Cg (Ah c xs (u32 (rg c i.b.toNat+u32 i.imm)) (An i.op) 2).2.1 (Ah c ys (u32 (rg c i.b.toNat+u32 i.imm)) (An i.op) 2).1 (An i.op)=Cg (Ah c ys (u32 (rg c i.b.toNat+u32 i.imm)) (An i.op) 2).2.1 (Ah c ys (u32 (rg c i.b.toNat+u32 i.imm)) (An i.op) 2).1 (An i.op):=by
    unfold Cg
    rw[R.g.word hp.2 hp.1]
   rw[e]
   exact⟨rfl,R.g,R.x,R.y⟩
theorem storeC_agree {S:Nat} {c xs ys:List Int} {i:In} (h:Agree S xs ys) (hc:CpuOk c) (hs:Sub (Je c ys (u32 (rg c i.b.toNat+u32 i.imm)) (An i.op) 3) S) :
    (BJ c xs i).1=(BJ c ys i).1∧Agree S (BJ c xs i).2 (BJ c ys i).2∧Rest S xs (BJ c xs i).2∧Rest S ys (BJ c ys i).2:=by
 have hwd:An i.op=1∨An i.op=4:=by unfold An;split;exact .inr rfl;exact .inl rfl
 have R:=ET h hc (As _).1 hwd hs
 unfold BJ
 dsimp only
 rw[R.k,R.a]
 by_cases hk:(Ah c ys (u32 (rg c i.b.toNat+u32 i.imm)) (An i.op) 3).2.2≠0
 · rw[if_pos hk,if_pos hk];exact⟨rfl,R.g,R.x,R.y⟩
 · rw[if_neg hk,if_neg hk]
   have hp:=R.p (by omega)
   unfold BO
   rw[R.g.word hp.2 hp.1]
   have hb:S.testBit ((((Ah c ys (u32 (rg c i.b.toNat+u32 i.imm)) (An i.op) 3).1) / 4).toNat / 32)=true:=by rw[page_word hp.2];exact hp.1
   exact⟨rfl,R.g.set _ _,R.x.trans (Rest.set _ hb),R.y.trans (Rest.set _ hb)⟩
theorem Hv {xs ys:List Int} (h:xs.length=ys.length) {i:Nat} (e:rg xs i=rg ys i):xs[i]?=ys[i]?:=by
 unfold rg at e
 by_cases hi:i<xs.length
 · rw[List.getElem?_eq_getElem hi,List.getElem?_eq_getElem (by omega)] at e ⊢
   exact congrArg some e
 · rw[List.getElem?_eq_none (by omega),List.getElem?_eq_none (by omega)]
theorem Agree.page {S:Nat} {xs ys:List Int} (h:Agree S xs ys) {f:Int} (hs:S.testBit f.toNat=true):Bh xs f=Bh ys f:=by
 unfold Bh
 refine congrArg DL (List.ext_getElem? fun i=>?_)
 rw[List.getElem?_take,List.getElem?_take]
 by_cases hi:i<32
 · rw[if_pos hi,if_pos hi,List.getElem?_drop,List.getElem?_drop]
   exact Hv h.len (h.eq _ (by rw[show (f.toNat*32+i) / 32=f.toNat by omega];exact hs))
 · rw[if_neg hi,if_neg hi]
theorem Agree.isPage {S:Nat} {xs ys:List Int} (h:Agree S xs ys) (f:Int):isPage xs f=isPage ys f:=by unfold Go.Proofs.YtnmpfmapncicmaaGreat.isPage;rw[h.pages]
theorem dkIssue_agree {S:Nat} {xs ys:List Int} {d:Dk} {cmd:Int} {p:Nat} (h:Agree S xs ys) (f0:0≤d.f) (hs:cmd=2→d.s=0→d.b<d.bl→Sub (oneN ys d.f) S):Ci d xs cmd p=Ci d ys cmd p:=by
 unfold Ci
 rw[h.isPage]
 by_cases h1:d.s≠0
 · rw[if_pos h1,if_pos h1]
 rw[if_neg h1,if_neg h1]
 by_cases h2:d.bl≤d.b∨isPage ys d.f=false
 · rw[if_pos h2,if_pos h2]
 rw[if_neg h2,if_neg h2]
 by_cases h3:cmd=2
 · have hb:isPage ys d.f=true:=by
     cases hq:isPage ys d.f with
     | true=>rfl
     | false=>exact absurd (.inr hq) h2
   rw[h.page (Fm (hs h3 (by omega) (Int.not_le.1 (fun e=>h2 (.inl e)))) f0 (of_decide_eq_true hb))]
 · rw[if_neg h3,if_neg h3,if_neg h3]
theorem clearP_agree {S:Nat} {xs ys:List Int} (h:Agree S xs ys) (p k:Nat):Agree S (CJ xs p k) (CJ ys p k):=by
 induction k with
 | zero=>exact h
 | succ k ih=>exact ih.set _ _
theorem FZ {S p:Nat} (xs:List Int) (hs:S.testBit p=true):∀ k:Nat,k≤32→Rest S xs (CJ xs p k)
 | 0,_=>Rest.refl _ _
 | k+1,hk=>(FZ xs hs k (by omega)).trans (Rest.set _ (by rw[show (p*32+k) / 32=p by omega];exact hs))
theorem outP_agree {S:Nat} {M:Mc} {xs ys:List Int} {port v:Int} (h:Agree S xs ys) (v0:0≤v) (hd:DkOk M.dk (Ao ys)) (hn:NcOk M.nc (Ao ys)) (hs:Sub (outN { M with m:=ys } port v) S) :
    ∃ m' n',(Be { M with m:=xs } port v).1={ (Be { M with m:=ys } port v).1 with m:=m' }∧(Be { M with m:=ys } port v).1.m=n'∧(Be { M with m:=xs } port v).2=(Be { M with m:=ys } port v).2∧Agree S m' n'∧Rest S xs m'∧Rest S ys n':=by
 have keep:∀ {A B:Mc} {o p:List Ou},o=p→A={ B with m:=xs }→B.m=ys→∃ m' n',A={ B with m:=m' }∧B.m=n'∧o=p∧Agree S m' n'∧Rest S xs m'∧Rest S ys n' :=
  fun ho ha hb=>⟨xs,ys,ha,hb,ho,h,Rest.refl _ _,Rest.refl _ _⟩
 unfold outN at hs
 dsimp only at hs
 unfold Be
 by_cases p0:port=0
 · rw[if_pos p0,if_pos p0];exact keep rfl rfl rfl
 rw[if_neg p0,if_neg p0]
 by_cases p3:port=3
 · rw[if_pos p3,if_pos p3];exact keep rfl rfl rfl
 rw[if_neg p3,if_neg p3]
 by_cases p4:4≤port∧port≤6
 · rw[if_pos p4,if_pos p4]
   have e:CI M.dk xs port v M.n=CI M.dk ys port v M.n:=by
    unfold CI
    by_cases q4:port=4
    · rw[if_pos q4,if_pos q4]
    rw[if_neg q4,if_neg q4]
    by_cases q5:port=5
    · rw[if_pos q5,if_pos q5]
    rw[if_neg q5,if_neg q5]
    by_cases q6:port=6∧(v=1∨v=2)
    · rw[if_pos q6,if_pos q6]
      refine dkIssue_agree h hd.f.1 (fun hv h0 hb=>?_)
      rw[if_pos q6.1,if_pos ⟨hv,h0,hb⟩] at hs
      exact hs
    · rw[if_neg q6,if_neg q6]
   dsimp only
   rw[e]
   exact⟨xs,ys,rfl,rfl,rfl,h,Rest.refl _ _,Rest.refl _ _⟩
 rw[if_neg p4,if_neg p4]
 by_cases p7:7≤port∧port≤9
 · rw[if_pos p7,if_pos p7]
   have e:Cf M.nc xs port v M.n=Cf M.nc ys port v M.n:=by
    unfold Cf
    rw[h.isPage]
    by_cases q4:port=7
    · rw[if_pos q4,if_pos q4]
    rw[if_neg q4,if_neg q4]
    by_cases q5:port=8
    · rw[if_pos q5,if_pos q5]
    rw[if_neg q5,if_neg q5]
    by_cases q6:port=9∧v=1
    · rw[if_pos q6,if_pos q6]
      by_cases q8:1≤M.nc.l∧M.nc.l≤128∧isPage ys M.nc.f=true
      · rw[if_pos q8,if_pos q8]
        rw[if_neg (by omega),if_pos q6.1,if_pos ⟨q6.2,q8.1,q8.2.1⟩] at hs
        rw[h.page (Fm hs hn.f.1 (of_decide_eq_true q8.2.2))]
      · rw[if_neg q8,if_neg q8]
    · rw[if_neg q6,if_neg q6]
   dsimp only
   rw[e]
   exact⟨xs,ys,rfl,rfl,rfl,h,Rest.refl _ _,Rest.refl _ _⟩
 rw[if_neg p7,if_neg p7]
 by_cases p10:port=10∨port=11
 · rw[if_pos p10,if_pos p10]
   dsimp only
   rw[h.len]
   refine ⟨_,_,rfl,rfl,rfl,?_,?_,?_⟩
   · unfold Fc
     rw[h.len]
     split
     · exact clearP_agree h _ _
     · exact h
   · unfold Fc
     split
     · rename_i q
       rw[if_neg (by omega),if_neg (by omega),if_pos (by omega)] at hs
       rw[if_neg (by rw[q.2.2.2];decide)] at hs
       refine FZ _ (Fm hs v0 ?_) 32 (nlr _)
       have:=q.2.2.1
       rw[h.len] at this
       rw[Bv];omega
     · exact Rest.refl _ _
   · unfold Fc
     split
     · rename_i q
       rw[if_neg (by omega),if_neg (by omega),if_pos (by omega)] at hs
       rw[if_neg (by rw[q.2.2.2];decide)] at hs
       refine FZ _ (Fm hs v0 ?_) 32 (nlr _)
       have:=q.2.2.1
       rw[Bv];omega
     · exact Rest.refl _ _
 · rw[if_neg p10,if_neg p10];exact keep rfl rfl rfl
theorem runI_out (c:List Int) (i:In):(Ap c i).2.k=2→i.op=61∧(Ap c i).2.p=i.imm∧(Ap c i).2.v=rg c i.a.toNat:=by
 show (fun r:List Int×Ef=>r.2.k=2→i.op=61∧r.2.p=i.imm∧r.2.v=rg c i.a.toNat) (Ap c i)
 generalize hP:(fun r:List Int×Ef=>r.2.k=2→i.op=61∧r.2.p=i.imm∧r.2.v=rg c i.a.toNat)=P
 have no:∀ (c':List Int) (e:Ef),e.k≠2→P (c',e):=fun c' e h=>by rw[←hP];exact fun hk=>absurd hk h
 have yes:∀ (c':List Int),i.op=61→P (c',⟨2,i.imm,0,rg c i.a.toNat⟩):=fun c' h=>by rw[←hP];exact fun _=>⟨h,rfl,rfl⟩
 clear hP
 unfold Ap
 dsimp only
 refine By P (fun _=>no _ _ (by decide)) (fun _=>?_)
 refine By P (fun _=>no _ _ (by decide)) (fun _=>?_)
 refine By P (fun _=>no _ _ (by decide)) (fun _=>?_)
 refine By P (fun _=>no _ _ (by decide)) (fun _=>?_)
 refine By P (fun _=>no _ _ (by decide)) (fun _=>?_)
 refine By P (fun _=>no _ _ (by decide)) (fun _=>?_)
 refine By P (fun _=>no _ _ (by decide)) (fun _=>?_)
 refine By P (fun _=>no _ _ (by decide)) (fun _=>?_)
 refine By P (fun _=>no _ _ (show (1:Int)≠2 by decide)) (fun _=>?_)
 refine By P (fun h=>yes _ h) (fun _=>?_)
 refine By P (fun _=>no _ _ (show (3:Int)≠2 by decide)) (fun _=>?_)
 refine By P (fun _=>no _ _ (show (5:Int)≠2 by decide)) (fun _=>?_)
 refine By P (fun _=>no _ _ (show (4:Int)≠2 by decide)) (fun _=>?_)
 exact no _ _ (by decide)
structure ExAg (S:Nat) (xs ys:List Int) (r q:List Int×List Int×Ef):Prop where
 c:r.1=q.1
 e:r.2.2=q.2.2
 g:Agree S r.2.1 q.2.1
 x:Rest S xs r.2.1
 y:Rest S ys q.2.1
theorem widthI_4 {op:Int} (h:op=32∨op=35):An op=4:=by unfold An;rw[if_pos h]
theorem widthI_1 {op:Int} (h:op≠32∧op≠35):An op=1:=by unfold An;rw[if_neg (by omega)]
theorem exec_agree {S:Nat} {M:Mc} {c xs ys:List Int} (h:Agree S xs ys) (hc:CpuOk c) (hs:Sub (Je c ys (rg c 16) 4 1 ||| restN M c (AM c ys)) S) :
    ExAg S xs ys (Bn c xs) (Bn c ys)∧((Bn c ys).2.2.k=2→Sub (outN M (Bn c ys).2.2.p (Bn c ys).2.2.v) S):=by
 have F:=fetch_agree h hc hs.left
 have hr:=hs.right
 unfold restN at hr
 unfold Bn
 dsimp only
 rw[F.1,F.2.1]
 have nk:ef0.k=2→Sub (outN M ef0.p ef0.v) S:=fun e=>absurd e (by decide)
 by_cases hk:(AM c ys).2.2≠0
 · rw[if_pos hk,if_pos hk];exact⟨⟨rfl,rfl,F.2.2.1,F.2.2.2.1,F.2.2.2.2⟩,nk⟩
 rw[if_neg hk] at hr
 rw[if_neg hk,if_neg hk]
 cases hd:C9 (AM c ys).1 with
 | none=>exact⟨⟨rfl,rfl,F.2.2.1,F.2.2.2.1,F.2.2.2.2⟩,nk⟩
 | some i =>
   rw[hd] at hr
   dsimp only at hr ⊢
   by_cases hp:BP i.op=true∧BM c=false
   · rw[if_pos hp,if_pos hp];exact⟨⟨rfl,rfl,F.2.2.1,F.2.2.2.1,F.2.2.2.2⟩,nk⟩
   rw[if_neg hp] at hr
   rw[if_neg hp,if_neg hp]
   unfold operN at hr
   by_cases hl:32≤i.op∧i.op≤34
   · rw[if_pos hl,if_pos hl]
     have hsub:Sub (Je c (AM c ys).2.1 (u32 (rg c i.b.toNat+u32 i.imm)) (An i.op) 2) S:=by
      by_cases h32:i.op=32
      · rw[if_pos h32] at hr;rw[widthI_4 (.inl h32)];exact hr
      · rw[if_neg h32,if_pos (by omega)] at hr;rw[widthI_1 (by omega)];exact hr
     have L:=loadC_agree F.2.2.1 hc hsub
     exact⟨⟨L.1,rfl,L.2.1,F.2.2.2.1.trans L.2.2.1,F.2.2.2.2.trans L.2.2.2⟩,nk⟩
   rw[if_neg hl,if_neg hl]
   by_cases ht:35≤i.op∧i.op≤36
   · rw[if_pos ht,if_pos ht]
     have hsub:Sub (Je c (AM c ys).2.1 (u32 (rg c i.b.toNat+u32 i.imm)) (An i.op) 3) S:=by
      rw[if_neg (by omega),if_neg (by omega)] at hr
      by_cases h35:i.op=35
      · rw[if_pos h35] at hr;rw[widthI_4 (.inr h35)];exact hr
      · rw[if_neg h35,if_pos (by omega)] at hr;rw[widthI_1 (by omega)];exact hr
     have L:=storeC_agree F.2.2.1 hc hsub
     exact⟨⟨L.1,rfl,L.2.1,F.2.2.2.1.trans L.2.2.1,F.2.2.2.2.trans L.2.2.2⟩,nk⟩
   rw[if_neg ht,if_neg ht]
   refine ⟨⟨rfl,rfl,F.2.2.1,F.2.2.2.1,F.2.2.2.2⟩,fun he=>?_⟩
   rw[if_neg (by omega),if_neg (by omega),if_neg (by omega),if_neg (by omega)] at hr
   have:=runI_out c i he
   rw[this.2.1,this.2.2]
   rw[if_pos this.1] at hr
   exact hr
theorem step_agree {S:Nat} {M:Mc} {xs:List Int} (hM:M.Ok) (h:Agree S xs M.m) (hs:Sub (needN M) S) (clk:Int) :
    ∃ m',AZ { M with m:=xs } clk=({ (AZ M clk).1 with m:=m' },(AZ M clk).2)∧Agree S m' (AZ M clk).1.m∧Rest S xs m'∧Rest S M.m (AZ M clk).1.m:=by
 unfold needN at hs
 unfold AZ
 rw[show Ba { M with m:=xs }=Ba M from rfl]
 cases hst:Ba M with
 | true=>rw[if_pos rfl,if_pos rfl];exact⟨xs,rfl,h,Rest.refl _ _,Rest.refl _ _⟩
 | false =>
   rw[hst,if_neg (by decide)] at hs
   rw[if_neg (by decide),if_neg (by decide)]
   have X:=exec_agree (xs:=xs) h (Ch hM) hs
   have XO:=exeM_ok hM
   have he:=XO.2
   have e1:CG { M with m:=xs }=({ (CG M).1 with m:=(Bn (Bb M) xs).2.1 },(CG M).2):=by
    unfold CG
    rw[show Bb { M with m:=xs }=Bb M from rfl]
    dsimp only
    rw[X.1.c,X.1.e]
   rw[e1]
   dsimp only
   have em:(CG M).1.m=(Bn (Bb M) M.m).2.1:=rfl
   have ee:(CG M).2=(Bn (Bb M) M.m).2.2:=rfl
   have hpl:Ao (CG M).1.m=Ao M.m:=Fb (by rw[em];exact X.1.y.len)
   have X1:=X.1.g;have X2:=X.1.x;have X3:=X.1.y;have X4:=X.2
   rw[←em] at X1 X3
   rw[←ee] at X4
   have hdk:=XO.1.dk;have hnc:=XO.1.nc
   have hout:∀ p v,outN (CG M).1 p v=outN M p v:=by
    intro p v
    unfold outN oneN
    rw[hpl];rfl
   generalize (CG M).1=N at *
   generalize (CG M).2=e at *
   generalize (Bn (Bb M) xs).2.1=ms at *
   unfold Hd
   by_cases k1:e.k=1
   · rw[if_pos k1,if_pos k1];exact⟨ms,rfl,X1,X2,X3⟩
   rw[if_neg k1,if_neg k1]
   by_cases k2:e.k=2
   · rw[if_pos k2,if_pos k2]
     obtain⟨m',n',o1,o2,o3,o4,o5,o6⟩:=outP_agree (M:=N) (xs:=ms) (ys:=N.m) (port:=e.p) (v:=e.v) X1 (he.o k2).2.2.1 hdk hnc (by show Sub (outN N e.p e.v) S;rw[hout];exact X4 k2)
     refine ⟨m',?_,?_,X2.trans o5,?_⟩
     · rw[o1,o3]
     · show Agree S m' (Be N e.p e.v).1.m
       rw[o2];exact o4
     · show Rest S M.m (Be N e.p e.v).1.m
       rw[o2];exact X3.trans o6
   rw[if_neg k2,if_neg k2]
   by_cases k3:e.k=3
   · rw[if_pos k3,if_pos k3];exact⟨ms,rfl,X1,X2,X3⟩
   rw[if_neg k3,if_neg k3]
   by_cases k4:e.k=4
   · rw[if_pos k4,if_pos k4];exact⟨ms,rfl,X1,X2,X3⟩
   rw[if_neg k4,if_neg k4];exact⟨ms,rfl,X1,X2,X3⟩
def Cx (d:List Bool):Nat→List Int
 | 0=>[]
 | k+1=>if d[k]?=some true then Cx d k++[(k:Int)] else Cx d k
def DX (d:List Bool) (fs:List Int):List Bool:=fs.foldl (fun d f=>d.set f.toNat true) d
def Es (ys xs:List Int) (fs:List Int):List Int:=fs.foldl (fun ys f=>A0 ys f (Bh xs f)) ys
theorem Xz84 {P:Prop} (h:P:=by
  constructor
  · rintro (⟨i,hi,rfl,h2⟩|rfl)
    · exact⟨i,by omega,rfl,h2⟩
    · exact⟨k,by omega,rfl,h⟩
  · rintro⟨i,hi,rfl,h2⟩
    by_cases e:i=k
    · exact .inr (by rw[e])
    · exact .inl ⟨i,by omega,rfl,h2⟩):P:=h
theorem setL_mem {d:List Bool}:∀ {k:Nat} {f:Int},f∈Cx d k↔∃ i:Nat,i<k∧f=i∧d[i]?=some true
 | 0,f=>by simp [Cx]
 | k+1,f=>by
   unfold Cx
   split
   · rename_i h
     rw[List.mem_append,List.mem_singleton,setL_mem]
     exact Xz84
   · rename_i h
     rw[setL_mem]
     constructor
     · rintro⟨i,hi,rfl,h2⟩
       exact⟨i,by omega,rfl,h2⟩
     · rintro⟨i,hi,rfl,h2⟩
       by_cases e:i=k
       · rw[e] at h2;exact absurd h2 h
       · exact⟨i,by omega,rfl,h2⟩
theorem J9 (d:List Bool) (k:Nat):(Cx d k).length≤k:=by
 induction k with
 | zero=>exact nlr _
 | succ k ih =>
   unfold Cx
   split
   · rw[List.length_append,List.length_singleton];omega
   · omega
/-! ## A page of bytes and back -/
theorem Hi {s:List UInt8} {k:Nat} {b:UInt8} (h:s[k]?=some b):BD ⟨s.toArray⟩ k=(b.toNat:Int):=by
 unfold BD
 rw[List.getElem?_toArray,h];rfl
theorem flat4 (xs:List Int):∀ (k j:Nat),j<4→∀ x,xs[k]?=some x→(xs.flatMap EX)[4*k+j]?=(EX x)[j]?:=by
 induction xs with
 | nil=>intro k j _ x hx;cases hx
 | cons y ys ih =>
   intro k j hj x hx
   rw[List.flatMap_cons]
   have hl:(EX y).length=4:=rfl
   cases k with
   | zero =>
     have e:y=x:=by simpa using hx
     rw[e,Nat.mul_zero,Nat.zero_add,List.getElem?_append_left (by rw[←e,hl];exact hj)]
   | succ k =>
     rw[List.getElem?_append_right (by rw[hl];omega),hl,show 4*(k+1)+j - 4=4*k+j by omega]
     exact ih k j hj x (by simpa using hx)
theorem wordS_text {xs:List Int} (hw:Words xs) {k:Nat} {x:Int} (h:xs[k]?=some x):EI (DL xs) k=x:=by
 have hx:=hw k x h
 have b0:=Hi ((flat4 xs k 0 (by decide) x h).trans (show (EX x)[0]?=some (Do x 0) from rfl))
 have b1:=Hi ((flat4 xs k 1 (by decide) x h).trans (show (EX x)[1]?=some (Do x 1) from rfl))
 have b2:=Hi ((flat4 xs k 2 (by decide) x h).trans (show (EX x)[2]?=some (Do x 2) from rfl))
 have b3:=Hi ((flat4 xs k 3 (by decide) x h).trans (show (EX x)[3]?=some (Do x 3) from rfl))
 rw[Nat.add_zero] at b0
 unfold EI DL
 rw[b0,b1,b2,b3,CK hx.1,CK hx.1,CK hx.1,CK hx.1]
 show x / 1 % 256+256*(x / 256 % 256)+65536*(x / 65536 % 256)+16777216*(x / 16777216 % 256)=x
 omega
theorem rg_fill (ys:List Int) (p:Nat) (s:ByteArray):∀ (k i:Nat),k≤32→p*32+32≤ys.length→rg (F4 ys p s k) i=if p*32≤i∧i<p*32+k then EI s (i - p*32) else rg ys i
 | 0,i,_,_=>by rw[if_neg (by omega)];rfl
 | k+1,i,hk,hp=>by
   have ih:=rg_fill ys p s k i (by omega) hp
   show rg ((F4 ys p s k).set (p*32+k) (EI s k)) i=_
   rw[FN (by rw[C8];omega),ih]
   by_cases e:p*32+k=i
   · rw[if_pos e,if_pos (by omega),show i - p*32=k by omega]
   · rw[if_neg e]
     by_cases h:p*32≤i∧i<p*32+k
     · rw[if_pos h,if_pos (by omega)]
     · rw[if_neg h,if_neg (by omega)]
theorem pageB_word {xs:List Int} (hw:Words xs) {p k:Nat} (hk:k<32) (hp:p*32+32≤xs.length):EI (Bh xs p) k=rg xs (p*32+k):=by
 have hx:(Ez xs p)[k]?=some (rg xs (p*32+k)):=by
  unfold Ez
  rw[List.getElem?_take,if_pos hk,List.getElem?_drop]
  unfold rg
  rw[List.getElem?_eq_getElem (by omega)];rfl
 rw[GW]
 exact wordS_text (hw.page p) hx
theorem rg_copied {xs ys:List Int} (hw:Words xs) (hl:ys.length=xs.length) {p:Nat} (hp:p*32+32≤xs.length) (i:Nat):rg (A0 ys p (Bh xs p)) i=if i / 32=p then rg xs i else rg ys i:=by
 unfold A0
 rw[Int.toNat_natCast,rg_fill _ _ _ _ _ (nlr _) (by omega)]
 by_cases h:i / 32=p
 · rw[if_pos (by omega),if_pos h,pageB_word hw (by omega) hp,show p*32+(i - p*32)=i by omega]
 · rw[if_neg (by omega),if_neg h]
theorem takeL_cons (ys xs:List Int) (f:Int) (fs:List Int):Es ys xs (f :: fs)=Es (A0 ys f (Bh xs f)) xs fs:=by unfold Es;rw[List.foldl_cons]
theorem Hr (ys xs fs:List Int):(Es ys xs fs).length=ys.length:=by
 unfold Es
 induction fs generalizing ys with
 | nil=>rfl
 | cons f fs ih=>rw[List.foldl_cons,ih,A0];exact C8 _ _ _ _
theorem rg_take {xs:List Int} (hw:Words xs) (hm:xs.length % 32=0):∀ (fs ys:List Int),ys.length=xs.length→(∀ f∈fs,∃ p:Nat,f=p∧p<xs.length / 32)→∀ i:Nat,rg (Es ys xs fs) i=if ((i / 32:Nat):Int)∈fs then rg xs i else rg ys i
 | [],ys,_,_,i=>by rw[if_neg (by simp)];unfold Es;rw[List.foldl_nil]
 | f :: fs,ys,hl,hf,i=>by
   obtain⟨p,rfl,hp⟩:=hf _ (List.mem_cons_self ..)
   have hl2:(A0 ys p (Bh xs p)).length=xs.length:=by unfold A0;rw[C8];exact hl
   have ih:=rg_take hw hm fs (A0 ys p (Bh xs p)) hl2 (fun g hg=>hf g (List.mem_cons_of_mem _ hg)) i
   rw[takeL_cons,ih,rg_copied hw hl (by omega)]
   by_cases h1:((i / 32:Nat):Int)∈fs
   · rw[if_pos h1,if_pos (List.mem_cons_of_mem _ h1)]
   · rw[if_neg h1]
     by_cases h2:i / 32=p
     · rw[if_pos h2,if_pos (by rw[h2];exact List.mem_cons_self ..)]
     · rw[if_neg h2,if_neg (fun e=>?_)]
       rcases List.mem_cons.1 e with e|e
       · exact h2 (by omega)
       · exact h1 e
theorem rg_ext {xs ys:List Int} (hl:xs.length=ys.length) (h:∀ i,i<xs.length→rg xs i=rg ys i):xs=ys:=by
 apply List.ext_getElem?
 intro i
 by_cases hi:i<xs.length
 · exact Hv hl (h i hi)
 · rw[List.getElem?_eq_none (by omega),List.getElem?_eq_none (by omega)]
theorem take_all {xs ys:List Int} {d:List Bool} (hw:Words xs) (hm:xs.length % 32=0) (hl:ys.length=xs.length) (hd:d.length=xs.length / 32) (h:∀ i,i<xs.length→d[i / 32]?=some true∨rg ys i=rg xs i):Es ys xs (Cx d d.length)=xs:=by
 refine rg_ext (by rw[Hr];exact hl) (fun i hi=>?_)
 rw[Hr,hl] at hi
 rw[rg_take hw hm _ _ hl (fun f hf=>by
  obtain⟨j,hj,rfl,_⟩:=setL_mem.1 hf
  exact⟨j,rfl,by omega⟩)]
 rcases h i hi with h|h
 · rw[if_pos (setL_mem.2 ⟨i / 32,by omega,rfl,h⟩)]
 · rw[h];split <;> rfl
/-! ## The pages that differ -/
theorem page_rg {xs ys:List Int} {k:Nat} (hl:ys.length=xs.length) (hk:k*32+32≤xs.length):BV xs k=BV ys k↔∀ i,i / 32=k→rg xs i=rg ys i:=by
 constructor
 · intro h i hi
   have e:(BV xs k)[i - k*32]?=(BV ys k)[i - k*32]?:=by rw[h]
   unfold BV at e
   rw[List.getElem?_take,List.getElem?_take,if_pos (by omega),if_pos (by omega),List.getElem?_drop,List.getElem?_drop,show k*32+(i - k*32)=i by omega] at e
   unfold rg;rw[e]
 · intro h
   unfold BV
   apply List.ext_getElem?
   intro i
   rw[List.getElem?_take,List.getElem?_take]
   split
   · rw[List.getElem?_drop,List.getElem?_drop]
     exact Hv hl.symm (h _ (by omega))
   · rfl
theorem chL_mem {xs ys:List Int}:∀ {k:Nat} {f:Int},f∈chL xs ys k↔∃ i:Nat,i<k∧f=i∧BV xs i≠BV ys i
 | 0,f=>by simp [chL]
 | k+1,f=>by
   unfold chL
   split
   · rename_i h
     rw[chL_mem]
     constructor
     · rintro⟨i,hi,rfl,h2⟩;exact⟨i,by omega,rfl,h2⟩
     · rintro⟨i,hi,rfl,h2⟩
       by_cases e:i=k
       · rw[e] at h2;exact absurd h h2
       · exact⟨i,by omega,rfl,h2⟩
   · rename_i h
     rw[List.mem_append,List.mem_singleton,chL_mem]
     exact Xz84
theorem chL_self (xs:List Int) (k:Nat):chL xs xs k=[]:=by
 induction k with
 | zero=>rfl
 | succ k ih=>rw[chL,if_pos rfl,ih]
theorem noteL_len (d:List Bool) (fs:List Int):(DX d fs).length=d.length:=by
 unfold DX
 induction fs generalizing d with
 | nil=>rfl
 | cons f fs ih=>rw[List.foldl_cons,ih,List.length_set]
theorem noteL_at {d:List Bool}:∀ {fs:List Int} {i:Nat},(∀ f∈fs,0≤f)→i<d.length→((DX d fs)[i]?=some true↔d[i]?=some true∨(i:Int)∈fs)
 | [],i,_,_=>by simp [DX]
 | f :: fs,i,hf,hi=>by
   have h0:=hf f (List.mem_cons_self ..)
   have ih:=noteL_at (d:=d.set f.toNat true) (fs:=fs) (i:=i) (fun g hg=>hf g (List.mem_cons_of_mem _ hg)) (by rw[List.length_set];exact hi)
   show (DX (d.set f.toNat true) fs)[i]?=some true↔_
   rw[ih,List.mem_cons]
   by_cases e:f.toNat=i
   · rw[e,List.getElem?_set_self hi]
     have:(i:Int)=f:=by omega
     constructor
     · intro _;exact .inr (.inl this)
     · intro _;exact .inl rfl
   · rw[List.getElem?_set_ne e]
     have:(i:Int)≠f:=by omega
     constructor
     · rintro (h|h)
       · exact .inl h
       · exact .inr (.inr h)
     · rintro (h|h|h)
       · exact .inl h
       · exact absurd h this
       · exact .inr h
theorem flatS_at {α:Type} {enc:α→List Value} {k:Nat} (hk:∀ x,(enc x).length=k):∀ (xs:List α) (i j:Nat) (x:α),xs[i]?=some x→j<k→(xs.flatMap enc)[i*k+j]?=(enc x)[j]?
 | [],i,j,x,h,_=>by cases h
 | y :: ys,0,j,x,h,hj=>by
   have e:y=x:=by simpa using h
   subst e
   rw[List.flatMap_cons,Nat.zero_mul,Nat.zero_add,List.getElem?_append_left (by rw[hk];exact hj)]
 | y :: ys,i+1,j,x,h,hj=>by
   have e:(i+1)*k+j=k+(i*k+j):=by rw[Nat.succ_mul];omega
   rw[List.flatMap_cons,e,List.getElem?_append_right (by rw[hk];omega),hk,Nat.add_sub_cancel_left]
   exact flatS_at hk ys i j x (by simpa using h) hj
def RdS {α:Type} (enc:α→List Value) (k:Nat) (w:World) (v:Value) (xs:List α):Prop :=
 ∃ (ao:Option Addr) (cap:Nat),v=.slice ao xs.length cap∧xs.length≤cap∧cap≤maxLen ∧
  (xs=[]∨∃ b off,ao=some ⟨b,off,none⟩∧b<w.heap.size∧∀ (i:Nat) (x:α),xs[i]?=some x→∀ (j:Nat) (u:Value),(enc x)[j]?=some u→w.cell? ⟨b,off+i*k+j,none⟩=some u)
theorem RdS.below {α:Type} {enc:α→List Value} {k:Nat} {w w':World} {v:Value} {xs:List α} (h:RdS enc k w v xs) (hb:Below w.heap.size w w'):RdS enc k w' v xs:=by
 obtain⟨ao,cap,hv,h1,h2,h3⟩:=h
 refine ⟨ao,cap,hv,h1,h2,?_⟩
 rcases h3 with h3|⟨b,off,ha,hlt,hc⟩
 · exact .inl h3
 · exact .inr ⟨b,off,ha,Nat.lt_of_lt_of_le hlt hb.size,fun i x hx j u hu=>(hb.cell (p:=⟨b,_,none⟩) hlt).trans (hc i x hx j u hu)⟩
theorem RdS.nil {α:Type} (enc:α→List Value) (k:Nat) (w:World):RdS enc k w (.slice none 0 0) []:=⟨none,0,rfl,nlr _,Nat.zero_le _,.inl rfl⟩
theorem RdS.of_owns {α:Type} {enc:α→List Value} {k:Nat} (hk:∀ x,(enc x).length=k) {w:World} {base:Nat} {e:TypeId} {v:Value} {xs:List α} (h:w.ownsRow base e k v xs.length (xs.flatMap enc)):RdS enc k w v xs:=by
 obtain⟨hl,h⟩:=h
 rcases h with ⟨rfl,h0⟩|⟨g,cap,cur,rfl,hb,hg,hn,hm,hs,ht⟩
 · cases xs with
   | nil=>exact RdS.nil enc k w
   | cons x xs =>
     have:(x :: xs).length=0:=by first|exact h0|(simpa using h0)|omega
     cases this
 · refine ⟨_,cap,rfl,hn,hm,.inr ⟨g,0,rfl,(Array.getElem?_eq_some_iff.1 hg).1,fun i x hx j u hu=>?_⟩⟩
   have hj:=AJ hu
   rw[hk] at hj
   have hf:=flatS_at hk xs i j x hx hj
   rw[hu,←ht,List.getElem?_take] at hf
   split at hf
   · rw[Nat.zero_add,cell_of_row w g (i*k+j) cur e (0,0) hg]
     simpa using hf
   · cases hf
theorem RdS.open {α:Type} {enc:α→List Value} {k:Nat} {w:World} {v:Value} {xs:List α} (h:RdS enc k w v xs):∃ ao cap,v=.slice ao xs.length cap∧xs.length≤cap∧cap≤maxLen∧RdS enc k w (.slice ao xs.length cap) xs:=by
 obtain⟨ao,cap,rfl,h1,h2,h3⟩:=h
 exact⟨ao,cap,rfl,h1,h2,ao,cap,rfl,h1,h2,h3⟩
theorem RdS.at {α:Type} {enc:α→List Value} {k n cap:Nat} {w:World} {ao:Option Addr} {xs:List α} (h:RdS enc k w (.slice ao n cap) xs) (h0:0<n):n=xs.length∧∃ b off,ao=some ⟨b,off,none⟩∧b<w.heap.size∧n≤cap∧cap≤maxLen∧∀ (i:Nat) (x:α),xs[i]?=some x→∀ (j:Nat) (u:Value),(enc x)[j]?=some u→w.cell? ⟨b,off+i*k+j,none⟩=some u:=by
 obtain⟨ao',cap',hv,h1,h2,h3⟩:=h
 injection hv with e1 e2 e3
 subst e1 e3
 refine ⟨e2,?_⟩
 rcases h3 with h3|⟨b,off,ha,hlt,hc⟩
 · rw[h3] at e2;simp at e2;omega
 · exact⟨b,off,ha,hlt,by omega,h2,hc⟩
section
variable {P:Program} {ops:Array Oper} {rest:List Oper} {op:Oper} {a:Act} {w:World} {Q:Exit→Act→World→Prop} {B o:Nat} {ty:TypeId} {x:Operand} {d:TypeDesc}
theorem CD (vs:List Value) (hgd:op.guard=none) (ho:op.op=.load ty x) (hx:a.eval x=.pointer (some ⟨B,o,none⟩)) (hu:P.underlying ty=some d) (hd:d.isRow=true) (hi:(P.info? ty).map (·.size)=some vs.length)
    (hc:∀ (j:Nat) (u:Value),vs[j]?=some u→w.cell? ⟨B,o+j,none⟩=some u) (h:wpList P ops Q rest (a.put op.dst (.agg vs.toArray)) w):wpList P ops Q (op :: rest) a w :=
 wpList_load_mid hgd ty x ho B o hx vs d hc hu hd hi h
theorem Au {u:Value} (ho:op.op=.load ty x) (hx:a.eval x=.pointer (some ⟨B,o,none⟩)) (hu:P.underlying ty=some d) (hd:d.isRow=false) (hc:w.cell? ⟨B,o,none⟩=some u):(execOp a.eval op).run P w=.ok (.value u) w:=by
 have hl:(loadVar ty ⟨B,o,none⟩).run P w=.ok u w:=by
  exact Xz42
 unfold execOp
 simp only[ho,hx,Instr.loadAt,Instr.sureAddr,Sem.run_bind,Sem.run_pure,Result.andThen_ok,hl]
theorem quiet_run {C:World→Prop} {K:Act→Prop} {u:Value} (hr:∀ w,(execOp a.eval op).run P w=.ok (.value u) w) (h:K (a.put op.dst u)):op.quiet P a C K :=
 ⟨_,fun w' _=>by
   unfold Oper.quietAt
   rw[hr]
   exact⟨rfl,rfl⟩,h⟩
end
def DW (x:Int) (j:Nat):Int:=if j=0 then x % 256 else if j=1 then x / 256 % 256 else if j=2 then x / 65536 % 256 else x / 16777216
theorem word_ext {x y:Int} (hx:0≤x∧x<4294967296) (hy:0≤y∧y<4294967296) (h:∀ j,j<4→DW x j=DW y j):x=y:=by
 have h0:x % 256=y % 256:=h 0 (by decide)
 have h1:x / 256 % 256=y / 256 % 256:=h 1 (by decide)
 have h2:x / 65536 % 256=y / 65536 % 256:=h 2 (by decide)
 have h3:x / 16777216=y / 16777216:=h 3 (by decide)
 omega
theorem byteOf_in {x v:Int} (hx:0≤x∧x<4294967296) (hv:0≤v∧v<256) {r j:Nat} (hr:r<4) (hj:j<4):DW (ED x r v) j=if r=j then v else DW x j:=by
 unfold DW ED
 obtain rfl|rfl|rfl|rfl:r=0∨r=1∨r=2∨r=3:=by omega
 all_goals (obtain rfl|rfl|rfl|rfl:j=0∨j=1∨j=2∨j=3:=by omega)
 all_goals (simp;try omega)
theorem Xz119 {P:Prop} (h:P:=by
  by_cases h:p*128≤4*i+j∧4*i+j<p*128+k
  · rw[if_pos h,if_pos (by omega)]
  · rw[if_neg h,if_neg (by omega)]):P:=h
theorem Jr {xs:List Int} (hm:MemOk xs) {p:Nat} (hp:p*32+32≤xs.length) (s:ByteArray):∀ (k i j:Nat),k≤128→j<4 →
    DW (rg (E9 xs p s k) i) j=if p*128≤4*i+j∧4*i+j<p*128+k then BD s (4*i+j - p*128) else DW (rg xs i) j
 | 0,i,j,_,_=>by rw[if_neg (by omega)];rfl
 | k+1,i,j,hk,hj=>by
   have ih:=Jr hm hp s k i j (by omega) hj
   have hok:=fillB_ok hm p s k
   have hlen:=Gp xs p s k
   have hb:=Cr s k
   show DW (rg (BO (E9 xs p s k) (p*128+k) 1 (BD s k)) i) j=_
   unfold BO
   rw[if_pos rfl,show ((p:Int)*128+k) / 4=((p*32+k / 4:Nat):Int) by omega,Int.toNat_natCast,FN (by rw[hlen];omega)]
   by_cases e:p*32+k / 4=i
   · rw[if_pos e]
     have hw:A5 (E9 xs p s k) (p*128+k)=rg (E9 xs p s k) i:=by
      unfold A5
      rw[show (((p:Int)*128+k) / 4).toNat=i by omega]
     rw[hw,show ((p:Int)*128+k) % 4=((k % 4:Nat):Int) by omega]
     rw[byteOf_in (Bg hok.w i) hb (by omega) hj,ih]
     by_cases ej:k % 4=j
     · rw[if_pos ej,if_pos (by omega),show 4*i+j - p*128=k by omega]
     · rw[if_neg ej]
       exact Xz119
   · rw[if_neg e,ih]
     exact Xz119
theorem Jq (s:ByteArray) (m:Nat) {j:Nat} (hj:j<4):DW (EI s m) j=BD s (4*m+j):=by
 have h0:=Cr s (4*m);have h1:=Cr s (4*m+1);have h2:=Cr s (4*m+2);have h3:=Cr s (4*m+3)
 unfold DW EI
 obtain rfl|rfl|rfl|rfl:j=0∨j=1∨j=2∨j=3:=by omega
 · rw[if_pos rfl];show _=BD s (4*m);omega
 · rw[if_neg (by decide),if_pos rfl];omega
 · rw[if_neg (by decide),if_neg (by decide),if_pos rfl];omega
 · rw[if_neg (by decide),if_neg (by decide),if_neg (by decide)];omega
theorem fill_is {xs:List Int} (hm:MemOk xs) {p:Nat} (hp:p*32+32≤xs.length) (s t:ByteArray) (hs:s.size≤128) (ht:∀ i,i<128→BD t i=if i<s.size then BD s i else DW (rg xs (p*32+i / 4)) (i % 4)):E9 xs p s s.size=A0 xs p t:=by
 refine rg_ext (by rw[Gp,A0,C8]) (fun i _=>?_)
 have hb:=FJ hm p t
 refine word_ext (Bg (fillB_ok hm p s s.size).w i) (Bg hb.1.w i) (fun j hj=>?_)
 rw[Jr hm hp s s.size i j hs hj]
 unfold A0
 rw[Int.toNat_natCast,rg_fill _ _ _ _ _ (nlr _) hp]
 by_cases h:p*32≤i∧i<p*32+32
 · rw[if_pos h,Jq _ _ hj,ht _ (by omega)]
   by_cases h2:4*(i - p*32)+j<s.size
   · rw[if_pos h2,if_pos (by omega),show 4*i+j - p*128=4*(i - p*32)+j by omega]
   · rw[if_neg h2,if_neg (by omega),show p*32+(4*(i - p*32)+j) / 4=i by omega,show (4*(i - p*32)+j) % 4=j by omega]
 · rw[if_neg h,if_neg (by omega)]
theorem fill_whole {xs:List Int} (hm:MemOk xs) {p:Nat} (hp:p*32+32≤xs.length) (s:ByteArray) (hs:s.size=128):E9 xs p s s.size=A0 xs p s :=
 fill_is hm hp s s (by omega) (fun i hi=>by rw[if_pos (by omega)])
theorem byteI_app (a b:ByteArray) (i:Nat):BD (a++b) i=if i<a.size then BD a i else BD b (i - a.size):=by
 unfold BD
 rw[ByteArray.data_append]
 by_cases h:i<a.size
 · rw[if_pos h,Array.getElem?_append_left h]
 · rw[if_neg h,Array.getElem?_append_right (by show a.size≤i;omega)];rfl
theorem byteI_cut (a:ByteArray) (f n i:Nat) (h:f+i<n) (hn:n≤a.size):BD (a.extract f n) i=BD a (f+i):=by
 unfold BD
 rw[ByteArray.data_extract,Array.getElem?_extract,if_pos (by show i<min n a.data.size - f;have:a.data.size=a.size:=rfl;omega)]
theorem byteI_page {xs:List Int} (hw:Words xs) {p i:Nat} (hi:i<128) (hp:p*32+32≤xs.length):BD (Bh xs p) i=DW (rg xs (p*32+i / 4)) (i % 4):=by
 have h1:=Jq (Bh xs p) (i / 4) (show i % 4<4 by omega)
 rw[pageB_word hw (by omega) hp,show 4*(i / 4)+i % 4=i by omega] at h1
 exact h1.symm
theorem fill_recv {xs:List Int} (hm:MemOk xs) {p:Nat} (hp:p*32+32≤xs.length) (s:ByteArray) (hs:s.size≤128):E9 xs p s s.size=A0 xs p (s++(Bh xs p).extract s.size 128):=by
 have hsz:=Da hp
 refine fill_is hm hp s _ hs (fun i hi=>?_)
 rw[byteI_app]
 by_cases h:i<s.size
 · rw[if_pos h,if_pos h]
 · rw[if_neg h,if_neg h,byteI_cut _ _ _ _ (by omega) (by omega),show s.size+(i - s.size)=i by omega,byteI_page hm.w hi hp]
def Dc (base:Nat) (w:World) (r:Mc×Bool) (e:Ending) (w':World):Prop:=∃ v,e=.returned (.tuple #[.agg (mcL r.1 v).toArray,.bool r.2])∧OwnMem base w' v r.1.m∧Below w.heap.size w w'
section
variable {M:Mc} {v:Value} {w:World} {ev:Ev}
theorem Xz2 {P:Prop} (h:P:=by
  have L:=Lay.start w
  go_in
  go_wp2_with (first|(go_at_call 44;(with_reducible refine (HK.out _ _ (HA.out.below L.bel)).mono ?_);rintro ee wz ⟨v1,rfl,ho1,hb1⟩;obtain⟨g,capg,curg,rfl,R,L'⟩:=Lay.mem HN.out L ho1 hb1;replace L:=L';clear L' hb1 ho1)|(refine Ca (ty:=4) L 3 rfl (by rfl) rfl rfl τ4 rfl (hh' _) ?_)|(refine YL ?_)|((first|refine Yt (mcL M (.slice (some ⟨g,0,none⟩) n capg)) ?_|(go_at_call 38;(with_reducible refine zcl L (HY.out _ _ (RowBx.mem HN.out R h0 L (k:=0) rfl).row) ?_))|refine YS ?_);clear L;intro wz L))
  exact Yr2 ⟨_,rfl,RowBx.mem HN.out R h0 L (k:=0) rfl,L.bel⟩):P:=h
theorem app_halted (hM:M.Ok) (ha:MemRow w v M.m) (hh:M.h=true):Calls Tryz.prog 66 #[.agg (mcL M v).toArray,.agg (evL ev).toArray] w (Dc w.heap.size w (M,false)):=by
 have HA:=lh ha
 have h0:=hM.m.p
 have HK:=lh (fun v w h=>At v M.m w h (by have:=hM.m.q;omega))
 obtain⟨n,hn⟩:∃ n,M.m.length=n:=⟨_,rfl⟩
 have HN:=lh hn
 rw[hn] at h0
 have HY:=lh (fun v w h=>BF (v:=v) (w:=w) hM h)
 have hh':∀ v,(mcL M v)[48]?=some (.bool M.h):=fun _=>rfl
 rw[hh] at hh'
 clear hM ha hn hh
 exact Xz2
theorem app_timer (hM:M.Ok) (ha:MemRow w v M.m) (hh:M.h=false) (hk:ev.k=2) (h1:ev.n=0) (h2:ev.d.size=0):Calls Tryz.prog 66 #[.agg (mcL M v).toArray,.agg (evL ev).toArray] w (Dc w.heap.size w ({ M with tm:=(BT M.tm).1 },(BT M.tm).2)):=by
 have HA:=lh ha
 have h0:=hM.m.p
 have HK:=lh (fun v w h=>At v M.m w h (by have:=hM.m.q;omega))
 obtain⟨n,hn⟩:∃ n,M.m.length=n:=⟨_,rfl⟩
 have HN:=lh hn
 rw[hn] at h0
 have HY:=lh (fun v w h=>BF (v:=v) (w:=w) hM h)
 have hh':∀ v,(mcL M v)[48]?=some (.bool M.h):=fun _=>rfl
 rw[hh] at hh'
 have HF:=lh (fun w=>fire_any M.tm w)
 generalize (BT M.tm).1=t at *
 generalize (BT M.tm).2=b at *
 have hq:ev.d.toList.isEmpty=true:=by rw[isEmpty_iff];exact decide_eq_true h2
 clear hM ha hn hh h2
 have L:=Lay.start w
 go_in
 go_wp2_with (first|(go_at_call 44;(with_reducible refine (HK.out _ _ (HA.out.below L.bel)).mono ?_);rintro ee wz ⟨v1,rfl,ho1,hb1⟩;obtain⟨g,capg,curg,rfl,R,L'⟩:=Lay.mem HN.out L ho1 hb1;replace L:=L';clear L' hb1 ho1)|(refine Ca (ty:=4) L 3 rfl (by rfl) rfl rfl τ4 rfl (hh' _) ?_)|(refine Yp (tmL M.tm) ?_)|(refine YL ?_)|((first|refine Yt (mcL M (.slice (some ⟨g,0,none⟩) n capg)) ?_|(go_at_call 38;(with_reducible refine zcl L (HY.out _ _ (RowBx.mem HN.out R h0 L (k:=0) rfl).row) ?_))|refine Yu (mcL { M with tm:=t } (.slice (some ⟨g,0,none⟩) n capg)) ?_|refine YS ?_);clear L;intro wz L))
 exact Yr2 ⟨_,rfl,RowBx.mem HN.out R h0 L (k:=0) rfl,L.bel⟩
theorem app_key (hM:M.Ok) (ha:MemRow w v M.m) (hh:M.h=false) (hk:ev.k=3) (h1:0≤ev.n) (h1':ev.n≤255) (h2:ev.d.size=0):Calls Tryz.prog 66 #[.agg (mcL M v).toArray,.agg (evL ev).toArray] w (Dc w.heap.size w ({ M with keys:=(AV M.keys ev.n).1 },(AV M.keys ev.n).2)):=by
 have HA:=lh ha
 have h0:=hM.m.p
 have HK:=lh (fun v w h=>At v M.m w h (by have:=hM.m.q;omega))
 obtain⟨n,hn⟩:∃ n,M.m.length=n:=⟨_,rfl⟩
 have HN:=lh hn
 rw[hn] at h0
 have HY:=lh (fun v w h=>BF (v:=v) (w:=w) hM h)
 have hh':∀ v,(mcL M v)[48]?=some (.bool M.h):=fun _=>rfl
 rw[hh] at hh'
 have HF:∀ w,Calls Tryz.prog 129 #[.agg (DS M.keys).toArray,.int .u8 ev.n] w (Ret w (.tuple #[.agg (DS (AV M.keys ev.n).1).toArray,.bool (AV M.keys ev.n).2])):=fun w=>Ja M.keys ev.n w
 generalize (AV M.keys ev.n).1=t at *
 generalize (AV M.keys ev.n).2=b at *
 have HF:=lh HF
 have hq:ev.d.toList.isEmpty=true:=by rw[isEmpty_iff];exact decide_eq_true h2
 have hle:decide (ev.n≤255)=true:=decide_eq_true h1'
 have h8:ev.n % 256=ev.n:=by omega
 clear hM ha hn hh h2
 have L:=Lay.start w
 go_in
 go_wp2_with (first|(go_at_call 44;(with_reducible refine (HK.out _ _ (HA.out.below L.bel)).mono ?_);rintro ee wz ⟨v1,rfl,ho1,hb1⟩;obtain⟨g,capg,curg,rfl,R,L'⟩:=Lay.mem HN.out L ho1 hb1;replace L:=L';clear L' hb1 ho1)|(refine Ca (ty:=4) L 3 rfl (by rfl) rfl rfl τ4 rfl (hh' _) ?_)|(refine Yp (DS M.keys) ?_)|(refine YL ?_)|((first|refine Yt (mcL M (.slice (some ⟨g,0,none⟩) n capg)) ?_|(go_at_call 38;(with_reducible refine zcl L (HY.out _ _ (RowBx.mem HN.out R h0 L (k:=0) rfl).row) ?_))|refine Yu (mcL { M with keys:=t } (.slice (some ⟨g,0,none⟩) n capg)) ?_|refine YS ?_);clear L;intro wz L))
 exact Yr2 ⟨_,rfl,RowBx.mem HN.out R h0 L (k:=0) rfl,L.bel⟩
theorem app_target (hM:M.Ok) (ha:MemRow w v M.m) (hh:M.h=false) (hk:ev.k=6) (h1:0≤ev.n) (h2:ev.d.size=0):Calls Tryz.prog 66 #[.agg (mcL M v).toArray,.agg (evL ev).toArray] w (Dc w.heap.size w ({ M with T:=ev.n.toNat },true)):=by
 have HA:=lh ha
 have h0:=hM.m.p
 have HK:=lh (fun v w h=>At v M.m w h (by have:=hM.m.q;omega))
 obtain⟨n,hn⟩:∃ n,M.m.length=n:=⟨_,rfl⟩
 have HN:=lh hn
 rw[hn] at h0
 have HY:=lh (fun v w h=>BF (v:=v) (w:=w) hM h)
 have hh':∀ v,(mcL M v)[48]?=some (.bool M.h):=fun _=>rfl
 rw[hh] at hh'
 obtain⟨q,hq0⟩:∃ q:Nat,ev.n=q:=⟨ev.n.toNat,by omega⟩
 have he:(evL ev)[1]?=some (.int .u32 (q:Int)):=by rw[←hq0];rfl
 rw[hq0,Int.toNat_natCast]
 have hq:ev.d.toList.isEmpty=true:=by rw[isEmpty_iff];exact decide_eq_true h2
 clear hM ha hn hh h2 h1 hq0
 have L:=Lay.start w
 go_in
 go_wp2_with (first|(go_at_call 44;(with_reducible refine (HK.out _ _ (HA.out.below L.bel)).mono ?_);rintro ee wz ⟨v1,rfl,ho1,hb1⟩;obtain⟨g,capg,curg,rfl,R,L'⟩:=Lay.mem HN.out L ho1 hb1;replace L:=L';clear L' hb1 ho1)|(refine Ca (ty:=4) L 3 rfl (by rfl) rfl rfl τ4 rfl (hh' _) ?_)|(refine YL ?_)|((first|refine Yt (mcL M (.slice (some ⟨g,0,none⟩) n capg)) ?_|(go_at_call 38;(with_reducible refine zcl L (HY.out _ _ (RowBx.mem HN.out R h0 L (k:=0) rfl).row) ?_))|refine Yt (mcL { M with T:=q } (.slice (some ⟨g,0,none⟩) n capg)) ?_|refine YS ?_);clear L;intro wz L))
 exact Yr2 ⟨_,rfl,RowBx.mem HN.out R h0 L (k:=0) rfl,L.bel⟩
theorem app_timer_n (hM:M.Ok) (ha:MemRow w v M.m) (hh:M.h=false) (hk:ev.k=2) (h1:ev.n≠0):Calls Tryz.prog 66 #[.agg (mcL M v).toArray,.agg (evL ev).toArray] w (Dc w.heap.size w (M,false)):=by
 have HA:=lh ha
 have h0:=hM.m.p
 have HK:=lh (fun v w h=>At v M.m w h (by have:=hM.m.q;omega))
 obtain⟨n,hn⟩:∃ n,M.m.length=n:=⟨_,rfl⟩
 have HN:=lh hn
 rw[hn] at h0
 have HY:=lh (fun v w h=>BF (v:=v) (w:=w) hM h)
 have hh':∀ v,(mcL M v)[48]?=some (.bool M.h):=fun _=>rfl
 rw[hh] at hh'
 have hq:(ev.n == 0)=false:=by simpa using h1
 clear hM ha hn hh
 exact Xz2
theorem app_timer_d (hM:M.Ok) (ha:MemRow w v M.m) (hh:M.h=false) (hk:ev.k=2) (h1:ev.n=0) (h2:ev.d.size≠0):Calls Tryz.prog 66 #[.agg (mcL M v).toArray,.agg (evL ev).toArray] w (Dc w.heap.size w (M,false)):=by
 have HA:=lh ha
 have h0:=hM.m.p
 have HK:=lh (fun v w h=>At v M.m w h (by have:=hM.m.q;omega))
 obtain⟨n,hn⟩:∃ n,M.m.length=n:=⟨_,rfl⟩
 have HN:=lh hn
 rw[hn] at h0
 have HY:=lh (fun v w h=>BF (v:=v) (w:=w) hM h)
 have hh':∀ v,(mcL M v)[48]?=some (.bool M.h):=fun _=>rfl
 rw[hh] at hh'
 have hq:ev.d.toList.isEmpty=false:=(isEmpty_iff _).trans (decide_eq_false h2)
 clear hM ha hn hh
 exact Xz2
theorem app_key_n (hM:M.Ok) (ha:MemRow w v M.m) (hh:M.h=false) (hk:ev.k=3) (h1:¬ev.n≤255):Calls Tryz.prog 66 #[.agg (mcL M v).toArray,.agg (evL ev).toArray] w (Dc w.heap.size w (M,false)):=by
 have HA:=lh ha
 have h0:=hM.m.p
 have HK:=lh (fun v w h=>At v M.m w h (by have:=hM.m.q;omega))
 obtain⟨n,hn⟩:∃ n,M.m.length=n:=⟨_,rfl⟩
 have HN:=lh hn
 rw[hn] at h0
 have HY:=lh (fun v w h=>BF (v:=v) (w:=w) hM h)
 have hh':∀ v,(mcL M v)[48]?=some (.bool M.h):=fun _=>rfl
 rw[hh] at hh'
 have hq:decide (ev.n≤255)=false:=decide_eq_false h1
 clear hM ha hn hh
 exact Xz2
theorem app_key_d (hM:M.Ok) (ha:MemRow w v M.m) (hh:M.h=false) (hk:ev.k=3) (h1:ev.n≤255) (h2:ev.d.size≠0):Calls Tryz.prog 66 #[.agg (mcL M v).toArray,.agg (evL ev).toArray] w (Dc w.heap.size w (M,false)):=by
 have HA:=lh ha
 have h0:=hM.m.p
 have HK:=lh (fun v w h=>At v M.m w h (by have:=hM.m.q;omega))
 obtain⟨n,hn⟩:∃ n,M.m.length=n:=⟨_,rfl⟩
 have HN:=lh hn
 rw[hn] at h0
 have HY:=lh (fun v w h=>BF (v:=v) (w:=w) hM h)
 have hh':∀ v,(mcL M v)[48]?=some (.bool M.h):=fun _=>rfl
 rw[hh] at hh'
 have hq:ev.d.toList.isEmpty=false∧decide (ev.n≤255)=true:=⟨(isEmpty_iff _).trans (decide_eq_false h2),decide_eq_true h1⟩
 clear hM ha hn hh
 exact Xz2
theorem app_net_n (hM:M.Ok) (ha:MemRow w v M.m) (hh:M.h=false) (hk:ev.k=5) (h1:ev.n≠0):Calls Tryz.prog 66 #[.agg (mcL M v).toArray,.agg (evL ev).toArray] w (Dc w.heap.size w (M,false)):=by
 have HA:=lh ha
 have h0:=hM.m.p
 have HK:=lh (fun v w h=>At v M.m w h (by have:=hM.m.q;omega))
 obtain⟨n,hn⟩:∃ n,M.m.length=n:=⟨_,rfl⟩
 have HN:=lh hn
 rw[hn] at h0
 have HY:=lh (fun v w h=>BF (v:=v) (w:=w) hM h)
 have hh':∀ v,(mcL M v)[48]?=some (.bool M.h):=fun _=>rfl
 rw[hh] at hh'
 have hq:(ev.n == 0)=false:=by simpa using h1
 clear hM ha hn hh
 exact Xz2
theorem app_bal_d (hM:M.Ok) (ha:MemRow w v M.m) (hh:M.h=false) (hk:ev.k=6) (h2:ev.d.size≠0):Calls Tryz.prog 66 #[.agg (mcL M v).toArray,.agg (evL ev).toArray] w (Dc w.heap.size w (M,false)):=by
 have HA:=lh ha
 have h0:=hM.m.p
 have HK:=lh (fun v w h=>At v M.m w h (by have:=hM.m.q;omega))
 obtain⟨n,hn⟩:∃ n,M.m.length=n:=⟨_,rfl⟩
 have HN:=lh hn
 rw[hn] at h0
 have HY:=lh (fun v w h=>BF (v:=v) (w:=w) hM h)
 have hh':∀ v,(mcL M v)[48]?=some (.bool M.h):=fun _=>rfl
 rw[hh] at hh'
 have hq:ev.d.toList.isEmpty=false:=(isEmpty_iff _).trans (decide_eq_false h2)
 clear hM ha hn hh
 exact Xz2
theorem app_other (hM:M.Ok) (ha:MemRow w v M.m) (hh:M.h=false) (hk:ev.k<2∨6<ev.k):Calls Tryz.prog 66 #[.agg (mcL M v).toArray,.agg (evL ev).toArray] w (Dc w.heap.size w (M,false)):=by
 have HA:=lh ha
 have h0:=hM.m.p
 have HK:=lh (fun v w h=>At v M.m w h (by have:=hM.m.q;omega))
 obtain⟨n,hn⟩:∃ n,M.m.length=n:=⟨_,rfl⟩
 have HN:=lh hn
 rw[hn] at h0
 have HY:=lh (fun v w h=>BF (v:=v) (w:=w) hM h)
 have hh':∀ v,(mcL M v)[48]?=some (.bool M.h):=fun _=>rfl
 rw[hh] at hh'
 have n2:(ev.k == 2)=false:=by rw[beq_eq_false_iff_ne];omega
 have n3:(ev.k == 3)=false:=by rw[beq_eq_false_iff_ne];omega
 have n4:(ev.k == 4)=false:=by rw[beq_eq_false_iff_ne];omega
 have n5:(ev.k == 5)=false:=by rw[beq_eq_false_iff_ne];omega
 have n6:(ev.k == 6)=false:=by rw[beq_eq_false_iff_ne];omega
 clear hM ha hn hh hk
 exact Xz2
end
theorem GP (xs:List Int) (f:Int) (s:ByteArray):(A0 xs f s).length=xs.length:=C8 _ _ _ _
theorem dkComp_len (d:Dk) (xs:List Int) (e:Ev):(AS d xs e).2.1.length=xs.length:=by
 unfold AS
 split
 · rfl
 · split
   · split
     · dsimp only;rw[GP]
     · rfl
   · split <;> rfl
theorem ncRecv_len (c:Nc) (xs:List Int) (s:ByteArray):(AR c xs s).2.1.length=xs.length:=by
 unfold AR
 split
 · dsimp only;rw[GP]
 · rfl
section
variable {M:Mc} {v:Value} {w:World} {ev:Ev}
theorem app_disk (hM:M.Ok) (ha:MemRow w v M.m) (hh:M.h=false) (hk:ev.k=4) (h1:0≤ev.n):Calls Tryz.prog 66 #[.agg (mcL M v).toArray,.agg (evL ev).toArray] w (Dc w.heap.size w ({ M with dk:=(AS M.dk M.m ev).1,m:=(AS M.dk M.m ev).2.1 },(AS M.dk M.m ev).2.2)):=by
 have HA:=lh ha
 have h0:=hM.m.p
 have HK:=lh (fun v w h=>At v M.m w h (by have:=hM.m.q;omega))
 obtain⟨n,hn⟩:∃ n,M.m.length=n:=⟨_,rfl⟩
 have HN:=lh hn
 rw[hn] at h0
 have HY:=lh (fun v w h=>BF (v:=v) (w:=w) hM h)
 have hh':∀ v,(mcL M v)[48]?=some (.bool M.h):=fun _=>rfl
 rw[hh] at hh'
 have HC:=fun v w h=>dkcomp_any (d:=M.dk) (va:=v) (xs:=M.m) (e:=ev) (w:=w) h hM.m hM.dk hk h1
 have hl:=dkComp_len M.dk M.m ev
 generalize (AS M.dk M.m ev).1=d' at *
 generalize (AS M.dk M.m ev).2.1=m2 at *
 generalize (AS M.dk M.m ev).2.2=b at *
 obtain⟨n2,hn2⟩:∃ n,m2.length=n:=⟨_,rfl⟩
 have HN2:=lh hn2
 have h02:0<n2:=by omega
 have HCC:=lh HC
 clear hM ha hn hh HC hl hn2 h1
 have L:=Lay.start w
 go_in
 go_wp2_with (first|(go_at_call 44;(with_reducible refine (HK.out _ _ (HA.out.below L.bel)).mono ?_);rintro ee wz ⟨v1,rfl,ho1,hb1⟩;obtain⟨g,capg,curg,rfl,R,L'⟩:=Lay.mem HN.out L ho1 hb1;replace L:=L';clear L' hb1 ho1)|(refine Ca (ty:=4) L 3 rfl (by rfl) rfl rfl τ4 rfl (hh' _) ?_)|(refine Yp (dkL M.dk) ?_)|(refine YL ?_)|((first|refine Yt (mcL M (.slice (some ⟨g,0,none⟩) n capg)) ?_|(go_at_call 38;(with_reducible refine zcl L (HY.out _ _ (RowBx.mem HN.out R h0 L (k:=0) rfl).row) ?_))|refine YS ?_);clear L;intro wz L))
 refine (HCC.out _ _ (RowBx.mem HN.out R h0 L (k:=0) rfl).row).mono ?_
 rintro ee w1 ⟨v1,rfl,ho1,hb1⟩
 obtain⟨g2,capg2,curg2,rfl,R2,L'⟩:=Lay.mem HN2.out L ho1 hb1
 replace L:=L'
 clear L' hb1 ho1
 go_wp2_with (first|(refine YL ?_)|((first|refine Yu (mcL { M with dk:=d' } (.slice (some ⟨g,0,none⟩) n capg)) ?_|refine Yt (mcL { M with dk:=d',m:=m2 } (.slice (some ⟨g2,0,none⟩) n2 capg2)) ?_|refine YS ?_);clear L;intro wz L))
 exact Yr2 ⟨_,rfl,RowBx.mem HN2.out R2 h02 L (k:=0) rfl,L.bel⟩
theorem app_net (hM:M.Ok) (ha:MemRow w v M.m) (hh:M.h=false) (hk:ev.k=5) (h1:ev.n=0):Calls Tryz.prog 66 #[.agg (mcL M v).toArray,.agg (evL ev).toArray] w (Dc w.heap.size w ({ M with nc:=(AR M.nc M.m ev.d).1,m:=(AR M.nc M.m ev.d).2.1 },(AR M.nc M.m ev.d).2.2)):=by
 have HA:=lh ha
 have h0:=hM.m.p
 have HK:=lh (fun v w h=>At v M.m w h (by have:=hM.m.q;omega))
 obtain⟨n,hn⟩:∃ n,M.m.length=n:=⟨_,rfl⟩
 have HN:=lh hn
 rw[hn] at h0
 have HY:=lh (fun v w h=>BF (v:=v) (w:=w) hM h)
 have hh':∀ v,(mcL M v)[48]?=some (.bool M.h):=fun _=>rfl
 rw[hh] at hh'
 have HC:=fun v w h=>ncrecv_any (c:=M.nc) (va:=v) (xs:=M.m) (D:=ev.d) (w:=w) h hM.m hM.nc
 have hl:=ncRecv_len M.nc M.m ev.d
 generalize (AR M.nc M.m ev.d).1=d' at *
 generalize (AR M.nc M.m ev.d).2.1=m2 at *
 generalize (AR M.nc M.m ev.d).2.2=b at *
 obtain⟨n2,hn2⟩:∃ n,m2.length=n:=⟨_,rfl⟩
 have HN2:=lh hn2
 have h02:0<n2:=by omega
 have HCC:=lh HC
 clear hM ha hn hh HC hl hn2
 have L:=Lay.start w
 go_in
 go_wp2_with (first|(go_at_call 44;(with_reducible refine (HK.out _ _ (HA.out.below L.bel)).mono ?_);rintro ee wz ⟨v1,rfl,ho1,hb1⟩;obtain⟨g,capg,curg,rfl,R,L'⟩:=Lay.mem HN.out L ho1 hb1;replace L:=L';clear L' hb1 ho1)|(refine Ca (ty:=4) L 3 rfl (by rfl) rfl rfl τ4 rfl (hh' _) ?_)|(refine Yp (ncL M.nc) ?_)|(refine YL ?_)|((first|refine Yt (mcL M (.slice (some ⟨g,0,none⟩) n capg)) ?_|(go_at_call 38;(with_reducible refine zcl L (HY.out _ _ (RowBx.mem HN.out R h0 L (k:=0) rfl).row) ?_))|refine YS ?_);clear L;intro wz L))
 refine (HCC.out _ _ (RowBx.mem HN.out R h0 L (k:=0) rfl).row).mono ?_
 rintro ee w1 ⟨v1,rfl,ho1,hb1⟩
 obtain⟨g2,capg2,curg2,rfl,R2,L'⟩:=Lay.mem HN2.out L ho1 hb1
 replace L:=L'
 clear L' hb1 ho1
 go_wp2_with (first|(refine YL ?_)|((first|refine Yu (mcL { M with nc:=d' } (.slice (some ⟨g,0,none⟩) n capg)) ?_|refine Yt (mcL { M with nc:=d',m:=m2 } (.slice (some ⟨g2,0,none⟩) n2 capg2)) ?_|refine YS ?_);clear L;intro wz L))
 exact Yr2 ⟨_,rfl,RowBx.mem HN2.out R2 h02 L (k:=0) rfl,L.bel⟩
theorem Xz82 {P:Prop} (h:P:=by
  have e1:BT M.tm=(M.tm,false):=by unfold BT;rw[if_neg (by rw[hta];decide)]
  rw[e1] at T
  rw[if_neg (fun h=>by cases h.2.2)]
  have e2:({ M with tm:=M.tm }:Mc)=M:=by cases M;rfl
  dsimp only at T
  first|exact T|(rw[e2] at T;exact T)):P:=h
theorem Xz83 {P:Prop} (h:P:=by
  have e1:AV M.keys ev.n=(M.keys,false):=by unfold AV;rw[if_pos (by omega)]
  rw[e1] at T
  rw[if_neg (fun h=>hs h.2.2)]
  have e2:({ M with keys:=M.keys }:Mc)=M:=by cases M;rfl
  dsimp only at T
  first|exact T|(rw[e2] at T;exact T)):P:=h
theorem apply_any (hM:M.Ok) (ha:MemRow w v M.m) (h1:0≤ev.n):Calls Tryz.prog 66 #[.agg (mcL M v).toArray,.agg (evL ev).toArray] w (Dc w.heap.size w (EG M ev)):=by
 unfold EG
 by_cases hhh:M.h=true
 · rw[if_pos hhh];exact app_halted hM ha hhh
 · rw[if_neg hhh]
   have hh:M.h=false:=by simpa using hhh
   by_cases k2:ev.k=2
   · rw[if_pos k2]
     by_cases hn:ev.n=0
     · by_cases hd:ev.d.size=0
       · have T:=app_timer hM ha hh k2 hn hd
         cases hta:M.tm.a with
         | true =>
           have e1:BT M.tm=(⟨false,M.tm.d,true⟩,true):=by unfold BT;rw[if_pos hta]
           rw[e1] at T
           rw[if_pos ⟨hn,hd,rfl⟩];exact T
         | false =>
           exact Xz82
       · rw[if_neg (fun h=>hd h.2.1)];exact app_timer_d hM ha hh k2 hn hd
     · rw[if_neg (fun h=>hn h.1)];exact app_timer_n hM ha hh k2 hn
   rw[if_neg k2]
   by_cases k3:ev.k=3
   · rw[if_pos k3]
     by_cases hn:ev.n≤255
     · by_cases hd:ev.d.size=0
       · have T:=app_key hM ha hh k3 h1 hn hd
         by_cases hs:M.keys.size<16
         · have e1:AV M.keys ev.n=(M.keys++Bl ev.n,true):=by unfold AV;rw[if_neg (by omega)]
           rw[e1] at T
           rw[if_pos ⟨hn,hd,hs⟩];exact T
         · exact Xz83
       · rw[if_neg (fun h=>hd h.2.1)];exact app_key_d hM ha hh k3 hn hd
     · rw[if_neg (fun h=>hn h.1)];exact app_key_n hM ha hh k3 hn
   rw[if_neg k3]
   by_cases k4:ev.k=4
   · rw[if_pos k4];exact app_disk hM ha hh k4 h1
   rw[if_neg k4]
   by_cases k5:ev.k=5
   · rw[if_pos k5]
     by_cases hn:ev.n=0
     · rw[if_pos hn];exact app_net hM ha hh k5 hn
     · rw[if_neg hn];exact app_net_n hM ha hh k5 hn
   rw[if_neg k5]
   by_cases k6:ev.k=6
   · rw[if_pos k6]
     by_cases hd:ev.d.size=0
     · rw[if_pos hd];exact app_target hM ha hh k6 h1 hd
     · rw[if_neg hd];exact app_bal_d hM ha hh k6 hd
   rw[if_neg k6]
   exact app_other hM ha hh (by omega)
end
theorem mnew_any (p:Nat) (w:World) (h1:1≤p) (h2:p≤32):Calls Tryz.prog 11 #[.int .i64 p] w (RetMem w (List.replicate (p*32) 0)):=by
 have hmk:=Dh (P:=Tryz.prog) 30 25 (.int .u32 0) 4 τ30 Eg rfl (p*32) (by omega) (by omega)
 exact Xz45
theorem equalE_any (va vb:Value) (xs ys:List Int) (w:World) (ha:MemRow w va xs) (hb:MemRow w vb ys) (hl:xs.length=ys.length) (hn:xs.length≤1024):Calls Tryz.prog 51 #[va,vb] w (Ret w (.bool (decide (xs=ys)))):=by
 obtain⟨b,off,cap,rfl,h1,h2,h0,h3,h4⟩:=ha
 obtain⟨b',off',cap',rfl,h1',h2',_,h3',h4'⟩:=hb
 obtain⟨n,hn'⟩:∃ n,xs.length=n:=⟨_,rfl⟩
 rw[←hl] at h1' ⊢
 rw[hn'] at h0 h1 h1' hn hl ⊢
 have HL:=lh hl;clear hl
 have HN:=lh hn';clear hn'
 have H4:=lh h4;clear h4
 have H4':=lh h4';clear h4'
 clear h2 h2'
 go_in
 go_wp2_with fail
 go_loopw [13] (fun i wr=>∃ k:Nat,k≤n∧i=.int .i64 k∧SameI xs ys k∧Below w.heap.size w wr) (fun i _=>n - (intOf i).toNat)
 case atStart=>exact⟨0,Nat.zero_le _,rfl,fun i hi=>absurd hi (Nat.not_lt_zero _),bel⟩
 case round =>
  obtain⟨k,hk,rfl,hsame,hbw⟩:=hrel
  by_cases hlt:k<n
  · obtain⟨x,hx⟩:=A6 (xs:=xs) (k:=k) (by rw[HN.out];exact hlt)
    obtain⟨y,hy⟩:=A6 (xs:=ys) (k:=k) (by rw[←HL.out];exact hlt)
    have hc:=(hbw.cell (p:=⟨b,off+k,none⟩) h3).trans (H4.out k x hx)
    have hc':=(hbw.cell (p:=⟨b',off'+k,none⟩) h3').trans (H4'.out k y hy)
    have hs1:=hbw.size
    have hs2:b<wr.heap.size:=by omega
    have hs3:b'<wr.heap.size:=by omega
    have HX:=lh hx;clear hx
    have HY:=lh hy;clear hy
    by_cases hxy:(x == y)=true
    have hxy':(x != y)=false:=by simp only[bne,hxy,Bool.not_true]
    rotate_left
    have hxy1:(x == y)=false:=by simpa using hxy
    have hxy':(x != y)=true:=by simp only[bne,hxy1,Bool.not_false]
    rotate_left
    all_goals
     go_wp2_with fail
     refine wp_region_quiet_below (by kernel_rfl) (by kernel_rfl) ?_
     repeat (go_big_quiet_step (first|fail|fail))
     refine wpQuiet_nil ?_
     intro w1 hw1
     have hb1:=Aa hw1
     clear hw1
     obtain⟨hc1,hf1⟩:=Cn hb1
     have hz1:=BH hb1
     try simp only[Bo] at hz1
     try simp only[sizes] at hc1 hf1
     go_wp2_with fail
    · go_roundw
      case rel=>exact⟨k+1,by omega,by go_num,hsame.step HX.out (by rw[HY.out,beq_iff_eq.1 hxy]),bel⟩
      case measure=>simp [intOf];omega
    · go_ret
      exact Ret.mk' (congrArg Value.bool (by
       symm
       apply decide_eq_false
       rintro rfl
       have e1:=HX.out
       rw[HY.out] at e1
       simp at e1
       simp [e1] at hxy1)) bel
  · obtain rfl:k=n:=by omega
    go_wp2_with fail
    go_ret
    exact Ret.mk' (congrArg Value.bool (by
     symm
     apply decide_eq_true
     refine SameI.eq ?_ (HN.out.trans HL.out)
     rw[HN.out];exact hsame)) bel
theorem Ha (va vb:Value) (xs ys:List Int) (w:World) (ha:MemRow w va xs) (hb:MemRow w vb ys) (hl:ys.length=xs.length) (hn:xs.length≤1024) (hm:xs.length % 32=0):Calls Tryz.prog 18 #[va,vb] w (fun e w'=>∃ v,e=.returned v∧IntRow w' v (chL xs ys (xs.length / 32))∧Below w.heap.size w w'):=by
 have hra:=ha
 have hrb:=hb
 obtain⟨b,off,cap,rfl,h1,h2,h0,h3,h4⟩:=ha
 obtain⟨b',off',cap',rfl,h1',h2',_,h3',h4'⟩:=hb
 rw[hl] at h1' hrb ⊢
 clear h4 h4' h2 h2'
 obtain⟨n,hn'⟩:∃ n,xs.length=n:=⟨_,rfl⟩
 rw[hn'] at h0 h1 h1' hn hl hm hra hrb ⊢
 have HL:=lh hl;clear hl
 have HN:=lh hn';clear hn'
 have HA:=lh hra;clear hra
 have HB:=lh hrb;clear hrb
 have P:=fun w=>CF (some ⟨b,off,none⟩) n cap w (by omega)
 have hq:AO n=n / 32:=by unfold AO;rw[if_pos ⟨hm,hn⟩]
 rw[hq] at P
 have P2:=fun w=>CF (some ⟨b',off',none⟩) n cap' w (by omega)
 rw[hq] at P2
 obtain⟨q,hqq⟩:∃ q,n / 32=q:=⟨_,rfl⟩
 rw[hqq] at P P2 ⊢
 have hq2:q*32=n:=by omega
 have HQ2:=lh hq2
 have hq3:q≤32:=by omega
 have HP:=lh P;have HP2:=lh P2;clear P P2 hq hqq hm hq2
 obtain⟨i0,hi,iz0,iz1,iz2⟩:=info_parts info_int
 go_in
 go_wp2_with fail
 refine (HP.out _).mono ?_
 rintro e w1 ⟨rfl,hb1⟩
 obtain⟨hc1,hf1⟩:=Cn hb1
 have hz1:=BH hb1
 try simp only[Bo] at hz1
 try simp only[sizes] at hc1 hf1
 go_wp2_with fail
 refine (HP2.out _).mono ?_
 rintro e w2 ⟨rfl,hb2⟩
 obtain⟨hc2,hf2⟩:=Cn hb2
 have hz2:=BH hb2
 try simp only[Bo] at hz2
 try simp only[sizes] at hc2 hf2
 have hbx:Below w.heap.size w w2:=hb1.trans (hb2.mono hb1.size)
 clear hb1 hb2 hc1 hf1 hc2 hf2
 go_wp2_with fail
 go_loopw [6,17] (fun v i wr=>∃ k:Nat,k≤q∧i=.int .i64 k∧wr.ownsRow w.heap.size 3 1 v (chL xs ys k).length ((chL xs ys k).map (Value.int .i64))∧Below w.heap.size w wr) (fun _ i _=>q - (intOf i).toNat)
 case atStart=>exact⟨0,Nat.zero_le _,rfl,World.ownsRow_nil _ _ _ _,bel⟩
 case round =>
  obtain⟨k,hk,rfl,hown,hbw⟩:=hrel
  have hbs0:=hbw.size
  have HO:=lh hown;clear hown
  by_cases hlt:k<q
  · have hfit:k*32+32≤n:=by have:=HQ2.out;omega
    have S:=fun wx hbx=>equalE_any _ _ _ _ wx (MemRow.page HN.out (HA.out.below hbx) hfit) (MemRow.page HL.out (HB.out.below hbx) hfit) (by rw[Fs (by rw[HN.out];exact hfit),Fs (by rw[HL.out];exact hfit)]) (by rw[Fs (by rw[HN.out];exact hfit)];omega)
    have e32:(k+1)*32 - k*32=32:=by omega
    have hcl:=chL_le xs ys k
    obtain⟨dd,hdd⟩:∃ d,decide (BV xs k=BV ys k)=d:=⟨_,rfl⟩
    rw[hdd] at S
    have HS:=lh S;clear S
    have HD:=lh hdd;clear hdd
    obtain⟨L,hL⟩:∃ L,(chL xs ys k).length=L:=⟨_,rfl⟩
    rw[hL] at HO hcl
    have HLL:=lh hL;clear hL
    cases dd
    all_goals
     have hbw1:=hbw
     have HO1:=HO
     clear hbw
     go_wp2_with fail
     refine wp_region_quiet_below (by kernel_rfl) (by kernel_rfl) ?_
     repeat (go_big_quiet_step (first|fail|(go_at_call 51;exact A9 (HS.out _ (hbw1.trans ((below_regrown _ _ _).mono hbw1.size))))))
     refine wpQuiet_nil ?_
     intro w2 hw2
     have hb2:=Aa hw2
     clear hw2
     obtain⟨hc2,hf2⟩:=Cn hb2
     have hz2:=BH hb2
     try simp only[Bo] at hz2
     try simp only[sizes] at hc2 hf2
     have HO2:=lh (Af HO1.out hb2)
     have hbw2:Below w.heap.size w w2:=hbw1.trans (hb2.mono hbw1.size)
     clear hb2 hbw1 hc2 hf2 e32 HO1
     have hs2:=hbw2.size
    · go_wp2_with (at_builtin;refine wpList_append_own _ rfl (.tmp 35) (.tmp 37) 22 rfl w.heap.size 3 i0 (.int .i64 0) 1 8 τ22 hi iz0 iz1 iz2 rfl (by decide) _ L ((chL xs ys k).map (Value.int .i64)) rfl (HO2.out.alloc _) ⟨w2.heap.size,0,none⟩ 1 1 [Value.int .i64 k] rfl rfl (A8 _ [Value.int .i64 k] _ _ (by first|rfl|simp only[sizes])) (one_int _) (by unfold maxLen;omega) (by omega) (by first|exact nlr _|omega|(simp only[sizes];done)|(simp only[sizes];omega)) ?_;intro v3 w3 hown3 hgrow3 _;have hb3:=A4 bel (HO2.out.alloc _) hgrow3;have hz3:=hb3.size)
      go_wp2_with fail
      go_roundw
      case rel =>
       refine ⟨k+1,by omega,by go_num,?_,hb3⟩
       rw[chL_diff HD.out,List.length_append,List.map_append,HLL.out]
       exact hown3
      case measure=>simp [intOf];omega
    · go_wp2_with fail
      go_roundw
      case rel =>
       refine ⟨k+1,by omega,by go_num,?_,hbw2⟩
       rw[chL_same HD.out,HLL.out]
       exact HO2.out
      case measure=>simp [intOf];omega
  · obtain rfl:k=q:=by omega
    go_wp2_with fail
    go_ret
    exact⟨_,rfl,RowAt.of_owns HO.out,bel⟩
end Go.Proofs.YtnmpfmapncicmaaGreat
