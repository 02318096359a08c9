/-
  Texts joined: TpSp TpUh TpUc. No law is proved here.
-/
import Derived.Test.YtnmpfmapncicmaaGreatB48
namespace Go.Proofs.YtnmpfmapncicmaaGreat
set_option linter.all false
set_option maxRecDepth 100000
set_option maxHeartbeats 40000000
open Go.RowKit
theorem CS {xs:List Int} (h:∀ x∈xs,0≤x∧x<4294967296):Words xs:=fun _ _ hx=>h _ (List.mem_of_getElem? hx)
theorem EY {xs:List Int} (h:Words xs):∀ x∈xs,0≤x∧x<4294967296:=fun x hx=>by
 obtain⟨i,hi⟩:=List.getElem?_of_mem hx
 exact h i x hi
theorem GY (p bl:Nat) {img:List Int} (hq:img.length≤p*32):(DA p bl img).m.length=p*32:=by
 show (img++List.replicate (p*32 - img.length) 0).length=_
 rw[List.length_append,List.length_replicate];omega
theorem JB {p bl:Nat} {img:List Int} (h1:1≤p) (h2:p≤32) (h3:bl≤64) (hq:img.length≤p*32) (hw:Words img):(DA p bl img).Ok:=by
 have hl:=GY p bl hq
 have c0:CpuOk cpu0:=⟨rfl,CS (by decide),rfl,by decide,by decide,by decide,by decide⟩
 have t0:tmOk tm0:=⟨⟨by decide,by decide⟩,fun h=>(by cases h),fun _ _=>rfl⟩
 have d0:DkOk { dk0 with bl:=bl } (Ao (DA p bl img).m):=⟨⟨Int.natCast_nonneg _,by show (bl:Int)≤64;omega⟩,⟨Int.le_refl 0,(by decide:(0:Int)<4294967296)⟩,⟨Int.le_refl 0,(by decide:(0:Int)<4294967296)⟩,⟨Int.le_refl 0,(by decide:(0:Int)≤3)⟩,fun _=>⟨rfl,rfl,rfl,rfl⟩,fun h=>absurd h (by decide:¬(0:Int)=1)⟩
 have n0:NcOk nc0 (Ao (DA p bl img).m):=⟨⟨Int.le_refl 0,(by decide:(0:Int)<4294967296)⟩,⟨Int.le_refl 0,(by decide:(0:Int)<4294967296)⟩,fun h=>(by cases h),⟨Int.le_refl 0,fun h=>(by cases h),fun _=>rfl⟩,⟨fun h=>(by cases h),fun _=>rfl⟩⟩
 refine ⟨c0,⟨CS (fun x hx=>?_),by rw[hl];omega,by rw[hl];omega,by rw[hl];omega⟩,Nat.zero_le _,t0,d0,n0,(by decide:(0:Nat)<4294967296),(by decide:(0:Nat)<4294967296),FU (by decide:(0:Nat)<4294967296) (fun i hi=>?_),Nat.zero_le _,fun h=>(by cases h)⟩
 · rcases List.mem_append.1 hx with hx|hx
   · exact EY hw x hx
   · rw[(List.mem_replicate.1 hx).2];exact⟨by decide,by decide⟩
 · have hi:Nat.testBit 0 i=true:=hi
   rw[Nat.zero_testBit] at hi;cases hi
/-! ## Steps that need the first five pages alone -/
def goN:Nat→Mc→Bool
 | 0,_=>true
 | k+1,M => !Ba M && (!rdB M && (Nat.ble (needN M) 31 && goN k (AZ M 0).1))
theorem sub31 {N:Nat} (h:Nat.ble N 31=true):Sub N 31:=fun k hk=>by
 have h1:=Nat.le_of_ble_eq_true h
 have h2:N ≥ 2 ^ k:=Nat.ge_two_pow_of_testBit hk
 have h3:k<5:=by
  rcases Nat.lt_or_ge k 5 with h|h
  · exact h
  · have:=Nat.pow_le_pow_right (n:=2) (by decide) h
    omega
 have:k=0∨k=1∨k=2∨k=3∨k=4:=by omega
 rcases this with rfl|rfl|rfl|rfl|rfl <;> rfl
theorem rd_agree {S:Nat} {M:Mc} {xs:List Int} (hM:M.Ok) (h:Agree S xs M.m) (hs:Sub (needN M) S):rdB { M with m:=xs }=rdB M:=by
 unfold needN at hs
 unfold rdB
 rw[show Ba { M with m:=xs }=Ba M from rfl]
 cases hst:Ba M with
 | true=>rfl
 | false =>
   rw[hst,if_neg (by decide)] at hs
   have X:=exec_agree (xs:=xs) h (Ch hM) hs
   have e1:(CG { M with m:=xs }).2=(CG M).2:=by
    unfold CG
    rw[show Bb { M with m:=xs }=Bb M from rfl]
    exact X.1.e
   rw[e1]
theorem goN_good:∀ (k:Nat) {M:Mc} {xs:List Int},M.Ok→Agree 31 xs M.m→goN k M=true→sysM.good { M with m:=xs } (List.replicate k (.st 0))∧sysM.log { M with m:=xs } (List.replicate k (.st 0))=[]
 | 0,_,_,_,_,_=>⟨trivial,rfl⟩
 | k+1,M,xs,hM,h,hg=>by
   rw[goN,Bool.and_eq_true,Bool.and_eq_true,Bool.and_eq_true] at hg
   obtain⟨g1,g2,g3,g4⟩:=hg
   have g1:Ba M=false:=by simpa using g1
   have g2:rdB M=false:=by simpa using g2
   obtain⟨m',e1,e2,_,_⟩:=step_agree hM h (sub31 g3) 0
   have ih:=goN_good k (Et hM (clk:=0) ⟨by decide,by decide⟩) e2 g4
   have hst:(sysM.step { M with m:=xs } 0).1={ (AZ M 0).1 with m:=m' }:=by
    show (AZ { M with m:=xs } (0 % 4294967296)).1=_
    rw[show (0:Int) % 4294967296=0 from rfl,e1]
   rw[List.replicate_succ]
   refine ⟨⟨g1,rfl,?_⟩,?_⟩
   · rw[hst];exact ih.1
   · rw[Sys.log_st,hst,ih.2]
     rw[show sysM.rd { M with m:=xs }=rdB M from rd_agree hM h (sub31 g3),g2]
     rfl
theorem steps_rep (k:Nat):Sys.steps (List.replicate k (.st 0))=k:=by
 induction k with
 | zero=>rfl
 | succ k ih=>rw[List.replicate_succ,Sys.steps,ih]
theorem goN_run {k:Nat} {M:Mc} {xs:List Int} (hM:M.Ok) (hx:({ M with m:=xs }:Mc).Ok) (h:Agree 31 xs M.m) (hg:goN k M=true):∃ M' o,sysM.scrT (M.n+k) k { M with m:=xs } [] []=some (M',[],o):=by
 obtain⟨g1,g2⟩:=goN_good k hM h hg
 obtain⟨pre,post,e1,e2,e3⟩:=sysM.scrT_good k { M with m:=xs } (List.replicate k (.st 0)) [] hx g1 (by rw[steps_rep];exact nlr _)
 have hp:post=[]:=by
  cases post with
  | nil=>rfl
  | cons x post =>
    have hx:x∈List.replicate k (It.st 0):=by rw[e1];exact List.mem_append_right _ List.mem_cons_self
    rw[(List.mem_replicate.1 hx).2] at e2
    simp [Sys.steps] at e2
 subst hp
 rw[g2,steps_rep] at e3
 exact⟨_,_,e3⟩
def imgK0:List Int:=imgK++List.replicate 85 0
theorem kernel_steps:goN 87 (DA 8 4 imgK)=true:=by kernel_rfl
theorem kernel_run {ws:List Int} (hw:Words ws) (hl:ws.length≤96):∃ M' o,sysM.scrT 87 87 (DA 8 4 (imgK0++ws)) [] []=some (M',[],o):=by
 have hk:Words imgK:=CS (by decide)
 have h0:(DA 8 4 imgK).Ok:=JB (by decide) (by decide) (by decide) (by decide) hk
 have hlen:(imgK0++ws).length≤8*32:=by
  rw[List.length_append]
  have:imgK0.length=160:=by kernel_rfl
  omega
 have hww:Words (imgK0++ws):=CS (fun x hx=>by
  rcases List.mem_append.1 hx with hx|hx
  · rcases List.mem_append.1 hx with hx|hx
    · exact EY hk x hx
    · rw[(List.mem_replicate.1 hx).2];exact⟨by decide,by decide⟩
  · exact EY hw x hx)
 have h1:(DA 8 4 (imgK0++ws)).Ok:=JB (by decide) (by decide) (by decide) hlen hww
 refine goN_run (M:=DA 8 4 imgK) (xs:=(DA 8 4 (imgK0++ws)).m) h0 h1 ⟨?_,fun i hi=>?_⟩ kernel_steps
 · rw[GY 8 4 hlen,GY 8 4 (by decide)]
 · have hi5:i<160:=by
     rcases Nat.lt_or_ge i 160 with h|h
     · exact h
     · exfalso
       have h2:31 ≥ 2 ^ (i / 32):=Nat.ge_two_pow_of_testBit hi
       have:=Nat.pow_le_pow_right (n:=2) (by decide) (show 5≤i / 32 by omega)
       omega
   unfold rg
   congr 1
   show ((imgK++List.replicate 85 0++ws)++_)[i]?=(imgK++List.replicate (8*32 - imgK.length) 0)[i]?
   have hkl:imgK.length=75:=by decide
   rw[List.append_assoc,List.append_assoc]
   rcases Nat.lt_or_ge i 75 with h|h
   · rw[List.getElem?_append_left (by rw[hkl];exact h),List.getElem?_append_left (by rw[hkl];exact h)]
   · have hL:(imgK++(List.replicate 85 (0:Int)++(ws++List.replicate (8*32 - (imgK0++ws).length) 0)))[i]?=some 0:=by
       rw[List.getElem?_append_right (by rw[hkl];exact h),List.getElem?_append_left (by rw[List.length_replicate,hkl];omega),List.getElem?_replicate,if_pos (by rw[hkl];omega)]
     have hR:(imgK++List.replicate (8*32 - imgK.length) (0:Int))[i]?=some 0:=by
      rw[List.getElem?_append_right (by rw[hkl];exact h),List.getElem?_replicate,if_pos (by rw[hkl];omega)]
     exact hL.trans hR.symm
/-! ## The machine that echoes -/
def keyE:List En:=[⟨2,⟨3,65,⟨#[]⟩⟩⟩]
theorem echo_steps:(sysM.scrT 20 20 (DA 1 0 Jz) keyE []).isSome=true:=by kernel_rfl
theorem echo_run:∃ M' rest o,sysM.scrT 20 20 (DA 1 0 Jz) keyE []=some (M',rest,o):=by
 obtain⟨R,hR⟩:=Option.isSome_iff_exists.1 echo_steps
 exact⟨R.1,R.2.1,R.2.2,hR⟩
theorem rds_one {w:World} {x:En} (T:TypeId):RdS enL 4 (w.alloc (.cells (enL x).toArray T)) (.slice (some ⟨w.heap.size,0,none⟩) 1 1) [x]:=by
 refine ⟨_,1,rfl,nlr _,by unfold maxLen;decide,.inr ⟨_,0,rfl,by rw[World.size_alloc];omega,fun i y hy j u hu=>?_⟩⟩
 cases i with
 | zero =>
   cases hy
   rw[show 0+0*4+j=j by omega,World.cell?_alloc_at (hn:=rfl)]
   simpa using hu
 | succ i=>cases hy
theorem works_any (w:World):Calls Tryz.prog 7 #[] w (Ret w (.bool true)):=by
 obtain⟨M',rest,o,hrun⟩:=echo_run
 have hM:(DA 1 0 Jz).Ok:=JB (by decide) (by decide) (by decide) (by decide) (CS (by decide))
 have hM':=Sys.scrT_ok sysM hrun hM
 have hcnt:M'.n=20:=hM'.2
 have HE:=lh (fun w=>echo_any w)
 have HB:Hid (∀ w v vs,MemRow w v (DA 1 0 Jz).m→RdS enL 4 w vs keyE→Calls Tryz.prog 36 #[.agg (mcL (DA 1 0 Jz) v).toArray,vs,.int .u64 20] w (fun e w'=>∃ v' vo,e=.returned (.tuple #[.agg (mcL M' v').toArray,vo,.int .i64 ((keyE.length - rest.length:Nat):Int),.int .i64 0])∧OwnMem w.heap.size w' v' M'.m∧OutRow w.heap.size w' vo o∧Below w.heap.size w w')) :=
  lh (fun w v vs h h'=>brun_any (tgt:=20) hM h h' (nlr _) ⟨Nat.zero_le _,by decide,fun h=>absurd h (by decide),trivial⟩ (fun y hy=>by rw[List.mem_singleton.1 hy];exact⟨by decide,by decide⟩) (Nat.zero_le _) (by decide) hrun)
 have HY:=lh (fun v w h=>BF (v:=v) (w:=w) hM'.1 h)
 have HC:∀ v,(mcL M' v)[46]?=some (.int .u64 20):=fun v=>by rw[show (mcL M' v)[46]?=some (.int .u64 (M'.n:Int)) from rfl,hcnt];rfl
 have HCN:=lh HC
 generalize DA 1 0 Jz=M at *
 clear hrun hM hM' hcnt HC
 go_in
 go_wp2_with (go_at_call 37;(with_reducible refine (HE.out _).mono ?_);rintro e w1 ⟨v,rfl,hom,hb1⟩)
 have hba:=(Below.refl w1.heap.size w1).alloc (nlr _) (.cells (enL ⟨2,⟨3,65,⟨#[]⟩⟩⟩).toArray 113)
 refine Calls.mono (HB.out _ _ _ (hom.row.below hba) (rds_one 113)) ?_
 rintro e w2 ⟨v2,vo,rfl,hom2,hoo,hb2⟩
 have hbw:=hb1.trans ((hba.trans (hb2.mono hba.size)).mono hb1.size)
 have hr2:=lh hom2.row
 have hv2:=hom2.row.cell1
 clear hba hom hom2 hoo hb1 hb2 HB HE
 have L:=Lay.start w2
 go_wp2_with (first|(refine Ca (ty:=41) (u:=.int .u64 20) L 0 rfl (by rfl) rfl rfl τ41 rfl (HCN.out _) ?_)|(refine YL ?_)|((first|(go_at_call 38;(with_reducible refine zcl L (HY.out _ _ (hr2.out.below L.bel)) ?_))|refine YS ?_);clear L;intro wz L))
 go_ret
 exact Ret.mk (hbw.trans (L.bel.mono hbw.size))
theorem Lay.pick {w0 w:World} {l:List Bx} (L:Lay w0 w l) (l2:List Bx) (h:∀ x∈l2,x∈l) (hd:(l2.map (·.b)).Pairwise (·>·)):Lay w0 w l2:=⟨L.bel,fun x hx=>L.has x (h x hx),hd⟩
theorem outs_one (os:List Ou):∀ u∈os.flatMap ouL,u.oneCell'=true:=fun u hu=>by
 obtain⟨x,_,hx⟩:=List.mem_flatMap.1 hu
 exact ouL_one x u hx
theorem two_at {l:List Bx} {j k B g r:Nat} {cs:List Value} {xs:List Int} {x:Bx} (hr:l[r]?=some x) (h1:r≠j) (h2:r≠k):(two l j k B g cs xs)[r]?=some x:=by
 unfold two;rw[bx_ne (Ne.symm h2),bx_ne (Ne.symm h1)];exact hr
theorem RowIn.two {l:List Bx} {j k B g n:Nat} {v:Value} {ys:List Value} {cs0:List Value} {xs0:List Int} (h:RowIn l 103 4 v n ys) (hj:l[j]?=some ⟨B,cs0,43⟩) (hk:l[k]?=some ⟨g,words xs0,25⟩) (cs:List Value) (xs:List Int):RowIn (two l j k B g cs xs) 103 4 v n ys:=by
 rcases h with h|⟨i,g3,cap,cur,h1,h2,h3⟩
 · exact .inl h
 · refine .inr ⟨i,g3,cap,cur,h1,h2,two_at h3 (fun e=>?_) (fun e=>?_)⟩
   · subst e;rw[hj] at h3;injection h3 with h3;injection h3 with _ _ h3;exact absurd h3 (by decide)
   · subst e;rw[hk] at h3;injection h3 with h3;injection h3 with _ _ h3;exact absurd h3 (by decide)
theorem rnpick {w w1 w2:World} {l:List Bx} {j k r B6 g nn:Nat} {cs0 cs cr:List Value} {xs0 xs:List Int} {v:Value} {ys:List Value} (hj:l[j]?=some ⟨w.heap.size,cs0,43⟩) (hk:l[k]?=some ⟨g,words xs0,25⟩) (hr:l[r]?=some ⟨B6,cr,43⟩)
    (h1:B6<g) (h2:w.heap.size<B6) (h3:w.heap.size<g) (L:Lay w w1 (two l j k w.heap.size g cs xs)) (ho:w1.ownsRow w.heap.size 103 4 v nn ys) (hg:w1.grownBy w2 v.ownBlock) :
    Lay w w2 [⟨g,words xs,25⟩,⟨B6,cr,43⟩,⟨w.heap.size,cs,43⟩]:=by
 have hrj:r≠j:=fun e=>by subst e;rw[hr] at hj;injection hj with hj;injection hj with hj _ _;omega
 have hrk:r≠k:=fun e=>by subst e;rw[hr] at hk;injection hk with hk;injection hk with hk _ _;omega
 have L3:=L.pick [⟨g,words xs,25⟩,⟨B6,cr,43⟩,⟨w.heap.size,cs,43⟩] (fun x hx=>by
  simp only[List.mem_cons,List.not_mem_nil,or_false] at hx
  rcases hx with rfl|rfl|rfl
  · exact List.mem_of_getElem? (FD hj hk cs xs)
  · exact List.mem_of_getElem? (two_at hr hrj hrk)
  · exact List.mem_of_getElem? (FE hj hk cs xs)) (by simp only[List.map_cons,List.map_nil,List.pairwise_cons,List.mem_cons,List.not_mem_nil,or_false,forall_eq_or_imp,forall_eq];simp;omega)
 refine L3.grown ho (nlr _) hg (fun x hx=>Ce ho (L3.has x hx).1 ?_)
 simp only[List.mem_cons,List.not_mem_nil,or_false] at hx
 rcases hx with rfl|rfl|rfl <;> (dsimp only;decide)
theorem two_two {l:List Bx} {j k B g:Nat} {cs:List Value} {xs:List Int} (hj:l[j]?=some ⟨B,cs,43⟩) (hk:l[k]?=some ⟨g,words xs,25⟩) (c1 c2:List Value) (x1 x2:List Int):two (two l j k B g c1 x1) j k B g c2 x2=two l j k B g c2 x2:=by
 show ((two l j k B g c1 x1).set j _).set k _=_
 rw[Ep hj hk,Eo]
theorem Xz58 {P:Prop} (h:P:=by
  refine wpQuiet_nil ?_
  intro wz hwz
  replace L:=L.below (Aa hwz)
  clear hwz
  go_wp2_with fail
  go_meet
  exact⟨congrArg Value.bool HRD.out.symm,L⟩):P:=h
theorem Xz99 {P:Prop} (h:P:=by
  refine wpQuiet_nil ?_
  intro wz hwz
  replace L:=L.below (Aa hwz)
  clear hwz
  go_wp2_with fail
  go_meet
  exact⟨congrArg Value.bool HDB.out.symm,L⟩):P:=h
theorem Xz113 {P:Prop} (h:P:=by
  refine wpQuiet_nil ?_
  intro wz hwz
  replace L:=L.below (Aa hwz)
  clear hwz
  go_wp2_with fail
  go_meet
  exact⟨rfl,L⟩):P:=h
theorem rrun7_any {M M':Mc} {v vs:Value} {w:World} {es rest:List En} {outs:List Ou} {tgt k:Nat} (hM:M.Ok) (ha:MemRow w v M.m) (hs:RdS enL 4 w vs es) (hlen:es.length≤400) (hseq:Sys.Seq M.n tgt es)
    (hval:∀ y∈es,0≤y.e.n∧y.e.n<4294967296) (h1:M.n≤tgt) (h2:tgt - M.n≤4000) (hR:sysM.scrT tgt k M es []=some (M',rest,outs)) :
    Calls Tryz.prog 28 #[.agg (mcL M v).toArray,vs,.int .u64 tgt] w (fun e w'=>∃ v' vo,e=.returned (.tuple #[.agg (mcL M' v').toArray,vo,.int .i64 ((es.length - rest.length:Nat):Int),.int .i64 0])∧OwnMem w.heap.size w' v' M'.m∧OutRow w.heap.size w' vo outs∧Below w.heap.size w w'):=by
 obtain⟨i0,hi,iz0,iz1,iz2⟩:=info_parts ou_info3
 obtain⟨ao,cap,rfl,hcap,hmax,hs⟩:=hs.open
 unfold maxLen at hmax
 have hn60:=hM.n
 have HA:=lh ha
 have HMAY:=lh (fun w h=>rmay7_any (v:=v) (w:=w) hM h)
 have HOR:=lh (fun w h=>rordered_any (va:=.slice ao es.length cap) (w:=w) (es:=es) h (by omega) hseq)
 have HOW:=lh (fun w h=>rown7_any (v:=v) (w:=w) hM h)
 unfold RetX at HOW
 have HES:=lh hs
 obtain⟨n,hn⟩:∃ n,es.length=n:=⟨_,rfl⟩
 obtain⟨nm,hnm⟩:∃ n,M.m.length=n:=⟨_,rfl⟩
 have HN:=lh hn
 have HNM:=lh hnm
 rw[hn] at hcap HES hlen HOR ⊢
 rw[hnm] at HOW
 have hsub:IntKind.u64.wrap ((tgt:Int) - (M.n:Int))=((tgt - M.n:Nat):Int):=by rw[IntKind.wrap_u64];omega
 have b1:decide (tgt<M.n)=false:=decide_eq_false (by omega)
 have b1i:decide ((tgt:Int)<(M.n:Int))=false:=decide_eq_false (by omega)
 have b2:decide (4000<tgt - M.n)=false:=decide_eq_false (by omega)
 have b2i:decide ((4000:Int)<((tgt - M.n:Nat):Int))=false:=decide_eq_false (by omega)
 have b3:decide (400<n)=false:=decide_eq_false (by omega)
 have b3i:decide ((400:Int)<(n:Int))=false:=decide_eq_false (by omega)
 have HM:=lh hM
 have HSEQ:=lh hseq
 have HVAL:=lh hval
 have HR:=lh hR
 clear hs hn hnm ha hM hseq hval hR
 have L:=Lay.start w
 go_in
 go_upto_region 3 with (first|(refine YL ?_)|((first|(go_at_call 69;(with_reducible refine zcl L (HMAY.out _ (HA.out.below L.bel)) ?_))|refine YS ?_);clear L;intro wz L))
 obtain⟨B6,hb6⟩:=L.fst1
 dsimp only at hb6
 rw[hb6] at L ⊢
 clear hb6
 go_cut [52] from 36 to 53 (fun q wx=>q=.bool false∧Lay w wx [⟨B6,mcL mc0 (.slice none 0 0),43⟩,⟨w.heap.size,mcL M v,43⟩])
 case first =>
  have HESw:=lh (HES.out.below L.bel)
  rcases Nat.eq_zero_or_pos n with h0|h0
  · have hq0:decide ((0:Int)<(n:Int))=false:=decide_eq_false (by omega)
    have hq0n:decide (0<n)=false:=decide_eq_false (by omega)
    clear h0 b1 b1i b2 b2i b3 b3i
    (try simp only[Act.put,q4,s0,s1])
    refine wp_region_quiet_below (by kernel_rfl) (by kernel_rfl) ?_
    repeat (first|(go_big_quiet_want;(first|fail|(refine zlq τ41 L 1 ?_));go_big_quiet_on;(try simp only[Act.put,q4,s0,s1]))|go_big_quiet_step (first|fail|(go_at_call 70;exact A9 (HOR.out _ (HES.out.below (L.bel.trans ((Aa ⟨⟨_,_⟩,rfl⟩).mono L.bel.size)))))))
    exact Xz113
  · obtain⟨x0,hx0⟩:=A6 (xs:=es) (k:=0) (by rw[HN.out];exact h0)
    have hp0:M.n≤x0.p:=(HSEQ.out.ge x0 (List.mem_of_getElem? hx0)).1
    obtain⟨hxx,b,off,rfl,hbl,_,_,hcell⟩:=HES.out.at h0
    have hblr:b<wz.heap.size:=Nat.lt_of_lt_of_le hbl L.bel.size
    have HX0:=lh (show wz.cell? ⟨b,off,none⟩=some (.int .u64 x0.p) from (L.bel.cell (p:=⟨b,off,none⟩) hbl).trans (by simpa using hcell 0 x0 hx0 0 _ rfl))
    have hq0:decide ((0:Int)<(n:Int))=true:=decide_eq_true (by omega)
    have hq0n:decide (0<n)=true:=decide_eq_true (by omega)
    have hq1:decide ((x0.p:Int)<(M.n:Int))=false:=decide_eq_false (by omega)
    have hq1n:decide (x0.p<M.n)=false:=decide_eq_false (by omega)
    clear b1 b1i b2 b2i b3 b3i hxx hcell hx0
    (try simp only[Act.put,q4,s0,s1])
    refine wp_region_quiet_below (by kernel_rfl) (by kernel_rfl) ?_
    repeat (first|(go_big_quiet_want;(first|fail|(refine zlq τ41 L 1 ?_)|(refine BN (ty:=41) (u:=(.int .u64 x0.p)) (fun w' h=>((Aa h).cell (p:=⟨b,_,none⟩) hblr).trans HX0.out) rfl rfl τ41 rfl ?_));go_big_quiet_on;(try simp only[Act.put,q4,s0,s1]))|go_big_quiet_step (first|fail|(go_at_call 70;with_reducible exact A9 (HOR.out _ (HESw.out.below (below_regrown _ _ _))))))
    exact Xz113
 case rest =>
  obtain⟨rfl,L⟩:=hcut
  clear HMAY HOR hsub b1 b1i b2 b2i b3 b3i
  go_wp2_with (first|(go_at_call 71;(with_reducible refine (HOW.out _ (HA.out.below L.bel)).mono ?_);rintro ee wz ⟨g,rfl,hg,hbx,hbz⟩;replace L:=L.own hg hbx hbz;clear hg hbx hbz)|(refine YL ?_)|(refine YS ?_;clear L;intro wz L))
  have hd:=L.dif
  simp only[List.map_cons,List.map_nil,List.pairwise_cons,List.mem_cons,List.not_mem_nil,or_false,forall_eq_or_imp,forall_eq] at hd
  have hd1:B6<g:=hd.1.1
  have hd2:w.heap.size<B6:=hd.2.1
  have hd3:w.heap.size<g:=hd.1.2
  clear hd HOW HA
  have L1:=lh L
  clear L
  go_loopw [10,11,12,13] (fun vl i _ _ wr=>∃ (q k1:Nat) (M1:Mc) (o1:List Ou),i=.int .i64 q∧q≤n∧M1.Ok∧M1.m.length=nm∧M.n≤M1.n∧M1.n≤tgt∧o1.length≤M1.n - M.n∧Sys.Seq M1.n tgt (es.drop q)∧sysM.scrT tgt k1 M1 (es.drop q) o1=some (M',rest,outs)∧Lay w wr [⟨g,words M1.m,25⟩,⟨B6,mcL mc0 (.slice none 0 0),43⟩,⟨w.heap.size,mcL M1 (.slice (some ⟨g,0,none⟩) nm nm),43⟩]∧OutRow w.heap.size wr vl o1) (fun _ _ _ _ wr=>tgt - cntOf wr w.heap.size)
  case atStart=>exact⟨0,k,M,[],rfl,Nat.zero_le _,HM.out,HNM.out,nlr _,h1,Nat.zero_le _,HSEQ.out,HR.out,L1.out,OutRow.nil _ _⟩
  case round =>
   obtain⟨q,k1,M1,o1,rfl,hq,hM1,hnm1,hlo,hhi,hol,hsq,hscr,L,hout⟩:=hrel
   clear L1
   by_cases hlt:M1.n<tgt
   · obtain⟨k2,u,rr,_,hst,htk,hgo⟩:=Sys.scrT_step _ hscr hlt
     have HLT:=lh hlt
     have HCNT:=lh (Jc L (j:=2) rfl)
     have hdok:=Sys.due_ok sysM (es.drop q) M1 hM1
     have hdn:(sysM.due M1 (es.drop q)).1.n=M1.n:=Sys.due_cnt sysM (es.drop q) M1
     have hdl:(sysM.due M1 (es.drop q)).1.m.length=nm:=by rw[due_len];exact hnm1
     have h60:M1.n<1152921504606846976:=by have:=(FH hst).2;omega
     have hhd:sysM.due M1 (es.drop q)=sysM.due M1 (es.drop q):=rfl
     have HSCR:=lh hgo
     obtain⟨l',L',hrow,hmem⟩:=L.withRow hout (fun x hx=>by
      simp only[List.mem_cons,List.not_mem_nil,or_false] at hx
      rcases hx with rfl|rfl|rfl <;> (dsimp only;decide))
     obtain⟨jm,hk⟩:=List.getElem?_of_mem (hmem _ List.mem_cons_self)
     obtain⟨jr,hr6⟩:=List.getElem?_of_mem (hmem _ (List.mem_cons_of_mem _ List.mem_cons_self))
     obtain⟨j,hj⟩:=List.getElem?_of_mem (hmem _ (List.mem_cons_of_mem _ (List.mem_cons_of_mem _ List.mem_cons_self)))
     have Gj:=lh (FE hj hk)
     have Gk:=lh (FD hj hk)
     have Sj:=lh (Ep hj hk)
     have Sk:=lh (Eo (l:=l') (j:=j) (k:=jm) (B:=w.heap.size) (g:=g))
     rw[C5 hj hk] at L'
     have HROW:=lh hrow
     have HJ:=lh hj
     have HI:=lh hk
     have HR6:=lh hr6
     have HDUE:Hid (sysM.due M1 (es.drop q)=sysM.due M1 (es.drop q)):=lh rfl
     obtain⟨D,hD⟩:∃ D,sysM.due M1 (es.drop q)=D:=⟨_,rfl⟩
     rw[hD] at hdok hdn hdl hst htk HSCR
     have HD:=lh hD
     have HST:=lh hst
     have HTK:=lh htk
     have HSQ:=lh hsq
     have HDOK:=lh hdok
     have HDN:=lh hdn
     have HDL:=lh hdl
     have HM1:=lh hM1
     have HNM1:=lh hnm1
     have t1:decide (M1.n<tgt)=true:=decide_eq_true hlt
     have t1i:decide ((M1.n:Int)<(tgt:Int))=true:=decide_eq_true (by omega)
     have t2:decide ((M1.n:Int)<(1152921504606846976:Int))=true:=decide_eq_true (by omega)
     have t2n:decide (M1.n<1152921504606846976)=true:=decide_eq_true (by omega)
     clear hhd hD hmem hrow hj hk hr6 HDUE L hscr hgo hout hst htk hsq hdok hdn hdl hM1 hnm1
     replace L:=L'
     clear L'
     go_wp2_with (first|(refine A7 (ty:=41) L _ (Gj.out _ _) rfl rfl rfl τ41 rfl rfl ?_)|(refine Ca (ty:=41) L _ (Gj.out _ _) (by rfl) rfl rfl τ41 rfl rfl ?_))
     go_loopw [11] (fun i wr2=>∃ (q2:Nat) (M2:Mc),i=.int .i64 q2∧q2≤n∧M2.Ok∧M2.m.length=nm∧M2.n=M1.n∧Sys.Seq M1.n tgt (es.drop q2)∧sysM.due M2 (es.drop q2)=D∧Lay w wr2 (two l' j jm w.heap.size g (mcL M2 (.slice (some ⟨g,0,none⟩) nm nm)) M2.m)) (fun i _=>n - (intOf i).toNat)
     case atStart=>exact⟨q,M1,rfl,hq,HM1.out,HNM1.out,rfl,HSQ.out,HD.out,L⟩
     case round =>
      obtain⟨q2,M2,rfl,hq2,hM2,hnm2,hn2,hsq2,hdue,L⟩:=hrel
      have HM2:=lh hM2
      have HNM2:=lh hnm2
      have HN2:=lh hn2
      have HSQ2:=lh hsq2
      have HDUE:=lh hdue
      clear hM2 hnm2 hn2 hsq2 hdue
      go_upto_region 9 with fail
      go_cut [87] from 65 to 88 (fun b wx=>b=.bool (J0 M2 (es.drop q2))∧Lay w wx (two l' j jm w.heap.size g (mcL M2 (.slice (some ⟨g,0,none⟩) nm nm)) M2.m))
      case first =>
       clear t1 t1i t2 t2n hlt
       by_cases hlt2:q2<n
       · obtain⟨x,hx⟩:=A6 (xs:=es) (k:=q2) (by rw[HN.out];exact hlt2)
         have hdr:es.drop q2=x :: es.drop (q2+1):=FX hx
         obtain⟨hxx,b,off,rfl,hbl,_,_,hcell⟩:=HES.out.at (by omega)
         have hblr:=Nat.lt_of_lt_of_le hbl L.bel.size
         have HX0:=lh ((L.bel.cell (p:=⟨b,off+q2*4,none⟩) hbl).trans (show _=some (Value.int .u64 (x.p:Int)) by simpa using hcell q2 x hx 0 _ rfl))
         have HX1:=lh ((L.bel.cell (p:=⟨b,off+q2*4+1,none⟩) hbl).trans (show _=some (Value.int .i64 x.e.k) by simpa using hcell q2 x hx 1 _ rfl))
         obtain⟨c1,hc1⟩:∃ c,(x.p == M2.n)=c:=⟨_,rfl⟩
         have hc1i:((x.p:Int) == (M2.n:Int))=c1:=by rw[←hc1,Bool.eq_iff_iff,beq_iff_eq,beq_iff_eq];omega
         obtain⟨c2,hc2⟩:∃ c,(x.e.k != 1)=c:=⟨_,rfl⟩
         have l1:decide (q2<n)=true:=decide_eq_true hlt2
         have l1i:decide ((q2:Int)<(n:Int))=true:=decide_eq_true (by omega)
         have HDB:Hid (J0 M2 (es.drop q2)=(c1 && c2)):=lh (by rw[hdr,←hc1,←hc2];rfl)
         clear hxx hcell hx hdr
         cases c1 <;> cases c2
         all_goals
          (try simp only[Act.put,q4,s0,s1])
          refine wp_region_quiet_below (by kernel_rfl) (by kernel_rfl) ?_
          repeat (first|(go_big_quiet_want;(first|fail|(refine AK (ty:=41) L (fun _ h=>Aa h) _ (Gj.out _ _) rfl rfl τ41 rfl rfl ?_)|(refine BN (ty:=41) (u:=(.int .u64 x.p)) (fun w' h=>((Aa h).cell (p:=⟨b,_,none⟩) hblr).trans HX0.out) rfl rfl τ41 rfl ?_)|(refine BN (ty:=3) (u:=(.int .i64 x.e.k)) (fun w' h=>((Aa h).cell (p:=⟨b,_,none⟩) hblr).trans HX1.out) rfl rfl τ3 rfl ?_));go_big_quiet_on;(try simp only[Act.put,q4,s0,s1]))|go_big_quiet_step (first|fail|fail))
          exact Xz99
       · have l1:decide (q2<n)=false:=decide_eq_false hlt2
         have l1i:decide ((q2:Int)<(n:Int))=false:=decide_eq_false (by omega)
         have HDB:Hid (J0 M2 (es.drop q2)=false):=lh (by rw[List.drop_eq_nil_of_le (by rw[HN.out];omega)];rfl)
         clear hlt2
         (try simp only[Act.put,q4,s0,s1])
         refine wp_region_quiet_below (by kernel_rfl) (by kernel_rfl) ?_
         repeat (first|(go_big_quiet_want;(first|fail|(refine AK (ty:=41) L (fun _ h=>Aa h) _ (Gj.out _ _) rfl rfl τ41 rfl rfl ?_));go_big_quiet_on;(try simp only[Act.put,q4,s0,s1]))|go_big_quiet_step (first|fail|fail))
         exact Xz99
      case rest =>
       obtain⟨rfl,L⟩:=hcut
       cases hdb:J0 M2 (es.drop q2) with
       | true =>
         obtain⟨x,r,hdr,hxp,hxk⟩:=due_yes hdb
         have hx:es[q2]?=some x:=by
          have h0:(es.drop q2)[0]?=some x:=by rw[hdr];rfl
          rw[List.getElem?_drop,Nat.add_zero] at h0
          exact h0
         have hlt2:q2<n:=by rw[←HN.out];exact AJ hx
         have hdr2:es.drop q2=x :: es.drop (q2+1):=FX hx
         have hxv:=HVAL.out x (List.mem_of_getElem? hx)
         obtain⟨hxx,b,off,rfl,hbl,_,_,hcell⟩:=HES.out.at (by omega)
         have HPE:=lh (fun (jj:Nat) (uu:Value) (hu:(evL x.e)[jj]?=some uu)=>(L.bel.cell (p:=⟨b,off+q2*4+1+jj,none⟩) hbl).trans (show _=some uu by
          have:=hcell q2 x hx (jj+1) uu hu
          rw[show off+q2*4+1+jj=off+q2*4+(jj+1) by omega]
          exact this))
         have HRA:=lh (fun (w':World) (L:Lay w w' (two l' j jm w.heap.size g (mcL M2 (.slice (some ⟨g,0,none⟩) nm nm)) M2.m))=>ra_any (w0:=w) (w:=w') (ev:=x.e) HM2.out L (Gj.out _ _) (Gk.out _ _) HNM2.out hxv.1)
         have HAO:=lh (appM_ok HM2.out hxv.1 hxv.2)
         have HAL:=lh ((appM_len M2 x.e).trans HNM2.out)
         have HAN:=lh ((appM_n M2 x.e).trans HN2.out)
         have HAS:Hid (Sys.Seq M1.n tgt (es.drop (q2+1))):=lh (by
          have h:=HSQ2.out
          rw[hdr2] at h
          exact h.2.2.2.low h.1)
         have HAD:Hid (sysM.due (EG M2 x.e).1 (es.drop (q2+1))=D):=lh (by
          have h:=HDUE.out
          rw[hdr2,Sys.due_cons sysM (m:=M2) ⟨Nat.le_of_eq hxp,hxk⟩,sys_app M2 hxv.1 hxv.2] at h
          exact h)
         clear hdb hdr hx hdr2 hxv hxx hcell hxp hxk t1 t1i t2 t2n hlt
         generalize EG M2 x.e=A at HRA HAO HAL HAN HAD
         go_wp2_with (first|(refine CD (ty:=111) (evL x.e) rfl rfl rfl τ111 rfl CV HPE.out ?_)|(go_at_call 72;(with_reducible refine (HRA.out _ L).mono ?_);rintro ee wz ⟨rfl,Lz⟩;replace L:=Lz;clear Lz))
         go_roundw
         case rel=>exact⟨q2+1,A.1,by go_num,by omega,HAO.out,HAL.out,HAN.out,HAS.out,HAD.out,by rw[two_two HJ.out HI.out] at L;exact L⟩
         case measure=>simp [intOf];omega
       | false =>
         have hD2:=due_no (hi:=tgt) (M:=M2) (by rw[HN2.out];exact HSQ2.out) hdb
         have hDD:D=(M2,es.drop q2):=HDUE.out.symm.trans hD2
         subst hDD
         have hst2:Ba M2=false:=HST.out
         have HTOOK:=lh (Sys.took sysM (m:=M2) (m':=M2) (l:=es.drop q2) (hi:=tgt) hD2 (show Sys.Seq M2.n tgt (es.drop q2) by rw[HN2.out];exact HSQ2.out) HTK.out)
         have hidle:Jm M2=false:=by
          have h:=hst2
          unfold Ba at h
          rw[Bool.or_eq_false_iff,Bool.or_eq_false_iff] at h
          exact h.1.2
         have hc48:(mcL M2 (.slice (some ⟨g,0,none⟩) nm nm))[48]?=some (.bool false):=by rw[←(FH hst2).1];rfl
         have HRI:=lh (fun w=>ridle_any (v:=(.slice (some ⟨g,0,none⟩) nm nm)) (w:=w) HM2.out)
         rw[hidle] at HRI
         have HST2:=lh hst2
         clear hdb hD2 hst2 hidle hlt t1 t1i t2 t2n
         go_upto_region 17 with (first|(refine A7 (ty:=4) (u:=.bool false) L _ (Gj.out _ _) rfl rfl rfl τ4 rfl hc48 ?_)|(refine AQ (ty:=43) L _ (Gj.out _ _) (mcL M2 (.slice (some ⟨g,0,none⟩) nm nm)) rfl rfl rfl τ43 rfl Aw rfl ?_)|(refine YS ?_;clear L;intro wz L))
         go_cut [13] from 105 to 119 (fun b wx=>b=.bool (rdB M2)∧Lay w wx (two l' j jm w.heap.size g (mcL M2 (.slice (some ⟨g,0,none⟩) nm nm)) M2.m))
         case first =>
          cases HTOOK.out.1 with
          | clock x hl hp hk hrd hv =>
            have hp:x.p=M2.n:=hp
            have hrd:rdB M2=true:=hrd
            have hx:es[q2]?=some x:=by
             have h0:(es.drop q2)[0]?=some x:=by rw[hl];rfl
             rw[List.getElem?_drop,Nat.add_zero] at h0
             exact h0
            have hlt2:q2<n:=by rw[←HN.out];exact AJ hx
            obtain⟨hxx,b,off,rfl,hbl,_,_,hcell⟩:=HES.out.at (by omega)
            have hblr:=Nat.lt_of_lt_of_le hbl L.bel.size
            have HX0:=lh ((L.bel.cell (p:=⟨b,off+q2*4,none⟩) hbl).trans (show _=some (Value.int .u64 (M2.n:Int)) by rw[←hp];simpa using hcell q2 x hx 0 _ rfl))
            have l1:decide (q2<n)=true:=decide_eq_true hlt2
            have l1i:decide ((q2:Int)<(n:Int))=true:=decide_eq_true (by omega)
            have HRD:=lh hrd
            clear hl hp hk hrd hv hx hxx hcell
            (try simp only[Act.put,q4,s0,s1])
            refine wp_region_quiet_below (by kernel_rfl) (by kernel_rfl) ?_
            repeat (first|(go_big_quiet_want;(first|fail|(refine AK (ty:=41) L (fun _ h=>Aa h) _ (Gj.out _ _) rfl rfl τ41 rfl rfl ?_)|(refine BN (ty:=41) (u:=(.int .u64 M2.n)) (fun w' h=>((Aa h).cell (p:=⟨b,_,none⟩) hblr).trans HX0.out) rfl rfl τ41 rfl ?_));go_big_quiet_on;(try simp only[Act.put,q4,s0,s1]))|go_big_quiet_step (first|fail|fail))
            exact Xz58
          | none hrd hv hr hhd =>
            have hrd:rdB M2=false:=hrd
            have HRD:=lh hrd
            by_cases hlt2:q2<n
            · obtain⟨x,hx⟩:=A6 (xs:=es) (k:=q2) (by rw[HN.out];exact hlt2)
              have hp:M2.n<x.p:=hhd x (es.drop (q2+1)) (FX hx)
              obtain⟨hxx,b,off,rfl,hbl,_,_,hcell⟩:=HES.out.at (by omega)
              have hblr:=Nat.lt_of_lt_of_le hbl L.bel.size
              have HX0:=lh ((L.bel.cell (p:=⟨b,off+q2*4,none⟩) hbl).trans (show _=some (Value.int .u64 (x.p:Int)) by simpa using hcell q2 x hx 0 _ rfl))
              have l1:decide (q2<n)=true:=decide_eq_true hlt2
              have l1i:decide ((q2:Int)<(n:Int))=true:=decide_eq_true (by omega)
              have l2:(x.p == M2.n)=false:=by rw[beq_eq_false_iff_ne];omega
              have l2i:((x.p:Int) == (M2.n:Int))=false:=by rw[beq_eq_false_iff_ne];omega
              clear hhd hrd hv hr hx hxx hcell hp
              (try simp only[Act.put,q4,s0,s1])
              refine wp_region_quiet_below (by kernel_rfl) (by kernel_rfl) ?_
              repeat (first|(go_big_quiet_want;(first|fail|(refine AK (ty:=41) L (fun _ h=>Aa h) _ (Gj.out _ _) rfl rfl τ41 rfl rfl ?_)|(refine BN (ty:=41) (u:=(.int .u64 x.p)) (fun w' h=>((Aa h).cell (p:=⟨b,_,none⟩) hblr).trans HX0.out) rfl rfl τ41 rfl ?_));go_big_quiet_on;(try simp only[Act.put,q4,s0,s1]))|go_big_quiet_step (first|fail|fail))
              exact Xz58
            · have l1:decide (q2<n)=false:=decide_eq_false hlt2
              have l1i:decide ((q2:Int)<(n:Int))=false:=decide_eq_false (by omega)
              clear hhd hrd hv hr hlt2
              (try simp only[Act.put,q4,s0,s1])
              refine wp_region_quiet_below (by kernel_rfl) (by kernel_rfl) ?_
              repeat (first|(go_big_quiet_want;(first|fail|(refine AK (ty:=41) L (fun _ h=>Aa h) _ (Gj.out _ _) rfl rfl τ41 rfl rfl ?_));go_big_quiet_on;(try simp only[Act.put,q4,s0,s1]))|go_big_quiet_step (first|fail|fail))
              exact Xz58
         case rest =>
          obtain⟨rfl,L⟩:=hcut
          have HRK:=lh (fun w h=>rreads_any (v:=(.slice (some ⟨g,0,none⟩) nm nm)) (w:=w) HM2.out h)
          rw[←rd_is HST2.out] at HRK
          have HMR:=lh (fun (w':World) (L:Lay w w' (two l' j jm w.heap.size g (mcL M2 (.slice (some ⟨g,0,none⟩) nm nm)) M2.m))=>L.memRow (Gk.out _ _) HNM2.out (by rw[←HNM2.out];exact HM2.out.m.p) (by rw[←HNM2.out];exact HM2.out.m.q))
          cases hrd:rdB M2 with
          | true =>
            obtain⟨x,hl,hp,hv⟩:∃ x,es.drop q2=x :: rr∧x.p=M2.n∧u=x.e.n:=by
             cases HTOOK.out.1 with
             | clock x hl hp hk _ hv=>exact⟨x,hl,hp,hv⟩
             | none h _ _ _=>rw[show sysM.rd M2=rdB M2 from rfl,hrd] at h;cases h
            have hx:es[q2]?=some x:=by
             have h0:(es.drop q2)[0]?=some x:=by rw[hl];rfl
             rw[List.getElem?_drop,Nat.add_zero] at h0
             exact h0
            have hlt2:q2<n:=by rw[←HN.out];exact AJ hx
            have hrr:rr=es.drop (q2+1):=by
             have h:=hl.symm.trans (FX hx)
             injection h
            have hxv:=HVAL.out x (List.mem_of_getElem? hx)
            subst hrr
            subst hv
            obtain⟨hxx,b,off,rfl,hbl,_,_,hcell⟩:=HES.out.at (by omega)
            have HXN:=lh (fun (w':World) (hb:Below w.heap.size w w')=>(hb.cell (p:=⟨b,off+q2*4+2,none⟩) hbl).trans (show _=some (Value.int .u32 x.e.n) by simpa using hcell q2 x hx 2 _ rfl))
            rw[hrd] at HRK
            have HAV:=lh (fun (w':World) (L:Lay w w' (two l' j jm w.heap.size g (mcL M2 (.slice (some ⟨g,0,none⟩) nm nm)) M2.m))=>radv_any (M:=M2) (w0:=w) (w:=w') (clk:=x.e.n) HM2.out HST2.out hxv.1 hxv.2 L (Gj.out _ _) (Gk.out _ _) HNM2.out)
            have HSO:=lh (Et HM2.out (clk:=x.e.n) ⟨hxv.1,hxv.2⟩)
            have HSL:=lh ((Gf HM2.out (x.e.n)).trans HNM2.out)
            have HSN:Hid ((AZ M2 (x.e.n)).1.n=M1.n+1):=lh (by rw[GO _ HST2.out,HN2.out])
            have HSU:=lh (Fn M2 (x.e.n))
            have HSC:=lh HSCR.out
            rw[show sysM.step (M2,es.drop q2).1 (x.e.n)=AZ M2 (x.e.n) from GM M2 hxv.1 hxv.2] at HSC
            clear hl hp hx hxx hcell hrd
            generalize AZ M2 x.e.n=S at HAV HSO HSL HSN HSU HSC
            go_wp2_with (first|(refine A7 (ty:=4) (u:=.bool true) L _ (Gj.out _ _) rfl rfl rfl τ4 rfl hc48 ?_)|(refine AQ (ty:=43) L _ (Gj.out _ _) (mcL M2 (.slice (some ⟨g,0,none⟩) nm nm)) rfl rfl rfl τ43 rfl Aw rfl ?_)|(refine Ad rfl (Au (ty:=25) (u:=.int .u32 x.e.n) rfl rfl τ25 rfl (HXN.out _ L.bel)) ?_)|(go_at_call 75;(with_reducible refine (HAV.out _ L).mono ?_);rintro ee wz ⟨vo,rfl,hoo,Lz⟩;replace L:=Lz;clear Lz;rw[two_two HJ.out HI.out] at L;have ho1:=(HROW.out.two HJ.out HI.out (mcL S.1 (.slice (some ⟨g,0,none⟩) nm nm)) S.1.m).owns L)|(at_builtin;refine DU rfl (.tmp 133) (.tmp 135) 59 rfl w.heap.size w.heap.size 103 i0 (.agg (ouL ou0).toArray) 4 40 τ59 hi iz0 iz1 iz2 rfl (by decide) _ o1.length (o1.flatMap ouL) rfl ho1 _ S.2.length (S.2.flatMap ouL) rfl hoo (outs_one _) (by have:=HSU.out;unfold maxLen;omega) (by have:=HSU.out;omega) L.bel.size ?_;intro vn w3 hown3 hgrow3)|((go_at_call 74;(with_reducible refine zcl L (HRK.out _ (HMR.out _ L)) ?_));clear L;intro wz L))
            have L3:=rnpick HJ.out HI.out HR6.out hd1 hd2 hd3 L ho1 hgrow3
            have hm1:=Jc L3 (j:=2) rfl
            have hm2:=HCNT.out
            have hm3:=HSN.out
            have hlt:=HLT.out
            go_roundw
            case rel=>exact⟨q2+1,k2,S.1,o1++S.2,by go_num,hlt2,HSO.out,HSL.out,by rw[HSN.out];omega,by rw[HSN.out];omega,by rw[List.length_append,HSN.out];have:=HSU.out;omega,by rw[HSN.out,←HN2.out];exact HTOOK.out.2,HSC.out,L3,by unfold OutRow;rw[List.flatMap_append,List.length_append];exact hown3⟩
            case measure=>rw[hm1,hm2];omega
          | false =>
            have hv:u=0∧rr=es.drop q2:=by
             cases HTOOK.out.1 with
             | clock _ _ _ _ h _=>rw[show sysM.rd M2=rdB M2 from rfl,hrd] at h;cases h
             | none _ h1 h2 _=>exact⟨h1,h2⟩
            obtain⟨rfl,rfl⟩:=hv
            rw[hrd] at HRK
            have HAV:=lh (fun (w':World) (L:Lay w w' (two l' j jm w.heap.size g (mcL M2 (.slice (some ⟨g,0,none⟩) nm nm)) M2.m))=>radv_any (M:=M2) (w0:=w) (w:=w') (clk:=0) HM2.out HST2.out (Int.le_refl 0) (by decide) L (Gj.out _ _) (Gk.out _ _) HNM2.out)
            have HSO:=lh (Et HM2.out (clk:=0) ⟨(Int.le_refl 0),(by decide)⟩)
            have HSL:=lh ((Gf HM2.out (0)).trans HNM2.out)
            have HSN:Hid ((AZ M2 (0)).1.n=M1.n+1):=lh (by rw[GO _ HST2.out,HN2.out])
            have HSU:=lh (Fn M2 (0))
            have HSC:=lh HSCR.out
            rw[show sysM.step (M2,es.drop q2).1 (0)=AZ M2 (0) from GM M2 (Int.le_refl 0) (by decide)] at HSC
            clear hrd
            generalize AZ M2 0=S at HAV HSO HSL HSN HSU HSC
            go_wp2_with (first|(refine AQ (ty:=43) L _ (Gj.out _ _) (mcL M2 (.slice (some ⟨g,0,none⟩) nm nm)) rfl rfl rfl τ43 rfl Aw rfl ?_)|(go_at_call 75;(with_reducible refine (HAV.out _ L).mono ?_);rintro ee wz ⟨vo,rfl,hoo,Lz⟩;replace L:=Lz;clear Lz;rw[two_two HJ.out HI.out] at L;have ho1:=(HROW.out.two HJ.out HI.out (mcL S.1 (.slice (some ⟨g,0,none⟩) nm nm)) S.1.m).owns L)|(at_builtin;refine DU rfl (.tmp 133) (.tmp 135) 59 rfl w.heap.size w.heap.size 103 i0 (.agg (ouL ou0).toArray) 4 40 τ59 hi iz0 iz1 iz2 rfl (by decide) _ o1.length (o1.flatMap ouL) rfl ho1 _ S.2.length (S.2.flatMap ouL) rfl hoo (outs_one _) (by have:=HSU.out;unfold maxLen;omega) (by have:=HSU.out;omega) L.bel.size ?_;intro vn w3 hown3 hgrow3)|((go_at_call 74;(with_reducible refine zcl L (HRK.out _ (HMR.out _ L)) ?_));clear L;intro wz L))
            have L3:=rnpick HJ.out HI.out HR6.out hd1 hd2 hd3 L ho1 hgrow3
            have hm1:=Jc L3 (j:=2) rfl
            have hm2:=HCNT.out
            have hm3:=HSN.out
            have hlt:=HLT.out
            go_roundw
            case rel=>exact⟨q2,k2,S.1,o1++S.2,by go_num,hq2,HSO.out,HSL.out,by rw[HSN.out];omega,by rw[HSN.out];omega,by rw[List.length_append,HSN.out];have:=HSU.out;omega,by rw[HSN.out,←HN2.out];exact HTOOK.out.2,HSC.out,L3,by unfold OutRow;rw[List.flatMap_append,List.length_append];exact hown3⟩
            case measure=>rw[hm1,hm2];omega
   · obtain rfl:M1.n=tgt:=by omega
     have hend:=Sys.scrT_end _ hscr rfl
     injection hend with e1 e2
     injection e2 with e2 e3
     have hql:(es.drop q).length=n - q:=by rw[List.length_drop,HN.out]
     have HE1:=lh e1
     have HE2:=lh e2
     have HE3:=lh e3
     have HOUT:=lh hout
     have hom0:MemOk M1.m:=hM1.m
     have HOM:=lh hom0
     have HNM1:=lh hnm1
     have HQL:=lh hql
     clear e1 e2 e3 hscr hsq hout hM1 hnm1 hlt hom0 hql
     go_wp2_with (first|(refine Ag (ty:=43) L 1 rfl (mcL M1 (.slice (some ⟨g,0,none⟩) nm nm)) (mcL M1 (.slice (some ⟨g,0,none⟩) nm nm)) rfl rfl rfl rfl Aw (Bp _ rfl) rfl rfl ?_;intro wz Lz Nz;have ho2:=Ai HOUT.out (L.at (k:=1) rfl) (by decide) Nz;clear Nz;replace L:=Lz;clear Lz;simp only[s0,s1] at L)|(refine YL ?_))
     try go_simp
     have hl1:=AU L 1 rfl (mcL M1 (.slice (some ⟨g,0,none⟩) nm nm)) rfl τ43 rfl Aw
     have hom:OwnMem w.heap.size wz (.slice (some ⟨g,0,none⟩) nm nm) M1.m:=⟨by rw[HNM1.out];exact owns_of_block (L.at (k:=0) rfl) (Nat.le_of_lt hd3) (by rw[CM,HNM1.out]) (by have:=HOM.out.q;rw[HNM1.out] at this;unfold maxLen;omega),HOM.out.p⟩
     have hqq:((n - rest.length:Nat):Int)=(q:Int):=by have:=HQL.out;rw[HE2.out];omega
     rw[←HE3.out] at ho2
     rw[←HE1.out] at hom hl1
     exact bodyPost_ret (v:=.tuple #[.agg (mcL M' (.slice (some ⟨g,0,none⟩) nm nm)).toArray,_,.int .i64 ((n - rest.length:Nat):Int),.int .i64 0]) (by rw[hqq];simp [results,Tryz.results28,asAddr,hl1] <;> rfl) rfl ⟨(.slice (some ⟨g,0,none⟩) nm nm),_,rfl,hom,ho2,L.bel⟩
end Go.Proofs.YtnmpfmapncicmaaGreat
