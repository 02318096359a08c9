/-
  Texts joined: TpSa TpSb TpSc TpSd TpSys TpSn TpRd LawRows. No law is proved here.
-/
import Derived.Test.YtnmpfmapncicmaaGreatB36
namespace Go.Proofs.YtnmpfmapncicmaaGreat
set_option linter.all false
set_option maxRecDepth 100000
set_option maxHeartbeats 40000000
open Go.RowKit
section
variable {w0 w:World} {l:List Bx} {k g n:Nat} {xs:List Int}
theorem fin_any {d:Dk} {e:Ev} (L:Lay w0 w l) (hk:l[k]?=some ⟨g,words xs,25⟩) (hn:xs.length=n) (hm:MemOk xs) (hd:DkOk d (Ao xs)) (he:0≤e.n) :
    Calls Tryz.prog 141 #[.agg (dkL d).toArray,.slice (some ⟨g,0,none⟩) n n,.agg (evL e).toArray] w (Bc w0 (l.set k ⟨g,words (AS d xs e).2.1,25⟩) (.tuple #[.agg (dkL (AS d xs e).1).toArray,.bool (AS d xs e).2.2])):=by
 have hb:=hd.busy
 have hp:=hm.pages
 obtain⟨bl,b,f,s,cmd,ob,of,od⟩:=d
 obtain⟨ek,en,D⟩:=e
 dsimp only at hb he
 rw[dkComp_lit]
 by_cases h1:s≠1∨ek≠4∨1<en
 · rw[if_pos h1];exact fin_refuse L hk h1
 rw[if_neg h1]
 have hs:s=1:=Classical.byContradiction (fun h=>h1 (.inl h))
 have h4:ek=4:=Classical.byContradiction (fun h=>h1 (.inr (.inl h)))
 have hle:en≤1:=Int.not_lt.1 (fun h=>h1 (.inr (.inr h)))
 obtain⟨_,_,o0,o1,hc⟩:=hb hs
 have hf:W32 of:=⟨o0,by omega⟩
 have hc':cmd=1∨cmd=2:=hc.imp And.left And.left
 by_cases hr:en=1∧cmd=1
 · rw[if_pos hr]
   by_cases hg:D.size=128∧isPage xs of=true
   · rw[if_pos hg]
     have:=fin_rd (bl:=bl) (b:=b) (f:=f) (ob:=ob) (od:=od) L hk hn hm hf hs h4 hr.1 hr.2 hg.1 hg.2
     dsimp only
     rw[if_pos hr.1]
     exact this
   · rw[if_neg hg]
     exact fin_rd_no L hk hn hm hf hs h4 hr.1 hr.2 (by
      by_cases h:D.size=128
      · right
        cases hq:isPage xs of with
        | true=>exact absurd ⟨h,hq⟩ hg
        | false=>rfl
      · exact .inl h)
 · rw[if_neg hr]
   by_cases hz:D.size=0
   · rw[if_pos hz]
     exact fin_wr L hk hs h4 (by omega) hc' hr hz
   · rw[if_neg hz]
     exact fin_wr_no L hk hs h4 (by omega) hc' hr hz
/-! ## The network interface -/
theorem Xz53 {P:Prop} (h:P:=by
  go_in
  go_wp2_with (first|(go_skip;first|(go_step;go_big_op)|skip)|(refine YL ?_)|(refine YS ?_;clear L;intro wz L))
  exact Yr2 ⟨rfl,by rw[AY HI.out];exact L.drop2⟩):P:=h
theorem acc_no {f ln b gg:Int} {pp r:Bool} {D:ByteArray} (L:Lay w0 w l) (hk:l[k]?=some ⟨g,words xs,25⟩) (hn:xs.length=n) (hm:MemOk xs) (hb:W32 b) (h:¬(pp=true∧1≤D.size∧D.size≤128∧isPage xs b=true)):Calls Tryz.prog 142 #[.agg (ncL ⟨f,ln,pp,b,r,gg⟩).toArray,.slice (some ⟨g,0,none⟩) n n,.string D] w (Bc w0 (l.set k ⟨g,words (xs),25⟩) (.tuple #[.agg (ncL ⟨f,ln,pp,b,r,gg⟩).toArray,.bool false])):=by
 have HI:=lh hk
 have P:=fun w=>B8 (some ⟨g,0,none⟩) xs n n b w hn hm hb.1 hb.2
 cases pp
 · have HP:=lh P
   clear P h hk hn hm hb
   exact Xz53
 · by_cases h1:1≤D.size
   · have d1:decide (D.size<1)=false:=decide_eq_false (by omega)
     have d1':decide ((D.size:Int)<1)=false:=decide_eq_false (by omega)
     by_cases h2:D.size≤128
     have d2:decide (128<(D.size:Int))=false:=decide_eq_false (by omega)
     have hp:isPage xs b=false:=by
      cases hq:isPage xs b with
      | true=>exact absurd ⟨rfl,h1,h2,hq⟩ h
      | false=>rfl
     rw[hp] at P
     have HP:=lh P
     clear P h hk hn hm hb hp
     rotate_left
     have d2:decide (128<(D.size:Int))=true:=decide_eq_true (by omega)
     have HP:=lh P
     clear P h hk hn hm hb
     rotate_left
     all_goals
      exact Xz53
   · have d1:decide (D.size<1)=true:=decide_eq_true (by omega)
     have d1':decide ((D.size:Int)<1)=true:=decide_eq_true (by omega)
     have d0:D.size=0:=by omega
     have HP:=lh P
     clear P h hk hn hm hb h1 d0
     exact Xz53
theorem acc_yes {f ln b gg:Int} {r:Bool} {D:ByteArray} {pp:Bool} (L:Lay w0 w l) (hk:l[k]?=some ⟨g,words xs,25⟩) (hn:xs.length=n) (hm:MemOk xs) (hb:W32 b) (hpp:pp=true) (h1:1≤D.size) (h2:D.size≤128) (hp:isPage xs b=true) :
    Calls Tryz.prog 142 #[.agg (ncL ⟨f,ln,pp,b,r,gg⟩).toArray,.slice (some ⟨g,0,none⟩) n n,.string D] w (Bc w0 (l.set k ⟨g,words (A0 xs b (D++(Bh xs b).extract D.size 128)),25⟩) (.tuple #[.agg (ncL ⟨f,ln,false,0,true,(D.size:Int)⟩).toArray,.bool true])):=by
 subst hpp
 have HI:=lh hk
 have P:=fun w=>B8 (some ⟨g,0,none⟩) xs n n b w hn hm hb.1 hb.2
 have hq:=of_decide_eq_true hp
 rw[hp] at P
 obtain⟨q,rfl⟩:∃ q:Nat,b=q:=⟨b.toNat,by have:=hb.1;omega⟩
 have hfit:=BQ (p:=q) (n:=xs.length) (by rw[←Int.ofNat_lt,←Bv];exact hq)
 have FL:=fun l' k' (w:World) (L:Lay w0 w l') hk=>rfill_any (k:=k') (g:=g) L hk hn hm q D hq h2
 rw[fill_recv hm hfit.1 D h2] at FL
 generalize A0 xs q (D++(Bh xs q).extract D.size 128)=ys at *
 have HFL:=lh FL
 have HP:=lh P
 have d1:decide (D.size<1)=false:=decide_eq_false (by omega)
 have d1':decide ((D.size:Int)<1)=false:=decide_eq_false (by omega)
 have d2:decide (128<(D.size:Int))=false:=decide_eq_false (by omega)
 have h64:wrap64 (q:Int)=q:=by have:=hb.2;unfold wrap64;omega
 have hsz:((D.size:Int) % 4294967296)=D.size:=by omega
 clear P hk hn hm hb hp hq hfit FL
 go_in
 go_wp2_with (first|(go_skip;first|(go_step;go_big_op)|skip)|(refine YL ?_)|(refine YS ?_;clear L;intro wz L))
 refine (HFL.out _ (k+2) _ L (Ac (Ac HI.out))).mono ?_
 rintro e wz ⟨rfl,Lz⟩
 replace L:=Lz
 clear Lz
 simp only[List.set_cons_succ] at L
 go_wp2_with (first|(go_skip;first|(go_step;go_big_op)|skip)|(refine Yp (ncL ⟨f,ln,false,0,true,(D.size:Int)⟩) ?_)|((first|refine Yt (ncL ⟨f,ln,false,q,r,gg⟩) ?_|refine Yt (ncL ⟨f,ln,false,0,r,gg⟩) ?_|refine Yt (ncL ⟨f,ln,false,0,true,gg⟩) ?_|refine Yt (ncL ⟨f,ln,false,0,true,(D.size:Int)⟩) ?_|refine YS ?_);clear L;intro wz L))
 exact Yr2 ⟨rfl,L.drop2⟩
theorem acc_any {c:Nc} {D:ByteArray} (L:Lay w0 w l) (hk:l[k]?=some ⟨g,words xs,25⟩) (hn:xs.length=n) (hm:MemOk xs) (hc:NcOk c (Ao xs)) :
    Calls Tryz.prog 142 #[.agg (ncL c).toArray,.slice (some ⟨g,0,none⟩) n n,.string D] w (Bc w0 (l.set k ⟨g,words (AR c xs D).2.1,25⟩) (.tuple #[.agg (ncL (AR c xs D).1).toArray,.bool (AR c xs D).2.2])):=by
 have hp:=hm.pages
 have hb:W32 c.b:=by
  have h:=hc.b
  refine ⟨h.1,?_⟩
  cases hpp:c.p with
  | true=>have:=h.2.1 hpp;omega
  | false=>have:=h.2.2 hpp;omega
 obtain⟨f,ln,pp,b,r,gg⟩:=c
 dsimp only at hb
 have E:AR ⟨f,ln,pp,b,r,gg⟩ xs D=if pp=true∧1≤D.size∧D.size≤128∧isPage xs b=true then (⟨f,ln,false,0,true,D.size⟩,A0 xs b (D++(Bh xs b).extract D.size 128),true) else (⟨f,ln,pp,b,r,gg⟩,xs,false):=rfl
 by_cases h:pp=true∧1≤D.size∧D.size≤128∧isPage xs b=true
 · rw[if_pos h] at E
   have HH:=acc_yes (f:=f) (ln:=ln) (gg:=gg) (r:=r) L hk hn hm hb h.1 h.2.1 h.2.2.1 h.2.2.2
   rw[E]
   dsimp only
   exact HH
 · rw[if_neg h] at E
   have HH:=acc_no (f:=f) (ln:=ln) (gg:=gg) (r:=r) L hk hn hm hb h
   rw[E]
   dsimp only
   exact HH
end
theorem bl_one (T G:Nat):∀ u∈blL T G,u.oneCell'=true:=by
 intro u hu;simp only[blL,List.mem_cons,List.not_mem_nil,or_false] at hu;rcases hu with rfl|rfl <;> rfl
theorem Lay.fst {w0 w:World} {x:Bx} {l:List Bx} (_L:Lay w0 w (x :: l)):∃ b,x.b=b:=⟨_,rfl⟩
theorem Lay.snd {w0 w:World} {x y:Bx} {l:List Bx} (_L:Lay w0 w (x :: y :: l)):∃ b,y.b=b:=⟨_,rfl⟩
section
variable {w0 w:World} {l:List Bx} {k g n T G v:Nat} {xs:List Int}
theorem Xz54 {P:Prop} (h:P:=by
  go_in
  go_wp2_with (first|(go_skip;first|(go_step;go_big_op)|skip)|(refine YL ?_)|(refine YS ?_;clear L;intro wz L))
  exact Yr1 ⟨rfl,by rw[AY HI.out];exact L.drop2⟩):P:=h
theorem gv_else {port:Int} (L:Lay w0 w l) (hk:l[k]?=some ⟨g,words xs,25⟩) (hp:port≠10) (hq:port≠11):Calls Tryz.prog 205 #[.agg (blL T G).toArray,.slice (some ⟨g,0,none⟩) n n,.int .i64 port,.int .u32 v] w (Bc w0 (l.set k ⟨g,words (xs),25⟩) (.agg (blL T (G)).toArray)):=by
 have HI:=lh hk
 have e1:(port == 10)=false:=by rw[beq_eq_false_iff_ne];exact hp
 have e2:(port == 11)=false:=by rw[beq_eq_false_iff_ne];exact hq
 clear hp hq hk
 exact Xz54
theorem gv_take (L:Lay w0 w l) (hk:l[k]?=some ⟨g,words xs,25⟩) (_hG:G<4294967296) (hv:v<4294967296):Calls Tryz.prog 205 #[.agg (blL T G).toArray,.slice (some ⟨g,0,none⟩) n n,.int .i64 11,.int .u32 v] w (Bc w0 (l.set k ⟨g,words (xs),25⟩) (.agg (blL T (if v<32 then clrN G v else G)).toArray)):=by
 have HI:=lh hk
 clear hk
 by_cases h:v<32
 · rw[if_pos h]
   have am:=GI h
   have a1:=andNot_u32 G v
   have a2:=Hh G v
   obtain⟨G1,hG1⟩:∃ x,clrN G v=x:=⟨_,rfl⟩
   rw[hG1] at a1 a2 ⊢
   clear hG1
   go_in
   go_wp2_with (first|(go_skip;first|(go_step;go_big_op)|skip)|(refine YL ?_)|((first|refine Yt (blL T G1) ?_|refine YS ?_);clear L;intro wz L))
   exact Yr1 ⟨rfl,by rw[AY HI.out];exact L.drop2⟩
 · rw[if_neg h]
   exact Xz54
theorem gv_keep (L:Lay w0 w l) (hk:l[k]?=some ⟨g,words xs,25⟩) (hn:xs.length=n) (hm:MemOk xs) (hG:G<4294967296) (hv:v<4294967296) (hno:¬((v:Int)<Ao xs∧G.testBit v=false)):Calls Tryz.prog 205 #[.agg (blL T G).toArray,.slice (some ⟨g,0,none⟩) n n,.int .i64 10,.int .u32 v] w (Bc w0 (l.set k ⟨g,words (xs),25⟩) (.agg (blL T (G)).toArray)):=by
 have HI:=lh hk
 have P:=fun w=>B8 (some ⟨g,0,none⟩) xs n n v w hn hm (by omega) (by omega)
 have hpg:=hm.pages
 unfold isPage at P
 by_cases hp:(v:Int)<Ao xs
 have hbt:G.testBit v=true:=by
   cases hb:G.testBit v
   · exact absurd ⟨hp,hb⟩ hno
   · rfl
 have a1:=bit_at G v hG
 rw[bit_is,hbt] at a1
 rw[decide_eq_true hp] at P
 have HP:=lh P
 have hv32:v<32:=by omega
 rotate_left
 rw[decide_eq_false hp] at P
 have HP:=lh P
 rotate_left
 all_goals
  clear P hk hn hm hno hp hpg
  exact Xz54
theorem gv_give (L:Lay w0 w l) (hk:l[k]?=some ⟨g,words xs,25⟩) (hn:xs.length=n) (hm:MemOk xs) (hG:G<4294967296) (hv:(v:Int)<Ao xs) (hbt:G.testBit v=false):Calls Tryz.prog 205 #[.agg (blL T G).toArray,.slice (some ⟨g,0,none⟩) n n,.int .i64 10,.int .u32 v] w (Bc w0 (l.set k ⟨g,words (CJ xs v 32),25⟩) (.agg (blL T (setN G v)).toArray)):=by
 have HI:=lh hk
 have P:=fun w=>B8 (some ⟨g,0,none⟩) xs n n v w hn hm (by omega) (by have:=hm.pages;omega)
 have hpg:=hm.pages
 unfold isPage at P
 have a1:=bit_at G v hG
 rw[bit_is,hbt] at a1
 rw[decide_eq_true hv] at P
 have HP:=lh P
 have h:v<32:=by omega
 have am:=GI h
 have a4:=or_u32 G v hG h
 have a5:=GQ hG h
 have hfit:v*32+32≤n:=by omega
 have hx:∀ j,j<32→v*32+j<(CJ xs v j).length:=fun j hj=>by rw[EB];omega
 have HX:=lh hx
 obtain⟨G1,hG1⟩:∃ x,setN G v=x:=⟨_,rfl⟩
 rw[hG1] at a4 a5 ⊢
 have hnn:n≤1024:=by rw[←hn];exact hm.q
 clear hG1 hbt P hx hv hpg hn hm
 go_in
 go_wp2_with (first|(go_skip;first|(go_step;go_big_op)|skip)|(refine YL ?_)|((first|refine Yt (blL T G1) ?_|refine YS ?_);clear L;intro wz L))
 obtain⟨b0,hb0⟩:=L.fst
 obtain⟨b1,hb1⟩:=L.snd
 dsimp only at hb0 hb1
 rw[hb0,hb1] at L
 rw[hb0,hb1]
 clear hb0 hb1
 go_loopw [9] (fun i wr=>∃ j:Nat,j≤32∧i=.int .i64 j∧Lay w0 wr (⟨b0,blL 0 0,40⟩ :: ⟨b1,blL T G1,40⟩ :: l.set k ⟨g,words (CJ xs v j),25⟩)) (fun i _=>32 - (intOf i).toNat)
 case atStart=>exact⟨0,by omega,rfl,by rw[show CJ xs v 0=xs from rfl,AY hk];exact L⟩
 case round =>
  clear L
  obtain⟨j,hj,rfl,L⟩:=hrel
  by_cases hlt:j<32
  · have hcell:=L.wordCell (Ac (Ac (BK hk _))) (HX.out j hlt)
    have hfree:=(L.at (Ac (Ac (BK hk ⟨g,words (CJ xs v j),25⟩)))).free (v*32+j)
    have F:=L.setWord (Ac (Ac (BK hk _))) (v*32+j) 0
    have HF:=lh F
    clear F L
    go_wp2_with fail
    go_roundw
    case rel =>
     have L:=HF.out
     simp only[List.set_cons_succ,List.set_set] at L
     exact⟨j+1,by omega,by go_num,L⟩
    case measure=>simp [intOf];omega
  · obtain rfl:j=32:=by omega
    go_wp2_with (first|(go_skip;first|(go_step;go_big_op)|skip)|(refine YL ?_)|(refine YS ?_;clear L;intro wz L))
    exact Yr1 ⟨rfl,L.drop2⟩
theorem gv_any {port:Int} (L:Lay w0 w l) (hk:l[k]?=some ⟨g,words xs,25⟩) (hn:xs.length=n) (hm:MemOk xs) (hG:G<4294967296) (hv:v<4294967296):Calls Tryz.prog 205 #[.agg (blL T G).toArray,.slice (some ⟨g,0,none⟩) n n,.int .i64 port,.int .u32 v] w (Bc w0 (l.set k ⟨g,words (Fc G xs port v),25⟩) (.agg (blL T (Hy G xs.length port v)).toArray)):=by
 have hpg:=hm.pages
 have hp':((AO xs.length:Nat):Int)=Ao xs:=(Bv xs).symm
 unfold Hy Fc
 by_cases h10:port=10
 · subst h10
   by_cases hp:v<AO xs.length∧G.testBit v=false
   · rw[if_pos (show v<32 by omega),if_pos rfl,if_pos hp,if_pos ⟨by omega,rfl,hp.1,hp.2⟩]
     exact gv_give L hk hn hm hG (by omega) hp.2
   · rw[if_neg (c:=v<32∧(10:Int)=10∧v<AO xs.length∧G.testBit v=false) (fun e=>hp e.2.2),if_pos rfl,if_neg hp,ite_self]
     exact gv_keep L hk hn hm hG hv (fun e=>hp ⟨by omega,e.2⟩)
 · rw[if_neg h10,if_neg (c:=v<32∧port=10∧v<AO xs.length∧G.testBit v=false) (fun e=>h10 e.2.1)]
   by_cases h11:port=11
   · subst h11
     rw[if_pos rfl]
     exact gv_take L hk hG hv
   · rw[if_neg h11,ite_self]
     exact gv_else L hk h10 h11
end
theorem line_or:∀ b0 b1 b2 b3 b4:Bool,bits .or .u32 (bits .or .u32 (bits .or .u32 (bits .or .u32 (Ds b0 0) (Ds b1 1)) (Ds b2 2)) (Ds b3 3)) (Ds b4 4)=C2 b0 b1 b2 b3 b4 5:=by decide +kernel
theorem csr_zero:(Tryz.prog.info? 27).map (·.zero)=some (some (.agg (List.toArray (List.replicate 8 (.int .u32 0))))):=by kernel_rfl
theorem rline_any (b:Bool) (k:Nat) (hk:k<5) (w:World):Calls Tryz.prog 236 #[.bool b,.int .i64 k] w (Ret w (.int .u32 (Ds b k))):=by
 have hb:=Below.refl w.heap.size w
 cases b
 · go_in
   go_wp2_with fail
   go_ret
   exact Ret.mk hb
 · obtain rfl|rfl|rfl|rfl|rfl:k=0∨k=1∨k=2∨k=3∨k=4:=by omega
   all_goals
    go_in
    go_wp2_with fail
    go_ret
    exact Ret.mk hb
def csrL (c:List Int):List Value:=[.int .u32 (rg c 17),.int .u32 (rg c 18),.int .u32 (rg c 19),.int .u32 (rg c 20),.int .u32 (rg c 21),.int .u32 (rg c 22),.int .u32 (rg c 23),.int .u32 (rg c 24)]
theorem csr_one (c:List Int):∀ u∈csrL c,u.oneCell'=true:=by
 intro u hu;simp only[csrL,List.mem_cons,List.not_mem_nil,or_false] at hu;rcases hu with rfl|rfl|rfl|rfl|rfl|rfl|rfl|rfl <;> rfl
theorem Cq:(Tryz.prog.info? 27).map (·.size)=some 8:=by kernel_rfl
section
variable {M:Mc} {v:Value} {w:World}
theorem rlines_any (hM:M.Ok):Calls Tryz.prog 188 #[.agg (mcL M v).toArray] w (Ret w (.int .u32 (E7 M))):=by
 have C:∀ w,Calls Tryz.prog 238 #[.agg (DS M.keys).toArray] w (Ret w (.bool (decide (0<M.keys.size)))):=fun w=>Dw M.keys w
 have BL:∀ w,Calls Tryz.prog 241 #[.agg (blL M.T M.G).toArray] w (Ret w (.bool (F1 M.T M.G))):=fun w=>rpending_any M.T M.G w hM.T hM.G
 have D:=fun w=>rdkpend_any M.dk w hM.dk.s
 have TM:=fun w=>rtmpend_any M.tm w
 have N:=fun w=>rncpend_any M.nc w
 rw[FW]
 generalize decide (0<M.keys.size)=b1 at C ⊢
 generalize EW M.dk=b2 at D ⊢
 generalize F1 M.T M.G=b4 at BL ⊢
 obtain⟨b0,h0⟩:∃ b,M.tm.f=b:=⟨_,rfl⟩
 obtain⟨b3,h3⟩:∃ b,M.nc.r=b:=⟨_,rfl⟩
 rw[h0] at TM ⊢
 rw[h3] at N ⊢
 have HC:=lh C;have HT:=lh TM;have HD:=lh D;have HNn:=lh N;have HB:=lh BL
 have X:=fun b k h w=>rline_any b k h w
 have e:=line_or b0 b1 b2 b3 b4
 obtain⟨x0,hx0⟩:∃ x,Ds b0 0=x:=⟨_,rfl⟩
 obtain⟨x1,hx1⟩:∃ x,Ds b1 1=x:=⟨_,rfl⟩
 obtain⟨x2,hx2⟩:∃ x,Ds b2 2=x:=⟨_,rfl⟩
 obtain⟨x3,hx3⟩:∃ x,Ds b3 3=x:=⟨_,rfl⟩
 obtain⟨x4,hx4⟩:∃ x,Ds b4 4=x:=⟨_,rfl⟩
 have X0:=X b0 0 (by decide)
 have X1:=X b1 1 (by decide)
 have X2:=X b2 2 (by decide)
 have X3:=X b3 3 (by decide)
 have X4:=X b4 4 (by decide)
 rw[hx0] at X0;rw[hx1] at X1;rw[hx2] at X2;rw[hx3] at X3;rw[hx4] at X4
 rw[hx0,hx1,hx2,hx3,hx4] at e
 have H0:=lh X0;have H1:=lh X1;have H2:=lh X2;have H3:=lh X3;have H4:=lh X4
 have HE:=lh e
 clear C TM D N BL h0 h3 hM X X0 X1 X2 X3 X4 hx0 hx1 hx2 hx3 hx4 e
 have L:=Lay.start w
 go_in
 go_wp2_with (refine YS ?_;clear L;intro wz L)
 (try simp only[Act.put,q4,s0,s1])
 refine wp_region_quiet_below (by kernel_rfl) (by kernel_rfl) ?_
 repeat (first|(go_big_quiet_want;(first|fail|(refine BZ (ty:=34) L (fun _ h=>Aa h) 0 rfl (tmL M.tm) rfl rfl τ34 rfl BS rfl ?_)|(refine BZ (ty:=32) L (fun _ h=>Aa h) 0 rfl (DS M.keys) rfl rfl τ32 rfl BA rfl ?_)|(refine BZ (ty:=36) L (fun _ h=>Aa h) 0 rfl (dkL M.dk) rfl rfl τ36 rfl Bk rfl ?_)|(refine BZ (ty:=38) L (fun _ h=>Aa h) 0 rfl (ncL M.nc) rfl rfl τ38 rfl B7 rfl ?_)|(refine BZ (ty:=40) L (fun _ h=>Aa h) 0 rfl (blL M.T M.G) rfl rfl τ40 rfl Cj rfl ?_));go_big_quiet_on;(try simp only[Act.put,q4,s0,s1]))|go_big_quiet_step (first|fail|(first|(go_at_call 237;exact A9 (HT.out _))|(go_at_call 238;exact A9 (HC.out _))|(go_at_call 239;exact A9 (HD.out _))|(go_at_call 240;exact A9 (HNn.out _))|(go_at_call 241;exact A9 (HB.out _))|(go_at_call 236;first|with_reducible exact A9 (H0.out _)|with_reducible exact A9 (H1.out _)|with_reducible exact A9 (H2.out _)|with_reducible exact A9 (H3.out _)|with_reducible exact A9 (H4.out _)))))
 refine wpQuiet_nil ?_
 intro wz hwz
 replace L:=L.below (Aa hwz)
 clear hwz
 go_wp2_with fail
 go_ret
 exact Ret.mk' (congrArg (Value.int .u32) HE.out) L.bel
theorem GT (hM:M.Ok):Calls Tryz.prog 143 #[.agg (mcL M v).toArray] w (Ret w (.int .u32 (enI M))):=by
 have HL:=lh (fun w=>rlines_any (v:=v) (w:=w) hM)
 unfold enI
 generalize E7 M=q at HL ⊢
 have L:=Lay.start w
 go_in
 go_wp2_with (refine YS ?_;clear L;intro wz L)
 (try simp only[Act.put,q4,s0,s1])
 refine wp_region_quiet_below (by kernel_rfl) (by kernel_rfl) ?_
 repeat (first|(go_big_quiet_want;(first|fail|(refine BZ (ty:=43) L (fun _ h=>Aa h) 0 rfl (mcL M v) rfl rfl τ43 rfl Aw rfl ?_)|(refine zlq τ25 L 0 ?_));go_big_quiet_on;(try simp only[Act.put,q4,s0,s1]))|go_big_quiet_step (first|fail|(go_at_call 188;exact A9 (HL.out _))))
 exact Xz111
theorem ridle_any (hM:M.Ok):Calls Tryz.prog 73 #[.agg (mcL M v).toArray] w (Ret w (.bool (Jm M))):=by
 have HE:=lh (fun w=>GT (v:=v) (w:=w) hM)
 unfold Jm
 generalize enI M=q at HE ⊢
 obtain⟨b,hb⟩:∃ b,M.w=b:=⟨_,rfl⟩
 have hb':(mcL M v)[47]?=some (.bool b):=by rw[←hb];rfl
 rw[hb]
 clear hM hb
 cases b
 all_goals
  have L:=Lay.start w
  go_in
  go_wp2_with (first|(go_skip;first|(go_step;go_big_op)|skip)|(refine A7 (ty:=4) (u:=_) L 0 rfl rfl rfl rfl τ4 rfl hb' ?_)|(refine YL ?_)|(refine YS ?_;clear L;intro wz L))
  go_ret
  exact Ret.mk' (by simp) L.bel
theorem rmay7_any (hM:M.Ok) (ha:MemRow w v M.m):Calls Tryz.prog 69 #[.agg (mcL M v).toArray] w (Ret w (.bool true)):=by
 obtain⟨B,off,cap,rfl,_,_,_,hrow⟩:=ha.open
 have P:=fun w=>DM (some ⟨B,off,none⟩) M.m.length cap w hM.m.r hM.m.q
 have hp:=hM.m.pages
 obtain⟨q,hq⟩:∃ q,M.m.length / 32=q:=⟨_,rfl⟩
 rw[hq] at P
 have hqw:Ao M.m=q:=by omega
 have hq1:1≤q:=by omega
 have C:∀ w,Calls Tryz.prog 133 #[.agg (DS M.keys).toArray] w (Ret w (.bool (decide (M.keys.size≤16)))):=fun w=>Ej M.keys w
 rw[decide_eq_true hM.keys] at C
 have TM:=fun w=>rtmmay_any M.tm w
 rw[show Hq M.tm=true by
  have ht:=hM.tm
  unfold Hq
  cases h1:M.tm.a with
  | true=>have:=ht.2.1 h1;simp [this.1,this.2]
  | false =>
    cases h2:M.tm.f with
    | true=>rfl
    | false=>have:=ht.2.2 h1 h2;simp [this]] at TM
 have D:=fun w=>rdkmay_any M.dk q w (by rw[←hqw];exact hM.dk) (by omega)
 have N:=fun w=>rncmay_any M.nc q w (by rw[←hqw];exact hM.nc) (by omega)
 have BL:∀ w,Calls Tryz.prog 137 #[.agg (blL M.T M.G).toArray,.int .i64 (q:Int)] w (Ret w (.bool (FV M.G (q:Int)))):=fun w=>rmay_any M.T M.G (q:Int) w hM.G
 rw[show FV M.G (q:Int)=true by rw[←hqw];exact hM.bal] at BL
 have HP:=lh P;have HC:=lh C;have HT:=lh TM;have HD:=lh D;have HNn:=lh N;have HB:=lh BL
 have hc:=hM.c
 have q0:decide ((q:Int)<1)=false:=decide_eq_false (by omega)
 have x0:(rg M.c 0 != 0)=false:=by rw[hc.x0];rfl
 have x1:decide (31<rg M.c 17)=false:=decide_eq_false (by have:=hc.s;omega)
 have x2:decide (31<rg M.c 24)=false:=decide_eq_false (by have:=hc.e;omega)
 have x3:decide (255<rg M.c 23)=false:=decide_eq_false (by have:=hc.r;omega)
 have x4:((rg M.c 18).tmod 4 != 0)=false:=by rw[Int.tmod_eq_emod_of_nonneg (hc.at 18).1,hc.v];rfl
 have x5:decide ((M.n:Int)≤1152921504606846976)=true:=decide_eq_true (by have:=hM.n;omega)
 have hwh:=hM.wh
 clear P C TM D N BL hqw hq hp ha hrow hM hc
 obtain⟨c,m,keys,tm,dk,nc,T,G,n,wt,hl⟩:=M
 dsimp only at x0 x1 x2 x3 x4 x5 hwh HP HC HT HD HNn HB ⊢
 cases wt
 · clear hwh
   have L:=Lay.start w
   go_in
   go_wp2_with (first|(go_skip;first|(go_step;go_big_op)|skip)|(refine zbx (ty:=43) L (mcL ⟨c,m,keys,tm,dk,nc,T,G,n,false,hl⟩ _) ?_;clear L;intro wz L)|(refine zld τ30 L 0 ?_)|(refine zlp τ27 Cq L 0 (csrL c) ?_)|(refine zal (ty:=27) L (List.replicate 8 (.int .u32 0)) ?_;clear L;intro wz L)|(refine zsp (ty:=27) Cq L 0 (csrL c) (csrL c) (csr_one _) ?_;clear L;intro wz L)|(refine zlg τ25 L 1 ?_)|(refine zlg τ25 L 0 ?_)|(refine zld τ41 L 1 ?_)|(refine zlg τ4 L 1 ?_)|(go_at_call 132;(with_reducible refine zcs (HP.out _) ?_))|(refine Bw (ty:=34) L 1 rfl (tmL tm) (by rfl) rfl rfl τ34 rfl BS rfl ?_)|(refine zlp τ32 BA L 1 (DS keys) ?_)|(refine Bw (ty:=36) L 1 rfl (dkL dk) (by rfl) rfl rfl τ36 rfl Bk rfl ?_)|(refine Bw (ty:=38) L 1 rfl (ncL nc) (by rfl) rfl rfl τ38 rfl B7 rfl ?_)|(refine Bw (ty:=40) L 1 rfl (blL T G) (by rfl) rfl rfl τ40 rfl Cj rfl ?_)|(go_at_call 133;(with_reducible refine zcl L (HC.out _) ?_);clear L;intro wz L)|(go_at_call 134;(with_reducible refine zcl L (HT.out _) ?_);clear L;intro wz L)|(go_at_call 135;(with_reducible refine zcl L (HD.out _) ?_);clear L;intro wz L)|(go_at_call 136;(with_reducible refine zcl L (HNn.out _) ?_);clear L;intro wz L)|(go_at_call 137;(with_reducible refine zcl L (HB.out _) ?_);clear L;intro wz L))
   go_ret
   exact Ret.mk L.bel
 · obtain rfl:=hwh rfl
   clear hwh
   have L:=Lay.start w
   go_in
   go_wp2_with (first|(go_skip;first|(go_step;go_big_op)|skip)|(refine zbx (ty:=43) L (mcL ⟨c,m,keys,tm,dk,nc,T,G,n,true,false⟩ _) ?_;clear L;intro wz L)|(refine zld τ30 L 0 ?_)|(refine zlp τ27 Cq L 0 (csrL c) ?_)|(refine zal (ty:=27) L (List.replicate 8 (.int .u32 0)) ?_;clear L;intro wz L)|(refine zsp (ty:=27) Cq L 0 (csrL c) (csrL c) (csr_one _) ?_;clear L;intro wz L)|(refine zlg τ25 L 1 ?_)|(refine zlg τ25 L 0 ?_)|(refine zld τ41 L 1 ?_)|(refine zlg τ4 L 1 ?_)|(go_at_call 132;(with_reducible refine zcs (HP.out _) ?_))|(refine Bw (ty:=34) L 1 rfl (tmL tm) (by rfl) rfl rfl τ34 rfl BS rfl ?_)|(refine zlp τ32 BA L 1 (DS keys) ?_)|(refine Bw (ty:=36) L 1 rfl (dkL dk) (by rfl) rfl rfl τ36 rfl Bk rfl ?_)|(refine Bw (ty:=38) L 1 rfl (ncL nc) (by rfl) rfl rfl τ38 rfl B7 rfl ?_)|(refine Bw (ty:=40) L 1 rfl (blL T G) (by rfl) rfl rfl τ40 rfl Cj rfl ?_)|(go_at_call 133;(with_reducible refine zcl L (HC.out _) ?_);clear L;intro wz L)|(go_at_call 134;(with_reducible refine zcl L (HT.out _) ?_);clear L;intro wz L)|(go_at_call 135;(with_reducible refine zcl L (HD.out _) ?_);clear L;intro wz L)|(go_at_call 136;(with_reducible refine zcl L (HNn.out _) ?_);clear L;intro wz L)|(go_at_call 137;(with_reducible refine zcl L (HB.out _) ?_);clear L;intro wz L))
   go_ret
   exact Ret.mk L.bel
end
section
variable {M:Mc} {v:Value} {w:World}
theorem Xz38 {P:Prop} (h:P:=by
  have HT:=lh hT
  clear hT e3 hq hE hc
  go_wp2_with (first|(go_skip;first|(go_step;go_big_op)|skip)|(refine Yp (Ab M.c) ?_)|(refine YS ?_;clear L;intro wz L))
  exact Yr1 (Ret.mk L.bel)):P:=h
theorem Xz92 {P:Prop} (h:P:=by
  have L:=Lay.start w
  go_in
  go_wp2_with (first|(go_skip;first|(go_step;go_big_op)|skip)|(refine Yp (Ab M.c) ?_)|(refine YL ?_)|(refine YS ?_;clear L;intro wz L))
  exact Yr1 (Ret.mk L.bel)):P:=h
theorem rintr_any (hM:M.Ok):Calls Tryz.prog 144 #[.agg (mcL M v).toArray] w (Ret w (.agg (Ab (Bb M)).toArray)):=by
 have e2:bits .and .u32 (rg M.c 17) 2=rg M.c 17 / 2 % 2*2:=AT (hM.c.at 17).1 (hM.c.at 17).2 1 (by decide)
 have HE:=lh (fun w=>GT (v:=v) (w:=w) hM)
 have hE:=enI_bd hM
 unfold Bb
 by_cases hi:rg M.c 17 / 2 % 2=1
 · have e2':(bits .and .u32 (rg M.c 17) 2 == 0)=false:=by rw[e2,hi];rfl
   clear e2
   have TR:=fun (k:Nat) (hk:k<5) w=>C6 (w:=w) hM.c (16+k) 0 (by omega) (by omega)
   obtain⟨E,hEE⟩:∃ E,enI M=E:=⟨_,rfl⟩
   rw[hEE] at HE hE ⊢
   by_cases hz:E=0
   · have hz':(E == 0)=true:=by rw[hz];rfl
     rw[if_neg (fun h=>h.2 hz)]
     clear hz TR hM hEE hi hE
     exact Xz92
   · have hz':(E == 0)=false:=by rw[beq_eq_false_iff_ne];exact hz
     rw[if_pos ⟨hi,hz⟩]
     clear hi hEE hM
     have HTR:=lh TR
     clear TR
     obtain⟨X,hX⟩:∃ X,AN M.c (16+EV E) 0=X:=⟨_,rfl⟩
     rw[hX]
     have HX:=lh hX
     clear hX
     have L:=Lay.start w
     go_in
     go_wp2_with (first|(go_skip;first|(go_step;go_big_op)|skip)|(refine YL ?_)|(refine YS ?_;clear L;intro wz L))
     obtain⟨b0,hb0⟩:=L.fst
     dsimp only at hb0
     rw[hb0] at L
     rw[hb0]
     clear hb0
     go_loopw [4] (fun i wr=>∃ k:Nat,k≤4∧i=.int .i64 k∧E % 2 ^ k=0∧Lay w wr [⟨b0,(List.replicate 25 (.int .u32 0)),29⟩,⟨w.heap.size,mcL M v,43⟩]) (fun i _=>5 - (intOf i).toNat)
     case atStart=>exact⟨0,by omega,rfl,by show E % 1=0;omega,L⟩
     case round =>
      clear L
      obtain⟨k,hk,rfl,hc,L⟩:=hrel
      obtain rfl|rfl|rfl|rfl|rfl:k=0∨k=1∨k=2∨k=3∨k=4:=by omega
      all_goals simp only[Int.pow_zero,Int.reducePow] at hc
      · by_cases hq:E % 2=1
        · have hne:(bits .and .u32 E 1 == 0)=false:=by
            rw[show bits .and .u32 E 1=E / 1 % 2*1 from AT (by omega) (by omega) 0 (by decide),Int.ediv_one,hq];rfl
          have e3:EV E=0:=if_pos (by omega)
          have hT:∀ w,Calls Tryz.prog 189 #[.agg (Ab M.c).toArray,.int .i64 16,.int .u32 0] w (Ret w (.agg (Ab X).toArray)):=fun w=>by have:=HTR.out 0 (by decide) w;rw[←HX.out,e3];exact this
          exact Xz38
        · have hne:(bits .and .u32 E 1 == 0)=true:=by
            rw[show bits .and .u32 E 1=E / 1 % 2*1 from AT (by omega) (by omega) 0 (by decide),Int.ediv_one,show E % 2=0 by omega];rfl
          go_wp2_with fail
          go_roundw
          case rel=>exact⟨0+1,by decide,by go_num,by omega,L⟩
          case measure=>simp [intOf]
      · by_cases hq:(E / 2) % 2=1
        · have hne:(bits .and .u32 (E / 2) 1 == 0)=false:=by
            rw[show bits .and .u32 (E / 2) 1=(E / 2) / 1 % 2*1 from AT (by omega) (by omega) 0 (by decide),Int.ediv_one,hq];rfl
          have e3:EV E=1:=(if_neg (by omega)).trans (if_pos (by omega))
          have hT:∀ w,Calls Tryz.prog 189 #[.agg (Ab M.c).toArray,.int .i64 17,.int .u32 0] w (Ret w (.agg (Ab X).toArray)):=fun w=>by have:=HTR.out 1 (by decide) w;rw[←HX.out,e3];exact this
          exact Xz38
        · have hne:(bits .and .u32 (E / 2) 1 == 0)=true:=by
            rw[show bits .and .u32 (E / 2) 1=(E / 2) / 1 % 2*1 from AT (by omega) (by omega) 0 (by decide),Int.ediv_one,show (E / 2) % 2=0 by omega];rfl
          go_wp2_with fail
          go_roundw
          case rel=>exact⟨1+1,by decide,by go_num,by omega,L⟩
          case measure=>simp [intOf]
      · by_cases hq:(E / 4) % 2=1
        · have hne:(bits .and .u32 (E / 4) 1 == 0)=false:=by
            rw[show bits .and .u32 (E / 4) 1=(E / 4) / 1 % 2*1 from AT (by omega) (by omega) 0 (by decide),Int.ediv_one,hq];rfl
          have e3:EV E=2:=(if_neg (by omega)).trans ((if_neg (by omega)).trans (if_pos (by omega)))
          have hT:∀ w,Calls Tryz.prog 189 #[.agg (Ab M.c).toArray,.int .i64 18,.int .u32 0] w (Ret w (.agg (Ab X).toArray)):=fun w=>by have:=HTR.out 2 (by decide) w;rw[←HX.out,e3];exact this
          exact Xz38
        · have hne:(bits .and .u32 (E / 4) 1 == 0)=true:=by
            rw[show bits .and .u32 (E / 4) 1=(E / 4) / 1 % 2*1 from AT (by omega) (by omega) 0 (by decide),Int.ediv_one,show (E / 4) % 2=0 by omega];rfl
          go_wp2_with fail
          go_roundw
          case rel=>exact⟨2+1,by decide,by go_num,by omega,L⟩
          case measure=>simp [intOf]
      · by_cases hq:(E / 8) % 2=1
        · have hne:(bits .and .u32 (E / 8) 1 == 0)=false:=by
            rw[show bits .and .u32 (E / 8) 1=(E / 8) / 1 % 2*1 from AT (by omega) (by omega) 0 (by decide),Int.ediv_one,hq];rfl
          have e3:EV E=3:=(if_neg (by omega)).trans ((if_neg (by omega)).trans ((if_neg (by omega)).trans (if_pos (by omega))))
          have hT:∀ w,Calls Tryz.prog 189 #[.agg (Ab M.c).toArray,.int .i64 19,.int .u32 0] w (Ret w (.agg (Ab X).toArray)):=fun w=>by have:=HTR.out 3 (by decide) w;rw[←HX.out,e3];exact this
          exact Xz38
        · have hne:(bits .and .u32 (E / 8) 1 == 0)=true:=by
            rw[show bits .and .u32 (E / 8) 1=(E / 8) / 1 % 2*1 from AT (by omega) (by omega) 0 (by decide),Int.ediv_one,show (E / 8) % 2=0 by omega];rfl
          go_wp2_with fail
          go_roundw
          case rel=>exact⟨3+1,by decide,by go_num,by omega,L⟩
          case measure=>simp [intOf]
      · have hq:E / 16 % 2=1:=by omega
        have hne:(bits .and .u32 (E / 16) 1 == 0)=false:=by
         rw[show bits .and .u32 (E / 16) 1=(E / 16) / 1 % 2*1 from AT (by omega) (by omega) 0 (by decide),Int.ediv_one,hq];rfl
        have e3:EV E=4:=(if_neg (by omega)).trans ((if_neg (by omega)).trans ((if_neg (by omega)).trans (if_neg (by omega))))
        have hT:∀ w,Calls Tryz.prog 189 #[.agg (Ab M.c).toArray,.int .i64 20,.int .u32 0] w (Ret w (.agg (Ab X).toArray)):=fun w=>by have:=HTR.out 4 (by decide) w;rw[←HX.out,e3];exact this
        exact Xz38
 · have e2':(bits .and .u32 (rg M.c 17) 2 == 0)=true:=by
     have:rg M.c 17 / 2 % 2=0:=by omega
     rw[e2,this];rfl
   rw[if_neg (fun h=>hi h.1)]
   obtain⟨E,hEE⟩:∃ E,enI M=E:=⟨_,rfl⟩
   rw[hEE] at HE
   clear hi e2 hM hE hEE
   exact Xz92
end
def evVal (e:Ev):Bool :=
 if e.k=1∨e.k=6 then e.d.size == 0
 else if e.k=2 then e.n == 0 && e.d.size == 0
 else if e.k=3 then decide (e.n≤255) && e.d.size == 0
 else if e.k=4 then (e.n == 1 && (e.d.size == 0 || e.d.size == 128)) || (e.n == 0 && e.d.size == 0)
 else if e.k=5 then e.n == 0 && (decide (1≤e.d.size) && decide (e.d.size≤128))
 else false
theorem appM_n (M:Mc) (e:Ev):(EG M e).1.n=M.n:=by
 unfold EG
 repeat' split
 all_goals rfl
theorem dkComp_no {d:Dk} {xs:List Int} {e:Ev} (h:(AS d xs e).2.2=false):(AS d xs e).1=d∧(AS d xs e).2.1=xs:=by
 unfold AS at h ⊢
 generalize A0 xs d.of e.d=ys at h ⊢
 by_cases h1:d.s≠1∨e.k≠4∨1<e.n
 · rw[if_pos h1];exact⟨rfl,rfl⟩
 rw[if_neg h1] at h ⊢
 by_cases h2:e.n=1∧d.cmd=1
 · rw[if_pos h2] at h ⊢
   by_cases h3:e.d.size=128∧isPage xs d.of=true
   · rw[if_pos h3] at h;cases h
   · rw[if_neg h3];exact⟨rfl,rfl⟩
 · rw[if_neg h2] at h ⊢
   by_cases h3:e.d.size=0
   · rw[if_pos h3] at h;cases h
   · rw[if_neg h3];exact⟨rfl,rfl⟩
theorem ncRecv_no {c:Nc} {xs:List Int} {s:ByteArray} (h:(AR c xs s).2.2=false):(AR c xs s).1=c∧(AR c xs s).2.1=xs:=by
 unfold AR at h ⊢
 generalize A0 xs c.b (s++(Bh xs c.b).extract s.size 128)=ys at h ⊢
 by_cases h1:c.p=true∧1≤s.size∧s.size≤128∧isPage xs c.b=true
 · rw[if_pos h1] at h;cases h
 · rw[if_neg h1];exact⟨rfl,rfl⟩
theorem appM_no {M:Mc} {e:Ev} (h:(EG M e).2=false):(EG M e).1=M:=by
 unfold EG at h ⊢
 by_cases h1:M.h=true
 · rw[if_pos h1]
 rw[if_neg h1] at h ⊢
 by_cases h2:e.k=2
 · rw[if_pos h2] at h ⊢
   split at h
   · cases h
   · rename_i hh;rw[if_neg hh]
 rw[if_neg h2] at h ⊢
 by_cases h3:e.k=3
 · rw[if_pos h3] at h ⊢
   split at h
   · cases h
   · rename_i hh;rw[if_neg hh]
 rw[if_neg h3] at h ⊢
 by_cases h4:e.k=4
 · rw[if_pos h4] at h ⊢
   have:=dkComp_no h
   dsimp only
   rw[this.1,this.2]
 rw[if_neg h4] at h ⊢
 by_cases h5:e.k=5
 · rw[if_pos h5] at h ⊢
   split at h
   · rename_i hh
     rw[if_pos hh]
     have:=ncRecv_no h
     dsimp only
     rw[this.1,this.2]
   · rename_i hh;rw[if_neg hh]
 rw[if_neg h5] at h ⊢
 by_cases h6:e.k=6
 · rw[if_pos h6] at h ⊢
   split at h
   · cases h
   · rename_i hh;rw[if_neg hh]
 rw[if_neg h6]
def evN (e:Ev):Ev:=⟨e.k,e.n % 4294967296,e.d⟩
theorem evN_eq {e:Ev} (h0:0≤e.n) (h1:e.n<4294967296):evN e=e:=by
 unfold evN
 rw[show e.n % 4294967296=e.n by omega]
def sysM:Sys Mc Ou where
 cnt:=fun m=>m.n
 stuck:=Ba
 rd:=rdB
 step:=fun m c=>AZ m (c % 4294967296)
 app:=fun m e=>EG m (evN e)
 ok:=Mc.Ok
 val:=evVal
 okStep:=fun _ _ h _=>Et h ⟨by omega,by omega⟩
 cntStep:=fun _ _ _ hs=>GO _ hs
 okApp:=fun _ e h=>appM_ok h (by unfold evN;dsimp only;omega) (by unfold evN;dsimp only;omega)
 cntApp:=fun _ _=>appM_n _ _
 noApp:=fun _ _ h=>appM_no h
 clk:=fun _ _ _ _ hr=>stepM_clk _ _ hr
end Go.Proofs.YtnmpfmapncicmaaGreat
namespace Go.Proofs.YtnmpfmapncicmaaGreat
set_option linter.all false
set_option maxRecDepth 100000
set_option maxHeartbeats 40000000
namespace Sys
set_option linter.all false
set_option maxRecDepth 100000
set_option maxHeartbeats 40000000
variable {M O:Type} (S:Sys M O)
end Sys
end Go.Proofs.YtnmpfmapncicmaaGreat
namespace Go.Proofs.YtnmpfmapncicmaaGreat
set_option linter.all false
set_option maxRecDepth 100000
set_option maxHeartbeats 40000000
open Go.RowKit
section
variable {M:Mc} {v:Value} {w:World}
theorem MemRow.cell1 {w:World} {v:Value} {xs:List Int} (h:MemRow w v xs):v.oneCell'=true:=by
 obtain⟨b,off,cap,rfl,_⟩:=h;rfl
theorem reads_any (hM:M.Ok) (ha:MemRow w v M.m):Calls Tryz.prog 83 #[.agg (mcL M v).toArray] w (Ret w (.bool (rdB M))):=by
 have HA:=lh ha
 have hv:=ha.cell1
 have HR:=lh (fun w h=>Ew (v:=v) (w:=w) hM h)
 unfold rdB
 cases hs:Ba M with
 | true =>
   rw[hs] at HR
   clear hM ha hs
   have L:=Lay.start w
   go_in
   go_wp2_with (first|(refine zbx (ty:=43) L (mcL M v) ?_;clear L;intro wz L)|(refine zlp τ43 Aw L 0 (mcL M v) ?_)|(go_at_call 46;(with_reducible refine zcl L (HR.out _ (HA.out.below L.bel)) ?_);clear L;intro wz L))
   go_ret
   exact Ret.mk' rfl L.bel
 | false =>
   rw[hs] at HR
   have HB:=lh (fun w=>Eh (M:=M) (v:=v) (w:=w) hM hv)
   have X:=fun w h=>Fi (c:=Bb M) (xs:=M.m) (va:=v) (w:=w) (Ch hM) h hM.m
   have e:(CG M).2=(Bn (Bb M) M.m).2.2:=rfl
   rw[e]
   generalize Bn (Bb M) M.m=r at X ⊢
   obtain⟨c2,m2,ef⟩:=r
   dsimp only at X ⊢
   have HX:=lh X
   have fin:∀ b:Bool,(ef.k == 1)=b→∀ b2:Bool,(ef.p == 2)=b2→Calls Tryz.prog 83 #[.agg (mcL M v).toArray] w (Ret w (.bool (b && b2))):=by
    intro b hb b2 hb2
    clear hM ha hs e X
    cases b
    all_goals
     have L:=Lay.start w
     go_in
     go_wp2_with (first|(refine zbx (ty:=43) L (mcL M v) ?_;clear L;intro wz L)|(refine zlp τ43 Aw L 0 (mcL M v) ?_)|(go_at_call 46;(with_reducible refine zcl L (HR.out _ (HA.out.below L.bel)) ?_);clear L;intro wz L)|(go_at_call 47;(with_reducible refine zcl L (HB.out _) ?_);clear L;intro wz L)|(refine zsp (ty:=43) Aw L 0 (mcL { M with c:=Bb M,w:=false } v) (mcL { M with c:=Bb M,w:=false } v) (Bp _ hv) ?_;clear L;intro wz L)|(refine zlp τ29 Av L 0 (Ab (Bb M)) ?_)|(refine zld τ30 L 0 ?_)|(go_at_call 48;(with_reducible refine (HX.out _ (HA.out.below L.bel)).mono ?_);rintro ee wz ⟨v1,rfl,ho1,hbz⟩;replace L:=L.below hbz;clear hbz ho1)|(refine zal (ty:=29) L (List.replicate 25 (.int .u32 0)) ?_;clear L;intro wz L)|(refine zal (ty:=129) L (efL ef0) ?_;clear L;intro wz L)|(refine zsp (ty:=29) Av L 1 (Ab c2) (Ab c2) (BG _) ?_;clear L;intro wz L)|(refine zsp (ty:=129) Cz L 0 (efL ef) (efL ef) (Gt ef) ?_;clear L;intro wz L)|(refine zld τ3 L 0 ?_)|(refine zlg τ3 L 0 ?_))
     go_ret
     exact Ret.mk' (by simp) L.bel
   exact fin _ rfl _ rfl
end
end Go.Proofs.YtnmpfmapncicmaaGreat
namespace Go.Proofs.YtnmpfmapncicmaaGreat
set_option linter.all false
set_option maxRecDepth 100000
set_option maxHeartbeats 40000000
open Go.ChangeShapes Go.WideShapes Go.ChangeAt Go.RowKit
theorem Jk {H:Type} {enc:TypeId×Value→H} {P:Program} {W:World} {r:Reach} {b0:Nat} {base:Nat} {held:Bool} {t e:TypeId} {v:Value} {d:DataW H} {p:List MemPlace} (ht:P.underlying t=some (.slice e)) (he:P.underlying e=some (.int .i64)) (hc:P.cellsOf e=1)
    (hv:Value.okWide P W r b0 t v) (h:DataW.Trod enc P W base (fun _=>true) held t v d p) :
    ∃ (ao:Option Addr) (xs:List Int) (cap:Nat),v=.slice ao xs.length cap∧IntRow W v xs∧xs.length≤9223372036854775807∧(∀ x∈xs,(Lit.int .i64 x).wf=true):=by
 obtain⟨a0,len,cap,rfl⟩:=okWide_slice ht hv
 obtain⟨fuel,hf⟩:=h
 rcases open_ints ht he hc hf with ⟨hcs,hx⟩|⟨a,len',cap',zs,hcs,_,hl,hm,hz,hx,hcell,hwz⟩
 · simp [Value.cells] at hcs
   obtain⟨rfl,rfl,rfl⟩:=hcs
   exact⟨none,[],0,rfl,IntRow.nil W,by simp,by simp⟩
 · simp [Value.cells] at hcs
   obtain⟨rfl,rfl,rfl⟩:=hcs
   simp only[if_true] at hz
   have hlen:(zs.take len).length=len:=by rw[List.length_take,hz];omega
   refine ⟨some a,zs.take len,cap,by rw[hlen],?_,by rw[hlen];unfold maxLen at hm;omega,fun x hx=>hwz x (List.mem_of_mem_take hx)⟩
   unfold IntRow
   rw[hlen]
   refine ⟨some a,cap,rfl,hl,hm,?_⟩
   by_cases h0:len=0
   · left;subst h0;simp
   · right
     obtain⟨b,off,rfl,hcc⟩:=ints_at hcell (by omega)
     refine ⟨b,off,rfl,World.block_lt_of_cell? W _ (hcc 0 (by omega)),fun i u hu=>?_⟩
     rw[List.getElem?_map] at hu
     cases hi:(zs.take len)[i]? with
     | none=>rw[hi] at hu;simp at hu
     | some x =>
       rw[hi] at hu
       simp at hu
       subst hu
       rw[List.getElem?_take] at hi
       split at hi
       · have:=hcc i (by omega)
         rw[this,List.getD_eq_getElem?_getD,hi];rfl
       · simp at hi
end Go.Proofs.YtnmpfmapncicmaaGreat
