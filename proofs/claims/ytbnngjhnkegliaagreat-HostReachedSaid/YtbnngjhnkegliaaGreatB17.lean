/-
  Texts joined: HrMine HrVic TaxRows. No law is proved here.
-/
import Derived.Test.YtbnngjhnkegliaaGreatB16
namespace Go.Proofs.YtbnngjhnkegliaaGreat
open Go.RowKit
theorem wp_append_nil {P:Program} {w:World} {ops:Array Oper} {rest:List Oper} {o:Oper} {a:Act} {Q:Exit→Act→World→Prop} (hgd:o.guard=none) (s x:Operand) (t:TypeId)
    (ho:o.op=.call { callee:=.builtin .append,args:=#[s,x],argTypes:=#[t,t] })
    (base:Nat) (e:TypeId) (i:TypeInfo) (size:Nat) (ht:P.underlying t=some (.slice e)) (hi:P.info? e=some i)
    (v:Value) (n c:Nat) (xs:List Value) (hs:a.eval s=v) (hown:w.ownsRow base e size v n xs) (hx:a.eval x=.slice none 0 c)
    (h:wpList P ops Q rest (a.put o.dst v) w):wpList P ops Q (o :: rest) a w:=by
 refine wpList_plain hgd fun K hK=>?_
 have hrun:=append_none (P:=P) (w:=w) base t o.type e i size ht hi v n c xs hown
 unfold Oper.wp
 simp [execOp,ho,resolve,invoke,builtin,hs,hx,hrun,Result.andThen]
 exact hK _ _ h
theorem fresh_grown {w w':World} {e:TypeId} (hg:(w.alloc (.cells #[] e)).grownBy w' (Value.slice (some ⟨w.heap.size,0,none⟩) 0 0).ownBlock):Below w.heap.size w w':=((Below.refl _ w).alloc (nlr _) _).grown hg (by simp) (by intro k hk;simp [Value.ownBlock] at hk;omega)
theorem gm_one (g:Gm) (x:Gv) (h:(∃ o n c,x.s=.slice o n c)∧(∃ o n c,x.u=.slice o n c)∧∃ o n c,x.e=.slice o n c):∀ u∈gmCells g x,u.oneCell'=true:=by
 obtain⟨⟨_,_,_,h1⟩,⟨_,_,_,h2⟩,⟨_,_,_,h3⟩⟩:=h
 intro u hu
 unfold gmCells at hu
 simp at hu
 rcases hu with rfl|rfl|rfl|rfl|rfl|rfl|rfl|rfl|rfl
 all_goals first|rfl|(rw[h1];rfl)|(rw[h2];rfl)|(rw[h3];rfl)
theorem gmFlat_one {G:List Gm} {gs:List Gv} (h:∀ (i:Nat) (x:Gv),gs[i]?=some x→(∃ o n c,x.s=.slice o n c)∧(∃ o n c,x.u=.slice o n c)∧∃ o n c,x.e=.slice o n c):∀ u∈gmFlat G gs,u.oneCell'=true:=by
 intro u hu
 unfold gmFlat at hu
 rw[List.mem_flatten] at hu
 obtain⟨L,hL,hu⟩:=hu
 obtain⟨i,hi⟩:=List.getElem?_of_mem hL
 rw[List.getElem?_zipWith] at hi
 cases hg:G[i]? with
 | none=>rw[hg] at hi;simp at hi
 | some g =>
   cases hx:gs[i]? with
   | none=>rw[hg,hx] at hi;simp at hi
   | some x =>
     rw[hg,hx] at hi
     injection hi with hi
     subst hi
     exact gm_one g x (h i x hx) u hu
set_option maxRecDepth 100000 in
set_option maxHeartbeats 8000000 in
theorem rmine_ok (v:Value) (H:Ho) (w:World) (ha:HoAt w v H) (hok:H.Ok):Calls Tryz.prog 55 #[v] w (RetHoR (fun v=>v) H w):=by
 have PO:=fun v w h=>rown_any v H.P w h hok.p
 have HPO:=lh PO;clear PO
 have hbd:=hok.bounds
 have HOK:=lh hok;clear hok
 obtain⟨of,or',om,og,kf,kr,km,kg,n,r,m,q,tx,dx,sx,HN,HR,HM,HQ,HT,HD,HS,rfl,kf1,kf2,kr1,kr2,km1,km2,kg1,kg2,h⟩:=HoAt.opened ha
 rw[HN.out,HR.out,HM.out,HQ.out] at hbd
 obtain⟨gs0,hl0,hR0,hr0⟩:=h.g
 have HR0:=lh hr0
 have hp0:=h.p
 have HPR:=lh hp0
 rw[HQ.out] at hl0 hR0
 have HL0:=lh hl0
 have HRW:=lh hR0
 clear hr0 hp0 hl0 h hR0
 have D1:=(HasBlock.made w #[.slice of n kf,.slice or' r kr,.slice om m km,.slice og q kg,.int .i64 tx,.int .u64 dx,.int .i64 sx] 30).alloc (.cells #[.slice none 0 0,.slice none 0 0,.slice none 0 0,.slice none 0 0,.int .i64 0,.int .u64 0,.int .i64 0] 30)
 have D2:=HasBlock.made (w.alloc (.cells #[.slice of n kf,.slice or' r kr,.slice om m km,.slice og q kg,.int .i64 tx,.int .u64 dx,.int .i64 sx] 30)) #[.slice none 0 0,.slice none 0 0,.slice none 0 0,.slice none 0 0,.int .i64 0,.int .u64 0,.int .i64 0] 30
 rw[World.size_alloc] at D2
 have hbw:Below w.heap.size w ((w.alloc (.cells #[.slice of n kf,.slice or' r kr,.slice om m km,.slice og q kg,.int .i64 tx,.int .u64 dx,.int .i64 sx] 30)).alloc (.cells #[.slice none 0 0,.slice none 0 0,.slice none 0 0,.slice none 0 0,.int .i64 0,.int .u64 0,.int .i64 0] 30)):=bel
 have hz0:w.heap.size+1+1≤((w.alloc (.cells #[.slice of n kf,.slice or' r kr,.slice om m km,.slice og q kg,.int .i64 tx,.int .u64 dx,.int .i64 sx] 30)).alloc (.cells #[.slice none 0 0,.slice none 0 0,.slice none 0 0,.slice none 0 0,.int .i64 0,.int .u64 0,.int .i64 0] 30)).heap.size:=by simp only[sizes];omega
 go_enter Tryz.func55,Tryz.ntmps55
 obtain⟨D1_c,D1_f,D1_z⟩:=D1.all
 obtain⟨D2_c,D2_f,D2_z⟩:=D2.all
 go_wp2_with fail
 clear D1_c D1_f D1_z
 clear D2_c D2_f D2_z
 with_reducible refine (HPO.out _ _ (HPR.out.below hbw)).mono ?_
 rintro e w1 ⟨of1,or1,om1,kf1',kr1',km1',us1,rfl,O1,hb1⟩
 rw[HN.out,HR.out,HM.out] at O1 ⊢
 have hz1:w.heap.size+1+1≤w1.heap.size:=Nat.le_trans hz0 hb1.size
 replace D1:=D1.below hb1
 replace D2:=D2.below hb1
 replace hbw:=hbw.trans (hb1.mono hbw.size)
 clear hb1
 replace O1:=O1.lower (base':=w.heap.size+1+1) hz0
 clear hz0
 obtain⟨i0,hi,iz0,iz1,iz2⟩:=info_parts info_gm
 obtain⟨D1_c,D1_f,D1_z⟩:=D1.all
 obtain⟨D2_c,D2_f,D2_z⟩:=D2.all
 go_upto_region 2 with (fail)
 clear D1_c D1_f D1_z
 clear D2_c D2_f D2_z
 replace D1:=D1.poolIn (.slice of1 n kf1') (.slice or1 r kr1') (.slice om1 m km1')
 replace D2:=((D2.set_ne (b':=w.heap.size) (j:=0) (by omega) (.slice of1 n kf1')).set_ne (b':=w.heap.size) (j:=1) (by omega) (.slice or1 r kr1')).set_ne (b':=w.heap.size) (j:=2) (by omega) (.slice om1 m km1')
 replace O1:=((O1.setlow (b:=w.heap.size) (j:=0) (by omega) (.slice of1 n kf1')).setlow (b:=w.heap.size) (j:=1) (by omega) (.slice or1 r kr1')).setlow (b:=w.heap.size) (j:=2) (by omega) (.slice om1 m km1')
 replace hbw:=((hbw.setCell (p:=⟨w.heap.size,0,none⟩) (nlr _) (.slice of1 n kf1')).setCell (p:=⟨w.heap.size,1,none⟩) (nlr _) (.slice or1 r kr1')).setCell (p:=⟨w.heap.size,2,none⟩) (nlr _) (.slice om1 m km1')
 have hz2:w.heap.size+1+1≤(((World.setCell w1 ⟨w.heap.size,0,none⟩ (.slice of1 n kf1')).setCell ⟨w.heap.size,1,none⟩ (.slice or1 r kr1')).setCell ⟨w.heap.size,2,none⟩ (.slice om1 m km1')).heap.size:=by simp only[sizes];exact hz1
 generalize hW:(((World.setCell w1 ⟨w.heap.size,0,none⟩ (.slice of1 n kf1')).setCell ⟨w.heap.size,1,none⟩ (.slice or1 r kr1')).setCell ⟨w.heap.size,2,none⟩ (.slice om1 m km1'))=w2 at D1 D2 O1 hbw hz2 ⊢
 clear hW hz1
 have hlt:=O1.lt
 have HLT:=lh hlt
 clear hlt
 have hgl:(gmFlat H.G gs0).length=q*9:=by rw[gmFlat_len (by rw[HL0.out,HQ.out]),HQ.out]
 cases og with
 | none =>
   have hgn:gmFlat H.G gs0=[]:=by
    obtain⟨ao,cap,e0,_,_,h4⟩:=HRW.out
    injection e0 with e0
    subst e0
    rcases h4 with h4|⟨b,off,e5,_⟩
    · exact h4
    · cases e5
   have hq0:q=0:=by
    rw[hgn] at hgl
    simp at hgl
    omega
   clear hgl
   have hown3:(w2.alloc (.cells #[] 49)).ownsRow w2.heap.size 49 9 (.slice (some ⟨w2.heap.size,0,none⟩) 0 0) q (gmFlat H.G gs0):=by
    rw[hgn,hq0]
    exact World.ownsRow_made _ #[] 0 (nlr _) (Nat.zero_le _) (by simp)
   have HQ0:=lh hq0
   clear hgn hq0
   have hb3:Below w2.heap.size w2 (w2.alloc (.cells #[] 49)):=(Below.refl _ w2).alloc (nlr _) _
   obtain⟨D1_c,D1_f,D1_z⟩:=D1.all
   obtain⟨D2_c,D2_f,D2_z⟩:=D2.all
   go_upto_region 3 with (at_builtin;go_must (refine wp_append_nil rfl (.tmp 9) (.tmp 11) 27 rfl w2.heap.size 49 i0 9 Tryz.underlying27 hi _ 0 kg [] rfl (World.ownsRow_made _ #[] 0 (nlr _) (Nat.zero_le _) (by simp)) (by rw[show Value.slice none 0 kg=Value.slice none q kg from by rw[HQ0.out]];rfl) ?_))
   clear D1_c D1_f D1_z
   clear D2_c D2_f D2_z
   generalize hW:w2.alloc (.cells #[] 49)=w3 at hown3 hb3 ⊢
   obtain⟨v3,hv3⟩:∃ v,Value.slice (some ⟨w2.heap.size,0,none⟩) 0 0=v:=⟨_,rfl⟩
   rw[hv3] at hown3 ⊢
   clear hW hv3
   obtain⟨o3,c3,rfl,hc31,hc32⟩:=own_form' hown3
   replace D1:=D1.below hb3
   replace D2:=D2.below hb3
   replace O1:=O1.below hb3
   replace hbw:=hbw.trans (hb3.mono hbw.size)
   have hz3:=hb3.size
   obtain⟨T,hT⟩:∃ T,w2.heap.size=T:=⟨_,rfl⟩
   rw[hT] at hown3 HLT hz2 hz3
   clear hb3 hT
   have HMT:MineTo T w3 (.slice o3 q c3) gs0 H.G 0:=⟨by rw[HQ.out];exact hown3,by rw[HL0.out,HQ.out],fun j x g hj=>absurd hj (Nat.not_lt_zero _),fun _=>0,fun j x hj=>absurd hj (Nat.not_lt_zero _)⟩
   clear hown3
   obtain⟨D1_c,D1_f,D1_z⟩:=D1.all
   obtain⟨D2_c,D2_f,D2_z⟩:=D2.all
   go_wp2_with fail
   clear D1_c D1_f D1_z
   clear D2_c D2_f D2_z
   go_loopw [4] (fun iv wr=>∃ (i:Nat) (gs:List Gv),i≤q∧iv=.int .i64 i∧Hid (∀ j,i≤j→gs[j]?=gs0[j]?)∧HasBlock wr w.heap.size #[.slice of1 n kf1',.slice or1 r kr1',.slice om1 m km1',.slice none q kg,.int .i64 tx,.int .u64 dx,.int .i64 sx] 30∧HasBlock wr (w.heap.size+1) #[.slice none 0 0,.slice none 0 0,.slice none 0 0,.slice none 0 0,.int .i64 0,.int .u64 0,.int .i64 0] 30∧OwnP (w.heap.size+1+1) wr (.slice of1 n kf1') (.slice or1 r kr1') (.slice om1 m km1') us1 H.P∧MineTo T wr (.slice o3 q c3) gs H.G i∧T≤wr.heap.size∧Below w.heap.size w wr) (fun iv _=>q - (intOf iv).toNat)
   case atStart=>exact⟨0,gs0,by omega,rfl,fun j _=>rfl,D1,D2,O1,HMT,hz3,hbw⟩
   case round =>
    clear D1 D2 O1 HMT hbw hz3
    obtain⟨i,gs,hi',rfl,HGS,D1,D2,O1,HMT,hzr,hbw⟩:=hrel
    by_cases hlt:i<q
    · obtain⟨g,hg⟩:=get_lt (xs:=H.G) (k:=i) (by rw[HQ.out];exact hlt)
      obtain⟨x,hx0⟩:=get_lt (xs:=gs0) (k:=i) (by rw[HL0.out];exact hlt)
      have hx:gs[i]?=some x:=by rw[HGS.out i (nlr _)];exact hx0
      have hlt0:=HMT.lt
      have HLT0:=lh hlt0
      obtain⟨l,hl,hgo⟩:=HOK.out.page hg
      have hll:=HOK.out.p.l l (mem_at hl)
      obtain⟨r1,r2,r3⟩:=HR0.out i x g hx0 hg
      have e1:=hgo.ls
      have e2:=hgo.lu
      have e3:=hgo.le
      obtain⟨GB,rfl,hGB,hGBz⟩:=HMT.addr (by omega)
      have HG:=lh hg
      have HX:=lh hx
      clear hg hx hx0 hgo hl hlt0
      obtain⟨xs,xu,xe⟩:=x
      obtain⟨cc,S,U,hd,E⟩:=g
      dsimp only at e1 e2 e3 r1 r2 r3
      obtain⟨so,sc,rfl,s1,s2,-⟩:=r1.out
      obtain⟨uo,uc,rfl,u1,u2,-⟩:=r2.out
      obtain⟨eo,ec,rfl,x1,x2,-⟩:=r3.out
      unfold maxLen at s2 u2 x2
      obtain⟨t0,ht0⟩:=get_lt (xs:=S) (k:=0) (by omega)
      obtain⟨b0,hb0⟩:=get_lt (xs:=U) (k:=0) (by omega)
      obtain⟨f0,hf0⟩:=get_lt (xs:=E) (k:=0) (by omega)
      obtain⟨sb,soff,rfl,hsb,-⟩:=r1.elem ht0
      obtain⟨ub,uoff,rfl,hub,-⟩:=r2.elem hb0
      obtain⟨eb,eoff,rfl,heb,-⟩:=r3.elem hf0
      obtain⟨sl,hsl⟩:∃ x,S.length=x:=⟨_,rfl⟩
      obtain⟨ul,hul⟩:∃ x,U.length=x:=⟨_,rfl⟩
      obtain⟨el,hel⟩:∃ x,E.length=x:=⟨_,rfl⟩
      rw[hsl] at s1 e1 r1 HX
      rw[hul] at u1 e2 r2 HX
      rw[hel] at x1 e3 r3 HX
      have n1:1≤sl∧sl≤32:=by omega
      have n2:1≤ul∧ul≤32:=by omega
      have n3:1≤el∧el≤32:=by omega
      clear e1 e2 e3 hll
      have HSL:=lh hsl
      have HUL:=lh hul
      have HEL:=lh hel
      have HRS:=lh r1
      have HRU:=lh r2
      have HRE:=lh r3
      clear ht0 hb0 hf0 hsl hul hel r1 r2 r3 t0 b0 f0
      obtain⟨j0,hj0,jz0,jz1,jz2⟩:=info_parts info_str
      obtain⟨k0,hk0,kz0,kz1,kz2⟩:=info_parts info_bool
      have i0':(0:Int)≤(i:Int):=by omega
      have iq:(i:Int)<(q:Int):=by omega
      have hT0:=hzr
      obtain⟨D1_c,D1_f,D1_z⟩:=D1.all
      obtain⟨D2_c,D2_f,D2_z⟩:=D2.all
      have fz0:∀ j,wr.frozen? ⟨GB,j,none⟩=false:=fun j=>HMT.frz
      have cz0:=HMT.at_ HG.out HX.out (j:=5) (u:=_) rfl
      go_upto_region 7 with (at_builtin;go_must (refine wpList_append_own _ rfl (.tmp 21) (.tmp 26) 22 rfl wr.heap.size 9 j0 (.string ⟨#[]⟩) 1 16 Tryz.underlying22 hj0 jz0 jz1 jz2 rfl (by decide) _ _ _ rfl (World.ownsRow_made _ #[] 0 (nlr _) (Nat.zero_le _) (by simp)) ⟨sb,soff,none⟩ sl sc (S.map Value.string) rfl (by rw[List.length_map,HSL.out,Nat.mul_one]) (fun j u hj=>Lib.cell?_alloc_some _ ((EncRow.cells' (HRS.out.below hbw)) j u hj)) (map_one (fun _=>rfl) _) (by unfold maxLen;omega) (by omega) (by simp) ?_;intro v5 w5 hown5 hgrow5 _;have hb5:Below wr.heap.size wr w5:=fresh_grown hgrow5;have o5:OwnStr wr.heap.size w5 v5 S:=(show World.ownsRow _ _ _ _ _ _ _ from (by rw[HSL.out];simpa using hown5));obtain⟨ob5,oc5,rfl,_,_⟩:=o5.formN HSL.out;have fz0:∀ j,w5.frozen? ⟨GB,j,none⟩=false:=fun j=>(HMT.below hb5).frz;have cz0:=(HMT.below hb5).at_ HG.out HX.out (j:=5) (u:=_) rfl))
      clear hown5 hgrow5 cz0 fz0
      clear D1_c D1_f D1_z
      clear D2_c D2_f D2_z
      replace D1:=D1.below hb5
      replace D2:=D2.below hb5
      replace O1:=O1.below hb5
      replace HMT:=HMT.below hb5
      replace hbw:=hbw.trans (hb5.mono hbw.size)
      replace hzr:=Nat.le_trans hzr hb5.size
      replace hGBz:=Nat.lt_of_lt_of_le hGBz hb5.size
      replace o5:=o5.setoff (own_ne_type HMT.g o5 (by decide) rfl) (b:=GB) (j:=i*9+5) (.slice ob5 sl oc5)
      replace O1:=O1.guestoff HMT.g (j:=i*9+5) (.slice ob5 sl oc5)
      replace HMT:=HMT.put (j:=5) (v:=.slice ob5 sl oc5) (x':=⟨.slice ob5 sl oc5,.slice (some ⟨ub,uoff,none⟩) ul uc,.slice (some ⟨eb,eoff,none⟩) el ec⟩) HG.out HX.out (by omega) rfl
      replace HX:=lh (set_get ⟨.slice ob5 sl oc5,.slice (some ⟨ub,uoff,none⟩) ul uc,.slice (some ⟨eb,eoff,none⟩) el ec⟩ HX.out)
      replace D1:=D1.set_ne (b':=GB) (j:=i*9+5) (by omega) (.slice ob5 sl oc5)
      replace D2:=D2.set_ne (b':=GB) (j:=i*9+5) (by omega) (.slice ob5 sl oc5)
      replace hbw:=hbw.setCell (p:=⟨GB,i*9+5,none⟩) (by dsimp only;omega) (.slice ob5 sl oc5)
      generalize hW:World.setCell w5 ⟨GB,i*9+5,none⟩ (.slice ob5 sl oc5)=wa at o5 O1 HMT D1 D2 hbw ⊢
      have hszz:=(World.size_setCell w5 ⟨GB,i*9+5,none⟩ (.slice ob5 sl oc5)).symm.trans (congrArg (fun x:World=>x.heap.size) hW)
      replace hzr:=Nat.le_trans hzr (Nat.le_of_eq hszz)
      replace hGBz:=Nat.lt_of_lt_of_le hGBz (Nat.le_of_eq hszz)
      have hs5:wr.heap.size≤wa.heap.size:=Nat.le_trans hb5.size (Nat.le_of_eq hszz)
      clear hW hszz hb5
      obtain⟨D1_c,D1_f,D1_z⟩:=D1.all
      obtain⟨D2_c,D2_f,D2_z⟩:=D2.all
      have fz0:∀ j,wa.frozen? ⟨GB,j,none⟩=false:=fun j=>HMT.frz
      have cz0:=HMT.at_ HG.out HX.out (j:=6) (u:=_) rfl
      go_upto_region 8 with (at_builtin;go_must (refine wpList_append_own _ rfl (.tmp 32) (.tmp 37) 47 rfl wa.heap.size 4 k0 (.bool false) 1 1 Tryz.underlying47 hk0 kz0 kz1 kz2 rfl (by decide) _ _ _ rfl (World.ownsRow_made _ #[] 0 (nlr _) (Nat.zero_le _) (by simp)) ⟨ub,uoff,none⟩ ul uc (U.map Value.bool) rfl (by rw[List.length_map,HUL.out,Nat.mul_one]) (fun j u hj=>Lib.cell?_alloc_some _ ((EncRow.cells' (HRU.out.below hbw)) j u hj)) (map_one (fun _=>rfl) _) (by unfold maxLen;omega) (by omega) (by simp) ?_;intro v6 w6 hown6 hgrow6 _;have hb6:Below wa.heap.size wa w6:=fresh_grown hgrow6;have o6:OwnBool wa.heap.size w6 v6 U:=(show World.ownsRow _ _ _ _ _ _ _ from (by rw[HUL.out];simpa using hown6));obtain⟨ob6,oc6,rfl,_,_⟩:=o6.formN HUL.out;have fz0:∀ j,w6.frozen? ⟨GB,j,none⟩=false:=fun j=>(HMT.below hb6).frz;have cz0:=(HMT.below hb6).at_ HG.out HX.out (j:=6) (u:=_) rfl))
      clear hown6 hgrow6 cz0 fz0
      clear D1_c D1_f D1_z
      clear D2_c D2_f D2_z
      replace D1:=D1.below hb6
      replace D2:=D2.below hb6
      replace O1:=O1.below hb6
      replace HMT:=HMT.below hb6
      replace hbw:=hbw.trans (hb6.mono hbw.size)
      replace hzr:=Nat.le_trans hzr hb6.size
      replace hGBz:=Nat.lt_of_lt_of_le hGBz hb6.size
      replace o5:=o5.below hb6
      replace o5:=o5.setoff (own_ne_type HMT.g o5 (by decide) rfl) (b:=GB) (j:=i*9+6) (.slice ob6 ul oc6)
      replace o6:=o6.setoff (own_ne_type HMT.g o6 (by decide) rfl) (b:=GB) (j:=i*9+6) (.slice ob6 ul oc6)
      replace O1:=O1.guestoff HMT.g (j:=i*9+6) (.slice ob6 ul oc6)
      replace HMT:=HMT.put (j:=6) (v:=.slice ob6 ul oc6) (x':=⟨.slice ob5 sl oc5,.slice ob6 ul oc6,.slice (some ⟨eb,eoff,none⟩) el ec⟩) HG.out HX.out (by omega) rfl
      replace HX:=lh (set_get ⟨.slice ob5 sl oc5,.slice ob6 ul oc6,.slice (some ⟨eb,eoff,none⟩) el ec⟩ HX.out)
      replace D1:=D1.set_ne (b':=GB) (j:=i*9+6) (by omega) (.slice ob6 ul oc6)
      replace D2:=D2.set_ne (b':=GB) (j:=i*9+6) (by omega) (.slice ob6 ul oc6)
      replace hbw:=hbw.setCell (p:=⟨GB,i*9+6,none⟩) (by dsimp only;omega) (.slice ob6 ul oc6)
      generalize hW:World.setCell w6 ⟨GB,i*9+6,none⟩ (.slice ob6 ul oc6)=wb at o5 o6 O1 HMT D1 D2 hbw ⊢
      have hszz:=(World.size_setCell w6 ⟨GB,i*9+6,none⟩ (.slice ob6 ul oc6)).symm.trans (congrArg (fun x:World=>x.heap.size) hW)
      replace hzr:=Nat.le_trans hzr (Nat.le_of_eq hszz)
      replace hGBz:=Nat.lt_of_lt_of_le hGBz (Nat.le_of_eq hszz)
      have hs6:wa.heap.size≤wb.heap.size:=Nat.le_trans hb6.size (Nat.le_of_eq hszz)
      clear hW hszz hb6
      have hul6:∀ k,(Value.slice ob6 ul oc6).ownBlock=some k→k<wb.heap.size:=fun k hk=>(World.ownsRow.lt o6.raw k hk).2
      obtain⟨D1_c,D1_f,D1_z⟩:=D1.all
      obtain⟨D2_c,D2_f,D2_z⟩:=D2.all
      have fz0:∀ j,wb.frozen? ⟨GB,j,none⟩=false:=fun j=>HMT.frz
      have cz0:=HMT.at_ HG.out HX.out (j:=8) (u:=_) rfl
      go_upto_region 5 with (at_builtin;go_must (refine wpList_append_own _ rfl (.tmp 43) (.tmp 48) 47 rfl wb.heap.size 4 k0 (.bool false) 1 1 Tryz.underlying47 hk0 kz0 kz1 kz2 rfl (by decide) _ _ _ rfl (World.ownsRow_made _ #[] 0 (nlr _) (Nat.zero_le _) (by simp)) ⟨eb,eoff,none⟩ el ec (E.map Value.bool) rfl (by rw[List.length_map,HEL.out,Nat.mul_one]) (fun j u hj=>Lib.cell?_alloc_some _ ((EncRow.cells' (HRE.out.below hbw)) j u hj)) (map_one (fun _=>rfl) _) (by unfold maxLen;omega) (by omega) (by simp) ?_;intro v8 w8 hown8 hgrow8 _;have hb8:Below wb.heap.size wb w8:=fresh_grown hgrow8;have o8:OwnBool wb.heap.size w8 v8 E:=(show World.ownsRow _ _ _ _ _ _ _ from (by rw[HEL.out];simpa using hown8));obtain⟨ob8,oc8,rfl,_,_⟩:=o8.formN HEL.out;have fz0:∀ j,w8.frozen? ⟨GB,j,none⟩=false:=fun j=>(HMT.below hb8).frz;have cz0:=(HMT.below hb8).at_ HG.out HX.out (j:=8) (u:=_) rfl))
      clear hown8 hgrow8 cz0 fz0
      clear D1_c D1_f D1_z
      clear D2_c D2_f D2_z
      replace D1:=D1.below hb8
      replace D2:=D2.below hb8
      replace O1:=O1.below hb8
      replace HMT:=HMT.below hb8
      replace hbw:=hbw.trans (hb8.mono hbw.size)
      replace hzr:=Nat.le_trans hzr hb8.size
      replace hGBz:=Nat.lt_of_lt_of_le hGBz hb8.size
      replace o5:=o5.below hb8
      replace o6:=o6.below hb8
      replace o5:=o5.setoff (own_ne_type HMT.g o5 (by decide) rfl) (b:=GB) (j:=i*9+8) (.slice ob8 el oc8)
      replace o6:=o6.setoff (own_ne_type HMT.g o6 (by decide) rfl) (b:=GB) (j:=i*9+8) (.slice ob8 el oc8)
      replace o8:=o8.setoff (own_ne_type HMT.g o8 (by decide) rfl) (b:=GB) (j:=i*9+8) (.slice ob8 el oc8)
      replace O1:=O1.guestoff HMT.g (j:=i*9+8) (.slice ob8 el oc8)
      replace HMT:=HMT.put (j:=8) (v:=.slice ob8 el oc8) (x':=⟨.slice ob5 sl oc5,.slice ob6 ul oc6,.slice ob8 el oc8⟩) HG.out HX.out (by omega) rfl
      replace HX:=lh (set_get ⟨.slice ob5 sl oc5,.slice ob6 ul oc6,.slice ob8 el oc8⟩ HX.out)
      replace D1:=D1.set_ne (b':=GB) (j:=i*9+8) (by omega) (.slice ob8 el oc8)
      replace D2:=D2.set_ne (b':=GB) (j:=i*9+8) (by omega) (.slice ob8 el oc8)
      replace hbw:=hbw.setCell (p:=⟨GB,i*9+8,none⟩) (by dsimp only;omega) (.slice ob8 el oc8)
      generalize hW:World.setCell w8 ⟨GB,i*9+8,none⟩ (.slice ob8 el oc8)=wc at o5 o6 o8 O1 HMT D1 D2 hbw ⊢
      have hszz:=(World.size_setCell w8 ⟨GB,i*9+8,none⟩ (.slice ob8 el oc8)).symm.trans (congrArg (fun x:World=>x.heap.size) hW)
      replace hzr:=Nat.le_trans hzr (Nat.le_of_eq hszz)
      replace hGBz:=Nat.lt_of_lt_of_le hGBz (Nat.le_of_eq hszz)
      have hs8:wb.heap.size≤wc.heap.size:=Nat.le_trans hb8.size (Nat.le_of_eq hszz)
      clear hW hszz hb8
      have HM2:=HMT.next (B:=wr.heap.size) HG.out HX.out (o5.lower hT0) (o6.lower (by omega)) (o8.lower (by omega)) (fun j y hj hy=>HLT0.out j y hj (by rwa[List.getElem?_set,if_neg (by omega),List.getElem?_set,if_neg (by omega),List.getElem?_set,if_neg (by omega)] at hy)) (fun k hk=>by have:=o5.ge k hk;omega) (fun k hk=>by have:=o6.ge k hk;omega) (fun k hk=>by have:=o8.ge k hk;omega) (fun k hk hk'=>by have:=hul6 k hk;have:=o8.ge k hk';omega)
      obtain⟨gs3,hgs3⟩:∃ gs3,((gs.set i ⟨.slice ob5 sl oc5,.slice (some ⟨ub,uoff,none⟩) ul uc,.slice (some ⟨eb,eoff,none⟩) el ec⟩).set i ⟨.slice ob5 sl oc5,.slice ob6 ul oc6,.slice (some ⟨eb,eoff,none⟩) el ec⟩).set i ⟨.slice ob5 sl oc5,.slice ob6 ul oc6,.slice ob8 el oc8⟩=gs3:=⟨_,rfl⟩
      have hgs4:∀ j,i+1≤j→gs3[j]?=gs0[j]?:=fun j hj=>by
       rw[←hgs3,List.getElem?_set,if_neg (by omega),List.getElem?_set,if_neg (by omega),List.getElem?_set,if_neg (by omega)]
       exact HGS.out j (by omega)
      rw[hgs3] at HM2
      have HGS4:=lh hgs4
      clear hgs3 hgs4 HX HMT o5 o6 o8 hul6 HLT0 HGS
      go_wp2_with fail
      go_roundw
      case rel=>exact⟨i+1,gs3,by omega,by go_num,HGS4,D1,D2,O1,HM2,hzr,hbw⟩
      case measure=>simp [intOf];omega
    · obtain rfl:i=q:=by omega
      have hg:=HMT
      rw[←HQ.out] at hg
      have hR:OwnR (w.heap.size+1+1) T wr (.slice of1 n kf1') (.slice or1 r kr1') (.slice om1 m km1') us1 (.slice o3 i c3) gs H:=⟨O1,HLT.out,hz2,by rw[HQ.out] at hg;exact (show MineTo T wr (.slice o3 i c3) gs H.G H.G.length by rw[HQ.out];exact hg).done⟩
      clear hg HMT O1 HLT
      obtain⟨D1_c,D1_f,D1_z⟩:=D1.all
      obtain⟨D2_c,D2_f,D2_z⟩:=D2.all
      go_wp2_with fail
      refine bodyPost_ret (v:=.agg #[.slice of1 n kf1',.slice or1 r kr1',.slice om1 m km1',.slice o3 i c3,.int .i64 tx,.int .u64 dx,.int .i64 sx]) (by simp [results,Tryz.results55,go_sem,D2_c]) rfl ?_
      exact horRet (k:=fun v=>v) HN.out HR.out HM.out HQ.out HT.out HD.out HS.out ((hR.setlow (by omega) _).fill7 (by omega) _ _ _ _ _ _ _) (by simp only[sizes];exact hzr) (Below.fill7 (hbw.setCell (nlr _) _) (by omega) _ _ _ _ _ _ _)
 | some ad =>
   have hnews:=RowAt.cells (HRW.out.below hbw)
   have hone:∀ u∈gmFlat H.G gs0,u.oneCell'=true:=gmFlat_one (fun i x hx=>by
    obtain⟨g,hg⟩:=get_lt (xs:=H.G) (k:=i) (by rw[HQ.out,←HL0.out];exact lt_of_get hx)
    obtain⟨a,b,c⟩:=HR0.out i x g hx hg
    obtain⟨_,_,ea,_⟩:=a.out
    obtain⟨_,_,eb,_⟩:=b.out
    obtain⟨_,_,ec,_⟩:=c.out
    exact⟨⟨_,_,_,ea⟩,⟨_,_,_,eb⟩,⟨_,_,_,ec⟩⟩)
   have HNW:=lh hnews
   have HONE:=lh hone
   have HGL:=lh hgl
   clear hnews hone hgl
   obtain⟨D1_c,D1_f,D1_z⟩:=D1.all
   obtain⟨D2_c,D2_f,D2_z⟩:=D2.all
   go_wp2_with (at_builtin;refine wpList_append_own _ rfl (.tmp 9) (.tmp 11) 27 rfl w2.heap.size 49 i0 (.agg #[.int .i64 0,.int .i64 0,.int .i64 0,.int .i64 0,.int .i64 0,.slice none 0 0,.slice none 0 0,.int .i64 0,.slice none 0 0]) 9 120 Tryz.underlying27 hi iz0 iz1 iz2 rfl (by decide) _ _ _ rfl (World.ownsRow_made _ #[] 0 (nlr _) (Nat.zero_le _) (by simp)) ad q kg (gmFlat H.G gs0) rfl ?qa ?qb ?qc ?qd ?qe ?qf ?_)
   case qa=>exact HGL.out
   case qb=>exact fun j u hj=>Lib.cell?_alloc_some _ (HNW.out j u hj)
   case qc=>exact HONE.out
   case qd=>unfold maxLen;omega
   case qe=>omega
   case qf=>simp
   intro v3 w3 hown3 hgrow3 _
   have hb3:Below w2.heap.size w2 w3:=((Below.refl _ w2).alloc (nlr _) _).grown hgrow3 (by simp) (by intro k hk;simp [Value.ownBlock] at hk;omega)
   clear hgrow3 HNW HONE HGL
   obtain⟨o3,c3,rfl,hc31,hc32⟩:=own_form' hown3
   replace D1:=D1.below hb3
   replace D2:=D2.below hb3
   replace O1:=O1.below hb3
   replace hbw:=hbw.trans (hb3.mono hbw.size)
   have hz3:=hb3.size
   obtain⟨T,hT⟩:∃ T,w2.heap.size=T:=⟨_,rfl⟩
   rw[hT] at hown3 HLT hz2 hz3
   clear hb3 hT
   have HMT:MineTo T w3 (.slice o3 q c3) gs0 H.G 0:=⟨by rw[HQ.out];exact hown3,by rw[HL0.out,HQ.out],fun j x g hj=>absurd hj (Nat.not_lt_zero _),fun _=>0,fun j x hj=>absurd hj (Nat.not_lt_zero _)⟩
   clear hown3
   obtain⟨D1_c,D1_f,D1_z⟩:=D1.all
   obtain⟨D2_c,D2_f,D2_z⟩:=D2.all
   go_wp2_with fail
   clear D1_c D1_f D1_z
   clear D2_c D2_f D2_z
   go_loopw [4] (fun iv wr=>∃ (i:Nat) (gs:List Gv),i≤q∧iv=.int .i64 i∧Hid (∀ j,i≤j→gs[j]?=gs0[j]?)∧HasBlock wr w.heap.size #[.slice of1 n kf1',.slice or1 r kr1',.slice om1 m km1',.slice (some ad) q kg,.int .i64 tx,.int .u64 dx,.int .i64 sx] 30∧HasBlock wr (w.heap.size+1) #[.slice none 0 0,.slice none 0 0,.slice none 0 0,.slice none 0 0,.int .i64 0,.int .u64 0,.int .i64 0] 30∧OwnP (w.heap.size+1+1) wr (.slice of1 n kf1') (.slice or1 r kr1') (.slice om1 m km1') us1 H.P∧MineTo T wr (.slice o3 q c3) gs H.G i∧T≤wr.heap.size∧Below w.heap.size w wr) (fun iv _=>q - (intOf iv).toNat)
   case atStart=>exact⟨0,gs0,by omega,rfl,fun j _=>rfl,D1,D2,O1,HMT,hz3,hbw⟩
   case round =>
    clear D1 D2 O1 HMT hbw hz3
    obtain⟨i,gs,hi',rfl,HGS,D1,D2,O1,HMT,hzr,hbw⟩:=hrel
    by_cases hlt:i<q
    · obtain⟨g,hg⟩:=get_lt (xs:=H.G) (k:=i) (by rw[HQ.out];exact hlt)
      obtain⟨x,hx0⟩:=get_lt (xs:=gs0) (k:=i) (by rw[HL0.out];exact hlt)
      have hx:gs[i]?=some x:=by rw[HGS.out i (nlr _)];exact hx0
      have hlt0:=HMT.lt
      have HLT0:=lh hlt0
      obtain⟨l,hl,hgo⟩:=HOK.out.page hg
      have hll:=HOK.out.p.l l (mem_at hl)
      obtain⟨r1,r2,r3⟩:=HR0.out i x g hx0 hg
      have e1:=hgo.ls
      have e2:=hgo.lu
      have e3:=hgo.le
      obtain⟨GB,rfl,hGB,hGBz⟩:=HMT.addr (by omega)
      have HG:=lh hg
      have HX:=lh hx
      clear hg hx hx0 hgo hl hlt0
      obtain⟨xs,xu,xe⟩:=x
      obtain⟨cc,S,U,hd,E⟩:=g
      dsimp only at e1 e2 e3 r1 r2 r3
      obtain⟨so,sc,rfl,s1,s2,-⟩:=r1.out
      obtain⟨uo,uc,rfl,u1,u2,-⟩:=r2.out
      obtain⟨eo,ec,rfl,x1,x2,-⟩:=r3.out
      unfold maxLen at s2 u2 x2
      obtain⟨t0,ht0⟩:=get_lt (xs:=S) (k:=0) (by omega)
      obtain⟨b0,hb0⟩:=get_lt (xs:=U) (k:=0) (by omega)
      obtain⟨f0,hf0⟩:=get_lt (xs:=E) (k:=0) (by omega)
      obtain⟨sb,soff,rfl,hsb,-⟩:=r1.elem ht0
      obtain⟨ub,uoff,rfl,hub,-⟩:=r2.elem hb0
      obtain⟨eb,eoff,rfl,heb,-⟩:=r3.elem hf0
      obtain⟨sl,hsl⟩:∃ x,S.length=x:=⟨_,rfl⟩
      obtain⟨ul,hul⟩:∃ x,U.length=x:=⟨_,rfl⟩
      obtain⟨el,hel⟩:∃ x,E.length=x:=⟨_,rfl⟩
      rw[hsl] at s1 e1 r1 HX
      rw[hul] at u1 e2 r2 HX
      rw[hel] at x1 e3 r3 HX
      have n1:1≤sl∧sl≤32:=by omega
      have n2:1≤ul∧ul≤32:=by omega
      have n3:1≤el∧el≤32:=by omega
      clear e1 e2 e3 hll
      have HSL:=lh hsl
      have HUL:=lh hul
      have HEL:=lh hel
      have HRS:=lh r1
      have HRU:=lh r2
      have HRE:=lh r3
      clear ht0 hb0 hf0 hsl hul hel r1 r2 r3 t0 b0 f0
      obtain⟨j0,hj0,jz0,jz1,jz2⟩:=info_parts info_str
      obtain⟨k0,hk0,kz0,kz1,kz2⟩:=info_parts info_bool
      have i0':(0:Int)≤(i:Int):=by omega
      have iq:(i:Int)<(q:Int):=by omega
      have hT0:=hzr
      obtain⟨D1_c,D1_f,D1_z⟩:=D1.all
      obtain⟨D2_c,D2_f,D2_z⟩:=D2.all
      have fz0:∀ j,wr.frozen? ⟨GB,j,none⟩=false:=fun j=>HMT.frz
      have cz0:=HMT.at_ HG.out HX.out (j:=5) (u:=_) rfl
      go_upto_region 7 with (at_builtin;go_must (refine wpList_append_own _ rfl (.tmp 21) (.tmp 26) 22 rfl wr.heap.size 9 j0 (.string ⟨#[]⟩) 1 16 Tryz.underlying22 hj0 jz0 jz1 jz2 rfl (by decide) _ _ _ rfl (World.ownsRow_made _ #[] 0 (nlr _) (Nat.zero_le _) (by simp)) ⟨sb,soff,none⟩ sl sc (S.map Value.string) rfl (by rw[List.length_map,HSL.out,Nat.mul_one]) (fun j u hj=>Lib.cell?_alloc_some _ ((EncRow.cells' (HRS.out.below hbw)) j u hj)) (map_one (fun _=>rfl) _) (by unfold maxLen;omega) (by omega) (by simp) ?_;intro v5 w5 hown5 hgrow5 _;have hb5:Below wr.heap.size wr w5:=fresh_grown hgrow5;have o5:OwnStr wr.heap.size w5 v5 S:=(show World.ownsRow _ _ _ _ _ _ _ from (by rw[HSL.out];simpa using hown5));obtain⟨ob5,oc5,rfl,_,_⟩:=o5.formN HSL.out;have fz0:∀ j,w5.frozen? ⟨GB,j,none⟩=false:=fun j=>(HMT.below hb5).frz;have cz0:=(HMT.below hb5).at_ HG.out HX.out (j:=5) (u:=_) rfl))
      clear hown5 hgrow5 cz0 fz0
      clear D1_c D1_f D1_z
      clear D2_c D2_f D2_z
      replace D1:=D1.below hb5
      replace D2:=D2.below hb5
      replace O1:=O1.below hb5
      replace HMT:=HMT.below hb5
      replace hbw:=hbw.trans (hb5.mono hbw.size)
      replace hzr:=Nat.le_trans hzr hb5.size
      replace hGBz:=Nat.lt_of_lt_of_le hGBz hb5.size
      replace o5:=o5.setoff (own_ne_type HMT.g o5 (by decide) rfl) (b:=GB) (j:=i*9+5) (.slice ob5 sl oc5)
      replace O1:=O1.guestoff HMT.g (j:=i*9+5) (.slice ob5 sl oc5)
      replace HMT:=HMT.put (j:=5) (v:=.slice ob5 sl oc5) (x':=⟨.slice ob5 sl oc5,.slice (some ⟨ub,uoff,none⟩) ul uc,.slice (some ⟨eb,eoff,none⟩) el ec⟩) HG.out HX.out (by omega) rfl
      replace HX:=lh (set_get ⟨.slice ob5 sl oc5,.slice (some ⟨ub,uoff,none⟩) ul uc,.slice (some ⟨eb,eoff,none⟩) el ec⟩ HX.out)
      replace D1:=D1.set_ne (b':=GB) (j:=i*9+5) (by omega) (.slice ob5 sl oc5)
      replace D2:=D2.set_ne (b':=GB) (j:=i*9+5) (by omega) (.slice ob5 sl oc5)
      replace hbw:=hbw.setCell (p:=⟨GB,i*9+5,none⟩) (by dsimp only;omega) (.slice ob5 sl oc5)
      generalize hW:World.setCell w5 ⟨GB,i*9+5,none⟩ (.slice ob5 sl oc5)=wa at o5 O1 HMT D1 D2 hbw ⊢
      have hszz:=(World.size_setCell w5 ⟨GB,i*9+5,none⟩ (.slice ob5 sl oc5)).symm.trans (congrArg (fun x:World=>x.heap.size) hW)
      replace hzr:=Nat.le_trans hzr (Nat.le_of_eq hszz)
      replace hGBz:=Nat.lt_of_lt_of_le hGBz (Nat.le_of_eq hszz)
      have hs5:wr.heap.size≤wa.heap.size:=Nat.le_trans hb5.size (Nat.le_of_eq hszz)
      clear hW hszz hb5
      obtain⟨D1_c,D1_f,D1_z⟩:=D1.all
      obtain⟨D2_c,D2_f,D2_z⟩:=D2.all
      have fz0:∀ j,wa.frozen? ⟨GB,j,none⟩=false:=fun j=>HMT.frz
      have cz0:=HMT.at_ HG.out HX.out (j:=6) (u:=_) rfl
      go_upto_region 8 with (at_builtin;go_must (refine wpList_append_own _ rfl (.tmp 32) (.tmp 37) 47 rfl wa.heap.size 4 k0 (.bool false) 1 1 Tryz.underlying47 hk0 kz0 kz1 kz2 rfl (by decide) _ _ _ rfl (World.ownsRow_made _ #[] 0 (nlr _) (Nat.zero_le _) (by simp)) ⟨ub,uoff,none⟩ ul uc (U.map Value.bool) rfl (by rw[List.length_map,HUL.out,Nat.mul_one]) (fun j u hj=>Lib.cell?_alloc_some _ ((EncRow.cells' (HRU.out.below hbw)) j u hj)) (map_one (fun _=>rfl) _) (by unfold maxLen;omega) (by omega) (by simp) ?_;intro v6 w6 hown6 hgrow6 _;have hb6:Below wa.heap.size wa w6:=fresh_grown hgrow6;have o6:OwnBool wa.heap.size w6 v6 U:=(show World.ownsRow _ _ _ _ _ _ _ from (by rw[HUL.out];simpa using hown6));obtain⟨ob6,oc6,rfl,_,_⟩:=o6.formN HUL.out;have fz0:∀ j,w6.frozen? ⟨GB,j,none⟩=false:=fun j=>(HMT.below hb6).frz;have cz0:=(HMT.below hb6).at_ HG.out HX.out (j:=6) (u:=_) rfl))
      clear hown6 hgrow6 cz0 fz0
      clear D1_c D1_f D1_z
      clear D2_c D2_f D2_z
      replace D1:=D1.below hb6
      replace D2:=D2.below hb6
      replace O1:=O1.below hb6
      replace HMT:=HMT.below hb6
      replace hbw:=hbw.trans (hb6.mono hbw.size)
      replace hzr:=Nat.le_trans hzr hb6.size
      replace hGBz:=Nat.lt_of_lt_of_le hGBz hb6.size
      replace o5:=o5.below hb6
      replace o5:=o5.setoff (own_ne_type HMT.g o5 (by decide) rfl) (b:=GB) (j:=i*9+6) (.slice ob6 ul oc6)
      replace o6:=o6.setoff (own_ne_type HMT.g o6 (by decide) rfl) (b:=GB) (j:=i*9+6) (.slice ob6 ul oc6)
      replace O1:=O1.guestoff HMT.g (j:=i*9+6) (.slice ob6 ul oc6)
      replace HMT:=HMT.put (j:=6) (v:=.slice ob6 ul oc6) (x':=⟨.slice ob5 sl oc5,.slice ob6 ul oc6,.slice (some ⟨eb,eoff,none⟩) el ec⟩) HG.out HX.out (by omega) rfl
      replace HX:=lh (set_get ⟨.slice ob5 sl oc5,.slice ob6 ul oc6,.slice (some ⟨eb,eoff,none⟩) el ec⟩ HX.out)
      replace D1:=D1.set_ne (b':=GB) (j:=i*9+6) (by omega) (.slice ob6 ul oc6)
      replace D2:=D2.set_ne (b':=GB) (j:=i*9+6) (by omega) (.slice ob6 ul oc6)
      replace hbw:=hbw.setCell (p:=⟨GB,i*9+6,none⟩) (by dsimp only;omega) (.slice ob6 ul oc6)
      generalize hW:World.setCell w6 ⟨GB,i*9+6,none⟩ (.slice ob6 ul oc6)=wb at o5 o6 O1 HMT D1 D2 hbw ⊢
      have hszz:=(World.size_setCell w6 ⟨GB,i*9+6,none⟩ (.slice ob6 ul oc6)).symm.trans (congrArg (fun x:World=>x.heap.size) hW)
      replace hzr:=Nat.le_trans hzr (Nat.le_of_eq hszz)
      replace hGBz:=Nat.lt_of_lt_of_le hGBz (Nat.le_of_eq hszz)
      have hs6:wa.heap.size≤wb.heap.size:=Nat.le_trans hb6.size (Nat.le_of_eq hszz)
      clear hW hszz hb6
      have hul6:∀ k,(Value.slice ob6 ul oc6).ownBlock=some k→k<wb.heap.size:=fun k hk=>(World.ownsRow.lt o6.raw k hk).2
      obtain⟨D1_c,D1_f,D1_z⟩:=D1.all
      obtain⟨D2_c,D2_f,D2_z⟩:=D2.all
      have fz0:∀ j,wb.frozen? ⟨GB,j,none⟩=false:=fun j=>HMT.frz
      have cz0:=HMT.at_ HG.out HX.out (j:=8) (u:=_) rfl
      go_upto_region 5 with (at_builtin;go_must (refine wpList_append_own _ rfl (.tmp 43) (.tmp 48) 47 rfl wb.heap.size 4 k0 (.bool false) 1 1 Tryz.underlying47 hk0 kz0 kz1 kz2 rfl (by decide) _ _ _ rfl (World.ownsRow_made _ #[] 0 (nlr _) (Nat.zero_le _) (by simp)) ⟨eb,eoff,none⟩ el ec (E.map Value.bool) rfl (by rw[List.length_map,HEL.out,Nat.mul_one]) (fun j u hj=>Lib.cell?_alloc_some _ ((EncRow.cells' (HRE.out.below hbw)) j u hj)) (map_one (fun _=>rfl) _) (by unfold maxLen;omega) (by omega) (by simp) ?_;intro v8 w8 hown8 hgrow8 _;have hb8:Below wb.heap.size wb w8:=fresh_grown hgrow8;have o8:OwnBool wb.heap.size w8 v8 E:=(show World.ownsRow _ _ _ _ _ _ _ from (by rw[HEL.out];simpa using hown8));obtain⟨ob8,oc8,rfl,_,_⟩:=o8.formN HEL.out;have fz0:∀ j,w8.frozen? ⟨GB,j,none⟩=false:=fun j=>(HMT.below hb8).frz;have cz0:=(HMT.below hb8).at_ HG.out HX.out (j:=8) (u:=_) rfl))
      clear hown8 hgrow8 cz0 fz0
      clear D1_c D1_f D1_z
      clear D2_c D2_f D2_z
      replace D1:=D1.below hb8
      replace D2:=D2.below hb8
      replace O1:=O1.below hb8
      replace HMT:=HMT.below hb8
      replace hbw:=hbw.trans (hb8.mono hbw.size)
      replace hzr:=Nat.le_trans hzr hb8.size
      replace hGBz:=Nat.lt_of_lt_of_le hGBz hb8.size
      replace o5:=o5.below hb8
      replace o6:=o6.below hb8
      replace o5:=o5.setoff (own_ne_type HMT.g o5 (by decide) rfl) (b:=GB) (j:=i*9+8) (.slice ob8 el oc8)
      replace o6:=o6.setoff (own_ne_type HMT.g o6 (by decide) rfl) (b:=GB) (j:=i*9+8) (.slice ob8 el oc8)
      replace o8:=o8.setoff (own_ne_type HMT.g o8 (by decide) rfl) (b:=GB) (j:=i*9+8) (.slice ob8 el oc8)
      replace O1:=O1.guestoff HMT.g (j:=i*9+8) (.slice ob8 el oc8)
      replace HMT:=HMT.put (j:=8) (v:=.slice ob8 el oc8) (x':=⟨.slice ob5 sl oc5,.slice ob6 ul oc6,.slice ob8 el oc8⟩) HG.out HX.out (by omega) rfl
      replace HX:=lh (set_get ⟨.slice ob5 sl oc5,.slice ob6 ul oc6,.slice ob8 el oc8⟩ HX.out)
      replace D1:=D1.set_ne (b':=GB) (j:=i*9+8) (by omega) (.slice ob8 el oc8)
      replace D2:=D2.set_ne (b':=GB) (j:=i*9+8) (by omega) (.slice ob8 el oc8)
      replace hbw:=hbw.setCell (p:=⟨GB,i*9+8,none⟩) (by dsimp only;omega) (.slice ob8 el oc8)
      generalize hW:World.setCell w8 ⟨GB,i*9+8,none⟩ (.slice ob8 el oc8)=wc at o5 o6 o8 O1 HMT D1 D2 hbw ⊢
      have hszz:=(World.size_setCell w8 ⟨GB,i*9+8,none⟩ (.slice ob8 el oc8)).symm.trans (congrArg (fun x:World=>x.heap.size) hW)
      replace hzr:=Nat.le_trans hzr (Nat.le_of_eq hszz)
      replace hGBz:=Nat.lt_of_lt_of_le hGBz (Nat.le_of_eq hszz)
      have hs8:wb.heap.size≤wc.heap.size:=Nat.le_trans hb8.size (Nat.le_of_eq hszz)
      clear hW hszz hb8
      have HM2:=HMT.next (B:=wr.heap.size) HG.out HX.out (o5.lower hT0) (o6.lower (by omega)) (o8.lower (by omega)) (fun j y hj hy=>HLT0.out j y hj (by rwa[List.getElem?_set,if_neg (by omega),List.getElem?_set,if_neg (by omega),List.getElem?_set,if_neg (by omega)] at hy)) (fun k hk=>by have:=o5.ge k hk;omega) (fun k hk=>by have:=o6.ge k hk;omega) (fun k hk=>by have:=o8.ge k hk;omega) (fun k hk hk'=>by have:=hul6 k hk;have:=o8.ge k hk';omega)
      obtain⟨gs3,hgs3⟩:∃ gs3,((gs.set i ⟨.slice ob5 sl oc5,.slice (some ⟨ub,uoff,none⟩) ul uc,.slice (some ⟨eb,eoff,none⟩) el ec⟩).set i ⟨.slice ob5 sl oc5,.slice ob6 ul oc6,.slice (some ⟨eb,eoff,none⟩) el ec⟩).set i ⟨.slice ob5 sl oc5,.slice ob6 ul oc6,.slice ob8 el oc8⟩=gs3:=⟨_,rfl⟩
      have hgs4:∀ j,i+1≤j→gs3[j]?=gs0[j]?:=fun j hj=>by
       rw[←hgs3,List.getElem?_set,if_neg (by omega),List.getElem?_set,if_neg (by omega),List.getElem?_set,if_neg (by omega)]
       exact HGS.out j (by omega)
      rw[hgs3] at HM2
      have HGS4:=lh hgs4
      clear hgs3 hgs4 HX HMT o5 o6 o8 hul6 HLT0 HGS
      go_wp2_with fail
      go_roundw
      case rel=>exact⟨i+1,gs3,by omega,by go_num,HGS4,D1,D2,O1,HM2,hzr,hbw⟩
      case measure=>simp [intOf];omega
    · obtain rfl:i=q:=by omega
      have hg:=HMT
      rw[←HQ.out] at hg
      have hR:OwnR (w.heap.size+1+1) T wr (.slice of1 n kf1') (.slice or1 r kr1') (.slice om1 m km1') us1 (.slice o3 i c3) gs H:=⟨O1,HLT.out,hz2,by rw[HQ.out] at hg;exact (show MineTo T wr (.slice o3 i c3) gs H.G H.G.length by rw[HQ.out];exact hg).done⟩
      clear hg HMT O1 HLT
      obtain⟨D1_c,D1_f,D1_z⟩:=D1.all
      obtain⟨D2_c,D2_f,D2_z⟩:=D2.all
      go_wp2_with fail
      refine bodyPost_ret (v:=.agg #[.slice of1 n kf1',.slice or1 r kr1',.slice om1 m km1',.slice o3 i c3,.int .i64 tx,.int .u64 dx,.int .i64 sx]) (by simp [results,Tryz.results55,go_sem,D2_c]) rfl ?_
      exact horRet (k:=fun v=>v) HN.out HR.out HM.out HQ.out HT.out HD.out HS.out ((hR.setlow (by omega) _).fill7 (by omega) _ _ _ _ _ _ _) (by simp only[sizes];exact hzr) (Below.fill7 (hbw.setCell (nlr _) _) (by omega) _ _ _ _ _ _ _)
def RetVicR (n:Nat) (o:Option (Nat×List Bool×Nat)) (w:World) (e:Ending) (w':World):Prop:=Below w.heap.size w w'∧match o with
 | none=>∃ vu h,e=.returned (.tuple #[.int .i64 (-1),vu,.int .i64 h])
 | some (a,U,q)=>∃ (ao:Option Addr) (cap:Nat),e=.returned (.tuple #[.int .i64 a,.slice ao n cap,.int .i64 q])∧OwnBool w.heap.size w' (.slice ao n cap) U∧U.length=n
set_option maxRecDepth 100000 in
set_option maxHeartbeats 4000000 in
theorem rvictim_any (uo ro:Option Addr) (uc rc n:Nat) (u r:List Bool) (h:Nat) (x:Int) (w:World) (hu:BoolRow w (.slice uo n uc) u) (hr:BoolRow w (.slice ro n rc) r) (hul:u.length=n) (hrl:r.length=n) (h1:1≤n) (h32:n≤32) (hh:h<n):Calls Tryz.prog 106 #[.slice uo n uc,.slice ro n rc,.int .i64 h,.int .i64 x] w (RetVicR n (chO u r h x) w):=by
 have hun:∀ (k a:Nat) (U:List Bool),chF r x (k+1) a U=if (r[a]?).getD false=false∨(a:Int)=x then chF r x k ((a+1) % n) U
  else if (U[a]?).getD false=true then chF r x k ((a+1) % n) (U.set a false)
  else some (a,U,(a+1) % n):=fun k a U=>by rw[chF,hrl]
 have hvo:chO u r h x=chF r x (2*n) h u:=by unfold chO;rw[hrl]
 rw[hvo]
 clear hvo
 obtain⟨o,ho⟩:∃ o,chF r x (2*n) h u=o:=⟨_,rfl⟩
 rw[ho]
 have h0v:∀ (a:Nat) (U:List Bool),chF r x 0 a U=none:=fun _ _=>rfl
 have HUN:=lh hun;clear hun
 have H0V:=lh h0v;clear h0v
 have HO:=lh ho;clear ho
 have hmax:=hu.out
 obtain⟨_,_,e0,m1,m2,_⟩:=hmax
 injection e0 with e0 e9 e1
 subst e0 e1
 clear e9
 unfold maxLen at m2
 rw[hul] at m1
 obtain⟨b0,hb0⟩:=get_lt (xs:=u) (k:=0) (by omega)
 obtain⟨ub,uoff,rfl,hub,-⟩:=hu.elem hb0
 clear hb0
 have HU:=lh hu;clear hu
 have HR:=lh hr;clear hr
 have HUL:=lh hul;clear hul
 have HRL:=lh hrl;clear hrl
 have hn0:((n:Int) == 0)=false:=by rw[beq_eq_false_iff_ne];omega
 obtain⟨k0,hk0,kz0,kz1,kz2⟩:=info_parts info_bool
 have e1:((n:Int) != (n:Int))=false:=by simp
 go_enter Tryz.func106,Tryz.ntmps106
 go_upto_region 5 with (at_builtin;go_must (refine wpList_append_own _ rfl (.tmp 40) (.tmp 41) 47 rfl w.heap.size 4 k0 (.bool false) 1 1 Tryz.underlying47 hk0 kz0 kz1 kz2 rfl (by decide) _ _ _ rfl (World.ownsRow_made _ #[] 0 (nlr _) (Nat.zero_le _) (by simp)) ⟨ub,uoff,none⟩ n uc (u.map Value.bool) rfl (by rw[List.length_map,HUL.out,Nat.mul_one]) (fun j u hj=>Lib.cell?_alloc_some _ ((EncRow.cells' HU.out) j u hj)) (map_one (fun _=>rfl) _) (by unfold maxLen;omega) (by omega) (by simp) ?_;intro v1 w1 hown1 hgrow1 _;have hbw:Below w.heap.size w w1:=fresh_grown hgrow1;have o1:OwnBool w.heap.size w1 v1 u:=(show World.ownsRow _ _ _ _ _ _ _ from (by rw[HUL.out];simpa using hown1));obtain⟨vo,vc,rfl,_,_⟩:=o1.formN HUL.out))
 clear hown1 hgrow1
 go_wp2_with fail
 go_loopw [13] (fun iv wr=>∃ (i a:Nat) (U:List Bool),i≤2*n∧a<n∧a=(h+i) % n∧iv=.int .i64 i∧Hid (U.length=n)∧Hid (chF r x (2*n - i) a U=o)∧OwnBool w.heap.size wr (.slice vo n vc) U∧Below w.heap.size w wr) (fun iv _=>2*n - (intOf iv).toNat)
 case atStart=>exact⟨0,h,u,by omega,hh,by rw[Nat.add_zero,Nat.mod_eq_of_lt hh],rfl,HUL,by rw[Nat.sub_zero];exact HO.out,o1,hbw⟩
 case round =>
  clear o1 hbw
  obtain⟨i,a,U,hi,han,hai,rfl,HL,HV,o1,hbw⟩:=hrel
  by_cases hlt:i<2*n
  · obtain⟨rb,hrb⟩:=get_lt (xs:=r) (k:=a) (by rw[HRL.out];exact han)
    obtain⟨ubb,hub2⟩:=get_lt (xs:=U) (k:=a) (by rw[HL.out];exact han)
    obtain⟨fb,foff,rfl,hfb,cf0⟩:=HR.out.elem hrb
    have cf:=(hbw.cell (p:=⟨fb,foff+a,none⟩) hfb).trans cf0
    obtain⟨gv,rfl,q1,q2⟩:=o1.addr HL.out (by omega)
    obtain⟨cu,fu⟩:=o1.at hub2
    have hstep:=HUN.out (2*n - i - 1) a U
    rw[show 2*n - i - 1+1=2*n - i from by omega,HV.out,hrb,hub2] at hstep
    dsimp only[Option.getD] at hstep
    have hmod:=emod_next a n
    have hmn:(a+1) % n<n:=Nat.mod_lt _ (by omega)
    have hnx:(a+1) % n=(h+(i+1)) % n:=by rw[hai,Nat.mod_add_mod,Nat.add_assoc]
    obtain⟨a2,ha2⟩:∃ y,(a+1) % n=y:=⟨_,rfl⟩
    rw[ha2] at hmod hmn hstep hnx
    have hwr:IntKind.i64.wrap (a2:Int)=(a2:Int):=IntWalk.i64_in _ (by omega)
    have ham:((h:Int)+(i:Int)).tmod n=(a:Int):=by
     rw[show ((h:Int)+(i:Int))=((h+i:Nat):Int) from by omega,Int.tmod_eq_emod_of_nonneg (by omega),hai]
     exact (Int.natCast_emod _ _).symm
    have HST:=lh hstep
    have HNX:=lh hnx
    clear hstep hrb hub2 ha2 HV hnx hai
    have a0:(0:Int)≤(a:Int):=by omega
    have an:(a:Int)<(n:Int):=by omega
    have hi2:(i:Int)<2*(n:Int):=by omega
    cases rb
    · have hst:=HST.out
      rw[if_pos (.inl rfl)] at hst
      have HS2:=lh hst;clear hst HST
      go_wp2_with fail
      go_roundw
      case rel=>exact⟨i+1,a2,U,by omega,hmn,HNX.out,by go_num,HL,HS2.out.symm,o1,hbw⟩
      case measure=>simp [intOf];omega
    · by_cases hax:(a:Int)=x
      · have hst:=HST.out
        rw[if_pos (.inr hax)] at hst
        have HS2:=lh hst;clear hst HST
        have e2:((a:Int) == x)=true:=by rw[beq_iff_eq];exact hax
        have HAX:=lh hax;clear hax
        go_wp2_with fail
        go_roundw
        case rel=>exact⟨i+1,a2,U,by omega,hmn,HNX.out,by go_num,HL,HS2.out.symm,o1,hbw⟩
        case measure=>simp [intOf];omega
      · have hst:=HST.out
        rw[if_neg (by rintro (h|h);cases h;exact hax h)] at hst
        have e2:((a:Int) == x)=false:=by rw[beq_eq_false_iff_ne];exact hax
        clear hax HST
        cases ubb
        · rw[if_neg (by decide)] at hst
          have HS2:=lh hst;clear hst
          go_wp2_with fail
          refine wp_region_quiet_below (by kernel_rfl) (by kernel_rfl) ?_
          repeat (go_big_quiet_step (first|fail|fail))
          refine wpQuiet_nil ?_
          intro w5 hw5
          have hb5:=below_of_regrown hw5
          clear hw5
          obtain⟨hc5,hf5⟩:=bcell hb5
          have hz5:=bsize hb5
          try simp only[sizes1] at hz5
          try simp only[sizes] at hc5 hf5
          have o5:=o1.below hb5
          have hbw5:=hbw.trans (hb5.mono hbw.size)
          clear hc5 hf5 hz5 hb5
          go_wp2_with fail
          go_ret3
          exact⟨hbw5,by rw[HS2.out];exact⟨_,_,rfl,o5,HL.out⟩⟩
        · rw[if_pos rfl] at hst
          have HS2:=lh hst;clear hst
          go_wp2_with fail
          go_roundw
          case rel=>exact⟨i+1,a2,U.set a false,by omega,hmn,HNX.out,by go_num,by unfold Hid;rw[List.length_set];exact HL.out,HS2.out.symm,o1.put _ _,hbw.setCell (by dsimp only;omega) _⟩
          case measure=>simp [intOf];omega
  · obtain rfl:i=2*n:=by omega
    have hv:=HV.out
    rw[Nat.sub_self,H0V.out] at hv
    have HV2:=lh hv
    clear hv HV hai
    go_wp2_with fail
    go_ret3
    exact⟨hbw,by rw[←HV2.out];exact⟨_,_,rfl⟩⟩
def clmCells (c:Clm):List Value:=[.int .i64 c.r,.int .i64 c.l,.int .i64 c.s,.int .i64 c.p,.int .i64 c.a]
def ClmRow (w:World) (v:Value) (cs:List Clm):Prop:=RowAt w v cs.length (cs.flatMap clmCells)
theorem flat_at {α:Type} (f:α→List Value) (n:Nat) (hf:∀ x,(f x).length=n):∀ (xs:List α) (k:Nat) (x:α),xs[k]?=some x→∀ j,j<n→(xs.flatMap f)[k*n+j]?=(f x)[j]?
 | [],k,x,h,_,_=>by simp at h
 | y :: xs,0,x,h,j,hj=>by
   simp at h
   subst h
   rw[List.flatMap_cons,Nat.zero_mul,Nat.zero_add,List.getElem?_append_left (by rw[hf];exact hj)]
 | y :: xs,k+1,x,h,j,hj=>by
   simp at h
   rw[List.flatMap_cons,List.getElem?_append_right (by rw[hf,Nat.add_mul];omega),hf,show (k+1)*n+j - n=k*n+j from by rw[Nat.add_mul];omega]
   exact flat_at f n hf xs k x h j hj
def ClmAt (w:World) (b o:Nat) (c:Clm):Prop :=
 w.cell? ⟨b,o,none⟩=some (.int .i64 c.r)∧w.cell? ⟨b,o+1,none⟩=some (.int .i64 c.l)∧w.cell? ⟨b,o+2,none⟩=some (.int .i64 c.s)∧w.cell? ⟨b,o+3,none⟩=some (.int .i64 c.p)∧w.cell? ⟨b,o+4,none⟩=some (.int .i64 c.a)
theorem ClmRow.out {w:World} {v:Value} {cs:List Clm} (h:ClmRow w v cs):∃ (ao:Option Addr) (cap:Nat),v=.slice ao cs.length cap∧cs.length≤cap∧cap≤maxLen ∧
    (cs.length=0∨∃ b off,ao=some ⟨b,off,none⟩∧b<w.heap.size∧∀ (i:Nat) (c:Clm),cs[i]?=some c→ClmAt w b (off+i*5) c):=by
 obtain⟨ao,cap,hv,h1,h2,h3⟩:=h
 refine ⟨ao,cap,hv,h1,h2,?_⟩
 rcases h3 with h3|⟨b,off,ha,hlt,hc⟩
 · left
   cases cs with
   | nil=>rfl
   | cons c cs=>simp [clmCells] at h3
 · refine .inr ⟨b,off,ha,hlt,fun i c hx=>?_⟩
   have hh:=flat_at clmCells 5 (fun _=>rfl) cs i c hx
   refine ⟨?_,?_,?_,?_,?_⟩
   · exact hc _ _ ((hh 0 (by omega)).trans rfl)
   · exact hc _ _ ((hh 1 (by omega)).trans rfl)
   · exact hc _ _ ((hh 2 (by omega)).trans rfl)
   · exact hc _ _ ((hh 3 (by omega)).trans rfl)
   · exact hc _ _ ((hh 4 (by omega)).trans rfl)
end Go.Proofs.YtbnngjhnkegliaaGreat
