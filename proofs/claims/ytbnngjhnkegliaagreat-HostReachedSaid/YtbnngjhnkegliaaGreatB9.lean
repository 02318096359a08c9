/-
  Texts joined: PlLeast HoOk HoFns HrGuest. No law is proved here.
-/
import Derived.Test.YtbnngjhnkegliaaGreatB8
namespace Go.Proofs.YtbnngjhnkegliaaGreat
open Go.RowKit
def Pl.least' (P:Pl) (g p:Nat):Prop:=∀ u:Nat,(u:Int)<P.fr g p→P.F[u]?≠some (P.text g p)
theorem Pl.sok_least {P:Pl} (H:P.Ok) {g p:Nat} (h:P.at g p):P.sok g p=false↔P.least' g p:=by
 unfold Pl.sok Pl.goodS
 rw[Pl.at_has H h,Bool.true_and,Int.toNat_natCast,Int.toNat_natCast]
 by_cases h0:0≤P.fr g p
 · obtain⟨q,hq,hle,hF,hmin⟩:=Pl.least_some H h h0
   rw[decide_eq_true h0,Bool.true_and]
   unfold Pl.sok'
   rw[hq]
   dsimp only
   rw[Bool.not_eq_false',decide_eq_true_eq]
   constructor
   · intro e u hu
     exact hmin u (by omega)
   · intro hl
     rcases Int.lt_or_eq_of_le hle with h1|h1
     · exact absurd hF (hl q h1)
     · exact h1
 · rw[decide_eq_false h0,Bool.false_and]
   exact⟨fun _ u hu=>by omega,fun _=>rfl⟩
theorem Pl.sh_frames {P:Pl} (H:P.Ok) {g p:Nat} (h:P.at g p):(∀ v:Nat,(P.sh g p).F[v]?=P.F[v]?∨(P.sh g p).F[v]?=some ⟨#[]⟩)∧(∀ a b,¬(g=a∧p=b)→(P.sh g p).fr a b=P.fr a b)∧(P.sh g p).least' g p∧(0≤(P.sh g p).fr g p↔0≤P.fr g p):=by
 by_cases hs:P.sok g p=false
 · rw[(Pl.sh_law H h).2 hs]
   exact⟨fun _=>.inl rfl,fun _ _ _=>rfl,(Pl.sok_least H h).1 hs,Iff.rfl⟩
 · have hsame:=(Pl.sh_law H h).1.text g p h
   have hst:P.sok g p=true:=by simpa using hs
   have hst':=hst
   unfold Pl.sok Pl.goodS at hst
   rw[Pl.at_has H h,Bool.true_and,Int.toNat_natCast,Int.toNat_natCast,Bool.and_eq_true,decide_eq_true_eq] at hst
   obtain⟨h0,hk⟩:=hst
   obtain⟨q,hq,hle,hF,hmin⟩:=Pl.least_some H h h0
   unfold Pl.sok' at hk
   rw[hq] at hk
   simp only[Bool.not_eq_true',decide_eq_false_iff_not] at hk
   have e:P.sh g p=P.join g p q:=by
    unfold Pl.sh Pl.goodS
    rw[Pl.at_has H h,Bool.true_and,Int.toNat_natCast,Int.toNat_natCast,decide_eq_true h0,if_pos rfl]
    unfold Pl.sh'
    rw[hq]
    dsimp only
    rw[if_neg hk]
   obtain⟨T,hF'⟩:=Pl.join_put H h (by omega) hF h0
   have G:=H.gave h
   have hgood:=Pl.text_good H h h0
   rw[←e] at T
   have hfr:∀ v:Nat,(P.sh g p).F[v]?=P.F[v]?∨(P.sh g p).F[v]?=some ⟨#[]⟩:=by
    intro v
    rcases Nat.lt_or_ge v P.F.length with hv|hv
    · rw[T.txt v (by rw[G.al.f];exact hv)]
      split
      · rename_i e
        rw[e,hF]
        exact .inl rfl
      · rw[G.txt v hv]
        split
        · exact .inr rfl
        · exact .inl rfl
    · left
      rw[List.getElem?_eq_none hv,List.getElem?_eq_none (by rw[T.al.f,G.al.f];exact hv)]
   refine ⟨hfr,fun a b hab=>?_,?_,?_⟩
   · rw[T.fr,if_neg hab,G.fr,if_neg hab]
   · intro u hu
     rw[T.fr,if_pos ⟨rfl,rfl⟩] at hu
     rw[hsame]
     rcases hfr u with e1|e1
     · rw[e1]
       exact hmin u (by omega)
     · rw[e1]
       intro e2
       injection e2 with e2
       rw[←e2] at hgood
       exact absurd hgood.1 (by decide)
   · rw[T.fr,if_pos ⟨rfl,rfl⟩]
     omega
structure GmOk (g:Gm) (l:List Int):Prop where
 cv:validB g.c=true
 p0:g.c.p=0
 lim:((l.countP hasB:Nat):Int)≤g.c.l
 ls:g.s.length=l.length
 lu:g.u.length=l.length
 le:g.e.length=l.length
 hd:0≤g.h∧g.h<l.length
 us:∀ (k:Nat) (f:Int) (b:Bool),l[k]?=some f→g.u[k]?=some b→f<0→b=false
 sw:∀ (k:Nat) (f:Int) (t:ByteArray),l[k]?=some f→g.s[k]?=some t→t.size=0∨(f<0∧t.size=128∧zeroB t=false)
def sumR (G:List Gm):Int:=(G.map (fun g=>g.c.r)).sum
theorem sumR_take {G:List Gm} {k:Nat} {g:Gm} (h:G[k]?=some g):sumR (G.take (k+1))=sumR (G.take k)+g.c.r:=by
 unfold sumR
 rw[List.take_add_one,h,List.map_append,List.sum_append]
 simp
def lenM (M:List (List Int)):Nat:=(M.map List.length).sum
theorem lenM_take {M:List (List Int)} {k:Nat} {l:List Int} (h:M[k]?=some l):lenM (M.take (k+1))=lenM (M.take k)+l.length:=by
 unfold lenM
 rw[List.take_add_one,h,List.map_append,List.sum_append]
 simp
structure Ho.Ok (H:Ho):Prop where
 p:H.P.Ok
 m:H.G.length=H.P.M.length
 t:0≤H.t∧H.t≤99
 d:0≤H.d∧H.d<18446744073709551616
 g:∀ (i:Nat) (g:Gm) (l:List Int),H.G[i]?=some g→H.P.M[i]?=some l→GmOk g l
 r:sumR H.G≤H.P.F.length
 n:0≤H.n∧H.n<max (lenM H.P.M:Int) 1
def HoAt (w:World) (v:Value) (H:Ho):Prop:=∃ (of or' om og:Option Addr) (kf kr km kg:Nat),v=.agg #[.slice of H.P.F.length kf,.slice or' H.P.R.length kr,.slice om H.P.M.length km,.slice og H.G.length kg,.int .i64 H.t,.int .u64 H.d,.int .i64 H.n] ∧
 H.P.F.length≤kf∧kf≤9223372036854775807∧H.P.R.length≤kr∧kr≤9223372036854775807∧H.P.M.length≤km∧km≤9223372036854775807∧H.G.length≤kg∧kg≤9223372036854775807∧HoRow w (.slice of H.P.F.length kf) (.slice or' H.P.R.length kr) (.slice om H.P.M.length km) (.slice og H.G.length kg) H
theorem HoAt.opened {w:World} {v:Value} {H:Ho} (h:HoAt w v H):∃ (of or' om og:Option Addr) (kf kr km kg n r m q:Nat) (tx dx sx:Int),Hid (H.P.F.length=n)∧Hid (H.P.R.length=r)∧Hid (H.P.M.length=m)∧Hid (H.G.length=q)∧Hid (H.t=tx)∧Hid (H.d=dx)∧Hid (H.n=sx) ∧
    v=.agg #[.slice of n kf,.slice or' r kr,.slice om m km,.slice og q kg,.int .i64 tx,.int .u64 dx,.int .i64 sx]∧n≤kf∧kf≤9223372036854775807∧r≤kr∧kr≤9223372036854775807∧m≤km∧km≤9223372036854775807∧q≤kg∧kg≤9223372036854775807∧HoRow w (.slice of n kf) (.slice or' r kr) (.slice om m km) (.slice og q kg) H:=by
 obtain⟨of,or',om,og,kf,kr,km,kg,e,h⟩:=h
 exact⟨of,or',om,og,kf,kr,km,kg,_,_,_,_,_,_,_,lh rfl,lh rfl,lh rfl,lh rfl,lh rfl,lh rfl,lh rfl,e,h⟩
theorem HoRow.at_ {w:World} {vf vr vm vg:Value} {H:Ho} (h:HoRow w vf vr vm vg H):HoAt w (.agg #[vf,vr,vm,vg,.int .i64 H.t,.int .u64 H.d,.int .i64 H.n]) H:=by
 obtain⟨of,or',om,kf,kr,km,e,f1,f2,r1,r2,m1,m2⟩:=h.p.form
 obtain⟨og,kg,rfl,g1,g2⟩:=h.form
 injection e with e
 injection e with e
 injection e with e1 e
 injection e with e2 e
 injection e with e3
 subst e1 e2 e3
 exact⟨of,or',om,og,kf,kr,km,kg,rfl,f1,f2,r1,r2,m1,m2,g1,g2,h⟩
theorem OwnH.at_ {base:Nat} {w:World} {vf vr vm:Value} {us:List Value} {vg:Value} {gs:List Gv} {H:Ho} (h:OwnH base w vf vr vm us vg gs H):HoAt w (.agg #[vf,vr,vm,vg,.int .i64 H.t,.int .u64 H.d,.int .i64 H.n]) H:=h.row.at_
def RetHoB (k:Value→Value) (H:Ho) (w:World) (e:Ending) (w':World):Prop:=∃ (of or' om og:Option Addr) (kf kr km kg:Nat) (us:List Value) (gs:List Gv),e=.returned (k (.agg #[.slice of H.P.F.length kf,.slice or' H.P.R.length kr,.slice om H.P.M.length km,.slice og H.G.length kg,.int .i64 H.t,.int .u64 H.d,.int .i64 H.n])) ∧
 OwnH w.heap.size w' (.slice of H.P.F.length kf) (.slice or' H.P.R.length kr) (.slice om H.P.M.length km) us (.slice og H.G.length kg) gs H∧Below w.heap.size w w'
theorem hoRet {k:Value→Value} {H H':Ho} {base n r m q:Nat} {w w':World} {of or' om og:Option Addr} {kf kr km kg:Nat} {us:List Value} {gs:List Gv} {t d s:Int} (e:H=H') (h1:H'.P.F.length=n) (h2:H'.P.R.length=r) (h3:H'.P.M.length=m) (h4:H'.G.length=q) (ht:H'.t=t) (hd:H'.d=d) (hs:H'.n=s) (h:OwnH base w' (.slice of n kf) (.slice or' r kr) (.slice om m km) us (.slice og q kg) gs H') (hb:Below w.heap.size w w') (hz:w.heap.size≤base:=by omega) :
    RetHoB k H w (.returned (k (.agg #[.slice of n kf,.slice or' r kr,.slice om m km,.slice og q kg,.int .i64 t,.int .u64 d,.int .i64 s]))) w':=by
 subst e h1 h2 h3 h4 ht hd hs
 exact⟨_,_,_,_,_,_,_,_,_,_,rfl,h.lower hz,hb⟩
theorem Ho.Ok.page {H:Ho} (h:H.Ok) {i:Nat} {g:Gm} (hg:H.G[i]?=some g):∃ l,H.P.M[i]?=some l∧GmOk g l:=by
 obtain⟨l,hl⟩:=get_lt (xs:=H.P.M) (k:=i) (by rw[←h.m];exact lt_of_get hg)
 exact⟨l,hl,h.g i g l hg hl⟩
theorem Ho.Ok.bounds {H:Ho} (h:H.Ok):H.P.F.length≤96∧1≤H.P.F.length∧H.P.R.length≤96∧H.P.M.length≤8∧H.G.length≤8:=by
 have:=h.p.n1
 have:=h.p.n2
 have:=h.p.r
 have:=h.p.m
 have:=h.m
 omega
theorem GmOk.rb {g:Gm} {l:List Int} (h:GmOk g l):1≤g.c.r∧g.c.r≤g.c.l∧g.c.l≤96∧1≤g.c.s∧g.c.s≤1000∧0≤g.c.p∧g.c.p≤96∧0≤g.c.a∧g.c.a≤1000:=(validB_iff g.c).1 h.cv
theorem Ho.Ok.sum {H:Ho} (h:H.Ok):∀ k:Nat,k≤H.G.length→0≤sumR (H.G.take k)∧sumR (H.G.take k)≤96*k
 | 0,_=>by unfold sumR;simp
 | k+1,hk=>by
   obtain⟨g,hg⟩:=get_lt (xs:=H.G) (k:=k) (by omega)
   obtain⟨l,_,hok⟩:=h.page hg
   have:=hok.rb
   have:=h.sum k (by omega)
   rw[sumR_take hg]
   omega
theorem Ho.Ok.len {H:Ho} (h:H.Ok):∀ k:Nat,k≤H.P.M.length→lenM (H.P.M.take k)≤32*k
 | 0,_=>by simp [lenM]
 | k+1,hk=>by
   obtain⟨l,hl⟩:=get_lt (xs:=H.P.M) (k:=k) (by omega)
   have:=(h.p.l l (mem_at hl)).2
   have:=h.len k (by omega)
   rw[lenM_take hl]
   omega
set_option maxHeartbeats 2000000 in
theorem hcharge_any (lo:Option Addr) (lc:Nat) (l:List Int) (w:World) (h:NumRow w (.slice lo l.length lc) l) (hq:l.length≤1000):Calls Tryz.prog 51 #[.slice lo l.length lc] w (Ret w (.int .i64 ((l.countP hasB:Nat):Int))):=by
 obtain⟨q,hl⟩:∃ q,l.length=q:=⟨_,rfl⟩
 rw[hl] at h hq ⊢
 have HQ:=lh hl;clear hl
 have HH:=lh h;clear h
 go_enter Tryz.func51,Tryz.ntmps51
 go_wp2_with fail
 go_loop [3,8] (fun c i=>∃ k:Nat,k≤q∧i=.int .i64 k∧c=.int .i64 ((l.take k).countP hasB:Nat)) (fun _ i=>q - (intOf i).toNat)
 case atStart=>exact⟨0,Nat.zero_le _,rfl,rfl⟩
 case round =>
  obtain⟨k,hk,rfl,rfl⟩:=hrel
  have hcl:=countP_le hasB l k
  by_cases hlt:k<q
  · obtain⟨f,hs⟩:=get_lt (xs:=l) (k:=k) (by rw[HQ.out];exact hlt)
    obtain⟨fb,foff,rfl,hfb,cf⟩:=HH.out.elem hs
    have hsu:=countP_succ (q:=hasB) hs
    obtain⟨c,hc⟩:∃ c,(l.take k).countP hasB=c:=⟨_,rfl⟩
    rw[hc] at hsu hcl ⊢
    unfold hasB at hsu
    by_cases h0:0≤f
    · rw[decide_eq_true h0] at hsu
      have HS:=lh hsu;clear hsu hs hc
      go_wp2_with fail
      go_round
      case rel=>exact⟨k+1,by omega,by go_num,by rw[show (l.take (k+1)).countP hasB=c+1 from HS.out];go_num⟩
      case measure=>simp [intOf];omega
    · rw[decide_eq_false h0] at hsu
      have HS:=lh hsu;clear hsu hs hc
      go_wp2_with fail
      go_round
      case rel=>exact⟨k+1,by omega,by go_num,by rw[show (l.take (k+1)).countP hasB=c from HS.out]⟩
      case measure=>simp [intOf];omega
  · obtain rfl:k=q:=by omega
    have hall:l.take k=l:=by rw[←HQ.out];exact List.take_length
    rw[hall]
    clear hall
    go_wp2_with fail
    go_ret
    exact Ret.mk bel
set_option maxHeartbeats 4000000 in
theorem vguest_ok (g:Gm) (l:List Int) (so uo eo lo:Option Addr) (sc uc ec lc:Nat) (w:World) (hs:StrRow w (.slice so g.s.length sc) g.s) (hu:BoolRow w (.slice uo g.u.length uc) g.u) (hl:NumRow w (.slice lo l.length lc) l) (hok:GmOk g l) (hq:l.length≤32) (hfb:∀ f∈l,-1≤f∧f≤96) :
    Calls Tryz.prog 67 #[.agg #[.int .i64 g.c.r,.int .i64 g.c.l,.int .i64 g.c.s,.int .i64 g.c.p,.int .i64 g.c.a,.slice so g.s.length sc,.slice uo g.u.length uc,.int .i64 g.h,.slice eo g.e.length ec],.slice lo l.length lc] w (Ret w (.bool true)):=by
 obtain⟨⟨r,cl,s,p,a⟩,S,U,hd,E⟩:=g
 obtain⟨o1,o2,o3,o4,o5,o6,⟨o7,o8⟩,o9,o10⟩:=hok
 dsimp only at o1 o2 o3 o4 o5 o6 o7 o8 o9 o10 hs hu ⊢
 subst o2
 have VC:=fun w=>idletax_Valid_is o1 w
 have CH:=fun w h=>hcharge_any lo lc l w h (by omega)
 rw[o4] at hs ⊢
 rw[o5] at hu ⊢
 rw[o6]
 obtain⟨q,hlq⟩:∃ q,l.length=q:=⟨_,rfl⟩
 rw[hlq] at hs hu hl CH o8 hq o4 o5 ⊢
 obtain⟨x,hx⟩:∃ x,l.countP hasB=x:=⟨_,rfl⟩
 have hxq:x≤q:=by rw[←hx,←hlq];exact List.countP_le_length
 rw[hx] at CH o3
 clear o1 o6 hx
 have HVC:=lh VC;clear VC
 have HCH:=lh CH;clear CH
 have HS:=lh hs;clear hs
 have HU:=lh hu;clear hu
 have HL:=lh hl;clear hl
 have H9:=lh o9;clear o9
 have H10:=lh o10;clear o10
 have HF:=lh hfb;clear hfb
 have H4:=lh o4;clear o4
 have H5:=lh o5;clear o5
 have HLQ:=lh hlq;clear hlq
 have D1:=HasBlock.made w #[.int .i64 r,.int .i64 cl,.int .i64 s,.int .i64 0,.int .i64 a,.slice so q sc,.slice uo q uc,.int .i64 hd,.slice eo q ec] 49
 have hbw:Below w.heap.size w (w.alloc (.cells #[.int .i64 r,.int .i64 cl,.int .i64 s,.int .i64 0,.int .i64 a,.slice so q sc,.slice uo q uc,.int .i64 hd,.slice eo q ec] 49)):=(Below.refl _ _).alloc (nlr _) _
 go_enter Tryz.func67,Tryz.ntmps67
 go_wp2_with fail
 have t1:decide ((x:Int)>cl)=false:=decide_eq_false (by omega)
 have t2:decide (cl<(x:Int))=false:=decide_eq_false (by omega)
 refine wp_region_quiet_below (by kernel_rfl) (by kernel_rfl) ?_
 repeat (go_big_quiet_step (first|fail|(go_at_call 42;with_reducible exact quiet_ret (HVC.out _))|(go_at_call 51;with_reducible exact quiet_ret (HCH.out _ (HL.out.below (hbw.trans ((below_regrown _ _ _).mono hbw.size)))) )))
 refine wpQuiet_nil ?_
 intro w2 hw2
 have hb2:=below_of_regrown hw2
 clear hw2
 obtain⟨hc2,hf2⟩:=bcell hb2
 have hz2:=bsize hb2
 try simp only[sizes1] at hz2
 try simp only[sizes] at hc2 hf2
 clear t1 t2 hc2 hf2 hz2
 replace D1:=D1.below hb2
 replace hbw:=hbw.trans (hb2.mono hbw.size)
 clear hb2
 obtain⟨D1_c,D1_f,D1_z⟩:=D1.all
 go_wp2_with fail
 clear D1_c D1_f D1_z
 go_loopw [61] (fun iv wr=>∃ k:Nat,k≤q∧iv=.int .i64 k∧HasBlock wr w.heap.size #[.int .i64 r,.int .i64 cl,.int .i64 s,.int .i64 0,.int .i64 a,.slice so q sc,.slice uo q uc,.int .i64 hd,.slice eo q ec] 49∧Below w.heap.size w wr) (fun iv _=>q - (intOf iv).toNat)
 case atStart=>exact⟨0,by omega,rfl,D1,hbw⟩
 case round =>
  clear D1 hbw
  obtain⟨k,hk,rfl,D1,hbw⟩:=hrel
  by_cases hlt:k<q
  · obtain⟨f,hf⟩:=get_lt (xs:=l) (k:=k) (by rw[HLQ.out];exact hlt)
    obtain⟨t,ht⟩:=get_lt (xs:=S) (k:=k) (by rw[H4.out];exact hlt)
    obtain⟨b,hb⟩:=get_lt (xs:=U) (k:=k) (by rw[H5.out];exact hlt)
    have c1:=H9.out k f b hf hb
    have c2:=H10.out k f t hf ht
    obtain⟨fb,foff,rfl,hfb,cf⟩:=HL.out.elem hf
    obtain⟨sb,soff,rfl,hsb,cs⟩:=HS.out.elem ht
    obtain⟨ub,uoff,rfl,hub,cu⟩:=HU.out.elem hb
    replace cf:=(hbw.cell (p:=⟨fb,foff+k,none⟩) hfb).trans cf
    replace cs:=(hbw.cell (p:=⟨sb,soff+k,none⟩) hsb).trans cs
    replace cu:=(hbw.cell (p:=⟨ub,uoff+k,none⟩) hub).trans cu
    have k0:(0:Int)≤(k:Int):=by omega
    have kq:(k:Int)<(q:Int):=by omega
    have hii:=isEmpty_iff t
    have ZC:=fun w=>hzeros_any t w
    clear hf ht hb
    by_cases h0:t.size=0
    · rw[decide_eq_true h0] at hii
      clear ZC c2 h0
      by_cases hf0:f<0
      · obtain rfl:=c1 hf0
        obtain⟨D1_c,D1_f,D1_z⟩:=D1.all
        go_wp2_with fail
        clear D1_c D1_f D1_z
        go_roundw
        case rel=>exact⟨k+1,by omega,by go_num,D1,hbw⟩
        case measure=>simp [intOf];omega
      · clear c1
        obtain⟨D1_c,D1_f,D1_z⟩:=D1.all
        go_wp2_with fail
        clear D1_c D1_f D1_z
        go_roundw
        case rel=>exact⟨k+1,by omega,by go_num,D1,hbw⟩
        case measure=>simp [intOf];omega
    · obtain⟨d1,d2,d3⟩:=c2.resolve_left h0
      rw[d3] at ZC
      rw[decide_eq_false h0] at hii
      obtain rfl:=c1 d1
      have HZC:=lh ZC;clear ZC d3
      obtain⟨D1_c,D1_f,D1_z⟩:=D1.all
      go_wp2_with fail
      with_reducible refine (HZC.out _).mono ?_
      rintro e w5 ⟨rfl,hbk⟩
      clear D1_c D1_f D1_z
      replace D1:=D1.below hbk
      replace hbw:=hbw.trans (hbk.mono hbw.size)
      clear hbk
      obtain⟨D1_c,D1_f,D1_z⟩:=D1.all
      go_wp2_with fail
      clear D1_c D1_f D1_z
      go_roundw
      case rel=>exact⟨k+1,by omega,by go_num,D1,hbw⟩
      case measure=>simp [intOf];omega
  · obtain rfl:k=q:=by omega
    go_wp2_with fail
    go_ret
    exact Ret.mk hbw
set_option maxRecDepth 100000 in
set_option maxHeartbeats 8000000 in
theorem hvalid_ok (v:Value) (H:Ho) (w:World) (ha:HoAt w v H) (hok:H.Ok):Calls Tryz.prog 32 #[v] w (Ret w (.bool true)):=by
 have VP:=fun v w h=>valid_pl v H.P w h hok.p.fit
 rw[Pl.ok_iff.2 hok.p] at VP
 have HVP:=lh VP;clear VP
 obtain⟨of,or',om,og,kf,kr,km,kg,n,r,m,q,tx,dx,sx,HN,HR,HM,HQ,HT,HD,HS,rfl,kf1,kf2,kr1,kr2,km1,km2,kg1,kg2,h⟩:=HoAt.opened ha
 have hmq:m=q:=by rw[←HM.out,←HQ.out,hok.m]
 have ht:=hok.t
 rw[HT.out] at ht
 obtain⟨ht0,ht9⟩:=ht
 have hbd:=hok.bounds
 rw[HN.out,HM.out] at hbd
 have hsn:=hok.n
 rw[HS.out] at hsn
 have hre:=hok.r
 rw[HN.out] at hre
 obtain⟨sumA,hsa⟩:∃ x,sumR H.G=x:=⟨_,rfl⟩
 obtain⟨lenA,hla⟩:∃ x,lenM H.P.M=x:=⟨_,rfl⟩
 rw[hla] at hsn
 rw[hsa] at hre
 have HSA:=lh hsa;clear hsa
 have HLA:=lh hla;clear hla
 have HOK:=lh hok;clear hok
 have e1:((q:Int) != (m:Int))=false:=by rw[hmq];simp
 have e2:(q != m)=false:=by rw[hmq];simp
 have HMQ:=lh hmq;clear hmq
 have h0:=h
 have D1:=HasBlock.made w #[.slice of n kf,.slice or' r kr,.slice om m km,.slice og q kg,.int .i64 tx,.int .u64 dx,.int .i64 sx] 30
 have hbw:Below w.heap.size w (w.alloc (.cells #[.slice of n kf,.slice or' r kr,.slice om m km,.slice og q kg,.int .i64 tx,.int .u64 dx,.int .i64 sx] 30)):=(Below.refl _ _).alloc (nlr _) _
 replace h:=h.below hbw
 go_enter Tryz.func32,Tryz.ntmps32
 obtain⟨D1_c,D1_f,D1_z⟩:=D1.all
 go_wp2_with fail
 clear D1_c D1_f D1_z
 with_reducible refine (HVP.out _ _ h.p).mono ?_
 rintro e w1 ⟨rfl,hbk⟩
 replace D1:=D1.below hbk
 replace h:=h.below hbk
 replace hbw:=hbw.trans (hbk.mono hbw.size)
 clear hbk
 obtain⟨D1_c,D1_f,D1_z⟩:=D1.all
 go_wp2_with fail
 clear D1_c D1_f D1_z
 clear h
 go_loopw [3,4,34] (fun rv tv iv wr=>∃ i:Nat,i≤q∧rv=.int .i64 (sumR (H.G.take i))∧tv=.int .i64 ((lenM (H.P.M.take i):Nat):Int)∧iv=.int .i64 i∧HasBlock wr w.heap.size #[.slice of n kf,.slice or' r kr,.slice om m km,.slice og q kg,.int .i64 tx,.int .u64 dx,.int .i64 sx] 30∧Below w.heap.size w wr) (fun _ _ iv _=>q - (intOf iv).toNat)
 case atStart=>exact⟨0,by omega,rfl,rfl,rfl,D1,hbw⟩
 case round =>
  clear D1 hbw
  obtain⟨i,hi,rfl,rfl,rfl,D1,hbw⟩:=hrel
  by_cases hlt:i<q
  · obtain⟨g,hg⟩:=get_lt (xs:=H.G) (k:=i) (by rw[HQ.out];exact hlt)
    obtain⟨l,hl,hgo⟩:=HOK.out.page hg
    have hrb:=hgo.rb
    have hll:=HOK.out.p.l l (mem_at hl)
    have hsu:=HOK.out.sum i (by rw[HQ.out];omega)
    have hle:=HOK.out.len i (by rw[HM.out,HMQ.out];omega)
    have hs1:=sumR_take hg
    have hl1:=lenM_take hl
    obtain⟨gb,goff,so,sc,uo,uc,eo,ec,rfl,hgb,s1,s2,u1,u2,e3,e4,cs,hS,hU,hE⟩:=h0.guest hg
    obtain⟨mb,moff,lo,lc,rfl,hmb,cm0,lc1,lc2,hL⟩:=h0.p.guest hl
    have hfb:∀ f∈l,-1≤f∧f≤96:=fun f hf=>by
     have:=HOK.out.p.pg l (mem_at hl) f hf
     have:=HOK.out.p.n2
     omega
    have VG:=fun w hs hu hl=>vguest_ok g l so uo eo lo sc uc ec lc w hs hu hl hgo hll.2 hfb
    replace hS:=hS.below hbw
    replace hU:=hU.below hbw
    replace hL:=hL.below hbw
    obtain⟨⟨r1,cl1,s1',p1,a1⟩,S,U,hd,E⟩:=g
    have e5:=hgo.ls
    have e6:=hgo.lu
    have e7:=hgo.le
    dsimp only at e5 e6 e7 hrb hs1 s1 u1 e3 hS hU hE VG
    have c0:wr.cell? ⟨gb,goff+i*9,none⟩=_:=(hbw.cell (p:=⟨gb,goff+i*9,none⟩) hgb).trans (cs 0 _ rfl)
    have c1:wr.cell? ⟨gb,goff+i*9+1,none⟩=_:=(hbw.cell (p:=⟨gb,goff+i*9+1,none⟩) hgb).trans (cs 1 _ rfl)
    have c2:wr.cell? ⟨gb,goff+i*9+2,none⟩=_:=(hbw.cell (p:=⟨gb,goff+i*9+2,none⟩) hgb).trans (cs 2 _ rfl)
    have c3:wr.cell? ⟨gb,goff+i*9+3,none⟩=_:=(hbw.cell (p:=⟨gb,goff+i*9+3,none⟩) hgb).trans (cs 3 _ rfl)
    have c4:wr.cell? ⟨gb,goff+i*9+4,none⟩=_:=(hbw.cell (p:=⟨gb,goff+i*9+4,none⟩) hgb).trans (cs 4 _ rfl)
    have c5:wr.cell? ⟨gb,goff+i*9+5,none⟩=_:=(hbw.cell (p:=⟨gb,goff+i*9+5,none⟩) hgb).trans (cs 5 _ rfl)
    have c6:wr.cell? ⟨gb,goff+i*9+6,none⟩=_:=(hbw.cell (p:=⟨gb,goff+i*9+6,none⟩) hgb).trans (cs 6 _ rfl)
    have c7:wr.cell? ⟨gb,goff+i*9+7,none⟩=_:=(hbw.cell (p:=⟨gb,goff+i*9+7,none⟩) hgb).trans (cs 7 _ rfl)
    have c8:wr.cell? ⟨gb,goff+i*9+8,none⟩=_:=(hbw.cell (p:=⟨gb,goff+i*9+8,none⟩) hgb).trans (cs 8 _ rfl)
    clear cs hE
    obtain⟨ql,hql⟩:∃ x,l.length=x:=⟨_,rfl⟩
    rw[hql] at hll hl1 cm0 lc1 hL VG e5 e6 e7
    rw[e5] at c5 hS VG
    rw[e6] at c6 hU VG
    rw[e7] at c8 VG
    have HVG:=lh VG;clear VG
    obtain⟨sA,hsA⟩:∃ x,sumR (H.G.take i)=x:=⟨_,rfl⟩
    obtain⟨sL,hsL⟩:∃ x,lenM (H.P.M.take i)=x:=⟨_,rfl⟩
    rw[hsA] at hsu hs1 ⊢
    rw[hsL] at hle hl1 ⊢
    have HS1:=lh hs1;clear hs1 hsA
    have HL1:=lh hl1;clear hl1 hsL hql
    clear hg hl hgo hfb e5 e6 e7 s1 u1 e3
    have i0:(0:Int)≤(i:Int):=by omega
    have im:(i:Int)<(m:Int):=by have:=HMQ.out;omega
    have iq:(i:Int)<(q:Int):=by omega
    have cm:=(hbw.cell (p:=⟨mb,moff+i,none⟩) hmb).trans cm0
    obtain⟨D1_c,D1_f,D1_z⟩:=D1.all
    go_wp2_with fail
    clear D1_c D1_f D1_z
    clear c0 c1 c2 c3 c4 c5 c6 c7 c8
    clear cm
    have hbx:Below wr.heap.size wr (wr.alloc (.cells #[.int .i64 r1,.int .i64 cl1,.int .i64 s1',.int .i64 p1,.int .i64 a1,.slice so ql sc,.slice uo ql uc,.int .i64 hd,.slice eo ql ec] 49)):=(Below.refl _ _).alloc (nlr _) _
    have hwD2:=hbw.size
    have lD1:=D1.lt
    replace D1:=D1.below hbx
    replace hS:=hS.below hbx
    replace hU:=hU.below hbx
    replace hL:=hL.below hbx
    have D2:=HasBlock.made wr #[.int .i64 r1,.int .i64 cl1,.int .i64 s1',.int .i64 p1,.int .i64 a1,.slice so ql sc,.slice uo ql uc,.int .i64 hd,.slice eo ql ec] 49
    replace hbw:=hbw.trans (hbx.mono hbw.size)
    clear hbx
    obtain⟨B2,hB⟩:∃ B,wr.heap.size=B:=⟨_,rfl⟩
    rw[hB] at D2 hwD2 ⊢
    rw[hB] at lD1
    generalize hW:wr.alloc (.cells #[.int .i64 r1,.int .i64 cl1,.int .i64 s1',.int .i64 p1,.int .i64 a1,.slice so ql sc,.slice uo ql uc,.int .i64 hd,.slice eo ql ec] 49)=w5 at D1 D2 hS hU hL hbw ⊢
    clear hW hB
    have HS':=lh hS;clear hS
    have HU':=lh hU;clear hU
    have HL':=lh hL;clear hL
    have cm:=(hbw.cell (p:=⟨mb,moff+i,none⟩) hmb).trans cm0
    have hmb2:mb<w5.heap.size:=by have:=hbw.size;omega
    obtain⟨D1_c,D1_f,D1_z⟩:=D1.all
    obtain⟨D2_c,D2_f,D2_z⟩:=D2.all
    refine wp_region_quiet_below (by kernel_rfl) (by kernel_rfl) ?_
    repeat (go_big_quiet_step (first|fail|(go_at_call 67;with_reducible exact quiet_ret (HVG.out _ (HS'.out.below (below_regrown _ _ _)) (HU'.out.below (below_regrown _ _ _)) (HL'.out.below (below_regrown _ _ _))))))
    refine wpQuiet_nil ?_
    intro w6 hw6
    have hb6:=below_of_regrown hw6
    clear hw6
    obtain⟨hc6,hf6⟩:=bcell hb6
    have hz6:=bsize hb6
    try simp only[sizes1] at hz6
    try simp only[sizes] at hc6 hf6
    clear hc6 hf6 hz6 cm hmb2
    clear D1_c D1_f D1_z
    clear D2_c D2_f D2_z
    replace D1:=D1.below hb6
    replace D2:=D2.below hb6
    replace hbw:=hbw.trans (hb6.mono hbw.size)
    clear hb6
    have cm:=(hbw.cell (p:=⟨mb,moff+i,none⟩) hmb).trans cm0
    obtain⟨D1_c,D1_f,D1_z⟩:=D1.all
    obtain⟨D2_c,D2_f,D2_z⟩:=D2.all
    go_wp2_with fail
    clear D1_c D1_f D1_z
    clear D2_c D2_f D2_z
    go_roundw
    case rel=>exact⟨i+1,by omega,by rw[HS1.out] <;> go_num,by rw[HL1.out] <;> go_num,by go_num,D1,hbw⟩
    case measure=>simp [intOf];omega
  · obtain rfl:i=q:=by omega
    have hallG:H.G.take i=H.G:=by rw[←HQ.out];exact List.take_length
    have hallM:H.P.M.take i=H.P.M:=by rw[←HMQ.out,←HM.out];exact List.take_length
    rw[hallG,hallM,HSA.out,HLA.out]
    clear hallG hallM
    have t1:decide (sumA≤(n:Int))=true:=decide_eq_true hre
    obtain⟨D1_c,D1_f,D1_z⟩:=D1.all
    go_wp2_with fail
    go_ret
    exact Ret.mk hbw
theorem no_of {b:Bool} {p:Prop} (hb:b=true↔p) (h:¬p):b=false:=by
 cases b
 · rfl
 · exact absurd (hb.1 rfl) h
theorem yes_of {b:Bool} {p:Prop} (hb:b=true↔p) (h:p):b=true:=hb.2 h
theorem bool_of (p:Prop):∃ b:Bool,b=true↔p:=by
 by_cases h:p
 · exact⟨true,Iff.intro (fun _=>h) (fun _=>rfl)⟩
 · exact⟨false,Iff.intro (fun e=>by cases e) (fun e=>absurd e h)⟩
theorem int_ne {a b:Int} (h:a≠b):(a != b)=true:=by simp [h]
theorem int_eq {a b:Int} (h:a=b):(a != b)=false:=by simp [h]
def PgTo (S:List ByteArray) (U:List Bool) (l:List Int) (k:Nat):Prop:=∀ (j:Nat) (f:Int),j<k→l[j]?=some f→(∀ b:Bool,U[j]?=some b→f<0→b=false)∧∀ t:ByteArray,S[j]?=some t→t.size=0∨(f<0∧t.size=128∧zeroB t=false)
set_option maxHeartbeats 8000000 in
theorem vguest_any (g:Gm) (l:List Int) (bv:Bool) (so uo eo lo:Option Addr) (sc uc ec lc:Nat) (w:World) (hs:StrRow w (.slice so g.s.length sc) g.s) (hu:BoolRow w (.slice uo g.u.length uc) g.u) (hl:NumRow w (.slice lo l.length lc) l) (hb:bv=true↔GmOk g l) (hq:l.length≤1000) (hqs:g.s.length≤1000∧g.u.length≤1000∧g.e.length≤1000) :
    Calls Tryz.prog 67 #[.agg #[.int .i64 g.c.r,.int .i64 g.c.l,.int .i64 g.c.s,.int .i64 g.c.p,.int .i64 g.c.a,.slice so g.s.length sc,.slice uo g.u.length uc,.int .i64 g.h,.slice eo g.e.length ec],.slice lo l.length lc] w (Ret w (.bool bv)):=by
 obtain⟨⟨r,cl,ss,pp,aa⟩,S,U,hd,E⟩:=g
 dsimp only at hs hu hqs ⊢
 have VC:=fun w=>idletax_Valid_any r cl ss pp aa w
 have CH:=fun w h=>hcharge_any lo lc l w h (by omega)
 obtain⟨vb,hvb⟩:∃ b,validB ⟨r,cl,ss,pp,aa⟩=b:=⟨_,rfl⟩
 rw[hvb] at VC
 obtain⟨q,hlq⟩:∃ q,l.length=q:=⟨_,rfl⟩
 obtain⟨sl,hsl⟩:∃ q,S.length=q:=⟨_,rfl⟩
 obtain⟨ul,hul⟩:∃ q,U.length=q:=⟨_,rfl⟩
 obtain⟨el,hel⟩:∃ q,E.length=q:=⟨_,rfl⟩
 rw[hlq] at hl CH hq ⊢
 rw[hsl] at hs hqs ⊢
 rw[hul] at hu hqs ⊢
 rw[hel] at hqs ⊢
 obtain⟨x,hx⟩:∃ x,l.countP hasB=x:=⟨_,rfl⟩
 have hxq:x≤q:=by rw[←hx,←hlq];exact List.countP_le_length
 rw[hx] at CH
 have HX:=lh hx;clear hx
 have HVC:=lh VC;clear VC
 have HCH:=lh CH;clear CH
 have HS:=lh hs;clear hs
 have HU:=lh hu;clear hu
 have HL:=lh hl;clear hl
 have HSL:=lh hsl;clear hsl
 have HUL:=lh hul;clear hul
 have HEL:=lh hel;clear hel
 have HLQ:=lh hlq;clear hlq
 have HVB:=lh hvb;clear hvb
 obtain⟨q1,q2,q3⟩:=hqs
 have D1:=HasBlock.made w #[.int .i64 r,.int .i64 cl,.int .i64 ss,.int .i64 pp,.int .i64 aa,.slice so sl sc,.slice uo ul uc,.int .i64 hd,.slice eo el ec] 49
 have hbw:Below w.heap.size w (w.alloc (.cells #[.int .i64 r,.int .i64 cl,.int .i64 ss,.int .i64 pp,.int .i64 aa,.slice so sl sc,.slice uo ul uc,.int .i64 hd,.slice eo el ec] 49)):=(Below.refl _ _).alloc (nlr _) _
 cases vb
 · obtain rfl:bv=false:=no_of hb (fun h=>(by have:=h.cv;rw[HVB.out] at this;cases this))
   clear hb
   go_enter Tryz.func67,Tryz.ntmps67
   go_wp2_with fail
   refine wp_region_quiet_below (by kernel_rfl) (by kernel_rfl) ?_
   repeat (go_big_quiet_step (first|fail|(go_at_call 42;with_reducible exact quiet_ret (HVC.out _))|(go_at_call 51;with_reducible exact quiet_ret (HCH.out _ (HL.out.below (hbw.trans ((below_regrown _ _ _).mono hbw.size)))) )))
   refine wpQuiet_nil ?_
   intro w2 hw2
   have hb2:=below_of_regrown hw2
   clear hw2
   obtain⟨hc2,hf2⟩:=bcell hb2
   have hz2:=bsize hb2
   try simp only[sizes1] at hz2
   try simp only[sizes] at hc2 hf2
   clear hc2 hf2 hz2
   replace D1:=D1.below hb2
   replace hbw:=hbw.trans (hb2.mono hbw.size)
   clear hb2
   obtain⟨D1_c,D1_f,D1_z⟩:=D1.all
   go_wp2_with fail
   clear D1_c D1_f D1_z
   go_ret
   exact Ret.mk hbw
 by_cases h2:pp=0
 case neg =>
  have t0:=int_ne h2
  obtain rfl:bv=false:=no_of hb (fun h=>h2 h.p0)
  clear hb
  go_enter Tryz.func67,Tryz.ntmps67
  go_wp2_with fail
  refine wp_region_quiet_below (by kernel_rfl) (by kernel_rfl) ?_
  repeat (go_big_quiet_step (first|fail|(go_at_call 42;with_reducible exact quiet_ret (HVC.out _))|(go_at_call 51;with_reducible exact quiet_ret (HCH.out _ (HL.out.below (hbw.trans ((below_regrown _ _ _).mono hbw.size)))) )))
  refine wpQuiet_nil ?_
  intro w2 hw2
  have hb2:=below_of_regrown hw2
  clear hw2
  obtain⟨hc2,hf2⟩:=bcell hb2
  have hz2:=bsize hb2
  try simp only[sizes1] at hz2
  try simp only[sizes] at hc2 hf2
  clear hc2 hf2 hz2
  replace D1:=D1.below hb2
  replace hbw:=hbw.trans (hb2.mono hbw.size)
  clear hb2
  obtain⟨D1_c,D1_f,D1_z⟩:=D1.all
  go_wp2_with fail
  clear D1_c D1_f D1_z
  go_ret
  exact Ret.mk hbw
 subst h2
 by_cases h3:(x:Int)≤cl
 case neg =>
  have t1:decide ((x:Int)>cl)=true:=decide_eq_true (by omega)
  have t2:decide (cl<(x:Int))=true:=decide_eq_true (by omega)
  obtain rfl:bv=false:=no_of hb (fun h=>(by have:=h.lim;rw[HX.out] at this;exact h3 this))
  clear hb
  go_enter Tryz.func67,Tryz.ntmps67
  go_wp2_with fail
  refine wp_region_quiet_below (by kernel_rfl) (by kernel_rfl) ?_
  repeat (go_big_quiet_step (first|fail|(go_at_call 42;with_reducible exact quiet_ret (HVC.out _))|(go_at_call 51;with_reducible exact quiet_ret (HCH.out _ (HL.out.below (hbw.trans ((below_regrown _ _ _).mono hbw.size)))) )))
  refine wpQuiet_nil ?_
  intro w2 hw2
  have hb2:=below_of_regrown hw2
  clear hw2
  obtain⟨hc2,hf2⟩:=bcell hb2
  have hz2:=bsize hb2
  try simp only[sizes1] at hz2
  try simp only[sizes] at hc2 hf2
  clear hc2 hf2 hz2
  replace D1:=D1.below hb2
  replace hbw:=hbw.trans (hb2.mono hbw.size)
  clear hb2
  obtain⟨D1_c,D1_f,D1_z⟩:=D1.all
  go_wp2_with fail
  clear D1_c D1_f D1_z
  go_ret
  exact Ret.mk hbw
 have t1:decide ((x:Int)>cl)=false:=decide_eq_false (by omega)
 have t2:decide (cl<(x:Int))=false:=decide_eq_false (by omega)
 by_cases h4:sl=q
 case neg =>
  have t3:((sl:Int) != (q:Int))=true:=int_ne (by omega)
  obtain rfl:bv=false:=no_of hb (fun h=>(by have:=h.ls;rw[HSL.out,HLQ.out] at this;exact h4 this))
  clear hb
  go_enter Tryz.func67,Tryz.ntmps67
  go_wp2_with fail
  refine wp_region_quiet_below (by kernel_rfl) (by kernel_rfl) ?_
  repeat (go_big_quiet_step (first|fail|(go_at_call 42;with_reducible exact quiet_ret (HVC.out _))|(go_at_call 51;with_reducible exact quiet_ret (HCH.out _ (HL.out.below (hbw.trans ((below_regrown _ _ _).mono hbw.size)))) )))
  refine wpQuiet_nil ?_
  intro w2 hw2
  have hb2:=below_of_regrown hw2
  clear hw2
  obtain⟨hc2,hf2⟩:=bcell hb2
  have hz2:=bsize hb2
  try simp only[sizes1] at hz2
  try simp only[sizes] at hc2 hf2
  clear hc2 hf2 hz2
  replace D1:=D1.below hb2
  replace hbw:=hbw.trans (hb2.mono hbw.size)
  clear hb2
  obtain⟨D1_c,D1_f,D1_z⟩:=D1.all
  go_wp2_with fail
  clear D1_c D1_f D1_z
  go_ret
  exact Ret.mk hbw
 obtain rfl:=h4.symm
 have t3:((q:Int) != (q:Int))=false:=int_eq rfl
 by_cases h5:ul=q
 case neg =>
  have t4:((ul:Int) != (q:Int))=true:=int_ne (by omega)
  obtain rfl:bv=false:=no_of hb (fun h=>(by have:=h.lu;rw[HUL.out,HLQ.out] at this;exact h5 this))
  clear hb
  go_enter Tryz.func67,Tryz.ntmps67
  go_wp2_with fail
  refine wp_region_quiet_below (by kernel_rfl) (by kernel_rfl) ?_
  repeat (go_big_quiet_step (first|fail|(go_at_call 42;with_reducible exact quiet_ret (HVC.out _))|(go_at_call 51;with_reducible exact quiet_ret (HCH.out _ (HL.out.below (hbw.trans ((below_regrown _ _ _).mono hbw.size)))) )))
  refine wpQuiet_nil ?_
  intro w2 hw2
  have hb2:=below_of_regrown hw2
  clear hw2
  obtain⟨hc2,hf2⟩:=bcell hb2
  have hz2:=bsize hb2
  try simp only[sizes1] at hz2
  try simp only[sizes] at hc2 hf2
  clear hc2 hf2 hz2
  replace D1:=D1.below hb2
  replace hbw:=hbw.trans (hb2.mono hbw.size)
  clear hb2
  obtain⟨D1_c,D1_f,D1_z⟩:=D1.all
  go_wp2_with fail
  clear D1_c D1_f D1_z
  go_ret
  exact Ret.mk hbw
 obtain rfl:=h5.symm
 by_cases h6:el=q
 case neg =>
  have t4:((el:Int) != (q:Int))=true:=int_ne (by omega)
  obtain rfl:bv=false:=no_of hb (fun h=>(by have:=h.le;rw[HEL.out,HLQ.out] at this;exact h6 this))
  clear hb
  go_enter Tryz.func67,Tryz.ntmps67
  go_wp2_with fail
  refine wp_region_quiet_below (by kernel_rfl) (by kernel_rfl) ?_
  repeat (go_big_quiet_step (first|fail|(go_at_call 42;with_reducible exact quiet_ret (HVC.out _))|(go_at_call 51;with_reducible exact quiet_ret (HCH.out _ (HL.out.below (hbw.trans ((below_regrown _ _ _).mono hbw.size)))) )))
  refine wpQuiet_nil ?_
  intro w2 hw2
  have hb2:=below_of_regrown hw2
  clear hw2
  obtain⟨hc2,hf2⟩:=bcell hb2
  have hz2:=bsize hb2
  try simp only[sizes1] at hz2
  try simp only[sizes] at hc2 hf2
  clear hc2 hf2 hz2
  replace D1:=D1.below hb2
  replace hbw:=hbw.trans (hb2.mono hbw.size)
  clear hb2
  obtain⟨D1_c,D1_f,D1_z⟩:=D1.all
  go_wp2_with fail
  clear D1_c D1_f D1_z
  go_ret
  exact Ret.mk hbw
 obtain rfl:=h6.symm
 by_cases h7:0≤hd
 case neg =>
  have t4:decide (hd<0)=true:=decide_eq_true (by omega)
  obtain rfl:bv=false:=no_of hb (fun h=>h7 h.hd.1)
  clear hb
  go_enter Tryz.func67,Tryz.ntmps67
  go_wp2_with fail
  refine wp_region_quiet_below (by kernel_rfl) (by kernel_rfl) ?_
  repeat (go_big_quiet_step (first|fail|(go_at_call 42;with_reducible exact quiet_ret (HVC.out _))|(go_at_call 51;with_reducible exact quiet_ret (HCH.out _ (HL.out.below (hbw.trans ((below_regrown _ _ _).mono hbw.size)))) )))
  refine wpQuiet_nil ?_
  intro w2 hw2
  have hb2:=below_of_regrown hw2
  clear hw2
  obtain⟨hc2,hf2⟩:=bcell hb2
  have hz2:=bsize hb2
  try simp only[sizes1] at hz2
  try simp only[sizes] at hc2 hf2
  clear hc2 hf2 hz2
  replace D1:=D1.below hb2
  replace hbw:=hbw.trans (hb2.mono hbw.size)
  clear hb2
  obtain⟨D1_c,D1_f,D1_z⟩:=D1.all
  go_wp2_with fail
  clear D1_c D1_f D1_z
  go_ret
  exact Ret.mk hbw
 have t4:decide (hd<0)=false:=decide_eq_false (by omega)
 by_cases h8:hd<q
 case neg =>
  have t5:decide (hd ≥ (q:Int))=true:=decide_eq_true (by omega)
  have t6:decide ((q:Int)≤hd)=true:=decide_eq_true (by omega)
  obtain rfl:bv=false:=no_of hb (fun h=>(by have:=h.hd.2;rw[HLQ.out] at this;exact h8 this))
  clear hb
  go_enter Tryz.func67,Tryz.ntmps67
  go_wp2_with fail
  refine wp_region_quiet_below (by kernel_rfl) (by kernel_rfl) ?_
  repeat (go_big_quiet_step (first|fail|(go_at_call 42;with_reducible exact quiet_ret (HVC.out _))|(go_at_call 51;with_reducible exact quiet_ret (HCH.out _ (HL.out.below (hbw.trans ((below_regrown _ _ _).mono hbw.size)))) )))
  refine wpQuiet_nil ?_
  intro w2 hw2
  have hb2:=below_of_regrown hw2
  clear hw2
  obtain⟨hc2,hf2⟩:=bcell hb2
  have hz2:=bsize hb2
  try simp only[sizes1] at hz2
  try simp only[sizes] at hc2 hf2
  clear hc2 hf2 hz2
  replace D1:=D1.below hb2
  replace hbw:=hbw.trans (hb2.mono hbw.size)
  clear hb2
  obtain⟨D1_c,D1_f,D1_z⟩:=D1.all
  go_wp2_with fail
  clear D1_c D1_f D1_z
  go_ret
  exact Ret.mk hbw
 have t5:decide (hd ≥ (q:Int))=false:=decide_eq_false (by omega)
 have t6:decide ((q:Int)≤hd)=false:=decide_eq_false (by omega)
 have HBV:Hid (bv=true↔PgTo S U l q):=lh (hb.trans ⟨fun h j f _ hf=>⟨fun b hb h0=>h.us j f b hf hb h0,fun t ht=>h.sw j f t hf ht⟩,fun h=>⟨HVB.out,rfl,by rw[HX.out];exact h3,by rw[HLQ.out];exact HSL.out,by rw[HLQ.out];exact HUL.out,by rw[HLQ.out];exact HEL.out,⟨h7,by rw[HLQ.out];exact h8⟩,fun k f b hf hb h0=>(h k f (by rw[←HLQ.out];exact lt_of_get hf) hf).1 b hb h0,fun k f t hf ht=>(h k f (by rw[←HLQ.out];exact lt_of_get hf) hf).2 t ht⟩⟩)
 clear hb h3 HX HVB HEL
 go_enter Tryz.func67,Tryz.ntmps67
 go_wp2_with fail
 refine wp_region_quiet_below (by kernel_rfl) (by kernel_rfl) ?_
 repeat (go_big_quiet_step (first|fail|(go_at_call 42;with_reducible exact quiet_ret (HVC.out _))|(go_at_call 51;with_reducible exact quiet_ret (HCH.out _ (HL.out.below (hbw.trans ((below_regrown _ _ _).mono hbw.size)))) )))
 refine wpQuiet_nil ?_
 intro w2 hw2
 have hb2:=below_of_regrown hw2
 clear hw2
 obtain⟨hc2,hf2⟩:=bcell hb2
 have hz2:=bsize hb2
 try simp only[sizes1] at hz2
 try simp only[sizes] at hc2 hf2
 clear hc2 hf2 hz2
 replace D1:=D1.below hb2
 replace hbw:=hbw.trans (hb2.mono hbw.size)
 clear hb2
 obtain⟨D1_c,D1_f,D1_z⟩:=D1.all
 go_wp2_with fail
 clear D1_c D1_f D1_z
 clear t1 t2 t3 t4 t5 t6 HVC HCH
 go_loopw [61] (fun iv wr=>∃ k:Nat,k≤q∧iv=.int .i64 k∧Hid (PgTo S U l k)∧HasBlock wr w.heap.size #[.int .i64 r,.int .i64 cl,.int .i64 ss,.int .i64 0,.int .i64 aa,.slice so q sc,.slice uo q uc,.int .i64 hd,.slice eo q ec] 49∧Below w.heap.size w wr) (fun iv _=>q - (intOf iv).toNat)
 case atStart=>exact⟨0,by omega,rfl,lh (fun j f hj=>absurd hj (Nat.not_lt_zero _)),D1,hbw⟩
 case round =>
  clear D1 hbw
  obtain⟨k,hk,rfl,HPG,D1,hbw⟩:=hrel
  by_cases hlt:k<q
  · obtain⟨f,hf⟩:=get_lt (xs:=l) (k:=k) (by rw[HLQ.out];exact hlt)
    obtain⟨t,ht⟩:=get_lt (xs:=S) (k:=k) (by rw[HSL.out];exact hlt)
    obtain⟨b,hb⟩:=get_lt (xs:=U) (k:=k) (by rw[HUL.out];exact hlt)
    have HNX:Hid ((f<0→b=false)→(t.size=0∨(f<0∧t.size=128∧zeroB t=false))→PgTo S U l (k+1)):=lh (fun h1 h2 j f' hj hf'=>by
     by_cases e:j=k
     · subst e
       rw[hf] at hf'
       injection hf' with hf'
       subst hf'
       refine ⟨fun b' hb'=>?_,fun t' ht'=>?_⟩
       · rw[hb] at hb'
         injection hb' with hb'
         subst hb'
         exact h1
       · rw[ht] at ht'
         injection ht' with ht'
         subst ht'
         exact h2
     · exact HPG.out j f' (by omega) hf')
    have HNO1:Hid ((f<0∧b=true)→bv=false):=lh (fun h=>no_of HBV.out (fun hp=>by
     have:=(hp k f hlt hf).1 b hb h.1
     rw[h.2] at this
     cases this))
    have HNO2:Hid (¬(t.size=0∨(f<0∧t.size=128∧zeroB t=false))→bv=false):=lh (fun h=>no_of HBV.out (fun hp=>h ((hp k f hlt hf).2 t ht)))
    obtain⟨fb,foff,rfl,hfb,cf⟩:=HL.out.elem hf
    obtain⟨sb,soff,rfl,hsb,cs⟩:=HS.out.elem ht
    obtain⟨ub,uoff,rfl,hub,cu⟩:=HU.out.elem hb
    replace cf:=(hbw.cell (p:=⟨fb,foff+k,none⟩) hfb).trans cf
    replace cs:=(hbw.cell (p:=⟨sb,soff+k,none⟩) hsb).trans cs
    replace cu:=(hbw.cell (p:=⟨ub,uoff+k,none⟩) hub).trans cu
    have k0:(0:Int)≤(k:Int):=by omega
    have kq:(k:Int)<(q:Int):=by omega
    have hii:=isEmpty_iff t
    have ZC:=fun w=>hzeros_any t w
    obtain⟨zb,hzb⟩:∃ b,zeroB t=b:=⟨_,rfl⟩
    rw[hzb] at ZC HNX HNO2
    have HZC:=lh ZC;clear ZC hzb
    clear hf ht hb HPG
    by_cases h1:f<0∧b=true
    · obtain rfl:=HNO1.out h1
      obtain⟨h1,rfl⟩:=h1
      obtain⟨D1_c,D1_f,D1_z⟩:=D1.all
      go_wp2_with fail
      go_ret
      exact Ret.mk hbw
    have h1':f<0→b=false:=fun h=>by
     cases b
     · rfl
     · exact absurd ⟨h,rfl⟩ h1
    clear h1 HNO1
    by_cases h0:t.size=0
    · rw[decide_eq_true h0] at hii
      have HN:=lh (HNX.out h1' (.inl h0))
      clear HNX HNO2 h0 HZC
      by_cases hf0:f<0
      · obtain rfl:=h1' hf0
        obtain⟨D1_c,D1_f,D1_z⟩:=D1.all
        go_wp2_with fail
        clear D1_c D1_f D1_z
        go_roundw
        case rel=>exact⟨k+1,by omega,by go_num,HN,D1,hbw⟩
        case measure=>simp [intOf];omega
      · clear h1'
        obtain⟨D1_c,D1_f,D1_z⟩:=D1.all
        go_wp2_with fail
        clear D1_c D1_f D1_z
        go_roundw
        case rel=>exact⟨k+1,by omega,by go_num,HN,D1,hbw⟩
        case measure=>simp [intOf];omega
    · rw[decide_eq_false h0] at hii
      by_cases hf0:f<0
      · obtain rfl:=h1' hf0
        by_cases h128:t.size=128
        · cases zb
          · have HN:=lh (HNX.out h1' (.inr ⟨hf0,h128,rfl⟩))
            clear HNX HNO2 h0 h1'
            obtain⟨D1_c,D1_f,D1_z⟩:=D1.all
            go_wp2_with fail
            with_reducible refine (HZC.out _).mono ?_
            rintro e w5 ⟨rfl,hbk⟩
            clear D1_c D1_f D1_z
            replace D1:=D1.below hbk
            replace hbw:=hbw.trans (hbk.mono hbw.size)
            clear hbk
            obtain⟨D1_c,D1_f,D1_z⟩:=D1.all
            go_wp2_with fail
            clear D1_c D1_f D1_z
            go_roundw
            case rel=>exact⟨k+1,by omega,by go_num,HN,D1,hbw⟩
            case measure=>simp [intOf];omega
          · obtain rfl:=HNO2.out (by rintro (h|⟨_,_,h⟩) <;> first|exact h0 h|cases h)
            clear HNX HNO2 h0 h1'
            obtain⟨D1_c,D1_f,D1_z⟩:=D1.all
            go_wp2_with fail
            with_reducible refine (HZC.out _).mono ?_
            rintro e w5 ⟨rfl,hbk⟩
            clear D1_c D1_f D1_z
            replace D1:=D1.below hbk
            replace hbw:=hbw.trans (hbk.mono hbw.size)
            clear hbk
            obtain⟨D1_c,D1_f,D1_z⟩:=D1.all
            go_wp2_with fail
            go_ret
            exact Ret.mk hbw
        · obtain rfl:=HNO2.out (by rintro (h|⟨_,h,_⟩) <;> first|exact h0 h|exact h128 h)
          clear HNX HNO2 h0 h1'
          obtain⟨D1_c,D1_f,D1_z⟩:=D1.all
          go_wp2_with fail
          go_ret
          exact Ret.mk hbw
      · obtain rfl:=HNO2.out (by rintro (h|⟨h,_,_⟩) <;> first|exact h0 h|exact hf0 h)
        clear HNX HNO2 h0 h1'
        obtain⟨D1_c,D1_f,D1_z⟩:=D1.all
        go_wp2_with fail
        go_ret
        exact Ret.mk hbw
  · obtain rfl:k=q:=by omega
    obtain rfl:=yes_of HBV.out HPG.out
    go_wp2_with fail
    go_ret
    exact Ret.mk hbw
end Go.Proofs.YtbnngjhnkegliaaGreat
