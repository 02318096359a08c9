/-
  Texts joined: HoMade HoPAwake. No law is proved here.
-/
import Derived.Test.YtbnngjhnkegliaaGreatB33
namespace Go.Proofs.YtbnngjhnkegliaaGreat
open Go.RowKit
set_option maxRecDepth 100000 in
set_option maxHeartbeats 8000000 in
theorem made_any (n:Nat) (t:Int) (va:Value) (ls:List Int) (w:World) (h1:6≤n) (h2:n≤96) (ht:0≤t∧t≤99) (ha:NumRow w va ls):Calls Tryz.prog 11 #[.int .i64 n,.int .i64 t,va] w (RetHoB (fun v=>.tuple #[v,.bool true]) (madeH n t ls 3) w):=by
 have hfr:=fun k hk=>madeH_fresh (ls:=ls) h1 h2 ht k hk
 have C1:=fun w=>hnew_ok n t 5 w (by omega) h2 ht
 have hm0:newHo n t 5=madeH n t ls 0:=rfl
 rw[hm0] at C1
 clear hm0
 have AC:∀ (i:Nat),i<3→∀ v w,HoAt w v (madeH n t ls i)→Calls Tryz.prog 16 #[v,.agg #[.int .i64 (claimI (atI ls i)).r,.int .i64 (claimI (atI ls i)).l,.int .i64 (claimI (atI ls i)).s,.int .i64 (claimI (atI ls i)).p,.int .i64 (claimI (atI ls i)).a],.int .i64 6] w (RetHoB (fun v=>.tuple #[v,.int .i64 0]) (madeH n t ls (i+1)) w):=fun i hi v w h=>by
  have F:=hfr i (by omega)
  have hg:=F.good h1 hi (atI ls i)
  have hc:=(claimI_ok (atI ls i)).2.1
  have hstep:madeH n t ls (i+1)=(madeH n t ls i).addG (claimI (atI ls i)) 6:=rfl
  rw[hstep]
  obtain⟨c,hce⟩:∃ c,claimI (atI ls i)=c:=⟨_,rfl⟩
  rw[hce] at hg hc ⊢
  have A:=hadd_ok v (madeH n t ls i) c.r c.l c.s c.p c.a 6 w h F.ok (by rw[hc];omega)
  have hto:(madeH n t ls i).addTo c 6=(madeH n t ls i).addG c 6:=by unfold Ho.addTo;rw[hg,if_pos rfl];rfl
  change Calls Tryz.prog 16 _ w (RetHoB (fun v=>.tuple #[v,.int .i64 ((madeH n t ls i).addC c 6)]) ((madeH n t ls i).addTo c 6) w) at A
  rw[hto,hg] at A
  exact A
 have ATc:=fun (i:Nat) w (hi:i≤1000) h=>at_any va ls i w h hi
 have CLc:=fun (i:Nat) w=>claim_any (atI ls i) w
 have HA:=lh ha;clear ha
 obtain⟨mH,hmH⟩:∃ f:Nat→Ho,(fun i=>madeH n t ls i)=f:=⟨_,rfl⟩
 have hmE:∀ i,madeH n t ls i=mH i:=fun i=>by rw[←hmH]
 simp only[hmE] at C1 AC
 rw[hmE]
 obtain⟨cc,hcc⟩:∃ f:Nat→Clm,(fun i=>claimI (atI ls i))=f:=⟨_,rfl⟩
 have hcE:∀ i,claimI (atI ls i)=cc i:=fun i=>by rw[←hcc]
 simp only[hcE] at AC CLc
 clear hmH hmE hcc hcE hfr
 have HC1:=lh C1;clear C1
 have HAC:=lh AC;clear AC
 have HAT:=lh ATc;clear ATc
 have HCL:=lh CLc;clear CLc
 have D9:=HasBlock.made w #[.slice none 0 0,.slice none 0 0,.slice none 0 0,.slice none 0 0,.int .i64 0,.int .u64 0,.int .i64 0] 30
 have hbw:Below w.heap.size w (w.alloc (.cells #[.slice none 0 0,.slice none 0 0,.slice none 0 0,.slice none 0 0,.int .i64 0,.int .u64 0,.int .i64 0] 30)):=(Below.refl _ _).alloc (nlr _) _
 go_enter Tryz.func11,Tryz.ntmps11
 go_wp2_with fail
 with_reducible refine (HC1.out _).mono ?_
 rintro e w1 ⟨of0,or0,om0,og0,kf0,kr0,km0,kg0,us0,gs0,rfl,O0,hb1⟩
 have l9:=D9.lt
 have hz1:=hb1.size
 replace D9:=D9.below hb1
 replace hbw:=hbw.trans (hb1.mono hbw.size)
 clear hb1
 obtain⟨n0,hln⟩:∃ n,(Pl.F (Ho.P (mH 0))).length=n:=⟨_,rfl⟩
 obtain⟨r0,hlr⟩:∃ n,(Pl.R (Ho.P (mH 0))).length=n:=⟨_,rfl⟩
 obtain⟨m0,hlm⟩:∃ n,(Pl.M (Ho.P (mH 0))).length=n:=⟨_,rfl⟩
 obtain⟨q0,hlq⟩:∃ n,(Ho.G (mH 0)).length=n:=⟨_,rfl⟩
 obtain⟨t0,hlt0⟩:∃ n,Ho.t (mH 0)=n:=⟨_,rfl⟩
 obtain⟨d0,hld⟩:∃ n,Ho.d (mH 0)=n:=⟨_,rfl⟩
 obtain⟨s0,hls⟩:∃ n,Ho.n (mH 0)=n:=⟨_,rfl⟩
 rw[hln,hlr,hlm,hlq] at O0 ⊢
 rw[hlt0,hld,hls]
 have HG0:=lh (And.intro hln (And.intro hlr (And.intro hlm (And.intro hlq (And.intro hlt0 (And.intro hld hls))))))
 clear hln hlr hlm hlq hlt0 hld hls
 go_wp2_with fail
 have HB0:=HostAt.new (base':=w.heap.size+1) HG0.out O0 (by simp only[sizes];omega)
 have hbx:Below w1.heap.size w1 (w1.alloc (.cells #[.slice of0 n0 kf0,.slice or0 r0 kr0,.slice om0 m0 km0,.slice og0 q0 kg0,.int .i64 t0,.int .u64 d0,.int .i64 s0] 30)):=(Below.refl _ _).alloc (nlr _) _
 replace D9:=D9.below hbx
 replace hbw:=hbw.trans (hbx.mono hbw.size)
 have hwB:w.heap.size<w1.heap.size:=Nat.lt_of_lt_of_le l9 hz1
 clear hbx O0 hz1 l9
 obtain⟨B0,hB⟩:∃ B,w1.heap.size=B:=⟨_,rfl⟩
 rw[hB] at HB0 hwB ⊢
 generalize hW:w1.alloc (.cells #[.slice of0 n0 kf0,.slice or0 r0 kr0,.slice om0 m0 km0,.slice og0 q0 kg0,.int .i64 t0,.int .u64 d0,.int .i64 s0] 30)=w2 at HB0 D9 hbw ⊢
 clear hW hB
 go_loopw [9,10] (fun bv iv wr=>∃ i:Nat,i≤3∧bv=.bool true∧iv=.int .i64 i∧HasBlock wr w.heap.size #[.slice none 0 0,.slice none 0 0,.slice none 0 0,.slice none 0 0,.int .i64 0,.int .u64 0,.int .i64 0] 30∧HostAt (w.heap.size+1) B0 wr (mH i)∧Below w.heap.size w wr) (fun _ iv _=>3 - (intOf iv).toNat)
 case atStart=>exact⟨0,by omega,rfl,rfl,D9,HB0,hbw⟩
 case round =>
  clear D9 HB0 hbw
  obtain⟨i,hi,rfl,rfl,D9,HB0,hbw⟩:=hrel
  obtain⟨of1,or1,om1,og1,kf1,kr1,km1,kg1,us1,gs1,D0,O1⟩:=HB0
  obtain⟨n1,hln⟩:∃ n,(Pl.F (Ho.P (mH i))).length=n:=⟨_,rfl⟩
  obtain⟨r1,hlr⟩:∃ n,(Pl.R (Ho.P (mH i))).length=n:=⟨_,rfl⟩
  obtain⟨m1,hlm⟩:∃ n,(Pl.M (Ho.P (mH i))).length=n:=⟨_,rfl⟩
  obtain⟨q1,hlq⟩:∃ n,(Ho.G (mH i)).length=n:=⟨_,rfl⟩
  obtain⟨t1,hlt1⟩:∃ n,Ho.t (mH i)=n:=⟨_,rfl⟩
  obtain⟨d1,hld⟩:∃ n,Ho.d (mH i)=n:=⟨_,rfl⟩
  obtain⟨s1,hls⟩:∃ n,Ho.n (mH i)=n:=⟨_,rfl⟩
  rw[hln,hlr,hlm,hlq] at O1 D0
  rw[hlt1,hld,hls] at D0
  have HG1:=lh (And.intro hln (And.intro hlr (And.intro hlm (And.intro hlq (And.intro hlt1 (And.intro hld hls))))))
  clear hln hlr hlm hlq hlt1 hld hls
  by_cases hlt:i<3
  · have AT1:=fun w h=>HAT.out i w (by omega) h
    have CL1:=HCL.out i
    have HV1:Hid (∀ w':World,Below wr.heap.size wr w'→HoAt w' (.agg #[.slice of1 n1 kf1,.slice or1 r1 kr1,.slice om1 m1 km1,.slice og1 q1 kg1,.int .i64 t1,.int .u64 d1,.int .i64 s1]) (mH i)):=lh (fun w' hb=>by
     have:=(O1.below hb).at_
     rwa[HG1.out.2.2.2.2.1,HG1.out.2.2.2.2.2.1,HG1.out.2.2.2.2.2.2] at this)
    have AC1:=HAC.out i hlt
    have HA1:=lh (HA.out.below hbw)
    have HATT:=lh AT1;clear AT1
    have HCLL:=lh CL1;clear CL1
    have HACC:=lh AC1;clear AC1
    obtain⟨cci,hcci⟩:∃ c,cc i=c:=⟨_,rfl⟩
    rw[hcci] at HCLL HACC
    clear hcci
    go_wp2_with fail
    go_cut [11,12] from 20 to 32 (fun v v2 wx=>v2=.int .i64 0∧NewHost (w.heap.size+1) (fun B wx=>B0≠B∧HasBlock wx w.heap.size #[.slice none 0 0,.slice none 0 0,.slice none 0 0,.slice none 0 0,.int .i64 0,.int .u64 0,.int .i64 0] 30∧HasBlock wx B0 #[.slice of1 n1 kf1,.slice or1 r1 kr1,.slice om1 m1 km1,.slice og1 q1 kg1,.int .i64 t1,.int .u64 d1,.int .i64 s1] 30∧Below w.heap.size w wx) (mH (i+1)) v wx)
    case first =>
     have hrule:∀ w':World,Below wr.heap.size wr w'→∀ b o,b<wr.heap.size→w'.cell? ⟨b,o,none⟩=wr.cell? ⟨b,o,none⟩:=fun w' h b o hlt=>h.cell (p:=⟨b,o,none⟩) hlt
     obtain⟨mn,hmn⟩:∃ m,mH (i+1)=m:=⟨_,rfl⟩
     rw[hmn] at HACC
     have HMN:=lh hmn;clear hmn
     have D0k:=D0
     obtain⟨D0_c,D0_f,D0_z⟩:=D0.all
     go_region_held3 (fun w'=>Below wr.heap.size wr w') (repeat' (first|(with_reducible first|assumption|exact Below.refl _ _|refine Below.drew ?_|refine Below.alloc' ?_ (nlr _) _|refine Below.setCell ?_ ?_ _)|refine Below.trans ?_ (Below.mono (by with_reducible assumption) ?_)|exact rfl|exact nlr _|omega|(simp only[sizes];done)|(simp only[sizes];omega))) ((first
      |
       (go_at_call 38
        with_reducible refine (HATT.out _ (HA1.out.below bel3)).mono ?_
        rintro e w5 ⟨rfl,hb5⟩
        obtain⟨hc5,hf5⟩:=bcell hb5
        have hzz5:=bsize hb5
        (try simp only[sizes1] at hzz5)
        (try simp only[sizes] at hc5 hf5)
        (try have hva5:wr.heap.size<w5.heap.size:=by omega))
      |
       (go_at_call 13
        with_reducible refine (HCLL.out _).mono ?_
        rintro e w6 ⟨rfl,hb6⟩
        obtain⟨hc6,hf6⟩:=bcell hb6
        have hzz6:=bsize hb6
        (try simp only[sizes1] at hzz6)
        (try simp only[sizes] at hc6 hf6)
        (try have hva6:wr.heap.size<w6.heap.size:=by omega)
        (try have hvb6:w5.heap.size<w6.heap.size:=by omega))
      |
       (go_at_call 16
        with_reducible refine (HACC.out _ _ (HV1.out _ bel3)).mono ?_
        rintro e w7 ⟨of7,or7,om7,og7,kf7,kr7,km7,kg7,us7,gs7,rfl,O7,hb7⟩
        obtain⟨n7,hln⟩:∃ n,(Pl.F (Ho.P mn)).length=n:=⟨_,rfl⟩
        obtain⟨r7,hlr⟩:∃ n,(Pl.R (Ho.P mn)).length=n:=⟨_,rfl⟩
        obtain⟨m7,hlm⟩:∃ n,(Pl.M (Ho.P mn)).length=n:=⟨_,rfl⟩
        obtain⟨q7,hlq⟩:∃ n,(Ho.G mn).length=n:=⟨_,rfl⟩
        obtain⟨t7,hlt7⟩:∃ n,Ho.t mn=n:=⟨_,rfl⟩
        obtain⟨d7,hld⟩:∃ n,Ho.d mn=n:=⟨_,rfl⟩
        obtain⟨s7,hls⟩:∃ n,Ho.n mn=n:=⟨_,rfl⟩
        rw[hln,hlr,hlm,hlq] at O7 ⊢
        rw[hlt7,hld,hls]
        have HG7:=lh (And.intro hln (And.intro hlr (And.intro hlm (And.intro hlq (And.intro hlt7 (And.intro hld hls))))))
        clear hln hlr hlm hlq hlt7 hld hls
        obtain⟨hc7,hf7⟩:=bcell hb7
        have hzz7:=bsize hb7
        (try simp only[sizes1] at hzz7)
        (try simp only[sizes] at hc7 hf7)
        (try have hva7:wr.heap.size<w7.heap.size:=by omega)
        (try have hvb7:w5.heap.size<w7.heap.size:=by omega)
        (try have hvc7:w6.heap.size<w7.heap.size:=by omega))))
     all_goals
      clear D0_c D0_f hc5 hf5 hc6 hf6 hc7 hf7 hrule
      go_wp2_with fail
      go_meet
      have O7z:=O7.lower (base':=w.heap.size+1) (by first|omega|(simp only[sizes];omega))
      have l0:=D0k.lt
      clear O7
      refine ⟨rfl,_,rfl,?h0,?hn,?h1,?h2,?h3⟩
      case h0 =>
       rw[HMN.out]
       refine HostAt.mk (of:=of7) (or':=or7) (om:=om7) (og:=og7) (kf:=kf7) (kr:=kr7) (km:=km7) (kg:=kg7) (us:=us7) (gs:=gs7) HG7.out.1 HG7.out.2.1 HG7.out.2.2.1 HG7.out.2.2.2.1 HG7.out.2.2.2.2.1 HG7.out.2.2.2.2.2.1 HG7.out.2.2.2.2.2.2 ?hD ?hO
       case hD=>(repeat' (first|with_reducible assumption|(with_reducible refine HasBlock.fill7z (x0:=.slice none 0 0) (x1:=.slice none 0 0) (x2:=.slice none 0 0) (x3:=.slice none 0 0) (x4:=.int .i64 0) (x5:=.int .u64 0) (x6:=.int .i64 0) ?_)|(with_reducible refine HasBlock.fill7_ne ?_ (by first|with_reducible rfl|omega|(simp only[sizes];done)|(simp only[sizes];omega)) _ _ _ _ _ _ _)|(with_reducible refine HasBlock.drew ?_)|(with_reducible refine HasBlock.made' (by first|with_reducible rfl|omega|(simp only[sizes];done)|(simp only[sizes];omega)))|(with_reducible refine HasBlock.alloc ?_ _)|(with_reducible refine HasBlock.below ?_ (by with_reducible assumption))))
       case hO=>(repeat' (first|with_reducible assumption|(with_reducible refine OwnH.fillz (x0:=.slice none 0 0) (x1:=.slice none 0 0) (x2:=.slice none 0 0) (x3:=.slice none 0 0) (x4:=.int .i64 0) (x5:=.int .u64 0) (x6:=.int .i64 0) ?_ ?_ _ _ _ _ _ _ _)|(with_reducible refine OwnH.drew ?_)|(with_reducible refine OwnH.alloc ?_ _)|(with_reducible refine OwnH.below ?_ (by with_reducible assumption))|(with_reducible refine HasBlock.drew ?_)|(with_reducible refine HasBlock.made' (by first|with_reducible rfl|omega|(simp only[sizes];done)|(simp only[sizes];omega)))|(with_reducible refine HasBlock.alloc ?_ _)|(with_reducible refine HasBlock.below ?_ (by with_reducible assumption))))
      case hn=>omega
      case h1=>(repeat' (first|with_reducible assumption|(with_reducible refine HasBlock.fill7z (x0:=.slice none 0 0) (x1:=.slice none 0 0) (x2:=.slice none 0 0) (x3:=.slice none 0 0) (x4:=.int .i64 0) (x5:=.int .u64 0) (x6:=.int .i64 0) ?_)|(with_reducible refine HasBlock.fill7_ne ?_ (by first|with_reducible rfl|omega|(simp only[sizes];done)|(simp only[sizes];omega)) _ _ _ _ _ _ _)|(with_reducible refine HasBlock.drew ?_)|(with_reducible refine HasBlock.made' (by first|with_reducible rfl|omega|(simp only[sizes];done)|(simp only[sizes];omega)))|(with_reducible refine HasBlock.alloc ?_ _)|(with_reducible refine HasBlock.below ?_ (by with_reducible assumption))))
      case h2=>(repeat' (first|with_reducible assumption|(with_reducible refine HasBlock.fill7z (x0:=.slice none 0 0) (x1:=.slice none 0 0) (x2:=.slice none 0 0) (x3:=.slice none 0 0) (x4:=.int .i64 0) (x5:=.int .u64 0) (x6:=.int .i64 0) ?_)|(with_reducible refine HasBlock.fill7_ne ?_ (by first|with_reducible rfl|omega|(simp only[sizes];done)|(simp only[sizes];omega)) _ _ _ _ _ _ _)|(with_reducible refine HasBlock.drew ?_)|(with_reducible refine HasBlock.made' (by first|with_reducible rfl|omega|(simp only[sizes];done)|(simp only[sizes];omega)))|(with_reducible refine HasBlock.alloc ?_ _)|(with_reducible refine HasBlock.below ?_ (by with_reducible assumption))))
      case h3=>exact hbw.trans (Below.mono (by (repeat (first|with_reducible assumption|with_reducible exact Below.refl _ _|(with_reducible refine Below.drew ?_)|(with_reducible refine Below.alloc' ?_ (nlr _) _)|(with_reducible refine Below.setCell ?_ (by first|with_reducible rfl|omega|(simp only[sizes];done)|(simp only[sizes];omega)) _)|(with_reducible refine Below.trans ?_ (Below.mono (by with_reducible assumption) (by first|with_reducible rfl|omega|(simp only[sizes];done)|(simp only[sizes];omega))))))) hbw.size)
    case rest =>
     clear D9 D0 O1 hbw HV1
     obtain⟨rfl,B,rfl,HB1,hne,D9,D0,hbw⟩:=hcut
     obtain⟨of2,or2,om2,og2,kf2,kr2,km2,kg2,us2,gs2,D2,O2⟩:=HB1
     obtain⟨n2,hln⟩:∃ n,(Pl.F (Ho.P (mH (i+1)))).length=n:=⟨_,rfl⟩
     obtain⟨r2,hlr⟩:∃ n,(Pl.R (Ho.P (mH (i+1)))).length=n:=⟨_,rfl⟩
     obtain⟨m2,hlm⟩:∃ n,(Pl.M (Ho.P (mH (i+1)))).length=n:=⟨_,rfl⟩
     obtain⟨q2,hlq⟩:∃ n,(Ho.G (mH (i+1))).length=n:=⟨_,rfl⟩
     obtain⟨t2,hlt2⟩:∃ n,Ho.t (mH (i+1))=n:=⟨_,rfl⟩
     obtain⟨d2,hld⟩:∃ n,Ho.d (mH (i+1))=n:=⟨_,rfl⟩
     obtain⟨s2,hls⟩:∃ n,Ho.n (mH (i+1))=n:=⟨_,rfl⟩
     rw[hln,hlr,hlm,hlq] at O2 D2
     rw[hlt2,hld,hls] at D2
     have HG2:=lh (And.intro hln (And.intro hlr (And.intro hlm (And.intro hlq (And.intro hlt2 (And.intro hld hls))))))
     clear hln hlr hlm hlq hlt2 hld hls
     have D0k:=D0
     obtain⟨D0_c,D0_f,D0_z⟩:=D0.all
     obtain⟨D2_c,D2_f,D2_z⟩:=D2.all
     go_wp2_with fail
     clear D0_c D0_f D0_z D2_c D2_f D2_z
     go_roundw
     case rel=>exact⟨i+1,by omega,rfl,by go_num,D9.fill7_ne (by omega) _ _ _ _ _ _ _,HostAt.fill HG2.out D0k O2,(((((((hbw.setCell (by dsimp only;omega) _).setCell (by dsimp only;omega) _).setCell (by dsimp only;omega) _).setCell (by dsimp only;omega) _).setCell (by dsimp only;omega) _).setCell (by dsimp only;omega) _).setCell (by dsimp only;omega) _)⟩
     case measure=>simp [intOf];omega
  · obtain rfl:i=3:=by omega
    have nB:w.heap.size≠B0:=by omega
    obtain⟨D0_c,D0_f,D0_z⟩:=D0.all
    obtain⟨D9_c,D9_f,D9_z⟩:=D9.all
    go_wp2_with fail
    refine bodyPost_ret (v:=.tuple #[.agg #[.slice of1 n1 kf1,.slice or1 r1 kr1,.slice om1 m1 km1,.slice og1 q1 kg1,.int .i64 t1,.int .u64 d1,.int .i64 s1],.bool true]) (by simp [results,Tryz.results11,go_sem,D9_c]) rfl ?_
    exact hoRet' (k:=fun v=>.tuple #[v,.bool true]) (H:=mH 3) HG1.out.1 HG1.out.2.1 HG1.out.2.2.1 HG1.out.2.2.2.1 HG1.out.2.2.2.2.1 HG1.out.2.2.2.2.2.1 HG1.out.2.2.2.2.2.2 (O1.fill7 (by omega) _ _ _ _ _ _ _) (Below.fill7 hbw (by omega) _ _ _ _ _ _ _)
structure Spare (H K:Ho) (i:Nat):Prop where
 le:∀ a,a≠i→K.P.chargeN a≤H.P.chargeN a
 ge:∀ (a:Nat) (g:Gm),a≠i→H.G[a]?=some g→min (H.P.chargeN a) g.c.r.toNat≤K.P.chargeN a
theorem Spare.refl (H:Ho) (i:Nat):Spare H H i:=⟨fun _ _=>nlr _,fun _ _ _ _=>Nat.min_le_left _ _⟩
theorem evictC_spare {K L:Ho} {i p:Nat} (hok:K.Ok) (hi:i<K.G.length) (he:K.evictC i p=some L):∀ (a:Nat) (g:Gm),a≠i→K.G[a]?=some g→L.P.chargeN a≤K.P.chargeN a∧(L.P.chargeN a=K.P.chargeN a∨g.c.r.toNat≤L.P.chargeN a):=by
 intro a g hai hg
 have hcb:=chosen_bd hok hi
 unfold Ho.evictC at he
 obtain⟨v,_,_,_,_,hch⟩:=(evict_law hok he).pg
 have h1:=hch a
 by_cases e:(K.chosen i).toNat=a
 · rw[if_pos e] at h1
   refine ⟨by omega,.inr ?_⟩
   by_cases hv:taxB K.t=true∧0≤vicF K.claims K.t K.claims.length
   · have hcv:K.chosen i=vicF K.claims K.t K.claims.length:=by
       unfold Ho.chosen victimR
       rw[if_pos hv]
       rfl
     obtain⟨c,hcc,hrp⟩:=victim_hit _ (nlr _) hv.2
     rw[←hcv,e] at hcc
     obtain⟨l,hl,_⟩:=hok.page hg
     rw[claims_at hg hl] at hcc
     injection hcc with hcc
     subst hcc
     dsimp only at hrp
     have hcl:K.P.chargeN a=l.countP hasB:=by unfold Pl.chargeN;rw[Pl.pages_eq hl]
     omega
   · have hci:K.chosen i=i:=by
       unfold Ho.chosen victimR
       rw[if_neg hv]
       rfl
     omega
 · rw[if_neg e] at h1
   exact⟨by omega,.inl (by omega)⟩
theorem Roomed.spare {H K:Ho} {i p:Nat} (h:Roomed i p H K) (hok:H.Ok) (hat:H.P.at i p):Spare H K i:=by
 have hf:=Kept.first hok i p
 have h1:Spare H (H.first i p) i:=by
  unfold Ho.first
  split
  · exact Spare.refl H i
  · split
    · cases he:H.evict i p with
      | none=>exact Spare.refl H i
      | some L =>
        obtain⟨v,_,_,_,_,hch⟩:=(evict_law hok he).pg
        have hE:∀ a,a≠i→L.P.chargeN a=H.P.chargeN a:=fun a ha=>by
         have:=hch a
         rw[if_neg (fun e=>ha e.symm)] at this
         exact this
        exact⟨fun a ha=>by show L.P.chargeN a≤_;rw[hE a ha];exact nlr _,fun a g ha _=>by show _≤L.P.chargeN a;rw[hE a ha];exact Nat.min_le_left _ _⟩
    · exact Spare.refl H i
 have hst:∀ K',Steps i p (H.first i p) K'→Spare H K' i∧Kept (H.first i p) K' i p:=by
  intro K' hs
  induction hs with
  | refl=>exact⟨h1,Kept.refl hf.ok i p⟩
  | @step A L hsA hfull he ih =>
    have hi:i<A.G.length:=by rw[ih.2.gl,hf.gl];exact hok.at_lt hat
    refine ⟨⟨fun a ha=>?_,fun a g ha hg=>?_⟩,ih.2.ev (evict_law ih.2.ok he)⟩
    · by_cases hl:a<A.G.length
      · obtain⟨g,hg⟩:=get_lt hl
        exact Nat.le_trans (evictC_spare ih.2.ok hi he a g ha hg).1 (ih.1.le a ha)
      · obtain⟨v,_,_,_,_,hch⟩:=(evict_law ih.2.ok (show A.evict _ _=some L from he)).pg
        have:=hch a
        have:=ih.1.le a ha
        split at * <;> omega
    · obtain⟨g1,hg1,c1,_⟩:=hf.cl a g hg
      obtain⟨g2,hg2,c2,_⟩:=ih.2.cl a g1 hg1
      have h2:=evictC_spare ih.2.ok hi he a g2 ha hg2
      have h3:=ih.1.ge a g ha hg
      rw[c2,c1] at h2
      omega
 exact (hst K h.1).1
theorem mark_P (H:Ho) (i p:Nat):(H.mark i p).P=H.P:=(mark_rest H i p).1
theorem put_spare {K:Ho} (hok:K.Ok) {i p:Nat} {d:ByteArray} (hat:K.P.at i p) (hd:d.size=128) (hk:K.P.wok' i p d=true) (a:Nat) (ha:a≠i):(K.P.wr i p d).chargeN a=K.P.chargeN a:=by
 have W:=(Pl.wr_law hok.p hat hd).1 hk
 obtain⟨F1,_⟩:=Pl.wr_fr hok.p hat hk
 rw[←(Pl.wr_eq hok.p hat hd).1] at W F1
 have:=Pl.charge_fr W.al hat (fun x y hxy=>by rw[F1 x y hxy]) a
 rw[if_neg (fun h=>ha h.1.symm),if_neg (fun h=>ha h.1.symm)] at this
 exact this
theorem write_spare {H H':Ho} {i p:Nat} {d:ByteArray} (hok:H.Ok) (hat:H.P.at i p) (hd:d.size=128) (h:WriteTo H i p d H'):Spare H H' i:=by
 obtain⟨K,hK,rfl⟩:=h
 have hR:=write_ready hok hat hd hK
 obtain⟨hc1,hc2⟩:=clear_ok (i:=i) (p:=p) hok
 have hS:Spare H K i:=by
  rcases hK with ⟨_,_,hr⟩|⟨_,rfl⟩
  · have S:=hr.spare hc1 (by rw[hc2];exact hat)
    refine ⟨fun a ha=>by have:=S.le a ha;rw[hc2] at this;exact this,fun a g ha hg=>?_⟩
    obtain⟨g1,hg1,c1,_⟩:=clear_cl i p hg
    have:=S.ge a g1 ha hg1
    rw[hc2,c1] at this
    exact this
  · exact⟨fun a _=>by rw[hc2];exact nlr _,fun a g _ _=>by rw[hc2];exact Nat.min_le_left _ _⟩
 have hp:=put_spare hR.ok ((hR.al.at i p).2 hat) hd hR.wok
 refine ⟨fun a ha=>?_,fun a g ha hg=>?_⟩
 · rw[mark_P]
   show (K.P.wr i p d).chargeN a≤_
   rw[hp a ha]
   exact hS.le a ha
 · rw[mark_P]
   show _≤(K.P.wr i p d).chargeN a
   rw[hp a ha]
   exact hS.ge a g ha hg
theorem read_spare {H H':Ho} {i p:Nat} (hok:H.Ok) (hat:H.P.at i p) (h:ReadTo H i p H'):Spare H H' i:=by
 obtain⟨g,t,hg,ht,h⟩:=h
 rcases h with ⟨h0,rfl⟩|⟨h0,K,hr,rfl⟩
 · exact⟨fun a _=>by rw[mark_P];exact nlr _,fun a g _ _=>by rw[mark_P];exact Nat.min_le_left _ _⟩
 · have hs:=Ho.sw_eq hg ht
   have hR:=read_ready hok hat hs h0 hr
   have hd:t.size=128:=by
    rcases hok.swp hat with h1|⟨_,h2,_⟩
    · rw[hs] at h1
      exact absurd h1 h0
    · rw[←hs]
      exact h2
   have hk:=(hr.kept hok hat).1
   have hatK:=(hk.al.at i p).2 hat
   have hS:=hr.spare hok hat
   have hp:=put_spare hR.ok ((hR.al.at i p).2 hat) hd hR.wok
   rw[back_eq (hk.ok.at_lt hatK)]
   have hcP:=(clear_rest K i p).1
   refine ⟨fun a ha=>?_,fun a g ha hg=>?_⟩
   · rw[mark_P]
     show ((K.clear i p).P.wr i p t).chargeN a≤_
     rw[hp a ha,hcP]
     exact hS.le a ha
   · rw[mark_P]
     show _≤((K.clear i p).P.wr i p t).chargeN a
     rw[hp a ha,hcP]
     exact hS.ge a g ha hg
theorem res_text {H:Ho} (hok:H.Ok) {a b:Nat} (hat:H.P.at a b) (h0:0≤H.P.fr a b):(H.sw a b).size=0∧H.text a b=H.P.text a b∧zeroB (H.text a b)=false:=by
 rcases hok.swp hat with h1|⟨h1,_⟩
 · have e:H.text a b=H.P.text a b:=by rw[Ho.text_sw,if_pos h1]
   exact⟨h1,e,by rw[e];exact (Pl.text_good hok.p hat h0).2⟩
 · omega
theorem zero_page {H:Ho} (hok:H.Ok) {a b:Nat} (hat:H.P.at a b) (hz:zeroB (H.text a b)=true):H.P.fr a b<0∧(H.sw a b).size=0:=by
 refine ⟨?_,?_⟩
 · rcases Int.lt_or_le (H.P.fr a b) 0 with h|h
   · exact h
   · rw[(res_text hok hat h).2.2] at hz
     cases hz
 · rcases hok.swp hat with h|⟨_,h1,h2⟩
   · exact h
   · rw[Ho.text_sw,if_neg (by omega),h2] at hz
     cases hz
theorem full_page {H:Ho} (hok:H.Ok) {a b:Nat} (hat:H.P.at a b) (hz:zeroB (H.text a b)=false):(0≤H.P.fr a b∧(H.sw a b).size=0)∨(H.P.fr a b<0∧(H.sw a b).size=128):=by
 rcases Int.lt_or_le (H.P.fr a b) 0 with h|h
 · right
   refine ⟨h,?_⟩
   rcases hok.swp hat with h1|⟨_,h1,_⟩
   · rw[Ho.text_sw,if_pos h1] at hz
     unfold Pl.text at hz
     rw[if_pos h,zeros128_zero] at hz
     cases hz
   · exact h1
 · exact .inl ⟨h,(res_text hok hat h).1⟩
theorem fr_ne {H:Ho} (hok:H.Ok) {a b c d:Nat} (h1:H.P.at a b) (h2:H.P.at c d) (f1:0≤H.P.fr a b) (f2:0≤H.P.fr c d) (hne:H.text a b≠H.text c d):H.P.fr a b≠H.P.fr c d:=by
 intro e
 apply hne
 rw[(res_text hok h1 f1).2.1,(res_text hok h2 f2).2.1]
 unfold Pl.text
 rw[if_neg (by omega),if_neg (by omega),e]
/-! the host of the laws' own check -/
def cA:Clm:=⟨1,4,10,0,0⟩
def hA0:Ho:=newHo 2 0 1
def hA1:Ho:=hA0.addG cA 4
def hA2:Ho:=hA1.addG cA 4
theorem cA_ok:validB cA=true:=rfl
theorem pg1_nz:zeroB (pageS 1)=false:=by kernel_rfl
theorem pg2_nz:zeroB (pageS 2)=false:=by kernel_rfl
theorem pg3_nz:zeroB (pageS 3)=false:=by kernel_rfl
theorem pg_at (n m:Int) (h:(pageS n).data[0]?≠(pageS m).data[0]?):pageS n≠pageS m:=fun e=>h (by rw[e])
theorem pg12:pageS 1≠pageS 2:=pg_at _ _ (of_decide_eq_true (by kernel_rfl))
theorem pg13:pageS 1≠pageS 3:=pg_at _ _ (of_decide_eq_true (by kernel_rfl))
theorem pg23:pageS 2≠pageS 3:=pg_at _ _ (of_decide_eq_true (by kernel_rfl))
theorem hA0_ok:hA0.Ok:=newHo_ok (by omega) (by omega) (by omega) (by omega)
theorem hA0_P:hA0.P=⟨freshF 2,freshR 2,[]⟩:=fresh_eq (n:=2) (by omega) (by omega)
theorem hA1_ok:hA1.Ok:=addG_ok hA0_ok cA_ok rfl (by show 0<8;omega) (by omega) (by omega) (by rw[hA0_P];show (1:Int)+sumR []≤((freshF 2).length:Int);unfold sumR freshF;simp)
theorem hA1_P:hA1.P=⟨freshF 2,freshR 2,[List.replicate 4 (-1)]⟩:=by
 have h:=padd_eq hA0_ok.p (q:=4) (by rw[hA0_P];show 0<8;omega) (by omega) (by omega)
 show hA0.P.add (4:Nat)=_
 rw[h,hA0_P]
 rfl
theorem hA1_G:hA1.G=[newG cA 4]:=rfl
theorem hA2_ok:hA2.Ok:=addG_ok hA1_ok cA_ok rfl (by show 1<8;omega) (by omega) (by omega) (by rw[hA1_P,hA1_G];show (1:Int)+sumR [newG cA 4]≤((freshF 2).length:Int);unfold sumR freshF newG cA;simp)
theorem hA2_P:hA2.P=⟨freshF 2,freshR 2,[List.replicate 4 (-1),List.replicate 4 (-1)]⟩:=by
 have h:=padd_eq hA1_ok.p (q:=4) (by rw[hA1_P];show 1<8;omega) (by omega) (by omega)
 show hA1.P.add (4:Nat)=_
 rw[h,hA1_P]
 rfl
theorem hA2_G:hA2.G=[newG cA 4,newG cA 4]:=rfl
theorem addC_A {H:Ho} (h1:H.G.length<8) (h2:cA.r+sumR H.G≤H.P.F.length):H.addC cA 4=0:=by
 unfold Ho.addC
 rw[if_neg (by rintro (h|h|h|h) <;> first|(rw[cA_ok] at h;cases h)|exact absurd rfl h|omega),if_neg (by omega),if_neg (by omega)]
theorem hA0_c:hA0.addC cA 4=0:=addC_A (by show 0<8;omega) (by rw[hA0_P];show (1:Int)+sumR []≤((freshF 2).length:Int);unfold sumR freshF;simp)
theorem hA1_c:hA1.addC cA 4=0:=addC_A (by show 1<8;omega) (by rw[hA1_P,hA1_G];show (1:Int)+sumR [newG cA 4]≤((freshF 2).length:Int);unfold sumR freshF newG cA;simp)
theorem hA2_c:hA2.addC cA 4=3801:=by
 unfold Ho.addC
 rw[if_neg (by rintro (h|h|h|h) <;> first|(rw[cA_ok] at h;cases h)|exact absurd rfl h|omega),if_neg (by show ¬8≤2;omega),if_pos]
 rw[hA2_P,hA2_G]
 show ((freshF 2).length:Int)<1+sumR [newG cA 4,newG cA 4]
 unfold sumR freshF newG cA
 simp
structure AwS (H:Ho):Prop where
 ok:H.Ok
 f:H.P.F.length=2
 g:H.G.length=2
 pg:∀ a,a<2→(H.P.pages a).length=4
 r:∀ (a:Nat) (x:Gm),H.G[a]?=some x→x.c.r=1
theorem AwS.kept {H H':Ho} (h:AwS H) (k:HoKept H H'):AwS H' :=
 ⟨k.ok,k.al.f.trans h.f,k.gl.trans h.g,fun a ha=>(k.al.pg a).trans (h.pg a ha),fun a x hx=>by
   obtain⟨y,hy⟩:=get_lt (xs:=H.G) (k:=a) (by rw[←k.gl];exact lt_of_get hx)
   obtain⟨x',hx',e1,_⟩:=k.cl a y hy
   rw[hx] at hx'
   injection hx' with hx'
   subst hx'
   exact e1.trans (h.r a y hy)⟩
theorem AwS.at_ {H:Ho} (h:AwS H) {a b:Nat} (ha:a<2) (hb:b<4):H.P.at a b:=by
 rw[Pl.at_lt,←h.ok.m,h.g]
 exact⟨ha,by rw[h.pg a ha];exact hb⟩
theorem hA2_s:AwS hA2:=⟨hA2_ok,by rw[hA2_P];rfl,rfl,fun a ha=>by
    unfold Pl.pages
    rw[hA2_P]
    match a,ha with
    | 0,_=>rfl
    | 1,_=>rfl,fun a x hx=>by
    rw[hA2_G] at hx
    match a,hx with
    | 0,hx=>injection hx with hx;subst hx;rfl
    | 1,hx=>injection hx with hx;subst hx;rfl
    | a+2,hx=>simp at hx⟩
theorem hA2_text {a b:Nat} (ha:a<2) (hb:b<4):hA2.text a b=zeros128:=by
 have hg:hA2.G[a]?=some (newG cA 4):=by
  rw[hA2_G]
  match a,ha with
  | 0,_=>rfl
  | 1,_=>rfl
 have hs:(newG cA 4).s[b]?=some ⟨#[]⟩:=by
  show (List.replicate 4 (⟨#[]⟩:ByteArray))[b]?=_
  rw[List.getElem?_replicate,if_pos hb]
 rw[Ho.text_eq hg hs,if_pos (show (⟨#[]⟩:ByteArray).size=0 from rfl)]
 have hf:hA2.P.fr a b = -1:=by
  unfold Pl.fr Pl.pages
  rw[hA2_P]
  match a,ha with
  | 0,_=>show ((List.replicate 4 (-1:Int))[b]?).getD (-1)=_;rw[List.getElem?_replicate,if_pos hb];rfl
  | 1,_=>show ((List.replicate 4 (-1:Int))[b]?).getD (-1)=_;rw[List.getElem?_replicate,if_pos hb];rfl
 unfold Pl.text
 rw[hf,if_pos (by decide)]
theorem AwS.charge {H:Ho} (h:AwS H) {a:Nat} (ha:a<2):H.P.chargeN a=(if 0≤H.P.fr a 0 then 1 else 0)+(if 0≤H.P.fr a 1 then 1 else 0)+(if 0≤H.P.fr a 2 then 1 else 0)+(if 0≤H.P.fr a 3 then 1 else 0):=by
 have hl:=h.pg a ha
 unfold Pl.chargeN Pl.fr
 obtain⟨l,hll⟩:∃ l,H.P.pages a=l:=⟨_,rfl⟩
 rw[hll] at hl ⊢
 match l,hl with
 | [x0,x1,x2,x3],_ =>
   simp only[List.countP_cons,List.countP_nil,hasB,decide_eq_true_eq]
   show 0+_+_+_+_=(if 0≤x0 then 1 else 0)+(if 0≤x1 then 1 else 0)+(if 0≤x2 then 1 else 0)+(if 0≤x3 then 1 else 0)
   omega
theorem AwS.swapped {H:Ho} (h:AwS H) {a:Nat} (ha:a<2) {g:Gm} (hg:H.G[a]?=some g):g.swapped=(if (H.sw a 0).size=0 then 0 else 1)+(if (H.sw a 1).size=0 then 0 else 1)+(if (H.sw a 2).size=0 then 0 else 1)+(if (H.sw a 3).size=0 then 0 else 1):=by
 have hl:=(h.ok.gmP hg).ls
 rw[h.pg a ha] at hl
 have hs:∀ b t,g.s[b]?=some t→H.sw a b=t:=fun b t ht=>Ho.sw_eq hg ht
 unfold Gm.swapped
 obtain⟨l,hll⟩:∃ l,g.s=l:=⟨_,rfl⟩
 rw[hll] at hl hs ⊢
 match l,hl with
 | [x0,x1,x2,x3],_ =>
   rw[hs 0 x0 rfl,hs 1 x1 rfl,hs 2 x2 rfl,hs 3 x3 rfl]
   have e:∀ x:ByteArray,(if fullB x=true then 1 else 0)=(if x.size=0 then 0 else 1:Nat):=fun x=>by
    unfold fullB emptyB
    by_cases h0:x.size=0
    · rw[if_pos h0,decide_eq_true h0]
      rfl
    · rw[if_neg h0,decide_eq_false h0]
      rfl
   simp only[List.countP_cons,List.countP_nil,e]
   omega
theorem awake_law {H3 H4 H5:Ho} (h3:WriteTo hA2 0 0 (pageS 1) H3) (h4:WriteTo H3 0 1 (pageS 2) H4) (h5:WriteTo H4 1 0 (pageS 3) H5) :
    AwS H3∧AwS H4∧AwS H5∧H5.P.chargeN 0=1∧(∀ g,H5.G[0]?=some g→g.swapped=1)∧∀ H6,ReadTo H5 0 0 H6→AwS H6∧H6.P.text 0 0=pageS 1∧H6.P.chargeN 1=1:=by
 have a2:=hA2_s
 have W3:=write_keeps a2.ok (a2.at_ (a:=0) (b:=0) (by omega) (by omega)) (pageS_size _) h3
 have a3:=a2.kept W3.k
 have W4:=write_keeps a3.ok (a3.at_ (a:=0) (b:=1) (by omega) (by omega)) (pageS_size _) h4
 have a4:=a3.kept W4.k
 have W5:=write_keeps a4.ok (a4.at_ (a:=1) (b:=0) (by omega) (by omega)) (pageS_size _) h5
 have a5:=a4.kept W5.k
 have tx:∀ a b,a<2→b<4→H5.text a b=if a=1∧b=0 then pageS 3 else if a=0∧b=1 then pageS 2 else if a=0∧b=0 then pageS 1 else zeros128:=fun a b ha hb=>by
  rw[W5.text a b (a4.at_ ha hb),W4.text a b (a3.at_ ha hb),W3.text a b (a2.at_ ha hb),hA2_text ha hb]
  by_cases e1:a=1∧b=0
  · rw[if_pos (show 1=a∧0=b by omega),if_pos e1]
  · rw[if_neg (show ¬(1=a∧0=b) by omega),if_neg e1]
    by_cases e2:a=0∧b=1
    · rw[if_pos (show 0=a∧1=b by omega),if_pos e2]
    · rw[if_neg (show ¬(0=a∧1=b) by omega),if_neg e2]
      by_cases e3:a=0∧b=0
      · rw[if_pos (show 0=a∧0=b by omega),if_pos e3]
      · rw[if_neg (show ¬(0=a∧0=b) by omega),if_neg e3]
 have t00:H5.text 0 0=pageS 1:=tx 0 0 (by omega) (by omega)
 have t01:H5.text 0 1=pageS 2:=tx 0 1 (by omega) (by omega)
 have t10:H5.text 1 0=pageS 3:=tx 1 0 (by omega) (by omega)
 have z:∀ a b,a<2→b<4→(a=1→b≠0)→(a=0→2≤b)→H5.P.fr a b<0∧(H5.sw a b).size=0:=fun a b ha hb h1 h2=>by
  refine zero_page a5.ok (a5.at_ ha hb) ?_
  rw[tx a b ha hb,if_neg (by omega),if_neg (by omega),if_neg (by omega)]
  exact zeros128_zero
 have z02:=z 0 2 (by omega) (by omega) (by omega) (by omega)
 have z03:=z 0 3 (by omega) (by omega) (by omega) (by omega)
 have z11:=z 1 1 (by omega) (by omega) (by omega) (by omega)
 have z12:=z 1 2 (by omega) (by omega) (by omega) (by omega)
 have z13:=z 1 3 (by omega) (by omega) (by omega) (by omega)
 have f10:0≤H5.P.fr 1 0:=W5.fr.2 pg3_nz
 have c1:H5.P.chargeN 1=1:=by
  rw[a5.charge (by omega),if_pos f10,if_neg (by omega),if_neg (by omega),if_neg (by omega)]
 have at00:=a5.at_ (a:=0) (b:=0) (by omega) (by omega)
 have at01:=a5.at_ (a:=0) (b:=1) (by omega) (by omega)
 have at10:=a5.at_ (a:=1) (b:=0) (by omega) (by omega)
 have p00:=full_page a5.ok at00 (by rw[t00];exact pg1_nz)
 have p01:=full_page a5.ok at01 (by rw[t01];exact pg2_nz)
 have c0:H5.P.chargeN 0=(if 0≤H5.P.fr 0 0 then 1 else 0)+(if 0≤H5.P.fr 0 1 then 1 else 0):=by
  rw[a5.charge (by omega),if_neg (show ¬0≤H5.P.fr 0 2 by omega),if_neg (show ¬0≤H5.P.fr 0 3 by omega),Nat.add_zero]
 have hge:1≤H5.P.chargeN 0:=by
  have S:=write_spare a4.ok (a4.at_ (a:=1) (b:=0) (by omega) (by omega)) (pageS_size _) h5
  obtain⟨g,hg⟩:=get_lt (xs:=H4.G) (k:=0) (by rw[a4.g];omega)
  have h1:=S.ge 0 g (by omega) hg
  rw[a4.r 0 g hg] at h1
  have f01:0≤H4.P.fr 0 1:=W4.fr.2 pg2_nz
  have h2:=a4.charge (a:=0) (by omega)
  rw[if_pos f01] at h2
  have h3:(1:Int).toNat=1:=rfl
  omega
 have hle:¬(0≤H5.P.fr 0 0∧0≤H5.P.fr 0 1):=by
  rintro⟨e1,e2⟩
  have b1:=a5.ok.p.at_bd at00
  have b2:=a5.ok.p.at_bd at01
  have b3:=a5.ok.p.at_bd at10
  rw[a5.f] at b1 b2 b3
  have n1:=fr_ne a5.ok at00 at01 e1 e2 (by rw[t00,t01];exact pg12)
  have n2:=fr_ne a5.ok at00 at10 e1 f10 (by rw[t00,t10];exact pg13)
  have n3:=fr_ne a5.ok at01 at10 e2 f10 (by rw[t01,t10];exact pg23)
  omega
 have c01:H5.P.chargeN 0=1:=by
  rw[c0] at hge ⊢
  by_cases e1:0≤H5.P.fr 0 0
  · rw[if_pos e1] at hge ⊢
    rw[if_neg (fun e2=>hle ⟨e1,e2⟩)]
  · rw[if_neg e1] at hge ⊢
    by_cases e2:0≤H5.P.fr 0 1
    · rw[if_pos e2]
    · rw[if_neg e2] at hge
      omega
 refine ⟨a3,a4,a5,c01,fun g hg=>?_,fun H6 h6=>?_⟩
 · rw[a5.swapped (by omega) hg,if_pos z02.2,if_pos z03.2]
   rw[c0] at c01
   rcases p00 with ⟨e1,e2⟩|⟨e1,e2⟩
   · rcases p01 with ⟨e3,e4⟩|⟨e3,e4⟩
     · exact absurd ⟨e1,e3⟩ hle
     · rw[if_pos e2,if_neg (by omega)]
   · rcases p01 with ⟨e3,e4⟩|⟨e3,e4⟩
     · rw[if_neg (by omega),if_pos e4]
     · rw[if_neg (by omega),if_neg (by omega)] at c01
       omega
 · obtain⟨k1,_,k3⟩:=read_keeps a5.ok at00 h6
   have S:=read_spare a5.ok at00 h6
   obtain⟨g,hg⟩:=get_lt (xs:=H5.G) (k:=1) (by rw[a5.g];omega)
   have h1:=S.ge 1 g (by omega) hg
   have h2:=S.le 1 (by omega)
   rw[a5.r 1 g hg] at h1
   have h3:(1:Int).toNat=1:=rfl
   exact⟨a5.kept k1,by rw[k3,t00],by omega⟩
end Go.Proofs.YtbnngjhnkegliaaGreat
