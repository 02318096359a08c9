/-
  Texts joined: HrPool. No law is proved here.
-/
import Derived.Test.YtbnngjhnkegliaaGreatB22
namespace Go.Proofs.YtbnngjhnkegliaaGreat
open Go.RowKit
def RetOr (v:Value) (P:Pl) (ok:Bool) (w:World) (e:Ending) (w':World):Prop:=(ok=false∧e=.returned (.tuple #[v,.bool false])∧Below w.heap.size w w')∨(ok=true∧RetPoolB P true w e w')
set_option maxRecDepth 100000 in
set_option maxHeartbeats 4000000 in
theorem rwrite_or (v:Value) (P:Pl) (g p:Int) (d:ByteArray) (w:World) (h:PlRow w v P) (hf:P.fit) (hds:d.size≤9223372036854775807):Calls Tryz.prog 59 #[v,.int .i64 g,.int .i64 p,.string d] w (RetOr v (P.wr g p d) (P.wok g p d) w):=by
 obtain⟨of,or',om,kf,kr,km,rfl,kf1,kf2,kr1,kr2,km1,km2⟩:=h.form
 obtain⟨n,hn⟩:∃ n,P.F.length=n:=⟨_,rfl⟩
 obtain⟨r,hr⟩:∃ n,P.R.length=n:=⟨_,rfl⟩
 obtain⟨m,hm⟩:∃ n,P.M.length=n:=⟨_,rfl⟩
 rw[hn] at h kf1 ⊢
 rw[hr] at h kr1 ⊢
 rw[hm] at h km1 ⊢
 have HN:=lh hn;clear hn
 have HR:=lh hr;clear hr
 have HM:=lh hm;clear hm
 have h0:=h
 have V:=fun w h=>rvalid_pl (.agg #[.slice of n kf,.slice or' r kr,.slice om m km]) P w h hf
 have U:=fun w h=>ris_any (.agg #[.slice of n kf,.slice or' r kr,.slice om m km]) P g p w h
 clear hf
 obtain⟨vb,hvb⟩:∃ b,P.ok=b:=⟨_,rfl⟩
 obtain⟨ib,hib⟩:∃ b,P.is g p=b:=⟨_,rfl⟩
 rw[hvb] at V
 rw[hib] at U
 have HV:=lh V;clear V
 have HU:=lh U;clear U
 have HVB:=lh hvb;clear hvb
 have HIB:=lh hib;clear hib
 have D1:=(HasBlock.made w #[.slice of n kf,.slice or' r kr,.slice om m km] 26).alloc (.cells #[.slice none 0 0,.slice none 0 0,.slice none 0 0] 26)
 have D2:=HasBlock.made (w.alloc (.cells #[.slice of n kf,.slice or' r kr,.slice om m km] 26)) #[.slice none 0 0,.slice none 0 0,.slice none 0 0] 26
 have hbw:Below w.heap.size w ((w.alloc (.cells #[.slice of n kf,.slice or' r kr,.slice om m km] 26)).alloc (.cells #[.slice none 0 0,.slice none 0 0,.slice none 0 0] 26)):=bel
 have hz:w.heap.size+1+1≤((w.alloc (.cells #[.slice of n kf,.slice or' r kr,.slice om m km] 26)).alloc (.cells #[.slice none 0 0,.slice none 0 0,.slice none 0 0] 26)).heap.size:=by simp only[sizes];omega
 simp only[sizes] at D2
 replace h:=h.below hbw
 go_enter Tryz.func59,Tryz.ntmps59
 go_wp2_with fail
 with_reducible refine (HV.out _ h).mono ?_
 rintro e w1 ⟨rfl,hb1⟩
 replace D1:=D1.below hb1
 replace D2:=D2.below hb1
 replace h:=h.below hb1
 replace hbw:=hbw.trans (hb1.mono hbw.size)
 replace hz:=Nat.le_trans hz hb1.size
 clear hb1
 cases vb
 · have hno:P.goodW g p d=false:=by unfold Pl.goodW Pl.has;rw[HVB.out];rfl
   have HNO:=lh hno;clear hno
   obtain⟨D1_c,D1_f,D1_z⟩:=D1.all
   obtain⟨D2_c,D2_f,D2_z⟩:=D2.all
   go_wp2_with fail
   refine bodyPost_ret (v:=.tuple #[.agg #[.slice of n kf,.slice or' r kr,.slice om m km],.bool false]) (by simp [results,Tryz.results59,go_sem,D2_c]) rfl ?_
   rw[show P.wok g p d=false by unfold Pl.wok;rw[HNO.out];rfl]
   refine .inl ⟨rfl,rfl,?_⟩
   exact (((hbw.setCell (p:=⟨w.heap.size+1,0,none⟩) (by dsimp only;omega) _).setCell (p:=⟨w.heap.size+1,1,none⟩) (by dsimp only;omega) _).setCell (p:=⟨w.heap.size+1,2,none⟩) (by dsimp only;omega) _)
 obtain⟨D1_c,D1_f,D1_z⟩:=D1.all
 obtain⟨D2_c,D2_f,D2_z⟩:=D2.all
 go_wp2_with fail
 clear D1_c D1_f D1_z
 clear D2_c D2_f D2_z
 with_reducible refine (HU.out _ h).mono ?_
 rintro e w2 ⟨rfl,hb2⟩
 replace D1:=D1.below hb2
 replace D2:=D2.below hb2
 replace h:=h.below hb2
 replace hbw:=hbw.trans (hb2.mono hbw.size)
 replace hz:=Nat.le_trans hz hb2.size
 clear hb2
 cases ib
 · have hno:P.goodW g p d=false:=by unfold Pl.goodW Pl.has;rw[HIB.out,Bool.and_false];rfl
   have HNO:=lh hno;clear hno
   obtain⟨D1_c,D1_f,D1_z⟩:=D1.all
   obtain⟨D2_c,D2_f,D2_z⟩:=D2.all
   go_wp2_with fail
   refine bodyPost_ret (v:=.tuple #[.agg #[.slice of n kf,.slice or' r kr,.slice om m km],.bool false]) (by simp [results,Tryz.results59,go_sem,D2_c]) rfl ?_
   rw[show P.wok g p d=false by unfold Pl.wok;rw[HNO.out];rfl]
   refine .inl ⟨rfl,rfl,?_⟩
   exact (((hbw.setCell (p:=⟨w.heap.size+1,0,none⟩) (by dsimp only;omega) _).setCell (p:=⟨w.heap.size+1,1,none⟩) (by dsimp only;omega) _).setCell (p:=⟨w.heap.size+1,2,none⟩) (by dsimp only;omega) _)
 by_cases hd:d.size=128
 rotate_left
 · have hno:P.goodW g p d=false:=by unfold Pl.goodW;rw[decide_eq_false hd,Bool.and_false]
   have HNO:=lh hno;clear hno
   have de1:((d.size:Int) != 128)=true:=by rw[bne_iff_ne];omega
   have de2:(d.size != 128)=true:=by rw[bne_iff_ne];omega
   obtain⟨D1_c,D1_f,D1_z⟩:=D1.all
   obtain⟨D2_c,D2_f,D2_z⟩:=D2.all
   go_wp2_with fail
   refine bodyPost_ret (v:=.tuple #[.agg #[.slice of n kf,.slice or' r kr,.slice om m km],.bool false]) (by simp [results,Tryz.results59,go_sem,D2_c]) rfl ?_
   rw[show P.wok g p d=false by unfold Pl.wok;rw[HNO.out];rfl]
   refine .inl ⟨rfl,rfl,?_⟩
   exact (((hbw.setCell (p:=⟨w.heap.size+1,0,none⟩) (by dsimp only;omega) _).setCell (p:=⟨w.heap.size+1,1,none⟩) (by dsimp only;omega) _).setCell (p:=⟨w.heap.size+1,2,none⟩) (by dsimp only;omega) _)
 have HHV:Hid (P.has g p=true):=by unfold Pl.has;rw[HVB.out,HIB.out];rfl
 have hgood:P.goodW g p d=true:=by unfold Pl.goodW;rw[HHV.out,decide_eq_true hd];rfl
 have hwr:P.wr g p d=P.wr' g.toNat p.toNat d:=by unfold Pl.wr;rw[hgood];rfl
 have hwok:P.wok g p d=P.wok' g.toNat p.toNat d:=by unfold Pl.wok;rw[hgood];rfl
 clear hgood
 have de1:((d.size:Int) != 128)=false:=by rw[bne_eq_false_iff_eq];omega
 have de2:(d.size != 128)=false:=by rw[bne_eq_false_iff_eq];omega
 clear hd
 have hh:=HHV.out
 unfold Pl.has at hh
 rw[Bool.and_eq_true] at hh
 obtain⟨hok,his⟩:=hh
 have H:=Pl.ok_iff.1 hok
 have hi:=his
 unfold Pl.is at hi
 rw[decide_eq_true_eq] at hi
 obtain⟨i,rfl⟩:∃ i:Nat,g=i:=⟨g.toNat,by omega⟩
 obtain⟨k,rfl⟩:∃ i:Nat,p=i:=⟨p.toNat,by omega⟩
 rw[Int.toNat_natCast] at hi
 obtain⟨l,f,hl,hp⟩:=Pl.is_at his
 have hfb:=H.page hl hp
 have hfr:=Pl.fr_eq hl hp
 have hRF:=H.r
 have hrb : -1000000≤P.ref (P.fr i k).toNat∧P.ref (P.fr i k).toNat≤1000000:=by
  by_cases h0:f<0
  · have h2:P.ref (P.fr i k).toNat=P.cnt (P.fr i k).toNat:=H.ref_eq (by rw[hfr];have:=H.n1;omega)
    have:=H.cnt_le (P.fr i k).toNat
    omega
  · have h2:P.ref (P.fr i k).toNat=P.cnt (P.fr i k).toNat:=H.ref_eq (by rw[hfr];omega)
    have:=H.cnt_le (P.fr i k).toNat
    omega
 have hfF:P.fr i k<P.F.length:=by rw[hfr];exact hfb.2
 rw[Int.toNat_natCast,Int.toNat_natCast] at hwr hwok
 have HWR:=lh hwr;clear hwr
 have HWOK:=lh hwok;clear hwok
 have HRF:=lh hRF
 have HFF:=lh hfF
 have HFR:=lh hfr;clear hfr
 have HIS:=lh his;clear his
 have HRB:=lh hrb;clear hrb
 rw[HN.out] at hfb
 clear hRF hfF hok
 have C:=fun w h=>rown_any (.agg #[.slice of n kf,.slice or' r kr,.slice om m km]) P w h H
 have HC:=lh C;clear C
 obtain⟨zb,hzb⟩:∃ b,zeroB d=b:=⟨_,rfl⟩
 have Z:=fun w=>zero_any d w hds
 rw[hzb] at Z
 have HZ:=lh Z;clear Z
 have HZB:=lh hzb;clear hzb
 obtain⟨D1_c,D1_f,D1_z⟩:=D1.all
 obtain⟨D2_c,D2_f,D2_z⟩:=D2.all
 go_wp2_with fail
 clear D1_c D1_f D1_z
 clear D2_c D2_f D2_z
 with_reducible refine (HC.out _ h).mono ?_
 rintro e w4 ⟨of1,or1,om1,kf1',kr1',km1',us,rfl,hO,hb4⟩
 rw[HN.out,HR.out,HM.out] at hO ⊢
 replace hO:=hO.lower hz
 replace D1:=D1.below hb4
 replace D2:=D2.below hb4
 replace hbw:=hbw.trans (hb4.mono hbw.size)
 replace hz:=Nat.le_trans hz hb4.size
 clear hb4 h
 obtain⟨bm,km2,bu,ku,e0,hus,c1,c2,c3,k1,k2,k3,k4,k5⟩:=hO.page hl hp
 injection e0 with e0 e9 e10
 subst e0 e10
 clear e9
 have gi:(i:Int)<(m:Int):=by rw[←HM.out];exact hi.2.1
 have ki:(k:Int)<(l.length:Int):=by rw[←Pl.pages_eq hl];exact hi.2.2.2
 have HU:=lh hus;clear hus
 have HL:=lh hl;clear hl
 have HP:=lh hp;clear hp
 obtain⟨D1_c,D1_f,D1_z⟩:=D1.all
 obtain⟨D2_c,D2_f,D2_z⟩:=D2.all
 go_wp2_with fail
 clear D1_c D1_f D1_z
 clear D2_c D2_f D2_z
 clear c1 c2 c3 k2 k4
 have hT:=hO.lt
 have D3:=HasBlock.made w4 #[.slice of1 n kf1',.slice or1 r kr1',.slice (some ⟨bm,0,none⟩) m km1'] 26
 replace D1:=D1.alloc (.cells #[.slice of1 n kf1',.slice or1 r kr1',.slice (some ⟨bm,0,none⟩) m km1'] 26)
 replace D2:=D2.alloc (.cells #[.slice of1 n kf1',.slice or1 r kr1',.slice (some ⟨bm,0,none⟩) m km1'] 26)
 replace hO:=hO.alloc (.cells #[.slice of1 n kf1',.slice or1 r kr1',.slice (some ⟨bm,0,none⟩) m km1'] 26)
 replace hbw:=hbw.alloc hbw.size (.cells #[.slice of1 n kf1',.slice or1 r kr1',.slice (some ⟨bm,0,none⟩) m km1'] 26)
 have hz2:w4.heap.size+1≤(w4.alloc (.cells #[.slice of1 n kf1',.slice or1 r kr1',.slice (some ⟨bm,0,none⟩) m km1'] 26)).heap.size:=Nat.le_of_eq (World.size_alloc ..).symm
 obtain⟨B,hB⟩:∃ B,w4.heap.size=B:=⟨_,rfl⟩
 rw[hB] at D3 hz hT hz2 ⊢
 generalize hW:w4.alloc (.cells #[.slice of1 n kf1',.slice or1 r kr1',.slice (some ⟨bm,0,none⟩) m km1'] 26)=w5 at D1 D2 D3 hO hbw hz2 ⊢
 clear hW hB
 have G:=fun w' hO=>leave_any (w.heap.size+1+1) B (.slice of1 n kf1') (.slice or1 r kr1') (.slice (some ⟨bm,0,none⟩) m km1') us P i k w' hO hT HIS.out HFF.out HRF.out HRB.out
 have HG:=lh G;clear G
 have lu:=hT.u i _ HU.out bu rfl
 have n1:B≠bu:=by omega
 with_reducible refine (HZ.out _).mono ?_
 rintro e w6 ⟨rfl,hb6⟩
 replace D1:=D1.below hb6
 replace D2:=D2.below hb6
 replace D3:=D3.below hb6
 replace hO:=hO.below hb6
 replace hbw:=hbw.trans (hb6.mono hbw.size)
 replace hz2:=Nat.le_trans hz2 hb6.size
 clear hb6
 cases zb
 rotate_left
 · have hw1:P.wr' i k d=P.giveUp i k:=by unfold Pl.wr';rw[HZB.out];rfl
   have hw2:P.wok' i k d=true:=by unfold Pl.wok';rw[HZB.out];rfl
   have HW1:=lh hw1;clear hw1
   have HW2:=lh hw2;clear hw2
   obtain⟨D1_c,D1_f,D1_z⟩:=D1.all
   obtain⟨D2_c,D2_f,D2_z⟩:=D2.all
   obtain⟨D3_c,D3_f,D3_z⟩:=D3.all
   go_wp2_with fail
   clear D1_c D1_f D1_z
   clear D2_c D2_f D2_z
   clear D3_c D3_f D3_z
   with_reducible refine (HG.out _ hO).mono ?_
   rintro e w7 ⟨rfl,hO5,hb7⟩
   replace D1:=D1.btw hb7 (.inl (by omega))
   replace D2:=D2.btw hb7 (.inl (by omega))
   replace D3:=D3.btw hb7 (.inr (nlr _))
   replace hbw:=hbw.trans ((hb7.below (by omega)).mono (by omega))
   have hz5:=hb7.size
   clear hb7 hO
   obtain⟨D1_c,D1_f,D1_z⟩:=D1.all
   obtain⟨D2_c,D2_f,D2_z⟩:=D2.all
   obtain⟨D3_c,D3_f,D3_z⟩:=D3.all
   go_wp2_with fail
   refine bodyPost_ret (v:=.tuple #[.agg #[.slice of1 n kf1',.slice or1 r kr1',.slice (some ⟨bm,0,none⟩) m km1'],.bool true]) (by simp [results,Tryz.results59,go_sem,D2_c]) rfl ?_
   have L:=P.giveUp_len i k
   rw[HWOK.out,HW2.out]
   exact .inr ⟨rfl,ret_poolb (Q:=P.giveUp i k) (by rw[L.1];exact HN.out) (by rw[L.2.1];exact HR.out) (by rw[L.2.2];exact HM.out) (HWR.out.trans HW1.out) (((hO5.setlow (b:=w.heap.size+1) (j:=0) (by omega) _).setlow (b:=w.heap.size+1) (j:=1) (by omega) _).setlow (b:=w.heap.size+1) (j:=2) (by omega) _) (((hbw.setCell (p:=⟨w.heap.size+1,0,none⟩) (by dsimp only;omega) _).setCell (p:=⟨w.heap.size+1,1,none⟩) (by dsimp only;omega) _).setCell (p:=⟨w.heap.size+1,2,none⟩) (by dsimp only;omega) _)⟩
 obtain⟨bm2,km3,bu2,ku2,e0,hus2,c1,c2,c3,k1',k2',k3',k4',k5'⟩:=hO.page HL.out HP.out
 injection e0 with e0 e9 e10
 injection e0 with e0
 injection e0 with e0 e8
 subst e0
 clear e9 e10
 rw[HU.out] at hus2
 injection hus2 with hus2
 injection hus2 with e0 e9 e10
 injection e0 with e0
 injection e0 with e0 e8
 subst e0
 clear e9
 have hn1:1≤n:=by have:=H.n1;rw[HN.out] at this;exact this
 have hr1:1≤r:=by have:=H.r;rw[HN.out,HR.out] at this;omega
 have hrn:r≤n:=by have:=H.r;rw[HN.out,HR.out] at this;omega
 obtain⟨gf,rfl,f1,f2⟩:=hO.f.addr HN.out (by omega)
 obtain⟨gr,rfl,r1,r2⟩:=hO.r.addr HR.out (by omega)
 have lf:=hT.f gf rfl
 have lr:=hT.r gr rfl
 have n2:B≠gf:=by omega
 have n3:B≠gr:=by omega
 by_cases ho:0≤f∧P.ref f.toNat=1
 · obtain⟨h0',h1⟩:=ho
   obtain⟨j,rfl⟩:∃ i:Nat,f=i:=⟨f.toNat,by omega⟩
   rw[Int.toNat_natCast] at h1
   have hown:P.own i k=true:=by unfold Pl.own;rw[HFR.out,decide_eq_true h0',Int.toNat_natCast,decide_eq_true h1];rfl
   have hw1:P.wr' i k d=P.setF j d:=by unfold Pl.wr';rw[HZB.out,hown,HFR.out];rfl
   have hw2:P.wok' i k d=true:=by unfold Pl.wok';rw[HZB.out,hown];rfl
   have HW1:=lh hw1;clear hw1
   have HW2:=lh hw2;clear hw2 hown
   obtain⟨x,hx⟩:=get_lt (xs:=P.R) (k:=j) (by rw[H.r,HN.out];omega)
   obtain⟨s,hs⟩:=get_lt (xs:=P.F) (k:=j) (by rw[HN.out];omega)
   have hx1:x=1:=by unfold Pl.ref at h1;rw[hx] at h1;exact h1
   subst hx1
   obtain⟨t1,t2⟩:=hO.f.at hs
   obtain⟨t3,t4⟩:=hO.r.at hx
   have jr:(j:Int)<(r:Int):=by have:=lt_of_get hx;rw[HR.out] at this;omega
   have jn:(j:Int)<(n:Int):=hfb.2
   clear hs hx h1
   have hO2:=hO.putF j d
   obtain⟨D1_c,D1_f,D1_z⟩:=D1.all
   obtain⟨D2_c,D2_f,D2_z⟩:=D2.all
   obtain⟨D3_c,D3_f,D3_z⟩:=D3.all
   go_wp2_with fail
   refine bodyPost_ret (v:=.tuple #[.agg #[.slice (some ⟨gf,0,none⟩) n kf1',.slice (some ⟨gr,0,none⟩) r kr1',.slice (some ⟨bm,0,none⟩) m km1'],.bool true]) (by simp [results,Tryz.results59,go_sem,D2_c]) rfl ?_
   rw[HWOK.out,HW2.out]
   replace hbw:=hbw.setCell (p:=⟨gf,j,none⟩) (by dsimp only;omega) (.string d)
   exact .inr ⟨rfl,ret_poolb (Q:=P.setF j d) (by rw[←HN.out];exact List.length_set ..) HR.out HM.out (HWR.out.trans HW1.out) (((hO2.setlow (b:=w.heap.size+1) (j:=0) (by omega) _).setlow (b:=w.heap.size+1) (j:=1) (by omega) _).setlow (b:=w.heap.size+1) (j:=2) (by omega) _) (((hbw.setCell (p:=⟨w.heap.size+1,0,none⟩) (by dsimp only;omega) _).setCell (p:=⟨w.heap.size+1,1,none⟩) (by dsimp only;omega) _).setCell (p:=⟨w.heap.size+1,2,none⟩) (by dsimp only;omega) _)⟩
 have hown:P.own i k=false:=by
  unfold Pl.own
  rw[HFR.out,Bool.eq_false_iff]
  intro h
  rw[Bool.and_eq_true,decide_eq_true_eq,decide_eq_true_eq] at h
  exact ho h
 have HOWN:=lh hown;clear hown
 by_cases h0':f<0
 · have g0:decide (0≤f)=false:=decide_eq_false (by omega)
   clear ho
   obtain⟨D1_c,D1_f,D1_z⟩:=D1.all
   obtain⟨D2_c,D2_f,D2_z⟩:=D2.all
   obtain⟨D3_c,D3_f,D3_z⟩:=D3.all
   go_wp2_with fail
   clear g0 h0'
   go_loop [12] (fun iv=>∃ q:Nat,q≤r∧iv=.int .i64 q∧Hid (∀ u:Nat,u<q→P.ref u≠0)) (fun iv=>r - (intOf iv).toNat)
   case atStart=>exact⟨0,Nat.zero_le _,rfl,fun u hu=>absurd hu (Nat.not_lt_zero _)⟩
   case round =>
    obtain⟨q,hq,rfl,hA⟩:=hrel
    by_cases hlt:q<r
    · obtain⟨x,hx⟩:=get_lt (xs:=P.R) (k:=q) (by rw[HR.out];exact hlt)
      have hqn:q<n:=by omega
      have hxr:P.ref q=x:=by unfold Pl.ref;rw[hx];rfl
      obtain⟨t3,t4⟩:=hO.r.at hx
      clear hx
      by_cases hx0:x=0
      · have e3:(x == 0)=true:=by rw[beq_iff_eq];exact hx0
        have hfo:firstOf P.F ⟨#[]⟩=some q:=firstOf_some.2 ⟨(H.free_iff (by rw[HN.out];exact hqn)).1 (hxr.trans hx0),fun u hu e=>hA.out u hu ((H.free_iff (lt_of_get e)).2 e)⟩
        have hw1:P.wr' i k d=P.take i k q d:=by unfold Pl.wr';rw[HZB.out,HOWN.out,hfo];rfl
        have hw2:P.wok' i k d=true:=by unfold Pl.wok';rw[HZB.out,HOWN.out,hfo];rfl
        have HW1:=lh hw1;clear hw1
        have HW2:=lh hw2;clear hw2
        clear hfo hxr hx0
        go_wp2_with fail
        clear D1_c D1_f D1_z
        clear D2_c D2_f D2_z
        clear D3_c D3_f D3_z
        with_reducible refine (HG.out _ hO).mono ?_
        rintro e w8 ⟨rfl,hO6,hb6⟩
        replace D1:=D1.btw hb6 (.inl (by omega))
        replace D2:=D2.btw hb6 (.inl (by omega))
        replace D3:=D3.btw hb6 (.inr (nlr _))
        replace hbw:=hbw.trans ((hb6.below (by omega)).mono (by omega))
        replace hz2:=Nat.le_trans hz2 hb6.size
        clear hb6 hO t3 t4 e3 c1 c2 c3
        have L:=P.giveUp_len i k
        have hL1:=L.1.trans HN.out
        have hL2:=L.2.1.trans HR.out
        have hL3:=L.2.2.trans HM.out
        have his2:(P.giveUp i k).is i k=true:=(P.giveUp_is i k i k).trans HIS.out
        obtain⟨l2,f2,hl2,hp2⟩:=Pl.is_at his2
        have hlen:l2.length=l.length:=by rw[←Pl.pages_eq hl2,Pl.giveUp_pages,Pl.pages_eq HL.out]
        obtain⟨bm2,km3,bu2,ku2,e0,hus2,c1,c2,c3,k1',k2',k3',k4',k5'⟩:=hO6.page hl2 hp2
        rw[hlen] at hus2 c1
        injection e0 with e0 e9 e10
        injection e0 with e0
        injection e0 with e0 e8
        subst e0
        clear e9 e10
        rw[HU.out] at hus2
        injection hus2 with hus2
        injection hus2 with e0 e9 e10
        injection e0 with e0
        injection e0 with e0 e8
        subst e0
        clear e9 hlen hl2 hp2 his2
        obtain⟨x2,hx2⟩:=get_lt (xs:=(P.giveUp i k).R) (k:=q) (by rw[L.2.1,H.r,HN.out];exact hqn)
        obtain⟨s2,hs2⟩:=get_lt (xs:=(P.giveUp i k).F) (k:=q) (by rw[hL1];exact hqn)
        obtain⟨u1,u2⟩:=hO6.f.at hs2
        obtain⟨u3,u4⟩:=hO6.r.at hx2
        have qr:(q:Int)<(r:Int):=by omega
        have qn:(q:Int)<(n:Int):=by omega
        have n4:=hO6.r_ne HU.out
        have n5:=hO6.f_ne HU.out
        have n6:=hO6.fr_ne
        have n7:bm≠gr:=fun e=>own_ne_type hO6.m hO6.r (by decide) (k:=bm) rfl (by rw[e];rfl)
        have hO7:=((hO6.putM HU.out k q).putR q 1).putF q d
        have hE:P.take i k q d=(((P.giveUp i k).setM i k q).setR q 1).setF q d:=rfl
        rw[←hE] at hO7
        have hl1:(P.take i k q d).F.length=n:=by rw[hE];simp only[Pl.setF,Pl.setR,Pl.setM,List.length_set];exact hL1
        have hl2:(P.take i k q d).R.length=r:=by rw[hE];simp only[Pl.setF,Pl.setR,Pl.setM,List.length_set];exact hL2
        have hl3:(P.take i k q d).M.length=m:=by rw[hE];simp only[Pl.setF,Pl.setR,Pl.setM,List.length_set];exact hL3
        have Hl1:=lh hl1
        have Hl2:=lh hl2
        have Hl3:=lh hl3
        have hbw7:=((hbw.setCell (p:=⟨bu,k,none⟩) (by dsimp only;omega) (.int .i64 q)).setCell (p:=⟨gr,q,none⟩) (by dsimp only;omega) (.int .i64 1)).setCell (p:=⟨gf,q,none⟩) (by dsimp only;omega) (.string d)
        clear hl1 hl2 hl3 hE hL1 hL2 hL3 L hx2 hs2 hO6 hbw
        have hbw:=hbw7
        clear hbw7
        obtain⟨D1_c,D1_f,D1_z⟩:=D1.all
        obtain⟨D2_c,D2_f,D2_z⟩:=D2.all
        obtain⟨D3_c,D3_f,D3_z⟩:=D3.all
        go_wp2_with fail
        refine bodyPost_ret (v:=.tuple #[.agg #[.slice (some ⟨gf,0,none⟩) n kf1',.slice (some ⟨gr,0,none⟩) r kr1',.slice (some ⟨bm,0,none⟩) m km1'],.bool true]) (by simp [results,Tryz.results59,go_sem,D2_c]) rfl ?_
        rw[HWOK.out,HW2.out]
        exact .inr ⟨rfl,ret_poolb (Q:=P.take i k q d) Hl1.out Hl2.out Hl3.out (HWR.out.trans HW1.out) (((hO7.setlow (b:=w.heap.size+1) (j:=0) (by omega) _).setlow (b:=w.heap.size+1) (j:=1) (by omega) _).setlow (b:=w.heap.size+1) (j:=2) (by omega) _) (((hbw.setCell (p:=⟨w.heap.size+1,0,none⟩) (by dsimp only;omega) _).setCell (p:=⟨w.heap.size+1,1,none⟩) (by dsimp only;omega) _).setCell (p:=⟨w.heap.size+1,2,none⟩) (by dsimp only;omega) _)⟩
      · have e3:(x == 0)=false:=by rw[beq_eq_false_iff_ne];exact hx0
        have hup:∀ u:Nat,u<q+1→P.ref u≠0:=fun u hu=>by
         by_cases e:u=q
         · rw[e,hxr];exact hx0
         · exact hA.out u (by omega)
        have HUP:=lh hup;clear hup hxr hx0
        go_wp2_with fail
        go_round
        case rel=>exact⟨q+1,by omega,by go_num,HUP.out⟩
        case measure=>simp [intOf];omega
    · obtain rfl:q=r:=by omega
      have hfo:firstOf P.F ⟨#[]⟩=none:=firstOf_none.2 (fun u e=>hA.out u (by have:=lt_of_get e;rw[←H.r,HR.out] at this;exact this) ((H.free_iff (lt_of_get e)).2 e))
      have hw1:P.wr' i k d=P:=by unfold Pl.wr';rw[HZB.out,HOWN.out,hfo];rfl
      have hw2:P.wok' i k d=false:=by unfold Pl.wok';rw[HZB.out,HOWN.out,hfo];rfl
      have HW1:=lh hw1;clear hw1
      have HW2:=lh hw2;clear hw2
      clear hfo
      go_wp2_with fail
      refine bodyPost_ret (v:=.tuple #[.agg #[.slice of n kf,.slice or' q kr,.slice om m km],.bool false]) (by simp [results,Tryz.results59,go_sem,D2_c]) rfl ?_
      rw[HWOK.out,HW2.out]
      refine .inl ⟨rfl,rfl,?_⟩
      exact (((hbw.setCell (p:=⟨w.heap.size+1,0,none⟩) (by dsimp only;omega) _).setCell (p:=⟨w.heap.size+1,1,none⟩) (by dsimp only;omega) _).setCell (p:=⟨w.heap.size+1,2,none⟩) (by dsimp only;omega) _)
 · obtain⟨j,rfl⟩:∃ i:Nat,f=i:=⟨f.toNat,by omega⟩
   have g0:decide ((0:Int)≤(j:Int))=true:=decide_eq_true (by omega)
   rw[Int.toNat_natCast] at ho
   obtain⟨x,hx⟩:=get_lt (xs:=P.R) (k:=j) (by rw[H.r,HN.out];omega)
   have hx1:x≠1:=fun e=>ho ⟨by omega,by unfold Pl.ref;rw[hx];exact e⟩
   have e1:(x == 1)=false:=by rw[beq_eq_false_iff_ne];exact hx1
   obtain⟨t3,t4⟩:=hO.r.at hx
   have jr:(j:Int)<(r:Int):=by have:=lt_of_get hx;rw[HR.out] at this;omega
   clear hx hx1 ho
   obtain⟨D1_c,D1_f,D1_z⟩:=D1.all
   obtain⟨D2_c,D2_f,D2_z⟩:=D2.all
   obtain⟨D3_c,D3_f,D3_z⟩:=D3.all
   go_wp2_with fail
   clear e1 t3 t4 g0 h0'
   go_loop [12] (fun iv=>∃ q:Nat,q≤r∧iv=.int .i64 q∧Hid (∀ u:Nat,u<q→P.ref u≠0)) (fun iv=>r - (intOf iv).toNat)
   case atStart=>exact⟨0,Nat.zero_le _,rfl,fun u hu=>absurd hu (Nat.not_lt_zero _)⟩
   case round =>
    obtain⟨q,hq,rfl,hA⟩:=hrel
    by_cases hlt:q<r
    · obtain⟨x,hx⟩:=get_lt (xs:=P.R) (k:=q) (by rw[HR.out];exact hlt)
      have hqn:q<n:=by omega
      have hxr:P.ref q=x:=by unfold Pl.ref;rw[hx];rfl
      obtain⟨t3,t4⟩:=hO.r.at hx
      clear hx
      by_cases hx0:x=0
      · have e3:(x == 0)=true:=by rw[beq_iff_eq];exact hx0
        have hfo:firstOf P.F ⟨#[]⟩=some q:=firstOf_some.2 ⟨(H.free_iff (by rw[HN.out];exact hqn)).1 (hxr.trans hx0),fun u hu e=>hA.out u hu ((H.free_iff (lt_of_get e)).2 e)⟩
        have hw1:P.wr' i k d=P.take i k q d:=by unfold Pl.wr';rw[HZB.out,HOWN.out,hfo];rfl
        have hw2:P.wok' i k d=true:=by unfold Pl.wok';rw[HZB.out,HOWN.out,hfo];rfl
        have HW1:=lh hw1;clear hw1
        have HW2:=lh hw2;clear hw2
        clear hfo hxr hx0
        go_wp2_with fail
        clear D1_c D1_f D1_z
        clear D2_c D2_f D2_z
        clear D3_c D3_f D3_z
        with_reducible refine (HG.out _ hO).mono ?_
        rintro e w8 ⟨rfl,hO6,hb6⟩
        replace D1:=D1.btw hb6 (.inl (by omega))
        replace D2:=D2.btw hb6 (.inl (by omega))
        replace D3:=D3.btw hb6 (.inr (nlr _))
        replace hbw:=hbw.trans ((hb6.below (by omega)).mono (by omega))
        replace hz2:=Nat.le_trans hz2 hb6.size
        clear hb6 hO t3 t4 e3 c1 c2 c3
        have L:=P.giveUp_len i k
        have hL1:=L.1.trans HN.out
        have hL2:=L.2.1.trans HR.out
        have hL3:=L.2.2.trans HM.out
        have his2:(P.giveUp i k).is i k=true:=(P.giveUp_is i k i k).trans HIS.out
        obtain⟨l2,f2,hl2,hp2⟩:=Pl.is_at his2
        have hlen:l2.length=l.length:=by rw[←Pl.pages_eq hl2,Pl.giveUp_pages,Pl.pages_eq HL.out]
        obtain⟨bm2,km3,bu2,ku2,e0,hus2,c1,c2,c3,k1',k2',k3',k4',k5'⟩:=hO6.page hl2 hp2
        rw[hlen] at hus2 c1
        injection e0 with e0 e9 e10
        injection e0 with e0
        injection e0 with e0 e8
        subst e0
        clear e9 e10
        rw[HU.out] at hus2
        injection hus2 with hus2
        injection hus2 with e0 e9 e10
        injection e0 with e0
        injection e0 with e0 e8
        subst e0
        clear e9 hlen hl2 hp2 his2
        obtain⟨x2,hx2⟩:=get_lt (xs:=(P.giveUp i k).R) (k:=q) (by rw[L.2.1,H.r,HN.out];exact hqn)
        obtain⟨s2,hs2⟩:=get_lt (xs:=(P.giveUp i k).F) (k:=q) (by rw[hL1];exact hqn)
        obtain⟨u1,u2⟩:=hO6.f.at hs2
        obtain⟨u3,u4⟩:=hO6.r.at hx2
        have qr:(q:Int)<(r:Int):=by omega
        have qn:(q:Int)<(n:Int):=by omega
        have n4:=hO6.r_ne HU.out
        have n5:=hO6.f_ne HU.out
        have n6:=hO6.fr_ne
        have n7:bm≠gr:=fun e=>own_ne_type hO6.m hO6.r (by decide) (k:=bm) rfl (by rw[e];rfl)
        have hO7:=((hO6.putM HU.out k q).putR q 1).putF q d
        have hE:P.take i k q d=(((P.giveUp i k).setM i k q).setR q 1).setF q d:=rfl
        rw[←hE] at hO7
        have hl1:(P.take i k q d).F.length=n:=by rw[hE];simp only[Pl.setF,Pl.setR,Pl.setM,List.length_set];exact hL1
        have hl2:(P.take i k q d).R.length=r:=by rw[hE];simp only[Pl.setF,Pl.setR,Pl.setM,List.length_set];exact hL2
        have hl3:(P.take i k q d).M.length=m:=by rw[hE];simp only[Pl.setF,Pl.setR,Pl.setM,List.length_set];exact hL3
        have Hl1:=lh hl1
        have Hl2:=lh hl2
        have Hl3:=lh hl3
        have hbw7:=((hbw.setCell (p:=⟨bu,k,none⟩) (by dsimp only;omega) (.int .i64 q)).setCell (p:=⟨gr,q,none⟩) (by dsimp only;omega) (.int .i64 1)).setCell (p:=⟨gf,q,none⟩) (by dsimp only;omega) (.string d)
        clear hl1 hl2 hl3 hE hL1 hL2 hL3 L hx2 hs2 hO6 hbw
        have hbw:=hbw7
        clear hbw7
        obtain⟨D1_c,D1_f,D1_z⟩:=D1.all
        obtain⟨D2_c,D2_f,D2_z⟩:=D2.all
        obtain⟨D3_c,D3_f,D3_z⟩:=D3.all
        go_wp2_with fail
        refine bodyPost_ret (v:=.tuple #[.agg #[.slice (some ⟨gf,0,none⟩) n kf1',.slice (some ⟨gr,0,none⟩) r kr1',.slice (some ⟨bm,0,none⟩) m km1'],.bool true]) (by simp [results,Tryz.results59,go_sem,D2_c]) rfl ?_
        rw[HWOK.out,HW2.out]
        exact .inr ⟨rfl,ret_poolb (Q:=P.take i k q d) Hl1.out Hl2.out Hl3.out (HWR.out.trans HW1.out) (((hO7.setlow (b:=w.heap.size+1) (j:=0) (by omega) _).setlow (b:=w.heap.size+1) (j:=1) (by omega) _).setlow (b:=w.heap.size+1) (j:=2) (by omega) _) (((hbw.setCell (p:=⟨w.heap.size+1,0,none⟩) (by dsimp only;omega) _).setCell (p:=⟨w.heap.size+1,1,none⟩) (by dsimp only;omega) _).setCell (p:=⟨w.heap.size+1,2,none⟩) (by dsimp only;omega) _)⟩
      · have e3:(x == 0)=false:=by rw[beq_eq_false_iff_ne];exact hx0
        have hup:∀ u:Nat,u<q+1→P.ref u≠0:=fun u hu=>by
         by_cases e:u=q
         · rw[e,hxr];exact hx0
         · exact hA.out u (by omega)
        have HUP:=lh hup;clear hup hxr hx0
        go_wp2_with fail
        go_round
        case rel=>exact⟨q+1,by omega,by go_num,HUP.out⟩
        case measure=>simp [intOf];omega
    · obtain rfl:q=r:=by omega
      have hfo:firstOf P.F ⟨#[]⟩=none:=firstOf_none.2 (fun u e=>hA.out u (by have:=lt_of_get e;rw[←H.r,HR.out] at this;exact this) ((H.free_iff (lt_of_get e)).2 e))
      have hw1:P.wr' i k d=P:=by unfold Pl.wr';rw[HZB.out,HOWN.out,hfo];rfl
      have hw2:P.wok' i k d=false:=by unfold Pl.wok';rw[HZB.out,HOWN.out,hfo];rfl
      have HW1:=lh hw1;clear hw1
      have HW2:=lh hw2;clear hw2
      clear hfo
      go_wp2_with fail
      refine bodyPost_ret (v:=.tuple #[.agg #[.slice of n kf,.slice or' q kr,.slice om m km],.bool false]) (by simp [results,Tryz.results59,go_sem,D2_c]) rfl ?_
      rw[HWOK.out,HW2.out]
      refine .inl ⟨rfl,rfl,?_⟩
      exact (((hbw.setCell (p:=⟨w.heap.size+1,0,none⟩) (by dsimp only;omega) _).setCell (p:=⟨w.heap.size+1,1,none⟩) (by dsimp only;omega) _).setCell (p:=⟨w.heap.size+1,2,none⟩) (by dsimp only;omega) _)
set_option maxRecDepth 100000 in
set_option maxHeartbeats 4000000 in
theorem rshare_or (v:Value) (P:Pl) (g p:Int) (w:World) (h:PlRow w v P) (hf:P.fit):Calls Tryz.prog 71 #[v,.int .i64 g,.int .i64 p] w (RetOr v (P.sh g p) (P.sok g p) w):=by
 obtain⟨of,or',om,kf,kr,km,rfl,kf1,kf2,kr1,kr2,km1,km2⟩:=h.form
 obtain⟨n,hn⟩:∃ n,P.F.length=n:=⟨_,rfl⟩
 obtain⟨r,hr⟩:∃ n,P.R.length=n:=⟨_,rfl⟩
 obtain⟨m,hm⟩:∃ n,P.M.length=n:=⟨_,rfl⟩
 rw[hn] at h kf1 ⊢
 rw[hr] at h kr1 ⊢
 rw[hm] at h km1 ⊢
 have HN:=lh hn;clear hn
 have HR:=lh hr;clear hr
 have HM:=lh hm;clear hm
 have h0:=h
 have V:=fun w h=>rvalid_pl (.agg #[.slice of n kf,.slice or' r kr,.slice om m km]) P w h hf
 have U:=fun w h=>ris_any (.agg #[.slice of n kf,.slice or' r kr,.slice om m km]) P g p w h
 clear hf
 obtain⟨vb,hvb⟩:∃ b,P.ok=b:=⟨_,rfl⟩
 obtain⟨ib,hib⟩:∃ b,P.is g p=b:=⟨_,rfl⟩
 rw[hvb] at V
 rw[hib] at U
 have HV:=lh V;clear V
 have HU:=lh U;clear U
 have HVB:=lh hvb;clear hvb
 have HIB:=lh hib;clear hib
 have D1:=(HasBlock.made w #[.slice of n kf,.slice or' r kr,.slice om m km] 26).alloc (.cells #[.slice none 0 0,.slice none 0 0,.slice none 0 0] 26)
 have D2:=HasBlock.made (w.alloc (.cells #[.slice of n kf,.slice or' r kr,.slice om m km] 26)) #[.slice none 0 0,.slice none 0 0,.slice none 0 0] 26
 have hbw:Below w.heap.size w ((w.alloc (.cells #[.slice of n kf,.slice or' r kr,.slice om m km] 26)).alloc (.cells #[.slice none 0 0,.slice none 0 0,.slice none 0 0] 26)):=bel
 have hz:w.heap.size+1+1≤((w.alloc (.cells #[.slice of n kf,.slice or' r kr,.slice om m km] 26)).alloc (.cells #[.slice none 0 0,.slice none 0 0,.slice none 0 0] 26)).heap.size:=by simp only[sizes];omega
 simp only[sizes] at D2
 replace h:=h.below hbw
 go_enter Tryz.func71,Tryz.ntmps71
 go_wp2_with fail
 with_reducible refine (HV.out _ h).mono ?_
 rintro e w1 ⟨rfl,hb1⟩
 replace D1:=D1.below hb1
 replace D2:=D2.below hb1
 replace h:=h.below hb1
 replace hbw:=hbw.trans (hb1.mono hbw.size)
 replace hz:=Nat.le_trans hz hb1.size
 clear hb1
 cases vb
 · have hno:P.goodS g p=false:=by unfold Pl.goodS Pl.has;rw[HVB.out];rfl
   have HNO:=lh hno;clear hno
   obtain⟨D1_c,D1_f,D1_z⟩:=D1.all
   obtain⟨D2_c,D2_f,D2_z⟩:=D2.all
   go_wp2_with fail
   refine bodyPost_ret (v:=.tuple #[.agg #[.slice of n kf,.slice or' r kr,.slice om m km],.bool false]) (by simp [results,Tryz.results71,go_sem,D2_c]) rfl ?_
   rw[show P.sok g p=false by unfold Pl.sok;rw[HNO.out];rfl]
   refine .inl ⟨rfl,rfl,?_⟩
   exact (((hbw.setCell (p:=⟨w.heap.size+1,0,none⟩) (by dsimp only;omega) _).setCell (p:=⟨w.heap.size+1,1,none⟩) (by dsimp only;omega) _).setCell (p:=⟨w.heap.size+1,2,none⟩) (by dsimp only;omega) _)
 obtain⟨D1_c,D1_f,D1_z⟩:=D1.all
 obtain⟨D2_c,D2_f,D2_z⟩:=D2.all
 go_wp2_with fail
 clear D1_c D1_f D1_z
 clear D2_c D2_f D2_z
 with_reducible refine (HU.out _ h).mono ?_
 rintro e w2 ⟨rfl,hb2⟩
 replace D1:=D1.below hb2
 replace D2:=D2.below hb2
 replace h:=h.below hb2
 replace hbw:=hbw.trans (hb2.mono hbw.size)
 replace hz:=Nat.le_trans hz hb2.size
 clear hb2
 cases ib
 · have hno:P.goodS g p=false:=by unfold Pl.goodS Pl.has;rw[HIB.out,Bool.and_false];rfl
   have HNO:=lh hno;clear hno
   obtain⟨D1_c,D1_f,D1_z⟩:=D1.all
   obtain⟨D2_c,D2_f,D2_z⟩:=D2.all
   go_wp2_with fail
   refine bodyPost_ret (v:=.tuple #[.agg #[.slice of n kf,.slice or' r kr,.slice om m km],.bool false]) (by simp [results,Tryz.results71,go_sem,D2_c]) rfl ?_
   rw[show P.sok g p=false by unfold Pl.sok;rw[HNO.out];rfl]
   refine .inl ⟨rfl,rfl,?_⟩
   exact (((hbw.setCell (p:=⟨w.heap.size+1,0,none⟩) (by dsimp only;omega) _).setCell (p:=⟨w.heap.size+1,1,none⟩) (by dsimp only;omega) _).setCell (p:=⟨w.heap.size+1,2,none⟩) (by dsimp only;omega) _)
 have HHV:Hid (P.has g p=true):=by unfold Pl.has;rw[HVB.out,HIB.out];rfl
 have hh:=HHV.out
 unfold Pl.has at hh
 rw[Bool.and_eq_true] at hh
 obtain⟨hok,his⟩:=hh
 have H:=Pl.ok_iff.1 hok
 have hi:=his
 unfold Pl.is at hi
 rw[decide_eq_true_eq] at hi
 obtain⟨i,rfl⟩:∃ i:Nat,g=i:=⟨g.toNat,by omega⟩
 obtain⟨k,rfl⟩:∃ i:Nat,p=i:=⟨p.toNat,by omega⟩
 rw[Int.toNat_natCast] at hi
 obtain⟨l,f,hl,hp⟩:=Pl.is_at his
 have hfb:=H.page hl hp
 have hfr:=Pl.fr_eq hl hp
 have hRF:=H.r
 have hrb : -1000000≤P.ref (P.fr i k).toNat∧P.ref (P.fr i k).toNat≤1000000:=by
  by_cases h0:f<0
  · have h2:P.ref (P.fr i k).toNat=P.cnt (P.fr i k).toNat:=H.ref_eq (by rw[hfr];have:=H.n1;omega)
    have:=H.cnt_le (P.fr i k).toNat
    omega
  · have h2:P.ref (P.fr i k).toNat=P.cnt (P.fr i k).toNat:=H.ref_eq (by rw[hfr];omega)
    have:=H.cnt_le (P.fr i k).toNat
    omega
 have hfF:P.fr i k<P.F.length:=by rw[hfr];exact hfb.2
 have HRF:=lh hRF
 have HFF:=lh hfF
 have HFR:=lh hfr;clear hfr
 have HIS:=lh his;clear his
 have HRB:=lh hrb;clear hrb
 rw[HN.out] at hfb
 clear hRF hfF hok
 have gi:(i:Int)<(m:Int):=by rw[←HM.out];exact hi.2.1
 have ki:(k:Int)<(l.length:Int):=by rw[←Pl.pages_eq hl];exact hi.2.2.2
 obtain⟨mb,moff,uo,uc,rfl,hmb,cm,u1,u2,hr⟩:=h0.guest hl
 obtain⟨lb,loff,rfl,hlb,cl⟩:=hr.elem hp
 clear hr
 have HL:=lh hl;clear hl
 have HP:=lh hp;clear hp
 have cm2:=(hbw.cell (p:=⟨mb,moff+i,none⟩) hmb).trans cm
 have cl2:=(hbw.cell (p:=⟨lb,loff+k,none⟩) hlb).trans cl
 by_cases hneg:f<0
 · have hno:P.goodS i k=false:=by unfold Pl.goodS;rw[HHV.out,Int.toNat_natCast,Int.toNat_natCast,HFR.out];exact decide_eq_false (by omega)
   have HNO:=lh hno;clear hno
   have HSO:Hid (P.sok i k=false):=by unfold Pl.sok;rw[HNO.out];rfl
   have HSH:Hid (P.sh i k=P):=by unfold Pl.sh;rw[HNO.out];rfl
   obtain⟨D1_c,D1_f,D1_z⟩:=D1.all
   obtain⟨D2_c,D2_f,D2_z⟩:=D2.all
   go_wp2_with fail
   refine bodyPost_ret (v:=.tuple #[.agg #[.slice of n kf,.slice or' r kr,.slice (some ⟨mb,moff,none⟩) m km],.bool false]) (by simp [results,Tryz.results71,go_sem,D2_c]) rfl ?_
   rw[HSO.out]
   refine .inl ⟨rfl,rfl,?_⟩
   exact (((hbw.setCell (p:=⟨w.heap.size+1,0,none⟩) (by dsimp only;omega) _).setCell (p:=⟨w.heap.size+1,1,none⟩) (by dsimp only;omega) _).setCell (p:=⟨w.heap.size+1,2,none⟩) (by dsimp only;omega) _)
 obtain⟨j,rfl⟩:∃ i:Nat,f=i:=⟨f.toNat,by omega⟩
 have hgood:P.goodS i k=true:=by unfold Pl.goodS;rw[HHV.out,Int.toNat_natCast,Int.toNat_natCast,HFR.out];exact decide_eq_true (by omega)
 have hsh:P.sh i k=P.sh' i k:=by unfold Pl.sh;rw[hgood,Int.toNat_natCast,Int.toNat_natCast];rfl
 have hsok:P.sok i k=P.sok' i k:=by unfold Pl.sok;rw[hgood,Int.toNat_natCast,Int.toNat_natCast];rfl
 have HSH:=lh hsh;clear hsh
 have HSO:=lh hsok;clear hsok hgood
 obtain⟨s,hs⟩:=get_lt (xs:=P.F) (k:=j) (by rw[HN.out];omega)
 have htx:P.txt j=s:=by unfold Pl.txt;rw[hs];rfl
 have hlst:P.least i k=firstOf P.F s:=by unfold Pl.least;rw[HFR.out,Int.toNat_natCast,htx]
 have HLS:=lh hlst;clear hlst htx
 obtain⟨fb,foff,rfl,hfb1,cf⟩:=h0.parts.1.elem hs
 have HFC:Hid (∀ (u:Nat) (t:ByteArray),P.F[u]?=some t→w.cell? ⟨fb,foff+u,none⟩=some (.string t)):=fun u t hu=>by
  obtain⟨b',o',e,_,hc⟩:=h0.parts.1.elem hu
  injection e with e
  injection e with e1 e2
  subst e1 e2
  exact hc
 have HS:=lh hs;clear hs
 have jn:(j:Int)<(n:Int):=hfb.2
 have j0:(0:Int)≤(j:Int):=by omega
 have C:=fun w h=>rown_any (.agg #[.slice (some ⟨fb,foff,none⟩) n kf,.slice or' r kr,.slice (some ⟨mb,moff,none⟩) m km]) P w h H
 have HC:=lh C;clear C
 obtain⟨D1_c,D1_f,D1_z⟩:=D1.all
 obtain⟨D2_c,D2_f,D2_z⟩:=D2.all
 go_wp2_with fail
 clear D1_c D1_f D1_z
 clear D2_c D2_f D2_z
 clear cm2 cl2
 go_loopw [9] (fun iv wr=>∃ q:Nat,q≤j∧iv=.int .i64 q∧Hid (∀ u:Nat,u<q→P.F[u]?≠some s)∧HasBlock wr w.heap.size #[.slice (some ⟨fb,foff,none⟩) n kf,.slice or' r kr,.slice (some ⟨mb,moff,none⟩) m km] 26∧HasBlock wr (w.heap.size+1) #[.slice none 0 0,.slice none 0 0,.slice none 0 0] 26∧Below w.heap.size w wr∧w.heap.size+1+1≤wr.heap.size) (fun iv _=>j - (intOf iv).toNat)
 case atStart=>exact⟨0,Nat.zero_le _,rfl,fun u hu=>absurd hu (Nat.not_lt_zero _),D1,D2,hbw,hz⟩
 case round =>
  clear D1 D2 hbw hz h
  obtain⟨q,hq,rfl,hA,D1,D2,hbw,hz⟩:=hrel
  have cf2:=(hbw.cell (p:=⟨fb,foff+j,none⟩) hfb1).trans cf
  have hfb2:fb<wr.heap.size:=by have:=hbw.size;omega
  by_cases hlt:q<j
  · obtain⟨t,ht⟩:=get_lt (xs:=P.F) (k:=q) (by rw[HN.out];omega)
    have cq:=(hbw.cell (p:=⟨fb,foff+q,none⟩) hfb1).trans (HFC.out q t ht)
    have qn:(q:Int)<(n:Int):=by omega
    have q0:(0:Int)≤(q:Int):=by omega
    by_cases hts:t=s
    · subst hts
      have hfo:firstOf P.F t=some q:=firstOf_some.2 ⟨ht,hA.out⟩
      have hqn:q<n:=by omega
      have hne:(q:Int)≠P.fr i k:=by rw[HFR.out];omega
      have hw1:P.sh' i k=P.join i k q:=by unfold Pl.sh';rw[HLS.out,hfo];dsimp only;rw[if_neg hne]
      have hw2:P.sok' i k=true:=by unfold Pl.sok';rw[HLS.out,hfo];dsimp only;rw[decide_eq_false hne];rfl
      have hrq:=giveUp_ref P i k q hne
      have hrq2:P.ref q=P.cnt q:=H.ref_eq (by rw[HN.out];exact hqn)
      have hrq3:=H.cnt_le q
      have HW1:=lh hw1;clear hw1
      have HW2:=lh hw2;clear hw2
      clear hne hfo ht
      have e1:(t.toList == t.toList)=true:=by simp
      obtain⟨D1_c,D1_f,D1_z⟩:=D1.all
      obtain⟨D2_c,D2_f,D2_z⟩:=D2.all
      go_wp2_with fail
      refine wp_region_quiet_below (by kernel_rfl) (by kernel_rfl) ?_
      repeat (go_big_quiet_step (first|fail|fail))
      refine wpQuiet_nil ?_
      intro w3 hw3
      have hb3:=below_of_regrown hw3
      clear hw3
      obtain⟨hc3,hf3⟩:=bcell hb3
      have hz3:=bsize hb3
      try simp only[sizes1] at hz3
      try simp only[sizes] at hc3 hf3
      clear hc3 hf3 hz3
      clear D1_c D1_f D1_z
      clear D2_c D2_f D2_z
      replace D1:=D1.below hb3
      replace D2:=D2.below hb3
      replace hbw:=hbw.trans (hb3.mono hbw.size)
      replace hz:=Nat.le_trans hz hb3.size
      clear hb3 cf2 cq e1 hfb2
      obtain⟨D1_c,D1_f,D1_z⟩:=D1.all
      obtain⟨D2_c,D2_f,D2_z⟩:=D2.all
      go_wp2_with fail
      clear D1_c D1_f D1_z
      clear D2_c D2_f D2_z
      with_reducible refine (HC.out _ (h0.below hbw)).mono ?_
      rintro e w4 ⟨of1,or1,om1,kf1',kr1',km1',us,rfl,hO,hb4⟩
      rw[HN.out,HR.out,HM.out] at hO ⊢
      replace hO:=hO.lower hz
      replace D1:=D1.below hb4
      replace D2:=D2.below hb4
      replace hbw:=hbw.trans (hb4.mono hbw.size)
      replace hz:=Nat.le_trans hz hb4.size
      clear hb4
      obtain⟨D1_c,D1_f,D1_z⟩:=D1.all
      obtain⟨D2_c,D2_f,D2_z⟩:=D2.all
      go_wp2_with fail
      clear D1_c D1_f D1_z
      clear D2_c D2_f D2_z
      have hT:=hO.lt
      have D3:=HasBlock.made w4 #[.slice of1 n kf1',.slice or1 r kr1',.slice om1 m km1'] 26
      replace D1:=D1.alloc (.cells #[.slice of1 n kf1',.slice or1 r kr1',.slice om1 m km1'] 26)
      replace D2:=D2.alloc (.cells #[.slice of1 n kf1',.slice or1 r kr1',.slice om1 m km1'] 26)
      replace hO:=hO.alloc (.cells #[.slice of1 n kf1',.slice or1 r kr1',.slice om1 m km1'] 26)
      replace hbw:=hbw.alloc hbw.size (.cells #[.slice of1 n kf1',.slice or1 r kr1',.slice om1 m km1'] 26)
      have hz2:w4.heap.size+1≤(w4.alloc (.cells #[.slice of1 n kf1',.slice or1 r kr1',.slice om1 m km1'] 26)).heap.size:=Nat.le_of_eq (World.size_alloc ..).symm
      obtain⟨B,hB⟩:∃ B,w4.heap.size=B:=⟨_,rfl⟩
      rw[hB] at D3 hz hT hz2 ⊢
      generalize hW:w4.alloc (.cells #[.slice of1 n kf1',.slice or1 r kr1',.slice om1 m km1'] 26)=w5 at D1 D2 D3 hO hbw hz2 ⊢
      clear hW hB
      have G:=fun w' hO=>leave_any (w.heap.size+1+1) B (.slice of1 n kf1') (.slice or1 r kr1') (.slice om1 m km1') us P i k w' hO hT HIS.out HFF.out HRF.out HRB.out
      have HG:=lh G;clear G
      obtain⟨bm,km2,bu,ku,e0,hus,c1,c2,c3,k1,k2,k3,k4,k5⟩:=hO.page HL.out HP.out
      injection e0 with e0 e9 e10
      subst e0 e10
      clear e9 c1 c2 c3 k2 k4
      have lu:=hT.u i _ hus bu rfl
      have n1:B≠bu:=by omega
      have HU:=lh hus;clear hus
      with_reducible refine (HG.out _ hO).mono ?_
      rintro e w6 ⟨rfl,hO6,hb6⟩
      replace D1:=D1.btw hb6 (.inl (by omega))
      replace D2:=D2.btw hb6 (.inl (by omega))
      replace D3:=D3.btw hb6 (.inr (nlr _))
      replace hbw:=hbw.trans ((hb6.below (by omega)).mono (by omega))
      replace hz2:=Nat.le_trans hz2 hb6.size
      clear hb6 hO
      have L:=P.giveUp_len i k
      have hL1:=L.1.trans HN.out
      have hL2:=L.2.1.trans HR.out
      have hL3:=L.2.2.trans HM.out
      have his2:(P.giveUp i k).is i k=true:=(P.giveUp_is i k i k).trans HIS.out
      obtain⟨l2,f2,hl2,hp2⟩:=Pl.is_at his2
      have hlen:l2.length=l.length:=by rw[←Pl.pages_eq hl2,Pl.giveUp_pages,Pl.pages_eq HL.out]
      obtain⟨bm2,km3,bu2,ku2,e0,hus2,c1,c2,c3,k1',k2',k3',k4',k5'⟩:=hO6.page hl2 hp2
      rw[hlen] at hus2 c1
      injection e0 with e0 e9 e10
      injection e0 with e0
      injection e0 with e0 e8
      subst e0
      clear e9 e10
      rw[HU.out] at hus2
      injection hus2 with hus2
      injection hus2 with e0 e9 e10
      injection e0 with e0
      injection e0 with e0 e8
      subst e0
      clear e9 hlen hl2 hp2 his2
      obtain⟨x2,hx2⟩:=get_lt (xs:=(P.giveUp i k).R) (k:=q) (by rw[L.2.1,H.r,HN.out];exact hqn)
      obtain⟨gr,rfl,r1',r2'⟩:=hO6.r.addr hL2 (by have:=lt_of_get hx2;rw[hL2] at this;omega)
      have hxr:(P.giveUp i k).ref q=x2:=by unfold Pl.ref;rw[hx2];rfl
      have hx2b:0≤x2∧x2≤256:=by rw[←hxr,hrq,hrq2];omega
      have lr:=hT.r gr rfl
      have qr:(q:Int)<(r:Int):=by have:=lt_of_get hx2;rw[hL2] at this;omega
      have n3:B≠gr:=by omega
      have n4:=hO6.r_ne HU.out
      have n7:bm≠gr:=fun e=>own_ne_type hO6.m hO6.r (by decide) (k:=bm) rfl (by rw[e];rfl)
      have hO7:=hO6.putM HU.out k q
      have HX2:=lh hx2;clear hx2
      have hE:P.join i k q=((P.giveUp i k).setM i k q).setR q (x2+1):=by unfold Pl.join;rw[hxr]
      have HE:=lh hE
      have hl1:(P.join i k q).F.length=n:=by rw[hE];simp only[Pl.setR,Pl.setM];exact hL1
      have hl2:(P.join i k q).R.length=r:=by rw[hE];simp only[Pl.setR,Pl.setM,List.length_set];exact hL2
      have hl3:(P.join i k q).M.length=m:=by rw[hE];simp only[Pl.setR,Pl.setM,List.length_set];exact hL3
      have Hl1:=lh hl1
      have Hl2:=lh hl2
      have Hl3:=lh hl3
      clear hl1 hl2 hl3 hE hL1 hL2 hL3 L hrq hrq2 hxr
      obtain⟨D1_c,D1_f,D1_z⟩:=D1.all
      obtain⟨D2_c,D2_f,D2_z⟩:=D2.all
      obtain⟨D3_c,D3_f,D3_z⟩:=D3.all
      go_wp2_with fail
      clear D1_c D1_f D1_z
      clear D2_c D2_f D2_z
      clear D3_c D3_f D3_z
      clear c1 c2 c3 k2' k4'
      replace D1:=D1.set_ne (b':=bu) (j:=k) (by omega) (.int .i64 q)
      replace D2:=D2.set_ne (b':=bu) (j:=k) (by omega) (.int .i64 q)
      replace D3:=D3.set_ne (b':=bu) (j:=k) n1 (.int .i64 q)
      replace hbw:=hbw.setCell (p:=⟨bu,k,none⟩) (by dsimp only;omega) (.int .i64 q)
      replace hz2:B+1≤(w6.setCell ⟨bu,k,none⟩ (.int .i64 q)).heap.size:=by rw[World.size_setCell];exact hz2
      clear hO6
      generalize hW:w6.setCell ⟨bu,k,none⟩ (.int .i64 q)=w7 at D1 D2 D3 hO7 hbw hz2 ⊢
      clear hW
      obtain⟨u3,u4⟩:=hO7.r.at HX2.out
      have hr2:=(World.ownsRow.lt hO7.r.raw gr rfl).2
      have q0':(0:Int)≤(q:Int):=by omega
      obtain⟨D1_c,D1_f,D1_z⟩:=D1.all
      obtain⟨D2_c,D2_f,D2_z⟩:=D2.all
      obtain⟨D3_c,D3_f,D3_z⟩:=D3.all
      refine wp_region_tail_below 10 (by kernel_rfl) (by kernel_rfl) ?_
      simp only[List.take_succ_cons,List.take_zero,List.drop_succ_cons,List.drop_zero]
      repeat (go_big_quiet_step (first|fail|fail))
      refine wpQuiet_nil ?_
      intro w8 hw8
      have hb8:=below_of_regrown hw8
      clear hw8
      obtain⟨hc8,hf8⟩:=bcell hb8
      have hz8:=bsize hb8
      try simp only[sizes1] at hz8
      try simp only[sizes] at hc8 hf8
      clear hc8 hf8 hz8
      clear D1_c D1_f D1_z
      clear D2_c D2_f D2_z
      clear D3_c D3_f D3_z
      replace D1:=D1.below hb8
      replace D2:=D2.below hb8
      replace D3:=D3.below hb8
      replace hO7:=hO7.below hb8
      replace hbw:=hbw.trans (hb8.mono hbw.size)
      clear hb8 u3 u4 hr2 r2'
      obtain⟨u3,u4⟩:=hO7.r.at HX2.out
      have hO8:=hO7.putR q (x2+1)
      rw[←HE.out] at hO8
      have hbw7:=hbw.setCell (p:=⟨gr,q,none⟩) (by dsimp only;omega) (.int .i64 (x2+1))
      obtain⟨D1_c,D1_f,D1_z⟩:=D1.all
      obtain⟨D2_c,D2_f,D2_z⟩:=D2.all
      obtain⟨D3_c,D3_f,D3_z⟩:=D3.all
      go_wp2_with fail
      clear hbw
      have hbw:=hbw7
      refine bodyPost_ret (v:=.tuple #[.agg #[.slice of1 n kf1',.slice (some ⟨gr,0,none⟩) r kr1',.slice (some ⟨bm,0,none⟩) m km1'],.bool true]) (by simp [results,Tryz.results71,go_sem,D2_c]) rfl ?_
      rw[HSO.out,HW2.out]
      exact .inr ⟨rfl,ret_poolb (Q:=P.join i k q) Hl1.out Hl2.out Hl3.out (HSH.out.trans HW1.out) (((hO8.setlow (b:=w.heap.size+1) (j:=0) (by omega) _).setlow (b:=w.heap.size+1) (j:=1) (by omega) _).setlow (b:=w.heap.size+1) (j:=2) (by omega) _) (((hbw.setCell (p:=⟨w.heap.size+1,0,none⟩) (by dsimp only;omega) _).setCell (p:=⟨w.heap.size+1,1,none⟩) (by dsimp only;omega) _).setCell (p:=⟨w.heap.size+1,2,none⟩) (by dsimp only;omega) _)⟩
    · have hup:∀ u:Nat,u<q+1→P.F[u]?≠some s:=fun u hu e=>by
        by_cases e2:u=q
        · subst e2
          rw[ht] at e
          injection e with e
          exact hts e
        · exact hA.out u (by omega) e
      have HUP:=lh hup;clear hup ht
      have e1:=toList_ne hts
      clear hts
      obtain⟨D1_c,D1_f,D1_z⟩:=D1.all
      obtain⟨D2_c,D2_f,D2_z⟩:=D2.all
      go_wp2_with fail
      refine wp_region_quiet_below (by kernel_rfl) (by kernel_rfl) ?_
      repeat (go_big_quiet_step (first|fail|fail))
      refine wpQuiet_nil ?_
      intro w3 hw3
      have hb3:=below_of_regrown hw3
      clear hw3
      obtain⟨hc3,hf3⟩:=bcell hb3
      have hz3:=bsize hb3
      try simp only[sizes1] at hz3
      try simp only[sizes] at hc3 hf3
      clear hc3 hf3 hz3
      clear D1_c D1_f D1_z
      clear D2_c D2_f D2_z
      replace D1:=D1.below hb3
      replace D2:=D2.below hb3
      replace hbw:=hbw.trans (hb3.mono hbw.size)
      replace hz:=Nat.le_trans hz hb3.size
      clear hb3 cf2 cq e1 hfb2
      obtain⟨D1_c,D1_f,D1_z⟩:=D1.all
      obtain⟨D2_c,D2_f,D2_z⟩:=D2.all
      go_wp2_with fail
      go_roundw
      case rel=>exact⟨q+1,by omega,by go_num,HUP.out,D1,D2,hbw,hz⟩
      case measure=>simp [intOf];omega
  · obtain rfl:q=j:=by omega
    have hfo:firstOf P.F s=some q:=firstOf_some.2 ⟨HS.out,hA.out⟩
    have hw1:P.sh' i k=P:=by unfold Pl.sh';rw[HLS.out,hfo];dsimp only;rw[if_pos HFR.out.symm]
    have hw2:P.sok' i k=false:=by unfold Pl.sok';rw[HLS.out,hfo];dsimp only;rw[HFR.out,decide_eq_true rfl];rfl
    have HW1:=lh hw1;clear hw1
    have HW2:=lh hw2;clear hw2
    clear hfo
    obtain⟨D1_c,D1_f,D1_z⟩:=D1.all
    obtain⟨D2_c,D2_f,D2_z⟩:=D2.all
    go_wp2_with fail
    refine bodyPost_ret (v:=.tuple #[.agg #[.slice (some ⟨fb,foff,none⟩) n kf,.slice or' r kr,.slice (some ⟨mb,moff,none⟩) m km],.bool false]) (by simp [results,Tryz.results71,go_sem,D2_c]) rfl ?_
    rw[HSO.out,HW2.out]
    refine .inl ⟨rfl,rfl,?_⟩
    exact (((hbw.setCell (p:=⟨w.heap.size+1,0,none⟩) (by dsimp only;omega) _).setCell (p:=⟨w.heap.size+1,1,none⟩) (by dsimp only;omega) _).setCell (p:=⟨w.heap.size+1,2,none⟩) (by dsimp only;omega) _)
end Go.Proofs.YtbnngjhnkegliaaGreat
