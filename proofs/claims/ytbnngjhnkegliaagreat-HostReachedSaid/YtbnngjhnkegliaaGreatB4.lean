/-
  Texts joined: PlRead PlWrite PlShare. No law is proved here.
-/
import Derived.Test.YtbnngjhnkegliaaGreatB3
namespace Go.Proofs.YtbnngjhnkegliaaGreat
open Go.RowKit
def Pl.read (P:Pl) (g p:Int):ByteArray:=if P.has g p then (if P.fr g.toNat p.toNat<0 then zeros128 else P.txt (P.fr g.toNat p.toNat).toNat) else ⟨#[]⟩
set_option maxHeartbeats 2000000 in
theorem pread_any (v:Value) (P:Pl) (g p:Int) (w:World) (h:PlRow w v P) (hf:P.fit):Calls Tryz.prog 52 #[v,.int .i64 g,.int .i64 p] w (Ret w (.tuple #[.string (P.read g p),.bool (P.has g p)])):=by
 have hrd:P.read g p=if P.has g p then (if P.fr g.toNat p.toNat<0 then zeros128 else P.txt (P.fr g.toNat p.toNat).toNat) else ⟨#[]⟩:=rfl
 have HRD:=lh hrd;clear hrd
 obtain⟨of,or',om,kf,kr,km,rfl,kf1,kf2,kr1,kr2,km1,km2⟩:=h.form
 obtain⟨n,hn⟩:∃ n,P.F.length=n:=⟨_,rfl⟩
 obtain⟨r,hr⟩:∃ n,P.R.length=n:=⟨_,rfl⟩
 obtain⟨m,hm⟩:∃ n,P.M.length=n:=⟨_,rfl⟩
 rw[hn] at h kf1 ⊢
 rw[hr] at h kr1 ⊢
 rw[hm] at h km1 ⊢
 have HN:=lh hn;clear hn
 have HR:=lh hr;clear hr
 have HM:=lh hm;clear hm
 have V:=fun w h=>phas_any (.agg #[.slice of n kf,.slice or' r kr,.slice om m km]) P g p w h hf
 clear hf
 cases hh:P.has g p
 · rw[hh] at V HRD
   have HV:=lh V;clear V
   have HH:=lh hh;clear hh
   go_enter Tryz.func52,Tryz.ntmps52
   go_wp2_with fail
   with_reducible refine (HV.out _ (h.below bel)).mono ?_
   rintro e w1 ⟨rfl,hb1⟩
   obtain⟨hc1,hf1⟩:=bcell hb1
   have hz1:=bsize hb1
   try simp only[sizes1] at hz1
   try simp only[sizes] at hc1 hf1
   go_wp2_with fail
   go_ret2
   exact Ret.mk' (by rw[HRD.out];rfl) bel
 · rw[hh] at V HRD
   have HV:=lh V;clear V
   unfold Pl.has at hh
   rw[Bool.and_eq_true] at hh
   obtain⟨hok,his⟩:=hh
   have H:=Pl.ok_iff.1 hok
   have hi:=his
   unfold Pl.is at hi
   rw[decide_eq_true_eq] at hi
   obtain⟨i,rfl⟩:∃ i:Nat,g=i:=⟨g.toNat,by omega⟩
   obtain⟨k,rfl⟩:∃ i:Nat,p=i:=⟨p.toNat,by omega⟩
   obtain⟨l,f,hl,hp⟩:=Pl.is_at his
   have hfb:=H.page hl hp
   rw[HN.out] at hfb
   have hfr:=Pl.fr_eq hl hp
   rw[if_pos rfl,Int.toNat_natCast,Int.toNat_natCast,hfr] at HRD
   have hpl:=Pl.pages_eq hl
   rw[HM.out,Int.toNat_natCast,hpl] at hi
   clear hok his H hfr hpl
   obtain⟨mb,moff,uo,uc,rfl,hmb,cm,u1,u2,hrow⟩:=h.guest hl
   obtain⟨lb,loff,rfl,hlb,cl⟩:=hrow.elem hp
   clear hrow hl hp
   by_cases h0:f<0
   · rw[if_pos h0] at HRD
     go_enter Tryz.func52,Tryz.ntmps52
     go_wp2_with fail
     with_reducible refine (HV.out _ (h.below bel)).mono ?_
     rintro e w1 ⟨rfl,hb1⟩
     obtain⟨hc1,hf1⟩:=bcell hb1
     have hz1:=bsize hb1
     try simp only[sizes1] at hz1
     try simp only[sizes] at hc1 hf1
     go_wp2_with fail
     with_reducible refine (rep_any _).mono ?_
     rintro e w2 ⟨rfl,hb2⟩
     obtain⟨hc2,hf2⟩:=bcell hb2
     have hz2:=bsize hb2
     try simp only[sizes1] at hz2
     try simp only[sizes] at hc2 hf2
     go_wp2_with fail
     go_ret2
     exact Ret.mk' (by rw[HRD.out];rfl) bel
   · rw[if_neg h0] at HRD
     obtain⟨j,rfl⟩:∃ i:Nat,f=i:=⟨f.toNat,by omega⟩
     obtain⟨s,hs⟩:=get_lt (xs:=P.F) (k:=j) (by rw[HN.out];omega)
     obtain⟨fb,foff,rfl,hfb1,cf⟩:=(h.parts.1).elem hs
     have ht:P.txt (j:Int).toNat=s:=by unfold Pl.txt;rw[Int.toNat_natCast,hs];rfl
     rw[ht] at HRD
     clear ht hs
     go_enter Tryz.func52,Tryz.ntmps52
     go_wp2_with fail
     with_reducible refine (HV.out _ (h.below bel)).mono ?_
     rintro e w1 ⟨rfl,hb1⟩
     obtain⟨hc1,hf1⟩:=bcell hb1
     have hz1:=bsize hb1
     try simp only[sizes1] at hz1
     try simp only[sizes] at hc1 hf1
     go_wp2_with fail
     go_ret2
     exact Ret.mk' (by rw[HRD.out];rfl) bel
def Pl.goodW (P:Pl) (g p:Int) (d:ByteArray):Bool:=P.has g p && decide (d.size=128)
def Pl.own (P:Pl) (g p:Nat):Bool:=decide (0≤P.fr g p) && decide (P.ref (P.fr g p).toNat=1)
def Pl.wr' (P:Pl) (g p:Nat) (d:ByteArray):Pl :=
 if zeroB d then P.giveUp g p
 else if P.own g p then P.setF (P.fr g p).toNat d
 else match firstOf P.F ⟨#[]⟩ with
  | some i=>P.take g p i d
  | none=>P
def Pl.wok' (P:Pl) (g p:Nat) (d:ByteArray):Bool:=zeroB d || P.own g p || (firstOf P.F ⟨#[]⟩).isSome
def Pl.wr (P:Pl) (g p:Int) (d:ByteArray):Pl:=if P.goodW g p d then P.wr' g.toNat p.toNat d else P
def Pl.wok (P:Pl) (g p:Int) (d:ByteArray):Bool:=P.goodW g p d && P.wok' g.toNat p.toNat d
theorem Pl.giveUp_len (P:Pl) (g p:Nat):(P.giveUp g p).F.length=P.F.length∧(P.giveUp g p).R.length=P.R.length∧(P.giveUp g p).M.length=P.M.length:=by
 unfold Pl.giveUp
 split
 · exact⟨rfl,rfl,rfl⟩
 · split <;> simp [Pl.setF,Pl.setR,Pl.setM]
theorem Pl.setM_pages (P:Pl) (g p:Nat) (x:Int) (g':Nat):(P.setM g p x).pages g'=if g=g'∧g<P.M.length then (P.pages g).set p x else P.pages g':=by
 unfold Pl.pages Pl.setM
 dsimp only
 rw[List.getElem?_set]
 by_cases e:g=g'
 · subst e
   by_cases hl:g<P.M.length
   · rw[if_pos rfl,if_pos hl,if_pos ⟨rfl,hl⟩];rfl
   · rw[if_pos rfl,if_neg hl,if_neg (fun h=>hl h.2),List.getElem?_eq_none (by omega)]
 · rw[if_neg e,if_neg (fun h=>e h.1)]
theorem Pl.giveUp_pages (P:Pl) (g p:Nat) (g':Nat):((P.giveUp g p).pages g').length=(P.pages g').length:=by
 have h:∀ x,((P.setM g p x).pages g').length=(P.pages g').length:=fun x=>by
  rw[Pl.setM_pages]
  split
  · rename_i h
    rw[List.length_set,h.1]
  · rfl
 unfold Pl.giveUp
 split
 · rfl
 · split <;> exact h _
theorem Pl.giveUp_is (P:Pl) (g p:Nat) (a b:Int):(P.giveUp g p).is a b=P.is a b:=by
 unfold Pl.is
 rw[Pl.giveUp_pages,(P.giveUp_len g p).2.2]
theorem ret_poolb {P Q:Pl} {ok:Bool} {base n r m:Nat} {w w':World} {of or' om:Option Addr} {kf kr km:Nat} {us:List Value} (h1:Q.F.length=n) (h2:Q.R.length=r) (h3:Q.M.length=m) (e:P=Q) (h:OwnP base w' (.slice of n kf) (.slice or' r kr) (.slice om m km) us Q) (hb:Below w.heap.size w w') (hz:w.heap.size≤base:=by omega):RetPoolB P ok w (.returned (.tuple #[.agg #[.slice of n kf,.slice or' r kr,.slice om m km],.bool ok])) w':=by
 subst e
 subst h1 h2 h3
 exact⟨_,_,_,_,_,_,_,rfl,h.lower hz,hb⟩
set_option maxRecDepth 100000 in
set_option maxHeartbeats 4000000 in
theorem pwrite_own (v:Value) (P:Pl) (g p:Int) (d:ByteArray) (w:World) (h:PlRow w v P) (hf:P.fit) (hs:P.small):Calls Tryz.prog 48 #[v,.int .i64 g,.int .i64 p,.string d] w (RetPoolB (P.wr g p d) (P.wok g p d) w):=by
 obtain⟨of,or',om,kf,kr,km,rfl,kf1,kf2,kr1,kr2,km1,km2⟩:=h.form
 obtain⟨n,hn⟩:∃ n,P.F.length=n:=⟨_,rfl⟩
 obtain⟨r,hr⟩:∃ n,P.R.length=n:=⟨_,rfl⟩
 obtain⟨m,hm⟩:∃ n,P.M.length=n:=⟨_,rfl⟩
 rw[hn] at h kf1 ⊢
 rw[hr] at h kr1 ⊢
 rw[hm] at h km1 ⊢
 have HN:=lh hn;clear hn
 have HR:=lh hr;clear hr
 have HM:=lh hm;clear hm
 have V:=fun w h=>phas_any (.agg #[.slice of n kf,.slice or' r kr,.slice om m km]) P g p w h hf
 have C:=fun w h=>pclone_any (.agg #[.slice of n kf,.slice or' r kr,.slice om m km]) P w h hs
 clear hf hs
 have HC:=lh C;clear C
 obtain⟨hv,hhv⟩:∃ b,P.has g p=b:=⟨_,rfl⟩
 rw[hhv] at V
 have HV:=lh V;clear V
 have HHV:=lh hhv;clear hhv
 have D1:=(HasBlock.made w #[.slice of n kf,.slice or' r kr,.slice om m km] 26).alloc (.cells #[.slice none 0 0,.slice none 0 0,.slice none 0 0] 26)
 have D2:=HasBlock.made (w.alloc (.cells #[.slice of n kf,.slice or' r kr,.slice om m km] 26)) #[.slice none 0 0,.slice none 0 0,.slice none 0 0] 26
 have hbw:Below w.heap.size w ((w.alloc (.cells #[.slice of n kf,.slice or' r kr,.slice om m km] 26)).alloc (.cells #[.slice none 0 0,.slice none 0 0,.slice none 0 0] 26)):=bel
 have hz:w.heap.size+1+1≤((w.alloc (.cells #[.slice of n kf,.slice or' r kr,.slice om m km] 26)).alloc (.cells #[.slice none 0 0,.slice none 0 0,.slice none 0 0] 26)).heap.size:=by simp only[sizes];omega
 simp only[sizes] at D2
 replace h:=h.below hbw
 go_enter Tryz.func48,Tryz.ntmps48
 go_wp2_with fail
 with_reducible refine (HC.out _ h).mono ?_
 rintro e w1 ⟨of1,or1,om1,kf1',kr1',km1',us,rfl,hO,hb1⟩
 rw[HN.out,HR.out,HM.out] at hO ⊢
 replace hO:=hO.lower hz
 replace D1:=D1.below hb1
 replace D2:=D2.below hb1
 replace h:=h.below hb1
 replace hbw:=hbw.trans (hb1.mono hbw.size)
 replace hz:=Nat.le_trans hz hb1.size
 clear hb1
 have hT:=hO.lt
 obtain⟨D1_c,D1_f,D1_z⟩:=D1.all
 obtain⟨D2_c,D2_f,D2_z⟩:=D2.all
 go_wp2_with fail
 clear D1_c D1_f D1_z
 clear D2_c D2_f D2_z
 have hbx:Below w1.heap.size w1 (w1.alloc (.cells #[.slice of1 n kf1',.slice or1 r kr1',.slice om1 m km1'] 26)):=(Below.refl _ _).alloc (nlr _) _
 replace D1:=D1.below hbx
 replace D2:=D2.below hbx
 have D3:=HasBlock.made w1 #[.slice of1 n kf1',.slice or1 r kr1',.slice om1 m km1'] 26
 replace h:=h.below hbx
 replace hO:=hO.below hbx
 replace hbw:=hbw.trans (hbx.mono hbw.size)
 have hz2:w1.heap.size+1≤(w1.alloc (.cells #[.slice of1 n kf1',.slice or1 r kr1',.slice om1 m km1'] 26)).heap.size:=Nat.le_of_eq (World.size_alloc ..).symm
 clear hbx
 obtain⟨B,hB⟩:∃ B,w1.heap.size=B:=⟨_,rfl⟩
 rw[hB] at D3 hz hT hz2 ⊢
 generalize hW:w1.alloc (.cells #[.slice of1 n kf1',.slice or1 r kr1',.slice om1 m km1'] 26)=w2 at D1 D2 D3 h hO hbw hz2 ⊢
 clear hW hB
 with_reducible refine (HV.out _ h).mono ?_
 rintro e w3 ⟨rfl,hb3⟩
 replace hz2:=Nat.le_trans hz2 hb3.size
 replace D1:=D1.below hb3
 replace D2:=D2.below hb3
 replace D3:=D3.below hb3
 replace h:=h.below hb3
 replace hO:=hO.below hb3
 replace hbw:=hbw.trans (hb3.mono hbw.size)
 clear hb3
 cases hv
 · have hno:P.goodW g p d=false:=by unfold Pl.goodW;rw[HHV.out];rfl
   have HNO:=lh hno;clear hno
   obtain⟨D1_c,D1_f,D1_z⟩:=D1.all
   obtain⟨D2_c,D2_f,D2_z⟩:=D2.all
   obtain⟨D3_c,D3_f,D3_z⟩:=D3.all
   go_wp2_with fail
   refine bodyPost_ret (v:=.tuple #[.agg #[.slice of1 n kf1',.slice or1 r kr1',.slice om1 m km1'],.bool false]) (by simp [results,Tryz.results48,go_sem,D2_c]) rfl ?_
   rw[show P.wok g p d=false by unfold Pl.wok;rw[HNO.out];rfl]
   exact ret_poolb HN.out HR.out HM.out (by unfold Pl.wr;rw[HNO.out];rfl) (((hO.setlow (b:=w.heap.size+1) (j:=0) (by omega) _).setlow (b:=w.heap.size+1) (j:=1) (by omega) _).setlow (b:=w.heap.size+1) (j:=2) (by omega) _) (((hbw.setCell (p:=⟨w.heap.size+1,0,none⟩) (by dsimp only;omega) _).setCell (p:=⟨w.heap.size+1,1,none⟩) (by dsimp only;omega) _).setCell (p:=⟨w.heap.size+1,2,none⟩) (by dsimp only;omega) _)
 by_cases hd:d.size=128
 rotate_left
 · have hno:P.goodW g p d=false:=by unfold Pl.goodW;rw[HHV.out,decide_eq_false hd];rfl
   have HNO:=lh hno;clear hno
   have de1:((d.size:Int) != 128)=true:=by rw[bne_iff_ne];omega
   have de2:(d.size != 128)=true:=by rw[bne_iff_ne];omega
   obtain⟨D1_c,D1_f,D1_z⟩:=D1.all
   obtain⟨D2_c,D2_f,D2_z⟩:=D2.all
   obtain⟨D3_c,D3_f,D3_z⟩:=D3.all
   go_wp2_with fail
   refine bodyPost_ret (v:=.tuple #[.agg #[.slice of1 n kf1',.slice or1 r kr1',.slice om1 m km1'],.bool false]) (by simp [results,Tryz.results48,go_sem,D2_c]) rfl ?_
   rw[show P.wok g p d=false by unfold Pl.wok;rw[HNO.out];rfl]
   exact ret_poolb HN.out HR.out HM.out (by unfold Pl.wr;rw[HNO.out];rfl) (((hO.setlow (b:=w.heap.size+1) (j:=0) (by omega) _).setlow (b:=w.heap.size+1) (j:=1) (by omega) _).setlow (b:=w.heap.size+1) (j:=2) (by omega) _) (((hbw.setCell (p:=⟨w.heap.size+1,0,none⟩) (by dsimp only;omega) _).setCell (p:=⟨w.heap.size+1,1,none⟩) (by dsimp only;omega) _).setCell (p:=⟨w.heap.size+1,2,none⟩) (by dsimp only;omega) _)
 have hgood:P.goodW g p d=true:=by unfold Pl.goodW;rw[HHV.out,decide_eq_true hd];rfl
 have hwr:P.wr g p d=P.wr' g.toNat p.toNat d:=by unfold Pl.wr;rw[hgood];rfl
 have hwok:P.wok g p d=P.wok' g.toNat p.toNat d:=by unfold Pl.wok;rw[hgood];rfl
 clear hgood
 have de1:((d.size:Int) != 128)=false:=by rw[bne_eq_false_iff_eq];omega
 have de2:(d.size != 128)=false:=by rw[bne_eq_false_iff_eq];omega
 clear hd
 have hh:=HHV.out
 unfold Pl.has at hh
 rw[Bool.and_eq_true] at hh
 obtain⟨hok,his⟩:=hh
 have H:=Pl.ok_iff.1 hok
 have hi:=his
 unfold Pl.is at hi
 rw[decide_eq_true_eq] at hi
 obtain⟨i,rfl⟩:∃ i:Nat,g=i:=⟨g.toNat,by omega⟩
 obtain⟨k,rfl⟩:∃ i:Nat,p=i:=⟨p.toNat,by omega⟩
 rw[Int.toNat_natCast,Int.toNat_natCast] at hwr hwok
 have HWR:=lh hwr;clear hwr
 have HWOK:=lh hwok;clear hwok
 rw[Int.toNat_natCast] at hi
 obtain⟨l,f,hl,hp⟩:=Pl.is_at his
 have hfb:=H.page hl hp
 have hfr:=Pl.fr_eq hl hp
 have hRF:=H.r
 have hrb : -1000000≤P.ref (P.fr i k).toNat∧P.ref (P.fr i k).toNat≤1000000:=by
  by_cases h0:f<0
  · have h2:P.ref (P.fr i k).toNat=P.cnt (P.fr i k).toNat:=H.ref_eq (by rw[hfr];have:=H.n1;omega)
    have:=H.cnt_le (P.fr i k).toNat
    omega
  · have h2:P.ref (P.fr i k).toNat=P.cnt (P.fr i k).toNat:=H.ref_eq (by rw[hfr];omega)
    have:=H.cnt_le (P.fr i k).toNat
    omega
 have hfF:P.fr i k<P.F.length:=by rw[hfr];exact hfb.2
 have G:=fun w' hO=>give_any (w.heap.size+1+1) B (.slice of1 n kf1') (.slice or1 r kr1') (.slice om1 m km1') us P i k w' hO hT his hfF hRF hrb
 have HG:=lh G;clear G
 have HFR:=lh hfr;clear hfr
 have HOK:=lh hok;clear hok
 have HIS:=lh his;clear his
 have HRB:=lh hrb;clear hrb
 rw[HN.out] at hfb
 clear hRF hfF h
 obtain⟨zb,hzb⟩:∃ b,zeroB d=b:=⟨_,rfl⟩
 have Z:=fun w=>zeros_any d w
 rw[hzb] at Z
 have HZ:=lh Z;clear Z
 have HZB:=lh hzb;clear hzb
 obtain⟨D1_c,D1_f,D1_z⟩:=D1.all
 obtain⟨D2_c,D2_f,D2_z⟩:=D2.all
 obtain⟨D3_c,D3_f,D3_z⟩:=D3.all
 go_wp2_with fail
 clear D1_c D1_f D1_z
 clear D2_c D2_f D2_z
 clear D3_c D3_f D3_z
 with_reducible refine (HZ.out _).mono ?_
 rintro e w4 ⟨rfl,hb4⟩
 replace hz2:=Nat.le_trans hz2 hb4.size
 replace D1:=D1.below hb4
 replace D2:=D2.below hb4
 replace D3:=D3.below hb4
 replace hO:=hO.below hb4
 replace hbw:=hbw.trans (hb4.mono hbw.size)
 clear hb4
 cases zb
 rotate_left
 · have hw1:P.wr' i k d=P.giveUp i k:=by unfold Pl.wr';rw[HZB.out];rfl
   have hw2:P.wok' i k d=true:=by unfold Pl.wok';rw[HZB.out];rfl
   have HW1:=lh hw1;clear hw1
   have HW2:=lh hw2;clear hw2
   obtain⟨D1_c,D1_f,D1_z⟩:=D1.all
   obtain⟨D2_c,D2_f,D2_z⟩:=D2.all
   obtain⟨D3_c,D3_f,D3_z⟩:=D3.all
   go_wp2_with fail
   clear D1_c D1_f D1_z
   clear D2_c D2_f D2_z
   clear D3_c D3_f D3_z
   with_reducible refine (HG.out _ hO).mono ?_
   rintro e w5 ⟨rfl,hO5,hb5⟩
   replace D1:=D1.btw hb5 (.inl (by omega))
   replace D2:=D2.btw hb5 (.inl (by omega))
   replace D3:=D3.btw hb5 (.inr (nlr _))
   replace hbw:=hbw.trans ((hb5.below (by omega)).mono (by omega))
   have hz5:=hb5.size
   clear hb5 hO
   obtain⟨D1_c,D1_f,D1_z⟩:=D1.all
   obtain⟨D2_c,D2_f,D2_z⟩:=D2.all
   obtain⟨D3_c,D3_f,D3_z⟩:=D3.all
   go_wp2_with fail
   refine bodyPost_ret (v:=.tuple #[.agg #[.slice of1 n kf1',.slice or1 r kr1',.slice om1 m km1'],.bool true]) (by simp [results,Tryz.results48,go_sem,D2_c]) rfl ?_
   have L:=P.giveUp_len i k
   rw[HWOK.out,HW2.out]
   exact ret_poolb (by rw[L.1];exact HN.out) (by rw[L.2.1];exact HR.out) (by rw[L.2.2];exact HM.out) (HWR.out.trans HW1.out) (((hO5.setlow (b:=w.heap.size+1) (j:=0) (by omega) _).setlow (b:=w.heap.size+1) (j:=1) (by omega) _).setlow (b:=w.heap.size+1) (j:=2) (by omega) _) (((hbw.setCell (p:=⟨w.heap.size+1,0,none⟩) (by dsimp only;omega) _).setCell (p:=⟨w.heap.size+1,1,none⟩) (by dsimp only;omega) _).setCell (p:=⟨w.heap.size+1,2,none⟩) (by dsimp only;omega) _)
 obtain⟨bm,km2,bu,ku,e0,hus,c1,c2,c3,k1,k2,k3,k4,k5⟩:=hO.page hl hp
 injection e0 with e0 e9 e10
 subst e0 e10
 clear e9
 have lu:=hT.u i _ hus bu rfl
 have HU:=lh hus;clear hus
 have gi:(i:Int)<(m:Int):=by rw[←HM.out];exact hi.2.1
 have ki:(k:Int)<(l.length:Int):=by rw[←Pl.pages_eq hl];exact hi.2.2.2
 have HL:=lh hl;clear hl
 have HP:=lh hp;clear hp
 have n1:B≠bu:=by omega
 by_cases ho:0≤f∧P.ref f.toNat=1
 · obtain⟨h0,h1⟩:=ho
   obtain⟨j,rfl⟩:∃ i:Nat,f=i:=⟨f.toNat,by omega⟩
   rw[Int.toNat_natCast] at h1
   have hown:P.own i k=true:=by unfold Pl.own;rw[HFR.out,decide_eq_true h0,Int.toNat_natCast,decide_eq_true h1];rfl
   have hw1:P.wr' i k d=P.setF j d:=by unfold Pl.wr';rw[HZB.out,hown,HFR.out];rfl
   have hw2:P.wok' i k d=true:=by unfold Pl.wok';rw[HZB.out,hown];rfl
   have HW1:=lh hw1;clear hw1
   have HW2:=lh hw2;clear hw2 hown
   obtain⟨x,hx⟩:=get_lt (xs:=P.R) (k:=j) (by rw[H.r,HN.out];omega)
   obtain⟨s,hs⟩:=get_lt (xs:=P.F) (k:=j) (by rw[HN.out];omega)
   have hx1:x=1:=by unfold Pl.ref at h1;rw[hx] at h1;exact h1
   subst hx1
   obtain⟨gf,rfl,f1,f2⟩:=hO.f.addr HN.out (by omega)
   obtain⟨gr,rfl,r1,r2⟩:=hO.r.addr HR.out (by have:=lt_of_get hx;rw[HR.out] at this;omega)
   obtain⟨t1,t2⟩:=hO.f.at hs
   obtain⟨t3,t4⟩:=hO.r.at hx
   have lf:=hT.f gf rfl
   have jr:(j:Int)<(r:Int):=by have:=lt_of_get hx;rw[HR.out] at this;omega
   have jn:(j:Int)<(n:Int):=hfb.2
   have n2:B≠gf:=by omega
   clear hs hx h1
   have hO2:=hO.putF j d
   obtain⟨D1_c,D1_f,D1_z⟩:=D1.all
   obtain⟨D2_c,D2_f,D2_z⟩:=D2.all
   obtain⟨D3_c,D3_f,D3_z⟩:=D3.all
   go_wp2_with fail
   refine bodyPost_ret (v:=.tuple #[.agg #[.slice (some ⟨gf,0,none⟩) n kf1',.slice (some ⟨gr,0,none⟩) r kr1',.slice (some ⟨bm,0,none⟩) m km1'],.bool true]) (by simp [results,Tryz.results48,go_sem,D2_c]) rfl ?_
   rw[HWOK.out,HW2.out]
   refine ret_poolb (Q:=P.setF j d) (by rw[←HN.out];exact List.length_set ..) HR.out HM.out (HWR.out.trans HW1.out) (((hO2.setlow (b:=w.heap.size+1) (j:=0) (by omega) _).setlow (b:=w.heap.size+1) (j:=1) (by omega) _).setlow (b:=w.heap.size+1) (j:=2) (by omega) _) ?_
   replace hbw:=hbw.setCell (p:=⟨gf,j,none⟩) (by dsimp only;omega) (.string d)
   exact (((hbw.setCell (p:=⟨w.heap.size+1,0,none⟩) (by dsimp only;omega) _).setCell (p:=⟨w.heap.size+1,1,none⟩) (by dsimp only;omega) _).setCell (p:=⟨w.heap.size+1,2,none⟩) (by dsimp only;omega) _)
 have hown:P.own i k=false:=by
  unfold Pl.own
  rw[HFR.out,Bool.eq_false_iff]
  intro h
  rw[Bool.and_eq_true,decide_eq_true_eq,decide_eq_true_eq] at h
  exact ho h
 have IX:=fun w h=>index_any (.slice of1 n kf1') P.F ⟨#[]⟩ w h
 cases hfo:firstOf P.F ⟨#[]⟩ with
 | none =>
   have hw1:P.wr' i k d=P:=by unfold Pl.wr';rw[HZB.out,hown,hfo];rfl
   have hw2:P.wok' i k d=false:=by unfold Pl.wok';rw[HZB.out,hown,hfo];rfl
   have HW1:=lh hw1;clear hw1
   have HW2:=lh hw2;clear hw2 hown
   have hidx:idxI P.F ⟨#[]⟩ = -1:=by unfold idxI;rw[hfo]
   rw[hidx] at IX
   have HIX:=lh IX;clear IX
   clear hidx hfo
   by_cases h0:f<0
   · have g0:decide (0≤f)=false:=decide_eq_false (by omega)
     have g1:decide (f<0)=true:=decide_eq_true h0
     obtain⟨D1_c,D1_f,D1_z⟩:=D1.all
     obtain⟨D2_c,D2_f,D2_z⟩:=D2.all
     obtain⟨D3_c,D3_f,D3_z⟩:=D3.all
     go_wp2_with fail
     clear D1_c D1_f D1_z
     clear D2_c D2_f D2_z
     clear D3_c D3_f D3_z
     with_reducible refine (HIX.out _ hO.f.row).mono ?_
     rintro e w5 ⟨rfl,hb5⟩
     replace hz2:=Nat.le_trans hz2 hb5.size
     replace D1:=D1.below hb5
     replace D2:=D2.below hb5
     replace D3:=D3.below hb5
     replace hO:=hO.below hb5
     replace hbw:=hbw.trans (hb5.mono hbw.size)
     clear hb5 c1 c2 c3 k2 k4
     clear g0 g1 h0 ho
     obtain⟨D1_c,D1_f,D1_z⟩:=D1.all
     obtain⟨D2_c,D2_f,D2_z⟩:=D2.all
     obtain⟨D3_c,D3_f,D3_z⟩:=D3.all
     go_wp2_with fail
     refine bodyPost_ret (v:=.tuple #[.agg #[.slice of1 n kf1',.slice or1 r kr1',.slice (some ⟨bm,0,none⟩) m km1'],.bool false]) (by simp [results,Tryz.results48,go_sem,D2_c]) rfl ?_
     rw[HWOK.out,HW2.out]
     exact ret_poolb (Q:=P) HN.out HR.out HM.out (HWR.out.trans HW1.out) (((hO.setlow (b:=w.heap.size+1) (j:=0) (by omega) _).setlow (b:=w.heap.size+1) (j:=1) (by omega) _).setlow (b:=w.heap.size+1) (j:=2) (by omega) _) (((hbw.setCell (p:=⟨w.heap.size+1,0,none⟩) (by dsimp only;omega) _).setCell (p:=⟨w.heap.size+1,1,none⟩) (by dsimp only;omega) _).setCell (p:=⟨w.heap.size+1,2,none⟩) (by dsimp only;omega) _)
   obtain⟨j,rfl⟩:∃ i:Nat,f=i:=⟨f.toNat,by omega⟩
   have g0:decide ((0:Int)≤(j:Int))=true:=decide_eq_true (by omega)
   rw[Int.toNat_natCast] at ho
   obtain⟨x,hx⟩:=get_lt (xs:=P.R) (k:=j) (by rw[H.r,HN.out];omega)
   have hx1:x≠1:=fun e=>ho ⟨by omega,by unfold Pl.ref;rw[hx];exact e⟩
   have e1:(x == 1)=false:=by rw[beq_eq_false_iff_ne];exact hx1
   obtain⟨gr,rfl,r1,r2⟩:=hO.r.addr HR.out (by have:=lt_of_get hx;rw[HR.out] at this;omega)
   obtain⟨t3,t4⟩:=hO.r.at hx
   have jr:(j:Int)<(r:Int):=by have:=lt_of_get hx;rw[HR.out] at this;omega
   clear hx hx1 ho
   obtain⟨D1_c,D1_f,D1_z⟩:=D1.all
   obtain⟨D2_c,D2_f,D2_z⟩:=D2.all
   obtain⟨D3_c,D3_f,D3_z⟩:=D3.all
   go_wp2_with fail
   clear D1_c D1_f D1_z
   clear D2_c D2_f D2_z
   clear D3_c D3_f D3_z
   with_reducible refine (HIX.out _ hO.f.row).mono ?_
   rintro e w5 ⟨rfl,hb5⟩
   replace hz2:=Nat.le_trans hz2 hb5.size
   replace D1:=D1.below hb5
   replace D2:=D2.below hb5
   replace D3:=D3.below hb5
   replace hO:=hO.below hb5
   replace hbw:=hbw.trans (hb5.mono hbw.size)
   clear hb5 c1 c2 c3 k2 k4
   clear e1 t3 t4 r1 r2 jr g0 h0
   obtain⟨D1_c,D1_f,D1_z⟩:=D1.all
   obtain⟨D2_c,D2_f,D2_z⟩:=D2.all
   obtain⟨D3_c,D3_f,D3_z⟩:=D3.all
   go_wp2_with fail
   refine bodyPost_ret (v:=.tuple #[.agg #[.slice of1 n kf1',.slice (some ⟨gr,0,none⟩) r kr1',.slice (some ⟨bm,0,none⟩) m km1'],.bool false]) (by simp [results,Tryz.results48,go_sem,D2_c]) rfl ?_
   rw[HWOK.out,HW2.out]
   exact ret_poolb (Q:=P) HN.out HR.out HM.out (HWR.out.trans HW1.out) (((hO.setlow (b:=w.heap.size+1) (j:=0) (by omega) _).setlow (b:=w.heap.size+1) (j:=1) (by omega) _).setlow (b:=w.heap.size+1) (j:=2) (by omega) _) (((hbw.setCell (p:=⟨w.heap.size+1,0,none⟩) (by dsimp only;omega) _).setCell (p:=⟨w.heap.size+1,1,none⟩) (by dsimp only;omega) _).setCell (p:=⟨w.heap.size+1,2,none⟩) (by dsimp only;omega) _)
 | some q =>
   have hw1:P.wr' i k d=P.take i k q d:=by unfold Pl.wr';rw[HZB.out,hown,hfo];rfl
   have hw2:P.wok' i k d=true:=by unfold Pl.wok';rw[HZB.out,hown,hfo];rfl
   have HW1:=lh hw1;clear hw1
   have HW2:=lh hw2;clear hw2 hown
   have hidx:idxI P.F ⟨#[]⟩=q:=by unfold idxI;rw[hfo]
   rw[hidx] at IX
   have HIX:=lh IX;clear IX
   have hqn:q<n:=by rw[←HN.out];exact lt_of_get (firstOf_some.1 hfo).1
   clear hidx hfo
   by_cases h0:f<0
   · have g0:decide (0≤f)=false:=decide_eq_false (by omega)
     have g1:decide (f<0)=true:=decide_eq_true h0
     obtain⟨D1_c,D1_f,D1_z⟩:=D1.all
     obtain⟨D2_c,D2_f,D2_z⟩:=D2.all
     obtain⟨D3_c,D3_f,D3_z⟩:=D3.all
     go_wp2_with fail
     clear D1_c D1_f D1_z
     clear D2_c D2_f D2_z
     clear D3_c D3_f D3_z
     with_reducible refine (HIX.out _ hO.f.row).mono ?_
     rintro e w5 ⟨rfl,hb5⟩
     replace hz2:=Nat.le_trans hz2 hb5.size
     replace D1:=D1.below hb5
     replace D2:=D2.below hb5
     replace D3:=D3.below hb5
     replace hO:=hO.below hb5
     replace hbw:=hbw.trans (hb5.mono hbw.size)
     clear hb5 c1 c2 c3 k2 k4
     clear g0 g1 h0 ho
     obtain⟨D1_c,D1_f,D1_z⟩:=D1.all
     obtain⟨D2_c,D2_f,D2_z⟩:=D2.all
     obtain⟨D3_c,D3_f,D3_z⟩:=D3.all
     go_wp2_with fail
     clear D1_c D1_f D1_z
     clear D2_c D2_f D2_z
     clear D3_c D3_f D3_z
     with_reducible refine (HG.out _ hO).mono ?_
     rintro e w6 ⟨rfl,hO6,hb6⟩
     replace D1:=D1.btw hb6 (.inl (by omega))
     replace D2:=D2.btw hb6 (.inl (by omega))
     replace D3:=D3.btw hb6 (.inr (nlr _))
     replace hbw:=hbw.trans ((hb6.below (by omega)).mono (by omega))
     replace hz2:=Nat.le_trans hz2 hb6.size
     clear hb6 hO
     have L:=P.giveUp_len i k
     have hL1:=L.1.trans HN.out
     have hL2:=L.2.1.trans HR.out
     have hL3:=L.2.2.trans HM.out
     have his2:(P.giveUp i k).is i k=true:=(P.giveUp_is i k i k).trans HIS.out
     obtain⟨l2,f2,hl2,hp2⟩:=Pl.is_at his2
     have hlen:l2.length=l.length:=by rw[←Pl.pages_eq hl2,Pl.giveUp_pages,Pl.pages_eq HL.out]
     obtain⟨bm2,km3,bu2,ku2,e0,hus2,c1,c2,c3,k1',k2',k3',k4',k5'⟩:=hO6.page hl2 hp2
     rw[hlen] at hus2 c1
     injection e0 with e0 e9 e10
     injection e0 with e0
     injection e0 with e0 e8
     subst e0
     clear e9 e10
     rw[HU.out] at hus2
     injection hus2 with hus2
     injection hus2 with e0 e9 e10
     injection e0 with e0
     injection e0 with e0 e8
     subst e0
     clear e9 hlen hl2 hp2 his2
     obtain⟨x2,hx2⟩:=get_lt (xs:=(P.giveUp i k).R) (k:=q) (by rw[L.2.1,H.r,HN.out];exact hqn)
     obtain⟨s2,hs2⟩:=get_lt (xs:=(P.giveUp i k).F) (k:=q) (by rw[hL1];exact hqn)
     obtain⟨gf,rfl,f1',f2'⟩:=hO6.f.addr hL1 (by omega)
     obtain⟨gr2,eg,r1',r2'⟩:=hO6.r.addr hL2 (by have:=lt_of_get hx2;rw[hL2] at this;omega)
     subst eg
     obtain⟨u1,u2⟩:=hO6.f.at hs2
     obtain⟨u3,u4⟩:=hO6.r.at hx2
     have lf:=hT.f gf rfl
     have lr:=hT.r gr2 rfl
     have qr:(q:Int)<(r:Int):=by have:=lt_of_get hx2;rw[hL2] at this;omega
     have qn:(q:Int)<(n:Int):=by omega
     have n2:B≠gf:=by omega
     have n3:B≠gr2:=by omega
     have n4:=hO6.r_ne HU.out
     have n5:=hO6.f_ne HU.out
     have n6:=hO6.fr_ne
     have n7:bm≠gr2:=fun e=>own_ne_type hO6.m hO6.r (by decide) (k:=bm) rfl (by rw[e];rfl)
     have hO7:=((hO6.putM HU.out k q).putR q 1).putF q d
     have hE:P.take i k q d=(((P.giveUp i k).setM i k q).setR q 1).setF q d:=rfl
     rw[←hE] at hO7
     have hl1:(P.take i k q d).F.length=n:=by rw[hE];simp only[Pl.setF,Pl.setR,Pl.setM,List.length_set];exact hL1
     have hl2:(P.take i k q d).R.length=r:=by rw[hE];simp only[Pl.setF,Pl.setR,Pl.setM,List.length_set];exact hL2
     have hl3:(P.take i k q d).M.length=m:=by rw[hE];simp only[Pl.setF,Pl.setR,Pl.setM,List.length_set];exact hL3
     have Hl1:=lh hl1
     have Hl2:=lh hl2
     have Hl3:=lh hl3
     have hbw7:=((hbw.setCell (p:=⟨bu,k,none⟩) (by dsimp only;omega) (.int .i64 q)).setCell (p:=⟨gr2,q,none⟩) (by dsimp only;omega) (.int .i64 1)).setCell (p:=⟨gf,q,none⟩) (by dsimp only;omega) (.string d)
     clear hl1 hl2 hl3 hE hL1 hL2 hL3 L hx2 hs2 hO6 hbw
     have hbw:=hbw7
     clear hbw7
     obtain⟨D1_c,D1_f,D1_z⟩:=D1.all
     obtain⟨D2_c,D2_f,D2_z⟩:=D2.all
     obtain⟨D3_c,D3_f,D3_z⟩:=D3.all
     go_wp2_with fail
     refine bodyPost_ret (v:=.tuple #[.agg #[.slice (some ⟨gf,0,none⟩) n kf1',.slice (some ⟨gr2,0,none⟩) r kr1',.slice (some ⟨bm,0,none⟩) m km1'],.bool true]) (by simp [results,Tryz.results48,go_sem,D2_c]) rfl ?_
     rw[HWOK.out,HW2.out]
     exact ret_poolb (Q:=P.take i k q d) Hl1.out Hl2.out Hl3.out (HWR.out.trans HW1.out) (((hO7.setlow (b:=w.heap.size+1) (j:=0) (by omega) _).setlow (b:=w.heap.size+1) (j:=1) (by omega) _).setlow (b:=w.heap.size+1) (j:=2) (by omega) _) (((hbw.setCell (p:=⟨w.heap.size+1,0,none⟩) (by dsimp only;omega) _).setCell (p:=⟨w.heap.size+1,1,none⟩) (by dsimp only;omega) _).setCell (p:=⟨w.heap.size+1,2,none⟩) (by dsimp only;omega) _)
   obtain⟨j,rfl⟩:∃ i:Nat,f=i:=⟨f.toNat,by omega⟩
   have g0:decide ((0:Int)≤(j:Int))=true:=decide_eq_true (by omega)
   rw[Int.toNat_natCast] at ho
   obtain⟨x,hx⟩:=get_lt (xs:=P.R) (k:=j) (by rw[H.r,HN.out];omega)
   have hx1:x≠1:=fun e=>ho ⟨by omega,by unfold Pl.ref;rw[hx];exact e⟩
   have e1:(x == 1)=false:=by rw[beq_eq_false_iff_ne];exact hx1
   obtain⟨gr,rfl,r1,r2⟩:=hO.r.addr HR.out (by have:=lt_of_get hx;rw[HR.out] at this;omega)
   obtain⟨t3,t4⟩:=hO.r.at hx
   have jr:(j:Int)<(r:Int):=by have:=lt_of_get hx;rw[HR.out] at this;omega
   clear hx hx1 ho
   obtain⟨D1_c,D1_f,D1_z⟩:=D1.all
   obtain⟨D2_c,D2_f,D2_z⟩:=D2.all
   obtain⟨D3_c,D3_f,D3_z⟩:=D3.all
   go_wp2_with fail
   clear D1_c D1_f D1_z
   clear D2_c D2_f D2_z
   clear D3_c D3_f D3_z
   with_reducible refine (HIX.out _ hO.f.row).mono ?_
   rintro e w5 ⟨rfl,hb5⟩
   replace hz2:=Nat.le_trans hz2 hb5.size
   replace D1:=D1.below hb5
   replace D2:=D2.below hb5
   replace D3:=D3.below hb5
   replace hO:=hO.below hb5
   replace hbw:=hbw.trans (hb5.mono hbw.size)
   clear hb5 c1 c2 c3 k2 k4
   clear e1 t3 t4 r1 r2 jr g0 h0
   obtain⟨D1_c,D1_f,D1_z⟩:=D1.all
   obtain⟨D2_c,D2_f,D2_z⟩:=D2.all
   obtain⟨D3_c,D3_f,D3_z⟩:=D3.all
   go_wp2_with fail
   clear D1_c D1_f D1_z
   clear D2_c D2_f D2_z
   clear D3_c D3_f D3_z
   with_reducible refine (HG.out _ hO).mono ?_
   rintro e w6 ⟨rfl,hO6,hb6⟩
   replace D1:=D1.btw hb6 (.inl (by omega))
   replace D2:=D2.btw hb6 (.inl (by omega))
   replace D3:=D3.btw hb6 (.inr (nlr _))
   replace hbw:=hbw.trans ((hb6.below (by omega)).mono (by omega))
   replace hz2:=Nat.le_trans hz2 hb6.size
   clear hb6 hO
   have L:=P.giveUp_len i k
   have hL1:=L.1.trans HN.out
   have hL2:=L.2.1.trans HR.out
   have hL3:=L.2.2.trans HM.out
   have his2:(P.giveUp i k).is i k=true:=(P.giveUp_is i k i k).trans HIS.out
   obtain⟨l2,f2,hl2,hp2⟩:=Pl.is_at his2
   have hlen:l2.length=l.length:=by rw[←Pl.pages_eq hl2,Pl.giveUp_pages,Pl.pages_eq HL.out]
   obtain⟨bm2,km3,bu2,ku2,e0,hus2,c1,c2,c3,k1',k2',k3',k4',k5'⟩:=hO6.page hl2 hp2
   rw[hlen] at hus2 c1
   injection e0 with e0 e9 e10
   injection e0 with e0
   injection e0 with e0 e8
   subst e0
   clear e9 e10
   rw[HU.out] at hus2
   injection hus2 with hus2
   injection hus2 with e0 e9 e10
   injection e0 with e0
   injection e0 with e0 e8
   subst e0
   clear e9 hlen hl2 hp2 his2
   obtain⟨x2,hx2⟩:=get_lt (xs:=(P.giveUp i k).R) (k:=q) (by rw[L.2.1,H.r,HN.out];exact hqn)
   obtain⟨s2,hs2⟩:=get_lt (xs:=(P.giveUp i k).F) (k:=q) (by rw[hL1];exact hqn)
   obtain⟨gf,rfl,f1',f2'⟩:=hO6.f.addr hL1 (by omega)
   obtain⟨gr2,eg,r1',r2'⟩:=hO6.r.addr hL2 (by have:=lt_of_get hx2;rw[hL2] at this;omega)
   (injection eg with eg;injection eg with eg;subst eg)
   obtain⟨u1,u2⟩:=hO6.f.at hs2
   obtain⟨u3,u4⟩:=hO6.r.at hx2
   have lf:=hT.f gf rfl
   have lr:=hT.r gr rfl
   have qr:(q:Int)<(r:Int):=by have:=lt_of_get hx2;rw[hL2] at this;omega
   have qn:(q:Int)<(n:Int):=by omega
   have n2:B≠gf:=by omega
   have n3:B≠gr:=by omega
   have n4:=hO6.r_ne HU.out
   have n5:=hO6.f_ne HU.out
   have n6:=hO6.fr_ne
   have n7:bm≠gr:=fun e=>own_ne_type hO6.m hO6.r (by decide) (k:=bm) rfl (by rw[e];rfl)
   have hO7:=((hO6.putM HU.out k q).putR q 1).putF q d
   have hE:P.take i k q d=(((P.giveUp i k).setM i k q).setR q 1).setF q d:=rfl
   rw[←hE] at hO7
   have hl1:(P.take i k q d).F.length=n:=by rw[hE];simp only[Pl.setF,Pl.setR,Pl.setM,List.length_set];exact hL1
   have hl2:(P.take i k q d).R.length=r:=by rw[hE];simp only[Pl.setF,Pl.setR,Pl.setM,List.length_set];exact hL2
   have hl3:(P.take i k q d).M.length=m:=by rw[hE];simp only[Pl.setF,Pl.setR,Pl.setM,List.length_set];exact hL3
   have Hl1:=lh hl1
   have Hl2:=lh hl2
   have Hl3:=lh hl3
   have hbw7:=((hbw.setCell (p:=⟨bu,k,none⟩) (by dsimp only;omega) (.int .i64 q)).setCell (p:=⟨gr,q,none⟩) (by dsimp only;omega) (.int .i64 1)).setCell (p:=⟨gf,q,none⟩) (by dsimp only;omega) (.string d)
   clear hl1 hl2 hl3 hE hL1 hL2 hL3 L hx2 hs2 hO6 hbw
   have hbw:=hbw7
   clear hbw7
   obtain⟨D1_c,D1_f,D1_z⟩:=D1.all
   obtain⟨D2_c,D2_f,D2_z⟩:=D2.all
   obtain⟨D3_c,D3_f,D3_z⟩:=D3.all
   go_wp2_with fail
   refine bodyPost_ret (v:=.tuple #[.agg #[.slice (some ⟨gf,0,none⟩) n kf1',.slice (some ⟨gr,0,none⟩) r kr1',.slice (some ⟨bm,0,none⟩) m km1'],.bool true]) (by simp [results,Tryz.results48,go_sem,D2_c]) rfl ?_
   rw[HWOK.out,HW2.out]
   exact ret_poolb (Q:=P.take i k q d) Hl1.out Hl2.out Hl3.out (HWR.out.trans HW1.out) (((hO7.setlow (b:=w.heap.size+1) (j:=0) (by omega) _).setlow (b:=w.heap.size+1) (j:=1) (by omega) _).setlow (b:=w.heap.size+1) (j:=2) (by omega) _) (((hbw.setCell (p:=⟨w.heap.size+1,0,none⟩) (by dsimp only;omega) _).setCell (p:=⟨w.heap.size+1,1,none⟩) (by dsimp only;omega) _).setCell (p:=⟨w.heap.size+1,2,none⟩) (by dsimp only;omega) _)
def Pl.goodS (P:Pl) (g p:Int):Bool:=P.has g p && decide (0≤P.fr g.toNat p.toNat)
def Pl.least (P:Pl) (g p:Nat):Option Nat:=firstOf P.F (P.txt (P.fr g p).toNat)
def Pl.sh' (P:Pl) (g p:Nat):Pl :=
 match P.least g p with
 | some q=>if (q:Int)=P.fr g p then P else P.join g p q
 | none=>P
def Pl.sok' (P:Pl) (g p:Nat):Bool :=
 match P.least g p with
 | some q => !decide ((q:Int)=P.fr g p)
 | none=>false
def Pl.sh (P:Pl) (g p:Int):Pl:=if P.goodS g p then P.sh' g.toNat p.toNat else P
def Pl.sok (P:Pl) (g p:Int):Bool:=P.goodS g p && P.sok' g.toNat p.toNat
theorem giveUp_ref (P:Pl) (g p q:Nat) (h:(q:Int)≠P.fr g p):(P.giveUp g p).ref q=P.ref q:=by
 unfold Pl.giveUp
 split
 · rfl
 · rename_i hn
   have hne:(P.fr g p).toNat≠q:=by omega
   have e:((P.setM g p (-1)).setR (P.fr g p).toNat (P.ref (P.fr g p).toNat - 1)).ref q=P.ref q:=by
    unfold Pl.ref Pl.setR Pl.setM
    dsimp only
    rw[List.getElem?_set_ne hne]
   split <;> exact e
set_option maxRecDepth 100000 in
set_option maxHeartbeats 4000000 in
theorem pshare_own (v:Value) (P:Pl) (g p:Int) (w:World) (h:PlRow w v P) (hf:P.fit) (hs:P.small):Calls Tryz.prog 70 #[v,.int .i64 g,.int .i64 p] w (RetPoolB (P.sh g p) (P.sok g p) w):=by
 obtain⟨of,or',om,kf,kr,km,rfl,kf1,kf2,kr1,kr2,km1,km2⟩:=h.form
 obtain⟨n,hn⟩:∃ n,P.F.length=n:=⟨_,rfl⟩
 obtain⟨r,hr⟩:∃ n,P.R.length=n:=⟨_,rfl⟩
 obtain⟨m,hm⟩:∃ n,P.M.length=n:=⟨_,rfl⟩
 rw[hn] at h kf1 ⊢
 rw[hr] at h kr1 ⊢
 rw[hm] at h km1 ⊢
 have HN:=lh hn;clear hn
 have HR:=lh hr;clear hr
 have HM:=lh hm;clear hm
 have V:=fun w h=>phas_any (.agg #[.slice of n kf,.slice or' r kr,.slice om m km]) P g p w h hf
 have C:=fun w h=>pclone_any (.agg #[.slice of n kf,.slice or' r kr,.slice om m km]) P w h hs
 clear hf hs
 have HC:=lh C;clear C
 obtain⟨hv,hhv⟩:∃ b,P.has g p=b:=⟨_,rfl⟩
 rw[hhv] at V
 have HV:=lh V;clear V
 have HHV:=lh hhv;clear hhv
 have D1:=(HasBlock.made w #[.slice of n kf,.slice or' r kr,.slice om m km] 26).alloc (.cells #[.slice none 0 0,.slice none 0 0,.slice none 0 0] 26)
 have D2:=HasBlock.made (w.alloc (.cells #[.slice of n kf,.slice or' r kr,.slice om m km] 26)) #[.slice none 0 0,.slice none 0 0,.slice none 0 0] 26
 have hbw:Below w.heap.size w ((w.alloc (.cells #[.slice of n kf,.slice or' r kr,.slice om m km] 26)).alloc (.cells #[.slice none 0 0,.slice none 0 0,.slice none 0 0] 26)):=bel
 have hz:w.heap.size+1+1≤((w.alloc (.cells #[.slice of n kf,.slice or' r kr,.slice om m km] 26)).alloc (.cells #[.slice none 0 0,.slice none 0 0,.slice none 0 0] 26)).heap.size:=by simp only[sizes];omega
 simp only[sizes] at D2
 replace h:=h.below hbw
 go_enter Tryz.func70,Tryz.ntmps70
 go_wp2_with fail
 with_reducible refine (HC.out _ h).mono ?_
 rintro e w1 ⟨of1,or1,om1,kf1',kr1',km1',us,rfl,hO,hb1⟩
 rw[HN.out,HR.out,HM.out] at hO ⊢
 replace hO:=hO.lower hz
 replace D1:=D1.below hb1
 replace D2:=D2.below hb1
 replace h:=h.below hb1
 replace hbw:=hbw.trans (hb1.mono hbw.size)
 replace hz:=Nat.le_trans hz hb1.size
 clear hb1
 have hT:=hO.lt
 obtain⟨D1_c,D1_f,D1_z⟩:=D1.all
 obtain⟨D2_c,D2_f,D2_z⟩:=D2.all
 go_wp2_with fail
 clear D1_c D1_f D1_z
 clear D2_c D2_f D2_z
 have hbx:Below w1.heap.size w1 (w1.alloc (.cells #[.slice of1 n kf1',.slice or1 r kr1',.slice om1 m km1'] 26)):=(Below.refl _ _).alloc (nlr _) _
 replace D1:=D1.below hbx
 replace D2:=D2.below hbx
 have D3:=HasBlock.made w1 #[.slice of1 n kf1',.slice or1 r kr1',.slice om1 m km1'] 26
 replace h:=h.below hbx
 replace hO:=hO.below hbx
 replace hbw:=hbw.trans (hbx.mono hbw.size)
 have hz2:w1.heap.size+1≤(w1.alloc (.cells #[.slice of1 n kf1',.slice or1 r kr1',.slice om1 m km1'] 26)).heap.size:=Nat.le_of_eq (World.size_alloc ..).symm
 clear hbx
 obtain⟨B,hB⟩:∃ B,w1.heap.size=B:=⟨_,rfl⟩
 rw[hB] at D3 hz hT hz2 ⊢
 generalize hW:w1.alloc (.cells #[.slice of1 n kf1',.slice or1 r kr1',.slice om1 m km1'] 26)=w2 at D1 D2 D3 h hO hbw hz2 ⊢
 clear hW hB
 with_reducible refine (HV.out _ h).mono ?_
 rintro e w3 ⟨rfl,hb3⟩
 replace hz2:=Nat.le_trans hz2 hb3.size
 replace D1:=D1.below hb3
 replace D2:=D2.below hb3
 replace D3:=D3.below hb3
 replace h:=h.below hb3
 replace hO:=hO.below hb3
 replace hbw:=hbw.trans (hb3.mono hbw.size)
 clear hb3
 cases hv
 · have hno:P.goodS g p=false:=by unfold Pl.goodS;rw[HHV.out];rfl
   have HNO:=lh hno;clear hno
   obtain⟨D1_c,D1_f,D1_z⟩:=D1.all
   obtain⟨D2_c,D2_f,D2_z⟩:=D2.all
   obtain⟨D3_c,D3_f,D3_z⟩:=D3.all
   go_wp2_with fail
   refine bodyPost_ret (v:=.tuple #[.agg #[.slice of1 n kf1',.slice or1 r kr1',.slice om1 m km1'],.bool false]) (by simp [results,Tryz.results70,go_sem,D2_c]) rfl ?_
   rw[show P.sok g p=false by unfold Pl.sok;rw[HNO.out];rfl]
   exact ret_poolb HN.out HR.out HM.out (by unfold Pl.sh;rw[HNO.out];rfl) (((hO.setlow (b:=w.heap.size+1) (j:=0) (by omega) _).setlow (b:=w.heap.size+1) (j:=1) (by omega) _).setlow (b:=w.heap.size+1) (j:=2) (by omega) _) (((hbw.setCell (p:=⟨w.heap.size+1,0,none⟩) (by dsimp only;omega) _).setCell (p:=⟨w.heap.size+1,1,none⟩) (by dsimp only;omega) _).setCell (p:=⟨w.heap.size+1,2,none⟩) (by dsimp only;omega) _)
 have hh:=HHV.out
 unfold Pl.has at hh
 rw[Bool.and_eq_true] at hh
 obtain⟨hok,his⟩:=hh
 have H:=Pl.ok_iff.1 hok
 have hi:=his
 unfold Pl.is at hi
 rw[decide_eq_true_eq] at hi
 obtain⟨i,rfl⟩:∃ i:Nat,g=i:=⟨g.toNat,by omega⟩
 obtain⟨k,rfl⟩:∃ i:Nat,p=i:=⟨p.toNat,by omega⟩
 rw[Int.toNat_natCast] at hi
 obtain⟨l,f,hl,hp⟩:=Pl.is_at his
 have hfb:=H.page hl hp
 have hfr:=Pl.fr_eq hl hp
 have hRF:=H.r
 have hrb : -1000000≤P.ref (P.fr i k).toNat∧P.ref (P.fr i k).toNat≤1000000:=by
  by_cases h0:f<0
  · have h2:P.ref (P.fr i k).toNat=P.cnt (P.fr i k).toNat:=H.ref_eq (by rw[hfr];have:=H.n1;omega)
    have:=H.cnt_le (P.fr i k).toNat
    omega
  · have h2:P.ref (P.fr i k).toNat=P.cnt (P.fr i k).toNat:=H.ref_eq (by rw[hfr];omega)
    have:=H.cnt_le (P.fr i k).toNat
    omega
 have hfF:P.fr i k<P.F.length:=by rw[hfr];exact hfb.2
 have G:=fun w' hO=>give_any (w.heap.size+1+1) B (.slice of1 n kf1') (.slice or1 r kr1') (.slice om1 m km1') us P i k w' hO hT his hfF hRF hrb
 have HG:=lh G;clear G
 have HFR:=lh hfr;clear hfr
 have HOK:=lh hok;clear hok
 have HIS:=lh his;clear his
 have HRB:=lh hrb;clear hrb
 rw[HN.out] at hfb
 clear hRF hfF h
 obtain⟨bm,km2,bu,ku,e0,hus,c1,c2,c3,k1,k2,k3,k4,k5⟩:=hO.page hl hp
 injection e0 with e0 e9 e10
 subst e0 e10
 clear e9
 have lu:=hT.u i _ hus bu rfl
 have HU:=lh hus;clear hus
 have gi:(i:Int)<(m:Int):=by rw[←HM.out];exact hi.2.1
 have ki:(k:Int)<(l.length:Int):=by rw[←Pl.pages_eq hl];exact hi.2.2.2
 have HL:=lh hl;clear hl
 have HP:=lh hp;clear hp
 have n1:B≠bu:=by omega
 by_cases h0:f<0
 · have hno:P.goodS i k=false:=by unfold Pl.goodS;rw[HHV.out,Int.toNat_natCast,Int.toNat_natCast,HFR.out];exact decide_eq_false (by omega)
   have HNO:=lh hno;clear hno
   have HSO:Hid (P.sok i k=false):=by unfold Pl.sok;rw[HNO.out];rfl
   have HSH:Hid (P.sh i k=P):=by unfold Pl.sh;rw[HNO.out];rfl
   obtain⟨D1_c,D1_f,D1_z⟩:=D1.all
   obtain⟨D2_c,D2_f,D2_z⟩:=D2.all
   obtain⟨D3_c,D3_f,D3_z⟩:=D3.all
   go_wp2_with fail
   refine bodyPost_ret (v:=.tuple #[.agg #[.slice of1 n kf1',.slice or1 r kr1',.slice (some ⟨bm,0,none⟩) m km1'],.bool false]) (by simp [results,Tryz.results70,go_sem,D2_c]) rfl ?_
   rw[HSO.out]
   exact ret_poolb HN.out HR.out HM.out HSH.out (((hO.setlow (b:=w.heap.size+1) (j:=0) (by omega) _).setlow (b:=w.heap.size+1) (j:=1) (by omega) _).setlow (b:=w.heap.size+1) (j:=2) (by omega) _) (((hbw.setCell (p:=⟨w.heap.size+1,0,none⟩) (by dsimp only;omega) _).setCell (p:=⟨w.heap.size+1,1,none⟩) (by dsimp only;omega) _).setCell (p:=⟨w.heap.size+1,2,none⟩) (by dsimp only;omega) _)
 obtain⟨j,rfl⟩:∃ i:Nat,f=i:=⟨f.toNat,by omega⟩
 have hgood:P.goodS i k=true:=by unfold Pl.goodS;rw[HHV.out,Int.toNat_natCast,Int.toNat_natCast,HFR.out];exact decide_eq_true (by omega)
 have hsh:P.sh i k=P.sh' i k:=by unfold Pl.sh;rw[hgood,Int.toNat_natCast,Int.toNat_natCast];rfl
 have hsok:P.sok i k=P.sok' i k:=by unfold Pl.sok;rw[hgood,Int.toNat_natCast,Int.toNat_natCast];rfl
 have HSH:=lh hsh;clear hsh
 have HSO:=lh hsok;clear hsok hgood
 obtain⟨s,hs⟩:=get_lt (xs:=P.F) (k:=j) (by rw[HN.out];omega)
 have htx:P.txt j=s:=by unfold Pl.txt;rw[hs];rfl
 obtain⟨gf,rfl,f1,f2⟩:=hO.f.addr HN.out (by omega)
 have IX:=fun w h=>index_any (.slice (some ⟨gf,0,none⟩) n kf1') P.F s w h
 obtain⟨q,hfo⟩:∃ q,firstOf P.F s=some q:=by
  cases hfo:firstOf P.F s with
  | none=>exact absurd hs (firstOf_none.1 hfo j)
  | some q=>exact⟨q,rfl⟩
 have hq:=firstOf_some.1 hfo
 have hqj:q≤j:=by
  rcases Nat.lt_or_ge j q with h|h
  · exact absurd hs (hq.2 j h)
  · exact h
 have hidx:idxI P.F s=q:=by unfold idxI;rw[hfo]
 rw[hidx] at IX
 have HIX:=lh IX;clear IX hidx
 have hlst:P.least i k=some q:=by unfold Pl.least;rw[HFR.out,Int.toNat_natCast,htx];exact hfo
 obtain⟨t1,t2⟩:=hO.f.at hs
 have jn:(j:Int)<(n:Int):=hfb.2
 have j0:(0:Int)≤(j:Int):=by omega
 have HLS:=lh hlst;clear hlst hq hfo htx hs
 obtain⟨D1_c,D1_f,D1_z⟩:=D1.all
 obtain⟨D2_c,D2_f,D2_z⟩:=D2.all
 obtain⟨D3_c,D3_f,D3_z⟩:=D3.all
 go_wp2_with fail
 clear D1_c D1_f D1_z
 clear D2_c D2_f D2_z
 clear D3_c D3_f D3_z
 have hre:Below w3.heap.size w3 w3:=Below.refl _ _
 have HRE:=lh hre;clear hre
 obtain⟨D1_c,D1_f,D1_z⟩:=D1.all
 obtain⟨D2_c,D2_f,D2_z⟩:=D2.all
 obtain⟨D3_c,D3_f,D3_z⟩:=D3.all
 refine wp_region_quiet_below (by kernel_rfl) (by kernel_rfl) ?_
 repeat (go_big_quiet_step (first|fail|(go_at_call 85;exact quiet_ret (HIX.out _ (hO.below (below_regrown _ _ _)).f.row))))
 refine wpQuiet_nil ?_
 intro w4 hw4
 have hb4:=below_of_regrown hw4
 clear hw4
 obtain⟨hc4,hf4⟩:=bcell hb4
 have hz4:=bsize hb4
 try simp only[sizes1] at hz4
 try simp only[sizes] at hc4 hf4
 clear D1_c D1_f D1_z
 clear D2_c D2_f D2_z
 clear D3_c D3_f D3_z
 clear hc4 hf4 hz4
 replace D1:=D1.below hb4
 replace D2:=D2.below hb4
 replace D3:=D3.below hb4
 replace hO:=hO.below hb4
 replace hbw:=hbw.trans (hb4.mono hbw.size)
 replace hz2:=Nat.le_trans hz2 hb4.size
 clear hb4
 clear c1 c2 c3 k2 k4 t1 t2
 by_cases hqe:q=j
 · subst hqe
   have hw1:P.sh' i k=P:=by unfold Pl.sh';rw[HLS.out];dsimp only;rw[if_pos HFR.out.symm]
   have hw2:P.sok' i k=false:=by unfold Pl.sok';rw[HLS.out];dsimp only;rw[HFR.out,decide_eq_true rfl];rfl
   have HW1:=lh hw1;clear hw1
   have HW2:=lh hw2;clear hw2
   obtain⟨D1_c,D1_f,D1_z⟩:=D1.all
   obtain⟨D2_c,D2_f,D2_z⟩:=D2.all
   obtain⟨D3_c,D3_f,D3_z⟩:=D3.all
   go_wp2_with fail
   refine bodyPost_ret (v:=.tuple #[.agg #[.slice (some ⟨gf,0,none⟩) n kf1',.slice or1 r kr1',.slice (some ⟨bm,0,none⟩) m km1'],.bool false]) (by simp [results,Tryz.results70,go_sem,D2_c]) rfl ?_
   rw[HSO.out,HW2.out]
   exact ret_poolb HN.out HR.out HM.out (HSH.out.trans HW1.out) (((hO.setlow (b:=w.heap.size+1) (j:=0) (by omega) _).setlow (b:=w.heap.size+1) (j:=1) (by omega) _).setlow (b:=w.heap.size+1) (j:=2) (by omega) _) (((hbw.setCell (p:=⟨w.heap.size+1,0,none⟩) (by dsimp only;omega) _).setCell (p:=⟨w.heap.size+1,1,none⟩) (by dsimp only;omega) _).setCell (p:=⟨w.heap.size+1,2,none⟩) (by dsimp only;omega) _)
 have hqn:q<n:=by omega
 have hne:(q:Int)≠P.fr i k:=by rw[HFR.out];omega
 have hw1:P.sh' i k=P.join i k q:=by unfold Pl.sh';rw[HLS.out];dsimp only;rw[if_neg hne]
 have hw2:P.sok' i k=true:=by unfold Pl.sok';rw[HLS.out];dsimp only;rw[decide_eq_false hne];rfl
 have hrq:=giveUp_ref P i k q hne
 have hrq2:P.ref q=P.cnt q:=H.ref_eq (by rw[HN.out];exact hqn)
 have hrq3:=H.cnt_le q
 have HW1:=lh hw1;clear hw1
 have HW2:=lh hw2;clear hw2
 have e1:(q == j)=false:=by rw[beq_eq_false_iff_ne];exact hqe
 have e2:((q:Int) == (j:Int))=false:=by rw[beq_eq_false_iff_ne];omega
 clear hne hqe
 obtain⟨D1_c,D1_f,D1_z⟩:=D1.all
 obtain⟨D2_c,D2_f,D2_z⟩:=D2.all
 obtain⟨D3_c,D3_f,D3_z⟩:=D3.all
 go_wp2_with fail
 clear D1_c D1_f D1_z
 clear D2_c D2_f D2_z
 clear D3_c D3_f D3_z
 with_reducible refine (HG.out _ hO).mono ?_
 rintro e w6 ⟨rfl,hO6,hb6⟩
 replace D1:=D1.btw hb6 (.inl (by omega))
 replace D2:=D2.btw hb6 (.inl (by omega))
 replace D3:=D3.btw hb6 (.inr (nlr _))
 replace hbw:=hbw.trans ((hb6.below (by omega)).mono (by omega))
 replace hz2:=Nat.le_trans hz2 hb6.size
 clear hb6 hO e1 e2
 have L:=P.giveUp_len i k
 have hL1:=L.1.trans HN.out
 have hL2:=L.2.1.trans HR.out
 have hL3:=L.2.2.trans HM.out
 have his2:(P.giveUp i k).is i k=true:=(P.giveUp_is i k i k).trans HIS.out
 obtain⟨l2,f2,hl2,hp2⟩:=Pl.is_at his2
 have hlen:l2.length=l.length:=by rw[←Pl.pages_eq hl2,Pl.giveUp_pages,Pl.pages_eq HL.out]
 obtain⟨bm2,km3,bu2,ku2,e0,hus2,c1,c2,c3,k1',k2',k3',k4',k5'⟩:=hO6.page hl2 hp2
 rw[hlen] at hus2 c1
 injection e0 with e0 e9 e10
 injection e0 with e0
 injection e0 with e0 e8
 subst e0
 clear e9 e10
 rw[HU.out] at hus2
 injection hus2 with hus2
 injection hus2 with e0 e9 e10
 injection e0 with e0
 injection e0 with e0 e8
 subst e0
 clear e9 hlen hl2 hp2 his2
 obtain⟨x2,hx2⟩:=get_lt (xs:=(P.giveUp i k).R) (k:=q) (by rw[L.2.1,H.r,HN.out];exact hqn)
 obtain⟨gr,rfl,r1',r2'⟩:=hO6.r.addr hL2 (by have:=lt_of_get hx2;rw[hL2] at this;omega)
 obtain⟨u3,u4⟩:=hO6.r.at hx2
 have hxr:(P.giveUp i k).ref q=x2:=by unfold Pl.ref;rw[hx2];rfl
 have hx2b:0≤x2∧x2≤256:=by rw[←hxr,hrq,hrq2];omega
 have lr:=hT.r gr rfl
 have qr:(q:Int)<(r:Int):=by have:=lt_of_get hx2;rw[hL2] at this;omega
 have n3:B≠gr:=by omega
 have n4:=hO6.r_ne HU.out
 have n7:bm≠gr:=fun e=>own_ne_type hO6.m hO6.r (by decide) (k:=bm) rfl (by rw[e];rfl)
 have hO7:=(hO6.putM HU.out k q).putR q (x2+1)
 have hE:P.join i k q=((P.giveUp i k).setM i k q).setR q (x2+1):=by unfold Pl.join;rw[hxr]
 rw[←hE] at hO7
 have hl1:(P.join i k q).F.length=n:=by rw[hE];simp only[Pl.setR,Pl.setM];exact hL1
 have hl2:(P.join i k q).R.length=r:=by rw[hE];simp only[Pl.setR,Pl.setM,List.length_set];exact hL2
 have hl3:(P.join i k q).M.length=m:=by rw[hE];simp only[Pl.setR,Pl.setM,List.length_set];exact hL3
 have Hl1:=lh hl1
 have Hl2:=lh hl2
 have Hl3:=lh hl3
 have hbw7:=(hbw.setCell (p:=⟨bu,k,none⟩) (by dsimp only;omega) (.int .i64 q)).setCell (p:=⟨gr,q,none⟩) (by dsimp only;omega) (.int .i64 (x2+1))
 clear hl1 hl2 hl3 hE hL1 hL2 hL3 L hx2 hO6 hbw hrq hrq2 hxr
 have hbw:=hbw7
 clear hbw7
 obtain⟨D1_c,D1_f,D1_z⟩:=D1.all
 obtain⟨D2_c,D2_f,D2_z⟩:=D2.all
 obtain⟨D3_c,D3_f,D3_z⟩:=D3.all
 go_wp2_with fail
 refine bodyPost_ret (v:=.tuple #[.agg #[.slice (some ⟨gf,0,none⟩) n kf1',.slice (some ⟨gr,0,none⟩) r kr1',.slice (some ⟨bm,0,none⟩) m km1'],.bool true]) (by simp [results,Tryz.results70,go_sem,D2_c]) rfl ?_
 rw[HSO.out,HW2.out]
 exact ret_poolb (Q:=P.join i k q) Hl1.out Hl2.out Hl3.out (HSH.out.trans HW1.out) (((hO7.setlow (b:=w.heap.size+1) (j:=0) (by omega) _).setlow (b:=w.heap.size+1) (j:=1) (by omega) _).setlow (b:=w.heap.size+1) (j:=2) (by omega) _) (((hbw.setCell (p:=⟨w.heap.size+1,0,none⟩) (by dsimp only;omega) _).setCell (p:=⟨w.heap.size+1,1,none⟩) (by dsimp only;omega) _).setCell (p:=⟨w.heap.size+1,2,none⟩) (by dsimp only;omega) _)
end Go.Proofs.YtbnngjhnkegliaaGreat
