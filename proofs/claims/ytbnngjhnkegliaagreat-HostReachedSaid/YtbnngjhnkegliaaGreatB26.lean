/-
  Texts joined: HoPScan HoScan RegLast. No law is proved here.
-/
import Derived.Test.YtbnngjhnkegliaaGreatB25
import Derived.OrdersHeld
namespace Go.Proofs.YtbnngjhnkegliaaGreat
open Go.RowKit
def ordTo (P:Pl) (k:Nat):List (Nat×Nat):=(List.range k).flatMap (fun i=>(List.range (P.pages i).length).map (fun p=>(i,p)))
def Ho.ord (H:Ho):List (Nat×Nat):=ordTo H.P H.P.M.length
def Ho.scan1 (O:List (Nat×Nat)) (H:Ho):Ho:=match O[H.n.toNat]? with
 | none=>H
 | some x=>⟨H.P.sh x.1 x.2,H.G,H.t,H.d,(H.n+1) % O.length⟩
def Ho.scanN (O:List (Nat×Nat)) (H:Ho):Nat→Ho
 | 0=>H
 | k+1=>(Ho.scanN O H k).scan1 O
def Ho.scan (H:Ho) (n:Int):Ho:=if n<1 then H else Ho.scanN H.ord H (min n.toNat H.ord.length)
theorem ordTo_succ (P:Pl) (k:Nat):ordTo P (k+1)=ordTo P k++(List.range (P.pages k).length).map (fun p=>(k,p)):=by
 unfold ordTo
 rw[List.range_succ,List.flatMap_append]
 simp
theorem ordTo_len (P:Pl):∀ k:Nat,k≤P.M.length→(ordTo P k).length=lenM (P.M.take k)
 | 0,_=>rfl
 | k+1,h=>by
   obtain⟨l,hl⟩:=get_lt (xs:=P.M) (k:=k) (by omega)
   rw[ordTo_succ,List.length_append,ordTo_len P k (by omega),lenM_take hl,List.length_map,List.length_range,Pl.pages_eq hl]
theorem ord_len (H:Ho):H.ord.length=lenM H.P.M:=by
 unfold Ho.ord
 rw[ordTo_len _ _ (nlr _),List.take_length]
theorem ord_mem {H:Ho} {a b:Nat}:(a,b)∈H.ord↔H.P.at a b:=by
 unfold Ho.ord ordTo
 rw[List.mem_flatMap,Pl.at_lt]
 constructor
 · rintro⟨i,hi,hx⟩
   rw[List.mem_map] at hx
   obtain⟨p,hp,he⟩:=hx
   injection he with e1 e2
   subst e1 e2
   exact⟨List.mem_range.1 hi,List.mem_range.1 hp⟩
 · rintro⟨h1,h2⟩
   exact⟨a,List.mem_range.2 h1,List.mem_map.2 ⟨b,List.mem_range.2 h2,rfl⟩⟩
theorem ord_alike {H K:Ho} (h:H.P.Alike K.P):K.ord=H.ord:=by
 unfold Ho.ord ordTo
 rw[h.m]
 congr 1
 funext i
 rw[h.pg]
theorem Ho.Ok.repool {H H':Ho} (hok:H.Ok) (hP:H'.P.Ok) (al:H.P.Alike H'.P) (hs:∀ a b,0≤H'.P.fr a b↔0≤H.P.fr a b) (hch:∀ a,H'.P.chargeN a=H.P.chargeN a) (hG:H'.G=H.G) (ht:H'.t=H.t) (hd:H'.d=H.d) (hn:0≤H'.n∧H'.n<max (lenM H.P.M:Int) 1):H'.Ok:=by
 refine hok.of hP al (by rw[hG]) ht (by rw[hd];exact hok.d) hn (by rw[hG]) (fun a g hg=>?_)
 rw[hG] at hg
 have hgp:=hok.gmP hg
 refine ⟨hgp.cv,hgp.p0,by rw[hch];exact hgp.lim,by rw[al.pg];exact hgp.ls,by rw[al.pg];exact hgp.lu,by rw[al.pg];exact hgp.le,by rw[al.pg];exact hgp.hd,fun k b hk hb h0=>?_,fun k t hk ht=>?_⟩
 · rw[al.pg] at hk
   have:=hs a k
   exact hgp.us k b hk hb (by omega)
 · rw[al.pg] at hk
   have:=hs a k
   rcases hgp.sw k t hk ht with h1|⟨h1,h2⟩
   · exact .inl h1
   · exact .inr ⟨by omega,h2⟩
structure Scanned (H H':Ho):Prop where
 k:HoKept H H'
 g:H'.G=H.G
 d:H'.d=H.d
 s:∀ a b,0≤H'.P.fr a b↔0≤H.P.fr a b
 c:∀ a,H'.P.chargeN a=H.P.chargeN a
 pt:∀ a b,H.P.at a b→H'.P.text a b=H.P.text a b
theorem Scanned.refl {H:Ho} (h:H.Ok):Scanned H H:=⟨HoKept.refl h,rfl,rfl,fun _ _=>Iff.rfl,fun _=>rfl,fun _ _ _=>rfl⟩
theorem Scanned.trans {H K L:Ho} (h:Scanned H K) (h':Scanned K L):Scanned H L :=
 ⟨h.k.trans h'.k,h'.g.trans h.g,h'.d.trans h.d,fun a b=>(h'.s a b).trans (h.s a b),fun a=>(h'.c a).trans (h.c a),fun a b hab=>(h'.pt a b ((h.k.al.at a b).2 hab)).trans (h.pt a b hab)⟩
theorem Scanned.sw {H H':Ho} (h:Scanned H H') (a b:Nat):H'.sw a b=H.sw a b:=by
 unfold Ho.sw
 rw[h.g]
theorem Scanned.text {H H':Ho} (h:Scanned H H') {a b:Nat} (hab:H.P.at a b):H'.text a b=H.text a b:=by
 rw[Ho.text_sw,Ho.text_sw,h.sw,h.pt a b hab]
theorem sh_scanned {H:Ho} (hok:H.Ok) {a b:Nat} (hat:H.P.at a b) {n:Int} (hn:0≤n∧n<max (lenM H.P.M:Int) 1):Scanned H ⟨H.P.sh a b,H.G,H.t,H.d,n⟩:=by
 have S:=(Pl.sh_law hok.p hat).1
 obtain⟨_,F2,_,F4⟩:=Pl.sh_frames hok.p hat
 have hs:∀ x y,0≤(H.P.sh a b).fr x y↔0≤H.P.fr x y:=fun x y=>by
  by_cases e:a=x∧b=y
  · rw[←e.1,←e.2]
    exact F4
  · rw[F2 x y e]
 have hc:=Pl.charge_sh hok.p hat
 exact⟨⟨hok.repool S.ok S.al hs hc rfl rfl rfl hn,S.al,rfl,rfl,fun _ g hg=>⟨g,hg,rfl,rfl⟩⟩,rfl,rfl,hs,hc,S.text⟩
theorem scan1_scanned {H:Ho} (hok:H.Ok):Scanned H (H.scan1 H.ord):=by
 unfold Ho.scan1
 cases ho:H.ord[H.n.toNat]? with
 | none=>exact Scanned.refl hok
 | some x =>
   dsimp only
   have hat:H.P.at x.1 x.2:=ord_mem.1 (mem_at ho)
   have hl:=lt_of_get ho
   rw[ord_len] at hl
   refine sh_scanned hok hat ?_
   rw[ord_len]
   have h1:0≤(H.n+1) % (lenM H.P.M:Int):=Int.emod_nonneg _ (by omega)
   have h2:(H.n+1) % (lenM H.P.M:Int)<lenM H.P.M:=Int.emod_lt_of_pos _ (by omega)
   omega
theorem scanN_scanned {H:Ho} (hok:H.Ok):∀ k:Nat,Scanned H (Ho.scanN H.ord H k)
 | 0=>Scanned.refl hok
 | k+1=>by
   have ih:=scanN_scanned hok k
   have h1:=scan1_scanned ih.k.ok
   rw[ord_alike ih.k.al] at h1
   exact ih.trans h1
theorem scan_scanned {H:Ho} (hok:H.Ok) (n:Int):Scanned H (H.scan n):=by
 unfold Ho.scan
 split
 · exact Scanned.refl hok
 · exact scanN_scanned hok _
theorem info_pair:(Tryz.prog.info? 91).map (fun i=>(i.zero,i.size,i.bytes))=some (some (.agg #[.int .i64 0,.int .i64 0]),2,16):=by kernel_rfl
theorem one_pair (a b:Int):∀ u∈[Value.int .i64 a,.int .i64 b],u.oneCell'=true:=by
 intro u hu
 simp at hu
 rcases hu with rfl|rfl <;> rfl
def prFlat (O:List (Nat×Nat)):List Value:=O.flatMap (fun x=>[.int .i64 x.1,.int .i64 x.2])
theorem prFlat_at:∀ (O:List (Nat×Nat)) (i:Nat) (x:Nat×Nat),O[i]?=some x→(prFlat O)[i*2]?=some (.int .i64 x.1)∧(prFlat O)[i*2+1]?=some (.int .i64 x.2)
 | [],_,_,h=>by simp at h
 | a :: O,0,x,h=>by
   simp at h
   subst h
   exact⟨rfl,rfl⟩
 | a :: O,i+1,x,h=>by
   have h1:=prFlat_at O i x (by simpa using h)
   have e:prFlat (a :: O)=.int .i64 a.1 :: .int .i64 a.2 :: prFlat O:=rfl
   rw[e,show (i+1)*2=i*2+1+1 from by omega]
   exact h1
theorem prFlat_push (O:List (Nat×Nat)) (x:Nat×Nat):prFlat (O++[x])=prFlat O++[.int .i64 x.1,.int .i64 x.2]:=by
 unfold prFlat
 rw[List.flatMap_append]
 rfl
def ordUp (P:Pl) (i k:Nat):List (Nat×Nat):=ordTo P i++(List.range k).map (fun p=>(i,p))
theorem ordUp_succ (P:Pl) (i k:Nat):ordUp P i (k+1)=ordUp P i k++[(i,k)]:=by
 unfold ordUp
 rw[List.range_succ,List.map_append,List.append_assoc]
 rfl
theorem ordUp_len (P:Pl) (i k:Nat):(ordUp P i k).length=(ordTo P i).length+k:=by
 unfold ordUp
 rw[List.length_append,List.length_map,List.length_range]
set_option maxRecDepth 100000 in
set_option maxHeartbeats 8000000 in
theorem hscan_ok (v:Value) (H:Ho) (k:Int) (w:World) (ha:HoAt w v H) (hok:H.Ok) (hk : -9223372036854775808≤k∧k≤9223372036854775807):Calls Tryz.prog 36 #[v,.int .i64 k] w (RetHoB (fun v=>v) (H.scan k) w):=by
 have CL:=fun v w h=>hclone_ok v H w h hok
 have HV0:=fun v w h=>hvalid_ok v H w h hok
 have HCL:=lh CL;clear CL
 have HHS:=lh HV0;clear HV0
 have hbd:=hok.bounds
 have hol:=ord_len H
 have hsn:=hok.n
 obtain⟨of,or',om,og,kf,kr,km,kg,n,r,m,q,tx,dx,sx,HN,HR,HM,HQ,HT,HD,HS,rfl,kf1,kf2,kr1,kr2,km1,km2,kg1,kg2,h⟩:=HoAt.opened ha
 rw[HN.out,HR.out,HM.out,HQ.out] at hbd
 rw[HS.out] at hsn
 have h0:=h
 have HVA:Hid (∀ w':World,Below w.heap.size w w'→HoAt w' (.agg #[.slice of n kf,.slice or' r kr,.slice om m km,.slice og q kg,.int .i64 tx,.int .u64 dx,.int .i64 sx]) H):=lh (fun w' hb=>by
  have:=(h0.below hb).at_
  rwa[HT.out,HD.out,HS.out] at this)
 have H0:=lh h0
 clear h h0
 have D1:=(HasBlock.made w #[.slice of n kf,.slice or' r kr,.slice om m km,.slice og q kg,.int .i64 tx,.int .u64 dx,.int .i64 sx] 30).alloc (.cells #[.slice none 0 0,.slice none 0 0,.slice none 0 0,.slice none 0 0,.int .i64 0,.int .u64 0,.int .i64 0] 30)
 have D2:=HasBlock.made (w.alloc (.cells #[.slice of n kf,.slice or' r kr,.slice om m km,.slice og q kg,.int .i64 tx,.int .u64 dx,.int .i64 sx] 30)) #[.slice none 0 0,.slice none 0 0,.slice none 0 0,.slice none 0 0,.int .i64 0,.int .u64 0,.int .i64 0] 30
 rw[World.size_alloc] at D2
 have hbw:Below w.heap.size w ((w.alloc (.cells #[.slice of n kf,.slice or' r kr,.slice om m km,.slice og q kg,.int .i64 tx,.int .u64 dx,.int .i64 sx] 30)).alloc (.cells #[.slice none 0 0,.slice none 0 0,.slice none 0 0,.slice none 0 0,.int .i64 0,.int .u64 0,.int .i64 0] 30)):=bel
 have HOK:=lh hok;clear hok
 have HOL:=lh hol;clear hol
 have hz0:w.heap.size+1+1=((w.alloc (.cells #[.slice of n kf,.slice or' r kr,.slice om m km,.slice og q kg,.int .i64 tx,.int .u64 dx,.int .i64 sx] 30)).alloc (.cells #[.slice none 0 0,.slice none 0 0,.slice none 0 0,.slice none 0 0,.int .i64 0,.int .u64 0,.int .i64 0] 30)).heap.size:=by simp only[sizes]
 by_cases hk1:k<1
 · have hsc:H.scan k=H:=by unfold Ho.scan;rw[if_pos hk1]
   rw[hsc]
   have t1:decide (k<1)=true:=decide_eq_true hk1
   clear hsc
   go_enter Tryz.func36,Tryz.ntmps36
   obtain⟨D1_c,D1_f,D1_z⟩:=D1.all
   go_wp2_with fail
   clear D1_c D1_f D1_z
   with_reducible refine (HCL.out _ _ (HVA.out _ hbw)).mono ?_
   rintro e w1 ⟨of1,or1,om1,og1,kf1',kr1',km1',kg1',us1,gs1,rfl,O1,hb1⟩
   rw[HN.out,HR.out,HM.out,HQ.out] at O1 ⊢
   rw[HT.out,HD.out,HS.out]
   replace O1:=O1.lower (base':=w.heap.size+1+1) (Nat.le_of_eq hz0)
   have hz1:=hb1.size
   rw[←hz0] at hz1
   replace D1:=D1.below hb1
   replace D2:=D2.below hb1
   replace hbw:=hbw.trans (hb1.mono hbw.size)
   clear hb1 hz0
   obtain⟨D1_c,D1_f,D1_z⟩:=D1.all
   go_wp2_with fail
   clear D1_c D1_f D1_z
   have hbx:Below w1.heap.size w1 (w1.alloc (.cells #[.slice of1 n kf1',.slice or1 r kr1',.slice om1 m km1',.slice og1 q kg1',.int .i64 tx,.int .u64 dx,.int .i64 sx] 30)):=(Below.refl _ _).alloc (nlr _) _
   have DR:=HasBlock.made w1 #[.slice of1 n kf1',.slice or1 r kr1',.slice om1 m km1',.slice og1 q kg1',.int .i64 tx,.int .u64 dx,.int .i64 sx] 30
   replace D1:=D1.below hbx
   replace D2:=D2.below hbx
   replace O1:=O1.below hbx
   replace hbw:=hbw.trans (hbx.mono hbw.size)
   have hz2:=hbx.size
   clear hbx
   generalize hW:w1.alloc (.cells #[.slice of1 n kf1',.slice or1 r kr1',.slice om1 m km1',.slice og1 q kg1',.int .i64 tx,.int .u64 dx,.int .i64 sx] 30)=w2 at D1 D2 DR O1 hbw hz2 ⊢
   obtain⟨B,hB⟩:∃ B,w1.heap.size=B:=⟨_,rfl⟩
   rw[hB] at DR hz1 hz2 ⊢
   clear hW hB
   have hBA:w.heap.size+1+1≤B:=hz1
   have hBZ2:=DR.lt
   with_reducible refine (HHS.out _ _ (HVA.out _ hbw)).mono ?_
   rintro e w3 ⟨rfl,hb3⟩
   replace D1:=D1.below hb3
   replace D2:=D2.below hb3
   replace DR:=DR.below hb3
   replace O1:=O1.below hb3
   replace hbw:=hbw.trans (hb3.mono hbw.size)
   replace hz2:=Nat.le_trans hz2 hb3.size
   have hBZ:=Nat.lt_of_lt_of_le hBZ2 hb3.size
   clear hb3 hBZ2
   have hzz:w.heap.size+1+1≤w3.heap.size:=Nat.le_trans hBA hz2
   obtain⟨D1_c,D1_f,D1_z⟩:=D1.all
   obtain⟨DR_c,DR_f,DR_z⟩:=DR.all
   obtain⟨D2_c,D2_f,D2_z⟩:=D2.all
   go_wp2_with fail
   have nB:w.heap.size+1≠B:=by omega
   refine bodyPost_ret (v:=.agg #[.slice of1 n kf1',.slice or1 r kr1',.slice om1 m km1',.slice og1 q kg1',.int .i64 tx,.int .u64 dx,.int .i64 sx]) (by simp [results,Tryz.results36,go_sem,D2_c]) rfl ?_
   skip
   exact hoRet' (k:=fun v=>v) (H:=H) HN.out HR.out HM.out HQ.out HT.out HD.out HS.out (O1.fill7 (by omega) _ _ _ _ _ _ _) (Below.fill7 hbw (by omega) _ _ _ _ _ _ _)
 · have hk2:1≤k:=by omega
   obtain⟨kn,rfl⟩:∃ kn:Nat,k=kn:=⟨k.toNat,by omega⟩
   have hsc:H.scan kn=Ho.scanN H.ord H (min kn H.ord.length):=by unfold Ho.scan;rw[if_neg hk1,Int.toNat_natCast]
   have t1:decide ((kn:Int)<1)=false:=decide_eq_false hk1
   rw[hsc]
   clear hsc hk1
   obtain⟨L,hL⟩:∃ L,lenM H.P.M=L:=⟨_,rfl⟩
   have hlb:=HOK.out.len H.P.M.length (nlr _)
   rw[List.take_length,hL,HM.out] at hlb
   rw[HOL.out,hL]
   rw[hL] at hsn HOL
   have HLL:=lh hL;clear hL
   obtain⟨i0,hi0,iz0,iz1,iz2⟩:=info_parts info_pair
   go_enter Tryz.func36,Tryz.ntmps36
   obtain⟨D1_c,D1_f,D1_z⟩:=D1.all
   go_wp2_with fail
   clear D1_c D1_f D1_z
   with_reducible refine (HCL.out _ _ (HVA.out _ hbw)).mono ?_
   rintro e w1 ⟨of1,or1,om1,og1,kf1',kr1',km1',kg1',us1,gs1,rfl,O1,hb1⟩
   rw[HN.out,HR.out,HM.out,HQ.out] at O1 ⊢
   rw[HT.out,HD.out,HS.out]
   replace O1:=O1.lower (base':=w.heap.size+1+1) (Nat.le_of_eq hz0)
   have hz1:=hb1.size
   rw[←hz0] at hz1
   replace D1:=D1.below hb1
   replace D2:=D2.below hb1
   replace hbw:=hbw.trans (hb1.mono hbw.size)
   clear hb1 hz0
   obtain⟨D1_c,D1_f,D1_z⟩:=D1.all
   go_wp2_with fail
   clear D1_c D1_f D1_z
   have hbx:Below w1.heap.size w1 (w1.alloc (.cells #[.slice of1 n kf1',.slice or1 r kr1',.slice om1 m km1',.slice og1 q kg1',.int .i64 tx,.int .u64 dx,.int .i64 sx] 30)):=(Below.refl _ _).alloc (nlr _) _
   have DR:=HasBlock.made w1 #[.slice of1 n kf1',.slice or1 r kr1',.slice om1 m km1',.slice og1 q kg1',.int .i64 tx,.int .u64 dx,.int .i64 sx] 30
   replace D1:=D1.below hbx
   replace D2:=D2.below hbx
   replace O1:=O1.below hbx
   replace hbw:=hbw.trans (hbx.mono hbw.size)
   have hz2:=hbx.size
   clear hbx
   generalize hW:w1.alloc (.cells #[.slice of1 n kf1',.slice or1 r kr1',.slice om1 m km1',.slice og1 q kg1',.int .i64 tx,.int .u64 dx,.int .i64 sx] 30)=w2 at D1 D2 DR O1 hbw hz2 ⊢
   obtain⟨B,hB⟩:∃ B,w1.heap.size=B:=⟨_,rfl⟩
   rw[hB] at DR hz1 hz2 ⊢
   clear hW hB
   have hBA:w.heap.size+1+1≤B:=hz1
   have hBZ2:=DR.lt
   with_reducible refine (HHS.out _ _ (HVA.out _ hbw)).mono ?_
   rintro e w3 ⟨rfl,hb3⟩
   replace D1:=D1.below hb3
   replace D2:=D2.below hb3
   replace DR:=DR.below hb3
   replace O1:=O1.below hb3
   replace hbw:=hbw.trans (hb3.mono hbw.size)
   replace hz2:=Nat.le_trans hz2 hb3.size
   have hBZ:=Nat.lt_of_lt_of_le hBZ2 hb3.size
   clear hb3 hBZ2
   have hzz:w.heap.size+1+1≤w3.heap.size:=Nat.le_trans hBA hz2
   obtain⟨D1_c,D1_f,D1_z⟩:=D1.all
   obtain⟨DR_c,DR_f,DR_z⟩:=DR.all
   obtain⟨D2_c,D2_f,D2_z⟩:=D2.all
   go_wp2_with fail
   clear D1_c D1_f D1_z DR_c DR_f DR_z D2_c D2_f D2_z
   go_loopw [6,27] (fun sv iv wr=>∃ (i N:Nat) (o:Option Addr) (cp:Nat),i≤m∧iv=.int .i64 i∧sv=.slice o N cp∧Hid (N=(ordTo H.P i).length)∧N≤cp∧cp≤9223372036854775807∧Hid (wr.ownsRow w3.heap.size 91 2 (.slice o N cp) N (prFlat (ordTo H.P i)))∧Below w3.heap.size w3 wr) (fun _ iv _=>m - (intOf iv).toNat)
   case atStart=>exact⟨0,0,none,0,by omega,rfl,rfl,rfl,nlr _,by omega,World.ownsRow_nil _ _ _ _,Below.refl _ _⟩
   case round =>
    obtain⟨i,N,o,cp,hi,rfl,rfl,HNN,hc1,hc2,HOW,hbr⟩:=hrel
    have hbwr:=hbw.trans (hbr.mono hbw.size)
    by_cases hlt:i<m
    · obtain⟨l,hl⟩:=get_lt (xs:=H.P.M) (k:=i) (by rw[HM.out];exact hlt)
      have hll:=HOK.out.p.l l (mem_at hl)
      have hnl:=HOK.out.len i (by rw[HM.out];omega)
      rw[←ordTo_len H.P i (by rw[HM.out];omega),←HNN.out] at hnl
      obtain⟨mb,moff,lo,lc,rfl,hmb,cm0,lc1,lc2,_⟩:=H0.out.p.guest hl
      have hpl:=Pl.pages_eq hl
      have hnext:ordTo H.P (i+1)=ordUp H.P i l.length:=by rw[ordTo_succ,hpl];rfl
      obtain⟨ql,hql⟩:∃ x,l.length=x:=⟨_,rfl⟩
      rw[hql] at hll cm0 lc1 hnext
      have HNX:=lh hnext;clear hnext
      have cm:=(hbwr.cell (p:=⟨mb,moff+i,none⟩) hmb).trans cm0
      have i0':(0:Int)≤(i:Int):=by omega
      have im:(i:Int)<(m:Int):=by omega
      have hmb2:mb<wr.heap.size:=by have:=hbwr.size;omega
      clear hl hpl hql cm0
      go_wp2_with fail
      clear cm hmb2
      have HST:Hid (wr.ownsRow w3.heap.size 91 2 (.slice o N cp) N (prFlat (ordUp H.P i 0))):=lh (by
       have e:ordUp H.P i 0=ordTo H.P i:=by unfold ordUp;simp
       rw[e]
       exact HOW.out)
      go_loopw [6,34] (fun sv iv wr=>∃ (p N2:Nat) (o:Option Addr) (cp:Nat),p≤ql∧iv=.int .i64 p∧sv=.slice o N2 cp∧Hid (N2=N+p)∧N2≤cp∧cp≤9223372036854775807∧Hid (wr.ownsRow w3.heap.size 91 2 (.slice o N2 cp) N2 (prFlat (ordUp H.P i p)))∧Below w3.heap.size w3 wr) (fun _ iv _=>ql - (intOf iv).toNat)
      case atStart=>exact⟨0,N,o,cp,by omega,rfl,rfl,rfl,hc1,hc2,HST,hbr⟩
      case round =>
       clear HST HOW hbr hbwr hc1 hc2
       obtain⟨p,N2,o,cp,hp,rfl,rfl,hN2,hc1,hc2,HOW,hbr⟩:=hrel
       have hN2b:N2≤300:=by have:=hN2.out;omega
       by_cases hpt:p<ql
       · have hzr:=hbr.size
         have hpush:prFlat (ordUp H.P i p)++[.int .i64 i,.int .i64 p]=prFlat (ordUp H.P i (p+1)):=by rw[ordUp_succ,prFlat_push]
         have HPU:=lh hpush;clear hpush
         go_wp2_with (at_builtin;go_must (refine wpList_append_own _ rfl (.tmp 37) (.tmp 41) 90 rfl w3.heap.size 91 i0 (.agg #[.int .i64 0,.int .i64 0]) 2 16 Tryz.underlying90 hi0 iz0 iz1 iz2 rfl (by decide) _ N2 (prFlat (ordUp H.P i p)) rfl (HOW.out.alloc _) ⟨wr.heap.size,0,none⟩ 1 1 [.int .i64 i,.int .i64 p] rfl rfl (cells_made _ [.int .i64 i,.int .i64 p] _ _ (by first|rfl|simp only[sizes])) (one_pair _ _) (by unfold maxLen;omega) (by omega) (by simp only[sizes];omega) ?_;intro v7 w7 hown7 hgrow7 _;obtain⟨o7,c7',rfl,hc71,hc72⟩:=own_form' hown7))
         have hbr7:Below w3.heap.size w3 w7:=below_append' (Below.alloc' hbr (nlr _) _) (HOW.out.alloc _) hgrow7 (nlr _)
         go_roundw
         case rel=>exact⟨p+1,N2+1,o7,c7',by omega,by go_num,rfl,lh (by rw[hN2.out];rfl),hc71,hc72,lh (by rw[←HPU.out];exact hown7),hbr7⟩
         case measure=>simp [intOf];omega
       · obtain rfl:p=ql:=by omega
         go_wp2_with fail
         go_roundw
         case rel=>exact⟨i+1,N2,o,cp,by omega,by go_num,rfl,lh (by rw[HNX.out,ordUp_len,←HNN.out];exact hN2.out),hc1,hc2,by rw[HNX.out];exact HOW,hbr⟩
         case measure=>simp [intOf];omega
    · obtain rfl:m=i:=by omega
      have hNL:N=L:=by rw[HNN.out,←HM.out];exact HOL.out
      subst hNL
      have HOR:Hid (wr.ownsRow w3.heap.size 91 2 (.slice o N cp) N (prFlat H.ord)):=lh (by have:=HOW.out;rw[←HM.out] at this;exact this)
      clear HOW HNN
      have OX:=O1.below hbr
      have D1X:=D1.below hbr
      have D2X:=D2.below hbr
      have DRX:=DR.below hbr
      clear O1 D1 D2 DR
      by_cases hL0:N=0
      · subst hL0
        clear HOR
        obtain⟨DRX_c,DRX_f,DRX_z⟩:=DRX.all
        obtain⟨D2_c,D2_f,D2_z⟩:=D2X.all
        go_wp2_with fail
        have e0:Ho.scanN H.ord H (min kn 0)=H:=by
         have e1:min kn 0=0:=Nat.min_zero kn
         rw[e1,Ho.scanN]
        have nB:w.heap.size+1≠B:=by omega
        refine bodyPost_ret (v:=.agg #[.slice of1 n kf1',.slice or1 r kr1',.slice om1 m km1',.slice og1 q kg1',.int .i64 tx,.int .u64 dx,.int .i64 sx]) (by simp [results,Tryz.results36,go_sem,D2_c]) rfl ?_
        rw[e0]
        exact hoRet' (k:=fun v=>v) (H:=H) HN.out HR.out HM.out HQ.out HT.out HD.out HS.out (OX.fill7 (by omega) _ _ _ _ _ _ _) (Below.fill7 hbwr (by omega) _ _ _ _ _ _ _)
      · have e1:((N:Int) == 0)=false:=by rw[beq_eq_false_iff_ne];omega
        have hO2:=HOR.out
        rcases hO2.2 with ⟨_,h00⟩|⟨bO,cO,cur,e0,b1,b2,b3,b4,b5⟩
        · exact absurd h00 hL0
        injection e0 with e0 e9 e10
        subst e0 e10
        clear e9 b5 b2 b4 cur hO2
        by_cases hm:kn≤N
        · have hmn:min kn N=kn:=Nat.min_eq_left hm
          go_wp2_with fail
          go_loopw [53] (fun iv wr2=>∃ (j:Nat) (K:Ho),j≤kn∧iv=.int .i64 j∧Hid (K=Ho.scanN H.ord H j)∧HostAt (w.heap.size+1+1) B wr2 K∧HasBlock wr2 (w.heap.size+1) #[.slice none 0 0,.slice none 0 0,.slice none 0 0,.slice none 0 0,.int .i64 0,.int .u64 0,.int .i64 0] 30∧Hid (wr2.ownsRow w3.heap.size 91 2 (.slice (some ⟨bO,0,none⟩) N cp) N (prFlat H.ord))∧Below w.heap.size w wr2∧w3.heap.size≤wr2.heap.size) (fun iv _=>kn - (intOf iv).toNat)
          case atStart=>exact⟨0,H,by omega,rfl,rfl,HostAt.mk HN.out HR.out HM.out HQ.out HT.out HD.out HS.out DRX OX,D2X,HOR,hbwr,hbr.size⟩
          case round =>
           clear DRX OX D2X HOR hbwr hbr
           obtain⟨j,K,hj,rfl,HKE,hAK,D2X,HOR,hbw2,hzr⟩:=hrel
           have SC:=scanN_scanned HOK.out j
           rw[←HKE.out] at SC
           have hKo:=SC.k.ok
           have hKF:=SC.k.al.f.trans HN.out
           have hKR:=SC.k.al.r.trans HR.out
           have hKM:=SC.k.al.m.trans HM.out
           have hKQ:=SC.k.gl.trans HQ.out
           have hKT:=SC.k.t.trans HT.out
           have hKD:=SC.d.trans HD.out
           have hKn:=hKo.n
           rw[lenM_alike SC.k.al,HLL.out] at hKn
           obtain⟨c,hc⟩:∃ c:Nat,K.n=c:=⟨K.n.toNat,by omega⟩
           obtain⟨of2,or2,om2,og2,kf2',kr2',km2',kg2',us2,gs2,DK,OK⟩:=hAK
           rw[hKF,hKR,hKM,hKQ] at DK OK
           rw[hKT,hKD,hc] at DK
           have HKL:=lh (And.intro hKF (And.intro hKR (And.intro hKM (And.intro hKQ (And.intro hKT (And.intro hKD hc))))));clear hKF hKR hKM hKQ hKT hKD
           by_cases hjt:j<kn
           · have hcN:c<N:=by omega
             obtain⟨⟨a,b⟩,hx⟩:=get_lt (xs:=H.ord) (k:=c) (by rw[HOL.out];exact hcN)
             have hat:H.P.at a b:=ord_mem.1 (mem_at hx)
             have hatK:=(SC.k.al.at a b).2 hat
             obtain⟨px,py⟩:=prFlat_at _ _ _ hx
             have hx0:=World.ownsRow.cellAt HOR.out (c*2) (by omega)
             have hx1:=World.ownsRow.cellAt HOR.out (c*2+1) (by omega)
             rw[px] at hx0
             rw[py] at hx1
             dsimp only at hx0 hx1
             have hbO:=(World.ownsRow.lt HOR.out bO rfl).2
             have SHc:=fun v w h=>pshare_own v K.P a b w h hKo.p.fit hKo.p.small
             have hnext:Ho.scanN H.ord H (j+1)=⟨K.P.sh a b,K.G,K.t,K.d,((c:Int)+1) % (N:Int)⟩:=by
              rw[Ho.scanN,←HKE.out]
              unfold Ho.scan1
              rw[hc,Int.toNat_natCast,hx]
              dsimp only
              rw[HOL.out]
             have hSA:=(Pl.sh_law hKo.p hatK).1.al
             have hsf:=(Pl.sh_law hKo.p hatK).2
             obtain⟨Q,hQ⟩:∃ Q,K.P.sh a b=Q:=⟨_,rfl⟩
             obtain⟨t,ht⟩:∃ t,K.P.sok a b=t:=⟨_,rfl⟩
             rw[hQ,ht] at SHc hsf
             rw[hQ] at hnext hSA
             have HSH:=lh SHc;clear SHc hQ ht
             have HNXT:=lh hnext;clear hnext
             have HSF:=lh hsf;clear hsf
             have HSA:=lh hSA;clear hSA
             clear hx px py hat hatK hc hKo SC
             have c0':(0:Int)≤(c:Int):=by omega
             have cN:(c:Int)<(N:Int):=by omega
             obtain⟨DK_c,DK_f,DK_z⟩:=DK.all
             go_wp2_with fail
             clear DK_c DK_f DK_z hx0 hx1 hbO
             with_reducible refine (HSH.out _ _ (OK.alloc _).row.p).mono ?_
             rintro e w5 ⟨of5,or5,om5,kf5,kr5,km5,us5,rfl,O5,hb5⟩
             obtain⟨n5,hgn⟩:∃ n,(Pl.F Q).length=n:=⟨_,rfl⟩
             obtain⟨r5,hgr⟩:∃ n,(Pl.R Q).length=n:=⟨_,rfl⟩
             obtain⟨m5,hgm⟩:∃ n,(Pl.M Q).length=n:=⟨_,rfl⟩
             rw[hgn,hgr,hgm] at O5 ⊢
             have HG5:=lh (And.intro hgn (And.intro hgr hgm))
             clear hgn hgr hgm
             have hbx:Below wr.heap.size wr w5:=((Below.refl _ wr).alloc (nlr _) (.cells #[.int .i64 a,.int .i64 b] 91)).trans (hb5.mono (by simp only[sizes];omega))
             have D5:=DK.below hbx
             have D25:=D2X.below hbx
             have O4:=OK.below hbx
             have HO5:Hid (w5.ownsRow w3.heap.size 91 2 (.slice (some ⟨bO,0,none⟩) N cp) N (prFlat H.ord)):=lh (owns_below HOR.out hbx)
             have hz5:=Nat.le_trans hzr hbx.size
             have hltG:=(OK.alloc (.cells #[.int .i64 a,.int .i64 b] 91)).ltG
             have hzk:w.heap.size+1+1≤wr.heap.size:=by omega
             have hzl:wr.heap.size≤(wr.alloc (.cells #[.int .i64 a,.int .i64 b] 91)).heap.size:=by simp only[sizes];omega
             have O5G:=O5.ge
             replace O5:=O5.lower (base':=w.heap.size+1+1) (Nat.le_trans hzk hzl)
             have hbw5:=hbw2.trans (hbx.mono hbw2.size)
             clear DK D2X OK HOR hbx hb5 HSH
             have nB:w.heap.size+1≠B:=by omega
             cases t
             · have hQP:Q=K.P:=HSF.out rfl
               obtain⟨D5_c,D5_f,D5_z⟩:=D5.all
               go_wp2_with fail
               obtain⟨V,hV⟩:∃ V,((c:Int)+1) % (N:Int)=V:=⟨_,rfl⟩
               rw[hV] at HNXT ⊢
               clear hV D5_c D5_f D5_z
               subst hQP
               go_roundw
               case rel=>exact⟨j+1,⟨K.P,K.G,K.t,K.d,V⟩,by omega,by go_num,lh HNXT.out.symm,HostAt.mk HKL.out.1 HKL.out.2.1 HKL.out.2.2.1 HKL.out.2.2.2.1 HKL.out.2.2.2.2.1 HKL.out.2.2.2.2.2.1 rfl ((D5.put7_6 (.int .i64 V)).alloc _) (((O4.setbox (j:=6) D5 hostT (.int .i64 V)).alloc _).head rfl rfl),(D25.set_ne nB (j:=6) (.int .i64 V)).alloc _,lh ((owns_setlow HO5.out hBZ (.int .i64 V)).alloc _),(hbw5.setCell (p:=⟨B,6,none⟩) (by dsimp only;omega) (.int .i64 V)).alloc (by simp only[sizes];omega) _,by simp only[sizes];omega⟩
               case measure=>simp [intOf];omega
             · obtain⟨D5_c,D5_f,D5_z⟩:=D5.all
               go_wp2_with fail
               obtain⟨V,hV⟩:∃ V,((c:Int)+1) % (N:Int)=V:=⟨_,rfl⟩
               rw[hV] at HNXT ⊢
               clear hV D5_c D5_f D5_z
               have Oa:=O4.newPool O5 hltG O5G
               have Ob:=(((Oa.setbox (j:=0) D5 hostT (.slice of5 n5 kf5)).setbox (j:=1) (D5.put7_0 (.slice of5 n5 kf5)) hostT (.slice or5 r5 kr5)).setbox (j:=2) ((D5.put7_0 (.slice of5 n5 kf5)).put7_1 (.slice or5 r5 kr5)) hostT (.slice om5 m5 km5)).setbox (j:=6) (D5.poolIn (.slice of5 n5 kf5) (.slice or5 r5 kr5) (.slice om5 m5 km5)) hostT (.int .i64 V)
               go_roundw
               case rel=>exact⟨j+1,⟨Q,K.G,K.t,K.d,V⟩,by omega,by go_num,lh HNXT.out.symm,HostAt.mk HG5.out.1 HG5.out.2.1 HG5.out.2.2 HKL.out.2.2.2.1 HKL.out.2.2.2.2.1 HKL.out.2.2.2.2.2.1 rfl (((D5.poolIn (.slice of5 n5 kf5) (.slice or5 r5 kr5) (.slice om5 m5 km5)).put7_6 (.int .i64 V)).alloc _) ((Ob.alloc _).head rfl rfl),((((D25.set_ne nB (j:=0) (.slice of5 n5 kf5)).set_ne nB (j:=1) (.slice or5 r5 kr5)).set_ne nB (j:=2) (.slice om5 m5 km5)).set_ne nB (j:=6) (.int .i64 V)).alloc _,lh ((owns_setlow (owns_setlow (owns_setlow (owns_setlow HO5.out hBZ (.slice of5 n5 kf5)) hBZ (.slice or5 r5 kr5)) hBZ (.slice om5 m5 km5)) hBZ (.int .i64 V)).alloc _),((((hbw5.setCell (p:=⟨B,0,none⟩) (by dsimp only;omega) (.slice of5 n5 kf5)).setCell (p:=⟨B,1,none⟩) (by dsimp only;omega) (.slice or5 r5 kr5)).setCell (p:=⟨B,2,none⟩) (by dsimp only;omega) (.slice om5 m5 km5)).setCell (p:=⟨B,6,none⟩) (by dsimp only;omega) (.int .i64 V)).alloc (by simp only[sizes];omega) _,by simp only[sizes];omega⟩
               case measure=>simp [intOf];omega
           · have hjn:j=kn:=by omega
             rw[hjn] at HKE
             clear hjn
             obtain⟨DK_c,DK_f,DK_z⟩:=DK.all
             obtain⟨D2X_c,D2X_f,D2X_z⟩:=D2X.all
             go_wp2_with fail
             have nB:w.heap.size+1≠B:=by omega
             refine bodyPost_ret (v:=.agg #[.slice of2 n kf2',.slice or2 r kr2',.slice om2 m km2',.slice og2 q kg2',.int .i64 tx,.int .u64 dx,.int .i64 c]) (by simp [results,Tryz.results36,go_sem,D2X_c]) rfl ?_
             rw[hmn,←HKE.out]
             exact hoRet' (k:=fun v=>v) (H:=K) HKL.out.1 HKL.out.2.1 HKL.out.2.2.1 HKL.out.2.2.2.1 HKL.out.2.2.2.2.1 HKL.out.2.2.2.2.2.1 HKL.out.2.2.2.2.2.2 (OK.fill7 (by omega) _ _ _ _ _ _ _) (Below.fill7 hbw2 (by omega) _ _ _ _ _ _ _)
        · have hmn:min kn N=N:=Nat.min_eq_right (by omega)
          go_wp2_with fail
          go_loopw [53] (fun iv wr2=>∃ (j:Nat) (K:Ho),j≤N∧iv=.int .i64 j∧Hid (K=Ho.scanN H.ord H j)∧HostAt (w.heap.size+1+1) B wr2 K∧HasBlock wr2 (w.heap.size+1) #[.slice none 0 0,.slice none 0 0,.slice none 0 0,.slice none 0 0,.int .i64 0,.int .u64 0,.int .i64 0] 30∧Hid (wr2.ownsRow w3.heap.size 91 2 (.slice (some ⟨bO,0,none⟩) N cp) N (prFlat H.ord))∧Below w.heap.size w wr2∧w3.heap.size≤wr2.heap.size) (fun iv _=>N - (intOf iv).toNat)
          case atStart=>exact⟨0,H,by omega,rfl,rfl,HostAt.mk HN.out HR.out HM.out HQ.out HT.out HD.out HS.out DRX OX,D2X,HOR,hbwr,hbr.size⟩
          case round =>
           clear DRX OX D2X HOR hbwr hbr
           obtain⟨j,K,hj,rfl,HKE,hAK,D2X,HOR,hbw2,hzr⟩:=hrel
           have SC:=scanN_scanned HOK.out j
           rw[←HKE.out] at SC
           have hKo:=SC.k.ok
           have hKF:=SC.k.al.f.trans HN.out
           have hKR:=SC.k.al.r.trans HR.out
           have hKM:=SC.k.al.m.trans HM.out
           have hKQ:=SC.k.gl.trans HQ.out
           have hKT:=SC.k.t.trans HT.out
           have hKD:=SC.d.trans HD.out
           have hKn:=hKo.n
           rw[lenM_alike SC.k.al,HLL.out] at hKn
           obtain⟨c,hc⟩:∃ c:Nat,K.n=c:=⟨K.n.toNat,by omega⟩
           obtain⟨of2,or2,om2,og2,kf2',kr2',km2',kg2',us2,gs2,DK,OK⟩:=hAK
           rw[hKF,hKR,hKM,hKQ] at DK OK
           rw[hKT,hKD,hc] at DK
           have HKL:=lh (And.intro hKF (And.intro hKR (And.intro hKM (And.intro hKQ (And.intro hKT (And.intro hKD hc))))));clear hKF hKR hKM hKQ hKT hKD
           by_cases hjt:j<N
           · have hcN:c<N:=by omega
             obtain⟨⟨a,b⟩,hx⟩:=get_lt (xs:=H.ord) (k:=c) (by rw[HOL.out];exact hcN)
             have hat:H.P.at a b:=ord_mem.1 (mem_at hx)
             have hatK:=(SC.k.al.at a b).2 hat
             obtain⟨px,py⟩:=prFlat_at _ _ _ hx
             have hx0:=World.ownsRow.cellAt HOR.out (c*2) (by omega)
             have hx1:=World.ownsRow.cellAt HOR.out (c*2+1) (by omega)
             rw[px] at hx0
             rw[py] at hx1
             dsimp only at hx0 hx1
             have hbO:=(World.ownsRow.lt HOR.out bO rfl).2
             have SHc:=fun v w h=>pshare_own v K.P a b w h hKo.p.fit hKo.p.small
             have hnext:Ho.scanN H.ord H (j+1)=⟨K.P.sh a b,K.G,K.t,K.d,((c:Int)+1) % (N:Int)⟩:=by
              rw[Ho.scanN,←HKE.out]
              unfold Ho.scan1
              rw[hc,Int.toNat_natCast,hx]
              dsimp only
              rw[HOL.out]
             have hSA:=(Pl.sh_law hKo.p hatK).1.al
             have hsf:=(Pl.sh_law hKo.p hatK).2
             obtain⟨Q,hQ⟩:∃ Q,K.P.sh a b=Q:=⟨_,rfl⟩
             obtain⟨t,ht⟩:∃ t,K.P.sok a b=t:=⟨_,rfl⟩
             rw[hQ,ht] at SHc hsf
             rw[hQ] at hnext hSA
             have HSH:=lh SHc;clear SHc hQ ht
             have HNXT:=lh hnext;clear hnext
             have HSF:=lh hsf;clear hsf
             have HSA:=lh hSA;clear hSA
             clear hx px py hat hatK hc hKo SC
             have c0':(0:Int)≤(c:Int):=by omega
             have cN:(c:Int)<(N:Int):=by omega
             obtain⟨DK_c,DK_f,DK_z⟩:=DK.all
             go_wp2_with fail
             clear DK_c DK_f DK_z hx0 hx1 hbO
             with_reducible refine (HSH.out _ _ (OK.alloc _).row.p).mono ?_
             rintro e w5 ⟨of5,or5,om5,kf5,kr5,km5,us5,rfl,O5,hb5⟩
             obtain⟨n5,hgn⟩:∃ n,(Pl.F Q).length=n:=⟨_,rfl⟩
             obtain⟨r5,hgr⟩:∃ n,(Pl.R Q).length=n:=⟨_,rfl⟩
             obtain⟨m5,hgm⟩:∃ n,(Pl.M Q).length=n:=⟨_,rfl⟩
             rw[hgn,hgr,hgm] at O5 ⊢
             have HG5:=lh (And.intro hgn (And.intro hgr hgm))
             clear hgn hgr hgm
             have hbx:Below wr.heap.size wr w5:=((Below.refl _ wr).alloc (nlr _) (.cells #[.int .i64 a,.int .i64 b] 91)).trans (hb5.mono (by simp only[sizes];omega))
             have D5:=DK.below hbx
             have D25:=D2X.below hbx
             have O4:=OK.below hbx
             have HO5:Hid (w5.ownsRow w3.heap.size 91 2 (.slice (some ⟨bO,0,none⟩) N cp) N (prFlat H.ord)):=lh (owns_below HOR.out hbx)
             have hz5:=Nat.le_trans hzr hbx.size
             have hltG:=(OK.alloc (.cells #[.int .i64 a,.int .i64 b] 91)).ltG
             have hzk:w.heap.size+1+1≤wr.heap.size:=by omega
             have hzl:wr.heap.size≤(wr.alloc (.cells #[.int .i64 a,.int .i64 b] 91)).heap.size:=by simp only[sizes];omega
             have O5G:=O5.ge
             replace O5:=O5.lower (base':=w.heap.size+1+1) (Nat.le_trans hzk hzl)
             have hbw5:=hbw2.trans (hbx.mono hbw2.size)
             clear DK D2X OK HOR hbx hb5 HSH
             have nB:w.heap.size+1≠B:=by omega
             cases t
             · have hQP:Q=K.P:=HSF.out rfl
               obtain⟨D5_c,D5_f,D5_z⟩:=D5.all
               go_wp2_with fail
               obtain⟨V,hV⟩:∃ V,((c:Int)+1) % (N:Int)=V:=⟨_,rfl⟩
               rw[hV] at HNXT ⊢
               clear hV D5_c D5_f D5_z
               subst hQP
               go_roundw
               case rel=>exact⟨j+1,⟨K.P,K.G,K.t,K.d,V⟩,by omega,by go_num,lh HNXT.out.symm,HostAt.mk HKL.out.1 HKL.out.2.1 HKL.out.2.2.1 HKL.out.2.2.2.1 HKL.out.2.2.2.2.1 HKL.out.2.2.2.2.2.1 rfl ((D5.put7_6 (.int .i64 V)).alloc _) (((O4.setbox (j:=6) D5 hostT (.int .i64 V)).alloc _).head rfl rfl),(D25.set_ne nB (j:=6) (.int .i64 V)).alloc _,lh ((owns_setlow HO5.out hBZ (.int .i64 V)).alloc _),(hbw5.setCell (p:=⟨B,6,none⟩) (by dsimp only;omega) (.int .i64 V)).alloc (by simp only[sizes];omega) _,by simp only[sizes];omega⟩
               case measure=>simp [intOf];omega
             · obtain⟨D5_c,D5_f,D5_z⟩:=D5.all
               go_wp2_with fail
               obtain⟨V,hV⟩:∃ V,((c:Int)+1) % (N:Int)=V:=⟨_,rfl⟩
               rw[hV] at HNXT ⊢
               clear hV D5_c D5_f D5_z
               have Oa:=O4.newPool O5 hltG O5G
               have Ob:=(((Oa.setbox (j:=0) D5 hostT (.slice of5 n5 kf5)).setbox (j:=1) (D5.put7_0 (.slice of5 n5 kf5)) hostT (.slice or5 r5 kr5)).setbox (j:=2) ((D5.put7_0 (.slice of5 n5 kf5)).put7_1 (.slice or5 r5 kr5)) hostT (.slice om5 m5 km5)).setbox (j:=6) (D5.poolIn (.slice of5 n5 kf5) (.slice or5 r5 kr5) (.slice om5 m5 km5)) hostT (.int .i64 V)
               go_roundw
               case rel=>exact⟨j+1,⟨Q,K.G,K.t,K.d,V⟩,by omega,by go_num,lh HNXT.out.symm,HostAt.mk HG5.out.1 HG5.out.2.1 HG5.out.2.2 HKL.out.2.2.2.1 HKL.out.2.2.2.2.1 HKL.out.2.2.2.2.2.1 rfl (((D5.poolIn (.slice of5 n5 kf5) (.slice or5 r5 kr5) (.slice om5 m5 km5)).put7_6 (.int .i64 V)).alloc _) ((Ob.alloc _).head rfl rfl),((((D25.set_ne nB (j:=0) (.slice of5 n5 kf5)).set_ne nB (j:=1) (.slice or5 r5 kr5)).set_ne nB (j:=2) (.slice om5 m5 km5)).set_ne nB (j:=6) (.int .i64 V)).alloc _,lh ((owns_setlow (owns_setlow (owns_setlow (owns_setlow HO5.out hBZ (.slice of5 n5 kf5)) hBZ (.slice or5 r5 kr5)) hBZ (.slice om5 m5 km5)) hBZ (.int .i64 V)).alloc _),((((hbw5.setCell (p:=⟨B,0,none⟩) (by dsimp only;omega) (.slice of5 n5 kf5)).setCell (p:=⟨B,1,none⟩) (by dsimp only;omega) (.slice or5 r5 kr5)).setCell (p:=⟨B,2,none⟩) (by dsimp only;omega) (.slice om5 m5 km5)).setCell (p:=⟨B,6,none⟩) (by dsimp only;omega) (.int .i64 V)).alloc (by simp only[sizes];omega) _,by simp only[sizes];omega⟩
               case measure=>simp [intOf];omega
           · have hjn:j=N:=by omega
             rw[hjn] at HKE
             clear hjn
             obtain⟨DK_c,DK_f,DK_z⟩:=DK.all
             obtain⟨D2X_c,D2X_f,D2X_z⟩:=D2X.all
             go_wp2_with fail
             have nB:w.heap.size+1≠B:=by omega
             refine bodyPost_ret (v:=.agg #[.slice of2 n kf2',.slice or2 r kr2',.slice om2 m km2',.slice og2 q kg2',.int .i64 tx,.int .u64 dx,.int .i64 c]) (by simp [results,Tryz.results36,go_sem,D2X_c]) rfl ?_
             rw[hmn,←HKE.out]
             exact hoRet' (k:=fun v=>v) (H:=K) HKL.out.1 HKL.out.2.1 HKL.out.2.2.1 HKL.out.2.2.2.1 HKL.out.2.2.2.2.1 HKL.out.2.2.2.2.2.1 HKL.out.2.2.2.2.2.2 (OK.fill7 (by omega) _ _ _ _ _ _ _) (Below.fill7 hbw2 (by omega) _ _ _ _ _ _ _)
section
variable {P:Program} {md:Region.Mode}
def headPost (P:Program) (ops:Array Oper) (Q:Exit→Act→World→Prop) (o:Oper):Exit→Act→World→Prop
 | .normal,a,w=>wpList P ops Q [o] a w
 | e,a,w=>Q e a w
def lastB (md:Region.Mode) (l:List Oper) (o:Oper):Bool :=
 l.all (fun x=>x.guard.isNone) && o.guard.isNone && (List.range l.length).all (fun i=>match l[i]? with|none=>true|some x=>x.after.toList.all (fun e=>decide (e.on<i))) && o.after.toList.all (fun e=>decide (e.on<l.length)) && (List.range l.length).all (fun j=>o.after.toList.any (fun e=>Region.binds md e && decide (e.on=j)))
structure LastOk (md:Region.Mode) (l:List Oper) (o:Oper):Prop where
 gl:∀ x∈l,x.guard=none
 go:o.guard=none
 back:∀ (i:Nat) (x:Oper),l[i]?=some x→∀ e∈x.after,e.on<i
 ob:∀ e∈o.after,e.on<l.length
 w:∀ j:Nat,j<l.length→∃ e∈o.after,Region.binds md e=true∧e.on=j
theorem lastB_spec {l:List Oper} {o:Oper} (h:lastB md l o=true):LastOk md l o:=by
 unfold lastB at h
 simp only[Bool.and_eq_true,List.all_eq_true,List.any_eq_true,decide_eq_true_eq,Array.mem_toList_iff,Option.isNone_iff_eq_none,List.mem_range] at h
 obtain⟨⟨⟨⟨h1,h2⟩,h3⟩,h4⟩,h5⟩:=h
 refine ⟨h1,h2,fun i x hx e he=>?_,h4,fun j hj=>?_⟩
 · have:=h3 i (lt_of_get hx)
   rw[hx] at this
   simp only[List.all_eq_true,decide_eq_true_eq,Array.mem_toList_iff] at this
   exact this e he
 · obtain⟨e,he,hb,ho⟩:=h5 j hj
   exact⟨e,he,hb,ho⟩
structure Agree (n:Nat) (L' L:Array Bool):Prop where
 s':L'.size=n
 s:L.size=n+1
 eq:∀ j:Nat,j<n→L'[j]?=L[j]?
 last:L[n]?=some false
theorem Agree.getD {n j:Nat} {L' L:Array Bool} (h:Agree n L' L) (hj:j<n) (d:Bool):L'.getD j d=L.getD j d:=by
 rw[Array.getD_eq_getD_getElem?,Array.getD_eq_getD_getElem?,h.eq j hj]
theorem Agree.set {n i:Nat} {L' L:Array Bool} (h:Agree n L' L) (hi:i<n):Agree n (L'.setIfInBounds i true) (L.setIfInBounds i true):=by
 refine ⟨by simp [h.s'],by simp [h.s],fun j hj=>?_,?_⟩
 · rw[Array.getElem?_setIfInBounds,Array.getElem?_setIfInBounds,h.s',h.s]
   by_cases e:i=j
   · subst e
     rw[if_pos rfl,if_pos rfl,if_pos hi,if_pos (by omega)]
   · rw[if_neg e,if_neg e]
     exact h.eq j hj
 · rw[Array.getElem?_setIfInBounds,if_neg (by omega)]
   exact h.last
theorem Agree.start (n:Nat):Agree n (Array.replicate n false) (Array.replicate (n+1) false) :=
 ⟨by simp,by simp,fun j hj=>by rw[Array.getElem?_replicate,Array.getElem?_replicate,if_pos hj,if_pos (by omega)],by rw[Array.getElem?_replicate,if_pos (by omega)]⟩
theorem getD_tt {L:Array Bool} {j:Nat} (hj:j<L.size) (h:L.getD j true=true):L.getD j false=true:=by
 simp [hj] at h ⊢
 exact h
section
variable {l:List Oper} {o:Oper} {Q:Exit→Act→World→Prop}
theorem whole_get {j:Nat} (hj:j<l.length):(l++[o]).toArray[j]?=l.toArray[j]?:=by
 simp [List.getElem?_append_left hj]
theorem whole_last:(l++[o]).toArray[l.length]?=some o:=by simp
theorem whole_lt {j:Nat} {x:Oper} (h:(l++[o]).toArray[j]?=some x):j<l.length∨j=l.length:=by
 have:=(Array.getElem?_eq_some_iff.1 h).1
 simp at this
 omega
theorem ready_head (H:LastOk md l o) {L' L:Array Bool} (h:Agree l.length L' L) {j:Nat} (hj:j<l.length):j∈Region.ready md (l++[o]).toArray L↔j∈Region.ready md l.toArray L':=by
 rw[mem_ready,mem_ready,h.getD hj,whole_get hj]
 constructor
 · rintro⟨h0,x,hx,ha⟩
   refine ⟨h0,x,hx,fun e he hb=>?_⟩
   have:=H.back j x (by simpa using hx) e he
   rw[h.getD (by omega)]
   exact ha e he hb
 · rintro⟨h0,x,hx,ha⟩
   refine ⟨h0,x,hx,fun e he hb=>?_⟩
   have:=H.back j x (by simpa using hx) e he
   rw[←h.getD (by omega)]
   exact ha e he hb
theorem ready_lt {L':Array Bool} {j:Nat} (h:j∈Region.ready md l.toArray L'):j<l.length:=by
 obtain⟨_,x,hx,_⟩:=mem_ready.1 h
 have:=(Array.getElem?_eq_some_iff.1 hx).1
 simpa using this
theorem all_listed (H:LastOk md l o) {L' L:Array Bool} (h:Agree l.length L' L) (hr:Region.ready md l.toArray L'=[]):∀ j:Nat,j<l.length→L.getD j false=true:=by
 intro j
 induction j using Nat.strongRecOn with
 | _ j ih =>
   intro hj
   cases ht:L.getD j true with
   | true=>exact getD_tt (by rw[h.s];omega) ht
   | false =>
     exfalso
     obtain⟨x,hx⟩:=get_lt hj
     have:j∈Region.ready md l.toArray L':=by
      rw[mem_ready,h.getD hj]
      refine ⟨ht,x,by simpa using hx,fun e he _=>?_⟩
      have:=H.back j x hx e he
      rw[h.getD (by omega)]
      exact ih e.on this (by omega)
     rw[hr] at this
     cases this
theorem last_step (H:LastOk md l o) {L' L:Array Bool} (h:Agree l.length L' L) (hr:Region.ready md l.toArray L'=[]) {a:Act} {w:World} (hl:wpList P (l++[o]).toArray Q [o] a w) (f:Nat):wpAny P md (l++[o]).toArray Q (f+1) L a w:=by
 have hall:=all_listed H h hr
 have hn:l.length∈Region.ready md (l++[o]).toArray L:=by
  rw[mem_ready]
  exact⟨by rw[Array.getD_eq_getD_getElem?,h.last];rfl,o,whole_last,fun e he _=>hall _ (H.ob e he)⟩
 have hdone:Region.ready md (l++[o]).toArray (L.setIfInBounds l.length true)=[]:=by
  rw[List.eq_nil_iff_forall_not_mem]
  intro j hj
  obtain⟨h0,x,hx,_⟩:=mem_ready.1 hj
  have h1:(L.setIfInBounds l.length true).getD j false=true:=by
   rcases whole_lt hx with hlt|rfl
   · exact getD_set_true (hall j hlt)
   · simp [h.s]
  rw[getD_both h0] at h1
  cases h1
 refine ⟨fun h0=>(by rw[h0] at hn;cases hn),fun i hi=>?_⟩
 obtain⟨h0,x,hx,_⟩:=mem_ready.1 hi
 rcases whole_lt hx with hlt|rfl
 · have:=hall i hlt
   rw[getD_both h0] at this
   cases this
 · unfold wpOp
   rw[whole_last]
   have hw:Region.wanted o (yielded (l++[o]).toArray a.tmps)=true:=by simp [Region.wanted,H.go]
   unfold wpList at hl
   rw[if_pos hw] at hl
   show if Region.wanted o (yielded (l++[o]).toArray a.tmps)=true then _ else _
   rw[if_pos hw]
   exact hl.imp (Oper.wp_mono (fun a' w' hq=>wpAny_done hdone hq f)) id
theorem wp_post {x:Oper} {a:Act} {w:World} {K K':Act→World→Prop} {ops:Array Oper} (hK:∀ a w,K a w→K' a w) (h:x.wp P a w K (headPost P ops Q o)):x.wp P a w K' Q:=by
 have h2:=Oper.wp_mono hK h
 unfold Oper.wp at *
 generalize (execOp a.eval x).run P w=r at *
 cases r with
 | ok n w' =>
   cases n <;> first
    | exact h2
    | (refine Calls.mono h2 fun e w'' he=>?_
       cases e <;> exact he)
 | halt y w' =>
   cases y <;> first|exact h2|exact (h2:False).elim
theorem wpAny_last (H:LastOk md l o):∀ (f:Nat) (L' L:Array Bool) (a:Act) (w:World),Agree l.length L' L→wpAny P md l.toArray (headPost P (l++[o]).toArray Q o) f L' a w→wpAny P md (l++[o]).toArray Q (f+1) L a w
 | 0,L',L,a,w,hA,h=>last_step H hA h.1 h.2 0
 | f+1,L',L,a,w,hA,h=>by
   by_cases hr:Region.ready md l.toArray L'=[]
   · exact last_step H hA hr (h.1 hr) (f+1)
   · have hne:l.length ∉ Region.ready md (l++[o]).toArray L:=by
       intro hn
       apply hr
       rw[List.eq_nil_iff_forall_not_mem]
       intro j hj
       have hlt:=ready_lt hj
       obtain⟨h0,_⟩:=mem_ready.1 hj
       obtain⟨_,x,hx,hall⟩:=mem_ready.1 hn
       rw[whole_last] at hx
       injection hx with hx
       subst hx
       obtain⟨e,he,hb,ho⟩:=H.w j hlt
       have:=hall e he hb
       rw[ho,←hA.getD hlt,getD_both h0] at this
       cases this
     refine ⟨fun h0=>?_,fun i hi=>?_⟩
     · exfalso
       apply hr
       rw[List.eq_nil_iff_forall_not_mem]
       intro j hj
       have:=(ready_head H hA (ready_lt hj)).2 hj
       rw[h0] at this
       cases this
     · obtain⟨_,x,hx,_⟩:=mem_ready.1 hi
       have hlt:i<l.length:=by
        rcases whole_lt hx with h1|rfl
        · exact h1
        · exact absurd hi hne
       have h2:=h.2 i ((ready_head H hA hlt).1 hi)
       have ih:=fun a w=>wpAny_last H f (L'.setIfInBounds i true) (L.setIfInBounds i true) a w (hA.set hlt)
       rw[whole_get hlt] at hx
       have hg:=H.gl x (by
        have:l[i]?=some x:=by simpa using hx
        exact List.mem_of_getElem? this)
       unfold wpOp at h2 ⊢
       rw[whole_get hlt,hx]
       rw[hx] at h2
       have w1:Region.wanted x (yielded l.toArray a.tmps)=true:=by simp [Region.wanted,hg]
       have w2:Region.wanted x (yielded (l++[o]).toArray a.tmps)=true:=by simp [Region.wanted,hg]
       change if Region.wanted x (yielded l.toArray a.tmps)=true then _ else _ at h2
       rw[if_pos w1] at h2
       show if Region.wanted x (yielded (l++[o]).toArray a.tmps)=true then _ else _
       rw[if_pos w2]
       exact h2.imp (wp_post ih) (fun ⟨h3,a',w',h4⟩=>⟨h3,a',w',h4⟩)
end
theorem wp_region_lastH {L:List Oper} {Q:Exit→Act→World→Prop} {S:World→Prop} {id:Nat} {a:Act} {w:World} (n:Nat) (o:Oper) (ho:L=L.take n++[o]) (hn:(L.take n).length=n) (hm:P.follows .mixedOrders=true) (hB:lastB .any (L.take n) o=true) (hS:S w.drew)
    (h:S w.drew→wpAnyH P .any (L.take n).toArray (headPost P L.toArray Q o) S n (Array.replicate n false) a w.drew):(Code.region id L.toArray true).wp P Q a w:=by
 refine wp_region_any hm ?_
 have h1:=wpAny_of_held _ _ _ _ (h hS)
 have h2:=wpAny_last (Q:=Q) (lastB_spec hB) _ _ (Array.replicate (n+1) false) a w.drew (by rw[hn];exact Agree.start n) (by rw[←ho];exact h1)
 rw[←ho] at h2
 have hs:L.toArray.size=n+1:=by
  rw[ho]
  simp [hn]
 rw[hs]
 exact h2
end
end Go.Proofs.YtbnngjhnkegliaaGreat
