/-
  Texts joined: PlNew PlAdd. No law is proved here.
-/
import Derived.IntWalk
import Derived.Test.YtbnngjhnkegliaaGreatB4
namespace Go.Proofs.YtbnngjhnkegliaaGreat
open Go.RowKit
theorem size_int:(Tryz.prog.info? 3).map (·.size)=some 1:=by kernel_rfl
def repI (k K:Nat):List Int:=List.replicate k (-1)++List.replicate (K - k) 0
theorem repI_len {k K:Nat} (h:k≤K):(repI k K).length=K:=by unfold repI;rw[List.length_append,List.length_replicate,List.length_replicate];omega
theorem repI_all (K:Nat):repI K K=List.replicate K (-1):=by unfold repI;rw[Nat.sub_self];simp
theorem rep_splice {k c K:Nat} (h:k+c≤K):splice ((repI k K).map (Value.int .i64)) k ((List.replicate c (-1:Int)).map (Value.int .i64))=(repI (k+c) K).map (Value.int .i64):=by
 unfold splice
 rw[List.length_map,List.length_replicate,←List.map_take,←List.map_drop,←List.map_append,←List.map_append]
 congr 1
 unfold repI
 rw[List.take_append,List.drop_append,List.length_replicate,Nat.sub_self,List.take_zero,List.append_nil,List.take_of_length_le (by simp),List.drop_of_length_le (by simp),List.nil_append,List.drop_replicate,
  ←List.append_assoc,List.replicate_append_replicate,show K - k - (k+c - k)=K - (k+c) by omega]
theorem makes_rep (K:Nat) (hn:K≤1000000) (w:World):(Instr.makeSlice 23 (.int .i64 (K:Int)) (.int .i64 (K:Int))).run Tryz.prog w=.ok (.slice (some ⟨w.heap.size,0,none⟩) K K) (w.alloc (.cells ((repI 0 K).map (Value.int .i64)).toArray 3)):=by
 unfold repI
 rw[List.replicate_zero,List.nil_append,Nat.sub_zero,List.map_replicate]
 exact run_make_one (P:=Tryz.prog) 23 3 (.int .i64 0) 8 Tryz.underlying23 info_int rfl K (by omega) (by omega) w
set_option maxHeartbeats 2000000 in
theorem repeat_any (b:Nat) (K:Nat) (w:World) (h1:1≤K) (h2:K≤32) (hc:w.cell? ⟨b,0,none⟩=some (.int .i64 (-1))) (hb:b<w.heap.size):Calls Tryz.prog 77 #[.slice (some ⟨b,0,none⟩) 1 1,.int .i64 K] w (RetOwn (Value.int .i64) 3 w (List.replicate K (-1))):=by
 have hmk:=makes_rep K (by omega)
 have MU:∀ w,Calls Tryz.prog 94 #[.int .u64 1,.int .u64 K] w fun e w'=>e=.returned (.tuple #[.int .u64 0,.int .u64 K])∧w'=w:=fun w=>by
  have h:=Tryz.bits_Mul 1 K (by omega) (by omega) w
  rw[Nat.one_mul,Nat.div_eq_of_lt (by omega),Nat.mod_eq_of_lt (by omega)] at h
  exact h
 have HMU:=lh MU;clear MU
 have d0:decide ((K:Int)<0)=false:=decide_eq_false (by omega)
 have d1:decide ((9223372036854775807:Int)<(K:Int))=false:=decide_eq_false (by omega)
 have hl0:=repI_len (k:=0) (K:=K) (by omega)
 have hs0:splice ((repI 0 K).map (Value.int .i64)) 0 [Value.int .i64 (-1)]=(repI 1 K).map (Value.int .i64):=rep_splice (k:=0) (c:=1) (by omega)
 obtain⟨Z,hZ⟩:∃ Z,(repI 0 K).map (Value.int .i64)=Z:=⟨_,rfl⟩
 have hzl:Z.length=K:=by rw[←hZ,List.length_map];exact hl0
 rw[hZ] at hmk hs0
 have HS0:=lh hs0;clear hs0 hZ hl0
 have HZL:=lh hzl;clear hzl
 go_enter Tryz.func77,Tryz.ntmps77
 go_wp2_with fail
 with_reducible refine (HMU.out _).mono ?_
 rintro e w1 ⟨rfl,rfl⟩
 go_wp2_with (refine wpList_copy_splice rfl (.tmp 31) (.tmp 32) 23 23 rfl 3 Tryz.underlying23 size_int _ _ _ _ _ _ rfl rfl w1.heap.size 0 Z 3 (heap_alloc_new _ _) [.int .i64 (-1)] ?q1 ?q2 ?q3 ?q4 w1.heap.size w1 ?q5 (nlr _) ?_)
 case q1=>show 1=Nat.min 1 K;exact (Nat.min_eq_left h1).symm
 case q2 =>
  intro j v hv
  try rw[add_of_none,Nat.zero_add]
  try rw[World.cell?_alloc_lt hb]
  match j with
  | 0=>injection hv with hv;rw[←hv];exact hc
  | j+1=>simp at hv
 case q3=>show 0+1≤Z.length;rw[HZL.out];omega
 case q4=>intro u hu;simp at hu;subst hu;rfl
 case q5=>exact (Below.refl _ _).alloc (nlr _) _
 intro w2 hg2 hb2
 have hg3:HasBlock w2 w1.heap.size ((repI 1 K).map (Value.int .i64)).toArray 3:=by
  have h:=hg2.out
  rw[HS0.out] at h
  exact h
 clear hg2 hmk HS0 HZL
 have hz2:w1.heap.size<w2.heap.size:=hg3.lt
 obtain⟨B,hB⟩:∃ B,w1.heap.size=B:=⟨_,rfl⟩
 rw[hB] at hg3 hz2 hb2 ⊢
 go_wp2_with fail
 go_loopw [8] (fun nv wr=>∃ k:Nat,1≤k∧k≤K∧nv=.int .i64 k∧HasBlock wr B ((repI k K).map (Value.int .i64)).toArray 3∧Below B w1 wr) (fun nv _=>K - (intOf nv).toNat)
 case atStart=>exact⟨1,nlr _,h1,rfl,hg3,hb2⟩
 case round =>
  clear hg3 hb2 hz2
  obtain⟨k,hk1,hk2,rfl,hg,hbw⟩:=hrel
  by_cases hlt:k<K
  · obtain⟨c,hcm⟩:∃ c,min k (K - k)=c:=⟨_,rfl⟩
    have hc1:0<c∧k+c≤K∧c≤k:=by omega
    have hmin:Nat.min k (K - k)=c:=hcm
    have hsp:=rep_splice (k:=k) (c:=c) (K:=K) hc1.2.1
    have hdg:=hg
    have hlz:((repI k K).map (Value.int .i64)).length=K:=by rw[List.length_map];exact repI_len hk2
    have hll:((List.replicate c (-1:Int)).map (Value.int .i64)).length=c:=by rw[List.length_map,List.length_replicate]
    have hsrc:∀ i v,((List.replicate c (-1:Int)).map (Value.int .i64))[i]?=some v→wr.cell? ⟨B,i,none⟩=some v:=by
     intro i v hv
     have hi:=lt_of_get hv
     rw[hll] at hi
     rw[hg.cell,List.getElem?_toArray,List.getElem?_map]
     rw[List.getElem?_map,List.getElem?_replicate,if_pos hi] at hv
     unfold repI
     rw[List.getElem?_append_left (by rw[List.length_replicate];omega),List.getElem?_replicate,if_pos (by omega)]
     exact hv
    have hone:∀ u∈(List.replicate c (-1:Int)).map (Value.int .i64),u.oneCell'=true:=by
     intro u hu
     rw[List.mem_map] at hu
     obtain⟨x,_,rfl⟩:=hu
     rfl
    obtain⟨Z,hZ⟩:∃ Z,(repI k K).map (Value.int .i64)=Z:=⟨_,rfl⟩
    obtain⟨C,hC⟩:∃ C,(List.replicate c (-1:Int)).map (Value.int .i64)=C:=⟨_,rfl⟩
    rw[hZ] at hg hlz hsp hdg
    rw[hC] at hll hsrc hone hsp
    have HG:=lh hg;clear hg
    have HLZ:=lh hlz;clear hlz
    have HSP:=lh hsp;clear hsp
    have HLL:=lh hll;clear hll
    have HSRC:=lh hsrc;clear hsrc
    have HONE:=lh hone;clear hone
    have HMIN:=lh hmin;clear hmin hcm hZ hC hdg
    have i1:(0:Int)≤(k:Int):=by omega
    have i2:(k:Int)≤(K:Int):=by omega
    have i3:¬K=k:=by omega
    have i4:IntKind.i64.wrap ((k:Int)+(c:Int))=(k:Int)+(c:Int):=IntWalk.i64_in _ (by omega)
    go_wp2_with fail
    have hgd:(wr.drew).heap[B]?=some (.cells Z.toArray 3 (0,0)):=HG.out
    have HGD:=lh hgd;clear hgd
    go_region_law (go_loud (
     refine step_copy_splice rfl (.tmp 41) (.tmp 44) 23 23 rfl 3 Tryz.underlying23 size_int (some ⟨B,k,none⟩) (some ⟨B,0,none⟩) (K - k) (K - k) k K ?_ ?_ B k Z 3 HGD.out C ?_ ?_ ?_ HONE.out B wr ?_ (nlr _) ?_
     · go_simp
     · go_simp
     · rw[HLL.out];exact HMIN.out.symm
     · exact (fun h=>⟨rfl,_,rfl,fun i v hv=>by rw[add_of_none,Nat.zero_add];exact HSRC.out i v hv⟩)
     · rw[HLL.out,HLZ.out];exact hc1.2.1
     · exact (Below.drew (Below.refl _ _))
     intro w4 hg4 hb4))
    all_goals
     rw[HLL.out,i4]
     go_simp
     go_wp2_with fail
     go_roundw
     case rel =>
      refine ⟨k+c,by omega,hc1.2.1,by go_num,?_,hbw.trans hb4⟩
      have h:=hg4.out
      rw[HSP.out] at h
      exact h
     case measure=>simp [intOf];omega
  · obtain rfl:k=K:=by omega
    rw[repI_all] at hg
    go_wp2_with fail
    go_ret
    have hlen:(List.replicate k (-1:Int)).length=k:=List.length_replicate ..
    refine ⟨_,rfl,?_,by rw[hB];exact hbw⟩
    rw[hB]
    unfold OwnEnc
    rw[hlen]
    refine ⟨by rw[List.length_map,hlen,Nat.mul_one],.inr ⟨B,k,_,rfl,nlr _,hg,nlr _,by unfold maxLen;omega,by simp,?_⟩⟩
    rw[Nat.mul_one]
    show ((List.replicate k (-1:Int)).map (Value.int .i64)).take k=_
    exact List.take_of_length_le (by rw[List.length_map,hlen];exact nlr _)
/-! a pool of free frames -/
def freshF (n:Nat):List ByteArray:=List.replicate n ⟨#[]⟩
def freshR (n:Nat):List Int:=List.replicate n 0
def newOk (n:Int):Bool:=decide (1≤n∧n≤96)
def newPl (n:Int):Pl:=if newOk n then ⟨freshF n.toNat,freshR n.toNat,[]⟩ else ⟨[],[],[]⟩
def cellsF (n:Nat):Array Value:=((freshF n).map Value.string).toArray
def cellsR (n:Nat):Array Value:=((freshR n).map (Value.int .i64)).toArray
theorem makes_F (n:Nat) (hn:n≤1000000) (w:World):(Instr.makeSlice 22 (.int .i64 (n:Int)) (.int .i64 (n:Int))).run Tryz.prog w=.ok (.slice (some ⟨w.heap.size,0,none⟩) n n) (w.alloc (.cells (cellsF n) 9)):=by
 unfold cellsF freshF
 rw[List.map_replicate]
 exact run_make_one (P:=Tryz.prog) 22 9 (.string ⟨#[]⟩) 16 Tryz.underlying22 info_str rfl n (by omega) (by omega) w
theorem makes_R (n:Nat) (hn:n≤1000000) (w:World):(Instr.makeSlice 23 (.int .i64 (n:Int)) (.int .i64 (n:Int))).run Tryz.prog w=.ok (.slice (some ⟨w.heap.size,0,none⟩) n n) (w.alloc (.cells (cellsR n) 3)):=by
 unfold cellsR freshR
 rw[List.map_replicate]
 exact run_make_one (P:=Tryz.prog) 23 3 (.int .i64 0) 8 Tryz.underlying23 info_int rfl n (by omega) (by omega) w
theorem own_enc {α:Type} {enc:α→Value} {e:TypeId} {w:World} {base g n:Nat} {xs:List α} (h:HasBlock w g ((xs.map enc).toArray) e) (hx:xs.length=n) (hn:n≤1000000) (hb:base≤g):OwnEnc enc e base w (.slice (some ⟨g,0,none⟩) n n) xs:=by
 unfold OwnEnc
 rw[hx]
 refine ⟨by rw[List.length_map,hx,Nat.mul_one],.inr ⟨g,n,(xs.map enc).toArray,rfl,hb,h,nlr _,by unfold maxLen;omega,by simp [hx],?_⟩⟩
 rw[Nat.mul_one]
 show (xs.map enc).take n=_
 exact List.take_of_length_le (by rw[List.length_map,hx];exact nlr _)
theorem new_row {w w':World} {gf gr n:Nat} (hF:HasBlock w' gf (cellsF n) 9) (hR:HasBlock w' gr (cellsR n) 3) (hn:n≤96) (h1:1≤n) (hb:Below w.heap.size w w') (hgf:w.heap.size≤gf:=by omega) (hgr:w.heap.size≤gr:=by omega):RetPoolB (newPl n) (newOk n) w (.returned (.tuple #[.agg #[.slice (some ⟨gf,0,none⟩) n n,.slice (some ⟨gr,0,none⟩) n n,.slice none 0 0],.bool true])) w':=by
 have hok:newOk n=true:=decide_eq_true ⟨by omega,by omega⟩
 have hp:newPl n=⟨freshF n,freshR n,[]⟩:=by unfold newPl;rw[if_pos hok,Int.toNat_natCast]
 have h2:(freshF n).length=n:=List.length_replicate ..
 have h3:(freshR n).length=n:=List.length_replicate ..
 have oF:OwnStr w.heap.size w' (.slice (some ⟨gf,0,none⟩) n n) (freshF n):=own_enc hF h2 (by omega) hgf
 have oR:OwnNum w.heap.size w' (.slice (some ⟨gr,0,none⟩) n n) (freshR n):=own_enc hR h3 (by omega) hgr
 have hrow:OwnP w.heap.size w' (.slice (some ⟨gf,0,none⟩) n n) (.slice (some ⟨gr,0,none⟩) n n) (.slice none 0 0) [] ⟨freshF n,freshR n,[]⟩:=⟨oF,oR,own_nil,OwnRows.nil _ _,fun i u hu=>by simp at hu⟩
 rw[hp,hok]
 refine ⟨some ⟨gf,0,none⟩,some ⟨gr,0,none⟩,none,n,n,0,[],?_,?_,hb⟩
 · simp only[h2,h3];rfl
 · simp only[h2,h3];exact hrow
theorem new_none {n:Int} {w w':World} (h:newOk n=false) (hb:Below w.heap.size w w'):RetPoolB (newPl n) (newOk n) w (.returned (.tuple #[.agg #[.slice none 0 0,.slice none 0 0,.slice none 0 0],.bool false])) w':=by
 have hp:newPl n=⟨[],[],[]⟩:=by unfold newPl;rw[h];rfl
 rw[hp,h]
 exact⟨none,none,none,0,0,0,[],rfl,⟨own_nil,own_nil,own_nil,OwnRows.nil _ _,fun i u hu=>by simp at hu⟩,hb⟩
set_option maxHeartbeats 2000000 in
theorem pnew_any_own (n:Int) (w:World):Calls Tryz.prog 21 #[.int .i64 n] w (RetPoolB (newPl n) (newOk n) w):=by
 by_cases h1:1≤n
 rotate_left
 · have hno:newOk n=false:=decide_eq_false (fun h=>h1 h.1)
   have HNO:=lh hno;clear hno
   go_enter Tryz.func21,Tryz.ntmps21
   go_wp2_with fail
   refine bodyPost_ret (v:=.tuple #[.agg #[.slice none 0 0,.slice none 0 0,.slice none 0 0],.bool false]) (by simp [results,Tryz.results21,go_sem]) rfl ?_
   exact new_none HNO.out bel
 by_cases h2:n≤96
 rotate_left
 · have hno:newOk n=false:=decide_eq_false (fun h=>h2 h.2)
   have HNO:=lh hno;clear hno
   go_enter Tryz.func21,Tryz.ntmps21
   go_wp2_with fail
   refine bodyPost_ret (v:=.tuple #[.agg #[.slice none 0 0,.slice none 0 0,.slice none 0 0],.bool false]) (by simp [results,Tryz.results21,go_sem]) rfl ?_
   exact new_none HNO.out bel
 obtain⟨k,rfl⟩:∃ k:Nat,n=k:=⟨n.toNat,by omega⟩
 have mF:=makes_F k (by omega)
 have mR:=makes_R k (by omega)
 have hmF:∀ W:World,HasBlock (W.alloc (.cells (cellsF k) 9)) W.heap.size (cellsF k) 9:=fun W=>HasBlock.made W _ _
 have hmR:∀ W:World,HasBlock (W.alloc (.cells (cellsR k) 3)) W.heap.size (cellsR k) 3:=fun W=>HasBlock.made W _ _
 have HMF:=lh hmF;clear hmF
 have HMR:=lh hmR;clear hmR
 obtain⟨CF,hCF⟩:∃ c,cellsF k=c:=⟨_,rfl⟩
 obtain⟨CR,hCR⟩:∃ c,cellsR k=c:=⟨_,rfl⟩
 rw[hCF] at mF HMF
 rw[hCR] at mR HMR
 have HCF:=lh hCF;clear hCF
 have HCR:=lh hCR;clear hCR
 go_enter Tryz.func21,Tryz.ntmps21
 go_wp2_with fail
 go_region
 all_goals go_wp2_with fail
 · have q1:=(((HMF.out (w.alloc (.cells #[.slice (some ⟨w.heap.size+1,0,none⟩) k k,.slice (some ⟨w.heap.size+1+1,0,none⟩) k k,.slice none 0 0] 26))).alloc (.cells CR 3))).drew
   have q2:=(HMR.out ((w.alloc (.cells #[.slice (some ⟨w.heap.size+1,0,none⟩) k k,.slice (some ⟨w.heap.size+1+1,0,none⟩) k k,.slice none 0 0] 26)).alloc (.cells CF 9))).drew
   simp only[sizes] at q1 q2
   refine bodyPost_ret (v:=.tuple #[.agg #[.slice (some ⟨w.heap.size+1,0,none⟩) k k,.slice (some ⟨w.heap.size+1+1,0,none⟩) k k,.slice none 0 0],.bool true]) (by simp [results,Tryz.results21,go_sem]) rfl ?_
   rw[←HCF.out,←HCR.out] at q1 q2
   rw[←HCF.out,←HCR.out]
   exact new_row q1 q2 (by omega) (by omega) bel
 · have q1:=(((HMR.out (w.alloc (.cells #[.slice (some ⟨w.heap.size+1+1,0,none⟩) k k,.slice (some ⟨w.heap.size+1,0,none⟩) k k,.slice none 0 0] 26))).alloc (.cells CF 9))).drew
   have q2:=(HMF.out ((w.alloc (.cells #[.slice (some ⟨w.heap.size+1+1,0,none⟩) k k,.slice (some ⟨w.heap.size+1,0,none⟩) k k,.slice none 0 0] 26)).alloc (.cells CR 3))).drew
   simp only[sizes] at q1 q2
   refine bodyPost_ret (v:=.tuple #[.agg #[.slice (some ⟨w.heap.size+1+1,0,none⟩) k k,.slice (some ⟨w.heap.size+1,0,none⟩) k k,.slice none 0 0],.bool true]) (by simp [results,Tryz.results21,go_sem]) rfl ?_
   rw[←HCF.out,←HCR.out] at q1 q2
   rw[←HCF.out,←HCR.out]
   exact new_row q2 q1 (by omega) (by omega) bel
set_option maxHeartbeats 2000000 in
theorem rnew_any_own (n:Int) (w:World):Calls Tryz.prog 22 #[.int .i64 n] w (RetPoolB (newPl n) (newOk n) w):=by
 by_cases h1:1≤n
 rotate_left
 · have hno:newOk n=false:=decide_eq_false (fun h=>h1 h.1)
   have HNO:=lh hno;clear hno
   go_enter Tryz.func22,Tryz.ntmps22
   go_wp2_with fail
   refine bodyPost_ret (v:=.tuple #[.agg #[.slice none 0 0,.slice none 0 0,.slice none 0 0],.bool false]) (by simp [results,Tryz.results22,go_sem]) rfl ?_
   exact new_none HNO.out bel
 by_cases h2:n≤96
 rotate_left
 · have hno:newOk n=false:=decide_eq_false (fun h=>h2 h.2)
   have HNO:=lh hno;clear hno
   go_enter Tryz.func22,Tryz.ntmps22
   go_wp2_with fail
   refine bodyPost_ret (v:=.tuple #[.agg #[.slice none 0 0,.slice none 0 0,.slice none 0 0],.bool false]) (by simp [results,Tryz.results22,go_sem]) rfl ?_
   exact new_none HNO.out bel
 obtain⟨k,rfl⟩:∃ k:Nat,n=k:=⟨n.toNat,by omega⟩
 have mF:=makes_F k (by omega)
 have mR:=makes_R k (by omega)
 have hmF:∀ W:World,HasBlock (W.alloc (.cells (cellsF k) 9)) W.heap.size (cellsF k) 9:=fun W=>HasBlock.made W _ _
 have hmR:∀ W:World,HasBlock (W.alloc (.cells (cellsR k) 3)) W.heap.size (cellsR k) 3:=fun W=>HasBlock.made W _ _
 have HMF:=lh hmF;clear hmF
 have HMR:=lh hmR;clear hmR
 obtain⟨CF,hCF⟩:∃ c,cellsF k=c:=⟨_,rfl⟩
 obtain⟨CR,hCR⟩:∃ c,cellsR k=c:=⟨_,rfl⟩
 rw[hCF] at mF HMF
 rw[hCR] at mR HMR
 have HCF:=lh hCF;clear hCF
 have HCR:=lh hCR;clear hCR
 go_enter Tryz.func22,Tryz.ntmps22
 go_wp2_with fail
 go_region
 all_goals go_wp2_with fail
 · have q1:=(((HMF.out (w.alloc (.cells #[.slice (some ⟨w.heap.size+1,0,none⟩) k k,.slice (some ⟨w.heap.size+1+1,0,none⟩) k k,.slice none 0 0] 26))).alloc (.cells CR 3))).drew
   have q2:=(HMR.out ((w.alloc (.cells #[.slice (some ⟨w.heap.size+1,0,none⟩) k k,.slice (some ⟨w.heap.size+1+1,0,none⟩) k k,.slice none 0 0] 26)).alloc (.cells CF 9))).drew
   simp only[sizes] at q1 q2
   refine bodyPost_ret (v:=.tuple #[.agg #[.slice (some ⟨w.heap.size+1,0,none⟩) k k,.slice (some ⟨w.heap.size+1+1,0,none⟩) k k,.slice none 0 0],.bool true]) (by simp [results,Tryz.results22,go_sem]) rfl ?_
   rw[←HCF.out,←HCR.out] at q1 q2
   rw[←HCF.out,←HCR.out]
   exact new_row q1 q2 (by omega) (by omega) bel
 · have q1:=(((HMR.out (w.alloc (.cells #[.slice (some ⟨w.heap.size+1+1,0,none⟩) k k,.slice (some ⟨w.heap.size+1,0,none⟩) k k,.slice none 0 0] 26))).alloc (.cells CF 9))).drew
   have q2:=(HMF.out ((w.alloc (.cells #[.slice (some ⟨w.heap.size+1+1,0,none⟩) k k,.slice (some ⟨w.heap.size+1,0,none⟩) k k,.slice none 0 0] 26)).alloc (.cells CR 3))).drew
   simp only[sizes] at q1 q2
   refine bodyPost_ret (v:=.tuple #[.agg #[.slice (some ⟨w.heap.size+1+1,0,none⟩) k k,.slice (some ⟨w.heap.size+1,0,none⟩) k k,.slice none 0 0],.bool true]) (by simp [results,Tryz.results22,go_sem]) rfl ?_
   rw[←HCF.out,←HCR.out] at q1 q2
   rw[←HCF.out,←HCR.out]
   exact new_row q2 q1 (by omega) (by omega) bel
def Pl.goodA (P:Pl) (q:Int):Bool:=P.ok && decide (P.M.length≠8∧1≤q∧q≤32)
def Pl.add (P:Pl) (q:Int):Pl:=if P.goodA q then ⟨P.F,P.R,P.M++[List.replicate q.toNat (-1)]⟩ else P
set_option maxRecDepth 100000 in
set_option maxHeartbeats 4000000 in
theorem padd_own (v:Value) (P:Pl) (q:Int) (w:World) (h:PlRow w v P) (hf:P.fit) (hs:P.small):Calls Tryz.prog 43 #[v,.int .i64 q] w (RetPoolB (P.add q) (P.goodA q) w):=by
 obtain⟨of,or',om,kf,kr,km,rfl,kf1,kf2,kr1,kr2,km1,km2⟩:=h.form
 obtain⟨n,hn⟩:∃ n,P.F.length=n:=⟨_,rfl⟩
 obtain⟨r,hr⟩:∃ n,P.R.length=n:=⟨_,rfl⟩
 obtain⟨m,hm⟩:∃ n,P.M.length=n:=⟨_,rfl⟩
 rw[hn] at h kf1 ⊢
 rw[hr] at h kr1 ⊢
 rw[hm] at h km1 ⊢
 have HN:=lh hn;clear hn
 have HR:=lh hr;clear hr
 have HM:=lh hm;clear hm
 have V:=fun w h=>valid_pl (.agg #[.slice of n kf,.slice or' r kr,.slice om m km]) P w h hf
 have C:=fun w h=>pclone_any (.agg #[.slice of n kf,.slice or' r kr,.slice om m km]) P w h hs
 clear hf hs
 have HC:=lh C;clear C
 obtain⟨hv,hhv⟩:∃ b,P.ok=b:=⟨_,rfl⟩
 rw[hhv] at V
 have HV:=lh V;clear V
 have HHV:=lh hhv;clear hhv
 have D1:=(HasBlock.made w #[.slice of n kf,.slice or' r kr,.slice om m km] 26).alloc (.cells #[.slice none 0 0,.slice none 0 0,.slice none 0 0] 26)
 have D2:=HasBlock.made (w.alloc (.cells #[.slice of n kf,.slice or' r kr,.slice om m km] 26)) #[.slice none 0 0,.slice none 0 0,.slice none 0 0] 26
 have hbw:Below w.heap.size w ((w.alloc (.cells #[.slice of n kf,.slice or' r kr,.slice om m km] 26)).alloc (.cells #[.slice none 0 0,.slice none 0 0,.slice none 0 0] 26)):=bel
 have hz:w.heap.size+1+1≤((w.alloc (.cells #[.slice of n kf,.slice or' r kr,.slice om m km] 26)).alloc (.cells #[.slice none 0 0,.slice none 0 0,.slice none 0 0] 26)).heap.size:=by simp only[sizes];omega
 simp only[sizes] at D2
 replace h:=h.below hbw
 go_enter Tryz.func43,Tryz.ntmps43
 go_wp2_with fail
 with_reducible refine (HC.out _ h).mono ?_
 rintro e w1 ⟨of1,or1,om1,kf1',kr1',km1',us,rfl,hO,hb1⟩
 rw[HN.out,HR.out,HM.out] at hO ⊢
 replace hO:=hO.lower hz
 replace D1:=D1.below hb1
 replace D2:=D2.below hb1
 replace h:=h.below hb1
 replace hbw:=hbw.trans (hb1.mono hbw.size)
 replace hz:=Nat.le_trans hz hb1.size
 clear hb1
 have hT:=hO.lt
 obtain⟨D1_c,D1_f,D1_z⟩:=D1.all
 obtain⟨D2_c,D2_f,D2_z⟩:=D2.all
 go_wp2_with fail
 clear D1_c D1_f D1_z
 clear D2_c D2_f D2_z
 have hbx:Below w1.heap.size w1 (w1.alloc (.cells #[.slice of1 n kf1',.slice or1 r kr1',.slice om1 m km1'] 26)):=(Below.refl _ _).alloc (nlr _) _
 replace D1:=D1.below hbx
 replace D2:=D2.below hbx
 have D3:=HasBlock.made w1 #[.slice of1 n kf1',.slice or1 r kr1',.slice om1 m km1'] 26
 replace h:=h.below hbx
 replace hO:=hO.below hbx
 replace hbw:=hbw.trans (hbx.mono hbw.size)
 have hz2:w1.heap.size+1≤(w1.alloc (.cells #[.slice of1 n kf1',.slice or1 r kr1',.slice om1 m km1'] 26)).heap.size:=Nat.le_of_eq (World.size_alloc ..).symm
 clear hbx
 obtain⟨B,hB⟩:∃ B,w1.heap.size=B:=⟨_,rfl⟩
 rw[hB] at D3 hz hT hz2 ⊢
 generalize hW:w1.alloc (.cells #[.slice of1 n kf1',.slice or1 r kr1',.slice om1 m km1'] 26)=w2 at D1 D2 D3 h hO hbw hz2 ⊢
 clear hW hB
 with_reducible refine (HV.out _ h).mono ?_
 rintro e w3 ⟨rfl,hb3⟩
 replace hz2:=Nat.le_trans hz2 hb3.size
 replace D1:=D1.below hb3
 replace D2:=D2.below hb3
 replace D3:=D3.below hb3
 replace h:=h.below hb3
 replace hO:=hO.below hb3
 replace hbw:=hbw.trans (hb3.mono hbw.size)
 clear hb3
 cases hv
 · have hno:P.goodA q=false:=by unfold Pl.goodA;(rw[HHV.out];rfl)
   have HNO:=lh hno;clear hno
   obtain⟨D1_c,D1_f,D1_z⟩:=D1.all
   obtain⟨D2_c,D2_f,D2_z⟩:=D2.all
   obtain⟨D3_c,D3_f,D3_z⟩:=D3.all
   go_wp2_with fail
   refine bodyPost_ret (v:=.tuple #[.agg #[.slice of1 n kf1',.slice or1 r kr1',.slice om1 m km1'],.bool false]) (by simp [results,Tryz.results43,go_sem,D2_c]) rfl ?_
   rw[HNO.out]
   exact ret_poolb HN.out HR.out HM.out (by unfold Pl.add;rw[HNO.out];rfl) (((hO.setlow (b:=w.heap.size+1) (j:=0) (by omega) _).setlow (b:=w.heap.size+1) (j:=1) (by omega) _).setlow (b:=w.heap.size+1) (j:=2) (by omega) _) (((hbw.setCell (p:=⟨w.heap.size+1,0,none⟩) (by dsimp only;omega) _).setCell (p:=⟨w.heap.size+1,1,none⟩) (by dsimp only;omega) _).setCell (p:=⟨w.heap.size+1,2,none⟩) (by dsimp only;omega) _)
 have H:=Pl.ok_iff.1 HHV.out
 have hm8:=H.m
 rw[HM.out] at hm8
 by_cases g1:m=8
 · have e1:(m == 8)=true:=by rw[beq_iff_eq];exact g1
   have e2:((m:Int) == 8)=true:=by rw[beq_iff_eq];omega
   have hno:P.goodA q=false:=by unfold Pl.goodA;rw[decide_eq_false (fun h=>h.1 (by rw[HM.out];exact g1)),Bool.and_false]
   have HNO:=lh hno;clear hno g1
   obtain⟨D1_c,D1_f,D1_z⟩:=D1.all
   obtain⟨D2_c,D2_f,D2_z⟩:=D2.all
   obtain⟨D3_c,D3_f,D3_z⟩:=D3.all
   go_wp2_with fail
   refine bodyPost_ret (v:=.tuple #[.agg #[.slice of1 n kf1',.slice or1 r kr1',.slice om1 m km1'],.bool false]) (by simp [results,Tryz.results43,go_sem,D2_c]) rfl ?_
   rw[HNO.out]
   exact ret_poolb HN.out HR.out HM.out (by unfold Pl.add;rw[HNO.out];rfl) (((hO.setlow (b:=w.heap.size+1) (j:=0) (by omega) _).setlow (b:=w.heap.size+1) (j:=1) (by omega) _).setlow (b:=w.heap.size+1) (j:=2) (by omega) _) (((hbw.setCell (p:=⟨w.heap.size+1,0,none⟩) (by dsimp only;omega) _).setCell (p:=⟨w.heap.size+1,1,none⟩) (by dsimp only;omega) _).setCell (p:=⟨w.heap.size+1,2,none⟩) (by dsimp only;omega) _)
 have e1:(m == 8)=false:=by rw[beq_eq_false_iff_ne];exact g1
 have e2:((m:Int) == 8)=false:=by rw[beq_eq_false_iff_ne];omega
 by_cases g2:1≤q
 rotate_left
 · have hno:P.goodA q=false:=by unfold Pl.goodA;rw[decide_eq_false (fun h=>g2 h.2.1),Bool.and_false]
   have HNO:=lh hno;clear hno
   obtain⟨D1_c,D1_f,D1_z⟩:=D1.all
   obtain⟨D2_c,D2_f,D2_z⟩:=D2.all
   obtain⟨D3_c,D3_f,D3_z⟩:=D3.all
   go_wp2_with fail
   refine bodyPost_ret (v:=.tuple #[.agg #[.slice of1 n kf1',.slice or1 r kr1',.slice om1 m km1'],.bool false]) (by simp [results,Tryz.results43,go_sem,D2_c]) rfl ?_
   rw[HNO.out]
   exact ret_poolb HN.out HR.out HM.out (by unfold Pl.add;rw[HNO.out];rfl) (((hO.setlow (b:=w.heap.size+1) (j:=0) (by omega) _).setlow (b:=w.heap.size+1) (j:=1) (by omega) _).setlow (b:=w.heap.size+1) (j:=2) (by omega) _) (((hbw.setCell (p:=⟨w.heap.size+1,0,none⟩) (by dsimp only;omega) _).setCell (p:=⟨w.heap.size+1,1,none⟩) (by dsimp only;omega) _).setCell (p:=⟨w.heap.size+1,2,none⟩) (by dsimp only;omega) _)
 by_cases g3:q≤32
 rotate_left
 · have hno:P.goodA q=false:=by unfold Pl.goodA;rw[decide_eq_false (fun h=>g3 h.2.2),Bool.and_false]
   have HNO:=lh hno;clear hno
   obtain⟨D1_c,D1_f,D1_z⟩:=D1.all
   obtain⟨D2_c,D2_f,D2_z⟩:=D2.all
   obtain⟨D3_c,D3_f,D3_z⟩:=D3.all
   go_wp2_with fail
   refine bodyPost_ret (v:=.tuple #[.agg #[.slice of1 n kf1',.slice or1 r kr1',.slice om1 m km1'],.bool false]) (by simp [results,Tryz.results43,go_sem,D2_c]) rfl ?_
   rw[HNO.out]
   exact ret_poolb HN.out HR.out HM.out (by unfold Pl.add;rw[HNO.out];rfl) (((hO.setlow (b:=w.heap.size+1) (j:=0) (by omega) _).setlow (b:=w.heap.size+1) (j:=1) (by omega) _).setlow (b:=w.heap.size+1) (j:=2) (by omega) _) (((hbw.setCell (p:=⟨w.heap.size+1,0,none⟩) (by dsimp only;omega) _).setCell (p:=⟨w.heap.size+1,1,none⟩) (by dsimp only;omega) _).setCell (p:=⟨w.heap.size+1,2,none⟩) (by dsimp only;omega) _)
 obtain⟨K,rfl⟩:∃ K:Nat,q=K:=⟨q.toNat,by omega⟩
 have hyes:P.goodA K=true:=by unfold Pl.goodA;rw[HHV.out,decide_eq_true ⟨by rw[HM.out];exact g1,g2,g3⟩];rfl
 have hadd:P.add K=⟨P.F,P.R,P.M++[List.replicate K (-1)]⟩:=by unfold Pl.add;rw[hyes,Int.toNat_natCast];rfl
 have HYES:=lh hyes;clear hyes
 have HADD:=lh hadd;clear hadd
 have hrl:(List.replicate K (-1:Int)).length=K:=List.length_replicate ..
 have RP:=fun b w h1 h2=>repeat_any b K w (by omega) (by omega) h1 h2
 obtain⟨l,hl⟩:∃ l,List.replicate K (-1:Int)=l:=⟨_,rfl⟩
 rw[hl] at RP HADD hrl
 have HRP:=lh RP;clear RP hl
 have HRL:=lh hrl;clear hrl
 obtain⟨i0,hi0,iz0,iz1,iz2⟩:=info_parts info_ints
 obtain⟨D1_c,D1_f,D1_z⟩:=D1.all
 obtain⟨D2_c,D2_f,D2_z⟩:=D2.all
 obtain⟨D3_c,D3_f,D3_z⟩:=D3.all
 go_wp2_with fail
 clear D1_c D1_f D1_z
 clear D2_c D2_f D2_z
 clear D3_c D3_f D3_z
 have hom:w3.ownsRow (w.heap.size+1+1) 23 1 (.slice om1 m km1') m us:=by have h:=hO.m;rw[HM.out] at h;exact h
 have HOM:=lh hom;clear hom
 clear h
 obtain⟨D1_c,D1_f,D1_z⟩:=D1.all
 obtain⟨D2_c,D2_f,D2_z⟩:=D2.all
 obtain⟨D3_c,D3_f,D3_z⟩:=D3.all
 go_region_law (go_loud (first
  | (refine step_append_own rfl (.tmp 28) (.tmp 32) 24 rfl (w.heap.size+1+1) 23 i0 (.slice none 0 0) 1 24 Tryz.underlying24 hi0 iz0 iz1 iz2 rfl (by decide) (.slice om1 m km1') m us rfl (HOM5.out.alloc _) ⟨_,0,none⟩ 1 1 [.slice uo5 K uk5] rfl rfl (cells_made _ [.slice uo5 K uk5] _ _ rfl) (one_slice _ _ _) (by unfold maxLen;omega) (by omega) (by simp only[sizes];omega) ?_
     intro v6 w6 hown6 hgrow6 _
     obtain⟨o6,c6,rfl,hc61,hc62⟩:=own_form' hown6
     have HO6:=(HO5.alloc (.cells #[.slice uo5 K uk5] 23)).push (l:=l) (O5.alloc _) hr5 hu5 (by rw[HM.out];exact hown6) hgrow6
     have F1:=(E1.alloc (.cells #[.slice uo5 K uk5] 23)).append (HOM5.out.alloc _) hgrow6 (by omega)
     have F2:=(E2.alloc (.cells #[.slice uo5 K uk5] 23)).append (HOM5.out.alloc _) hgrow6 (by omega)
     have F3:HasBlock w6 B #[.slice of1 n kf1',.slice or1 r kr1',.slice om1 m km1'] 26:=(hgrow6.block B (E3.alloc _).lt (fun e=>own_off HOM5.out E3 (by decide) e.symm)).trans (E3.alloc _)
     have hbw6:Below w.heap.size w w6:=below_grown (hbw5.alloc (by omega) _) (HOM5.out.alloc _) hgrow6 (by omega) (by simp only[sizes];omega)
     obtain⟨F1_c,F1_f,F1_z⟩:=F1.all
     obtain⟨F2_c,F2_f,F2_z⟩:=F2.all
     obtain⟨F3_c,F3_f,F3_z⟩:=F3.all)
  | (go_simp;go_at_call 77
     with_reducible refine (HRP.out _ _ (((HasBlock.made w3 #[.int .i64 (-1)] 3).drew.cell 0).trans rfl) (HasBlock.made w3 #[.int .i64 (-1)] 3).drew.lt).mono ?_
     rintro _ w5 ⟨v5,rfl,o5,hb5⟩
     obtain⟨uo5,uk5,rfl,_,_⟩:=o5.formN HRL.out
     have HB5:Below w3.heap.size w3 w5:=(((Below.refl _ w3).alloc (nlr _) (.cells #[.int .i64 (-1)] 3)).drew).trans (hb5.mono (by simp only[sizes];omega))
     have hzb:w3.heap.size≤(w3.alloc (.cells #[.int .i64 (-1)] 3)).drew.heap.size:=by simp only[sizes];omega
     replace o5:=o5.lower hzb
     clear hb5 hzb
     have E1:=D1.below HB5
     have E2:=D2.below HB5
     have E3:=D3.below HB5
     have HO5:=hO.below HB5
     have hz5:=HB5.size
     have hbw5:Below w.heap.size w w5:=hbw.trans (HB5.mono hbw.size)
     have HOM5:Hid (w5.ownsRow (w.heap.size+1+1) 23 1 (.slice om1 m km1') m us):=lh (owns_below HOM.out HB5)
     have hr5:Apart (.slice or1 r kr1') (.slice uo5 K uk5):=apart_lt (B:=w3.heap.size) (fun k hk=>(World.ownsRow.lt hO.r.raw k hk).2) (fun k hk=>(World.ownsRow.lt o5.raw k hk).1)
     have hu5:∀ (j:Nat) (u':Value),us[j]?=some u'→Apart u' (.slice uo5 K uk5):=fun j u' hj=>apart_lt (B:=w3.heap.size) (fun k hk=>hO.lt.u j u' hj k hk) (fun k hk=>(World.ownsRow.lt o5.raw k hk).1)
     have O5:=OwnEnc.lower (base':=w.heap.size+1+1) o5 (by omega)
     clear o5
     obtain⟨E3_c,E3_f,E3_z⟩:=E3.all)))
 all_goals
  go_wp2_with fail
  refine bodyPost_ret (v:=.tuple #[.agg #[.slice of1 n kf1',.slice or1 r kr1',.slice o6 (m+1) c6],.bool true]) (by simp [results,Tryz.results43,go_sem,F2_c]) rfl ?_
  have HO7:=HO6.setbox (j:=2) F3 (by decide) (by decide) (by decide) (.slice o6 (m+1) c6)
  replace hbw6:=hbw6.setCell (p:=⟨B,2,none⟩) (by dsimp only;omega) (.slice o6 (m+1) c6)
  have hbw:=hbw6
  rw[HYES.out]
  exact ret_poolb (Q:=⟨P.F,P.R,P.M++[l]⟩) HN.out HR.out (by rw[List.length_append,HM.out];rfl) HADD.out (((HO7.setlow (b:=w.heap.size+1) (j:=0) (by omega) _).setlow (b:=w.heap.size+1) (j:=1) (by omega) _).setlow (b:=w.heap.size+1) (j:=2) (by omega) _) (((hbw.setCell (p:=⟨w.heap.size+1,0,none⟩) (by dsimp only;omega) _).setCell (p:=⟨w.heap.size+1,1,none⟩) (by dsimp only;omega) _).setCell (p:=⟨w.heap.size+1,2,none⟩) (by dsimp only;omega) _)
end Go.Proofs.YtbnngjhnkegliaaGreat
