/-
  Texts joined: HoSam HoEvict. No law is proved here.
-/
import Derived.Test.YtbnngjhnkegliaaGreatB14
namespace Go.Proofs.YtbnngjhnkegliaaGreat
open Go.RowKit
def boolArr (d:List Bool):Array Value:=(d.map Value.bool).toArray
theorem boolArr_at {d:List Bool} {i:Nat} (h:i<d.length):(boolArr d)[i]?=some (.bool (hitD d i)):=by
 unfold boolArr hitD
 rw[List.getElem?_toArray,List.getElem?_map,List.getElem?_eq_getElem h]
 rfl
theorem boolArr_set (d:List Bool) (i:Nat) (x:Bool):(boolArr d).setIfInBounds i (.bool x)=boolArr (d.set i x):=by
 unfold boolArr
 rw[List.map_set]
 simp
theorem one_int (x:Int):∀ u∈[Value.int .i64 x],u.oneCell'=true:=by
 intro u hu
 rw[List.mem_singleton] at hu
 rw[hu]
 rfl
theorem intRow_of {w:World} {base:Nat} {v:Value} {n:Nat} {fr:List Int} (h:w.ownsRow base 3 1 v n (fr.map (Value.int .i64))):fr.length=n∧IntRow w v fr:=by
 have h1:=h.1
 rw[List.length_map,Nat.mul_one] at h1
 refine ⟨h1,?_⟩
 unfold IntRow
 rw[h1]
 exact RowAt.of_owns h
theorem map_snoc (xs:List Int) (x:Int):(xs++[x]).map (Value.int .i64)=xs.map (Value.int .i64)++[.int .i64 x]:=by simp
theorem make_bools (n:Nat) (hn:n≤1000) (w:World):(Instr.makeSlice 47 (.int .i64 (n:Int)) (.int .i64 (n:Int))).run Tryz.prog w=.ok (.slice (some ⟨w.heap.size,0,none⟩) n n) (w.alloc (.cells (boolArr (List.replicate n false)) 4)):=by
 rw[run_make_one 47 4 (.bool false) 1 Tryz.underlying47 info_bool rfl n (by omega) (by omega) w]
 unfold boolArr
 rw[List.map_replicate]
def RetSam (w:World) (xs:List Int) (s:Int) (e:Ending) (w':World):Prop:=∃ v,e=.returned (.tuple #[v,.int .u64 s])∧IntRow w' v xs∧Below w.heap.size w w'
def badSam (pages n:Int):Bool:=decide (pages<1∨32<pages∨n<1)
def sampleL (seed pages n:Int):List Int:=if badSam pages n=true then [] else (samF pages.toNat seed (min n pages).toNat).out
def sampleS (seed pages n:Int):Int:=if badSam pages n=true then seed else (samF pages.toNat seed (min n pages).toNat).seed
theorem sample_out (seed pages n:Int) (w:World) (h:pages<1∨32<pages∨n<1):Calls Tryz.prog 62 #[.int .u64 seed,.int .i64 pages,.int .i64 n] w (RetSam w [] seed):=by
 by_cases h1:pages<1
 · go_enter Tryz.func62,Tryz.ntmps62
   go_wp2_with fail
   go_ret2
   exact⟨_,rfl,IntRow.nil _,bel⟩
 · by_cases h2:32<pages
   · go_enter Tryz.func62,Tryz.ntmps62
     go_wp2_with fail
     go_ret2
     exact⟨_,rfl,IntRow.nil _,bel⟩
   · have h3:n<1:=by omega
     go_enter Tryz.func62,Tryz.ntmps62
     go_wp2_with fail
     go_ret2
     exact⟨_,rfl,IntRow.nil _,bel⟩
set_option maxRecDepth 100000 in
set_option maxHeartbeats 4000000 in
theorem sample_few (seed:Int) (pages m:Nat) (w:World) (hs:0≤seed∧seed<18446744073709551616) (hp:1≤pages) (hp':pages≤32) (hn:1≤m) (hm:m≤pages) :
    Calls Tryz.prog 62 #[.int .u64 seed,.int .i64 pages,.int .i64 m] w (RetSam w (samF pages seed m).out (samF pages seed m).seed):=by
 have hok:=fun k=>samOk pages seed hs k
 have hmk:=make_bools pages (by omega)
 have HOK:=lh hok;clear hok hs
 obtain⟨i0,hi,iz0,iz1,iz2⟩:=info_parts info_int
 go_enter Tryz.func62,Tryz.ntmps62
 go_wp2_with fail
 go_loopw [0,9,28] (fun sd v i wr=>∃ (k:Nat) (q:Sam),k≤m∧i=.int .i64 k∧Hid (q=samF pages seed k)∧sd=.int .u64 q.seed∧HasBlock wr w.heap.size (boolArr q.d) 4∧wr.ownsRow (w.heap.size+1) 3 1 v k (q.out.map (Value.int .i64))∧Below w.heap.size w wr) (fun _ _ i _=>m - (intOf i).toNat)
 case atStart=>exact⟨0,_,Nat.zero_le _,rfl,rfl,rfl,HasBlock.made _ _ _,World.ownsRow_nil _ _ _ _,bel⟩
 case round =>
  obtain⟨k,q,hk,rfl,HQ,rfl,hblk,hown,hbw⟩:=hrel
  have hbs0:=hbw.size
  have hlt0:=hblk.lt
  by_cases hlt:k<m
  · have hokk:=HOK.out k (by omega)
    rw[←HQ.out] at hokk
    have HKK:=lh hokk;clear hokk
    have HO:=lh hown;clear hown
    have HBL:=lh hblk;clear hblk
    go_wp2_with fail
    refine (bits_Next_any q.seed _ HKK.out.seed).mono ?_
    rintro e w1 ⟨rfl,hb1⟩
    obtain⟨hc1,hf1⟩:=bcell hb1
    have hz1:=bsize hb1
    try simp only[sizes1] at hz1
    try simp only[sizes] at hc1 hf1
    have hvb:=nextV_bd q.seed
    obtain⟨x,hx⟩:∃ x,nextV q.seed=x:=⟨_,rfl⟩
    rw[hx] at hvb ⊢
    have HX:=lh hx;clear hx
    have hm1:=Int.emod_lt_of_pos x (show (0:Int)<pages by omega)
    have hm2:=Int.emod_nonneg x (show (pages:Int)≠0 by omega)
    have hpz:((pages:Int) == 0)=false:=by rw[beq_eq_false_iff_ne];omega
    go_wp2_with fail
    obtain⟨y,hy⟩:∃ y:Nat,x % pages=y:=⟨(x % pages).toNat,by omega⟩
    rw[hy] at hm1 hm2 ⊢
    have hy2:y<pages:=by omega
    have HY:=lh hy;clear hy hvb
    have hB1:=HBL.out.below hb1
    have hfree:=free_of HKK.out.len (by rw[HKK.out.cnt];omega)
    have HFR:=lh hfree;clear hfree
    have hsz1:w.heap.size<w1.heap.size:=by omega
    clear hc1 hf1
    go_loop [11] (fun i=>∃ j:Nat,j<pages∧i=.int .i64 j∧Hid (probe q.d pages j=probe q.d pages y)) (fun i=>gap q.d pages (intOf i).toNat)
    case atStart=>exact⟨y,hy2,rfl,rfl⟩
    case round =>
     obtain⟨j,hj,rfl,HJ⟩:=hrel
     have hcj:w1.cell? ⟨w.heap.size,j,none⟩=some (.bool (hitD q.d j)):=(hB1.cell j).trans (boolArr_at (by rw[HKK.out.len];exact hj))
     cases hh:hitD q.d j
     · rw[hh] at hcj
       have HH:=lh hh;clear hh
       have hfz:=hB1.free
       go_wp2_with (at_builtin;go_must (refine wpList_append_own _ rfl (.tmp 51) (.tmp 53) 23 rfl (w.heap.size+1) 3 i0 (.int .i64 0) 1 8 Tryz.underlying23 hi iz0 iz1 iz2 rfl (by decide) _ k (q.out.map (Value.int .i64)) rfl ((ownsRow_setCell_below (owns_below HO.out hb1) (a:=⟨w.heap.size,j,none⟩) (Nat.lt_succ_self _) (.bool true)).alloc _) ⟨w1.heap.size,0,none⟩ 1 1 [Value.int .i64 j] rfl rfl (cells_made _ [Value.int .i64 j] _ _ (by first|rfl|simp only[sizes])) (one_int _) (by unfold maxLen;omega) (by omega) (by first|exact nlr _|omega|(simp only[sizes];done)|(simp only[sizes];omega)) ?_;intro v2 w2 hown2 hgrow2 _;have hb2:Below w.heap.size w w2:=below_append' bel ((ownsRow_setCell_below (owns_below HO.out hb1) (a:=⟨w.heap.size,j,none⟩) (Nat.lt_succ_self _) (.bool true)).alloc _) hgrow2 (by omega);have hz2:=hb2.size))
       go_wp2_with fail
       have hpz:=probe_zero (pages:=pages) hj HH.out
       have hq2:samStep pages q=⟨nextS q.seed,q.d.set j true,q.out++[(j:Int)]⟩:=by
        unfold samStep
        rw[HX.out,HY.out,Int.toNat_natCast,←HJ.out,hpz]
       have HQ2:=lh hq2;clear hq2 hpz
       go_roundw
       case rel =>
        refine ⟨k+1,⟨nextS q.seed,q.d.set j true,q.out++[(j:Int)]⟩,by omega,by go_num,?_,rfl,?_,?_,hb2⟩
        · exact HQ2.out.symm.trans (congrArg (samStep pages) HQ.out)
        · show HasBlock _ _ (boolArr (q.d.set j true)) _
          rw[←boolArr_set]
          exact HasBlock.append ((hB1.set_at j (.bool true)).alloc _) ((ownsRow_setCell_below (owns_below HO.out hb1) (a:=⟨w.heap.size,j,none⟩) (Nat.lt_succ_self _) (.bool true)).alloc _) hgrow2 (Nat.lt_succ_self _)
        · show World.ownsRow _ _ _ _ _ _ ((q.out++[(j:Int)]).map (Value.int .i64))
          rw[map_snoc]
          exact hown2
       case measure=>simp [intOf];omega
     · rw[hh] at hcj
       have HH:=lh hh;clear hh
       go_wp2_with fail
       have hx:=HFR.out
       have hst:=probe_step (pages:=pages) hj HH.out hx
       have hgs:=gap_step (pages:=pages) hj HH.out hx
       go_round
       case rel=>exact⟨(j+1) % pages,Nat.mod_lt _ (by omega),by rw[emod_succ],by unfold Hid;rw[hst];exact HJ.out⟩
       case measure =>
        rw[emod_succ]
        simp only[intOf,Int.toNat_natCast]
        omega
  · obtain rfl:k=m:=by omega
    have HO:=lh hown;clear hown hblk
    go_wp2_with fail
    go_ret2
    have:=intRow_of HO.out
    rw[←HQ.out]
    exact⟨_,rfl,this.2,bel⟩
set_option maxRecDepth 100000 in
set_option maxHeartbeats 4000000 in
theorem sample_many (seed n:Int) (pages:Nat) (w:World) (hs:0≤seed∧seed<18446744073709551616) (hp:1≤pages) (hp':pages≤32) (hn:pages<n) :
    Calls Tryz.prog 62 #[.int .u64 seed,.int .i64 pages,.int .i64 n] w (RetSam w (samF pages seed pages).out (samF pages seed pages).seed):=by
 have hok:=fun k=>samOk pages seed hs k
 have hmk:=make_bools pages (by omega)
 have HOK:=lh hok;clear hok hs
 obtain⟨i0,hi,iz0,iz1,iz2⟩:=info_parts info_int
 go_enter Tryz.func62,Tryz.ntmps62
 go_wp2_with fail
 go_loopw [0,9,28] (fun sd v i wr=>∃ (k:Nat) (q:Sam),k≤pages∧i=.int .i64 k∧Hid (q=samF pages seed k)∧sd=.int .u64 q.seed∧HasBlock wr w.heap.size (boolArr q.d) 4∧wr.ownsRow (w.heap.size+1) 3 1 v k (q.out.map (Value.int .i64))∧Below w.heap.size w wr) (fun _ _ i _=>pages - (intOf i).toNat)
 case atStart=>exact⟨0,_,Nat.zero_le _,rfl,rfl,rfl,HasBlock.made _ _ _,World.ownsRow_nil _ _ _ _,bel⟩
 case round =>
  obtain⟨k,q,hk,rfl,HQ,rfl,hblk,hown,hbw⟩:=hrel
  have hbs0:=hbw.size
  have hlt0:=hblk.lt
  by_cases hlt:k<pages
  · have hokk:=HOK.out k (by omega)
    rw[←HQ.out] at hokk
    have HKK:=lh hokk;clear hokk
    have HO:=lh hown;clear hown
    have HBL:=lh hblk;clear hblk
    go_wp2_with fail
    refine (bits_Next_any q.seed _ HKK.out.seed).mono ?_
    rintro e w1 ⟨rfl,hb1⟩
    obtain⟨hc1,hf1⟩:=bcell hb1
    have hz1:=bsize hb1
    try simp only[sizes1] at hz1
    try simp only[sizes] at hc1 hf1
    have hvb:=nextV_bd q.seed
    obtain⟨x,hx⟩:∃ x,nextV q.seed=x:=⟨_,rfl⟩
    rw[hx] at hvb ⊢
    have HX:=lh hx;clear hx
    have hm1:=Int.emod_lt_of_pos x (show (0:Int)<pages by omega)
    have hm2:=Int.emod_nonneg x (show (pages:Int)≠0 by omega)
    have hpz:((pages:Int) == 0)=false:=by rw[beq_eq_false_iff_ne];omega
    go_wp2_with fail
    obtain⟨y,hy⟩:∃ y:Nat,x % pages=y:=⟨(x % pages).toNat,by omega⟩
    rw[hy] at hm1 hm2 ⊢
    have hy2:y<pages:=by omega
    have HY:=lh hy;clear hy hvb
    have hB1:=HBL.out.below hb1
    have hfree:=free_of HKK.out.len (by rw[HKK.out.cnt];omega)
    have HFR:=lh hfree;clear hfree
    have hsz1:w.heap.size<w1.heap.size:=by omega
    clear hc1 hf1
    go_loop [11] (fun i=>∃ j:Nat,j<pages∧i=.int .i64 j∧Hid (probe q.d pages j=probe q.d pages y)) (fun i=>gap q.d pages (intOf i).toNat)
    case atStart=>exact⟨y,hy2,rfl,rfl⟩
    case round =>
     obtain⟨j,hj,rfl,HJ⟩:=hrel
     have hcj:w1.cell? ⟨w.heap.size,j,none⟩=some (.bool (hitD q.d j)):=(hB1.cell j).trans (boolArr_at (by rw[HKK.out.len];exact hj))
     cases hh:hitD q.d j
     · rw[hh] at hcj
       have HH:=lh hh;clear hh
       have hfz:=hB1.free
       go_wp2_with (at_builtin;go_must (refine wpList_append_own _ rfl (.tmp 51) (.tmp 53) 23 rfl (w.heap.size+1) 3 i0 (.int .i64 0) 1 8 Tryz.underlying23 hi iz0 iz1 iz2 rfl (by decide) _ k (q.out.map (Value.int .i64)) rfl ((ownsRow_setCell_below (owns_below HO.out hb1) (a:=⟨w.heap.size,j,none⟩) (Nat.lt_succ_self _) (.bool true)).alloc _) ⟨w1.heap.size,0,none⟩ 1 1 [Value.int .i64 j] rfl rfl (cells_made _ [Value.int .i64 j] _ _ (by first|rfl|simp only[sizes])) (one_int _) (by unfold maxLen;omega) (by omega) (by first|exact nlr _|omega|(simp only[sizes];done)|(simp only[sizes];omega)) ?_;intro v2 w2 hown2 hgrow2 _;have hb2:Below w.heap.size w w2:=below_append' bel ((ownsRow_setCell_below (owns_below HO.out hb1) (a:=⟨w.heap.size,j,none⟩) (Nat.lt_succ_self _) (.bool true)).alloc _) hgrow2 (by omega);have hz2:=hb2.size))
       go_wp2_with fail
       have hpz:=probe_zero (pages:=pages) hj HH.out
       have hq2:samStep pages q=⟨nextS q.seed,q.d.set j true,q.out++[(j:Int)]⟩:=by
        unfold samStep
        rw[HX.out,HY.out,Int.toNat_natCast,←HJ.out,hpz]
       have HQ2:=lh hq2;clear hq2 hpz
       go_roundw
       case rel =>
        refine ⟨k+1,⟨nextS q.seed,q.d.set j true,q.out++[(j:Int)]⟩,by omega,by go_num,?_,rfl,?_,?_,hb2⟩
        · exact HQ2.out.symm.trans (congrArg (samStep pages) HQ.out)
        · show HasBlock _ _ (boolArr (q.d.set j true)) _
          rw[←boolArr_set]
          exact HasBlock.append ((hB1.set_at j (.bool true)).alloc _) ((ownsRow_setCell_below (owns_below HO.out hb1) (a:=⟨w.heap.size,j,none⟩) (Nat.lt_succ_self _) (.bool true)).alloc _) hgrow2 (Nat.lt_succ_self _)
        · show World.ownsRow _ _ _ _ _ _ ((q.out++[(j:Int)]).map (Value.int .i64))
          rw[map_snoc]
          exact hown2
       case measure=>simp [intOf];omega
     · rw[hh] at hcj
       have HH:=lh hh;clear hh
       go_wp2_with fail
       have hx:=HFR.out
       have hst:=probe_step (pages:=pages) hj HH.out hx
       have hgs:=gap_step (pages:=pages) hj HH.out hx
       go_round
       case rel=>exact⟨(j+1) % pages,Nat.mod_lt _ (by omega),by rw[emod_succ],by unfold Hid;rw[hst];exact HJ.out⟩
       case measure =>
        rw[emod_succ]
        simp only[intOf,Int.toNat_natCast]
        omega
  · obtain rfl:k=pages:=by omega
    have HO:=lh hown;clear hown hblk
    go_wp2_with fail
    go_ret2
    have:=intRow_of HO.out
    rw[←HQ.out]
    exact⟨_,rfl,this.2,bel⟩
theorem idletax_Sample_any (seed pages n:Int) (w:World) (hs:0≤seed∧seed<18446744073709551616) :
    Calls Tryz.prog 62 #[.int .u64 seed,.int .i64 pages,.int .i64 n] w (RetSam w (sampleL seed pages n) (sampleS seed pages n)):=by
 unfold sampleL sampleS
 by_cases h:pages<1∨32<pages∨n<1
 · have hb:badSam pages n=true:=decide_eq_true h
   rw[if_pos hb,if_pos hb]
   exact sample_out seed pages n w h
 · rw[if_neg (by rw[badSam,decide_eq_false h];simp),if_neg (by rw[badSam,decide_eq_false h];simp)]
   obtain⟨p,rfl⟩:∃ p:Nat,pages=p:=⟨pages.toNat,by omega⟩
   rw[Int.toNat_natCast]
   by_cases hm:n≤p
   · obtain⟨m,rfl⟩:∃ m:Nat,n=m:=⟨n.toNat,by omega⟩
     rw[Int.min_eq_left hm,Int.toNat_natCast]
     exact sample_few seed p m w hs (by omega) (by omega) (by omega) (by omega)
   · rw[Int.min_eq_right (by omega),Int.toNat_natCast]
     exact sample_many seed n p w hs (by omega) (by omega) (by omega)
def estimateI (old used n:Int):Int :=
 if n<1∨32<n∨used<0∨n<used∨old<0∨1000<old then old else if old<used*1000 / n then used*1000 / n else (3*old+used*1000 / n) / 4
set_option maxHeartbeats 1000000 in
theorem idletax_Estimate_bad (old used n:Int) (w:World) (h:n<1∨32<n∨used<0∨n<used∨old<0∨1000<old):Calls Tryz.prog 63 #[.int .i64 old,.int .i64 used,.int .i64 n] w (Ret w (.int .i64 old)):=by
 have pick:n<1∨(1≤n∧32<n)∨(1≤n∧n≤32∧used<0)∨(1≤n∧n≤32∧0≤used∧n<used)∨(1≤n∧n≤32∧0≤used∧used≤n∧old<0)∨(1≤n∧n≤32∧0≤used∧used≤n∧1000<old):=by omega
 clear h
 rcases pick with h|⟨_,h⟩|⟨_,_,h⟩|⟨_,_,_,h⟩|⟨_,_,_,_,h⟩|⟨_,_,_,_,h⟩
 all_goals
  go_enter Tryz.func63,Tryz.ntmps63
  go_wp2
  go_ret
  exact Ret.mk bel
set_option maxHeartbeats 1000000 in
theorem idletax_Estimate_good (old used n:Int) (w:World) (h1:1≤n) (h2:n≤32) (h3:0≤used) (h4:used≤n) (h5:0≤old) (h6:old≤1000) :
    Calls Tryz.prog 63 #[.int .i64 old,.int .i64 used,.int .i64 n] w (Ret w (.int .i64 (if old<used*1000 / n then used*1000 / n else (3*old+used*1000 / n) / 4))):=by
 have q1:0≤used*1000 / n:=Int.ediv_nonneg (by omega) (by omega)
 have q2:used*1000 / n≤1000:=Int.ediv_le_of_le_mul (by omega) (by omega)
 have hn:(n == 0)=false:=by rw[beq_eq_false_iff_ne];omega
 by_cases hc:old<used*1000 / n
 · rw[if_pos hc]
   go_enter Tryz.func63,Tryz.ntmps63
   go_wp2
   go_ret
   exact Ret.mk bel
 · rw[if_neg hc]
   go_enter Tryz.func63,Tryz.ntmps63
   go_wp2
   go_ret
   exact Ret.mk bel
theorem idletax_Estimate_any (old used n:Int) (w:World):Calls Tryz.prog 63 #[.int .i64 old,.int .i64 used,.int .i64 n] w (Ret w (.int .i64 (estimateI old used n))):=by
 unfold estimateI
 by_cases h:n<1∨32<n∨used<0∨n<used∨old<0∨1000<old
 · rw[if_pos h];exact idletax_Estimate_bad old used n w h
 · rw[if_neg h];exact idletax_Estimate_good old used n w (by omega) (by omega) (by omega) (by omega) (by omega) (by omega)
set_option maxHeartbeats 1000000 in
theorem vmfleetref35_Estimate_bad (old used n:Int) (w:World) (h:n<1∨32<n∨used<0∨n<used∨old<0∨1000<old):Calls Tryz.prog 65 #[.int .i64 old,.int .i64 used,.int .i64 n] w (Ret w (.int .i64 old)):=by
 have pick:n<1∨(1≤n∧32<n)∨(1≤n∧n≤32∧used<0)∨(1≤n∧n≤32∧0≤used∧n<used)∨(1≤n∧n≤32∧0≤used∧used≤n∧old<0)∨(1≤n∧n≤32∧0≤used∧used≤n∧1000<old):=by omega
 clear h
 rcases pick with h|⟨_,h⟩|⟨_,_,h⟩|⟨_,_,_,h⟩|⟨_,_,_,_,h⟩|⟨_,_,_,_,h⟩
 all_goals
  go_enter Tryz.func65,Tryz.ntmps65
  go_wp2
  go_ret
  exact Ret.mk bel
set_option maxHeartbeats 1000000 in
theorem vmfleetref35_Estimate_good (old used n:Int) (w:World) (h1:1≤n) (h2:n≤32) (h3:0≤used) (h4:used≤n) (h5:0≤old) (h6:old≤1000) :
    Calls Tryz.prog 65 #[.int .i64 old,.int .i64 used,.int .i64 n] w (Ret w (.int .i64 (if old<used*1000 / n then used*1000 / n else (3*old+used*1000 / n) / 4))):=by
 have q1:0≤used*1000 / n:=Int.ediv_nonneg (by omega) (by omega)
 have q2:used*1000 / n≤1000:=Int.ediv_le_of_le_mul (by omega) (by omega)
 have hn:(n == 0)=false:=by rw[beq_eq_false_iff_ne];omega
 by_cases hc:old<used*1000 / n
 · rw[if_pos hc]
   go_enter Tryz.func65,Tryz.ntmps65
   go_wp2
   go_ret
   exact Ret.mk bel
 · rw[if_neg hc]
   go_enter Tryz.func65,Tryz.ntmps65
   go_wp2
   go_ret
   exact Ret.mk bel
theorem vmfleetref35_Estimate_any (old used n:Int) (w:World):Calls Tryz.prog 65 #[.int .i64 old,.int .i64 used,.int .i64 n] w (Ret w (.int .i64 (estimateI old used n))):=by
 unfold estimateI
 by_cases h:n<1∨32<n∨used<0∨n<used∨old<0∨1000<old
 · rw[if_pos h];exact vmfleetref35_Estimate_bad old used n w h
 · rw[if_neg h];exact vmfleetref35_Estimate_good old used n w (by omega) (by omega) (by omega) (by omega) (by omega) (by omega)
theorem chF_spec {r:List Bool} {x:Int} (hr:0<r.length):∀ (k a:Nat) (u:List Bool) (v:Nat) (u':List Bool) (q:Nat),a<r.length→chF r x k a u=some (v,u',q)→v<r.length∧r[v]?=some true∧(v:Int)≠x∧u'.length=u.length∧(u'[v]?).getD false=false∧q<r.length∧∀ j:Nat,u'[j]?=u[j]?∨u'[j]?=some false
 | 0,a,u,v,u',q,_,h=>by simp [chF] at h
 | k+1,a,u,v,u',q,ha,h=>by
   have hm:(a+1) % r.length<r.length:=Nat.mod_lt _ hr
   rw[chF] at h
   split at h
   · exact chF_spec hr k _ _ _ _ _ hm h
   · rename_i h1
     split at h
     · obtain⟨a1,a2,a3,a4,a5,a6,a7⟩:=chF_spec hr k _ _ _ _ _ hm h
       refine ⟨a1,a2,a3,by rw[a4,List.length_set],a5,a6,fun j=>?_⟩
       rcases a7 j with h2|h2
       · rw[List.getElem?_set] at h2
         by_cases e:a=j
         · subst e
           rw[if_pos rfl] at h2
           split at h2
           · exact .inr h2
           · left
             rename_i hge
             rw[h2,List.getElem?_eq_none (by omega)]
         · rw[if_neg e] at h2
           exact .inl h2
       · exact .inr h2
     · rename_i h2
       injection h with h
       injection h with e1 h
       injection h with e2 e3
       subst e1 e2 e3
       have hra:r[a]?=some r[a]:=List.getElem?_eq_getElem ha
       rw[hra] at h1
       simp only[Option.getD,not_or,Bool.not_eq_false] at h1
       refine ⟨ha,by rw[hra,h1.1],h1.2,rfl,by simpa using h2,hm,fun j=>.inl rfl⟩
def Ho.evict (H:Ho) (i:Nat) (x:Int):Option Ho :=
 match H.G[i]? with
 | none=>none
 | some g=>match chO g.u ((H.P.pages i).map hasB) g.h.toNat x with
   | none=>none
   | some (v,u,q)=>some ⟨H.P.wr i v zeros128,H.G.set i { g with u:=u,h:=q,s:=g.s.set v (H.P.text i v) },H.t,H.d,H.n⟩
def HostAt (base B:Nat) (w:World) (H:Ho):Prop:=∃ (of or' om og:Option Addr) (kf kr km kg:Nat) (us:List Value) (gs:List Gv),HasBlock w B #[.slice of H.P.F.length kf,.slice or' H.P.R.length kr,.slice om H.P.M.length km,.slice og H.G.length kg,.int .i64 H.t,.int .u64 H.d,.int .i64 H.n] 30 ∧
 OwnH base w (.slice of H.P.F.length kf) (.slice or' H.P.R.length kr) (.slice om H.P.M.length km) us (.slice og H.G.length kg) gs H
theorem HostAt.mk {base B n r m q:Nat} {w:World} {H:Ho} {of or' om og:Option Addr} {kf kr km kg:Nat} {us:List Value} {gs:List Gv} {t d s:Int} (h1:H.P.F.length=n) (h2:H.P.R.length=r) (h3:H.P.M.length=m) (h4:H.G.length=q) (ht:H.t=t) (hd:H.d=d) (hs:H.n=s) (D:HasBlock w B #[.slice of n kf,.slice or' r kr,.slice om m km,.slice og q kg,.int .i64 t,.int .u64 d,.int .i64 s] 30) (O:OwnH base w (.slice of n kf) (.slice or' r kr) (.slice om m km) us (.slice og q kg) gs H):HostAt base B w H:=by
 subst h1 h2 h3 h4 ht hd hs
 exact⟨_,_,_,_,_,_,_,_,_,_,D,O⟩
theorem HostAt.below {base B:Nat} {w w':World} {H:Ho} (h:HostAt base B w H) (hb:Below w.heap.size w w'):HostAt base B w' H:=by
 obtain⟨of,or',om,og,kf,kr,km,kg,us,gs,D,O⟩:=h
 exact⟨of,or',om,og,kf,kr,km,kg,us,gs,D.below hb,O.below hb⟩
def RetEv (base B:Nat) (o:Option Ho) (H:Ho) (w:World) (e:Ending) (w':World):Prop:=(match o with
 | none=>e=.returned (.bool false)∧HostAt base B w' H
 | some H'=>e=.returned (.bool true)∧HostAt base B w' H')∧Below base w w'
theorem boolRow_made {w:World} {b n:Nat} {R:List Bool} (h:HasBlock w b (boolArr R) 4) (hn:R.length=n) (h9:n≤1000):BoolRow w (.slice (some ⟨b,0,none⟩) n n) R:=by
 subst hn
 refine ⟨_,_,rfl,nlr _,by unfold maxLen;omega,.inr ⟨b,0,rfl,h.lt,fun i u hu=>?_⟩⟩
 rw[Nat.zero_add,h.cell]
 unfold boolArr
 simpa using hu
def NewAt3 (w0:World) (P:Pl) (v v2:Value) (wx:World):Prop:=∃ (B:Nat) (of or' om:Option Addr) (n r m kf kr km:Nat) (us:List Value),v=.pointer (some ⟨B,0,none⟩)∧v2=.bool true∧P.F.length=n∧P.R.length=r∧P.M.length=m∧HasBlock wx B #[.slice of n kf,.slice or' r kr,.slice om m km] 26∧OwnP w0.heap.size wx (.slice of n kf) (.slice or' r kr) (.slice om m km) us P∧Below w0.heap.size w0 wx
theorem hostT:30≠9∧30≠3∧30≠23∧30≠4∧30≠49:=⟨by decide,by decide,by decide,by decide,by decide⟩
theorem HasBlock.ne_type {w:World} {b b':Nat} {cs cs':Array Value} {T T':TypeId} (h:HasBlock w b cs T) (h':HasBlock w b' cs' T') (hne:T≠T'):b≠b':=by
 rintro rfl
 unfold HasBlock at h h'
 rw[h] at h'
 injection h' with h'
 injection h' with _ h'
 exact hne h'
set_option maxRecDepth 100000 in
set_option maxHeartbeats 8000000 in
theorem hevict_ok (base B:Nat) (H:Ho) (i:Nat) (x:Int) (w:World) (hA:HostAt base B w H) (hB:base≤B) (hok:H.Ok) (hi:i<H.G.length) (hz:base≤w.heap.size):Calls Tryz.prog 79 #[.pointer (some ⟨B,0,none⟩),.int .i64 i,.int .i64 x] w (RetEv base B (H.evict i x) H w):=by
 obtain⟨g,hg⟩:=get_lt hi
 obtain⟨l,hl,hgo⟩:=hok.page hg
 have hll:=hok.p.l l (mem_at hl)
 have hev:H.evict i x=match chO g.u (l.map hasB) g.h.toNat x with
  | none=>none
  | some (v,u,q)=>some ⟨H.P.wr i v zeros128,H.G.set i { g with u:=u,h:=q,s:=g.s.set v (H.P.text i v) },H.t,H.d,H.n⟩:=by
  unfold Ho.evict
  rw[hg,Pl.pages_eq hl]
 rw[hev]
 clear hev
 obtain⟨o,ho⟩:∃ o,chO g.u (l.map hasB) g.h.toNat x=o:=⟨_,rfl⟩
 rw[ho]
 obtain⟨of,or',om,og,kf,kr,km,kg,us,gs,D,O⟩:=hA
 obtain⟨n,hn⟩:∃ n,H.P.F.length=n:=⟨_,rfl⟩
 obtain⟨r,hr⟩:∃ n,H.P.R.length=n:=⟨_,rfl⟩
 obtain⟨m,hm⟩:∃ n,H.P.M.length=n:=⟨_,rfl⟩
 obtain⟨q,hq⟩:∃ n,H.G.length=n:=⟨_,rfl⟩
 obtain⟨tx,htx⟩:∃ n,H.t=n:=⟨_,rfl⟩
 obtain⟨dx,hdx⟩:∃ n,H.d=n:=⟨_,rfl⟩
 obtain⟨sx,hsx⟩:∃ n,H.n=n:=⟨_,rfl⟩
 rw[hn,hr,hm,hq,htx,hdx,hsx] at D
 rw[hn,hr,hm,hq] at O
 have HN:=lh hn;clear hn
 have HR:=lh hr;clear hr
 have HM:=lh hm;clear hm
 have HQ:=lh hq;clear hq
 have HT:=lh htx;clear htx
 have HD:=lh hdx;clear hdx
 have HS:=lh hsx;clear hsx
 have hAB:=D.lt
 obtain⟨bG,cG,y,so,sc,uo,uc,eo,ec,e0,b1,b2,hy,ys,yu,ye,_,cg2,_,sc2,_,uc2,_,ec2,cs,cfz⟩:=O.guest hg
 injection e0 with e0 e9 e10
 subst e0 e10
 clear e9
 obtain⟨mb,moff,lo,lc,rfl,hmb,cm0,lc1,lc2,hL⟩:=O.row.p.guest hl
 have hnGB:bG≠B:=fun e=>by
  have:=own_off O.g D (by decide)
  exact this (by rw[e];rfl)
 obtain⟨ys1,yu1,ye1⟩:=y
 dsimp only at ys yu ye
 subst ys yu ye
 have hrs:=O.r i _ g hy hg
 obtain⟨rs1,rs2,rs3⟩:=hrs
 dsimp only at rs1 rs2 rs3
 have hsl:=hgo.ls
 have hul:=hgo.lu
 have hel:=hgo.le
 obtain⟨hd0,hd1⟩:=hgo.hd
 obtain⟨hh,hhn⟩:∃ k:Nat,g.h=k:=⟨g.h.toNat,by omega⟩
 rw[hhn,Int.toNat_natCast] at ho
 rw[hhn] at hd0 hd1
 have c5:w.cell? ⟨bG,i*9+5,none⟩=_:=cs 5 _ rfl
 have c6:w.cell? ⟨bG,i*9+6,none⟩=_:=cs 6 _ rfl
 have c7:w.cell? ⟨bG,i*9+7,none⟩=_:=cs 7 _ rfl
 clear cs
 dsimp only at c5 c6 c7
 rw[hhn] at c7
 obtain⟨ql,hql⟩:∃ k,l.length=k:=⟨_,rfl⟩
 rw[hql] at hll cm0 hL hsl hul hel hd1
 rw[hsl] at c5 rs1 hy
 rw[hul] at c6 rs2 hy
 rw[hel] at rs3 hy
 have hiq:i<q:=by rw[←HQ.out];exact hi
 have him:i<m:=by rw[←HM.out];exact lt_of_get hl
 have hfb:∀ f∈l,-1≤f∧f≤96:=fun f hf=>by
  have:=hok.p.pg l (mem_at hl) f hf
  have:=hok.p.n2
  omega
 obtain⟨gS,rfl,gs1,gs2⟩:=rs1.addr hsl (by omega)
 have HOK:=lh hok;clear hok
 have HG:=lh hg;clear hg
 have HL:=lh hl;clear hl
 have HGO:=lh hgo;clear hgo hhn
 have HV0:=lh ho;clear ho
 have HYY:=lh hy;clear hy
 have HQL:=lh hql;clear hql
 have HSL:=lh hsl;clear hsl
 have HUL:=lh hul;clear hul
 have HEL:=lh hel;clear hel hi
 have HLL:=lh hL;clear hL
 have HFB:=lh hfb;clear hfb
 have i0:(0:Int)≤(i:Int):=by omega
 have iq:(i:Int)<(q:Int):=by omega
 have im:(i:Int)<(m:Int):=by omega
 have hmk:=make_bools ql (by omega)
 have HLT:=lh O.ltG
 obtain⟨D_c,D_f,D_z⟩:=D.all
 go_enter Tryz.func79,Tryz.ntmps79
 go_wp2_with fail
 clear D_c D_f D_z
 go_loopw [43] (fun iv wr=>∃ (j:Nat) (R:List Bool),j≤ql∧iv=.int .i64 j∧Hid (R.length=ql∧∀ k:Nat,k<j→R[k]?=(l[k]?).map hasB)∧HasBlock wr w.heap.size (boolArr R) 4∧Below w.heap.size w wr) (fun iv _=>ql - (intOf iv).toNat)
 case atStart=>exact⟨0,List.replicate ql false,by omega,rfl,⟨List.length_replicate ..,fun k hk=>by omega⟩,HasBlock.made _ _ _,(Below.refl _ _).alloc (nlr _) _⟩
 case round =>
  obtain⟨j,R,hj,rfl,HRR,DR,hbr⟩:=hrel
  by_cases hjq:j<ql
  · obtain⟨f,hf⟩:=get_lt (xs:=l) (k:=j) (by rw[HQL.out];exact hjq)
    obtain⟨fb,foff,rfl,hfb,cf0⟩:=HLL.out.elem hf
    have cf:=(hbr.cell (p:=⟨fb,foff+j,none⟩) hfb).trans cf0
    have HF:=lh hf;clear hf
    have j0:(0:Int)≤(j:Int):=by omega
    have jq:(j:Int)<(ql:Int):=by omega
    obtain⟨rb,hrb⟩:=get_lt (xs:=R) (k:=j) (by rw[HRR.out.1];exact hjq)
    have hra:(boolArr R)[j]?=some (.bool rb):=by
     unfold boolArr
     rw[List.getElem?_toArray,List.getElem?_map,hrb]
     rfl
    clear hrb
    obtain⟨DR_c,DR_f,DR_z⟩:=DR.all
    go_wp2_with fail
    go_roundw
    case rel =>
     refine ⟨j+1,R.set j (hasB f),by omega,by go_num,⟨by rw[List.length_set];exact HRR.out.1,fun k hk=>?_⟩,?_,hbr.setCell (by dsimp only;omega) _⟩
     · rw[List.getElem?_set,HRR.out.1]
       by_cases e:j=k
       · subst e
         rw[if_pos rfl,if_pos hjq,HF.out]
         rfl
       · rw[if_neg e]
         exact HRR.out.2 k (by omega)
     · rw[←boolArr_set]
       exact DR.set_at j _
    case measure=>simp [intOf];omega
  · obtain rfl:j=ql:=by omega
    have hRl:R=l.map hasB:=by
     apply List.ext_getElem?
     intro k
     rw[List.getElem?_map]
     by_cases hk:k<j
     · exact HRR.out.2 k hk
     · rw[List.getElem?_eq_none (by rw[HRR.out.1];omega),List.getElem?_eq_none (by rw[HQL.out];omega)]
       rfl
    have hRow:=boolRow_made DR HRR.out.1 (by omega)
    rw[hRl] at hRow
    clear HRR hRl DR
    have rs2r:=rs2.row.below hbr
    have hVC:=fun w' h1 h2=>chance_any uo (some ⟨w.heap.size,0,none⟩) uc j j g.u (l.map hasB) hh x w' h1 h2 HUL.out (by rw[List.length_map,HQL.out]) (by omega) (by omega) (by omega)
    rw[HV0.out] at hVC
    have HVC:=lh hVC;clear hVC
    have HRW:=lh hRow;clear hRow
    have HUW:=lh rs2r;clear rs2r
    have c5r:=(hbr.cell (p:=⟨bG,i*9+5,none⟩) b2).trans c5
    have c6r:=(hbr.cell (p:=⟨bG,i*9+6,none⟩) b2).trans c6
    have c7r:=(hbr.cell (p:=⟨bG,i*9+7,none⟩) b2).trans c7
    have hbz:=hbr.size
    have b2r:bG<wr.heap.size:=by omega
    go_wp2_with fail
    have hrule:∀ w':World,Below wr.heap.size wr w'→∀ b o,b<wr.heap.size→w'.cell? ⟨b,o,none⟩=wr.cell? ⟨b,o,none⟩:=fun w' h b o hlt=>h.cell (p:=⟨b,o,none⟩) hlt
    go_region_held3 (fun w'=>Below wr.heap.size wr w') (repeat' (first|(with_reducible first|assumption|exact Below.refl _ _|refine Below.drew ?_|refine Below.alloc' ?_ (nlr _) _|refine Below.setCell ?_ ?_ _)|refine Below.trans ?_ (Below.mono (by with_reducible assumption) ?_)|exact rfl|exact nlr _|omega|(simp only[sizes];done)|(simp only[sizes];omega))) ((first
     |
      (go_at_call 98
       with_reducible refine (HVC.out _ (HUW.out.below bel3) (HRW.out.below bel3)).mono ?_
       rintro e w5 ⟨ao5,cp5,u5,v5,h5,rfl,o5,hb5,hm5⟩
       obtain⟨hc5,hf5⟩:=bcell hb5
       have hzz5:=bsize hb5
       (try simp only[sizes1] at hzz5)
       (try simp only[sizes] at hc5 hf5))))
    have hb5':Below wr.heap.size wr w5:=by (repeat' (first|(with_reducible first|assumption|exact Below.refl _ _|refine Below.drew ?_|refine Below.alloc' ?_ (nlr _) _|refine Below.setCell ?_ ?_ _)|refine Below.trans ?_ (Below.mono (by with_reducible assumption) ?_)|exact rfl|exact nlr _|omega|(simp only[sizes];done)|(simp only[sizes];omega)))
    have HB5:Below w.heap.size w w5:=hbr.trans (hb5'.mono hbr.size)
    have o5':=o5.lower (base':=wr.heap.size) (by simp only[sizes];omega)
    clear hc5 hf5 hzz5 hb5 hb5' hrule o5 c5r c6r c7r b2r HVC HRW HUW
    have D5:=D.below HB5
    have O5:=O.below HB5
    cases o with
    | none =>
      obtain rfl:=hm5
      go_wp2_with fail
      go_ret
      exact⟨⟨rfl,HostAt.mk HN.out HR.out HM.out HQ.out HT.out HD.out HS.out D5 O5⟩,HB5.mono hz⟩
    | some a =>
      obtain⟨v,u,qn⟩:=a
      obtain⟨rfl,e5u,rfl⟩:=hm5
      replace e5u:=e5u.symm
      subst e5u
      have hsp:=HV0.out
      unfold chO at hsp
      obtain⟨p1,p2,p3,p4,p5,p6,p7⟩:=chF_spec (by rw[List.length_map,HQL.out];omega) _ _ _ _ _ _ (by rw[List.length_map,HQL.out];omega) hsp
      rw[List.length_map,HQL.out] at p1 p6
      rw[HUL.out] at p4
      obtain⟨f,hf⟩:=get_lt (xs:=l) (k:=v) (by rw[HQL.out];exact p1)
      have hat:H.P.at i v:=⟨l,f,HL.out,hf⟩
      have hok:=HOK.out
      have RDc:=fun v' w h=>pread_any v' H.P i v w h hok.p.fit
      rw[Pl.read_eq hok.p hat,Pl.at_has hok.p hat] at RDc
      have WRc:=fun v' w h=>pwrite_own v' H.P i v zeros128 w h hok.p.fit hok.p.small
      obtain⟨we1,we2⟩:=Pl.wr_eq hok.p hat zeros128_size
      have hwok:H.P.wok i v zeros128=true:=by rw[we2];unfold Pl.wok';rw[zeros128_zero];rfl
      rw[hwok] at WRc
      have RPc:=fun w=>rep_any w
      clear hsp p2 p5 p7 hf hat hok we1 we2 hwok
      obtain⟨t,ht⟩:∃ t,H.P.text i v=t:=⟨_,rfl⟩
      obtain⟨P2,hP2⟩:∃ P,H.P.wr i v zeros128=P:=⟨_,rfl⟩
      obtain⟨zz,hzz⟩:∃ z,zeros128=z:=⟨_,rfl⟩
      rw[ht] at RDc
      rw[hP2,hzz] at WRc
      rw[hzz] at RPc
      have HRD:=lh RDc;clear RDc
      have HWR:=lh WRc;clear WRc
      have HRP:=lh RPc;clear RPc
      have HTT:=lh (And.intro ht (And.intro hP2 hzz));clear ht hP2 hzz
      have vq:(v:Int)<(j:Int):=by omega
      have v0:(0:Int)≤(v:Int):=by omega
      have hneg:decide ((v:Int)<0)=false:=decide_eq_false (by omega)
      obtain⟨D5_c,D5_f,D5_z⟩:=D5.all
      go_wp2_with fail
      clear D5_c D5_f D5_z
      with_reducible refine (HRD.out _ _ O5.row.p).mono ?_
      rintro e w6 ⟨rfl,hb6⟩
      replace HB5:=HB5.trans (hb6.mono HB5.size)
      replace D5:=D5.below hb6
      replace O5:=O5.below hb6
      replace o5':=o5'.below hb6
      clear hb6
      obtain⟨D5_c,D5_f,D5_z⟩:=D5.all
      go_wp2_with fail
      go_cut [16,17] from 81 to 91 (fun v v2 wx=>NewAt3 w6 P2 v v2 wx)
      case first =>
       have hrule:∀ w':World,Below w6.heap.size w6 w'→∀ b o,b<w6.heap.size→w'.cell? ⟨b,o,none⟩=w6.cell? ⟨b,o,none⟩:=fun w' h b o hlt=>h.cell (p:=⟨b,o,none⟩) hlt
       go_region_held3 (fun w'=>Below w6.heap.size w6 w') (repeat' (first|(with_reducible first|assumption|exact Below.refl _ _|refine Below.drew ?_|refine Below.alloc' ?_ (nlr _) _|refine Below.setCell ?_ ?_ _)|refine Below.trans ?_ (Below.mono (by with_reducible assumption) ?_)|exact rfl|exact nlr _|omega|(simp only[sizes];done)|(simp only[sizes];omega))) ((first
        |
         (go_at_call 86
          with_reducible refine (HRP.out _).mono ?_
          rintro e w7 ⟨rfl,hb7⟩
          obtain⟨hc7,hf7⟩:=bcell hb7
          have hzz7:=bsize hb7
          (try simp only[sizes1] at hzz7)
          (try simp only[sizes] at hc7 hf7))
        |
         (go_at_call 48
          with_reducible refine (HWR.out _ _ (O5.row.p.below bel3)).mono ?_
          rintro e w8 ⟨of6,or6,om6,kf6,kr6,km6,us6,rfl,O6,hb8⟩
          obtain⟨n6,hgn⟩:∃ n,(Pl.F P2).length=n:=⟨_,rfl⟩
          obtain⟨r6,hgr⟩:∃ n,(Pl.R P2).length=n:=⟨_,rfl⟩
          obtain⟨m6,hgm⟩:∃ n,(Pl.M P2).length=n:=⟨_,rfl⟩
          rw[hgn,hgr,hgm] at O6 ⊢
          have HG6:=lh (And.intro hgn (And.intro hgr hgm))
          clear hgn hgr hgm
          obtain⟨hc8,hf8⟩:=bcell hb8
          have hzz8:=bsize hb8
          (try simp only[sizes1] at hzz8)
          (try simp only[sizes] at hc8 hf8))))
       all_goals
        have hb8':Below w6.heap.size w6 w8:=by (repeat' (first|(with_reducible first|assumption|exact Below.refl _ _|refine Below.drew ?_|refine Below.alloc' ?_ (nlr _) _|refine Below.setCell ?_ ?_ _)|refine Below.trans ?_ (Below.mono (by with_reducible assumption) ?_)|exact rfl|exact nlr _|omega|(simp only[sizes];done)|(simp only[sizes];omega)))
        have O6':=O6.lower (base':=w6.heap.size) (by first|exact nlr _|omega|(simp only[sizes];omega))
        go_wp2_with fail
        go_meet
        refine ⟨_,of6,or6,om6,n6,r6,m6,kf6,kr6,km6,us6,rfl,rfl,HG6.out.1,HG6.out.2.1,HG6.out.2.2,?h1,?h2,?h3⟩
        case h1=>(repeat' (first|with_reducible assumption|(with_reducible refine HasBlock.drew ?_)|(with_reducible refine HasBlock.made' sz4)|(with_reducible refine HasBlock.alloc ?_ _)|(with_reducible refine HasBlock.fill3 ?_)|(with_reducible refine HasBlock.fill_ne ?_ sz4 _ _ _)|(with_reducible refine HasBlock.below ?_ hb8)|(with_reducible refine HasBlock.below ?_ hb7)))
        case h2=>(repeat' (first|with_reducible assumption|(with_reducible refine OwnP.drew ?_)|(with_reducible refine OwnP.alloc ?_ _)|(with_reducible refine OwnP.fill (x0:=.slice none 0 0) (x1:=.slice none 0 0) (x2:=.slice none 0 0) (T:=26) ?_ ?_ (by decide) (by decide) (by decide) _ _ _)|(with_reducible refine OwnP.below ?_ hb8)|(with_reducible refine OwnP.below ?_ hb7)|(with_reducible refine HasBlock.drew ?_)|(with_reducible refine HasBlock.made' sz4)|(with_reducible refine HasBlock.alloc ?_ _)|(with_reducible refine HasBlock.below ?_ hb8)|(with_reducible refine HasBlock.below ?_ hb7)))
        case h3=>(repeat' (first|(with_reducible first|assumption|exact Below.refl _ _|refine Below.drew ?_|refine Below.alloc' ?_ (nlr _) _|refine Below.setCell ?_ ?_ _)|refine Below.trans ?_ (Below.mono (by with_reducible assumption) ?_)|exact rfl|exact nlr _|omega|(simp only[sizes];done)|(simp only[sizes];omega)))
      case rest =>
       clear D5_c D5_f D5_z
       obtain⟨B2,of2,or2,om2,n2,r2,m2,kf2,kr2,km2,us2,rfl,rfl,hn2,hr2,hm2,D2,O2,hb9⟩:=hcut
       have HBc:Below w.heap.size w wc:=HB5.trans (hb9.mono HB5.size)
       have Dc:=D5.below hb9
       have Oc:=O5.below hb9
       have o5c:=o5'.below hb9
       have hbS:base≤w6.heap.size:=Nat.le_trans hz HB5.size
       have hyp:w.heap.size≤wr.heap.size:=hbz
       have Oa:=Oc.newPool (O2.lower hbS) O5.ltG O2.ge
       have Ob:=Oa.setUsed (i:=i) HG.out HYY.out HLT.out (o5c.lower (Nat.le_trans hz hyp)) (fun k hk=>Nat.le_trans hyp (o5c.ge k hk))
       have hg2:((H.setP P2).setG i { g with u:=u }).G[i]?=some { g with u:=u }:=by
        show (H.G.set i _)[i]?=_
        rw[List.getElem?_set,if_pos rfl,if_pos (lt_of_get HG.out)]
       have hx2:(gs.set i { s:=Value.slice (some ⟨gS,0,none⟩) j sc,u:=Value.slice ao5 j cp5,e:=Value.slice eo j ec })[i]?=some { s:=Value.slice (some ⟨gS,0,none⟩) j sc,u:=Value.slice ao5 j cp5,e:=Value.slice eo j ec }:=by
        rw[List.getElem?_set,if_pos rfl,if_pos (lt_of_get HYY.out)]
       have Oe:=Ob.setHand hg2 hx2 (qn:Int)
       have hg3:(((H.setP P2).setG i { g with u:=u }).setG i { g with u:=u,h:=(qn:Int) }).G[i]?=some { g with u:=u,h:=(qn:Int) }:=by
        show ((H.G.set i _).set i _)[i]?=_
        rw[List.getElem?_set,if_pos rfl,if_pos (by rw[List.length_set];exact lt_of_get HG.out)]
       have Of:=Oe.putS hg3 hx2 rfl v t
       have hHe:(((H.setP P2).setG i { g with u:=u }).setG i { g with u:=u,h:=(qn:Int) }).setG i { g with u:=u,h:=(qn:Int),s:=g.s.set v t }=⟨P2,H.G.set i { g with u:=u,h:=(qn:Int),s:=g.s.set v t },H.t,H.d,H.n⟩:=by
        unfold Ho.setG Ho.setP
        dsimp only
        rw[List.set_set,List.set_set]
       dsimp only at Of
       rw[hHe] at Of
       have HOf:=lh Of;clear Oa Ob Oe Of hg2 hx2 hg3 hHe
       obtain⟨s0,hs0⟩:=get_lt (xs:=g.s) (k:=v) (by rw[HSL.out];exact p1)
       obtain⟨cS0,fS0⟩:=rs1.at hs0
       clear hs0
       have cS:=(HBc.cell (p:=⟨gS,v,none⟩) gs2).trans cS0
       have fS:=(HBc.frozen (p:=⟨gS,v,none⟩) gs2).trans fS0
       have c5c:=(HBc.cell (p:=⟨bG,i*9+5,none⟩) b2).trans c5
       have c6c:=(HBc.cell (p:=⟨bG,i*9+6,none⟩) b2).trans c6
       have c7c:=(HBc.cell (p:=⟨bG,i*9+7,none⟩) b2).trans c7
       have fGc:∀ o,wc.frozen? ⟨bG,o,none⟩=false:=fun o=>(HBc.frozen (p:=⟨bG,o,none⟩) b2).trans (cfz o)
       have n1:bG≠B2:=fun e=>own_off Oc.g D2 (by decide) (by rw[e];rfl)
       have n2':gS≠B2:=fun e=>own_off (rs1.below HBc) D2 (by decide) (by rw[e];rfl)
       have n3:gS≠B:=fun e=>own_off rs1 D (by decide) (by rw[e];rfl)
       have n4:gS≠bG:=fun e=>own_ne_type rs1 O.g (by decide) rfl (by rw[e];rfl)
       have n5:B2≠B:=D2.ne_type Dc (by decide)
       have n6:B≠bG:=fun e=>hnGB e.symm
       have DE:=Dc
       clear O5 o5c Oc rs1 rs2 rs3 O D c5 c6 c7 cS0 fS0
       obtain⟨Dc_c,Dc_f,Dc_z⟩:=Dc.all
       obtain⟨D2_c,D2_f,D2_z⟩:=D2.all
       go_wp2_with fail
       go_ret
       rw[HTT.out.2.1,HTT.out.1]
       have D3:=((DE.set_ne n6 (j:=i*9+6) (.slice ao5 j cp5)).set_ne n6 (j:=i*9+7) (.int .i64 (qn:Int))).set_ne (b':=gS) (fun e=>n3 e.symm) (j:=v) (.string t)
       have OF:=((HOf.out.setbox (j:=0) D3 hostT (.slice of2 n2 kf2)).setbox (j:=1) (D3.put7_0 (.slice of2 n2 kf2)) hostT (.slice or2 r2 kr2)).setbox (j:=2) ((D3.put7_0 (.slice of2 n2 kf2)).put7_1 (.slice or2 r2 kr2)) hostT (.slice om2 m2 km2)
       have DF:=D3.poolIn (.slice of2 n2 kf2) (.slice or2 r2 kr2) (.slice om2 m2 km2)
       have BF:=((((((HBc.mono hz).setCell (p:=⟨bG,i*9+6,none⟩) b1 (.slice ao5 j cp5)).setCell (p:=⟨bG,i*9+7,none⟩) b1 (.int .i64 (qn:Int))).setCell (p:=⟨gS,v,none⟩) gs1 (.string t)).setCell (p:=⟨B,0,none⟩) hB (.slice of2 n2 kf2)).setCell (p:=⟨B,1,none⟩) hB (.slice or2 r2 kr2)).setCell (p:=⟨B,2,none⟩) hB (.slice om2 m2 km2)
       have HA':=HostAt.mk (H:=⟨P2,H.G.set i { g with u:=u,h:=(qn:Int),s:=g.s.set v t },H.t,H.d,H.n⟩) hn2 hr2 hm2 ((List.length_set ..).trans HQ.out) HT.out HD.out HS.out DF OF
       exact⟨⟨rfl,HA'⟩,BF⟩
end Go.Proofs.YtbnngjhnkegliaaGreat
