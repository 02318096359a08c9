/-
  Texts joined: TpDk4. No law is proved here.
-/
import Derived.Test.YtnmpfmapncicmaaGreatB10
namespace Go.Proofs.YtnmpfmapncicmaaGreat
set_option linter.all false
set_option maxRecDepth 100000
set_option maxHeartbeats 40000000
open Go.RowKit
def evL (e:Ev):List Value:=[.int .i64 e.k,.int .u32 e.n,.string e.d]
theorem CV:(Tryz.prog.info? 111).map (·.size)=some 3:=by kernel_rfl
section
variable {d:Dk} {va:Value} {xs:List Int} {e:Ev} {w:World}
theorem Xz62 {P:Prop} (h:P:=by
  refine YT ?_
  refine YD ?_
  clear hHeld
  go_wp2_with fail
  exact Yr3 ⟨_,rfl,RowBx.mem HN.out R (by rw[←HN.out];exact h0) L (k:=0) rfl,L.bel⟩):P:=h
theorem comp_refuse (ha:MemRow w va xs) (hm:MemOk xs) (hk:e.k=4) (h:d.s≠1∨1<e.n):Calls Tryz.prog 130 #[.agg (dkL d).toArray,va,.agg (evL e).toArray] w (AD (fun u=>.tuple #[.agg (dkL d).toArray,u,.bool false]) xs w):=by
 have HA:=lh ha
 have h0:=hm.p
 have HK:=lh (fun v w h=>At v xs w h (by have:=hm.q;omega))
 obtain⟨n,hn⟩:∃ n,xs.length=n:=⟨_,rfl⟩
 have HN:=lh hn
 clear ha hm hn
 by_cases hs:d.s=1
 have h1:decide (1<e.n)=true:=decide_eq_true (h.resolve_left (fun h=>h hs))
 have hs1:(d.s != 1)=false:=by simpa using hs
 have hk1:(e.k != 4)=false:=by simpa using hk
 rotate_left
 have hs1:(d.s != 1)=true:=by simpa using hs
 rotate_left
 all_goals
  clear h hs hk
  have L:=Lay.start w
  go_in
  go_wp2_with (first|(refine YL ?_)|(refine YS ?_;clear L;intro wz L))
  refine Yh [2] ?_;clear L;intro hHeld L
  refine YT ?_
  refine zor 2 ?_;intro K hK
  go_simp
  refine (HK.out _ _ (HA.out.below L.bel)).mono ?_
  rintro ee wz ⟨v1,rfl,ho1,hb1⟩
  obtain⟨g,cap1,cur,rfl,R,L'⟩:=Lay.mem HN.out L ho1 hb1
  replace L:=L'
  clear L' hb1 ho1
  go_simp
  refine hK.out _ _ (L.kept [3] rfl) ?_;clear hHeld hK K;intro hHeld
  (try simp only[q1,q2,q3,Act.put,q4,s0,s1])
  refine YW 3 [3] (dkL d) ?_;clear L hHeld;intro wz L hHeld
  all_goals
   exact Xz62
section
variable {bl b f cmd ob of:Int} {od D:ByteArray}
theorem comp_w (ha:MemRow w va xs) (hm:MemOk xs):Calls Tryz.prog 130 #[.agg (dkL ⟨bl,b,f,1,2,ob,of,od⟩).toArray,va,.agg (evL ⟨4,1,⟨#[]⟩⟩).toArray] w (AD (fun u=>.tuple #[.agg (dkL ⟨bl,b,f,2,0,0,0,⟨#[]⟩⟩).toArray,u,.bool true]) xs w):=by
 have HA:=lh ha
 have h0:=hm.p
 have HK:=lh (fun v w h=>At v xs w h (by have:=hm.q;omega))
 obtain⟨n,hn⟩:∃ n,xs.length=n:=⟨_,rfl⟩
 have HN:=lh hn
 clear ha hm hn
 have L:=Lay.start w
 go_in
 go_wp2_with (first|(go_at_call 44;(with_reducible refine (HK.out _ _ (HA.out.below L.bel)).mono ?_);rintro ee wz ⟨v1,rfl,ho1,hb1⟩;obtain⟨g,capg,curg,rfl,R,L'⟩:=Lay.mem HN.out L ho1 hb1;replace L:=L';clear L' hb1 ho1)|(refine YL ?_)|((first|refine Yt (dkL ⟨bl,b,f,3,2,ob,of,od⟩) ?_|refine Yt (dkL ⟨bl,b,f,2,2,ob,of,od⟩) ?_|refine Yt (dkL ⟨bl,b,f,2,0,ob,of,od⟩) ?_|refine Yt (dkL ⟨bl,b,f,2,0,0,of,od⟩) ?_|refine Yt (dkL ⟨bl,b,f,2,0,0,0,od⟩) ?_|refine Yt (dkL ⟨bl,b,f,2,0,0,0,⟨#[]⟩⟩) ?_|refine YS ?_);clear L;intro wz L))
 exact Yr3 ⟨_,rfl,RowBx.mem HN.out R (by have h:=h0;rw[HN.out] at h;exact h) L (k:=0) rfl,L.bel⟩
theorem comp_e (ha:MemRow w va xs) (hm:MemOk xs):Calls Tryz.prog 130 #[.agg (dkL ⟨bl,b,f,1,cmd,ob,of,od⟩).toArray,va,.agg (evL ⟨4,0,⟨#[]⟩⟩).toArray] w (AD (fun u=>.tuple #[.agg (dkL ⟨bl,b,f,3,0,0,0,⟨#[]⟩⟩).toArray,u,.bool true]) xs w):=by
 have HA:=lh ha
 have h0:=hm.p
 have HK:=lh (fun v w h=>At v xs w h (by have:=hm.q;omega))
 obtain⟨n,hn⟩:∃ n,xs.length=n:=⟨_,rfl⟩
 have HN:=lh hn
 clear ha hm hn
 have L:=Lay.start w
 go_in
 go_wp2_with (first|(go_at_call 44;(with_reducible refine (HK.out _ _ (HA.out.below L.bel)).mono ?_);rintro ee wz ⟨v1,rfl,ho1,hb1⟩;obtain⟨g,capg,curg,rfl,R,L'⟩:=Lay.mem HN.out L ho1 hb1;replace L:=L';clear L' hb1 ho1)|(refine YL ?_)|((first|refine Yt (dkL ⟨bl,b,f,3,cmd,ob,of,od⟩) ?_|refine Yt (dkL ⟨bl,b,f,2,cmd,ob,of,od⟩) ?_|refine Yt (dkL ⟨bl,b,f,3,0,ob,of,od⟩) ?_|refine Yt (dkL ⟨bl,b,f,3,0,0,of,od⟩) ?_|refine Yt (dkL ⟨bl,b,f,3,0,0,0,od⟩) ?_|refine Yt (dkL ⟨bl,b,f,3,0,0,0,⟨#[]⟩⟩) ?_|refine YS ?_);clear L;intro wz L))
 exact Yr3 ⟨_,rfl,RowBx.mem HN.out R (by have h:=h0;rw[HN.out] at h;exact h) L (k:=0) rfl,L.bel⟩
theorem Xz41 {P:Prop} (h:P:=by
  have HA:=lh ha
  have h0:=hm.p
  have HK:=lh (fun v w h=>At v xs w h (by have:=hm.q;omega))
  obtain⟨n,hn⟩:∃ n,xs.length=n:=⟨_,rfl⟩
  have HN:=lh hn
  have hq:D.toList.isEmpty=false:=by rw[isEmpty_iff];exact decide_eq_false hd
  clear ha hm hn hd
  have L:=Lay.start w
  go_in
  go_wp2_with (first|(go_at_call 44;(with_reducible refine (HK.out _ _ (HA.out.below L.bel)).mono ?_);rintro ee wz ⟨v1,rfl,ho1,hb1⟩;obtain⟨g,capg,curg,rfl,R,L'⟩:=Lay.mem HN.out L ho1 hb1;replace L:=L';clear L' hb1 ho1)|(refine YL ?_)|(refine YS ?_;clear L;intro wz L))
  exact Yr3 ⟨_,rfl,RowBx.mem HN.out R (by have h:=h0;rw[HN.out] at h;exact h) L (k:=0) rfl,L.bel⟩):P:=h
theorem comp_wd (ha:MemRow w va xs) (hm:MemOk xs) (hd:D.size≠0):Calls Tryz.prog 130 #[.agg (dkL ⟨bl,b,f,1,2,ob,of,od⟩).toArray,va,.agg (evL ⟨4,1,D⟩).toArray] w (AD (fun u=>.tuple #[.agg (dkL ⟨bl,b,f,1,2,ob,of,od⟩).toArray,u,.bool false]) xs w):=by
 exact Xz41
theorem comp_ed (ha:MemRow w va xs) (hm:MemOk xs) (hd:D.size≠0):Calls Tryz.prog 130 #[.agg (dkL ⟨bl,b,f,1,cmd,ob,of,od⟩).toArray,va,.agg (evL ⟨4,0,D⟩).toArray] w (AD (fun u=>.tuple #[.agg (dkL ⟨bl,b,f,1,cmd,ob,of,od⟩).toArray,u,.bool false]) xs w):=by
 exact Xz41
end
section
variable {bl b f ob of:Int} {od D:ByteArray}
theorem Xz120 {P:Prop} (h:P:=by
  exact Yr3 ⟨_,rfl,RowBx.mem HN2.out R2 (by have h:=h0;rw[HN.out] at h;exact h) L (k:=0) rfl,L.bel⟩):P:=h
theorem comp_r (ha:MemRow w va xs) (hm:MemOk xs) (hf:W32 of) (h2:isPage xs of=true) (hd:D.size=128):Calls Tryz.prog 130 #[.agg (dkL ⟨bl,b,f,1,1,ob,of,od⟩).toArray,va,.agg (evL ⟨4,1,D⟩).toArray] w (AD (fun u=>.tuple #[.agg (dkL ⟨bl,b,f,2,0,0,0,⟨#[]⟩⟩).toArray,u,.bool true]) (A0 xs of D) w):=by
 have HA:=lh ha
 have h0:=hm.p
 have HK:=lh (fun v w h=>At v xs w h (by have:=hm.q;omega))
 obtain⟨n,hn⟩:∃ n,xs.length=n:=⟨_,rfl⟩
 have HN:=lh hn
 obtain⟨B,off,cap,rfl,_,_,_,hrow⟩:=ha.open
 have P:=fun w=>DR (some ⟨B,off,none⟩) xs cap of w hm hf.1 hf.2
 rw[h2] at P
 have hq':=of_decide_eq_true h2
 obtain⟨q,rfl⟩:∃ q:Nat,of=q:=⟨of.toNat,by have:=hf.1;omega⟩
 have hqn:q<AO xs.length:=by rw[←Int.ofNat_lt,←Bv];exact hq'
 have h64:wrap64 (q:Int)=q:=by have:=hf.2;unfold wrap64;omega
 have SP:=fun w v h=>FI v xs q D w h hqn hd
 have hl:(A0 xs q D).length=n:=(C8 _ _ _ _).trans hn
 generalize A0 xs (q:Int) D=ys at *
 have HN2:=lh hl
 clear hl
 rw[hn] at P HA ⊢
 have HP:=lh P
 have HSP:=lh SP
 clear ha hm hn hf h2 hd P SP hrow hq' hqn
 have L:=Lay.start w
 go_in
 go_wp2_with (first|(go_at_call 44;(with_reducible refine (HK.out _ _ (HA.out.below L.bel)).mono ?_);rintro ee wz ⟨v1,rfl,ho1,hb1⟩;obtain⟨g,capg,curg,rfl,R,L'⟩:=Lay.mem HN.out L ho1 hb1;replace L:=L';clear L' hb1 ho1)|(go_at_call 45;(with_reducible refine (HSP.out _ _ (HA.out.below L.bel)).mono ?_);rintro ee wz ⟨v1,rfl,ho1,hb1⟩;obtain⟨g2,capg2,curg2,rfl,R2,L'⟩:=Lay.mem HN2.out L ho1 hb1;replace L:=L';clear L' hb1 ho1)|(refine YL ?_)|((first|refine Yt (dkL ⟨bl,b,f,3,1,ob,q,od⟩) ?_|refine Yt (dkL ⟨bl,b,f,2,1,ob,q,od⟩) ?_|refine Yt (dkL ⟨bl,b,f,2,0,ob,q,od⟩) ?_|refine Yt (dkL ⟨bl,b,f,2,0,0,q,od⟩) ?_|refine Yt (dkL ⟨bl,b,f,2,0,0,0,od⟩) ?_|refine Yt (dkL ⟨bl,b,f,2,0,0,0,⟨#[]⟩⟩) ?_|refine YS ?_);clear L;intro wz L))
 exact Xz120
theorem comp_rd (ha:MemRow w va xs) (hm:MemOk xs) (hf:W32 of) (h2:isPage xs of=true) (hd:D.size≠128):Calls Tryz.prog 130 #[.agg (dkL ⟨bl,b,f,1,1,ob,of,od⟩).toArray,va,.agg (evL ⟨4,1,D⟩).toArray] w (AD (fun u=>.tuple #[.agg (dkL ⟨bl,b,f,1,1,ob,of,od⟩).toArray,u,.bool false]) xs w):=by
 have HA:=lh ha
 have h0:=hm.p
 have HK:=lh (fun v w h=>At v xs w h (by have:=hm.q;omega))
 obtain⟨n,hn⟩:∃ n,xs.length=n:=⟨_,rfl⟩
 have HN:=lh hn
 obtain⟨B,off,cap,rfl,_,_,_,hrow⟩:=ha.open
 have P:=fun w=>DR (some ⟨B,off,none⟩) xs cap of w hm hf.1 hf.2
 rw[h2] at P
 have hq':=of_decide_eq_true h2
 obtain⟨q,rfl⟩:∃ q:Nat,of=q:=⟨of.toNat,by have:=hf.1;omega⟩
 have hqn:q<AO xs.length:=by rw[←Int.ofNat_lt,←Bv];exact hq'
 have h64:wrap64 (q:Int)=q:=by have:=hf.2;unfold wrap64;omega
 have HN2:=HN
 have SP:=fun w v h=>setPage_len v xs q D w h hqn hd
 rw[hn] at P HA ⊢
 have HP:=lh P
 have HSP:=lh SP
 clear ha hm hn hf h2 hd P SP hrow hq' hqn
 have L:=Lay.start w
 go_in
 go_wp2_with (first|(go_at_call 44;(with_reducible refine (HK.out _ _ (HA.out.below L.bel)).mono ?_);rintro ee wz ⟨v1,rfl,ho1,hb1⟩;obtain⟨g,capg,curg,rfl,R,L'⟩:=Lay.mem HN.out L ho1 hb1;replace L:=L';clear L' hb1 ho1)|(go_at_call 45;(with_reducible refine (HSP.out _ _ (HA.out.below L.bel)).mono ?_);rintro ee wz ⟨v1,rfl,ho1,hb1⟩;obtain⟨g2,capg2,curg2,rfl,R2,L'⟩:=Lay.mem HN2.out L ho1 hb1;replace L:=L';clear L' hb1 ho1)|(refine YL ?_)|(refine YS ?_;clear L;intro wz L))
 exact Xz120
end
theorem dkComp_lit (bl b f s cmd ob of:Int) (od:ByteArray) (e:Ev):AS ⟨bl,b,f,s,cmd,ob,of,od⟩ xs e=if s≠1∨e.k≠4∨1<e.n then (⟨bl,b,f,s,cmd,ob,of,od⟩,xs,false)
    else if e.n=1∧cmd=1 then (if e.d.size=128∧isPage xs of=true then (⟨bl,b,f,if e.n=1 then 2 else 3,0,0,0,⟨#[]⟩⟩,A0 xs of e.d,true) else (⟨bl,b,f,s,cmd,ob,of,od⟩,xs,false))
    else if e.d.size=0 then (⟨bl,b,f,if e.n=1 then 2 else 3,0,0,0,⟨#[]⟩⟩,xs,true) else (⟨bl,b,f,s,cmd,ob,of,od⟩,xs,false):=rfl
theorem FT {D:ByteArray} (h:D.size=0):D=⟨#[]⟩:=by
 apply ByteArray.ext
 exact Array.size_eq_zero_iff.1 h
theorem dkcomp_any (ha:MemRow w va xs) (hm:MemOk xs) (hd:DkOk d (Ao xs)) (hk:e.k=4) (hn:0≤e.n):Calls Tryz.prog 130 #[.agg (dkL d).toArray,va,.agg (evL e).toArray] w (AD (fun u=>.tuple #[.agg (dkL (AS d xs e).1).toArray,u,.bool (AS d xs e).2.2]) (AS d xs e).2.1 w):=by
 obtain⟨bl,b,f,s,cmd,ob,of,od⟩:=d
 rw[dkComp_lit]
 by_cases h:s≠1∨1<e.n
 · rw[if_pos (h.elim .inl fun h=>.inr (.inr h))]
   exact comp_refuse ha hm hk h
 · rw[if_neg (fun h'=>h (h'.elim .inl fun h'=>h'.elim (fun h'=>absurd hk h') .inr))]
   obtain⟨_,_,h3,h4,h5⟩:=hd.busy (Classical.byContradiction fun h'=>h (.inl h'))
   have hs:s=1:=Classical.byContradiction fun h'=>h (.inl h')
   subst hs
   dsimp only at h3 h4 h5
   obtain⟨k,n,D⟩:=e
   dsimp only at hk hn h ⊢
   subst hk
   have hp:=hm.pages
   have hpg:isPage xs of=true:=decide_eq_true h4
   have hof:W32 of:=⟨h3,by omega⟩
   obtain rfl|rfl:n=0∨n=1:=by omega
   · rw[if_neg (fun h=>absurd h.1 (by decide)),if_neg (by decide:¬(0:Int)=1)]
     by_cases hD:D.size=0
     · rw[if_pos hD]
       obtain rfl:=FT hD
       exact comp_e ha hm
     · rw[if_neg hD]
       exact comp_ed ha hm hD
   · rcases h5 with ⟨rfl,_⟩|⟨rfl,_⟩
     · rw[if_pos ⟨rfl,rfl⟩]
       by_cases hD:D.size=128
       · rw[if_pos ⟨hD,hpg⟩]
         have C:=comp_r (bl:=bl) (b:=b) (f:=f) (ob:=ob) (od:=od) ha hm hof hpg hD
         generalize A0 xs of D=ys at C ⊢
         dsimp only
         rw[if_pos (rfl:(1:Int)=1)]
         exact C
       · rw[if_neg (fun h=>hD h.1)]
         exact comp_rd ha hm hof hpg hD
     · rw[if_neg (fun h=>absurd h.2 (by decide))]
       by_cases hD:D.size=0
       · rw[if_pos hD]
         obtain rfl:=FT hD
         dsimp only
         rw[if_pos (rfl:(1:Int)=1)]
         exact comp_w ha hm
       · rw[if_neg hD]
         exact comp_wd ha hm hD
end
end Go.Proofs.YtnmpfmapncicmaaGreat
