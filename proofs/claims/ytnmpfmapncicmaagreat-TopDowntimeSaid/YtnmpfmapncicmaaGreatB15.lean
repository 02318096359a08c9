/-
  Texts joined: TpNc3. No law is proved here.
-/
import Derived.Test.YtnmpfmapncicmaaGreatB13
import Derived.Test.YtnmpfmapncicmaaGreatB14
namespace Go.Proofs.YtnmpfmapncicmaaGreat
set_option linter.all false
set_option maxRecDepth 100000
set_option maxHeartbeats 40000000
open Go.RowKit
section
variable {c:Nc} {va:Value} {xs:List Int} {D:ByteArray} {w:World}
theorem recv_no (ha:MemRow w va xs) (hm:MemOk xs) (h:c.p=false∨D.size<1∨128<D.size):Calls Tryz.prog 131 #[.agg (ncL c).toArray,va,.string D] w (AD (fun u=>.tuple #[.agg (ncL c).toArray,u,.bool false]) xs w):=by
 have HA:=lh ha
 have h0:=hm.p
 have HK:=lh (fun v w h=>At v xs w h (by have:=hm.q;omega))
 obtain⟨n,hn⟩:∃ n,xs.length=n:=⟨_,rfl⟩
 have HN:=lh hn
 clear ha hm hn
 obtain⟨f,l,p,b,r,g⟩:=c
 dsimp only at h
 cases p
 · clear h
   have L:=Lay.start w
   go_in
   go_wp2_with (first|(refine YL ?_)|(refine YS ?_;clear L;intro wz L))
   refine Yh [1] ?_;clear L;intro hHeld L
   refine YT ?_
   refine zor 2 ?_;intro K hK
   go_simp
   refine (HK.out _ _ (HA.out.below L.bel)).mono ?_
   rintro ee wz ⟨v1,rfl,ho1,hb1⟩
   obtain⟨g1,cap1,cur,rfl,R,L'⟩:=Lay.mem HN.out L ho1 hb1
   replace L:=L'
   clear L' hb1 ho1
   go_simp
   refine hK.out _ _ (L.kept [2] rfl) ?_;clear hHeld hK K;intro hHeld
   (try simp only[q1,q2,q3,Act.put,q4,s0,s1])
   refine YW 3 [2] (ncL ⟨f,l,false,b,r,g⟩) ?_;clear L hHeld;intro wz L hHeld
   exact Xz62
 · by_cases h1:D.size<1
   have d1:decide ((D.size:Int)<1)=true:=decide_eq_true (by omega)
   clear h h1
   rotate_left
   have h2:128<D.size:=by
     rcases h with h|h|h
     · cases h
     · exact absurd h h1
     · exact h
   have d1:decide ((D.size:Int)<1)=false:=decide_eq_false (by omega)
   have d2:decide (128<(D.size:Int))=true:=decide_eq_true (by omega)
   clear h h1 h2
   rotate_left
   all_goals
    have L:=Lay.start w
    go_in
    go_wp2_with (first|(refine YL ?_)|(refine YS ?_;clear L;intro wz L))
    refine Yh [1] ?_;clear L;intro hHeld L
    refine YT ?_
    refine zor 2 ?_;intro K hK
    go_simp
    refine (HK.out _ _ (HA.out.below L.bel)).mono ?_
    rintro ee wz ⟨v1,rfl,ho1,hb1⟩
    obtain⟨g1,cap1,cur,rfl,R,L'⟩:=Lay.mem HN.out L ho1 hb1
    replace L:=L'
    clear L' hb1 ho1
    go_simp
    refine hK.out _ _ (L.kept [2] rfl) ?_;clear hHeld hK K;intro hHeld
    (try simp only[q1,q2,q3,Act.put,q4,s0,s1])
    refine YW 3 [2] (ncL ⟨f,l,true,b,r,g⟩) ?_;clear L hHeld;intro wz L hHeld
    exact Xz62
theorem recv_yes {q:Nat} {f l g:Int} {r:Bool} (ha:MemRow w va xs) (hm:MemOk xs) (hq:q<AO xs.length) (h1:1≤D.size) (h2:D.size≤128) :
    Calls Tryz.prog 131 #[.agg (ncL ⟨f,l,true,q,r,g⟩).toArray,va,.string D] w (AD (fun u=>.tuple #[.agg (ncL ⟨f,l,false,0,true,D.size⟩).toArray,u,.bool true]) (A0 xs q (D++(Bh xs q).extract D.size 128)) w):=by
 have HA:=lh ha
 have h0:=hm.p
 have HK:=lh (fun v w h=>At v xs w h (by have:=hm.q;omega))
 obtain⟨n,hn⟩:∃ n,xs.length=n:=⟨_,rfl⟩
 have HN:=lh hn
 obtain⟨B,off,cap,rfl,_,_,_,hrow⟩:=ha.open
 have hq32:=Hx xs.length
 have P:=fun w=>EM (some ⟨B,off,none⟩) xs cap q w hm (by omega) (by omega)
 rw[show isPage xs q=true from decide_eq_true (by rw[Bv];omega)] at P
 have hPG:=fun w h=>Gm (.slice (some ⟨B,off,none⟩) xs.length cap) xs q w h hm.w hq
 have hss:=Da (xs:=xs) (k:=q) (BQ hq).1
 have h64:wrap64 (q:Int)=q:=by unfold wrap64;omega
 obtain⟨S,hS⟩:∃ s,Bh xs q=s:=⟨_,rfl⟩
 rw[hS] at hPG hss ⊢
 have SP:=fun w v h=>FI v xs q (D++S.extract D.size 128) w h hq (by rw[ByteArray.size_append,ByteArray.size_extract];omega)
 have hl:(A0 xs q (D++S.extract D.size 128)).length=n:=(C8 _ _ _ _).trans hn
 generalize A0 xs (q:Int) (D++S.extract D.size 128)=ys at *
 have HN2:=lh hl
 have HPG:=lh hPG
 rw[hn] at P HA HPG ⊢
 have HP:=lh P
 have HSP:=lh SP
 have d1:decide ((D.size:Int)<1)=false:=decide_eq_false (by omega)
 have d2:decide (128<(D.size:Int))=false:=decide_eq_false (by omega)
 have hw32:(D.size:Int) % 4294967296=D.size:=by omega
 have hle:(D.size:Int)≤128:=by omega
 have hwq:IntKind.i64.wrap (q:Int)=q:=by rw[IntKind.wrap_i64];omega
 clear ha hm hn hq P hPG SP hrow hl hS HK
 have L:=Lay.start w
 go_in
 go_wp2_with (first|(refine YL ?_)|((first|(go_at_call 43;(with_reducible refine zcl L (HPG.out _ (HA.out.below L.bel)) ?_))|refine YS ?_);clear L;intro wz L))
 refine Yh [1] ?_;clear L;intro hHeld L
 refine YT ?_
 refine zor 10 ?_;intro K hK
 go_simp
 with_reducible refine (HSP.out _ _ (HA.out.below L.bel)).mono ?_
 rintro ee wz ⟨v1,rfl,ho1,hb1⟩
 obtain⟨g2,cap2,cur2,rfl,R2,L'⟩:=Lay.mem HN2.out L ho1 hb1
 replace L:=L'
 clear L' hb1 ho1
 go_simp
 refine hK.out _ _ (L.kept [2] rfl) ?_;clear hHeld hK K;intro hHeld
 (try simp only[q1,q2,q3,Act.put,q4,s0,s1])
 refine YT ?_
 refine YD ?_
 clear hHeld
 go_wp2_with (first|(refine Yp (ncL ⟨f,l,false,0,true,D.size⟩) ?_)|((first|refine Yt (ncL ⟨f,l,false,q,r,g⟩) ?_|refine Yt (ncL ⟨f,l,false,0,r,g⟩) ?_|refine Yt (ncL ⟨f,l,false,0,true,g⟩) ?_|refine Yt (ncL ⟨f,l,false,0,true,D.size⟩) ?_|refine YS ?_);clear L;intro wz L))
 exact Yr3 ⟨_,rfl,RowBx.mem HN2.out R2 (by have h:=h0;rw[HN.out] at h;exact h) L (k:=0) rfl,L.bel⟩
theorem ncrecv_any (ha:MemRow w va xs) (hm:MemOk xs) (hc:NcOk c (Ao xs)):Calls Tryz.prog 131 #[.agg (ncL c).toArray,va,.string D] w (AD (fun u=>.tuple #[.agg (ncL (AR c xs D).1).toArray,u,.bool (AR c xs D).2.2]) (AR c xs D).2.1 w):=by
 unfold AR
 by_cases h:c.p=true∧1≤D.size∧D.size≤128∧isPage xs c.b=true
 · rw[if_pos h]
   obtain⟨h1,h2,h3,h4⟩:=h
   have hb:=hc.b
   obtain⟨f,l,p,b,r,g⟩:=c
   dsimp only at h1 h4 hb ⊢
   subst h1
   have h5:=of_decide_eq_true h4
   obtain⟨q,rfl⟩:∃ q:Nat,b=q:=⟨b.toNat,by omega⟩
   have C:=recv_yes (f:=f) (l:=l) (g:=g) (r:=r) (q:=q) ha hm (by rw[←Int.ofNat_lt,←Bv];exact h5) h2 h3
   generalize A0 xs (q:Int) _=ys at C ⊢
   exact C
 · rw[if_neg h]
   refine recv_no ha hm ?_
   cases hp:c.p with
   | false=>exact .inl rfl
   | true =>
     have h4:isPage xs c.b=true:=decide_eq_true (hc.b.2.1 hp)
     by_cases h2:1≤D.size
     · by_cases h3:D.size≤128
       · exact absurd ⟨hp,h2,h3,h4⟩ h
       · exact .inr (.inr (by omega))
     · exact .inr (.inl (by omega))
end
end Go.Proofs.YtnmpfmapncicmaaGreat
