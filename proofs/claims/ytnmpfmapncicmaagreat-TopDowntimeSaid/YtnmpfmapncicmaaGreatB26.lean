/-
  Texts joined: TpRy. No law is proved here.
-/
import Derived.Test.YtnmpfmapncicmaaGreatB22
namespace Go.Proofs.YtnmpfmapncicmaaGreat
set_option linter.all false
set_option maxRecDepth 100000
set_option maxHeartbeats 40000000
open Go.RowKit
section
variable {c:Nc} {va:Value} {xs:List Int} {port v:Int} {p:Nat} {w:World}
theorem Xz12 {P:Prop} (h:P:=by
  have L:=Lay.start w
  go_in
  go_wp2_with (first|(go_skip;first|(go_step;go_big_op)|skip)|(refine YL ?_)|(refine YS ?_;clear L;intro wz L))
  exact Yr2 ⟨_,rfl,OutRow.nil _ _,L.bel⟩):P:=h
theorem rncout_send (ha:MemRow w va xs) (hm:MemOk xs) (hf:W32 c.f):Calls Tryz.prog 204 #[.agg (ncL c).toArray,va,.int .i64 9,.int .u32 1,.int .u64 p] w (RetNc w (Cf c xs 9 1 p)):=by
 have HROW:=lh ha
 obtain⟨B,off,cap,rfl,_,_,_,hrow⟩:=ha.open
 have P:=fun w=>B8 (some ⟨B,off,none⟩) xs xs.length cap c.f w rfl hm hf.1 hf.2
 cases h:Fz c xs with
 | false =>
   rw[ncOut_mute h]
   unfold Fz at h
   obtain⟨f,l,pp,b,r,g⟩:=c
   dsimp only at h P hf ⊢
   obtain⟨n,hn⟩:∃ n,xs.length=n:=⟨_,rfl⟩
   rw[hn] at P ⊢
   by_cases h1:1≤l
   · have d1:decide (1≤l)=true:=decide_eq_true (by omega)
     by_cases h2:l≤128
     have d2:decide (l≤128)=true:=decide_eq_true (by omega)
     rw[d1,d2] at h
     have hp:isPage xs f=false:=by simpa using h
     rw[hp] at P
     have HP:=lh P
     clear P hp h h1 h2 hrow ha hm hn hf HROW
     rotate_left
     have d2:decide (l≤128)=false:=decide_eq_false (by omega)
     have HP:=lh P
     clear P h h1 h2 hrow ha hm hn hf HROW
     rotate_left
     all_goals
      exact Xz12
   · have d1:decide (1≤l)=false:=decide_eq_false (by omega)
     have HP:=lh P
     clear P h h1 hrow ha hm hn hf HROW
     exact Xz12
 | true =>
   rw[ncOut_send h]
   unfold Fz at h
   obtain⟨f,l,pp,b,r,g⟩:=c
   unfold sendO
   dsimp only at h P hf ⊢
   rw[Bool.and_eq_true,Bool.and_eq_true] at h
   obtain⟨⟨h1,h2⟩,h3⟩:=h
   have h1:=of_decide_eq_true h1
   have h2:=of_decide_eq_true h2
   have d1:decide (1≤l)=true:=decide_eq_true h1
   have d2:decide (l≤128)=true:=decide_eq_true h2
   have hq':=of_decide_eq_true h3
   rw[h3] at P
   obtain⟨q,rfl⟩:∃ q:Nat,f=q:=⟨f.toNat,by have:=hf.1;omega⟩
   have hqn:q<AO xs.length:=by rw[←Int.ofNat_lt,←Bv];exact hq'
   have hPG:=fun w h=>rpage_any (.slice (some ⟨B,off,none⟩) xs.length cap) xs q w h hm hqn
   have hss:=Da (xs:=xs) (k:=q) (BQ hqn).1
   have h64:wrap64 (q:Int)=q:=by have:=hf.2;unfold wrap64;omega
   obtain⟨S,hS⟩:∃ s,Bh xs q=s:=⟨_,rfl⟩
   rw[hS] at hPG hss ⊢
   obtain⟨l',rfl⟩:∃ l':Nat,l=l':=⟨l.toNat,by omega⟩
   rw[Int.toNat_natCast]
   obtain⟨n,hn⟩:∃ n,xs.length=n:=⟨_,rfl⟩
   rw[hn] at P hPG HROW ⊢
   have HPG:=lh hPG
   have HP:=lh P
   have hl128:l'≤S.size:=by omega
   have hl129:l'≤128:=by omega
   obtain⟨D,hD⟩:∃ d,S.extract 0 l'=d:=⟨_,rfl⟩
   have HD:=lh hD
   rw[hD]
   have HSS:=lh hss
   clear P hrow ha hm hn h3 hPG hS hq' hf hqn h1 h2 hD hss
   have L:=Lay.start w
   go_in
   go_wp2_with (first|(go_skip;first|(go_step;go_big_op)|skip)|(refine YL ?_)|((first|(go_at_call 255;(with_reducible refine zcl L (HPG.out _ (HROW.out.below L.bel)) ?_))|refine YS ?_);clear L;intro wz L))
   refine Yh [1] ?_;clear L;intro hHeld L
   refine YT ?_
   rw[show S.extract 0 l'=D from HD.out]
   refine YT ?_
   refine wpAnyH_ready (rs:=[7,8]) (by kernel_rfl) (by simp) ?_
   refine AllReadyH.cons rfl (fun K hK=>?_) (AllReadyH.cons rfl (fun K hK=>?_) AllReadyH.nil)
   refine Ae (by rfl) (DP L ⟨2,p,0,D⟩ rfl rfl ?_)
   intro wz Lz Nz
   clear Nz
   replace L:=Lz
   clear Lz
   refine hK.out _ _ (L.kept [2] rfl) ?_;clear hHeld hK K;intro hHeld
   (try simp only[q1,q2,q3,Act.put,q4,s0,s1])
   refine YW 8 [2] (ncL ⟨q,l',pp,b,r,g⟩) ?_;clear L hHeld;intro wz L hHeld
   rotate_left
   refine Ae (by rfl) (Am (ty:=38) L 0 rfl (ncL ⟨q,l',pp,b,r,g⟩) (ncL ⟨q,l',pp,b,r,g⟩) rfl rfl rfl B7 (JC _) rfl rfl ?_)
   intro wz Lz Nz
   clear Nz
   replace L:=Lz
   clear Lz
   simp only[s0,s1] at L
   refine hK.out _ _ (L.kept [1] rfl) ?_;clear hHeld hK K;intro hHeld
   (try simp only[q1,q2,q3,Act.put,q4,s0,s1])
   refine zor 7 ?_;intro K hK
   refine Ae (by rfl) (DP L ⟨2,p,0,D⟩ rfl rfl ?_)
   intro wz Lz Nz
   clear Nz
   replace L:=Lz
   clear Lz
   refine hK.out _ _ (L.kept [2] rfl) ?_;clear hHeld hK K;intro hHeld
   (try simp only[q1,q2,q3,Act.put,q4,s0,s1])
   all_goals
    refine YT ?_
    refine YD ?_
    clear hHeld
    go_wp2_with fail
    exact Yr2 ⟨_,rfl,L.out1 (k:=0) rfl,L.bel⟩
theorem rncout_any (ha:MemRow w va xs) (hm:MemOk xs) (hf:W32 c.f):Calls Tryz.prog 204 #[.agg (ncL c).toArray,va,.int .i64 port,.int .u32 v,.int .u64 p] w (RetNc w (Cf c xs port v p)):=by
 by_cases h4:port=7
 · exact Xz87
 by_cases h5:port=8
 · exact Xz77
 by_cases h6:port=9
 · subst h6
   by_cases h1:v=1
   · subst h1;exact rncout_send ha hm hf
   unfold Cf
   rw[if_neg (by decide),if_neg (by decide),if_neg (fun h=>h1 h.2)]
   obtain⟨B,off,cap,rfl,_,_,_,hrow⟩:=ha.open
   have P:=fun w=>B8 (some ⟨B,off,none⟩) xs xs.length cap c.f w rfl hm hf.1 hf.2
   obtain⟨n,hn⟩:∃ n,xs.length=n:=⟨_,rfl⟩
   rw[hn] at P ⊢
   clear hrow ha hm hn hf
   by_cases h2:v=2
   · subst h2
     by_cases hq:isPage xs c.f=true∧c.p=false∧c.r=false
     · rw[if_pos ⟨rfl,rfl,hq⟩]
       obtain⟨f,l,pp,b,r,g⟩:=c
       dsimp only at hq P ⊢
       obtain⟨q1,rfl,rfl⟩:=hq
       rw[q1] at P
       have HP:=lh P
       clear P q1 h1
       have L:=Lay.start w
       go_in
       go_wp2_with (first|(go_skip;first|(go_step;go_big_op)|skip)|(refine YL ?_)|((first|refine Yt (ncL ⟨f,l,true,b,false,g⟩) ?_|refine Yt (ncL ⟨f,l,true,f,false,g⟩) ?_|refine YS ?_);clear L;intro wz L))
       exact Yr2 ⟨_,rfl,OutRow.nil _ _,L.bel⟩
     · rw[if_neg (fun h=>hq h.2.2),if_neg (fun h=>absurd h.2 (by decide))]
       obtain⟨f,l,pp,b,r,g⟩:=c
       dsimp only at hq P ⊢
       cases hi:isPage xs f with
       | false =>
         rw[hi] at P
         have HP:=lh P
         clear P hi hq h1
         exact Xz12
       | true =>
         rw[hi] at P
         have HP:=lh P
         clear P h1
         cases pp <;> cases r
         · exact absurd ⟨hi,rfl,rfl⟩ hq
         all_goals
          clear hi hq
          exact Xz12
   · rw[if_neg (fun h=>h2 h.2.1)]
     by_cases h0:v=0
     · subst h0
       rw[if_pos ⟨rfl,rfl⟩]
       clear P h1 h2
       have L:=Lay.start w
       go_in
       go_wp2_with (first|(go_skip;first|(go_step;go_big_op)|skip)|(refine YL ?_)|((first|refine Yt (ncL { c with r:=false }) ?_|refine Yt (ncL { c with r:=false,g:=0 }) ?_|refine YS ?_);clear L;intro wz L))
       exact Yr2 ⟨_,rfl,OutRow.nil _ _,L.bel⟩
     · rw[if_neg (fun h=>h0 h.2)]
       have n1:(v == 1)=false:=by simpa using h1
       have n2:(v == 2)=false:=by simpa using h2
       have n0:(v == 0)=false:=by simpa using h0
       clear h1 h2 h0 P
       exact Xz12
 · unfold Cf
   rw[if_neg h4,if_neg h5,if_neg (fun h=>h6 h.1),if_neg (fun h=>h6 h.1),if_neg (fun h=>h6 h.1)]
   have n4:(port == 7)=false:=by simpa using h4
   have n5:(port == 8)=false:=by simpa using h5
   have n6:(port == 9)=false:=by simpa using h6
   clear h4 h5 h6
   exact Xz12
end
end Go.Proofs.YtnmpfmapncicmaaGreat
