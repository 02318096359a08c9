/-
  Texts joined: TpNc2. No law is proved here.
-/
import Derived.Test.YtnmpfmapncicmaaGreatB10
namespace Go.Proofs.YtnmpfmapncicmaaGreat
set_option linter.all false
set_option maxRecDepth 100000
set_option maxHeartbeats 40000000
open Go.RowKit
def RetNc (w:World) (r:Nc×List Ou) (e:Ending) (w':World):Prop:=∃ v,e=.returned (.tuple #[.agg (ncL r.1).toArray,v])∧OutRow w.heap.size w' v r.2∧Below w.heap.size w w'
section
variable {c:Nc} {va:Value} {xs:List Int} {port v:Int} {p:Nat} {w:World}
theorem ncOut_send (h:Fz c xs=true):Cf c xs 9 1 p=(c,[sendO c xs p]):=by
 unfold Fz at h
 rw[Bool.and_eq_true,Bool.and_eq_true] at h
 obtain⟨⟨h1,h2⟩,h3⟩:=h
 unfold Cf
 rw[if_neg (by decide),if_neg (by decide),if_pos ⟨rfl,rfl⟩,if_pos ⟨of_decide_eq_true h1,of_decide_eq_true h2,h3⟩];rfl
theorem ncOut_mute (h:Fz c xs=false):Cf c xs 9 1 p=(c,[]):=by
 unfold Cf
 rw[if_neg (by decide),if_neg (by decide),if_pos ⟨rfl,rfl⟩,if_neg]
 rintro⟨h1,h2,h3⟩
 unfold Fz at h
 rw[decide_eq_true h1,decide_eq_true h2,h3] at h
 cases h
theorem ncout_send (ha:MemRow w va xs) (hm:MemOk xs) (hf:W32 c.f):Calls Tryz.prog 105 #[.agg (ncL c).toArray,va,.int .i64 9,.int .u32 1,.int .u64 p] w (RetNc w (Cf c xs 9 1 p)):=by
 have HA:=lh ha
 cases h:Fz c xs with
 | false =>
   rw[ncOut_mute h]
   have HS:=lh (fun w hw=>send_no (c:=c) (va:=va) (p:=p) (w:=w) hw hm hf h)
   clear ha hm hf h
   have L:=Lay.start w
   go_in
   go_wp2_with (refine YS ?_;clear L;intro wz L)
   refine Yh [1] ?_;clear L;intro hHeld L
   refine YT ?_
   refine zor 4 ?_;intro K hK
   go_simp
   with_reducible refine (HS.out _ (HA.out.below L.bel)).mono ?_
   rintro e wz ⟨rfl,hbz⟩
   replace L:=L.below hbz
   clear hbz
   go_simp
   refine hK.out _ _ (L.kept [1] rfl) ?_;clear hHeld hK K;intro hHeld
   (try simp only[q1,q2,q3,Act.put,q4,s0,s1])
   refine YW 5 [1] (ncL c) ?_;clear L hHeld;intro wz L hHeld
   refine YT ?_
   refine YD ?_
   clear hHeld
   go_wp2_with fail
   exact Yr2 ⟨_,rfl,OutRow.nil _ _,L.bel⟩
 | true =>
   rw[ncOut_send h]
   have HS:=lh (fun w hw=>send_yes (c:=c) (va:=va) (p:=p) (w:=w) hw hm hf h)
   generalize sendO c xs p=o at *
   clear ha hm hf h
   have L:=Lay.start w
   go_in
   go_wp2_with (refine YS ?_;clear L;intro wz L)
   refine Yh [1] ?_;clear L;intro hHeld L
   refine YT ?_
   refine zor 4 ?_;intro K hK
   go_simp
   refine (HS.out _ (HA.out.below L.bel)).mono ?_
   rintro ee wz ⟨v1,rfl,ho1,hb1⟩
   obtain⟨g,cap1,cur,rfl,R,L'⟩:=L.row ho1 (by decide) hb1
   replace L:=L'
   clear L' hb1 ho1
   go_simp
   refine hK.out _ _ (L.kept [2] rfl) ?_;clear hHeld hK K;intro hHeld
   (try simp only[q1,q2,q3,Act.put,q4,s0,s1])
   refine YW 5 [2] (ncL c) ?_;clear L hHeld;intro wz L hHeld
   refine YT ?_
   refine YD ?_
   clear hHeld
   go_wp2_with fail
   refine Yr2 ⟨_,rfl,?_,L.bel⟩
   have:=R.owns L (k:=0) rfl
   exact this
theorem Xz77 {P:Prop} (h:P:=by
  subst h5
  unfold Cf
  rw[if_neg (by decide),if_pos rfl]
  have L:=Lay.start w
  go_in
  go_wp2_with (first|(refine YL ?_)|((first|refine Yt (ncL { c with l:=v }) ?_|refine YS ?_);clear L;intro wz L))
  exact Yr2 ⟨_,rfl,OutRow.nil _ _,L.bel⟩):P:=h
theorem Xz87 {P:Prop} (h:P:=by
  subst h4
  unfold Cf
  rw[if_pos rfl]
  have L:=Lay.start w
  go_in
  go_wp2_with (first|(refine YL ?_)|((first|refine Yt (ncL { c with f:=v }) ?_|refine YS ?_);clear L;intro wz L))
  exact Yr2 ⟨_,rfl,OutRow.nil _ _,L.bel⟩):P:=h
theorem ncout_any (ha:MemRow w va xs) (hm:MemOk xs) (hf:W32 c.f):Calls Tryz.prog 105 #[.agg (ncL c).toArray,va,.int .i64 port,.int .u32 v,.int .u64 p] w (RetNc w (Cf c xs port v p)):=by
 by_cases h4:port=7
 · exact Xz87
 by_cases h5:port=8
 · exact Xz77
 by_cases h6:port=9
 · subst h6
   by_cases h1:v=1
   · subst h1;exact ncout_send ha hm hf
   unfold Cf
   rw[if_neg (by decide),if_neg (by decide),if_neg (fun h=>h1 h.2)]
   obtain⟨B,off,cap,rfl,_,_,_,hrow⟩:=ha.open
   have P:=fun w=>EM (some ⟨B,off,none⟩) xs cap c.f w hm hf.1 hf.2
   obtain⟨n,hn⟩:∃ n,xs.length=n:=⟨_,rfl⟩
   rw[hn] at P ⊢
   clear hrow ha hm hn hf
   by_cases h2:v=2
   · subst h2
     by_cases hq:isPage xs c.f=true∧c.p=false∧c.r=false
     · rw[if_pos ⟨rfl,rfl,hq⟩]
       obtain⟨f,l,pp,b,r,g⟩:=c
       dsimp only at hq P ⊢
       obtain⟨q1,rfl,rfl⟩:=hq
       rw[q1] at P
       have HP:=lh P
       clear P q1 h1
       have L:=Lay.start w
       go_in
       go_wp2_with (first|(refine YL ?_)|((first|refine Yt (ncL ⟨f,l,true,b,false,g⟩) ?_|refine Yt (ncL ⟨f,l,true,f,false,g⟩) ?_|refine YS ?_);clear L;intro wz L))
       exact Yr2 ⟨_,rfl,OutRow.nil _ _,L.bel⟩
     · rw[if_neg (fun h=>hq h.2.2),if_neg (fun h=>absurd h.2 (by decide))]
       obtain⟨f,l,pp,b,r,g⟩:=c
       dsimp only at hq P ⊢
       cases hi:isPage xs f with
       | false =>
         rw[hi] at P
         have HP:=lh P
         clear P hi hq h1
         exact Xz27
       | true =>
         rw[hi] at P
         have HP:=lh P
         clear P h1
         cases pp <;> cases r
         · exact absurd ⟨hi,rfl,rfl⟩ hq
         all_goals
          clear hi hq
          exact Xz27
   · rw[if_neg (fun h=>h2 h.2.1)]
     by_cases h0:v=0
     · subst h0
       rw[if_pos ⟨rfl,rfl⟩]
       clear P h1 h2
       have L:=Lay.start w
       go_in
       go_wp2_with (first|(refine YL ?_)|((first|refine Yt (ncL { c with r:=false }) ?_|refine Yt (ncL { c with r:=false,g:=0 }) ?_|refine YS ?_);clear L;intro wz L))
       exact Yr2 ⟨_,rfl,OutRow.nil _ _,L.bel⟩
     · rw[if_neg (fun h=>h0 h.2)]
       have n1:(v == 1)=false:=by simpa using h1
       have n2:(v == 2)=false:=by simpa using h2
       have n0:(v == 0)=false:=by simpa using h0
       clear h1 h2 h0 P
       exact Xz27
 · unfold Cf
   rw[if_neg h4,if_neg h5,if_neg (fun h=>h6 h.1),if_neg (fun h=>h6 h.1),if_neg (fun h=>h6 h.1)]
   have n4:(port == 7)=false:=by simpa using h4
   have n5:(port == 8)=false:=by simpa using h5
   have n6:(port == 9)=false:=by simpa using h6
   clear h4 h5 h6
   exact Xz27
end
end Go.Proofs.YtnmpfmapncicmaaGreat
