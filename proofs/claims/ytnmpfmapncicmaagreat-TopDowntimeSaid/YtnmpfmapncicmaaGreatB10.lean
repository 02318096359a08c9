/-
  Texts joined: TpDk2 TpDk3 TpNc. No law is proved here.
-/
import Derived.Test.YtnmpfmapncicmaaGreatB8
namespace Go.Proofs.YtnmpfmapncicmaaGreat
set_option linter.all false
set_option maxRecDepth 100000
set_option maxHeartbeats 40000000
open Go.RowKit
def ER (w:World) (r:Dk×List Ou) (e:Ending) (w':World):Prop:=∃ v,e=.returned (.tuple #[.agg (dkL r.1).toArray,v])∧OutRow w.heap.size w' v r.2∧Below w.heap.size w w'
section
variable {d:Dk} {va:Value} {xs:List Int} {cmd:Int} {p:Nat} {w:World}
theorem Xz27 {P:Prop} (h:P:=by
  have L:=Lay.start w
  go_in
  go_wp2_with (first|(refine YL ?_)|(refine YS ?_;clear L;intro wz L))
  exact Yr2 ⟨_,rfl,OutRow.nil _ _,L.bel⟩):P:=h
theorem iss_busy (hs:d.s≠0):Calls Tryz.prog 173 #[.agg (dkL d).toArray,va,.int .i64 cmd,.int .u64 p] w (ER w (Ci d xs cmd p)):=by
 unfold Ci
 rw[if_pos hs]
 have h:(d.s != 0)=true:=by simpa using hs
 clear hs
 exact Xz27
theorem Xz91 {P:Prop} (h:P:=by
  have L:=Lay.start w
  go_in
  go_wp2_with (first|(refine YL ?_)|((first|refine Yt (dkL ⟨bl,b,f,3,cm,ob,of,od⟩) ?_|refine YS ?_);clear L;intro wz L))
  exact Yr2 ⟨_,rfl,OutRow.nil _ _,L.bel⟩):P:=h
theorem iss_bad (ha:MemRow w va xs) (hm:MemOk xs) (hs:d.s=0) (hf:W32 d.f) (h:d.bl≤d.b∨isPage xs d.f=false):Calls Tryz.prog 173 #[.agg (dkL d).toArray,va,.int .i64 cmd,.int .u64 p] w (ER w (Ci d xs cmd p)):=by
 unfold Ci
 rw[if_neg (by omega),if_pos h]
 obtain⟨bl,b,f,s,cm,ob,of,od⟩:=d
 dsimp only at hs h hf ⊢
 subst hs
 obtain⟨B,off,cap,rfl,_,_,_,hrow⟩:=ha.open
 have P:=fun w=>DR (some ⟨B,off,none⟩) xs cap f w hm hf.1 hf.2
 obtain⟨n,hn⟩:∃ n,xs.length=n:=⟨_,rfl⟩
 rw[hn] at P ⊢
 by_cases hb:bl≤b
 · have hq:decide (bl≤b)=true:=decide_eq_true hb
   clear h P hrow ha hm hn hb
   exact Xz91
 · have hq:decide (bl≤b)=false:=decide_eq_false hb
   have hp:isPage xs f=false:=h.resolve_left hb
   rw[hp] at P
   have HP:=lh P
   clear h P hrow ha hm hn hb hp
   exact Xz91
theorem Xz22 {P:Prop} (h:P:=by
  refine Yh [2,0] ?_;clear L;intro hHeld L
  refine YT ?_
  refine wpAnyH_ready (rs:=[2,3]) (by kernel_rfl) (by simp) ?_
  refine AllReadyH.cons rfl (fun K hK=>?_) (AllReadyH.cons rfl (fun K hK=>?_) AllReadyH.nil)
  refine Ae (by rfl) (DP L ⟨3,p,b,⟨#[]⟩⟩ rfl rfl ?_)
  intro wz Lz Nz
  clear Nz
  replace L:=Lz
  clear Lz
  refine hK.out _ _ (L.kept [3,1] rfl) ?_;clear hHeld hK K;intro hHeld
  (try simp only[q1,q2,q3,Act.put,q4,s0,s1])
  refine YW 3 [3,1] (dkL ⟨bl,b,f,1,1,b,f,⟨#[]⟩⟩) ?_;clear L hHeld;intro wz L hHeld
  rotate_left
  refine Ae (by rfl) (Am (ty:=36) L 1 rfl (dkL ⟨bl,b,f,1,1,b,f,⟨#[]⟩⟩) (dkL ⟨bl,b,f,1,1,b,f,⟨#[]⟩⟩) rfl rfl rfl Bk (Gu _) rfl rfl ?_)
  intro wz Lz Nz
  clear Nz
  replace L:=Lz
  clear Lz
  simp only[s0,s1] at L
  refine hK.out _ _ (L.kept [2,0] rfl) ?_;clear hHeld hK K;intro hHeld
  (try simp only[q1,q2,q3,Act.put,q4,s0,s1])
  refine zor 2 ?_;intro K hK
  refine Ae (by rfl) (DP L ⟨3,p,b,⟨#[]⟩⟩ rfl rfl ?_)
  intro wz Lz Nz
  clear Nz
  replace L:=Lz
  clear Lz
  refine hK.out _ _ (L.kept [3,1] rfl) ?_;clear hHeld hK K;intro hHeld
  (try simp only[q1,q2,q3,Act.put,q4,s0,s1])
  all_goals
   refine YT ?_
   refine YD ?_
   clear hHeld
   go_wp2_with fail
   exact Yr2 ⟨_,rfl,L.out1 (k:=0) rfl,L.bel⟩):P:=h
theorem iss_read (ha:MemRow w va xs) (hm:MemOk xs) (hs:d.s=0) (hf:W32 d.f) (h1:d.b<d.bl) (h2:isPage xs d.f=true) (hc:cmd=1):Calls Tryz.prog 173 #[.agg (dkL d).toArray,va,.int .i64 cmd,.int .u64 p] w (ER w (Ci d xs cmd p)):=by
 unfold Ci
 subst hc
 rw[if_neg (by omega),if_neg (fun h=>h.elim (fun h=>by omega) (fun h=>by rw[h2] at h;cases h)),if_neg (by decide)]
 obtain⟨bl,b,f,s,cm,ob,of,od⟩:=d
 dsimp only at hs h1 h2 hf ⊢
 subst hs
 obtain⟨B,off,cap,rfl,_,_,_,hrow⟩:=ha.open
 have P:=fun w=>DR (some ⟨B,off,none⟩) xs cap f w hm hf.1 hf.2
 have RQ:=fun w=>dkreq_any ⟨bl,b,f,1,1,b,f,⟨#[]⟩⟩ p w rfl (.inl rfl)
 rw[h2] at P
 obtain⟨n,hn⟩:∃ n,xs.length=n:=⟨_,rfl⟩
 rw[hn] at P ⊢
 have hq:decide (bl≤b)=false:=decide_eq_false (by omega)
 have HP:=lh P
 have HRQ:=lh (show ∀ w,Calls Tryz.prog 222 #[.agg (dkL ⟨bl,b,f,1,1,b,f,⟨#[]⟩⟩).toArray,.int .u64 p] w (Ret w (.tuple #[.agg (ouL ⟨3,p,b,⟨#[]⟩⟩).toArray,.bool true])) from RQ)
 clear P hrow ha hm hn h1 h2 RQ
 have L:=Lay.start w
 go_in
 go_wp2_with (first|(refine YL ?_)|((first|refine Yt (dkL ⟨bl,b,f,1,cm,ob,of,od⟩) ?_|refine Yt (dkL ⟨bl,b,f,1,1,ob,of,od⟩) ?_|refine Yt (dkL ⟨bl,b,f,1,1,b,of,od⟩) ?_|refine Yt (dkL ⟨bl,b,f,1,1,b,f,od⟩) ?_|refine Yt (dkL ⟨bl,b,f,1,1,b,f,⟨#[]⟩⟩) ?_|refine YS ?_);clear L;intro wz L))
 exact Xz22
theorem Xz24 {P:Prop} (h:P:=by
  refine Yh [2,0] ?_;clear L;intro hHeld L
  refine YT ?_
  refine wpAnyH_ready (rs:=[2,3]) (by kernel_rfl) (by simp) ?_
  refine AllReadyH.cons rfl (fun K hK=>?_) (AllReadyH.cons rfl (fun K hK=>?_) AllReadyH.nil)
  refine Ae (by rfl) (DP L ⟨4,p,b,S⟩ rfl rfl ?_)
  intro wz Lz Nz
  clear Nz
  replace L:=Lz
  clear Lz
  refine hK.out _ _ (L.kept [3,1] rfl) ?_;clear hHeld hK K;intro hHeld
  (try simp only[q1,q2,q3,Act.put,q4,s0,s1])
  refine YW 3 [3,1] (dkL ⟨bl,b,q,1,2,b,q,S⟩) ?_;clear L hHeld;intro wz L hHeld
  rotate_left
  refine Ae (by rfl) (Am (ty:=36) L 1 rfl (dkL ⟨bl,b,q,1,2,b,q,S⟩) (dkL ⟨bl,b,q,1,2,b,q,S⟩) rfl rfl rfl Bk (Gu _) rfl rfl ?_)
  intro wz Lz Nz
  clear Nz
  replace L:=Lz
  clear Lz
  simp only[s0,s1] at L
  refine hK.out _ _ (L.kept [2,0] rfl) ?_;clear hHeld hK K;intro hHeld
  (try simp only[q1,q2,q3,Act.put,q4,s0,s1])
  refine zor 2 ?_;intro K hK
  refine Ae (by rfl) (DP L ⟨4,p,b,S⟩ rfl rfl ?_)
  intro wz Lz Nz
  clear Nz
  replace L:=Lz
  clear Lz
  refine hK.out _ _ (L.kept [3,1] rfl) ?_;clear hHeld hK K;intro hHeld
  (try simp only[q1,q2,q3,Act.put,q4,s0,s1])
  all_goals
   refine YT ?_
   refine YD ?_
   clear hHeld
   go_wp2_with fail
   exact Yr2 ⟨_,rfl,L.out1 (k:=0) rfl,L.bel⟩):P:=h
theorem iss_write (ha:MemRow w va xs) (hm:MemOk xs) (hs:d.s=0) (hf:W32 d.f) (h1:d.b<d.bl) (h2:isPage xs d.f=true) (hc:cmd=2):Calls Tryz.prog 173 #[.agg (dkL d).toArray,va,.int .i64 cmd,.int .u64 p] w (ER w (Ci d xs cmd p)):=by
 unfold Ci
 subst hc
 rw[if_neg (by omega),if_neg (fun h=>h.elim (fun h=>by omega) (fun h=>by rw[h2] at h;cases h)),if_pos rfl]
 obtain⟨bl,b,f,s,cm,ob,of,od⟩:=d
 dsimp only at hs h1 h2 hf ⊢
 subst hs
 obtain⟨B,off,cap,rfl,_,_,_,hrow⟩:=ha.open
 have P:=fun w=>DR (some ⟨B,off,none⟩) xs cap f w hm hf.1 hf.2
 have hq':=of_decide_eq_true h2
 obtain⟨q,rfl⟩:∃ q:Nat,f=q:=⟨f.toNat,by have:=hf.1;omega⟩
 have hPG:=fun w h=>Gm (.slice (some ⟨B,off,none⟩) xs.length cap) xs q w h hm.w (by rw[←Int.ofNat_lt,←Bv];exact hq')
 obtain⟨S,hS⟩:∃ s,Bh xs q=s:=⟨_,rfl⟩
 rw[hS] at hPG ⊢
 have HROW:=lh hrow
 have h64:wrap64 (q:Int)=q:=by have:=hf.2;unfold wrap64;omega
 have RQ:=fun w=>dkreq_any ⟨bl,b,q,1,2,b,q,S⟩ p w rfl (.inr rfl)
 rw[h2] at P
 obtain⟨n,hn⟩:∃ n,xs.length=n:=⟨_,rfl⟩
 rw[hn] at P hPG HROW ⊢
 have HPG:=lh hPG
 have hq:decide (bl≤b)=false:=decide_eq_false (by omega)
 have HP:=lh P
 have HRQ:=lh (show ∀ w,Calls Tryz.prog 222 #[.agg (dkL ⟨bl,b,q,1,2,b,q,S⟩).toArray,.int .u64 p] w (Ret w (.tuple #[.agg (ouL ⟨4,p,b,S⟩).toArray,.bool true])) from RQ)
 clear P hrow ha hm hn h1 h2 RQ hPG hS hq' hf
 have L:=Lay.start w
 go_in
 go_wp2_with (first|(refine YL ?_)|((first|refine Yt (dkL ⟨bl,b,q,1,cm,ob,of,od⟩) ?_|refine Yt (dkL ⟨bl,b,q,1,2,ob,of,od⟩) ?_|refine Yt (dkL ⟨bl,b,q,1,2,b,of,od⟩) ?_|refine Yt (dkL ⟨bl,b,q,1,2,b,q,od⟩) ?_|refine Yt (dkL ⟨bl,b,q,1,2,b,q,⟨#[]⟩⟩) ?_|(go_at_call 43;(with_reducible refine zcl L (HPG.out _ (HROW.out.below L.bel)) ?_))|refine Yt (dkL ⟨bl,b,q,1,2,b,q,S⟩) ?_|refine YS ?_);clear L;intro wz L))
 exact Xz24
theorem dkissue_any (ha:MemRow w va xs) (hm:MemOk xs) (hf:W32 d.f) (hc:cmd=1∨cmd=2):Calls Tryz.prog 173 #[.agg (dkL d).toArray,va,.int .i64 cmd,.int .u64 p] w (ER w (Ci d xs cmd p)):=by
 by_cases hs:d.s=0
 · by_cases h:d.bl≤d.b∨isPage xs d.f=false
   · exact iss_bad ha hm hs hf h
   · have h1:d.b<d.bl:=Int.not_le.1 (fun h'=>h (.inl h'))
     have h2:isPage xs d.f=true:=by
      cases hq:isPage xs d.f with
      | true=>rfl
      | false=>exact absurd (.inr hq) h
     rcases hc with hc|hc
     · exact iss_read ha hm hs hf h1 h2 hc
     · exact iss_write ha hm hs hf h1 h2 hc
 · exact iss_busy hs
end
theorem Ai {base B size n:Nat} {w w':World} {v:Value} {xs:List Value} {e:TypeId} {cs:Array Value} {T:TypeId} (h:w.ownsRow base e size v n xs) (hB:HasBlock w B cs T) (hT:T≠e) (hn:But B w w'):w'.ownsRow base e size v n xs:=by
 obtain⟨h1,h2⟩:=h
 refine ⟨h1,?_⟩
 exact Xz69
theorem Ay {base base' size n:Nat} {w:World} {v:Value} {xs:List Value} {e:TypeId} (h:w.ownsRow base e size v n xs) (hb:base'≤base):w.ownsRow base' e size v n xs:=by
 obtain⟨h1,h2⟩:=h
 refine ⟨h1,?_⟩
 rcases h2 with h2|⟨g,cap,cur,e1,e2,e3⟩
 · exact .inl h2
 · exact .inr ⟨g,cap,cur,e1,Nat.le_trans hb e2,e3⟩
section
variable {d:Dk} {va:Value} {xs:List Int} {port v:Int} {p:Nat} {w:World}
theorem Xz93 {P:Prop} (h:P:=by
  have L:=Lay.start w
  go_in
  go_wp2_with (first|(refine YL ?_)|((first|refine Yt (dkL { d with b:=v }) ?_|refine YS ?_);clear L;intro wz L))
  exact Yr2 ⟨_,rfl,OutRow.nil _ _,L.bel⟩):P:=h
theorem Xz94 {P:Prop} (h:P:=by
  have L:=Lay.start w
  go_in
  go_wp2_with (first|(refine YL ?_)|((first|refine Yt (dkL { d with f:=v }) ?_|refine YS ?_);clear L;intro wz L))
  exact Yr2 ⟨_,rfl,OutRow.nil _ _,L.bel⟩):P:=h
theorem dkout_any (ha:MemRow w va xs) (hm:MemOk xs) (hf:W32 d.f) (hs:0≤d.s∧d.s≤3):Calls Tryz.prog 104 #[.agg (dkL d).toArray,va,.int .i64 port,.int .u32 v,.int .u64 p] w (ER w (CI d xs port v p)):=by
 unfold CI
 by_cases h4:port=4
 · rw[if_pos h4]
   subst h4
   exact Xz93
 rw[if_neg h4]
 by_cases h5:port=5
 · rw[if_pos h5]
   subst h5
   exact Xz94
 rw[if_neg h5]
 by_cases h6:port=6
 · subst h6
   by_cases hv:v=1∨v=2
   · rw[if_pos ⟨rfl,hv⟩]
     have IS:=fun w h=>dkissue_any (d:=d) (va:=va) (cmd:=v) (p:=p) (w:=w) h hm hf hv
     have HA:=lh ha
     have hr:∃ d' os,Ci d xs v p=(d',os):=⟨_,_,rfl⟩
     obtain⟨d',os,hr⟩:=hr
     rw[hr] at IS ⊢
     have HIS:=lh IS
     clear IS hr ha
     rcases hv with rfl|rfl
     all_goals
      have L:=Lay.start w
      go_in
      go_wp2_with (first|(refine YL ?_)|(refine YS ?_;clear L;intro wz L))
      refine (HIS.out _ (HA.out.below L.bel)).mono ?_
      rintro e w1 ⟨v1,rfl,ho1,hb1⟩
      have ho:=Ay ho1 L.bel.size
      replace L:=L.below hb1
      clear ho1 hb1
      dsimp only
      go_wp2_with (refine Ag (ty:=36) L 0 rfl (dkL d') (dkL d') rfl rfl rfl rfl Bk (Gu _) rfl rfl ?_;intro wz Lz Nz;replace ho:=Ai ho (L.at (k:=0) rfl) (by decide) Nz;clear Nz;replace L:=Lz;clear Lz;(try simp only[s0,s1] at L))
      exact Yr2 ⟨_,rfl,ho,L.bel⟩
   · rw[if_neg (fun h=>hv h.2)]
     by_cases h0:v=0
     · subst h0
       have PD:=fun w=>dkpend_any d w hs
       cases hp:EW d with
       | true =>
         rw[if_pos ⟨rfl,rfl,rfl⟩]
         rw[hp] at PD
         have HPD:=lh PD
         clear PD hp hv
         have L:=Lay.start w
         go_in
         go_wp2_with (first|(refine YL ?_)|((first|refine Yt (dkL { d with s:=0 }) ?_|refine YS ?_);clear L;intro wz L))
         exact Yr2 ⟨_,rfl,OutRow.nil _ _,L.bel⟩
       | false =>
         rw[if_neg (fun h=>by cases h.2.2)]
         rw[hp] at PD
         have HPD:=lh PD
         clear PD hp hv
         exact Xz27
     · rw[if_neg (fun h=>h0 h.2.1)]
       have n1:(v == 1)=false:=by rw[beq_eq_false_iff_ne];exact fun h=>hv (.inl h)
       have n2:(v == 2)=false:=by rw[beq_eq_false_iff_ne];exact fun h=>hv (.inr h)
       have n0:(v == 0)=false:=by rw[beq_eq_false_iff_ne];exact h0
       clear hv h0
       exact Xz27
 · rw[if_neg (fun h=>h6 h.1),if_neg (fun h=>h6 h.1)]
   have n4:(port == 4)=false:=by simpa using h4
   have n5:(port == 5)=false:=by simpa using h5
   have n6:(port == 6)=false:=by simpa using h6
   clear h4 h5 h6
   exact Xz27
end
theorem ncin_any (c:Nc) (port:Int) (w:World):Calls Tryz.prog 101 #[.agg (ncL c).toArray,.int .i64 port] w (Ret w (.int .u32 (F7 c port))):=by
 unfold F7
 by_cases h4:port=7
 · subst h4
   exact Xz8
 by_cases h5:port=8
 · subst h5
   exact Xz8
 by_cases h6:port=9
 · subst h6
   obtain⟨f,l,p,b,r,g⟩:=c
   cases p <;> cases r
   all_goals
    exact J6
 rw[if_neg h4,if_neg h5,if_neg h6]
 have n4:(port == 7)=false:=by simpa using h4
 have n5:(port == 8)=false:=by simpa using h5
 have n6:(port == 9)=false:=by simpa using h6
 clear h4 h5 h6
 exact Xz46
theorem ncpend_any (c:Nc) (w:World):Calls Tryz.prog 210 #[.agg (ncL c).toArray] w (Ret w (.bool c.r)):=by
 exact Xz8
theorem ncmay_any (c:Nc) (n:Nat) (w:World) (hc:NcOk c n) (hn:n≤32):Calls Tryz.prog 155 #[.agg (ncL c).toArray,.int .i64 n] w (Ret w (.bool true)):=by
 have h1:=hc.pr;have h2:=hc.b;have h3:=hc.g
 obtain⟨f,l,p,b,r,g⟩:=c
 dsimp only at h1 h2 h3
 clear hc
 cases p
 · obtain rfl:=h2.2.2 rfl
   cases r
   obtain rfl:=h3.2 rfl
   rotate_left
   have h4:=h3.1 rfl
   have hq:decide (1≤g)=true:=decide_eq_true h4.1
   have hq2:decide (g≤128)=true:=decide_eq_true h4.2
   rotate_left
   all_goals
    clear h1 h2 h3
    exact Xz8
 · have h4:=h1 rfl
   subst h4
   obtain rfl:=h3.2 rfl
   have h5:=h2.2.1 rfl
   have h6:=h2.1
   have hw:wrap64 b=b:=by unfold wrap64;omega
   have hq:decide ((n:Int)≤b)=false:=decide_eq_false (by omega)
   clear h1 h2 h3
   exact Xz8
/-! ## Sending -/
def Fz (c:Nc) (xs:List Int):Bool:=decide (1≤c.l) && decide (c.l≤128) && isPage xs c.f
section
variable {c:Nc} {va:Value} {xs:List Int} {port v:Int} {p:Nat} {w:World}
theorem send_no (ha:MemRow w va xs) (hm:MemOk xs) (hf:W32 c.f) (h:Fz c xs=false):Calls Tryz.prog 175 #[.agg (ncL c).toArray,va,.int .u64 p] w (Ret w (.slice none 0 0)):=by
 unfold Fz at h
 obtain⟨B,off,cap,rfl,_,_,_,hrow⟩:=ha.open
 have P:=fun w=>EM (some ⟨B,off,none⟩) xs cap c.f w hm hf.1 hf.2
 obtain⟨f,l,pp,b,r,g⟩:=c
 dsimp only at h P
 obtain⟨n,hn⟩:∃ n,xs.length=n:=⟨_,rfl⟩
 rw[hn] at P ⊢
 clear hrow ha hm hn hf
 by_cases h1:1≤l
 · have d1:decide (l<1)=false:=decide_eq_false (by omega)
   by_cases h2:l≤128
   · have d2:decide (128<l)=false:=decide_eq_false (by omega)
     rw[decide_eq_true h1,decide_eq_true h2] at h
     have hp:isPage xs f=false:=by simpa using h
     rw[hp] at P
     have HP:=lh P
     clear P hp h h1 h2
     exact Xz8
   · have d2:decide (128<l)=true:=decide_eq_true (by omega)
     clear P h h1 h2
     exact Xz8
 · have d1:decide (l<1)=true:=decide_eq_true (by omega)
   clear P h h1
   exact Xz8
def sendO (c:Nc) (xs:List Int) (p:Nat):Ou:=⟨2,p,0,(Bh xs c.f).extract 0 c.l.toNat⟩
theorem send_yes (ha:MemRow w va xs) (hm:MemOk xs) (hf:W32 c.f) (h:Fz c xs=true):Calls Tryz.prog 175 #[.agg (ncL c).toArray,va,.int .u64 p] w (fun e w'=>∃ v,e=.returned v∧w'.ownsRow w.heap.size 103 4 v 1 (ouL (sendO c xs p))∧Below w.heap.size w w'):=by
 unfold Fz at h
 obtain⟨B,off,cap,rfl,_,_,_,hrow⟩:=ha.open
 have P:=fun w=>EM (some ⟨B,off,none⟩) xs cap c.f w hm hf.1 hf.2
 obtain⟨f,l,pp,b,r,g⟩:=c
 unfold sendO
 dsimp only at h P hf ⊢
 rw[Bool.and_eq_true,Bool.and_eq_true] at h
 obtain⟨⟨h1,h2⟩,h3⟩:=h
 have h1:=of_decide_eq_true h1
 have h2:=of_decide_eq_true h2
 have d1:decide (l<1)=false:=decide_eq_false (by omega)
 have d2:decide (128<l)=false:=decide_eq_false (by omega)
 have hq':=of_decide_eq_true h3
 rw[h3] at P
 obtain⟨q,rfl⟩:∃ q:Nat,f=q:=⟨f.toNat,by have:=hf.1;omega⟩
 have hqn:q<AO xs.length:=by rw[←Int.ofNat_lt,←Bv];exact hq'
 have hPG:=fun w h=>Gm (.slice (some ⟨B,off,none⟩) xs.length cap) xs q w h hm.w hqn
 have hss:=Da (xs:=xs) (k:=q) (BQ hqn).1
 have h64:wrap64 (q:Int)=q:=by have:=hf.2;unfold wrap64;omega
 obtain⟨S,hS⟩:∃ s,Bh xs q=s:=⟨_,rfl⟩
 rw[hS] at hPG hss ⊢
 have HROW:=lh hrow
 obtain⟨n,hn⟩:∃ n,xs.length=n:=⟨_,rfl⟩
 rw[hn] at P hPG HROW ⊢
 have HPG:=lh hPG
 have HP:=lh P
 obtain⟨k,rfl⟩:∃ k:Nat,l=k:=⟨l.toNat,by omega⟩
 have hk1:1≤k:=by omega
 have hk2:k≤128:=by omega
 clear P hPG hS hqn hq' hf hm ha hrow hn h1 h2 h3
 have L:=Lay.start w
 go_in
 go_wp2_with (first|(refine lay_out L ⟨2,p,0,S.extract 0 k⟩ rfl rfl rfl ?_;intro wz Lz Nz;clear Nz;replace L:=Lz;clear Lz;(try simp only[s0,s1] at L))|(refine YL ?_)|((first|(go_at_call 43;(with_reducible refine zcl L (HPG.out _ (HROW.out.below L.bel)) ?_))|refine YS ?_);clear L;intro wz L))
 go_ret
 exact⟨_,rfl,L.out1 (k:=0) rfl,L.bel⟩
end
end Go.Proofs.YtnmpfmapncicmaaGreat
