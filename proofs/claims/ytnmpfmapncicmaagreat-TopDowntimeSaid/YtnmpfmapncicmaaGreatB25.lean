/-
  Texts joined: TpRx. No law is proved here.
-/
import Derived.Test.YtnmpfmapncicmaaGreatB22
namespace Go.Proofs.YtnmpfmapncicmaaGreat
set_option linter.all false
set_option maxRecDepth 100000
set_option maxHeartbeats 40000000
open Go.RowKit
theorem rdkreq_any (d:Dk) (p:Nat) (w:World) (hs:d.s=1) (hc:d.cmd=1∨d.cmd=2):Calls Tryz.prog 256 #[(.agg (dkL d).toArray),.int .u64 p] w (Ret w (.tuple #[(.agg (ouL (dkReq d p)).toArray),.bool true])):=by
 obtain⟨bl,b,f,s,cmd,ob,of,od⟩:=d
 dsimp only at hs hc
 subst hs
 rcases hc with rfl|rfl
 · exact Xz33
 · exact Xz33
section
variable {d:Dk} {va:Value} {xs:List Int} {port v:Int} {p:Nat} {w:World}
theorem rdkout_45 (h:port=4∨port=5):Calls Tryz.prog 203 #[.agg (dkL d).toArray,va,.int .i64 port,.int .u32 v,.int .u64 p] w (ER w (CI d xs port v p)):=by
 unfold CI
 rcases h with rfl|rfl
 · rw[if_pos rfl]
   exact Xz93
 · rw[if_neg (by decide),if_pos rfl]
   exact Xz94
theorem rdkout_other (h4:port≠4) (h5:port≠5) (h6:port≠6):Calls Tryz.prog 203 #[.agg (dkL d).toArray,va,.int .i64 port,.int .u32 v,.int .u64 p] w (ER w (CI d xs port v p)):=by
 unfold CI
 rw[if_neg h4,if_neg h5,if_neg (fun h=>h6 h.1),if_neg (fun h=>h6 h.1)]
 have n4:(port == 4)=false:=by simpa using h4
 have n5:(port == 5)=false:=by simpa using h5
 have n6:(port != 6)=true:=by simpa using h6
 clear h4 h5 h6
 exact Xz27
theorem Xz19 {P:Prop} (h:P:=by
  go_in
  go_wp2_with (first|(go_skip;first|(go_step;go_big_op)|skip)|(refine YL ?_)|(refine YS ?_;clear L;intro wz L))
  exact Yr2 ⟨_,rfl,OutRow.nil _ _,L.bel⟩):P:=h
theorem Jh {bl b f s cm ob of:Int} {od:ByteArray} (hs:0≤s∧s≤3) (hv:(v=0∧s≠2∧s≠3)∨((v=1∨v=2)∧s≠0)∨(v≠0∧v≠1∧v≠2)) :
    Calls Tryz.prog 203 #[.agg (dkL ⟨bl,b,f,s,cm,ob,of,od⟩).toArray,va,.int .i64 6,.int .u32 v,.int .u64 p] w (ER w (⟨bl,b,f,s,cm,ob,of,od⟩,[])):=by
 rcases hv with ⟨rfl,h2,h3⟩|⟨rfl|rfl,h0⟩|⟨h0,h1,h2⟩
 · obtain rfl|rfl:s=0∨s=1:=by omega
   all_goals
    clear hs h2 h3
    have L:=Lay.start w
    exact Xz19
 · obtain rfl|rfl|rfl:s=1∨s=2∨s=3:=by omega
   all_goals
    clear hs h0
    have L:=Lay.start w
    exact Xz19
 · obtain rfl|rfl|rfl:s=1∨s=2∨s=3:=by omega
   all_goals
    clear hs h0
    have L:=Lay.start w
    exact Xz19
 · have n0:(v == 0)=false:=by simpa using h0
   have n1:(v == 1)=false:=by simpa using h1
   have n2:(v == 2)=false:=by simpa using h2
   clear hs h0 h1 h2
   have L:=Lay.start w
   exact Xz19
theorem rdkout_idle {bl b f s cm ob of:Int} {od:ByteArray} (hs:s=2∨s=3) :
    Calls Tryz.prog 203 #[.agg (dkL ⟨bl,b,f,s,cm,ob,of,od⟩).toArray,va,.int .i64 6,.int .u32 0,.int .u64 p] w (ER w (⟨bl,b,f,0,cm,ob,of,od⟩,[])):=by
 rcases hs with rfl|rfl
 all_goals
  have L:=Lay.start w
  go_in
  go_wp2_with (first|(go_skip;first|(go_step;go_big_op)|skip)|(refine YL ?_)|((first|refine Yt (dkL ⟨bl,b,f,0,cm,ob,of,od⟩) ?_|refine YS ?_);clear L;intro wz L))
  exact Yr2 ⟨_,rfl,OutRow.nil _ _,L.bel⟩
theorem Xz66 {P:Prop} (h:P:=by
  rcases hv with rfl|rfl
  all_goals
   have L:=Lay.start w
   go_in
   go_wp2_with (first|(go_skip;first|(go_step;go_big_op)|skip)|(refine YL ?_)|((first|refine Yt (dkL ⟨bl,b,f,3,cm,ob,of,od⟩) ?_|refine YS ?_);clear L;intro wz L))
   exact Yr2 ⟨_,rfl,OutRow.nil _ _,L.bel⟩):P:=h
theorem rdkout_bad {bl b f cm ob of:Int} {od:ByteArray} (ha:MemRow w va xs) (hm:MemOk xs) (hf:W32 f) (h:bl≤b∨isPage xs f=false) (hv:v=1∨v=2):Calls Tryz.prog 203 #[.agg (dkL ⟨bl,b,f,0,cm,ob,of,od⟩).toArray,va,.int .i64 6,.int .u32 v,.int .u64 p] w (ER w (⟨bl,b,f,3,cm,ob,of,od⟩,[])):=by
 obtain⟨B,off,cap,rfl,_,_,_,hrow⟩:=ha.open
 have P:=fun w=>B8 (some ⟨B,off,none⟩) xs xs.length cap f w rfl hm hf.1 hf.2
 obtain⟨n,hn⟩:∃ n,xs.length=n:=⟨_,rfl⟩
 rw[hn] at P ⊢
 by_cases hb:bl≤b
 · have hq:decide (bl≤b)=true:=decide_eq_true hb
   clear h P hrow ha hm hn hb
   exact Xz66
 · have hq:decide (bl≤b)=false:=decide_eq_false hb
   have hp:isPage xs f=false:=h.resolve_left hb
   rw[hp] at P
   have HP:=lh P
   clear h P hrow ha hm hn hb hp
   exact Xz66
theorem rdkout_read {bl b f cm ob of:Int} {od:ByteArray} (ha:MemRow w va xs) (hm:MemOk xs) (hf:W32 f) (h1:b<bl) (h2:isPage xs f=true):Calls Tryz.prog 203 #[.agg (dkL ⟨bl,b,f,0,cm,ob,of,od⟩).toArray,va,.int .i64 6,.int .u32 1,.int .u64 p] w (ER w (⟨bl,b,f,1,1,b,f,⟨#[]⟩⟩,[⟨3,p,b,⟨#[]⟩⟩])):=by
 obtain⟨B,off,cap,rfl,_,_,_,hrow⟩:=ha.open
 have P:=fun w=>B8 (some ⟨B,off,none⟩) xs xs.length cap f w rfl hm hf.1 hf.2
 have RQ:=fun w=>rdkreq_any ⟨bl,b,f,1,1,b,f,⟨#[]⟩⟩ p w rfl (.inl rfl)
 rw[h2] at P
 obtain⟨n,hn⟩:∃ n,xs.length=n:=⟨_,rfl⟩
 rw[hn] at P ⊢
 have hq:decide (bl≤b)=false:=decide_eq_false (by omega)
 have HP:=lh P
 have HRQ:=lh (show ∀ w,Calls Tryz.prog 256 #[.agg (dkL ⟨bl,b,f,1,1,b,f,⟨#[]⟩⟩).toArray,.int .u64 p] w (Ret w (.tuple #[.agg (ouL ⟨3,p,b,⟨#[]⟩⟩).toArray,.bool true])) from RQ)
 clear P hrow ha hm hn h1 h2 RQ
 have L:=Lay.start w
 go_in
 go_wp2_with (first|(go_skip;first|(go_step;go_big_op)|skip)|(refine YL ?_)|((first|refine Yt (dkL ⟨bl,b,f,1,cm,ob,of,od⟩) ?_|refine Yt (dkL ⟨bl,b,f,1,1,ob,of,od⟩) ?_|refine Yt (dkL ⟨bl,b,f,1,1,b,of,od⟩) ?_|refine Yt (dkL ⟨bl,b,f,1,1,b,f,od⟩) ?_|refine Yt (dkL ⟨bl,b,f,1,1,b,f,⟨#[]⟩⟩) ?_|refine YS ?_);clear L;intro wz L))
 exact Xz22
theorem rdkout_write {bl b f cm ob of:Int} {od:ByteArray} (ha:MemRow w va xs) (hm:MemOk xs) (hf:W32 f) (h1:b<bl) (h2:isPage xs f=true):Calls Tryz.prog 203 #[.agg (dkL ⟨bl,b,f,0,cm,ob,of,od⟩).toArray,va,.int .i64 6,.int .u32 2,.int .u64 p] w (ER w (⟨bl,b,f,1,2,b,f,Bh xs f⟩,[⟨4,p,b,Bh xs f⟩])):=by
 obtain⟨B,off,cap,rfl,_,_,_,hrow⟩:=ha.open
 have P:=fun w=>B8 (some ⟨B,off,none⟩) xs xs.length cap f w rfl hm hf.1 hf.2
 have hq':=of_decide_eq_true h2
 obtain⟨q,rfl⟩:∃ q:Nat,f=q:=⟨f.toNat,by have:=hf.1;omega⟩
 have hPG:=fun w h=>rpage_any (.slice (some ⟨B,off,none⟩) xs.length cap) xs q w h hm (by rw[←Int.ofNat_lt,←Bv];exact hq')
 obtain⟨S,hS⟩:∃ s,Bh xs q=s:=⟨_,rfl⟩
 rw[hS] at hPG ⊢
 have HROW:=lh hrow
 have h64:wrap64 (q:Int)=q:=by have:=hf.2;unfold wrap64;omega
 have RQ:=fun w=>rdkreq_any ⟨bl,b,q,1,2,b,q,S⟩ p w rfl (.inr rfl)
 rw[h2] at P
 obtain⟨n,hn⟩:∃ n,xs.length=n:=⟨_,rfl⟩
 rw[hn] at P hPG HROW ⊢
 have HPG:=lh hPG
 have hq:decide (bl≤b)=false:=decide_eq_false (by omega)
 have HP:=lh P
 have HRQ:=lh (show ∀ w,Calls Tryz.prog 256 #[.agg (dkL ⟨bl,b,q,1,2,b,q,S⟩).toArray,.int .u64 p] w (Ret w (.tuple #[.agg (ouL ⟨4,p,b,S⟩).toArray,.bool true])) from RQ)
 clear P hrow ha hm hn h1 h2 RQ hPG hS hq' hf
 have L:=Lay.start w
 go_in
 go_wp2_with (first|(go_skip;first|(go_step;go_big_op)|skip)|(refine YL ?_)|((first|refine Yt (dkL ⟨bl,b,q,1,cm,ob,of,od⟩) ?_|refine Yt (dkL ⟨bl,b,q,1,2,ob,of,od⟩) ?_|refine Yt (dkL ⟨bl,b,q,1,2,b,of,od⟩) ?_|refine Yt (dkL ⟨bl,b,q,1,2,b,q,od⟩) ?_|refine Yt (dkL ⟨bl,b,q,1,2,b,q,⟨#[]⟩⟩) ?_|(go_at_call 255;(with_reducible refine zcl L (HPG.out _ (HROW.out.below L.bel)) ?_))|refine Yt (dkL ⟨bl,b,q,1,2,b,q,S⟩) ?_|refine YS ?_);clear L;intro wz L))
 exact Xz24
theorem rdkout_any (ha:MemRow w va xs) (hm:MemOk xs) (hf:W32 d.f) (hs:0≤d.s∧d.s≤3):Calls Tryz.prog 203 #[.agg (dkL d).toArray,va,.int .i64 port,.int .u32 v,.int .u64 p] w (ER w (CI d xs port v p)):=by
 by_cases h4:port=4
 · exact rdkout_45 (.inl h4)
 by_cases h5:port=5
 · exact rdkout_45 (.inr h5)
 by_cases h6:port=6
 case neg=>exact rdkout_other h4 h5 h6
 subst h6
 obtain⟨bl,b,f,s,cm,ob,of,od⟩:=d
 dsimp only at hf hs
 unfold CI Ci EW
 dsimp only
 rw[if_neg (by decide),if_neg (by decide)]
 by_cases hv:v=1∨v=2
 · rw[if_pos ⟨rfl,hv⟩]
   by_cases h0:s=0
   · subst h0
     rw[if_neg (by decide)]
     by_cases hb:bl≤b∨isPage xs f=false
     · rw[if_pos hb];exact rdkout_bad ha hm hf hb hv
     · rw[if_neg hb]
       have h1:b<bl:=Int.not_le.1 (fun h'=>hb (.inl h'))
       have h2:isPage xs f=true:=by
        cases hq:isPage xs f with
        | true=>rfl
        | false=>exact absurd (.inr hq) hb
       rcases hv with rfl|rfl
       · exact rdkout_read ha hm hf h1 h2
       · exact rdkout_write ha hm hf h1 h2
   · rw[if_pos h0];exact Jh hs (.inr (.inl ⟨hv,h0⟩))
 · rw[if_neg (fun h=>hv h.2)]
   by_cases h0:v=0∧(s=2∨s=3)
   · obtain⟨rfl,hs2⟩:=h0
     rw[if_pos ⟨rfl,rfl,by rcases hs2 with rfl|rfl <;> rfl⟩]
     exact rdkout_idle hs2
   · rw[if_neg (fun h=>h0 ⟨h.2.1,by have:=h.2.2;rw[Bool.or_eq_true,beq_iff_eq,beq_iff_eq] at this;exact this⟩)]
     exact Jh hs (by
      by_cases hv0:v=0
      · exact .inl ⟨hv0,fun e=>h0 ⟨hv0,.inl e⟩,fun e=>h0 ⟨hv0,.inr e⟩⟩
      · exact .inr (.inr ⟨hv0,fun e=>hv (.inl e),fun e=>hv (.inr e)⟩))
end
end Go.Proofs.YtnmpfmapncicmaaGreat
