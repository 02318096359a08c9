/-
  Texts joined: TpRz. No law is proved here.
-/
import Derived.Test.YtnmpfmapncicmaaGreatB25
import Derived.Test.YtnmpfmapncicmaaGreatB26
import Derived.Test.YtnmpfmapncicmaaGreatB28
import Derived.Test.YtnmpfmapncicmaaGreatB35
namespace Go.Proofs.YtnmpfmapncicmaaGreat
set_option linter.all false
set_option maxRecDepth 100000
set_option maxHeartbeats 40000000
open Go.RowKit
theorem Lay.drop2 {w0 w:World} {x y:Bx} {l:List Bx} (L:Lay w0 w (x :: y :: l)):Lay w0 w l:=L.drop1.drop1
section
variable {w0 w:World} {l:List Bx} {k g n:Nat} {xs:List Int} {bl b f s cmd ob of ek en:Int} {od D:ByteArray}
theorem Xz31 {P:Prop} (h:P:=by
  go_in
  go_wp2_with (first|(go_skip;first|(go_step;go_big_op)|skip)|(refine YL ?_)|(refine YS ?_;clear L;intro wz L))
  exact Yr2 ⟨rfl,by rw[AY HI.out];exact L.drop3⟩):P:=h
theorem fin_refuse (L:Lay w0 w l) (hk:l[k]?=some ⟨g,words xs,25⟩) (h:s≠1∨ek≠4∨1<en):Calls Tryz.prog 141 #[.agg (dkL ⟨bl,b,f,s,cmd,ob,of,od⟩).toArray,.slice (some ⟨g,0,none⟩) n n,.agg (evL ⟨ek,en,D⟩).toArray] w (Bc w0 (l.set k ⟨g,words (xs),25⟩) (.tuple #[.agg (dkL ⟨bl,b,f,s,cmd,ob,of,od⟩).toArray,.bool false])):=by
 have HI:=lh hk
 have HP:=lh (fun w=>DO true w)
 clear hk
 by_cases hs:s=1
 · subst hs
   by_cases h4:ek=4
   subst h4
   have h1:decide (1<en)=true:=decide_eq_true (by omega)
   clear h
   rotate_left
   have h1:(ek != 4)=true:=by simpa using h4
   clear h h4
   rotate_left
   all_goals
    exact Xz31
 · have h1:(s != 1)=true:=by simpa using hs
   clear h hs
   exact Xz31
theorem fin_rd_no (L:Lay w0 w l) (hk:l[k]?=some ⟨g,words xs,25⟩) (hn:xs.length=n) (hm:MemOk xs) (hf:W32 of) (hs:s=1) (h4:ek=4) (h1:en=1) (hc:cmd=1) (h:D.size≠128∨isPage xs of=false):Calls Tryz.prog 141 #[.agg (dkL ⟨bl,b,f,s,cmd,ob,of,od⟩).toArray,.slice (some ⟨g,0,none⟩) n n,.agg (evL ⟨ek,en,D⟩).toArray] w (Bc w0 (l.set k ⟨g,words (xs),25⟩) (.tuple #[.agg (dkL ⟨bl,b,f,s,cmd,ob,of,od⟩).toArray,.bool false])):=by
 have HI:=lh hk
 have P:=fun w=>B8 (some ⟨g,0,none⟩) xs n n of w hn hm hf.1 hf.2
 subst hs h4 h1 hc
 by_cases hd:D.size=128
 rw[h.resolve_left (fun h=>h hd)] at P
 have HP:=lh P
 have d1:(D.size != 128)=false:=by rw[hd];rfl
 have d2:((D.size:Int) != 128)=false:=by rw[hd];rfl
 rotate_left
 have HP:=lh P
 have d1:(D.size != 128)=true:=by rw[bne_iff_ne];exact hd
 have d2:((D.size:Int) != 128)=true:=by rw[bne_iff_ne];omega
 rotate_left
 all_goals
  clear P h hd hk hn hm hf
  exact Xz31
theorem fin_rd (L:Lay w0 w l) (hk:l[k]?=some ⟨g,words xs,25⟩) (hn:xs.length=n) (hm:MemOk xs) (hf:W32 of) (hs:s=1) (h4:ek=4) (h1:en=1) (hc:cmd=1) (hd:D.size=128) (hp:isPage xs of=true):Calls Tryz.prog 141 #[.agg (dkL ⟨bl,b,f,s,cmd,ob,of,od⟩).toArray,.slice (some ⟨g,0,none⟩) n n,.agg (evL ⟨ek,en,D⟩).toArray] w (Bc w0 (l.set k ⟨g,words (A0 xs of D),25⟩) (.tuple #[.agg (dkL ⟨bl,b,f,2,0,0,0,⟨#[]⟩⟩).toArray,.bool true])):=by
 have HI:=lh hk
 have P:=fun w=>B8 (some ⟨g,0,none⟩) xs n n of w hn hm hf.1 hf.2
 subst hs h4 h1 hc
 have hq:=of_decide_eq_true hp
 rw[hp] at P
 obtain⟨q,rfl⟩:∃ q:Nat,of=q:=⟨of.toNat,by have:=hf.1;omega⟩
 have hfit:=BQ (p:=q) (n:=xs.length) (by rw[←Int.ofNat_lt,←Bv];exact hq)
 have FL:=fun l' k' (w:World) (L:Lay w0 w l') hk=>rfill_any (k:=k') (g:=g) L hk hn hm q D hq (by omega)
 rw[fill_whole hm hfit.1 D hd] at FL
 generalize A0 xs q D=ys at *
 have HFL:=lh FL
 have HP:=lh P
 have d1:(D.size != 128)=false:=by rw[hd];rfl
 have d2:((D.size:Int) != 128)=false:=by rw[hd];rfl
 have h64:wrap64 (q:Int)=q:=by have:=hf.2;unfold wrap64;omega
 clear P hd hk hn hm hf hp hq hfit FL
 go_in
 go_wp2_with (first|(go_skip;first|(go_step;go_big_op)|skip)|(refine YL ?_)|(refine YS ?_;clear L;intro wz L))
 refine (HFL.out _ (k+3) _ L (Ac (Ac (Ac HI.out)))).mono ?_
 rintro e wz ⟨rfl,Lz⟩
 replace L:=Lz
 clear Lz
 simp only[List.set_cons_succ] at L
 go_wp2_with (first|(go_skip;first|(go_step;go_big_op)|skip)|(refine YL ?_)|((first|refine Yt (dkL ⟨bl,b,f,3,1,ob,q,od⟩) ?_|refine Yt (dkL ⟨bl,b,f,2,1,ob,q,od⟩) ?_|refine Yt (dkL ⟨bl,b,f,2,0,ob,q,od⟩) ?_|refine Yt (dkL ⟨bl,b,f,2,0,0,q,od⟩) ?_|refine Yt (dkL ⟨bl,b,f,2,0,0,0,od⟩) ?_|refine Yt (dkL ⟨bl,b,f,2,0,0,0,⟨#[]⟩⟩) ?_|refine YS ?_);clear L;intro wz L))
 exact Yr2 ⟨rfl,L.drop3⟩
theorem fin_wr_no (L:Lay w0 w l) (hk:l[k]?=some ⟨g,words xs,25⟩) (hs:s=1) (h4:ek=4) (h01:en=0∨en=1) (hc:cmd=1∨cmd=2) (hx:¬(en=1∧cmd=1)) (h:D.size≠0):Calls Tryz.prog 141 #[.agg (dkL ⟨bl,b,f,s,cmd,ob,of,od⟩).toArray,.slice (some ⟨g,0,none⟩) n n,.agg (evL ⟨ek,en,D⟩).toArray] w (Bc w0 (l.set k ⟨g,words (xs),25⟩) (.tuple #[.agg (dkL ⟨bl,b,f,s,cmd,ob,of,od⟩).toArray,.bool false])):=by
 have HI:=lh hk
 have HP:=lh (fun w=>DO true w)
 subst hs h4
 have d1:decide (0<D.size)=true:=decide_eq_true (by omega)
 have d2:0<D.size:=by omega
 clear hk h
 rcases h01 with rfl|rfl <;> rcases hc with rfl|rfl
 · clear hx
   exact Xz31
 · clear hx
   exact Xz31
 · exact absurd ⟨rfl,rfl⟩ hx
 · clear hx
   exact Xz31
theorem fin_wr (L:Lay w0 w l) (hk:l[k]?=some ⟨g,words xs,25⟩) (hs:s=1) (h4:ek=4) (h01:en=0∨en=1) (hc:cmd=1∨cmd=2) (hx:¬(en=1∧cmd=1)) (h:D.size=0):Calls Tryz.prog 141 #[.agg (dkL ⟨bl,b,f,s,cmd,ob,of,od⟩).toArray,.slice (some ⟨g,0,none⟩) n n,.agg (evL ⟨ek,en,D⟩).toArray] w (Bc w0 (l.set k ⟨g,words (xs),25⟩) (.tuple #[.agg (dkL ⟨bl,b,f,(if en=1 then 2 else 3),0,0,0,⟨#[]⟩⟩).toArray,.bool true])):=by
 have HI:=lh hk
 have hD:=FT h
 subst hs h4 hD
 clear hk h
 rcases h01 with rfl|rfl <;> rcases hc with rfl|rfl
 · clear hx
   rw[if_neg (by decide)]
   go_in
   go_wp2_with (first|(go_skip;first|(go_step;go_big_op)|skip)|(refine YL ?_)|((first|refine Yt (dkL ⟨bl,b,f,3,1,ob,of,od⟩) ?_|refine Yt (dkL ⟨bl,b,f,3,0,ob,of,od⟩) ?_|refine Yt (dkL ⟨bl,b,f,3,0,0,of,od⟩) ?_|refine Yt (dkL ⟨bl,b,f,3,0,0,0,od⟩) ?_|refine Yt (dkL ⟨bl,b,f,3,0,0,0,⟨#[]⟩⟩) ?_|refine YS ?_);clear L;intro wz L))
   exact Yr2 ⟨rfl,(by rw[AY HI.out];exact L.drop3)⟩
 · clear hx
   rw[if_neg (by decide)]
   go_in
   go_wp2_with (first|(go_skip;first|(go_step;go_big_op)|skip)|(refine YL ?_)|((first|refine Yt (dkL ⟨bl,b,f,3,2,ob,of,od⟩) ?_|refine Yt (dkL ⟨bl,b,f,3,0,ob,of,od⟩) ?_|refine Yt (dkL ⟨bl,b,f,3,0,0,of,od⟩) ?_|refine Yt (dkL ⟨bl,b,f,3,0,0,0,od⟩) ?_|refine Yt (dkL ⟨bl,b,f,3,0,0,0,⟨#[]⟩⟩) ?_|refine YS ?_);clear L;intro wz L))
   exact Yr2 ⟨rfl,(by rw[AY HI.out];exact L.drop3)⟩
 · exact absurd ⟨rfl,rfl⟩ hx
 · clear hx
   rw[if_pos rfl]
   go_in
   go_wp2_with (first|(go_skip;first|(go_step;go_big_op)|skip)|(refine YL ?_)|((first|refine Yt (dkL ⟨bl,b,f,3,2,ob,of,od⟩) ?_|refine Yt (dkL ⟨bl,b,f,2,2,ob,of,od⟩) ?_|refine Yt (dkL ⟨bl,b,f,2,0,ob,of,od⟩) ?_|refine Yt (dkL ⟨bl,b,f,2,0,0,of,od⟩) ?_|refine Yt (dkL ⟨bl,b,f,2,0,0,0,od⟩) ?_|refine Yt (dkL ⟨bl,b,f,2,0,0,0,⟨#[]⟩⟩) ?_|refine YS ?_);clear L;intro wz L))
   exact Yr2 ⟨rfl,(by rw[AY HI.out];exact L.drop3)⟩
end
end Go.Proofs.YtnmpfmapncicmaaGreat
