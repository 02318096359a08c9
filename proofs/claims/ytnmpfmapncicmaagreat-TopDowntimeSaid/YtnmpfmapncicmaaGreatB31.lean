/-
  Texts joined: TpRj TpRl. No law is proved here.
-/
import Derived.Test.YtnmpfmapncicmaaGreatB24
namespace Go.Proofs.YtnmpfmapncicmaaGreat
set_option linter.all false
set_option maxRecDepth 100000
set_option maxHeartbeats 40000000
open Go.RowKit
def FM (i:In):Bool:=decide (A2 i.op≠0∧regI i.a=true∧regI i.b=true∧regI i.c=true∧loF (A2 i.op)≤i.imm∧i.imm≤hiF (A2 i.op)∧(A2 i.op=2∨i.c=0)∧(A2 i.op=1→i.a=0)∧(i.b=0∨2≤A2 i.op∧A2 i.op≤5))
section
variable {w:World} {i:In}
theorem Xz14 {P:Prop} (h:P:=by
  have L:=Lay.start w
  go_in
  go_wp2_with (first|(go_at_call 234;(with_reducible refine zcs (G3 _ _) ?_))|(refine YL ?_)|(refine YS ?_;clear L;intro wz L))
  go_ret
  exact Ret.mk' rfl L.bel):P:=h
theorem Eu (hi0 : -2147483648≤i.imm) (hi1:i.imm≤2147483647):Calls Tryz.prog 180 #[.agg (inL i).toArray] w (Ret w (.bool (FM i))):=by
 have HF:=lh (fun w=>BC i.op w)
 have hfb:=Ft i.op
 have HB:=lh (fun w=>Df (A2 i.op) w hfb.1 hfb.2)
 have h64:wrap64 i.imm=i.imm:=by unfold wrap64;omega
 unfold FM
 generalize A2 i.op=f at *
 by_cases h0:f=0
 · subst h0
   rw[decide_eq_false (fun h=>h.1 rfl)]
   clear hfb
   exact Xz14
 have f0:(f == 0)=false:=by rw[beq_eq_false_iff_ne];exact h0
 cases hA:regI i.a
 · rw[decide_eq_false (fun h=>by cases h.2.1)]
   clear hfb h0
   exact Xz14
 cases hB:regI i.b
 · rw[decide_eq_false (fun h=>by cases h.2.2.1)]
   clear hfb h0
   exact Xz14
 cases hC:regI i.c
 · rw[decide_eq_false (fun h=>by cases h.2.2.2.1)]
   clear hfb h0
   exact Xz14
 obtain⟨lo,hlo⟩:∃ y,loF f=y:=⟨_,rfl⟩
 obtain⟨hi,hhi⟩:∃ y,hiF f=y:=⟨_,rfl⟩
 rw[hlo,hhi] at HB ⊢
 clear hlo hhi
 by_cases hL:lo≤i.imm
 case neg =>
  rw[decide_eq_false (fun h=>hL h.2.2.2.2.1)]
  clear hfb h0
  have l0:decide (i.imm<lo)=true:=decide_eq_true (by omega)
  exact Xz14
 have dL:decide (i.imm<lo)=false:=decide_eq_false (by omega)
 by_cases hH:i.imm≤hi
 case neg =>
  rw[decide_eq_false (fun h=>hH h.2.2.2.2.2.1)]
  clear hfb h0
  have l0:decide (hi<i.imm)=true:=decide_eq_true (by omega)
  clear hL hH
  exact Xz14
 have dH:decide (hi<i.imm)=false:=decide_eq_false (by omega)
 by_cases h2:f=2∨i.c=0
 case neg =>
  rw[decide_eq_false (fun h=>h2 h.2.2.2.2.2.2.1)]
  have f2:(f != 2)=true:=by rw[bne_iff_ne];omega
  have c2:(i.c != 0)=true:=by rw[bne_iff_ne];omega
  clear hfb h0 h2
  exact Xz14
 by_cases h1:f=1→i.a=0
 case neg =>
  rw[decide_eq_false (fun h=>h1 h.2.2.2.2.2.2.2.1)]
  have hf1:f=1:=Classical.byContradiction (fun h=>h1 (fun e=>absurd e h))
  subst hf1
  have c2:(i.c != 0)=false:=by rw[bne_eq_false_iff_eq];omega
  have a2:(i.a != 0)=true:=by rw[bne_iff_ne];intro h;exact h1 (fun _=>h)
  clear hfb h0 h2 h1
  exact Xz14
 have e1:(f == 1 && i.a != 0)=false:=by
  by_cases hf1:f=1
  · rw[h1 hf1];simp
  · simp [hf1]
 have e2:(f != 2 && i.c != 0)=false:=by
  rcases h2 with h2|h2
  · rw[h2];simp
  · rw[h2];simp
 by_cases h3:i.b=0∨2≤f∧f≤5
 · rw[decide_eq_true ⟨h0,rfl,rfl,rfl,hL,hH,h2,h1,h3⟩]
   cases g1:(f == 1) <;> cases g2:(f != 2) <;> cases g3:(i.b == 0)
   all_goals
    rw[g1] at e1
    rw[g2] at e2
    have hb5:(i.b == 0)=true∨(2≤f∧f≤5):=by rw[beq_iff_eq];exact h3
    rw[g3] at hb5
    simp only[Bool.true_and,Bool.false_and] at e1 e2
    simp only[Bool.false_eq_true,false_or,true_or] at hb5
    try obtain⟨k2,k5⟩:=hb5
    clear hfb h0 h2 h1 h3
    exact Xz14
 · rw[decide_eq_false (fun h=>h3 h.2.2.2.2.2.2.2.2)]
   have b0:(i.b == 0)=false:=by rw[beq_eq_false_iff_ne];omega
   have f5:f<2∨5<f:=by omega
   cases g1:(f == 1) <;> cases g2:(f != 2)
   all_goals
    rw[g1] at e1
    rw[g2] at e2
    simp only[Bool.true_and,Bool.false_and] at e1 e2
    clear hfb h0 h2 h1 h3
    rcases f5 with f5|f5
    all_goals
     first
     | (exfalso;simp at g1 g2;omega)
     | skip
    all_goals
     have L:=Lay.start w
     go_in
     go_wp2_with (first|(go_at_call 234;(with_reducible refine zcs (G3 _ _) ?_))|(refine YL ?_)|(refine YS ?_;clear L;intro wz L))
     go_ret
     exact Ret.mk' (by first|rfl|(refine congrArg Value.bool ?_;simp;omega)) L.bel
end
def inW (x:Int):In:=⟨x / 16777216,x / 1048576 % 16,x / 65536 % 16,if A2 (x / 16777216)=2 then x % 65536 else 0,DQ (A2 (x / 16777216)) (x % 65536)⟩
theorem decI_val (x:Int) (h0:0≤x) (hf:A2 (x / 16777216)≠0):C9 x=if FM (inW x)=true then some (inW x) else none:=by
 unfold C9 FM inW
 dsimp only
 generalize A2 (x / 16777216)=f at *
 generalize DQ f (x % 65536)=m
 refine ite_congr (propext ?_) (fun _=>rfl) (fun _=>rfl)
 unfold regI
 simp only[decide_eq_true_eq]
 by_cases f2:f=2
 · rw[if_pos f2];omega
 · rw[if_neg f2];omega
theorem decI_form {x:Int} (hf:A2 (x / 16777216)=0):C9 x=none:=by unfold C9;rw[if_neg (fun h=>h.1 hf)]
theorem Xz79 {P:Prop} (h:P:=by
  have HV:=lh V
  clear V hv hm
  have L:=Lay.start w
  go_in
  go_wp2_with (first|(refine YL ?_)|((first|refine Yt (inL ⟨x / 16777216,a,b,l,0⟩) ?_|refine YS ?_);clear L;intro wz L))
  first|exact Yr1 (Ret.mk L.bel)|exact Yr2 (Ret.mk L.bel)):P:=h
theorem Xz80 {P:Prop} (h:P:=by
  have HV:=lh V
  clear V hv hm
  have L:=Lay.start w
  go_in
  go_wp2_with (first|(refine YL ?_)|((first|refine Yt (inL ⟨x / 16777216,a,b,0,m⟩) ?_|refine YS ?_);clear L;intro wz L))
  first|exact Yr1 (Ret.mk L.bel)|exact Yr2 (Ret.mk L.bel)):P:=h
theorem Xz81 {P:Prop} (h:P:=by
  have HV:=lh V
  clear V hv hm
  have L:=Lay.start w
  go_in
  go_wp2_with (first|(refine YL ?_)|((first|refine Yt (inL ⟨x / 16777216,a,b,0,l⟩) ?_|refine YS ?_);clear L;intro wz L))
  first|exact Yr1 (Ret.mk L.bel)|exact Yr2 (Ret.mk L.bel)):P:=h
theorem Cd (x:Int) (w:World) (h0:0≤x) (h1:x<4294967296):Calls Tryz.prog 146 #[.int .u32 x] w (Ret w (decV (C9 x))):=by
 have HF:=lh (fun w=>BC (x / 16777216) w)
 have e20:=and15 (v:=x / 1048576) (by omega) (by omega)
 have e16:=and15 (v:=x / 65536) (by omega) (by omega)
 have e0:=Hk h0 h1
 have hm:=immW_bd (f:=A2 (x / 16777216)) (lw:=x % 65536) (by omega) (by omega)
 have b24:0≤x / 16777216∧x / 16777216<256:=by omega
 have b20:0≤x / 1048576 % 16∧x / 1048576 % 16<16:=by omega
 have b16:0≤x / 65536 % 16∧x / 65536 % 16<16:=by omega
 have b0:0≤x % 65536∧x % 65536<65536:=by omega
 by_cases hf:A2 (x / 16777216)=0
 · rw[decI_form hf]
   rw[hf] at HF
   clear hf hm
   generalize x / 1048576 % 16=a at *
   generalize x / 65536 % 16=b at *
   have L:=Lay.start w
   go_in
   go_wp2_with (first|(refine YL ?_)|(refine YS ?_;clear L;intro wz L))
   first|exact Yr1 (Ret.mk L.bel)|exact Yr2 (Ret.mk L.bel)
 · rw[decI_val x h0 hf]
   unfold inW
   generalize A2 (x / 16777216)=f at *
   have f0:(f == 0)=false:=by rw[beq_eq_false_iff_ne];exact hf
   by_cases f2:f=2
   · subst f2
     rw[if_pos rfl]
     have em:DQ 2 (x % 65536)=0:=rfl
     rw[em] at hm ⊢
     clear hf f0 em
     generalize x / 1048576 % 16=a at *
     generalize x / 65536 % 16=b at *
     generalize x % 65536=l at *
     have V:=fun w=>Eu (i:=⟨x / 16777216,a,b,l,0⟩) (w:=w) (by dsimp only;omega) (by dsimp only;omega)
     cases hv:FM ⟨x / 16777216,a,b,l,0⟩
     · rw[hv] at V
       rw[if_neg (by decide)]
       exact Xz79
     · rw[hv] at V
       rw[if_pos rfl]
       exact Xz79
   · rw[if_neg f2]
     have g2:(f == 2)=false:=by rw[beq_eq_false_iff_ne];exact f2
     by_cases f37:f=3∨f=7
     · have em:DQ f (x % 65536)=if 32768≤x % 65536 then x % 65536 - 65536 else x % 65536:=by unfold DQ;rw[if_neg f2,if_pos f37]
       have c0:IntKind.i16.wrap (x % 65536)=DQ f (x % 65536):=by
        rw[em];simp only[IntKind.wrap,IntKind.bits,IntKind.signed];simp
       generalize DQ f (x % 65536)=m at *
       generalize x / 1048576 % 16=a at *
       generalize x / 65536 % 16=b at *
       generalize x % 65536=l at *
       have c1:IntKind.i32.wrap m=m:=IntWalk.i32_in _ (by omega)
       clear em f2
       rcases f37 with rfl|rfl
       all_goals
        clear hf f0 g2
        have V:=fun w=>Eu (i:=⟨x / 16777216,a,b,0,m⟩) (w:=w) (by dsimp only;omega) (by dsimp only;omega)
        cases hv:FM ⟨x / 16777216,a,b,0,m⟩
        · rw[hv] at V
          rw[if_neg (by decide)]
          exact Xz80
        · rw[hv] at V
          rw[if_pos rfl]
          exact Xz80
     · have em:DQ f (x % 65536)=x % 65536:=by unfold DQ;rw[if_neg f2,if_neg f37]
       rw[em] at hm ⊢
       have g3:(f == 3)=false:=by rw[beq_eq_false_iff_ne];omega
       have g7:(f == 7)=false:=by rw[beq_eq_false_iff_ne];omega
       generalize x / 1048576 % 16=a at *
       generalize x / 65536 % 16=b at *
       generalize x % 65536=l at *
       clear hf f2 f37 em
       have V:=fun w=>Eu (i:=⟨x / 16777216,a,b,0,l⟩) (w:=w) (by dsimp only;omega) (by dsimp only;omega)
       cases hv:FM ⟨x / 16777216,a,b,0,l⟩
       · rw[hv] at V
         rw[if_neg (by decide)]
         exact Xz81
       · rw[hv] at V
         rw[if_pos rfl]
         exact Xz81
end Go.Proofs.YtnmpfmapncicmaaGreat
