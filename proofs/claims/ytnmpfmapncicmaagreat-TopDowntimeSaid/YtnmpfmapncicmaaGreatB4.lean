/-
  Texts joined: TpRes. No law is proved here.
-/
import Derived.Test.YtnmpfmapncicmaaGreatB3
namespace Go.Proofs.YtnmpfmapncicmaaGreat
set_option linter.all false
set_option maxRecDepth 100000
set_option maxHeartbeats 40000000
open Go.RowKit
theorem G9 {xs:List Int} {root x acc a e:Int} (hm:MemOk xs) (hr:0≤root) (hx:0≤x) (h:Cb xs root x acc=some (a,e)):0≤a∧a<4096∧0≤e∧e<4096∧inB xs e 4=true:=by
 obtain⟨hp,hp1,hp2⟩:=hm.pages
 unfold Cb at h
 split at h
 · rename_i hh
   obtain⟨h1,h2,h3,h4⟩:=hh
   cases h
   have hbd:=Bg hm.w ((root*128+4*(x / 128)) / 4).toNat
   change 0≤A5 xs (root*128+4*(x / 128))∧A5 xs (root*128+4*(x / 128))<4294967296 at hbd
   refine ⟨by omega,by omega,by omega,by omega,decide_eq_true ⟨by omega,by omega⟩⟩
 · cases h
section
variable {c xs:List Int} {va:Value} {x size acc:Int} {w:World}
theorem resolve_bad (ha:MemRow w va xs) (hm:MemOk xs) (_hx0:0≤x) (ha0:1≤acc) (ha1:acc≤3) (hs:size=1∨size=4) (hal:x % size≠0):Calls Tryz.prog 159 #[.agg (Ab c).toArray,va,.int .u32 x,.int .i64 size,.int .i64 acc] w (AD (fun u=>.tuple #[.int .u32 0,u,.int .i64 3]) xs w):=by
 obtain rfl:size=4:=by rcases hs with rfl|rfl <;> omega
 have D0:=HasBlock.made w (Ab c).toArray 29
 have hb:Below w.heap.size w (w.alloc (.cells (Ab c).toArray 29)):=bel
 have hal':(x % 4 != 0)=true:=by rw[bne_iff_ne];exact hal
 have C:=fun w=>Fj acc w ha0 ha1
 have HC:=lh C;clear C hal
 have K:=fun w h=>At va xs w h (by have:=hm.q;omega)
 have HK:=lh K;clear K hm
 have HA:=lh ha;clear ha
 go_in
 go_wp2_with (first|(go_at_call 212;((with_reducible refine (HC.out _).mono ?_);rintro e wz ⟨rfl,rfl⟩))|(go_at_call 44;(with_reducible refine (HK.out _ (HA.out.below hb)).mono ?_);rintro e w1 ⟨v1,rfl,ho1,hb1⟩))
 exact bodyPost_ret (v:=.tuple #[.int .u32 0,v1,.int .i64 3]) (by simp [results,Tryz.results159,go_sem]) rfl ⟨v1,rfl,ho1.lower hb.size,hb.trans (hb1.mono hb.size)⟩
theorem resolve_flat (hc:CpuOk c) (ha:MemRow w va xs) (hm:MemOk xs) (hx0:0≤x) (hx1:x<4294967296) (ha0:1≤acc) (ha1:acc≤3) (hs:size=1∨size=4) (hal:x % size=0) (hpg:BR c=false) (hin:inB xs x size=true) :
    Calls Tryz.prog 159 #[.agg (Ab c).toArray,va,.int .u32 x,.int .i64 size,.int .i64 acc] w (AD (fun u=>.tuple #[.int .u32 x,u,.int .i64 0]) xs w):=by
 have D0:=HasBlock.made w (Ab c).toArray 29
 have hb:Below w.heap.size w (w.alloc (.cells (Ab c).toArray 29)):=bel
 have hal':(x % size != 0)=false:=by rw[bne_eq_false_iff_eq];exact hal
 have C:=fun w=>Fj acc w ha0 ha1
 have HC:=lh C;clear C
 have K:=fun w h=>At va xs w h (by have:=hm.q;omega)
 have HK:=lh K;clear K
 have HA:=lh ha;clear ha
 have KN:=fun w=>Cy c w hc
 have e4:bits .and .u32 (rg c 17) 4=rg c 17 / 4 % 2*4:=AT (hc.at 17).1 (hc.at 17).2 2 (by decide)
 have L:=fun w h=>Fe va xs x size w h hm hx0 hx1 hs hin
 have HL:=lh L;clear L
 unfold BR at hpg
 have h2:=Int.emod_two_eq (rg c 17 / 4)
 clear hm hin hc
 rcases Int.emod_two_eq (rg c 17) with hk|hk
 have hk2:rg c 17 / 4 % 2=0:=by rw[hk] at hpg;rcases h2 with h|h;exact h;rw[h] at hpg;cases hpg
 rw[hk2] at e4
 rw[show BM c=false by unfold BM;rw[hk];rfl] at KN
 have HKN:=lh KN
 clear KN hpg hk hk2 h2
 rotate_left
 rw[show BM c=true by unfold BM;rw[hk];rfl] at KN
 have HKN:=lh KN
 clear KN hpg hk h2 e4
 rotate_left
 all_goals
  obtain rfl|rfl:=hs
  all_goals
   go_in
   go_wp2_with (first|(go_at_call 212;((with_reducible refine (HC.out _).mono ?_);rintro e wz ⟨rfl,rfl⟩))|(go_at_call 44;(with_reducible refine (HK.out _ (HA.out.below hb)).mono ?_);rintro e w1 ⟨v1,rfl,ho1,hb1⟩)|(go_at_call 94;(with_reducible refine (HKN.out _).mono ?_);rintro e w0 ⟨rfl,hb0⟩;have D0:=D0.below hb0;replace hb:=hb.trans (hb0.mono hb.size);have hc17:=(D0.cell 17).trans (show (Ab c).toArray[17]?=some (.int .u32 (rg c 17)) from rfl))|(refine Bt c D0 rfl rfl rfl rfl ?_)|(refine AA (ty:=25) _ D0 rfl rfl rfl Tryz.underlying25 rfl rfl ?_)|(go_at_call 160;(with_reducible refine (HL.out _ (HA.out.below hb)).mono ?_);rintro e wz ⟨rfl,rfl⟩))
   exact bodyPost_ret (v:=.tuple #[.int .u32 x,v1,.int .i64 0]) (by simp [results,Tryz.results159,go_sem]) rfl ⟨v1,rfl,ho1.lower hb.size,hb.trans (hb1.mono hb.size)⟩
theorem resolve_out (hc:CpuOk c) (ha:MemRow w va xs) (hm:MemOk xs) (hx0:0≤x) (hx1:x<4294967296) (ha0:1≤acc) (ha1:acc≤3) (hs:size=1∨size=4) (hal:x % size=0) (hpg:BR c=false) (hin:inB xs x size=false) :
    Calls Tryz.prog 159 #[.agg (Ab c).toArray,va,.int .u32 x,.int .i64 size,.int .i64 acc] w (AD (fun u=>.tuple #[.int .u32 0,u,.int .i64 (AE acc)]) xs w):=by
 have D0:=HasBlock.made w (Ab c).toArray 29
 have hb:Below w.heap.size w (w.alloc (.cells (Ab c).toArray 29)):=bel
 have hal':(x % size != 0)=false:=by rw[bne_eq_false_iff_eq];exact hal
 have C:=fun w=>Fj acc w ha0 ha1
 have HC:=lh C;clear C
 have K:=fun w h=>At va xs w h (by have:=hm.q;omega)
 have HK:=lh K;clear K
 have HA:=lh ha;clear ha
 have KN:=fun w=>Cy c w hc
 have e4:bits .and .u32 (rg c 17) 4=rg c 17 / 4 % 2*4:=AT (hc.at 17).1 (hc.at 17).2 2 (by decide)
 obtain⟨b,off,cap,rfl,hc1,hc2,hlt,hrow⟩:=HA.out.open
 have L:=fun w=>mload_no (some ⟨b,off,none⟩) xs cap x size w hm hx0 hx1 hs hin
 have HL:=lh L;clear L
 unfold BR at hpg
 have h2:=Int.emod_two_eq (rg c 17 / 4)
 clear hm hin hc hrow
 rcases Int.emod_two_eq (rg c 17) with hk|hk
 have hk2:rg c 17 / 4 % 2=0:=by rw[hk] at hpg;rcases h2 with h|h;exact h;rw[h] at hpg;cases hpg
 rw[hk2] at e4
 rw[show BM c=false by unfold BM;rw[hk];rfl] at KN
 have HKN:=lh KN
 clear KN hpg hk hk2 h2
 rotate_left
 rw[show BM c=true by unfold BM;rw[hk];rfl] at KN
 have HKN:=lh KN
 clear KN hpg hk h2 e4
 rotate_left
 all_goals
  obtain rfl|rfl:=hs
  all_goals
   go_in
   go_wp2_with (first|(go_at_call 212;((with_reducible refine (HC.out _).mono ?_);rintro e wz ⟨rfl,rfl⟩))|(go_at_call 44;(with_reducible refine (HK.out _ (HA.out.below hb)).mono ?_);rintro e w1 ⟨v1,rfl,ho1,hb1⟩)|(go_at_call 94;(with_reducible refine (HKN.out _).mono ?_);rintro e w0 ⟨rfl,hb0⟩;have D0:=D0.below hb0;replace hb:=hb.trans (hb0.mono hb.size);have hc17:=(D0.cell 17).trans (show (Ab c).toArray[17]?=some (.int .u32 (rg c 17)) from rfl))|(refine Bt c D0 rfl rfl rfl rfl ?_)|(refine AA (ty:=25) _ D0 rfl rfl rfl Tryz.underlying25 rfl rfl ?_)|(go_at_call 160;((with_reducible refine (HL.out _).mono ?_);rintro e wz ⟨rfl,rfl⟩)))
   exact bodyPost_ret (v:=.tuple #[.int .u32 0,v1,.int .i64 (AE acc)]) (by simp [results,Tryz.results159,go_sem]) rfl ⟨v1,rfl,ho1.lower hb.size,hb.trans (hb1.mono hb.size)⟩
theorem resolve_fault (hc:CpuOk c) (ha:MemRow w va xs) (hm:MemOk xs) (hx0:0≤x) (hx1:x<4294967296) (ha0:1≤acc) (ha1:acc≤3) (hs:size=1∨size=4) (hal:x % size=0) (hpg:BR c=true) (hw:Cb xs (rg c 23) x acc=none) :
    Calls Tryz.prog 159 #[.agg (Ab c).toArray,va,.int .u32 x,.int .i64 size,.int .i64 acc] w (AD (fun u=>.tuple #[.int .u32 0,u,.int .i64 (AE acc)]) xs w):=by
 have D0:=HasBlock.made w (Ab c).toArray 29
 have hb:Below w.heap.size w (w.alloc (.cells (Ab c).toArray 29)):=bel
 have hal':(x % size != 0)=false:=by rw[bne_eq_false_iff_eq];exact hal
 have C:=fun w=>Fj acc w ha0 ha1
 have HC:=lh C;clear C
 have K:=fun w h=>At va xs w h (by have:=hm.q;omega)
 have HK:=lh K;clear K
 have HA:=lh ha;clear ha
 have KN:=fun w=>Cy c w hc
 have e4:bits .and .u32 (rg c 17) 4=rg c 17 / 4 % 2*4:=AT (hc.at 17).1 (hc.at 17).2 2 (by decide)
 have W:=fun w h=>walk_any va xs (rg c 23) x acc w h hm (hc.at 23).1 (hc.at 23).2 hx0 hx1 ha0 ha1
 rw[hw] at W
 have hf:(AE acc != 0)=true:=by unfold AE;split;rfl;split <;> rfl
 unfold trV at W
 dsimp only at W
 have HW:=lh W;clear W hw
 unfold BR at hpg
 have hk2:rg c 17 % 2=0:=by rcases Int.emod_two_eq (rg c 17) with h|h;exact h;rw[h] at hpg;cases hpg
 have hk4:rg c 17 / 4 % 2=1:=by rcases Int.emod_two_eq (rg c 17 / 4) with h|h;(rw[h,hk2] at hpg;cases hpg);exact h
 rw[hk4] at e4
 rw[show BM c=false by unfold BM;rw[hk2];rfl] at KN
 have HKN:=lh KN
 clear KN hpg hk2 hk4 hm hc
 obtain rfl|rfl:=hs
 all_goals
  go_in
  go_wp2_with (first|(go_at_call 212;((with_reducible refine (HC.out _).mono ?_);rintro e wz ⟨rfl,rfl⟩))|(go_at_call 94;(with_reducible refine (HKN.out _).mono ?_);rintro e w0 ⟨rfl,hb0⟩;have D0:=D0.below hb0;replace hb:=hb.trans (hb0.mono hb.size);have hc17:=(D0.cell 17).trans (show (Ab c).toArray[17]?=some (.int .u32 (rg c 17)) from rfl))|(refine Bt c D0 rfl rfl rfl rfl ?_)|(refine AA (ty:=25) _ D0 rfl rfl rfl Tryz.underlying25 rfl rfl ?_)|(go_at_call 213;(with_reducible refine (HW.out _ (HA.out.below hb)).mono ?_);rintro e w2 ⟨rfl,hb2⟩;have D0:=D0.below hb2;replace hb:=hb.trans (hb2.mono hb.size)))
  have DT:=HasBlock.made w2 #[.int .u32 0,.int .u32 0,.int .i64 (AE acc)] 294
  have hbr:Below w.heap.size w (w2.alloc (.cells #[.int .u32 0,.int .u32 0,.int .i64 (AE acc)] 294)):=hb.alloc hb.size _
  have htl:w2.heap.size<(w2.alloc (.cells #[.int .u32 0,.int .u32 0,.int .i64 (AE acc)] 294)).heap.size:=by simp only[sizes];omega
  generalize w2.alloc (.cells #[.int .u32 0,.int .u32 0,.int .i64 (AE acc)] 294)=wr at *
  have hct:=(DT.cell 2).trans (show #[Value.int .u32 0,.int .u32 0,.int .i64 (AE acc)][2]?=some (.int .i64 (AE acc)) from rfl)
  have hrule:∀ w':World,Below wr.heap.size wr w'→∀ b o,b<wr.heap.size→w'.cell? ⟨b,o,none⟩=wr.cell? ⟨b,o,none⟩:=fun w' h b o hlt=>h.cell (p:=⟨b,o,none⟩) hlt
  clear hc17
  go_region_held3 (fun w'=>Below wr.heap.size wr w') (repeat' (first|(with_reducible first|assumption|exact Below.refl _ _|refine Below.drew ?_|refine Below.alloc' ?_ (nlr _) _|refine Below.setCell ?_ ?_ _)|refine Below.trans ?_ (Below.mono (by with_reducible assumption) ?_)|exact rfl|exact nlr _|omega|(simp only[sizes];done)|(simp only[sizes];omega))) ((first
   |
    (go_at_call 44
     with_reducible refine (HK.out _ (HA.out.below (hbr.trans (Below.mono (B:=wr.heap.size) bel3 hbr.size)))).mono ?_
     rintro e w5 ⟨v5,rfl,ho5,hb5⟩)))
  have hq5:Below w.heap.size w w5:=hbr.trans (Below.mono (B:=wr.heap.size) bel3 hbr.size)
  have ho6:=ho5.lower (base':=w.heap.size) (by have:=hbr.size;first|omega|(simp only[sizes];omega))
  go_wp2_with fail
  exact bodyPost_ret (v:=.tuple #[.int .u32 0,v5,.int .i64 (AE acc)]) (by simp [results,Tryz.results159,go_sem]) rfl ⟨v5,rfl,ho6,hq5⟩
theorem resolve_page {a e':Int} (hc:CpuOk c) (ha:MemRow w va xs) (hm:MemOk xs) (hx0:0≤x) (hx1:x<4294967296) (ha0:1≤acc) (ha1:acc≤3) (hs:size=1∨size=4) (hal:x % size=0) (hpg:BR c=true) (hw:Cb xs (rg c 23) x acc=some (a,e')) :
    Calls Tryz.prog 159 #[.agg (Ab c).toArray,va,.int .u32 x,.int .i64 size,.int .i64 acc] w (AD (fun u=>.tuple #[.int .u32 a,u,.int .i64 0]) (Dg xs e' acc) w):=by
 have D0:=HasBlock.made w (Ab c).toArray 29
 have hb:Below w.heap.size w (w.alloc (.cells (Ab c).toArray 29)):=bel
 have hal':(x % size != 0)=false:=by rw[bne_eq_false_iff_eq];exact hal
 have C:=fun w=>Fj acc w ha0 ha1
 have HC:=lh C;clear C
 have K:=fun w h=>At va xs w h (by have:=hm.q;omega)
 have HK:=lh K;clear K
 have HA:=lh ha;clear ha
 have KN:=fun w=>Cy c w hc
 have e4:bits .and .u32 (rg c 17) 4=rg c 17 / 4 % 2*4:=AT (hc.at 17).1 (hc.at 17).2 2 (by decide)
 clear HK
 have W:=fun w h=>walk_any va xs (rg c 23) x acc w h hm (hc.at 23).1 (hc.at 23).2 hx0 hx1 ha0 ha1
 obtain⟨_,_,he0,he1,hin⟩:=G9 hm (hc.at 23).1 hx0 hw
 have T:=fun w h=>touch_any va xs e' acc w h hm he0 (by omega) hin ha0 ha1
 have HK:=lh T;clear T hin
 rw[hw] at W
 unfold trV at W
 dsimp only at W
 have HW:=lh W;clear W hw
 unfold BR at hpg
 have hk2:rg c 17 % 2=0:=by rcases Int.emod_two_eq (rg c 17) with h|h;exact h;rw[h] at hpg;cases hpg
 have hk4:rg c 17 / 4 % 2=1:=by rcases Int.emod_two_eq (rg c 17 / 4) with h|h;(rw[h,hk2] at hpg;cases hpg);exact h
 rw[hk4] at e4
 rw[show BM c=false by unfold BM;rw[hk2];rfl] at KN
 have HKN:=lh KN
 clear KN hpg hk2 hk4 hm hc
 obtain rfl|rfl:=hs
 all_goals
  go_in
  go_wp2_with (first|(go_at_call 212;((with_reducible refine (HC.out _).mono ?_);rintro e wz ⟨rfl,rfl⟩))|(go_at_call 94;(with_reducible refine (HKN.out _).mono ?_);rintro e w0 ⟨rfl,hb0⟩;have D0:=D0.below hb0;replace hb:=hb.trans (hb0.mono hb.size);have hc17:=(D0.cell 17).trans (show (Ab c).toArray[17]?=some (.int .u32 (rg c 17)) from rfl))|(refine Bt c D0 rfl rfl rfl rfl ?_)|(refine AA (ty:=25) _ D0 rfl rfl rfl Tryz.underlying25 rfl rfl ?_)|(go_at_call 213;(with_reducible refine (HW.out _ (HA.out.below hb)).mono ?_);rintro e w2 ⟨rfl,hb2⟩;have D0:=D0.below hb2;replace hb:=hb.trans (hb2.mono hb.size)))
  have DT:=HasBlock.made w2 #[.int .u32 a,.int .u32 e',.int .i64 0] 294
  have hbr:Below w.heap.size w (w2.alloc (.cells #[.int .u32 a,.int .u32 e',.int .i64 0] 294)):=hb.alloc hb.size _
  have htl:w2.heap.size<(w2.alloc (.cells #[.int .u32 a,.int .u32 e',.int .i64 0] 294)).heap.size:=by simp only[sizes];omega
  generalize w2.alloc (.cells #[.int .u32 a,.int .u32 e',.int .i64 0] 294)=wr at *
  have hct:=(DT.cell 0).trans (show #[Value.int .u32 a,.int .u32 e',.int .i64 0][0]?=some (.int .u32 a) from rfl)
  have hct1:=(DT.cell 1).trans (show #[Value.int .u32 a,.int .u32 e',.int .i64 0][1]?=some (.int .u32 e') from rfl)
  have hrule:∀ w':World,Below wr.heap.size wr w'→∀ b o,b<wr.heap.size→w'.cell? ⟨b,o,none⟩=wr.cell? ⟨b,o,none⟩:=fun w' h b o hlt=>h.cell (p:=⟨b,o,none⟩) hlt
  clear hc17
  go_region_held3 (fun w'=>Below wr.heap.size wr w') (repeat' (first|(with_reducible first|assumption|exact Below.refl _ _|refine Below.drew ?_|refine Below.alloc' ?_ (nlr _) _|refine Below.setCell ?_ ?_ _)|refine Below.trans ?_ (Below.mono (by with_reducible assumption) ?_)|exact rfl|exact nlr _|omega|(simp only[sizes];done)|(simp only[sizes];omega))) ((first
   |
    (go_at_call 214
     with_reducible refine (HK.out _ (HA.out.below (hbr.trans (Below.mono (B:=wr.heap.size) bel3 hbr.size)))).mono ?_
     rintro e w5 ⟨v5,rfl,ho5,hb5⟩)))
  have hq5:Below w.heap.size w w5:=hbr.trans (Below.mono (B:=wr.heap.size) bel3 hbr.size)
  have ho6:=ho5.lower (base':=w.heap.size) (by have:=hbr.size;first|omega|(simp only[sizes];omega))
  go_wp2_with fail
  exact bodyPost_ret (v:=.tuple #[.int .u32 a,v5,.int .i64 0]) (by simp [results,Tryz.results159,go_sem]) rfl ⟨v5,rfl,ho6,hq5⟩
theorem DN (hc:CpuOk c) (ha:MemRow w va xs) (hm:MemOk xs) (hx0:0≤x) (hx1:x<4294967296) (ha0:1≤acc) (ha1:acc≤3) (hs:size=1∨size=4) :
    Calls Tryz.prog 159 #[.agg (Ab c).toArray,va,.int .u32 x,.int .i64 size,.int .i64 acc] w (AD (fun u=>.tuple #[.int .u32 (Ah c xs x size acc).1,u,.int .i64 (Ah c xs x size acc).2.2]) (Ah c xs x size acc).2.1 w):=by
 unfold Ah
 by_cases hal:x % size=0
 · rw[if_neg (fun h=>h hal)]
   cases hpg:BR c with
   | true =>
     rw[if_pos rfl]
     cases hw:Cb xs (rg c 23) x acc with
     | none=>exact resolve_fault hc ha hm hx0 hx1 ha0 ha1 hs hal hpg hw
     | some r=>exact resolve_page hc ha hm hx0 hx1 ha0 ha1 hs hal hpg hw
   | false =>
     rw[if_neg (by simp)]
     cases hin:inB xs x size with
     | true=>rw[if_pos rfl];exact resolve_flat hc ha hm hx0 hx1 ha0 ha1 hs hal hpg hin
     | false=>rw[if_neg (by simp)];exact resolve_out hc ha hm hx0 hx1 ha0 ha1 hs hal hpg hin
 · rw[if_pos hal];exact resolve_bad ha hm hx0 ha0 ha1 hs hal
end
end Go.Proofs.YtnmpfmapncicmaaGreat
