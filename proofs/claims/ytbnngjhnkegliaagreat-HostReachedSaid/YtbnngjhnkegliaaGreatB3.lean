/-
  Texts joined: Shelf PlIndex PlZeros PoolValid PlHas PlLaws. No law is proved here.
-/
import Derived.Shelf.Strings.Builder1
import Derived.Shelf.Strings.Builder2
import Derived.Shelf.Strings.BuilderF
import Derived.Shelf.Strings.Search1
import Derived.Shelf.Strings.Search2
import Derived.Shelf.Strings.Search3
import Derived.Shelf.Strings.Count
import Derived.Shelf.LaysM
import Derived.Shelf.Strings.Shaped
import Derived.Shelf.Strings.Prefix
import Derived.Shelf.Bits.Mul64
import Derived.Shelf.Strings.Repeat
import Derived.Ground.SlgnProg
import Derived.Shelf.SlicesE.Index
import Derived.Shelf.SlicesE.Clone
import Derived.Test.YtbnngjhnkegliaaGreatProg
import Derived.Test.YtbnngjhnkegliaaGreatB2
namespace Go.Proofs.YtbnngjhnkegliaaGreat
open Go.Shelf
def Tryz.lays219_ren:Go.Shelf.Ren:=⟨fun|219=>110|217=>117|225=>118|224=>119|267=>120|266=>124|314=>125|n=>n,fun|9=>9|3=>3|4=>4|5=>5|46=>66|146=>129|51=>128|n=>n,fun|1=>0|n=>n⟩
def Tryz.lays138_ren:Go.Shelf.Ren:=⟨fun|138=>78|195=>95|218=>96|143=>97|219=>110|217=>117|225=>118|224=>119|267=>120|266=>124|314=>125|n=>n,fun|9=>9|3=>3|4=>4|5=>5|0=>0|46=>66|146=>129|51=>128|n=>n,fun|1=>0|n=>n⟩
theorem Tryz.lays138:Go.Proofs.Lays.n138 Tryz.prog Tryz.lays138_ren:={
 mixed:=by kernel_rfl
 f138:=Tryz.func78.trans (congrArg some (by kernel_rfl))
 f143:=Tryz.func97.trans (congrArg some (by kernel_rfl))
 f195:=Tryz.func95.trans (congrArg some (by kernel_rfl))
 f217:=Tryz.func117.trans (congrArg some (by kernel_rfl))
 f218:=Tryz.func96.trans (congrArg some (by kernel_rfl))
 f219:=Tryz.func110.trans (congrArg some (by kernel_rfl))
 f224:=Tryz.func119.trans (congrArg some (by kernel_rfl))
 f225:=Tryz.func118.trans (congrArg some (by kernel_rfl))
 f266:=Tryz.func124.trans (congrArg some (by kernel_rfl))
 f267:=Tryz.func120.trans (congrArg some (by kernel_rfl))
 f314:=Tryz.func125.trans (congrArg some (by kernel_rfl))
 t0:=Tryz.underlying0
 a0:=Tryz.isAgg0
 z0:=Tryz.sizeOf0
 v0:=Tryz.zeroValue0
 t3:=Tryz.underlying3
 a3:=Tryz.isAgg3
 z3:=Tryz.sizeOf3
 v3:=Tryz.zeroValue3
 t4:=Tryz.underlying4
 a4:=Tryz.isAgg4
 z4:=Tryz.sizeOf4
 v4:=Tryz.zeroValue4
 t5:=Tryz.underlying5
 a5:=Tryz.isAgg5
 z5:=Tryz.sizeOf5
 v5:=Tryz.zeroValue5
 t9:=Tryz.underlying9
 a9:=Tryz.isAgg9
 z9:=Tryz.sizeOf9
 v9:=Tryz.zeroValue9
 t46:=Tryz.underlying66
 a46:=Tryz.isAgg66
 z46:=Tryz.sizeOf66
 v46:=Tryz.zeroValue66
 t51:=Tryz.underlying128
 a51:=Tryz.isAgg128
 z51:=Tryz.sizeOf128
 v51:=Tryz.zeroValue128
 t146:=Tryz.underlying129
 a146:=Tryz.isAgg129
 z146:=Tryz.sizeOf129
 v146:=Tryz.zeroValue129
 g1:=by kernel_rfl }
open Go.RowKit Go.Lib in
theorem Tryz.strings_Count_one (s:ByteArray) (c:UInt8) (w:World) :
    Calls Tryz.prog 78 #[.string s,.string ⟨#[c]⟩] w fun e w'=>e=.returned (.int .i64 (Lib.countByte s.data.toList c))∧w'=w:=Any.strings_Count_one Tryz.lays138 s c w
def Tryz.lays212_ren:Go.Shelf.Ren:=⟨fun|212=>94|263=>108|264=>109|n=>n,fun|46=>66|51=>128|146=>129|53=>28|148=>93|n=>n,fun|n=>n⟩
theorem Tryz.lays212:Go.Proofs.Lays.n212 Tryz.prog Tryz.lays212_ren:={
 mixed:=by kernel_rfl
 f212:=Tryz.func94.trans (congrArg some (by kernel_rfl))
 f263:=Tryz.func108.trans (congrArg some (by kernel_rfl))
 f264:=Tryz.func109.trans (congrArg some (by kernel_rfl))
 t46:=Tryz.underlying66
 a46:=Tryz.isAgg66
 z46:=Tryz.sizeOf66
 v46:=Tryz.zeroValue66
 t51:=Tryz.underlying128
 a51:=Tryz.isAgg128
 z51:=Tryz.sizeOf128
 v51:=Tryz.zeroValue128
 t53:=Tryz.underlying28
 a53:=Tryz.isAgg28
 z53:=Tryz.sizeOf28
 v53:=Tryz.zeroValue28
 t146:=Tryz.underlying129
 a146:=Tryz.isAgg129
 z146:=Tryz.sizeOf129
 v146:=Tryz.zeroValue129
 t148:=Tryz.underlying93
 a148:=Tryz.isAgg93
 z148:=Tryz.sizeOf93
 v148:=Tryz.zeroValue93 }
open Go.RowKit Go.Lib in
theorem Tryz.bits_Mul (x y:Nat) (hx:x<18446744073709551616) (hy:y<18446744073709551616) (w:World) :
    Calls Tryz.prog 94 #[.int .u64 x,.int .u64 y] w fun e w'=>e=.returned (.tuple #[.int .u64 ((x*y / 18446744073709551616:Nat):Int),.int .u64 ((x*y % 18446744073709551616:Nat):Int)])∧w'=w:=Any.bits_Mul Tryz.lays212 x y hx hy w
def Tryz.lays105_ren:Go.Shelf.Ren:=⟨fun|105=>86|212=>94|99=>101|165=>102|166=>103|170=>104|169=>105|263=>108|264=>109|206=>113|240=>114|241=>115|276=>122|277=>123|n=>n,fun|9=>9|3=>3|4=>4|20=>20|0=>0|46=>66|109=>111|5=>5|72=>120|76=>124|51=>128|146=>129|53=>28|148=>93|70=>118|37=>67|75=>123|127=>132|164=>135|80=>109|n=>n,fun|n=>n⟩
theorem Tryz.lays105:Go.Proofs.Lays.n105 Tryz.prog Tryz.lays105_ren:={
 mixed:=by kernel_rfl
 f99:=Tryz.func101.trans (congrArg some (by kernel_rfl))
 f105:=Tryz.func86.trans (congrArg some (by kernel_rfl))
 f165:=Tryz.func102.trans (congrArg some (by kernel_rfl))
 f166:=Tryz.func103.trans (congrArg some (by kernel_rfl))
 f169:=Tryz.func105.trans (congrArg some (by kernel_rfl))
 f170:=Tryz.func104.trans (congrArg some (by kernel_rfl))
 f206:=Tryz.func113.trans (congrArg some (by kernel_rfl))
 f212:=Tryz.func94.trans (congrArg some (by kernel_rfl))
 f240:=Tryz.func114.trans (congrArg some (by kernel_rfl))
 f241:=Tryz.func115.trans (congrArg some (by kernel_rfl))
 f263:=Tryz.func108.trans (congrArg some (by kernel_rfl))
 f264:=Tryz.func109.trans (congrArg some (by kernel_rfl))
 f276:=Tryz.func122.trans (congrArg some (by kernel_rfl))
 f277:=Tryz.func123.trans (congrArg some (by kernel_rfl))
 t0:=Tryz.underlying0
 a0:=Tryz.isAgg0
 z0:=Tryz.sizeOf0
 v0:=Tryz.zeroValue0
 t3:=Tryz.underlying3
 a3:=Tryz.isAgg3
 z3:=Tryz.sizeOf3
 v3:=Tryz.zeroValue3
 t4:=Tryz.underlying4
 a4:=Tryz.isAgg4
 z4:=Tryz.sizeOf4
 v4:=Tryz.zeroValue4
 t5:=Tryz.underlying5
 a5:=Tryz.isAgg5
 z5:=Tryz.sizeOf5
 v5:=Tryz.zeroValue5
 t9:=Tryz.underlying9
 a9:=Tryz.isAgg9
 z9:=Tryz.sizeOf9
 v9:=Tryz.zeroValue9
 t20:=Tryz.underlying20
 a20:=Tryz.isAgg20
 z20:=Tryz.sizeOf20
 v20:=Tryz.zeroValue20
 t37:=Tryz.underlying67
 a37:=Tryz.isAgg67
 z37:=Tryz.sizeOf67
 v37:=Tryz.zeroValue67
 t46:=Tryz.underlying66
 a46:=Tryz.isAgg66
 z46:=Tryz.sizeOf66
 v46:=Tryz.zeroValue66
 t51:=Tryz.underlying128
 a51:=Tryz.isAgg128
 z51:=Tryz.sizeOf128
 v51:=Tryz.zeroValue128
 t53:=Tryz.underlying28
 a53:=Tryz.isAgg28
 z53:=Tryz.sizeOf28
 v53:=Tryz.zeroValue28
 t70:=Tryz.underlying118
 a70:=Tryz.isAgg118
 z70:=Tryz.sizeOf118
 v70:=Tryz.zeroValue118
 t72:=Tryz.underlying120
 a72:=Tryz.isAgg120
 z72:=Tryz.sizeOf120
 v72:=Tryz.zeroValue120
 t75:=Tryz.underlying123
 a75:=Tryz.isAgg123
 z75:=Tryz.sizeOf123
 v75:=Tryz.zeroValue123
 t76:=Tryz.underlying124
 a76:=Tryz.isAgg124
 z76:=Tryz.sizeOf124
 v76:=Tryz.zeroValue124
 t109:=Tryz.underlying111
 a109:=Tryz.isAgg111
 z109:=Tryz.sizeOf111
 v109:=Tryz.zeroValue111
 t127:=Tryz.underlying132
 a127:=Tryz.isAgg132
 z127:=Tryz.sizeOf132
 v127:=Tryz.zeroValue132
 t146:=Tryz.underlying129
 a146:=Tryz.isAgg129
 z146:=Tryz.sizeOf129
 v146:=Tryz.zeroValue129
 t148:=Tryz.underlying93
 a148:=Tryz.isAgg93
 z148:=Tryz.sizeOf93
 v148:=Tryz.zeroValue93
 t164:=Tryz.underlying135
 a164:=Tryz.isAgg135
 z164:=Tryz.sizeOf135
 v164:=Tryz.zeroValue135 }
theorem Tryz.Builder_Extra_105:Builder.Extra Tryz.prog Tryz.lays105_ren:={
 sizeBuilder:=by kernel_rfl
 liesBuilder:=by kernel_rfl
 t5:=Tryz.underlying5
 a5:=Tryz.isAgg5
 z5:=Tryz.sizeOf5
 v5:=Tryz.zeroValue5
 infoByte:=by kernel_rfl
 cellsByte:=by kernel_rfl
 sizeByte:=by kernel_rfl
 neB5:=by decide }
open Go.RowKit Go.Lib in
theorem Tryz.strings_Repeat (s:ByteArray) (c:Nat) (w:World) (hc:c≤9223372036854775807) (hlen:s.size*c≤140737488355328) :
    Calls Tryz.prog 86 #[.string s,.int .i64 c] w fun e w'=>e=.returned (.string ⟨(Lib.repeatL s.data.toList c).toArray⟩)∧Below w.heap.size w w':=Any.strings_Repeat Tryz.lays105 Tryz.Builder_Extra_105 s c w hc hlen
def Tryz.laysSlE29_f85_ren:Go.Shelf.Ren:=⟨fun|29=>85|n=>n,fun|22=>22|23=>9|3=>3|0=>0|4=>4|n=>n,fun|n=>n⟩
theorem Tryz.laysSlE29_f85:Go.Proofs.SlLaysE.n29 Tryz.prog Tryz.laysSlE29_f85_ren:={
 mixed:=by kernel_rfl
 f29:=⟨Tryz.f85.name,by decide,Tryz.func85.trans (congrArg some (by kernel_rfl))⟩
 t0:=Tryz.underlying0
 a0:=Tryz.isAgg0
 z0:=Tryz.sizeOf0
 v0:=Tryz.zeroValue0
 t3:=Tryz.underlying3
 a3:=Tryz.isAgg3
 z3:=Tryz.sizeOf3
 v3:=Tryz.zeroValue3
 t4:=Tryz.underlying4
 a4:=Tryz.isAgg4
 z4:=Tryz.sizeOf4
 v4:=Tryz.zeroValue4
 t22:=Tryz.underlying22
 a22:=Tryz.isAgg22
 z22:=Tryz.sizeOf22
 v22:=Tryz.zeroValue22
 a23:=Tryz.isAgg9
 z23:=Tryz.sizeOf9 }
open Go.Lib in
theorem Tryz.slices_Index {α:Type} [Inhabited α] (enc:α→Value) (eq:α→α→Bool) (heq:EqlAt Tryz.prog 9 enc eq) (b off n c:Nat) (zs:List α) (x:α) (w:World) (hz:n≤zs.length) (hbig:n≤9223372036854775807) (hc:∀ j,j<zs.length→w.cell? ⟨b,off+j,none⟩=some (enc zs[j]!)) :
    Calls Tryz.prog 85 #[.slice (some ⟨b,off,none⟩) n c,enc x] w fun e w'=>e=.returned (.int .i64 (Lib.idxBy eq (zs.take n) x))∧w'=w:=AnyE.slices_Index Tryz.laysSlE29_f85 enc eq heq b off n c zs x w hz hbig hc
open Go.Lib in
theorem Tryz.slices_Index_empty {α:Type} [Inhabited α] (a:Option Addr) (c:Nat) (xv:Value) (w:World) :
    Calls Tryz.prog 85 #[.slice a 0 c,xv] w fun e w'=>e=.returned (.int .i64 (-1))∧w'=w:=AnyE.slices_Index_empty Tryz.laysSlE29_f85 a c xv w
end Go.Proofs.YtbnngjhnkegliaaGreat
namespace Go.Proofs.YtbnngjhnkegliaaGreat
open Go.RowKit
theorem firstOf_some {L:List ByteArray} {s:ByteArray} {k:Nat}:firstOf L s=some k↔L[k]?=some s∧∀ j,j<k→L[j]?≠some s:=by
 unfold firstOf
 rw[List.findIdx?_eq_some_iff_getElem]
 constructor
 · rintro⟨h,h1,h2⟩
   rw[decide_eq_true_eq] at h1
   refine ⟨by rw[List.getElem?_eq_getElem h,h1],fun j hj e=>?_⟩
   have hjl:j<L.length:=Nat.lt_trans hj h
   rw[List.getElem?_eq_getElem hjl] at e
   injection e with e
   have:=h2 j hj
   rw[e] at this
   simp at this
 · rintro⟨h1,h2⟩
   have h:=lt_of_get h1
   refine ⟨h,?_,fun j hj=>?_⟩
   · rw[List.getElem?_eq_getElem h] at h1
     injection h1 with h1
     rw[decide_eq_true_eq]
     exact h1
   · have hjl:j<L.length:=Nat.lt_trans hj h
     have:=h2 j hj
     rw[List.getElem?_eq_getElem hjl] at this
     simp only[decide_eq_true_eq]
     exact fun e=>this (by rw[e])
theorem firstOf_none {L:List ByteArray} {s:ByteArray}:firstOf L s=none↔∀ j:Nat,L[j]?≠some s:=by
 unfold firstOf
 rw[List.findIdx?_eq_none_iff]
 constructor
 · intro h j e
   have:=h s (List.mem_of_getElem? e)
   simp at this
 · intro h x hx
   obtain⟨j,hj⟩:=List.getElem?_of_mem hx
   rw[decide_eq_false_iff_not]
   rintro rfl
   exact h j hj
def idxI (L:List ByteArray) (s:ByteArray):Int:=match firstOf L s with|some k=>k|none => -1
theorem idxBy_str (L:List ByteArray) (s:ByteArray):Lib.idxBy (fun x y:ByteArray=>x.toList == y.toList) L s=idxI L s:=by
 unfold idxI
 have hne:∀ {x y:ByteArray},x≠y→(x.toList == y.toList)=false:=fun h=>toList_ne h
 cases h:firstOf L s with
 | none =>
   have h1:=firstOf_none.1 h
   have:=Lib.idxBy_miss (fun x y:ByteArray=>x.toList == y.toList) L L.length s (fun j hj=>hne (fun e=>h1 j (by rw[e];simp [List.getElem?_eq_getElem hj,List.getElem!_eq_getElem?_getD])))
   rwa[List.take_length] at this
 | some k =>
   obtain⟨h1,h2⟩:=firstOf_some.1 h
   have hk:=lt_of_get h1
   have e:∀ {j:Nat} {t:ByteArray},L[j]?=some t→L[j]! = t:=fun h=>by rw[List.getElem!_eq_getElem?_getD,h];rfl
   have:=Lib.idxBy_hit (fun x y:ByteArray=>x.toList == y.toList) L L.length k s hk (nlr _) (by rw[e h1];simp) (fun j hj=>hne (fun e'=>by
    obtain⟨t,ht⟩:=get_lt (xs:=L) (k:=j) (by omega)
    rw[e ht] at e'
    exact h2 j hj (by rw[ht,e'])))
   rw[List.take_length] at this
   exact this
theorem index_any (v:Value) (L:List ByteArray) (s:ByteArray) (w:World) (h:StrRow w v L):Calls Tryz.prog 85 #[v,.string s] w (Ret w (.int .i64 (idxI L s))):=by
 obtain⟨ao,ca,rfl,a1,a2,a3⟩:=h.out
 unfold maxLen at a2
 rcases a3 with h0|⟨b,off,rfl,hb,hc⟩
 · have hnil:=List.eq_nil_of_length_eq_zero h0
   subst hnil
   exact (Tryz.slices_Index_empty (α:=ByteArray) ao ca (.string s) w).mono fun e w' ⟨h1,h2⟩=>by
    subst h1 h2
    exact Ret.mk (Below.refl _ _)
 · refine (Tryz.slices_Index Value.string (fun x y=>x.toList == y.toList) (EqlAt.string Tryz.prog 9) b off L.length ca L s w (nlr _) (by omega) (fun j hj=>?_)).mono fun e w' ⟨h1,h2⟩=>?_
   · have:=hc j L[j] (List.getElem?_eq_getElem hj)
     rw[this,List.getElem!_eq_getElem?_getD,List.getElem?_eq_getElem hj]
     rfl
   · subst h1 h2
     exact Ret.mk' (by rw[List.take_length,idxBy_str]) (Below.refl _ _)
theorem zeroB_iff (s:ByteArray):zeroB s=decide (Lib.countByte s.data.toList 0=s.size):=by
 unfold zeroB Lib.countByte
 rw[Bool.eq_iff_iff,decide_eq_true_eq,List.all_eq_true,show s.size=s.data.toList.length from (Array.length_toList ..).symm,List.count_eq_length]
 constructor
 · intro h b hb
   have:=h b hb
   rw[beq_iff_eq] at this
   exact this.symm
 · intro h b hb
   rw[beq_iff_eq]
   exact (h b hb).symm
set_option maxHeartbeats 1000000 in
theorem zeros_any (s:ByteArray) (w:World):Calls Tryz.prog 83 #[.string s] w (Ret w (.bool (zeroB s))):=by
 have C:=fun w=>Tryz.strings_Count_one s 0 w
 have hz:=zeroB_iff s
 have hc:Lib.countByte s.data.toList 0≤s.size:=by
  have h:s.data.toList.count 0≤s.data.toList.length:=List.count_le_length
  rwa[Array.length_toList] at h
 obtain⟨k,hk⟩:∃ k,Lib.countByte s.data.toList 0=k:=⟨_,rfl⟩
 obtain⟨m,hm⟩:∃ m,s.size=m:=⟨_,rfl⟩
 rw[hk] at C hz hc
 rw[hm] at hz hc
 have HM:=lh hm;clear hm
 have HC:=lh C;clear C hk
 by_cases h:k=m
 · rw[hz,decide_eq_true h]
   clear hz
   have HE:=lh h;clear h
   go_enter Tryz.func83,Tryz.ntmps83
   go_wp2_with fail
   with_reducible refine (HC.out _).mono ?_
   rintro e w1 ⟨rfl,rfl⟩
   go_wp2_with fail
   go_ret
   exact Ret.mk' (congrArg Value.bool (by have h1:=HE.out;have h2:=HM.out;rw[h2,h1];simp)) bel
 · rw[hz,decide_eq_false h]
   clear hz
   have HE:=lh h;clear h
   go_enter Tryz.func83,Tryz.ntmps83
   go_wp2_with fail
   with_reducible refine (HC.out _).mono ?_
   rintro e w1 ⟨rfl,rfl⟩
   go_wp2_with fail
   go_ret
   exact Ret.mk' (congrArg Value.bool (by have h1:=HE.out;have h2:=HM.out;rw[h2];simp;omega)) bel
set_option maxHeartbeats 1000000 in
theorem hzeros_any (s:ByteArray) (w:World):Calls Tryz.prog 45 #[.string s] w (Ret w (.bool (zeroB s))):=by
 have C:=fun w=>Tryz.strings_Count_one s 0 w
 have hz:=zeroB_iff s
 have hc:Lib.countByte s.data.toList 0≤s.size:=by
  have h:s.data.toList.count 0≤s.data.toList.length:=List.count_le_length
  rwa[Array.length_toList] at h
 obtain⟨k,hk⟩:∃ k,Lib.countByte s.data.toList 0=k:=⟨_,rfl⟩
 obtain⟨m,hm⟩:∃ m,s.size=m:=⟨_,rfl⟩
 rw[hk] at C hz hc
 rw[hm] at hz hc
 have HM:=lh hm;clear hm
 have HC:=lh C;clear C hk
 by_cases h:k=m
 · rw[hz,decide_eq_true h]
   clear hz
   have HE:=lh h;clear h
   go_enter Tryz.func45,Tryz.ntmps45
   go_wp2_with fail
   with_reducible refine (HC.out _).mono ?_
   rintro e w1 ⟨rfl,rfl⟩
   go_wp2_with fail
   go_ret
   exact Ret.mk' (congrArg Value.bool (by have h1:=HE.out;have h2:=HM.out;rw[h2,h1];simp)) bel
 · rw[hz,decide_eq_false h]
   clear hz
   have HE:=lh h;clear h
   go_enter Tryz.func45,Tryz.ntmps45
   go_wp2_with fail
   with_reducible refine (HC.out _).mono ?_
   rintro e w1 ⟨rfl,rfl⟩
   go_wp2_with fail
   go_ret
   exact Ret.mk' (congrArg Value.bool (by have h1:=HE.out;have h2:=HM.out;rw[h2];simp;omega)) bel
def zeros128:ByteArray:=⟨(List.replicate 128 0).toArray⟩
theorem zeros128_size:zeros128.size=128:=by decide +kernel
theorem zeros128_zero:zeroB zeros128=true:=by decide +kernel
theorem rep_any (w:World):Calls Tryz.prog 86 #[.string ⟨#[0]⟩,.int .i64 128] w (Ret w (.string zeros128)):=by
 have h:=Tryz.strings_Repeat ⟨#[0]⟩ 128 w (by omega) (by decide)
 rw[show (⟨(Lib.repeatL (⟨#[0]⟩:ByteArray).data.toList 128).toArray⟩:ByteArray)=zeros128 by decide +kernel] at h
 exact h
theorem flat_len {n:Nat} {M:List (List Int)}:∀ k,k≤M.length→mapUp n M k=true→(M.take k).flatten.length≤32*k
 | 0,_,_=>by simp
 | k+1,hk,h=>by
   obtain⟨l,hl⟩:=get_lt (xs:=M) (k:=k) (by omega)
   unfold mapUp mapOk at h
   rw[List.take_add_one,hl,List.all_append,Bool.and_eq_true] at h
   have h1:=flat_len (n:=n) k (by omega) h.1
   have h2:rowOk n l=true:=by simpa using h.2
   unfold rowOk at h2
   rw[Bool.and_eq_true,decide_eq_true_eq] at h2
   rw[flat_succ hl,List.length_append]
   omega
theorem makes_num (n:Nat) (hn:n≤1000000) (w:World):(Instr.makeSlice 23 (.int .i64 (n:Int)) (.int .i64 (n:Int))).run Tryz.prog w=.ok (.slice (some ⟨w.heap.size,0,none⟩) n n) (w.alloc (.cells ((cntRow n []).map (Value.int .i64)).toArray 3)):=by
 rw[cntRow_nil,List.map_replicate]
 exact run_make_one (P:=Tryz.prog) 23 3 (.int .i64 0) 8 Tryz.underlying23 info_int rfl n (by omega) (by omega) w
theorem own_num {w:World} {base g n:Nat} {xs:List Int} (h:HasBlock w g ((xs.map (Value.int .i64)).toArray) 3) (hx:xs.length=n) (hn:n≤1000000) (hb:base≤g):OwnNum base w (.slice (some ⟨g,0,none⟩) n n) xs:=by
 unfold OwnNum OwnEnc
 rw[hx]
 refine ⟨by rw[List.length_map,hx,Nat.mul_one],.inr ⟨g,n,(xs.map (Value.int .i64)).toArray,rfl,hb,h,nlr _,by unfold maxLen;omega,by simp [hx],?_⟩⟩
 rw[Nat.mul_one]
 show (xs.map (Value.int .i64)).take n=_
 exact List.take_of_length_le (by rw[List.length_map,hx];exact nlr _)
set_option maxRecDepth 100000 in
set_option maxHeartbeats 8000000 in
theorem pvalid_any (vf vr vm:Value) (F:List ByteArray) (R:List Int) (M:List (List Int)) (w:World) (ha:StrRow w vf F) (hb:NumRow w vr R) (hc:MapRow w vm M) (hR:∀ x∈R,-9223372036854775808≤x∧x≤9223372036854775807) (hM:∀ l∈M,∀ x∈l,-9223372036854775808≤x∧x≤9223372036854775807):Calls Tryz.prog 66 #[.agg #[vf,vr,vm]] w (Ret w (.bool (poolB F R M))):=by
 obtain⟨ao,ca,rfl,a1,a2,a3⟩:=ha.out
 obtain⟨bo,cb,rfl,b1,b2,b3⟩:=hb.out
 obtain⟨us,hu1,hu2,hu3⟩:=hc
 obtain⟨co,cc,rfl,c1,c2,c3⟩:=hu1
 unfold maxLen at a2 b2 c2
 clear ha hb
 obtain⟨n,hn⟩:∃ n,F.length=n:=⟨_,rfl⟩
 obtain⟨r,hr⟩:∃ n,R.length=n:=⟨_,rfl⟩
 obtain⟨m,hm⟩:∃ n,M.length=n:=⟨_,rfl⟩
 have HN:=lh hn
 have HR:=lh hr
 have HM:=lh hm
 rw[hn] at a1 a3
 rw[hr] at b1 b3
 rw[hm] at c1 hu2
 have HU2:=lh hu2;clear hu2
 have HU3:=lh hu3;clear hu3
 unfold poolB poolHead
 rw[hn,hr,hm]
 clear hn hr hm
 by_cases h1:1≤n∧n≤96∧r=n∧m≤8
 rotate_left
 · rw[decide_eq_false h1,Bool.false_and]
   by_cases g1:n<1
   · clear h1
     go_enter Tryz.func66,Tryz.ntmps66
     go_wp2_with fail
     go_ret
     exact Ret.mk bel
   by_cases g2:96<n
   · clear h1
     go_enter Tryz.func66,Tryz.ntmps66
     go_wp2_with fail
     go_ret
     exact Ret.mk bel
   by_cases g3:r=n
   · have g4:8<m:=by omega
     clear h1
     subst g3
     go_enter Tryz.func66,Tryz.ntmps66
     go_wp2_with fail
     go_ret
     exact Ret.mk bel
   · have e1:((r:Int) != n)=true:=by rw[bne_iff_ne];omega
     have e2:(r != n)=true:=by rw[bne_iff_ne];omega
     clear h1
     go_enter Tryz.func66,Tryz.ntmps66
     go_wp2_with fail
     go_ret
     exact Ret.mk bel
 rw[decide_eq_true h1,Bool.true_and]
 obtain⟨h1,h2,hrn,h4⟩:=h1
 subst hrn
 have hmk:=makes_num r (by omega)
 have HPR:=lh hR;clear hR
 have HPM:=lh hM;clear hM
 go_enter Tryz.func66,Tryz.ntmps66
 go_wp2_with fail
 have D0:=(HasBlock.made w #[.slice ao r ca,.slice bo r cb,.slice co m cc] 26).alloc (.cells ((cntRow r []).map (Value.int .i64)).toArray 3)
 have D9:=HasBlock.made (w.alloc (.cells #[.slice ao r ca,.slice bo r cb,.slice co m cc] 26)) ((cntRow r []).map (Value.int .i64)).toArray 3
 simp only[sizes] at D9
 have o0:=lh (own_num D9 (cntRow_len _ _) (by omega) (nlr _))
 have hbw0:Below w.heap.size w ((w.alloc (.cells #[.slice ao r ca,.slice bo r cb,.slice co m cc] 26)).alloc (.cells ((cntRow r []).map (Value.int .i64)).toArray 3)):=bel
 clear D9 hmk
 go_loopw [38] (fun iv wr=>∃ i:Nat,i≤m∧iv=.int .i64 i∧Hid (mapUp r M i=true)∧HasBlock wr w.heap.size #[.slice ao r ca,.slice bo r cb,.slice co m cc] 26∧OwnNum (w.heap.size+1) wr (.slice (some ⟨w.heap.size+1,0,none⟩) r r) (cntRow r (M.take i).flatten)∧Below w.heap.size w wr) (fun iv _=>m - (intOf iv).toNat)
 case atStart=>exact⟨0,Nat.zero_le _,rfl,rfl,D0,o0.out,hbw0⟩
 case round =>
  obtain⟨i,hi,rfl,hU,D,hown,hbw⟩:=hrel
  clear D0 o0 hbw0
  have hz0:=hbw.size
  have HO:=lh hown;clear hown
  have x0:=(D.cell 0).trans rfl
  have x1:=(D.cell 1).trans rfl
  have x2:=(D.cell 2).trans rfl
  have xf:=D.free
  have xz:=D.lt
  by_cases hlt:i<m
  · obtain⟨l,hl⟩:=get_lt (xs:=M) (k:=i) (by rw[HM.out];exact hlt)
    obtain⟨u,hu⟩:=get_lt (xs:=us) (k:=i) (by rw[HU2.out];exact hlt)
    have hrow:=HU3.out i u l hu hl
    obtain⟨uo,uc,rfl,d1,d2,d3⟩:=hrow.out
    unfold maxLen at d2
    have hlb:=HPM.out l (List.mem_of_getElem? hl)
    obtain⟨q,hq⟩:∃ q,l.length=q:=⟨_,rfl⟩
    rw[hq] at d1 d3 hu
    have HQ:=lh hq;clear hq
    obtain⟨mb,moff,rfl,hmb,hmc⟩:=c3.resolve_left (by intro e;rw[e] at hu;simp at hu)
    have cm:=(hbw.cell (p:=⟨mb,moff+i,none⟩) hmb).trans (hmc i _ hu)
    have HLB:=lh hlb;clear hlb
    have HL:=lh hl;clear hl hu hmc c3 hrow
    by_cases g1:1≤q∧q≤32
    rotate_left
    · have hf:mapOk r M=false:=mapOk_false HL.out (rowOk_len (by rw[HQ.out];exact g1))
      have HF:=lh hf;clear hf
      by_cases g2:q<1
      · clear g1
        go_wp2_with fail
        go_ret
        exact Ret.mk' (by rw[HF.out];rfl) bel
      · have g3:32<q:=by omega
        clear g1
        go_wp2_with fail
        go_ret
        exact Ret.mk' (by rw[HF.out];rfl) bel
    obtain⟨g1,g2⟩:=g1
    have hflat:=flat_len (n:=r) i (by rw[HM.out];exact hi) hU.out
    go_wp2_with fail
    obtain⟨wo,rfl⟩:∃ wo:World,wo=wr:=⟨_,rfl⟩
    go_loopw [52] (fun kv wi=>∃ k:Nat,k≤q∧kv=.int .i64 k∧Hid ((l.take k).all (pageOk r)=true)∧HasBlock wi w.heap.size #[.slice ao r ca,.slice bo r cb,.slice (some ⟨mb,moff,none⟩) m cc] 26∧OwnNum (w.heap.size+1) wi (.slice (some ⟨w.heap.size+1,0,none⟩) r r) (cntRow r ((M.take i).flatten++l.take k))∧Below w.heap.size w wi) (fun kv _=>q - (intOf kv).toNat)
    case atStart=>exact⟨0,Nat.zero_le _,rfl,rfl,D,by simpa using HO.out,hbw⟩
    case round =>
     obtain⟨k,hk,rfl,hA,E,hown,hbi⟩:=hrel
     clear D HO hbw cm x0 x1 x2 xf xz
     have hz1:=hbi.size
     have HO:=lh hown;clear hown
     have x0:=(E.cell 0).trans rfl
     have x1:=(E.cell 1).trans rfl
     have x2:=(E.cell 2).trans rfl
     have xf:=E.free
     have xz:=E.lt
     by_cases hkq:k<q
     · obtain⟨f,hf⟩:=get_lt (xs:=l) (k:=k) (by rw[HQ.out];exact hkq)
       have hfb:=HLB.out f (List.mem_of_getElem? hf)
       obtain⟨lb,loff,rfl,hlbs,hlc⟩:=d3.resolve_left (by omega)
       have cf:=(hbi.cell (p:=⟨lb,loff+k,none⟩) (show lb<w.heap.size by omega)).trans (hlc k f hf)
       have HFK:=lh hf;clear hf hlc d3
       by_cases hf1:f = -1
       · subst hf1
         have hup:=rowUp_succ (n:=r) HFK.out hA.out (by unfold pageOk;exact decide_eq_true (by omega))
         have HUP:=lh hup;clear hup
         go_wp2_with fail
         go_roundw
         case rel =>
          refine ⟨k+1,by omega,by go_num,HUP.out,E,?_,hbi⟩
          have h:=HO.out
          rw[take_succ' HFK.out,←List.append_assoc,cntRow_neg]
          exact h
         case measure=>simp [intOf];omega
       have e1:(f == -1)=false:=by rw[beq_eq_false_iff_ne];exact hf1
       by_cases hf0:f<0
       · have hno:mapOk r M=false:=mapOk_false HL.out (rowOk_at HFK.out (by unfold pageOk;exact decide_eq_false (by omega)))
         have HF:=lh hno;clear hno hf1
         go_wp2_with fail
         go_ret
         exact Ret.mk' (by rw[HF.out];rfl) bel
       by_cases hfr:(r:Int)≤f
       · have hno:mapOk r M=false:=mapOk_false HL.out (rowOk_at HFK.out (by unfold pageOk;exact decide_eq_false (by omega)))
         have HF:=lh hno;clear hno hf1
         go_wp2_with fail
         go_ret
         exact Ret.mk' (by rw[HF.out];rfl) bel
       obtain⟨j,rfl⟩:∃ j:Nat,f=j:=⟨f.toNat,by omega⟩
       have hjr:j<r:=by omega
       have hup:=rowUp_succ (n:=r) HFK.out hA.out (by unfold pageOk;exact decide_eq_true (by omega))
       have HUP:=lh hup;clear hup hf1
       have hcnt:=count_le_len ((M.take i).flatten++l.take k) (j:Int)
       rw[List.length_append,List.length_take] at hcnt
       have hinc:=cntRow_inc ((M.take i).flatten++l.take k) hjr
       obtain⟨t1,t2⟩:=HO.out.at (cntRow_at ((M.take i).flatten++l.take k) hjr)
       obtain⟨ct,hct⟩:∃ c,((M.take i).flatten++l.take k).count (j:Int)=c:=⟨_,rfl⟩
       rw[hct] at hcnt hinc t1
       have hcb:ct≤1000:=by omega
       have HINC:=lh hinc;clear hinc hct hcnt
       have hgw:=(World.ownsRow.lt HO.out.raw (w.heap.size+1) rfl).2
       go_wp2_with fail
       go_roundw
       case rel =>
        refine ⟨k+1,by omega,by go_num,HUP.out,E.set_ne (by omega) _,?_,bel⟩
        rw[take_succ' HFK.out,←List.append_assoc,HINC.out]
        exact HO.out.put j _
       case measure=>simp [intOf];omega
     · obtain rfl:k=q:=by omega
       have hrow:=rowUp_all (n:=r) (l:=l) (by rw[HQ.out];exact⟨g1,g2⟩) (by rw[HQ.out];exact hA.out)
       have hup:=mapUp_succ HL.out hU.out hrow
       have hfl:=flat_succ HL.out
       have HUP:=lh hup;clear hup hrow
       have HFL:=lh hfl;clear hfl
       go_wp2_with fail
       go_roundw
       case rel =>
        refine ⟨i+1,by omega,by go_num,HUP.out,E,?_,hbi⟩
        rw[HFL.out]
        have h:=HO.out
        rw[List.take_of_length_le (l:=l) (by rw[HQ.out];exact nlr _)] at h
        exact h
       case measure=>simp [intOf];omega
  · obtain rfl:i=m:=by omega
    have hall:M.take i=M:=by rw[←HM.out];exact List.take_length
    have hmap:mapOk r M=true:=by have h:=hU.out;unfold mapUp at h;rwa[hall] at h
    have HO':=HO.out
    rw[hall] at HO'
    obtain⟨P,hP⟩:∃ P,M.flatten=P:=⟨_,rfl⟩
    rw[hP] at HO'
    have HMAP:=lh hmap
    have HPF:=lh hP
    have HOP:=lh HO';clear HO' HO hall hmap hP hU HM HU2 HU3 HPM
    obtain⟨fb,foff,rfl,hfb,hfc⟩:=a3.resolve_left (by omega)
    obtain⟨rb,roff,rfl,hrb,hrc⟩:=b3.resolve_left (by omega)
    have HFC:=lh hfc;clear hfc a3
    have HRC:=lh hrc;clear hrc b3
    go_wp2_with fail
    obtain⟨wo,rfl⟩:∃ wo:World,wo=wr:=⟨_,rfl⟩
    go_loopw [76] (fun kv wi=>∃ k:Nat,k≤r∧kv=.int .i64 k∧Hid (framesOk F R P k=true)∧HasBlock wi w.heap.size #[.slice (some ⟨fb,foff,none⟩) r ca,.slice (some ⟨rb,roff,none⟩) r cb,.slice co i cc] 26∧OwnNum (w.heap.size+1) wi (.slice (some ⟨w.heap.size+1,0,none⟩) r r) (cntRow r P)∧Below w.heap.size w wi) (fun kv _=>r - (intOf kv).toNat)
    case atStart=>exact⟨0,Nat.zero_le _,rfl,rfl,D,HOP.out,hbw⟩
    case round =>
     obtain⟨k,hk,rfl,hA,E,hown,hbi⟩:=hrel
     clear D HOP hbw x0 x1 x2 xf xz
     have hz1:=hbi.size
     have HO:=lh hown;clear hown
     have x0:=(E.cell 0).trans rfl
     have x1:=(E.cell 1).trans rfl
     have x2:=(E.cell 2).trans rfl
     have xf:=E.free
     have xz:=E.lt
     by_cases hkr:k<r
     · obtain⟨s,hs⟩:=get_lt (xs:=F) (k:=k) (by rw[HN.out];exact hkr)
       obtain⟨x,hx⟩:=get_lt (xs:=R) (k:=k) (by rw[HR.out];exact hkr)
       have hxb:=HPR.out x (List.mem_of_getElem? hx)
       have q1:=(hbi.cell (p:=⟨fb,foff+k,none⟩) hfb).trans (HFC.out k s hs)
       have q2:=(hbi.cell (p:=⟨rb,roff+k,none⟩) hrb).trans (HRC.out k x hx)
       obtain⟨t1,_⟩:=HO.out.at (cntRow_at P hkr)
       have hgw:=(World.ownsRow.lt HO.out.raw (w.heap.size+1) rfl).2
       have hfb2:fb<wr.heap.size:=by omega
       have hrb2:rb<wr.heap.size:=by omega
       have hfr:frameOk F R P k=(decide (x=((P.count (k:Int):Nat):Int)) && (decide (P.count (k:Int)=0) == decide (s.size=0)) && (decide (s.size=0) || (decide (s.size=128) && !zeroB s))):=by unfold frameOk;rw[hs,hx]
       obtain⟨ct,hct⟩:∃ c,P.count (k:Int)=c:=⟨_,rfl⟩
       rw[hct] at t1 hfr
       have HFR:=lh hfr;clear hfr hct hs hx
       by_cases hxc:x=(ct:Int)
       rotate_left
       · have e1:(x != (ct:Int))=true:=by rw[bne_iff_ne];exact hxc
         have hno:frameOk F R P k=false:=by (rw[HFR.out,decide_eq_false hxc,Bool.false_and,Bool.false_and])
         have HF:=lh (framesOk_false hno hkr);clear hno
         go_wp2_with fail
         refine wp_region_quiet_below (by kernel_rfl) (by kernel_rfl) ?_
         repeat (go_big_quiet_step (first|fail|fail))
         refine wpQuiet_nil ?_
         intro w3 hw3
         have hb3:=below_of_regrown hw3
         clear hw3
         obtain⟨hc3,hf3⟩:=bcell hb3
         have hz3:=bsize hb3
         try simp only[sizes1] at hz3
         try simp only[sizes] at hc3 hf3
         go_wp2_with fail
         go_ret
         exact Ret.mk' (by rw[HMAP.out,HPF.out,HF.out];rfl) bel
       subst hxc
       have hii:=isEmpty_iff s
       by_cases h0:ct=0
       · have e2:((ct:Int) == 0)=true:=by rw[beq_iff_eq];omega
         have e3:(ct == 0)=true:=by rw[beq_iff_eq];exact h0
         by_cases hs0:s.size=0
         · rw[decide_eq_true hs0] at hii
           have hyes:framesOk F R P (k+1)=true:=by rw[framesOk,hA.out,HFR.out,decide_eq_true h0,decide_eq_true hs0];simp
           have HY:=lh hyes;clear hyes h0 hs0
           go_wp2_with fail
           refine wp_region_quiet_below (by kernel_rfl) (by kernel_rfl) ?_
           repeat (go_big_quiet_step (first|fail|fail))
           refine wpQuiet_nil ?_
           intro w3 hw3
           have hb3:=below_of_regrown hw3
           clear hw3
           obtain⟨hc3,hf3⟩:=bcell hb3
           have hz3:=bsize hb3
           try simp only[sizes1] at hz3
           try simp only[sizes] at hc3 hf3
           have E3:=E.below hb3
           have P3:=HO.out.below hb3
           have hbw3:Below w.heap.size w w3:=hbi.trans (hb3.mono hbi.size)
           clear x0 x1 x2 xf xz
           clear hc3 hf3 hb3 E HO hbi q1 q2 t1
           have x0:=(E3.cell 0).trans rfl
           have x1:=(E3.cell 1).trans rfl
           have x2:=(E3.cell 2).trans rfl
           have xf:=E3.free
           have xz:=E3.lt
           go_wp2_with fail
           go_roundw
           case rel=>exact⟨k+1,by omega,by go_num,HY.out,E3,P3,hbw3⟩
           case measure=>simp [intOf];omega
         · rw[decide_eq_false hs0] at hii
           have hno2:frameOk F R P k=false:=by rw[HFR.out,decide_eq_true h0,decide_eq_false hs0];simp
           have HN2:=lh hno2;clear hno2 h0 hs0
           have hno:frameOk F R P k=false:=by exact HN2.out
           have HF:=lh (framesOk_false hno hkr);clear hno
           go_wp2_with fail
           refine wp_region_quiet_below (by kernel_rfl) (by kernel_rfl) ?_
           repeat (go_big_quiet_step (first|fail|fail))
           refine wpQuiet_nil ?_
           intro w3 hw3
           have hb3:=below_of_regrown hw3
           clear hw3
           obtain⟨hc3,hf3⟩:=bcell hb3
           have hz3:=bsize hb3
           try simp only[sizes1] at hz3
           try simp only[sizes] at hc3 hf3
           go_wp2_with fail
           go_ret
           exact Ret.mk' (by rw[HMAP.out,HPF.out,HF.out];rfl) bel
       · have e2:((ct:Int) == 0)=false:=by rw[beq_eq_false_iff_ne];omega
         have e3:(ct == 0)=false:=by rw[beq_eq_false_iff_ne];exact h0
         by_cases hs0:s.size=0
         · rw[decide_eq_true hs0] at hii
           have hno2:frameOk F R P k=false:=by rw[HFR.out,decide_eq_false h0,decide_eq_true hs0];simp
           have HN2:=lh hno2;clear hno2 h0 hs0
           have hno:frameOk F R P k=false:=by exact HN2.out
           have HF:=lh (framesOk_false hno hkr);clear hno
           go_wp2_with fail
           refine wp_region_quiet_below (by kernel_rfl) (by kernel_rfl) ?_
           repeat (go_big_quiet_step (first|fail|fail))
           refine wpQuiet_nil ?_
           intro w3 hw3
           have hb3:=below_of_regrown hw3
           clear hw3
           obtain⟨hc3,hf3⟩:=bcell hb3
           have hz3:=bsize hb3
           try simp only[sizes1] at hz3
           try simp only[sizes] at hc3 hf3
           go_wp2_with fail
           go_ret
           exact Ret.mk' (by rw[HMAP.out,HPF.out,HF.out];rfl) bel
         · rw[decide_eq_false hs0] at hii
           by_cases q128:s.size=128
           rotate_left
           · have hno2:frameOk F R P k=false:=by rw[HFR.out,decide_eq_false hs0,decide_eq_false q128];simp
             have HN2:=lh hno2;clear hno2 h0 hs0
             have se1:((s.size:Int) != 128)=true:=by rw[bne_iff_ne];omega
             have se2:(s.size != 128)=true:=by rw[bne_iff_ne];omega
             clear q128
             have hno:frameOk F R P k=false:=by exact HN2.out
             have HF:=lh (framesOk_false hno hkr);clear hno
             go_wp2_with fail
             refine wp_region_quiet_below (by kernel_rfl) (by kernel_rfl) ?_
             repeat (go_big_quiet_step (first|fail|fail))
             refine wpQuiet_nil ?_
             intro w3 hw3
             have hb3:=below_of_regrown hw3
             clear hw3
             obtain⟨hc3,hf3⟩:=bcell hb3
             have hz3:=bsize hb3
             try simp only[sizes1] at hz3
             try simp only[sizes] at hc3 hf3
             go_wp2_with fail
             go_ret
             exact Ret.mk' (by rw[HMAP.out,HPF.out,HF.out];rfl) bel
           have Z:=fun w=>zeros_any s w
           cases hzb:zeroB s
           · have hyes:framesOk F R P (k+1)=true:=by rw[framesOk,hA.out,HFR.out,decide_eq_false h0,decide_eq_false hs0,decide_eq_true q128,hzb];simp
             rw[hzb] at Z
             have HZ:=lh Z
             have HY:=lh hyes
             have se1:((s.size:Int) != 128)=false:=by rw[bne_eq_false_iff_eq];omega
             have se2:(s.size != 128)=false:=by rw[bne_eq_false_iff_eq];omega
             clear Z hyes h0 hs0 hzb q128
             go_wp2_with fail
             refine wp_region_quiet_below (by kernel_rfl) (by kernel_rfl) ?_
             repeat (go_big_quiet_step (first|fail|fail))
             refine wpQuiet_nil ?_
             intro w3 hw3
             have hb3:=below_of_regrown hw3
             clear hw3
             obtain⟨hc3,hf3⟩:=bcell hb3
             have hz3:=bsize hb3
             try simp only[sizes1] at hz3
             try simp only[sizes] at hc3 hf3
             have E3:=E.below hb3
             have P3:=HO.out.below hb3
             have hbw3:Below w.heap.size w w3:=hbi.trans (hb3.mono hbi.size)
             clear x0 x1 x2 xf xz
             clear hc3 hf3 hb3 E HO hbi q1 q2 t1
             go_wp2_with fail
             refine (HZ.out _).mono ?_
             rintro e w4 ⟨rfl,hb4⟩
             have E4:=E3.below hb4
             have P4:=P3.below hb4
             have hbw4:=hbw3.trans (hb4.mono hbw3.size)
             clear E3 P3 hbw3 hb4
             go_wp2_with fail
             go_roundw
             case rel=>exact⟨k+1,by omega,by go_num,HY.out,E4,P4,hbw4⟩
             case measure=>simp [intOf];omega
           · have hno2:frameOk F R P k=false:=by rw[HFR.out,decide_eq_false hs0,hzb];simp
             rw[hzb] at Z
             have HZ:=lh Z
             have HF:=lh (framesOk_false hno2 hkr)
             have se1:((s.size:Int) != 128)=false:=by rw[bne_eq_false_iff_eq];omega
             have se2:(s.size != 128)=false:=by rw[bne_eq_false_iff_eq];omega
             clear Z hno2 h0 hs0 hzb q128
             go_wp2_with fail
             refine wp_region_quiet_below (by kernel_rfl) (by kernel_rfl) ?_
             repeat (go_big_quiet_step (first|fail|fail))
             refine wpQuiet_nil ?_
             intro w3 hw3
             have hb3:=below_of_regrown hw3
             clear hw3
             obtain⟨hc3,hf3⟩:=bcell hb3
             have hz3:=bsize hb3
             try simp only[sizes1] at hz3
             try simp only[sizes] at hc3 hf3
             have hbw3:Below w.heap.size w w3:=hbi.trans (hb3.mono hbi.size)
             go_wp2_with fail
             refine (HZ.out _).mono ?_
             rintro e w4 ⟨rfl,hb4⟩
             go_wp2_with fail
             go_ret
             exact Ret.mk' (by rw[HMAP.out,HPF.out,HF.out];rfl) (hbw3.trans (hb4.mono hbw3.size))
     · obtain rfl:k=r:=by omega
       go_wp2_with fail
       go_ret
       exact Ret.mk' (by rw[HMAP.out,HPF.out,hA.out];rfl) bel
theorem Pl.is_no {P:Pl} {g p:Int} (h:¬(0≤g∧g<P.M.length∧0≤p∧p<(P.pages g.toNat).length)):P.is g p=false:=decide_eq_false h
theorem Pl.is_yes {P:Pl} {g p:Int} (h:0≤g∧g<P.M.length∧0≤p∧p<(P.pages g.toNat).length):P.is g p=true:=decide_eq_true h
theorem Pl.pages_eq {P:Pl} {g:Nat} {l:List Int} (hl:P.M[g]?=some l):P.pages g=l:=by unfold Pl.pages;rw[hl];rfl
theorem valid_pl (v:Value) (P:Pl) (w:World) (h:PlRow w v P) (hf:P.fit):Calls Tryz.prog 66 #[v] w (Ret w (.bool P.ok)):=by
 obtain⟨vf,vr,vm,rfl,h1,h2,h3⟩:=h
 exact pvalid_any vf vr vm P.F P.R P.M w h1 h2 h3 hf.1 hf.2
set_option maxHeartbeats 1000000 in
theorem ris_any (v:Value) (P:Pl) (g p:Int) (w:World) (h:PlRow w v P):Calls Tryz.prog 57 #[v,.int .i64 g,.int .i64 p] w (Ret w (.bool (P.is g p))):=by
 obtain⟨of,or',om,kf,kr,km,rfl,kf1,kf2,kr1,kr2,km1,km2⟩:=h.form
 obtain⟨n,hn⟩:∃ n,P.F.length=n:=⟨_,rfl⟩
 obtain⟨r,hr⟩:∃ n,P.R.length=n:=⟨_,rfl⟩
 obtain⟨m,hm⟩:∃ n,P.M.length=n:=⟨_,rfl⟩
 rw[hn] at h kf1 ⊢
 rw[hr] at h kr1 ⊢
 rw[hm] at h km1 ⊢
 have HN:=lh hn;clear hn
 have HR:=lh hr;clear hr
 have HM:=lh hm;clear hm
 by_cases g0:0≤g
 rotate_left
 · have hno:P.is g p=false:=Pl.is_no (fun hh=>g0 hh.1)
   have HNO:=lh hno;clear hno
   go_enter Tryz.func57,Tryz.ntmps57
   go_wp2_with fail
   skip
   go_ret
   exact Ret.mk' (by rw[HNO.out];first|rfl|exact congrArg Value.bool (decide_eq_false (by omega))) bel
 by_cases g1:g<m
 rotate_left
 · have hno:P.is g p=false:=Pl.is_no (fun hh=>g1 (by rw[←HM.out];exact hh.2.1))
   have HNO:=lh hno;clear hno
   go_enter Tryz.func57,Tryz.ntmps57
   go_wp2_with fail
   skip
   go_ret
   exact Ret.mk' (by rw[HNO.out];first|rfl|exact congrArg Value.bool (decide_eq_false (by omega))) bel
 obtain⟨i,rfl⟩:∃ i:Nat,g=i:=⟨g.toNat,by omega⟩
 obtain⟨l,hl⟩:=get_lt (xs:=P.M) (k:=i) (by rw[HM.out];omega)
 have hpl:=Pl.pages_eq hl
 obtain⟨mb,moff,uo,uc,rfl,hmb,cm,u1,u2,hrow⟩:=h.guest hl
 clear hrow
 have HPL:=lh hpl;clear hpl
 have HL:=lh hl;clear hl
 by_cases p0:0≤p
 rotate_left
 · have hno:P.is i p=false:=Pl.is_no (fun hh=>p0 hh.2.2.1)
   have HNO:=lh hno;clear hno
   go_enter Tryz.func57,Tryz.ntmps57
   go_wp2_with fail
   skip
   go_ret
   exact Ret.mk' (by rw[HNO.out];first|rfl|exact congrArg Value.bool (decide_eq_false (by omega))) bel
 by_cases p1:p<l.length
 rotate_left
 · have hno:P.is i p=false:=Pl.is_no (fun hh=>p1 (by rw[←HPL.out];exact hh.2.2.2))
   have HNO:=lh hno;clear hno
   go_enter Tryz.func57,Tryz.ntmps57
   go_wp2_with fail
   skip
   go_ret
   exact Ret.mk' (by rw[HNO.out];first|rfl|exact congrArg Value.bool (decide_eq_false (by omega))) bel
 · have hyes:P.is i p=true:=Pl.is_yes ⟨g0,by rw[HM.out];exact g1,p0,by rw[Int.toNat_natCast,HPL.out];exact p1⟩
   have HNO:=lh hyes;clear hyes
   go_enter Tryz.func57,Tryz.ntmps57
   go_wp2_with fail
   skip
   go_ret
   exact Ret.mk' (by rw[HNO.out];first|rfl|exact congrArg Value.bool (decide_eq_false (by omega))) bel
set_option maxHeartbeats 2000000 in
theorem phas_any (v:Value) (P:Pl) (g p:Int) (w:World) (h:PlRow w v P) (hf:P.fit):Calls Tryz.prog 82 #[v,.int .i64 g,.int .i64 p] w (Ret w (.bool (P.has g p))):=by
 obtain⟨of,or',om,kf,kr,km,rfl,kf1,kf2,kr1,kr2,km1,km2⟩:=h.form
 obtain⟨n,hn⟩:∃ n,P.F.length=n:=⟨_,rfl⟩
 obtain⟨r,hr⟩:∃ n,P.R.length=n:=⟨_,rfl⟩
 obtain⟨m,hm⟩:∃ n,P.M.length=n:=⟨_,rfl⟩
 rw[hn] at h kf1 ⊢
 rw[hr] at h kr1 ⊢
 rw[hm] at h km1 ⊢
 have HN:=lh hn;clear hn
 have HR:=lh hr;clear hr
 have HM:=lh hm;clear hm
 have V:=fun w h=>valid_pl (.agg #[.slice of n kf,.slice or' r kr,.slice om m km]) P w h hf
 have hhas:P.has g p=(P.ok && P.is g p):=rfl
 rw[hhas]
 clear hhas hf
 cases hok:P.ok
 · rw[hok] at V
   rw[Bool.false_and]
   clear hok
   have HV:=lh V;clear V
   go_enter Tryz.func82,Tryz.ntmps82
   go_wp2_with fail
   with_reducible refine (HV.out _ (h.below bel)).mono ?_
   rintro e w1 ⟨rfl,hb1⟩
   obtain⟨hc1,hf1⟩:=bcell hb1
   have hz1:=bsize hb1
   try simp only[sizes1] at hz1
   try simp only[sizes] at hc1 hf1
   go_wp2_with fail
   go_ret
   exact Ret.mk bel
 · rw[hok] at V
   rw[Bool.true_and]
   clear hok
   have HV:=lh V;clear V
   by_cases g0:0≤g
   rotate_left
   · have hno:P.is g p=false:=Pl.is_no (fun hh=>g0 hh.1)
     have HNO:=lh hno;clear hno
     go_enter Tryz.func82,Tryz.ntmps82
     go_wp2_with fail
     with_reducible refine (HV.out _ (h.below bel)).mono ?_
     rintro e w1 ⟨rfl,hb1⟩
     obtain⟨hc1,hf1⟩:=bcell hb1
     have hz1:=bsize hb1
     try simp only[sizes1] at hz1
     try simp only[sizes] at hc1 hf1
     go_wp2_with fail
     go_ret
     exact Ret.mk' (by rw[HNO.out];first|rfl|exact congrArg Value.bool (decide_eq_false (by omega))) bel
   by_cases g1:g<m
   rotate_left
   · have hno:P.is g p=false:=Pl.is_no (fun hh=>g1 (by rw[←HM.out];exact hh.2.1))
     have HNO:=lh hno;clear hno
     go_enter Tryz.func82,Tryz.ntmps82
     go_wp2_with fail
     with_reducible refine (HV.out _ (h.below bel)).mono ?_
     rintro e w1 ⟨rfl,hb1⟩
     obtain⟨hc1,hf1⟩:=bcell hb1
     have hz1:=bsize hb1
     try simp only[sizes1] at hz1
     try simp only[sizes] at hc1 hf1
     go_wp2_with fail
     go_ret
     exact Ret.mk' (by rw[HNO.out];first|rfl|exact congrArg Value.bool (decide_eq_false (by omega))) bel
   obtain⟨i,rfl⟩:∃ i:Nat,g=i:=⟨g.toNat,by omega⟩
   obtain⟨l,hl⟩:=get_lt (xs:=P.M) (k:=i) (by rw[HM.out];omega)
   have hpl:=Pl.pages_eq hl
   obtain⟨mb,moff,uo,uc,rfl,hmb,cm,u1,u2,hrow⟩:=h.guest hl
   clear hrow
   have HPL:=lh hpl;clear hpl
   have HL:=lh hl;clear hl
   by_cases p0:0≤p
   rotate_left
   · have hno:P.is i p=false:=Pl.is_no (fun hh=>p0 hh.2.2.1)
     have HNO:=lh hno;clear hno
     go_enter Tryz.func82,Tryz.ntmps82
     go_wp2_with fail
     with_reducible refine (HV.out _ (h.below bel)).mono ?_
     rintro e w1 ⟨rfl,hb1⟩
     obtain⟨hc1,hf1⟩:=bcell hb1
     have hz1:=bsize hb1
     try simp only[sizes1] at hz1
     try simp only[sizes] at hc1 hf1
     go_wp2_with fail
     go_ret
     exact Ret.mk' (by rw[HNO.out];first|rfl|exact congrArg Value.bool (decide_eq_false (by omega))) bel
   by_cases p1:p<l.length
   rotate_left
   · have hno:P.is i p=false:=Pl.is_no (fun hh=>p1 (by rw[←HPL.out];exact hh.2.2.2))
     have HNO:=lh hno;clear hno
     go_enter Tryz.func82,Tryz.ntmps82
     go_wp2_with fail
     with_reducible refine (HV.out _ (h.below bel)).mono ?_
     rintro e w1 ⟨rfl,hb1⟩
     obtain⟨hc1,hf1⟩:=bcell hb1
     have hz1:=bsize hb1
     try simp only[sizes1] at hz1
     try simp only[sizes] at hc1 hf1
     go_wp2_with fail
     go_ret
     exact Ret.mk' (by rw[HNO.out];first|rfl|exact congrArg Value.bool (decide_eq_false (by omega))) bel
   · have hyes:P.is i p=true:=Pl.is_yes ⟨g0,by rw[HM.out];exact g1,p0,by rw[Int.toNat_natCast,HPL.out];exact p1⟩
     have HNO:=lh hyes;clear hyes
     go_enter Tryz.func82,Tryz.ntmps82
     go_wp2_with fail
     with_reducible refine (HV.out _ (h.below bel)).mono ?_
     rintro e w1 ⟨rfl,hb1⟩
     obtain⟨hc1,hf1⟩:=bcell hb1
     have hz1:=bsize hb1
     try simp only[sizes1] at hz1
     try simp only[sizes] at hc1 hf1
     go_wp2_with fail
     go_ret
     exact Ret.mk' (by rw[HNO.out];first|rfl|exact congrArg Value.bool (decide_eq_false (by omega))) bel
theorem framesOk_iff {F:List ByteArray} {R P:List Int}:∀ n,framesOk F R P n=true↔∀ k,k<n→frameOk F R P k=true
 | 0=>⟨fun _ k h=>absurd h (Nat.not_lt_zero _),fun _=>rfl⟩
 | n+1=>by
   rw[framesOk,Bool.and_eq_true,framesOk_iff n]
   constructor
   · rintro⟨h1,h2⟩ k hk
     by_cases e:k=n
     · subst e;exact h2
     · exact h1 k (by omega)
   · intro h
     exact⟨fun k hk=>h k (by omega),h n (by omega)⟩
def Pl.cnt (P:Pl) (f:Nat):Nat:=P.M.flatten.count (f:Int)
def Pl.frameP (P:Pl) (f:Nat):Prop:=∃ s,P.F[f]?=some s∧P.R[f]?=some ((P.cnt f:Nat):Int)∧(P.cnt f=0↔s.size=0)∧(s.size=0∨s.size=128∧zeroB s=false)
structure Pl.Ok (P:Pl):Prop where
 n1:1≤P.F.length
 n2:P.F.length≤96
 r:P.R.length=P.F.length
 m:P.M.length≤8
 l:∀ l∈P.M,1≤l.length∧l.length≤32
 pg:∀ l∈P.M,∀ f∈l,(-1:Int)≤f∧f<P.F.length
 fr:∀ f,f<P.F.length→P.frameP f
theorem Pl.ok_iff {P:Pl}:P.ok=true↔P.Ok:=by
 unfold Pl.ok poolB poolHead
 rw[Bool.and_eq_true,Bool.and_eq_true,decide_eq_true_eq,framesOk_iff]
 unfold mapOk
 rw[List.all_eq_true]
 constructor
 · rintro⟨⟨h1,h2,h3,h4⟩,h5,h6⟩
   have hl:∀ l∈P.M,(1≤l.length∧l.length≤32)∧∀ f∈l,(-1:Int)≤f∧f<P.F.length:=by
    intro l hl
    have h:=h5 l hl
    unfold rowOk at h
    rw[Bool.and_eq_true,decide_eq_true_eq,List.all_eq_true] at h
    refine ⟨h.1,fun f hf=>?_⟩
    have:=h.2 f hf
    unfold pageOk at this
    rwa[decide_eq_true_eq] at this
   refine ⟨h1,h2,h3,h4,fun l h=>(hl l h).1,fun l h=>(hl l h).2,fun f hf=>?_⟩
   obtain⟨s,hs⟩:=get_lt hf
   obtain⟨x,hx⟩:=get_lt (xs:=P.R) (k:=f) (by omega)
   have h:=h6 f hf
   unfold frameOk at h
   rw[hs,hx] at h
   simp only[Bool.and_eq_true,decide_eq_true_eq,Bool.or_eq_true,beq_iff_eq,Bool.not_eq_true'] at h
   obtain⟨⟨e1,e2⟩,e3⟩:=h
   have e2:(P.M.flatten.count (f:Int)=0↔s.size=0):=by
    constructor
    · intro a
      rw[decide_eq_true a] at e2
      exact of_decide_eq_true e2.symm
    · intro a
      rw[decide_eq_true a] at e2
      exact of_decide_eq_true e2
   exact⟨s,hs,by rw[hx,e1];rfl,e2,e3⟩
 · intro H
   refine ⟨⟨H.n1,H.n2,H.r,H.m⟩,fun l hl=>?_,fun f hf=>?_⟩
   · unfold rowOk
     rw[Bool.and_eq_true,decide_eq_true_eq,List.all_eq_true]
     refine ⟨H.l l hl,fun f hf=>?_⟩
     unfold pageOk
     rw[decide_eq_true_eq]
     exact H.pg l hl f hf
   · obtain⟨s,hs,hx,h1,h2⟩:=H.fr f hf
     unfold frameOk
     rw[hs,hx]
     simp only[Bool.and_eq_true,decide_eq_true_eq,Bool.or_eq_true,beq_iff_eq,Bool.not_eq_true']
     refine ⟨⟨rfl,?_⟩,h2⟩
     rw[Bool.eq_iff_iff,decide_eq_true_eq,decide_eq_true_eq]
     exact h1
theorem mem_at {α:Type} {xs:List α} {k:Nat} {x:α} (h:xs[k]?=some x):x∈xs:=List.mem_of_getElem? h
theorem Pl.Ok.page {P:Pl} (H:P.Ok) {g p:Nat} {l:List Int} {f:Int} (hl:P.M[g]?=some l) (hp:l[p]?=some f):(-1:Int)≤f∧f<P.F.length:=H.pg l (mem_at hl) f (mem_at hp)
theorem flat_count {M:List (List Int)}:∀ (k:Nat),(∀ l∈M,l.length≤k)→M.flatten.length≤k*M.length:=by
 intro k h
 induction M with
 | nil=>simp
 | cons a M ih =>
   rw[List.flatten_cons,List.length_append,List.length_cons,Nat.mul_add]
   have h1:=h a (List.mem_cons_self ..)
   have h2:=ih (fun l hl=>h l (List.mem_cons_of_mem _ hl))
   omega
theorem Pl.Ok.cnt_le {P:Pl} (H:P.Ok) (f:Nat):P.cnt f≤256:=by
 have h1:P.cnt f≤P.M.flatten.length:=List.count_le_length
 have h2:=flat_count (M:=P.M) 32 (fun l hl=>(H.l l hl).2)
 have:=H.m
 omega
theorem Pl.Ok.ref_eq {P:Pl} (H:P.Ok) {f:Nat} (hf:f<P.F.length):P.ref f=P.cnt f:=by
 obtain⟨s,_,hx,_⟩:=H.fr f hf
 unfold Pl.ref
 rw[hx]
 rfl
theorem Pl.Ok.fit {P:Pl} (H:P.Ok):P.fit:=by
 refine ⟨fun x hx=>?_,fun l hl x hx=>?_⟩
 · obtain⟨k,hk⟩:=List.getElem?_of_mem hx
   have hlt:=lt_of_get hk
   rw[H.r] at hlt
   obtain⟨s,_,hx',_⟩:=H.fr k hlt
   rw[hk] at hx'
   injection hx' with hx'
   have:=H.cnt_le k
   omega
 · have h1:=H.pg l hl x hx
   have:=H.n2
   omega
theorem Pl.Ok.small {P:Pl} (H:P.Ok):P.small:=⟨by have:=H.n2;omega,by have:=H.n2;have:=H.r;omega,by have:=H.m;omega,fun l hl=>by have:=(H.l l hl).2;omega⟩
theorem Pl.cnt_pos {P:Pl} {g p f:Nat} {l:List Int} (hl:P.M[g]?=some l) (hp:l[p]?=some (f:Int)):0<P.cnt f:=by
 unfold Pl.cnt
 rw[List.count_pos_iff,List.mem_flatten]
 exact⟨l,mem_at hl,mem_at hp⟩
end Go.Proofs.YtbnngjhnkegliaaGreat
