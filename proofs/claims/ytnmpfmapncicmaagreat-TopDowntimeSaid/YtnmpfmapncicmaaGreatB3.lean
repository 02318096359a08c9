/-
  Texts joined: Shelf Bal BalMem BalOut Con TpDev TpMem TpPag TpCpu TpQt TpBox. No law is proved here.
-/
import Derived.Shelf.Strings.Builder1
import Derived.Shelf.Strings.Builder2
import Derived.Shelf.Small.Bits
import Derived.Shelf.Strings.BuilderF
import Derived.Shelf.Strings.Prefix
import Derived.Shelf.Bits.Mul64
import Derived.Shelf.Strings.Repeat
import Derived.Ground.SlgnProg
import Derived.Shelf.SlicesE.Clone
import Derived.Test.YtnmpfmapncicmaaGreatProg
import Derived.Test.YtnmpfmapncicmaaGreatB1
import Derived.Lib.Tables
import Derived.Deep.RegionWith
namespace Go.Proofs.YtnmpfmapncicmaaGreat
set_option linter.all false
set_option maxRecDepth 100000
set_option maxHeartbeats 40000000
open Go.Shelf
def Tryz.lays128_ren:Go.Shelf.Ren:=⟨fun|128=>207|n=>n,fun|51=>25|3=>3|4=>4|46=>149|5=>5|9=>9|n=>n,fun|n=>n⟩
theorem Tryz.lays128:Go.Proofs.Lays.n128 Tryz.prog Tryz.lays128_ren:={
 mixed:=by kernel_rfl
 f128:=Tryz.func207.trans (congrArg some (by kernel_rfl))
 t3:=Tryz.underlying3
 a3:=Tryz.isAgg3
 z3:=Tryz.sizeOf3
 v3:=Tryz.zeroValue3
 t4:=Tryz.underlying4
 a4:=Tryz.isAgg4
 z4:=Tryz.sizeOf4
 v4:=Tryz.zeroValue4
 t5:=Tryz.underlying5
 a5:=Tryz.isAgg5
 z5:=Tryz.sizeOf5
 v5:=Tryz.zeroValue5
 t9:=Tryz.underlying9
 a9:=Tryz.isAgg9
 z9:=Tryz.sizeOf9
 v9:=Tryz.zeroValue9
 t46:=Tryz.underlying149
 a46:=Tryz.isAgg149
 z46:=Tryz.sizeOf149
 v46:=Tryz.zeroValue149
 t51:=Tryz.underlying25
 a51:=Tryz.isAgg25
 z51:=Tryz.sizeOf25
 v51:=Tryz.zeroValue25 }
theorem Tryz.bits_Len32 (x:Int) (w:World) (h0:0≤x) (h1:x≤4294967295) :
    Calls Tryz.prog 207 #[.int .u32 x] w fun e w'=>e=.returned (.int .i64 (Lib.bitLen x.toNat))∧w'=w:=Any.bits_Len32 Tryz.lays128 x w h0 h1
def Tryz.lays105_ren:Go.Shelf.Ren:=⟨fun|105=>177|212=>223|99=>224|165=>225|166=>226|170=>227|169=>228|263=>261|264=>262|206=>263|240=>264|241=>265|276=>272|277=>273|n=>n,fun|9=>9|3=>3|4=>4|20=>20|0=>0|46=>149|109=>305|5=>5|72=>310|76=>314|51=>25|146=>300|53=>41|148=>220|70=>308|37=>194|75=>313|127=>334|164=>341|80=>317|n=>n,fun|n=>n⟩
theorem Tryz.lays105:Go.Proofs.Lays.n105 Tryz.prog Tryz.lays105_ren:={
 mixed:=by kernel_rfl
 f99:=Tryz.func224.trans (congrArg some (by kernel_rfl))
 f105:=Tryz.func177.trans (congrArg some (by kernel_rfl))
 f165:=Tryz.func225.trans (congrArg some (by kernel_rfl))
 f166:=Tryz.func226.trans (congrArg some (by kernel_rfl))
 f169:=Tryz.func228.trans (congrArg some (by kernel_rfl))
 f170:=Tryz.func227.trans (congrArg some (by kernel_rfl))
 f206:=Tryz.func263.trans (congrArg some (by kernel_rfl))
 f212:=Tryz.func223.trans (congrArg some (by kernel_rfl))
 f240:=Tryz.func264.trans (congrArg some (by kernel_rfl))
 f241:=Tryz.func265.trans (congrArg some (by kernel_rfl))
 f263:=Tryz.func261.trans (congrArg some (by kernel_rfl))
 f264:=Tryz.func262.trans (congrArg some (by kernel_rfl))
 f276:=Tryz.func272.trans (congrArg some (by kernel_rfl))
 f277:=Tryz.func273.trans (congrArg some (by kernel_rfl))
 t0:=Tryz.underlying0
 a0:=Tryz.isAgg0
 z0:=Tryz.sizeOf0
 v0:=Tryz.zeroValue0
 t3:=Tryz.underlying3
 a3:=Tryz.isAgg3
 z3:=Tryz.sizeOf3
 v3:=Tryz.zeroValue3
 t4:=Tryz.underlying4
 a4:=Tryz.isAgg4
 z4:=Tryz.sizeOf4
 v4:=Tryz.zeroValue4
 t5:=Tryz.underlying5
 a5:=Tryz.isAgg5
 z5:=Tryz.sizeOf5
 v5:=Tryz.zeroValue5
 t9:=Tryz.underlying9
 a9:=Tryz.isAgg9
 z9:=Tryz.sizeOf9
 v9:=Tryz.zeroValue9
 t20:=Tryz.underlying20
 a20:=Tryz.isAgg20
 z20:=Tryz.sizeOf20
 v20:=Tryz.zeroValue20
 t37:=Tryz.underlying194
 a37:=Tryz.isAgg194
 z37:=Tryz.sizeOf194
 v37:=Tryz.zeroValue194
 t46:=Tryz.underlying149
 a46:=Tryz.isAgg149
 z46:=Tryz.sizeOf149
 v46:=Tryz.zeroValue149
 t51:=Tryz.underlying25
 a51:=Tryz.isAgg25
 z51:=Tryz.sizeOf25
 v51:=Tryz.zeroValue25
 t53:=Tryz.underlying41
 a53:=Tryz.isAgg41
 z53:=Tryz.sizeOf41
 v53:=Tryz.zeroValue41
 t70:=Tryz.underlying308
 a70:=Tryz.isAgg308
 z70:=Tryz.sizeOf308
 v70:=Tryz.zeroValue308
 t72:=Tryz.underlying310
 a72:=Tryz.isAgg310
 z72:=Tryz.sizeOf310
 v72:=Tryz.zeroValue310
 t75:=Tryz.underlying313
 a75:=Tryz.isAgg313
 z75:=Tryz.sizeOf313
 v75:=Tryz.zeroValue313
 t76:=Tryz.underlying314
 a76:=Tryz.isAgg314
 z76:=Tryz.sizeOf314
 v76:=Tryz.zeroValue314
 t109:=Tryz.underlying305
 a109:=Tryz.isAgg305
 z109:=Tryz.sizeOf305
 v109:=Tryz.zeroValue305
 t127:=Tryz.underlying334
 a127:=Tryz.isAgg334
 z127:=Tryz.sizeOf334
 v127:=Tryz.zeroValue334
 t146:=Tryz.underlying300
 a146:=Tryz.isAgg300
 z146:=Tryz.sizeOf300
 v146:=Tryz.zeroValue300
 t148:=Tryz.underlying220
 a148:=Tryz.isAgg220
 z148:=Tryz.sizeOf220
 v148:=Tryz.zeroValue220
 t164:=Tryz.underlying341
 a164:=Tryz.isAgg341
 z164:=Tryz.sizeOf341
 v164:=Tryz.zeroValue341 }
theorem Tryz.Builder_Extra_105:Builder.Extra Tryz.prog Tryz.lays105_ren:={
 sizeBuilder:=by kernel_rfl
 liesBuilder:=by kernel_rfl
 t5:=Tryz.underlying5
 a5:=Tryz.isAgg5
 z5:=Tryz.sizeOf5
 v5:=Tryz.zeroValue5
 infoByte:=by kernel_rfl
 cellsByte:=by kernel_rfl
 sizeByte:=by kernel_rfl
 neB5:=by decide }
open Go.RowKit Go.Lib in
theorem Tryz.strings_Repeat (s:ByteArray) (c:Nat) (w:World) (hc:c≤9223372036854775807) (hlen:s.size*c≤140737488355328) :
    Calls Tryz.prog 177 #[.string s,.int .i64 c] w fun e w'=>e=.returned (.string ⟨(Lib.repeatL s.data.toList c).toArray⟩)∧Below w.heap.size w w':=Any.strings_Repeat Tryz.lays105 Tryz.Builder_Extra_105 s c w hc hlen
def Tryz.laysSlE041_f44_ren:Go.Shelf.Ren:=⟨fun|41=>44|n=>n,fun|22=>30|23=>25|4=>4|n=>n,fun|n=>n⟩
theorem Tryz.laysSlE041_f44:Go.Proofs.SlLaysE0.n41 Tryz.prog Tryz.laysSlE041_f44_ren:={
 mixed:=by kernel_rfl
 f41:=⟨Tryz.f44.name,by decide,Tryz.func44.trans (congrArg some (by kernel_rfl))⟩
 t4:=Tryz.underlying4
 a4:=Tryz.isAgg4
 z4:=Tryz.sizeOf4
 v4:=Tryz.zeroValue4
 t22:=Tryz.underlying30
 a22:=Tryz.isAgg30
 z22:=Tryz.sizeOf30
 v22:=Tryz.zeroValue30 }
open Go.RowKit Go.Lib in
theorem Tryz.slices_Clone_f44 (i0:TypeInfo) (z:Value) (size bytes:Nat) (hi:Tryz.prog.info? 25=some i0) (hz0:i0.zero=some z) (hz1:i0.size=size) (hz2:i0.bytes=bytes) (hzs:z.cells.size=size) (hsz:0<size) (z23:∀ w,(Go.sizeOf 25).run Tryz.prog w=.ok size w) (b off n c:Nat) (news:List Value) (w:World) (hl:news.length=n*size) (hn:n≤maxLen) (hbig:n*bytes≤140737488355328) (hc:∀ j u,news[j]?=some u→w.cell? ⟨b,off+j,none⟩=some u) (h1:∀ u∈news,u.oneCell'=true) :
    Calls Tryz.prog 44 #[.slice (some ⟨b,off,none⟩) n c] w fun e w'=>∃ v',e=.returned v'∧w'.ownsRow w.heap.size 25 size v' n news∧v'≠.slice none 0 0∧Below w.heap.size w w':=AnyE.slices_Clone Tryz.laysSlE041_f44 i0 z size bytes hi hz0 hz1 hz2 hzs hsz z23 b off n c news w hl hn hbig hc h1
end Go.Proofs.YtnmpfmapncicmaaGreat
namespace Go.Proofs.YtnmpfmapncicmaaGreat
set_option linter.all false
set_option maxRecDepth 100000
set_option maxHeartbeats 40000000
open Go.RowKit
theorem u32_bd (o:BinOp) (x y:Int):0≤bits o .u32 x y∧bits o .u32 x y<4294967296:=by
 unfold bits
 show 0≤IntKind.u32.wrap _∧IntKind.u32.wrap _<_
 rw[IntKind.wrap_u32];omega
theorem Gw (m c:Nat) (hm:m<4294967296) (hc:c<4294967296):bits .and .u32 (m:Int) (c:Int)=((m &&& c:Nat):Int):=by
 have hx:m &&& c≤c:=Nat.and_le_right
 show IntKind.u32.wrap ((BitVec.ofInt 32 (m:Int) &&& BitVec.ofInt 32 (c:Int)).toNat:Int)=_
 have e1:(BitVec.ofInt 32 (m:Int)).toNat=m:=by rw[BitVec.ofInt_natCast,BitVec.toNat_ofNat];exact Nat.mod_eq_of_lt hm
 have e2:(BitVec.ofInt 32 (c:Int)).toNat=c:=by rw[BitVec.ofInt_natCast,BitVec.toNat_ofNat];exact Nat.mod_eq_of_lt hc
 rw[BitVec.toNat_and,e1,e2,IntKind.wrap_u32]
 omega
theorem JA (i:Int):0≤Lib.pop8 i∧Lib.pop8 i≤8:=by
 unfold Lib.pop8
 have h:∀ n:Nat,n<256→((Lib.pop8tab[n]?).getD 0).toNat≤8:=by decide +kernel
 refine ⟨by omega,?_⟩
 by_cases hi:i.toNat<256
 · have:=h i.toNat hi;omega
 · have:Lib.pop8tab[i.toNat]?=none:=by
     rw[getElem?_neg]
     rw[Lib.pop8tab_size];exact hi
   rw[this];decide
def popN (x:Nat):Int:=Lib.pop8 ((x:Int) / 16777216)+Lib.pop8 ((x / 65536 &&& 255:Nat):Int)+Lib.pop8 ((x / 256 &&& 255:Nat):Int)+Lib.pop8 ((x &&& 255:Nat):Int)
theorem ones_any (x:Nat) (w:World) (h1:x<4294967296):Calls Tryz.prog 221 #[.int .u32 x] w (Ret w (.int .i64 (popN x))):=by
 have a1:bits .and .u32 ((x:Int) / 65536) 255=((x / 65536 &&& 255:Nat):Int):=Gw (x / 65536) 255 (by omega) (by omega)
 have a2:bits .and .u32 ((x:Int) / 256) 255=((x / 256 &&& 255:Nat):Int):=Gw (x / 256) 255 (by omega) (by omega)
 have a3:bits .and .u32 (x:Int) 255=((x &&& 255:Nat):Int):=Gw x 255 (by omega) (by omega)
 have b1:x / 65536 &&& 255≤255:=Nat.and_le_right
 have b2:x / 256 &&& 255≤255:=Nat.and_le_right
 have b3:x &&& 255≤255:=Nat.and_le_right
 have c0:(x:Int) / 16777216≤255:=by omega
 have c1:((x / 65536 &&& 255:Nat):Int)≤255:=by omega
 have c2:((x / 256 &&& 255:Nat):Int)≤255:=by omega
 have c3:((x &&& 255:Nat):Int)≤255:=by omega
 have d0:0≤(x:Int) / 16777216:=by omega
 have p0:=JA ((x:Int) / 16777216)
 have p1:=JA ((x / 65536 &&& 255:Nat):Int)
 have p2:=JA ((x / 256 &&& 255:Nat):Int)
 have p3:=JA ((x &&& 255:Nat):Int)
 go_in
 go_wp2_with fail
 refine wp_region_quiet_below (by kernel_rfl) (by kernel_rfl) ?_
 dsimp only[List.append]
 simp only[Lib.fold_pop8tab]
 repeat (go_big_quiet_step (fail))
 refine wpQuiet_nil ?_
 intro w1 hw1
 have hb1:=Aa hw1
 clear hw1
 go_wp2_with fail
 go_ret
 exact Ret.mk bel
/-! the number of bits -/
def Du (G:Nat):Nat→Nat
 | 0=>0
 | k+1=>Du G k+G / 2 ^ k % 2
theorem onesN_succ (G k:Nat):Du G (k+1)=Du G k+G / 2 ^ k % 2:=rfl
theorem onesN_le (G k:Nat):Du G k≤k:=by
 induction k with
 | zero=>exact nlr _
 | succ k ih=>unfold Du;omega
theorem FS (G j k:Nat):Du G (j+k)=Du G j+Du (G / 2 ^ j) k:=by
 induction k with
 | zero=>rfl
 | succ k ih=>rw[←Nat.add_assoc,onesN_succ,onesN_succ,ih,Nat.div_div_eq_div_mul,←Nat.pow_add,Nat.add_assoc]
theorem Gl (G j:Nat):∀ k,k≤j→Du G k=Du (G % 2 ^ j) k
 | 0,_=>rfl
 | k+1,h=>by
   unfold Du
   rw[Gl G j k (by omega)]
   have e:2 ^ j=2 ^ (k+1)*2 ^ (j - (k+1)):=by rw[←Nat.pow_add];congr 1;omega
   have:G % 2 ^ j % 2 ^ (k+1)=G % 2 ^ (k+1):=by rw[e];exact Nat.mod_mul_right_mod ..
   have h1:∀ x:Nat,x / 2 ^ k % 2=x % 2 ^ (k+1) / 2 ^ k:=fun x=>by rw[Nat.pow_succ,Nat.mod_mul_right_div_self]
   rw[h1 G,h1 (G % 2 ^ j),this]
theorem Gh:∀ n:Nat,n<256→Lib.pop8 (n:Int)=Du n 8:=by
 have h:∀ n:Nat,n<256→((Lib.pop8tab[n]?).getD 0).toNat=Du n 8:=by decide +kernel
 intro n hn
 unfold Lib.pop8
 rw[Int.toNat_natCast,h n hn]
def cnt (G:Nat):Nat:=Du G 32
theorem cnt_le (G:Nat):cnt G≤32:=onesN_le G 32
theorem popN_cnt (G:Nat) (h:G<4294967296):popN G=cnt G:=by
 unfold popN cnt
 rw[show 32=8+(8+(8+8)) from rfl,FS,FS,FS,Nat.div_div_eq_div_mul,Nat.div_div_eq_div_mul]
 rw[Gl G 8 8 (nlr _),Gl (G / 2 ^ 8) 8 8 (nlr _),Gl (G / (2 ^ 8*2 ^ 8)) 8 8 (nlr _)]
 have m1:G &&& 255=G % 2 ^ 8:=Nat.and_two_pow_sub_one_eq_mod G 8
 have m2:G / 256 &&& 255=G / 2 ^ 8 % 2 ^ 8:=Nat.and_two_pow_sub_one_eq_mod (G / 256) 8
 have m3:G / 65536 &&& 255=G / (2 ^ 8*2 ^ 8) % 2 ^ 8:=Nat.and_two_pow_sub_one_eq_mod (G / 65536) 8
 rw[m1,m2,m3,Gh _ (by omega),Gh _ (by omega),Gh _ (by omega)]
 have:=Gh (G / 16777216) (by omega)
 rw[show ((G:Int) / 16777216)=((G / 16777216:Nat):Int) from rfl,this]
 rw[show G / (2 ^ 8*2 ^ 8*2 ^ 8)=G / 16777216 from rfl]
 omega
theorem bit_at (G k:Nat) (hG:G<4294967296):bits .and .u32 ((G:Int) / 2 ^ k) 1=((G / 2 ^ k % 2:Nat):Int):=by
 have h:=Gw (G / 2 ^ k) 1 (Nat.lt_of_le_of_lt (Nat.div_le_self _ _) hG) (by omega)
 have m:G / 2 ^ k &&& 1=G / 2 ^ k % 2 ^ 1:=Nat.and_two_pow_sub_one_eq_mod (G / 2 ^ k) 1
 rw[m] at h
 rw[←h,Int.natCast_ediv,Int.natCast_pow]
 all_goals rfl
theorem given_any (T G:Nat) (w:World) (hG:G<4294967296):Calls Tryz.prog 254 #[.agg #[.int .u32 T,.int .u32 G]] w (Ret w (.int .i64 (cnt G))):=by
 go_in
 go_wp2_with fail
 go_loopw [3,4] (fun n i wr=>∃ k:Nat,k≤32∧i=.int .i64 k∧n=.int .i64 (Du G k)∧HasBlock wr w.heap.size #[.int .u32 T,.int .u32 G] 40∧Below w.heap.size w wr) (fun _ i _=>32 - (intOf i).toNat)
 case atStart=>exact⟨0,by omega,rfl,rfl,HasBlock.made _ _ _,bel⟩
 case round =>
  obtain⟨k,hk,rfl,rfl,hblk,hbw⟩:=hrel
  have x1:=(hblk.cell 1).trans rfl
  by_cases hlt:k<32
  · have hb:=bit_at G k hG
    have hm:G / 2 ^ k % 2<2:=Nat.mod_lt _ (by omega)
    obtain⟨m,hm'⟩:∃ m,G / 2 ^ k % 2=m:=⟨_,rfl⟩
    have hon:=onesN_le G k
    have hs:Du G (k+1)=Du G k+m:=by rw[←hm'];rfl
    obtain⟨q,hq⟩:∃ q,Du G k=q:=⟨_,rfl⟩
    rw[hq] at hs hon ⊢
    rw[hm'] at hb hm
    have HS:=lh hs;clear hs hm' hq
    go_wp2_with fail
    go_roundw
    case rel=>exact⟨k+1,by omega,by go_num,by rw[HS.out];go_num,hblk,hbw⟩
    case measure=>simp [intOf];omega
  · obtain rfl:k=32:=by omega
    go_wp2_with fail
    go_ret
    exact Ret.mk bel
theorem count_any (T G:Nat) (w:World) (hG:G<4294967296):Calls Tryz.prog 172 #[.agg #[.int .u32 T,.int .u32 G]] w (Ret w (.int .i64 (cnt G))):=by
 have O:=fun w=>ones_any G w hG
 rw[popN_cnt G hG] at O
 have HO:=lh O;clear O
 go_in
 go_wp2_with fail
 refine (HO.out _).mono ?_
 rintro e w1 ⟨rfl,hb1⟩
 obtain⟨hc1,hf1⟩:=Cn hb1
 have hz1:=BH hb1
 try simp only[Bo] at hz1
 try simp only[sizes] at hc1 hf1
 go_wp2_with fail
 go_ret
 exact Ret.mk bel
def F1 (T G:Nat):Bool:=(cnt G:Int) != (T:Int)
theorem Xz75 {P:Prop} (h:P:=by
  refine wpQuiet_nil ?_
  intro w1 hw1
  have hb1:=Aa hw1
  clear hw1
  obtain⟨hc1,hf1⟩:=Cn hb1
  have hz1:=BH hb1
  try simp only[Bo] at hz1
  try simp only[sizes] at hc1 hf1
  go_wp2_with fail
  go_ret
  exact Ret.mk' (by rw[HP.out];rfl) bel):P:=h
theorem pending_any (T G:Nat) (w:World) (_hT:T<4294967296) (hG:G<4294967296):Calls Tryz.prog 211 #[.agg #[.int .u32 T,.int .u32 G]] w (Ret w (.bool (F1 T G))):=by
 have hc:=cnt_le G
 have O:=fun w=>count_any T G w hG
 obtain⟨q,hq⟩:∃ q,cnt G=q:=⟨_,rfl⟩
 have hp:F1 T G=((q:Int) != (T:Int)):=by unfold F1;rw[hq]
 rw[hq] at O hc
 have HP:=lh hp;clear hp hq
 have HO:=lh O;clear O
 go_in
 go_wp2_with fail
 refine wp_region_quiet_below (by kernel_rfl) (by kernel_rfl) ?_
 repeat (go_big_quiet_step (first|fail|(go_at_call 172;exact A9 (HO.out _))))
 exact Xz75
theorem rpending_any (T G:Nat) (w:World) (_hT:T<4294967296) (hG:G<4294967296):Calls Tryz.prog 241 #[.agg #[.int .u32 T,.int .u32 G]] w (Ret w (.bool (F1 T G))):=by
 have hc:=cnt_le G
 have O:=fun w=>given_any T G w hG
 obtain⟨q,hq⟩:∃ q,cnt G=q:=⟨_,rfl⟩
 have hp:F1 T G=((q:Int) != (T:Int)):=by unfold F1;rw[hq]
 rw[hq] at O hc
 have HP:=lh hp;clear hp hq
 have HO:=lh O;clear O
 go_in
 go_wp2_with fail
 refine wp_region_quiet_below (by kernel_rfl) (by kernel_rfl) ?_
 repeat (go_big_quiet_step (first|fail|(go_at_call 254;exact A9 (HO.out _))))
 exact Xz75
def inI (T G:Nat) (port:Int):Int:=if port=10 then T else if port=11 then cnt G else 0
theorem Xz36 {P:Prop} (h:P:=by
  unfold inI
  obtain⟨q,hq⟩:∃ q,cnt G=q:=⟨_,rfl⟩
  rw[hq] at O hc ⊢
  have HO:=lh O;clear O hq
  by_cases h1:port=10
  · rw[if_pos h1]
    subst h1
    go_in
    go_wp2_with fail
    go_ret
    exact Ret.mk bel
  · rw[if_neg h1]
    have e1:(port == 10)=false:=by rw[beq_eq_false_iff_ne];exact h1
    by_cases h2:port=11
    · rw[if_pos h2]
      subst h2
      clear e1
      go_in
      go_wp2_with fail
      refine (HO.out _).mono ?_
      rintro e w1 ⟨rfl,hb1⟩
      obtain⟨hc1,hf1⟩:=Cn hb1
      have hz1:=BH hb1
      try simp only[Bo] at hz1
      try simp only[sizes] at hc1 hf1
      go_wp2_with fail
      go_ret
      exact Ret.mk bel
    · rw[if_neg h2]
      have e2:(port == 11)=false:=by rw[beq_eq_false_iff_ne];exact h2
      go_in
      go_wp2_with fail
      go_ret
      exact Ret.mk bel):P:=h
theorem in_any (T G:Nat) (port:Int) (w:World) (hG:G<4294967296):Calls Tryz.prog 102 #[.agg #[.int .u32 T,.int .u32 G],.int .i64 port] w (Ret w (.int .u32 (inI T G port))):=by
 have hc:=cnt_le G
 have O:=fun w=>count_any T G w hG
 exact Xz36
theorem rin_any (T G:Nat) (port:Int) (w:World) (hG:G<4294967296):Calls Tryz.prog 201 #[.agg #[.int .u32 T,.int .u32 G],.int .i64 port] w (Ret w (.int .u32 (inI T G port))):=by
 have hc:=cnt_le G
 have O:=fun w=>given_any T G w hG
 exact Xz36
/-! the frames below a number -/
def FV (G:Nat) (pages:Int):Bool:=decide ((Lib.bitLen G:Int)≤max pages 0)
theorem aux_spec:∀ (f x:Nat),x<2 ^ f→x<2 ^ Lib.bitLenAux f x∧(x≠0→2 ^ (Lib.bitLenAux f x - 1)≤x)
 | 0,x,h=>by
   have:x=0:=by simpa using h
   subst this
   exact⟨by simp [Lib.bitLenAux],fun h=>absurd rfl h⟩
 | f+1,x,h=>by
   unfold Lib.bitLenAux
   by_cases h0:x=0
   · subst h0
     exact⟨by simp,fun h=>absurd rfl h⟩
   · rw[if_neg h0]
     obtain⟨h1,h2⟩:=aux_spec f (x / 2) (by rw[Nat.pow_succ] at h;omega)
     have e:2 ^ (1+Lib.bitLenAux f (x / 2))=2*2 ^ Lib.bitLenAux f (x / 2):=by rw[Nat.add_comm,Nat.pow_succ,Nat.mul_comm]
     refine ⟨by omega,fun _=>?_⟩
     rw[Nat.add_sub_cancel_left]
     by_cases h3:x / 2=0
     · have:Lib.bitLenAux f (x / 2)=0:=by
         rw[h3]
         cases f <;> simp [Lib.bitLenAux]
       rw[this];omega
     · have h4:=h2 h3
       have h5:Lib.bitLenAux f (x / 2)≠0:=by
        intro e5
        rw[e5] at h1
        omega
       have e6:2 ^ Lib.bitLenAux f (x / 2)=2*2 ^ (Lib.bitLenAux f (x / 2) - 1):=by rw[←Nat.pow_succ'];congr 1;omega
       omega
theorem len_spec (x:Nat) (h:x<4294967296):x<2 ^ Lib.bitLen x∧(x≠0→2 ^ (Lib.bitLen x - 1)≤x):=aux_spec 64 x (by omega)
theorem bit_top {G:Nat} (hG:G<4294967296) (h:0<Lib.bitLen G):G / 2 ^ (Lib.bitLen G - 1) % 2=1:=by
 obtain⟨h1,h2⟩:=len_spec G hG
 have h0:G≠0:=by
  intro e
  rw[e] at h
  exact absurd h (by decide)
 have h3:=h2 h0
 have h4:G / 2 ^ (Lib.bitLen G - 1)<2:=by
  rw[Nat.div_lt_iff_lt_mul (Nat.two_pow_pos _)]
  have:2 ^ Lib.bitLen G=2*2 ^ (Lib.bitLen G - 1):=by rw[←Nat.pow_succ'];congr 1;omega
  omega
 have h5:1≤G / 2 ^ (Lib.bitLen G - 1):=(Nat.le_div_iff_mul_le (Nat.two_pow_pos _)).2 (by omega)
 omega
theorem bit_above {G k:Nat} (hG:G<4294967296) (h:Lib.bitLen G≤k):G / 2 ^ k % 2=0:=by
 have h1:=(len_spec G hG).1
 rw[Nat.div_eq_of_lt (Nat.lt_of_lt_of_le h1 (Nat.pow_le_pow_right (by omega) h))]
theorem len_le (G:Nat) (hG:G<4294967296):Lib.bitLen G≤32:=Lib.bitLen_le G 32 (by omega) (by omega)
theorem may_no {G k:Nat} {pages:Int} (hG:G<4294967296) (h1:G / 2 ^ k % 2=1) (h2:pages≤k):FV G pages=false:=by
 unfold FV
 apply decide_eq_false
 intro h
 have:Lib.bitLen G≤k:=by omega
 rw[bit_above hG this] at h1
 cases h1
theorem may_yes {G:Nat} {pages:Int} (hG:G<4294967296) (h:∀ i:Nat,i<32→G / 2 ^ i % 2=1→(i:Int)<pages):FV G pages=true:=by
 unfold FV
 apply decide_eq_true
 have hl:=len_le G hG
 by_cases h0:0<Lib.bitLen G
 · have:=h (Lib.bitLen G - 1) (by omega) (bit_top hG h0)
   omega
 · omega
theorem may_any (T G:Nat) (pages:Int) (w:World) (hG:G<4294967296):Calls Tryz.prog 156 #[.agg #[.int .u32 T,.int .u32 G],.int .i64 pages] w (Ret w (.bool (FV G pages))):=by
 have hl:=len_le G hG
 have O:=fun w=>Tryz.bits_Len32 (G:Int) w (by omega) (by omega)
 rw[Int.toNat_natCast] at O
 unfold FV
 obtain⟨q,hq⟩:∃ q,Lib.bitLen G=q:=⟨_,rfl⟩
 rw[hq] at O hl ⊢
 have HO:=lh O;clear O hq
 go_in
 go_wp2_with fail
 refine (HO.out _).mono ?_
 rintro e w1 ⟨rfl,rfl⟩
 go_wp2_with fail
 all_goals
  go_ret
  exact Ret.mk' (congrArg Value.bool (by first|rfl|(rw[Bool.eq_iff_iff];simp only[decide_eq_true_eq];omega))) bel
theorem rmay_any (T G:Nat) (pages:Int) (w:World) (hG:G<4294967296):Calls Tryz.prog 137 #[.agg #[.int .u32 T,.int .u32 G],.int .i64 pages] w (Ret w (.bool (FV G pages))):=by
 go_in
 go_wp2_with fail
 go_loopw [5] (fun i wr=>∃ k:Nat,k≤32∧i=.int .i64 k∧Hid (∀ j:Nat,j<k→G / 2 ^ j % 2=1→(j:Int)<pages)∧HasBlock wr w.heap.size #[.int .u32 T,.int .u32 G] 40∧Below w.heap.size w wr) (fun i _=>32 - (intOf i).toNat)
 case atStart=>exact⟨0,by omega,rfl,(fun j hj=>absurd hj (Nat.not_lt_zero _)),HasBlock.made _ _ _,bel⟩
 case round =>
  obtain⟨k,hk,rfl,HJ,hblk,hbw⟩:=hrel
  have x1:=(hblk.cell 1).trans rfl
  by_cases hlt:k<32
  · have hb:=bit_at G k hG
    have hm:G / 2 ^ k % 2<2:=Nat.mod_lt _ (by omega)
    by_cases h1:G / 2 ^ k % 2=1
    · rw[h1] at hb
      by_cases h2:pages≤(k:Int)
      · have hno:=may_no hG h1 h2
        have HN:=lh hno;clear hno h1 hm
        go_wp2_with fail
        go_ret
        exact Ret.mk' (by rw[HN.out];rfl) bel
      · have H1:=lh h1;clear h1 hm
        go_wp2_with fail
        go_roundw
        case rel=>exact⟨k+1,by omega,by go_num,(fun j hj hj1=>by
         by_cases e:j=k
         · subst e;omega
         · exact HJ.out j (by omega) hj1),hblk,hbw⟩
        case measure=>simp [intOf];omega
    · rw[show G / 2 ^ k % 2=0 by omega] at hb
      have H1:=lh h1;clear h1 hm
      go_wp2_with fail
      go_roundw
      case rel=>exact⟨k+1,by omega,by go_num,(fun j hj hj1=>by
       by_cases e:j=k
       · subst e;exact absurd hj1 H1.out
       · exact HJ.out j (by omega) hj1),hblk,hbw⟩
      case measure=>simp [intOf];omega
  · obtain rfl:k=32:=by omega
    have hy:=may_yes hG HJ.out
    have HY:=lh hy;clear hy
    go_wp2_with fail
    go_ret
    exact Ret.mk' (by rw[HY.out];rfl) bel
theorem Eg:(Tryz.prog.info? 25).map (fun i=>(i.zero,i.size,i.bytes))=some (some (.int .u32 0),1,4):=by kernel_rfl
def words (xs:List Int):List Value:=xs.map (Value.int .u32)
def MemRow (w:World) (v:Value) (xs:List Int):Prop:=∃ b off cap,v=.slice (some ⟨b,off,none⟩) xs.length cap∧xs.length≤cap∧cap≤maxLen∧0<xs.length∧b<w.heap.size∧∀ (i:Nat) (x:Int),xs[i]?=some x→w.cell? ⟨b,off+i,none⟩=some (.int .u32 x)
theorem MemRow.below {w w':World} {v:Value} {xs:List Int} (h:MemRow w v xs) (hb:Below w.heap.size w w'):MemRow w' v xs:=by
 obtain⟨b,off,cap,hv,h1,h2,h0,h3,h4⟩:=h
 exact⟨b,off,cap,hv,h1,h2,h0,Nat.lt_of_lt_of_le h3 hb.size,fun i x hx=>(hb.cell (p:=⟨b,off+i,none⟩) h3).trans (h4 i x hx)⟩
def OwnMem (base:Nat) (w:World) (v:Value) (xs:List Int):Prop:=w.ownsRow base 25 1 v xs.length (words xs)∧0<xs.length
theorem OwnMem.row {base:Nat} {w:World} {v:Value} {xs:List Int} (h:OwnMem base w v xs):MemRow w v xs:=by
 obtain⟨⟨hl,h⟩,h0⟩:=h
 rcases h with ⟨_,h⟩|⟨g,cap,cur,rfl,hb,hg,hn,hm,hs,ht⟩
 · omega
 · refine ⟨g,0,cap,rfl,hn,hm,h0,(Array.getElem?_eq_some_iff.1 hg).1,fun i x hx=>?_⟩
   rw[Nat.zero_add,cell_of_row w g i cur _ (0,0) hg]
   have hu:(words xs)[i]?=some (.int .u32 x):=by unfold words;rw[List.getElem?_map,hx];rfl
   rw[←ht,List.getElem?_take] at hu
   split at hu
   · simpa using hu
   · cases hu
theorem OwnMem.below {base:Nat} {w w':World} {v:Value} {xs:List Int} (h:OwnMem base w v xs) (hb:Below w.heap.size w w'):OwnMem base w' v xs:=⟨Af h.1 hb,h.2⟩
theorem OwnMem.lower {base base':Nat} {w:World} {v:Value} {xs:List Int} (h:OwnMem base w v xs) (hb:base'≤base):OwnMem base' w v xs:=by
 obtain⟨⟨h1,h2⟩,h0⟩:=h
 refine ⟨⟨h1,?_⟩,h0⟩
 rcases h2 with h2|⟨g,cap,cur,e1,e2,h3⟩
 · exact .inl h2
 · exact .inr ⟨g,cap,cur,e1,Nat.le_trans hb e2,h3⟩
def AO (n:Nat):Nat:=if n % 32=0∧n≤1024 then n / 32 else 0
theorem Hx (n:Nat):AO n≤32:=by unfold AO;split <;> omega
theorem BQ {n p:Nat} (h:p<AO n):p*32+32≤n∧n≤1024:=by
 unfold AO at h
 split at h <;> omega
theorem CF (ao:Option Addr) (n cap:Nat) (w:World) (hn:n≤1099511627776):Calls Tryz.prog 9 #[.slice ao n cap] w (Ret w (.int .i64 (AO n))):=by
 unfold AO
 by_cases h:n % 32=0∧n≤1024
 · rw[if_pos h]
   obtain⟨h1,h2⟩:=h
   have e0:(n:Int) % 32=0:=by omega
   go_in
   go_wp2_with fail
   go_ret
   exact Ret.mk bel
 · rw[if_neg h]
   by_cases h1:n % 32=0
   · have h2:1024<n:=by omega
     have e0:(n:Int) % 32=0:=by omega
     go_in
     go_wp2_with fail
     go_ret
     exact Ret.mk bel
   · have e0:((n:Int) % 32 != 0)=true:=by rw[bne_iff_ne];omega
     have e1:(n % 32 != 0)=true:=by rw[bne_iff_ne];omega
     go_in
     go_wp2_with fail
     go_ret
     exact Ret.mk bel
def hasB (n:Nat) (f:Int):Bool:=decide (0≤f∧f<AO n)
theorem EP (ao:Option Addr) (n cap:Nat) (f:Int) (w:World) (hn:n≤1099511627776):Calls Tryz.prog 87 #[.slice ao n cap,.int .i64 f] w (Ret w (.bool (hasB n f))):=by
 unfold hasB
 by_cases h0:0≤f
 · go_in
   go_wp2_with fail
   refine (CF ao n cap _ hn).mono ?_
   rintro e w1 ⟨rfl,hb1⟩
   obtain⟨hc1,hf1⟩:=Cn hb1
   have hz1:=BH hb1
   try simp only[Bo] at hz1
   try simp only[sizes] at hc1 hf1
   go_wp2_with fail
   go_ret
   exact Ret.mk' (congrArg Value.bool (by rw[Bool.eq_iff_iff];simp only[decide_eq_true_eq];omega)) bel
 · go_in
   go_wp2_with fail
   go_ret
   exact Ret.mk' (congrArg Value.bool (by rw[decide_eq_false (p:=0≤f) (by omega),Bool.false_and])) bel
theorem owns_full (w:World) (base:Nat) (e:TypeId) (size n:Nat) (cs:List Value) (hn:cs.length=n*size) (hm:n≤maxLen) (hb:base≤w.heap.size) :
    (w.alloc (.cells cs.toArray e)).ownsRow base e size (.slice (some ⟨w.heap.size,0,none⟩) n n) n cs:=by
 refine ⟨hn,.inr ⟨w.heap.size,n,cs.toArray,rfl,hb,heap_alloc_new w _,nlr _,hm,by simpa using hn,?_⟩⟩
 rw[←hn]
 exact List.take_length
def RetMem (w:World) (xs:List Int) (e:Ending) (w':World):Prop:=∃ v,e=.returned v∧OwnMem w.heap.size w' v xs∧Below w.heap.size w w'
theorem Xz45 {P:Prop} (h:P:=by
  have hmk':∀ w:World,(Instr.makeSlice 30 (.int .i64 ((p:Int)*32)) (.int .i64 ((p:Int)*32))).run Tryz.prog w=.ok (.slice (some ⟨w.heap.size,0,none⟩) (p*32) (p*32)) (w.alloc (.cells (List.replicate (p*32) (.int .u32 0)).toArray 25)):=by
   intro w;have:=hmk w;rwa[Int.natCast_mul] at this
  clear hmk
  go_in
  go_wp2_with fail
  go_ret
  refine ⟨_,rfl,⟨?_,by rw[List.length_replicate];omega⟩,bel⟩
  unfold words
  rw[List.length_replicate,List.map_replicate]
  exact owns_full w _ _ _ _ _ (by simp) (by unfold maxLen;omega) (nlr _)):P:=h
theorem new_any (p:Nat) (w:World) (h1:1≤p) (h2:p≤32):Calls Tryz.prog 114 #[.int .i64 p] w (RetMem w (List.replicate (p*32) 0)):=by
 have hmk:=Dh (P:=Tryz.prog) 30 25 (.int .u32 0) 4 Tryz.underlying30 Eg rfl (p*32) (by omega) (by omega)
 exact Xz45
theorem At (va:Value) (xs:List Int) (w:World) (ha:MemRow w va xs) (hn:xs.length≤1099511627776):Calls Tryz.prog 44 #[va] w (RetMem w xs):=by
 obtain⟨b,off,cap,rfl,h1,h2,h0,h3,h4⟩:=ha
 obtain⟨i0,hi,iz0,iz1,iz2⟩:=info_parts Eg
 refine (Tryz.slices_Clone_f44 i0 (.int .u32 0) 1 4 hi iz0 iz1 iz2 rfl (by decide) Tryz.sizeOf25 b off xs.length cap (words xs) w (by simp [words]) (by omega) (by omega) (fun j u hu=>?_) (fun u hu=>?_)).mono ?_
 · unfold words at hu
   rw[List.getElem?_map] at hu
   cases hx:xs[j]? with
   | none=>rw[hx] at hu;simp at hu
   | some x =>
     rw[hx] at hu
     simp at hu
     subst hu
     exact h4 j x hx
 · unfold words at hu
   rw[List.mem_map] at hu
   obtain⟨x,_,rfl⟩:=hu
   rfl
 · rintro e w' ⟨v',rfl,ho,_,hb⟩
   exact⟨v',rfl,⟨ho,h0⟩,hb⟩
def CJ (xs:List Int) (p:Nat):Nat→List Int
 | 0=>xs
 | k+1=>(CJ xs p k).set (p*32+k) 0
theorem EB (xs:List Int) (p k:Nat):(CJ xs p k).length=xs.length:=by
 induction k with
 | zero=>rfl
 | succ k ih=>unfold CJ;rw[List.length_set,ih]
def zeros128:ByteArray:=⟨(List.replicate 128 0).toArray⟩
theorem zeros_cut:∀ k:Nat,k<32→zeros128.extract (4*k) (4*k+4)=⟨#[0,0,0,0]⟩:=by decide +kernel
theorem Gc (xs:List Int) (j:Nat) (x:Int):(words xs).set j (.int .u32 x)=words (xs.set j x):=by unfold words;rw[List.map_set]
theorem setPage_zero (va:Value) (xs:List Int) (p:Nat) (w:World) (ha:MemRow w va xs) (hp:p<AO xs.length):Calls Tryz.prog 45 #[va,.int .i64 p,.string zeros128] w
    (fun e w'=>∃ v,e=.returned (.tuple #[v,.bool true])∧OwnMem w.heap.size w' v (CJ xs p 32)∧Below w.heap.size w w'):=by
 have hfit:=BQ hp
 have hrow:=ha
 obtain⟨b,off,cap,rfl,h1,h2,h0,h3,h4⟩:=ha
 clear h3 h4
 have HROW:=lh hrow;clear hrow
 have hhas:hasB xs.length p=true:=decide_eq_true (by omega)
 have hsz:zeros128.size=128:=by decide +kernel
 have HX:=fun w=>EP (some ⟨b,off,none⟩) xs.length cap p w (by omega)
 rw[hhas] at HX
 obtain⟨n,hn⟩:∃ n,xs.length=n:=⟨_,rfl⟩
 rw[hn] at HX hfit h0 h1 HROW ⊢
 have HH:=lh HX;clear HX hhas hp
 have HN:=lh hn;clear hn
 have hp32:p<32:=by omega
 go_in
 go_wp2_with fail
 refine (At _ xs _ HROW.out (by rw[HN.out];omega)).mono ?_
 rintro e w1 ⟨v1,rfl,ho1,hb1⟩
 have hz1:=BH hb1
 rw[OwnMem,HN.out] at ho1
 rcases ho1.1.2 with ⟨_,hbad⟩|⟨g,cap1,_,hv,hg,_,hgc,hgm,_⟩
 · omega
 subst hv
 unfold maxLen at hgm
 have HO:=lh ho1.1;clear ho1
 go_wp2_with fail
 refine (HH.out _).mono ?_
 rintro e w2 ⟨rfl,hb2⟩
 have hz2:=BH hb2
 have hb12:Below w.heap.size w w2:=hb1.trans (hb2.mono hb1.size)
 have ho2:=Af HO.out hb2
 clear hb1 hb2
 have HO2:=lh ho2;clear ho2
 go_wp2_with fail
 go_loopw [26] (fun i wr=>∃ k:Nat,k≤32∧i=.int .i64 k∧wr.ownsRow w.heap.size 25 1 (.slice (some ⟨g,0,none⟩) n cap1) n (words (CJ xs p k))∧Below w.heap.size w wr) (fun i _=>32 - (intOf i).toNat)
 case atStart=>exact⟨0,by omega,rfl,HO2.out,hb12⟩
 case round =>
  obtain⟨k,hk,rfl,hown,hbw⟩:=hrel
  clear hb12 hz1 hz2
  have hsz0:=hbw.size
  by_cases hlt:k<32
  · have zc:=zeros_cut k hlt
    have hgl:=hown.lt g rfl
    have hlen:=EB xs p k
    rw[HN.out] at hlen
    obtain⟨x,hx⟩:=A6 (xs:=CJ xs p k) (k:=p*32+k) (by omega)
    have hcell:wr.cell? ⟨g,p*32+k,none⟩=some (.int .u32 x):=(hown.cellAt (p*32+k) (by omega)).trans (by unfold words;rw[List.getElem?_map,hx];rfl)
    have hfree:=hown.frozenAt (p*32+k)
    have HO3:=lh hown;clear hown hx hlen
    go_wp2_with fail
    refine Bf 23 (by kernel_rfl) (by kernel_rfl) ?_
    simp only[List.take_succ_cons,List.take_zero,List.drop_succ_cons,List.drop_zero]
    repeat (go_big_quiet_step (first|fail|fail))
    refine wpQuiet_nil ?_
    intro w3 hw3
    have hb3:=Aa hw3
    clear hw3
    obtain⟨hc3,hf3⟩:=Cn hb3
    have hz3:=BH hb3
    try simp only[Bo] at hz3
    try simp only[sizes] at hc3 hf3
    have hown3:=Af HO3.out hb3
    have hgl3:g<w3.heap.size:=by omega
    have hc3':=(hb3.cell (p:=⟨g,p*32+k,none⟩) hgl.2).trans hcell
    have hf3':=(hb3.frozen (p:=⟨g,p*32+k,none⟩) hgl.2).trans hfree
    clear hc3 hf3
    go_wp2_with fail
    go_roundw
    case rel =>
     refine ⟨k+1,by omega,by go_num,?_,bel⟩
     have h5:=(hown3.stored (p*32+k) (.int .u32 0)).1
     rw[Gc] at h5
     exact h5
    case measure=>simp [intOf];omega
  · obtain rfl:k=32:=by omega
    have HO3:=lh hown;clear hown
    go_wp2_with fail
    go_ret2
    have hl:=(EB xs p 32).trans HN.out
    exact⟨_,rfl,⟨by rw[hl];exact HO3.out,by omega⟩,hbw⟩
def setN (G v:Nat):Nat:=G ||| 2 ^ v
def clrN (G v:Nat):Nat:=(BitVec.ofNat 32 G &&& ~~~BitVec.ofNat 32 (2 ^ v)).toNat
theorem two_lt {v:Nat} (h:v<32):2 ^ v<4294967296:=Nat.lt_of_lt_of_le (Nat.pow_lt_pow_right (by omega) h) (by decide)
theorem GQ {G v:Nat} (hG:G<4294967296) (h:v<32):setN G v<4294967296:=Nat.or_lt_two_pow (n:=32) hG (two_lt h)
theorem Hh (G v:Nat):clrN G v<4294967296:=BitVec.isLt _
theorem or_u32 (G v:Nat) (hG:G<4294967296) (h:v<32):bits .or .u32 (G:Int) (2 ^ v)=(setN G v:Int):=by
 show IntKind.u32.wrap ((BitVec.ofInt 32 (G:Int) ||| BitVec.ofInt 32 (2 ^ v)).toNat:Int)=_
 have e0:((2:Int) ^ v)=((2 ^ v:Nat):Int):=by rw[Int.natCast_pow];rfl
 have e1:(BitVec.ofInt 32 (G:Int)).toNat=G:=by rw[BitVec.ofInt_natCast,BitVec.toNat_ofNat];exact Nat.mod_eq_of_lt hG
 have e2:(BitVec.ofInt 32 ((2:Int) ^ v)).toNat=2 ^ v:=by rw[e0,BitVec.ofInt_natCast,BitVec.toNat_ofNat];exact Nat.mod_eq_of_lt (two_lt h)
 rw[BitVec.toNat_or,e1,e2,IntKind.wrap_u32]
 have:=GQ hG h
 unfold setN at *
 omega
theorem andNot_u32 (G v:Nat):bits .andNot .u32 (G:Int) (2 ^ v)=(clrN G v:Int):=by
 show IntKind.u32.wrap ((BitVec.ofInt 32 (G:Int) &&& ~~~BitVec.ofInt 32 (2 ^ v)).toNat:Int)=_
 have e0:((2:Int) ^ v)=((2 ^ v:Nat):Int):=by rw[Int.natCast_pow];rfl
 rw[e0,BitVec.ofInt_natCast,BitVec.ofInt_natCast,IntKind.wrap_u32]
 have:=Hh G v
 unfold clrN at *
 omega
theorem and_bit (G v:Nat) (hG:G<4294967296) (h:v<32):bits .and .u32 (G:Int) (2 ^ v)=(((G.testBit v).toNat*2 ^ v:Nat):Int):=by
 have:=Gw G (2 ^ v) hG (two_lt h)
 have e:G &&& 2 ^ v=(G.testBit v).toNat*2 ^ v:=by
  apply Nat.eq_of_testBit_eq
  intro i
  rw[Nat.testBit_and,Nat.testBit_two_pow]
  by_cases hi:v=i
  · subst hi
    cases G.testBit v <;> simp
  · rw[decide_eq_false hi,Bool.and_false]
    cases G.testBit v
    · simp
    · rw[Bool.toNat_true,Nat.one_mul,Nat.testBit_two_pow,decide_eq_false hi]
 rw[e,Int.natCast_pow] at this
 exact this
theorem OwnMem.set {base:Nat} {w:World} {v:Value} {xs:List Int} (h:OwnMem base w v xs) {b j:Nat} (hlt:b<base) (x:Value):OwnMem base (w.setCell ⟨b,j,none⟩ x) v xs:=⟨ownsRow_setCell_below h.1 hlt x,h.2⟩
theorem GI {v:Nat} (h:v<32):(2:Int) ^ v % 4294967296=2 ^ v:=by
 have:=two_lt h
 have e:(2:Int) ^ v=((2 ^ v:Nat):Int):=by rw[Int.natCast_pow];rfl
 rw[e]
 exact Int.emod_eq_of_lt (Int.natCast_nonneg _) (Int.ofNat_lt.2 this)
theorem two_ne (v:Nat):(((2 ^ v:Nat):Int) == 0)=false:=by
 rw[beq_eq_false_iff_ne]
 exact fun h=>Nat.ne_of_gt (Nat.two_pow_pos v) (Int.ofNat.inj h)
theorem two_ne' (v:Nat):((2:Int) ^ v == 0)=false:=by
 have e:(2:Int) ^ v=((2 ^ v:Nat):Int):=by rw[Int.natCast_pow];rfl
 rw[e];exact two_ne v
theorem repeat_any (w:World):Calls Tryz.prog 177 #[.string ⟨#[0]⟩,.int .i64 128] w (Ret w (.string zeros128)):=by
 have h:=Tryz.strings_Repeat ⟨#[0]⟩ 128 w (by decide) (by decide)
 have e:(⟨(Lib.repeatL (⟨#[0]⟩:ByteArray).data.toList 128).toArray⟩:ByteArray)=zeros128:=by decide +kernel
 rw[e] at h
 exact h
def Hy (G n:Nat) (port:Int) (v:Nat):Nat :=
 if v<32 then if port=10 then if v<AO n∧G.testBit v=false then setN G v else G else if port=11 then clrN G v else G else G
def Fc (G:Nat) (xs:List Int) (port:Int) (v:Nat):List Int :=
 if v<32∧port=10∧v<AO xs.length∧G.testBit v=false then CJ xs v 32 else xs
def GE (w:World) (T G:Nat) (xs:List Int) (e:Ending) (w':World):Prop:=∃ v,e=.returned (.tuple #[.agg #[.int .u32 T,.int .u32 G],v])∧OwnMem w.heap.size w' v xs∧Below w.heap.size w w'
theorem out_blocks (w:World) (x0 x1 y0 y1:Value) (T:TypeId):HasBlock ((w.alloc (.cells #[x0,x1] T)).alloc (.cells #[y0,y1] T)) w.heap.size #[x0,x1] T∧HasBlock ((w.alloc (.cells #[x0,x1] T)).alloc (.cells #[y0,y1] T)) (w.heap.size+1) #[y0,y1] T:=by
 refine ⟨(HasBlock.made w _ T).alloc _,?_⟩
 have:=HasBlock.made (w.alloc (.cells #[x0,x1] T)) #[y0,y1] T
 simpa only[sizes] using this
theorem Xz44 {P:Prop} (h:P:=by
  go_in
  go_wp2_with fail
  go_region_with (go_at_call 44;refine (At _ xs _ (HROW.out.below bel) (by rw[HN.out];omega)).mono ?_;rintro e w5 ⟨v5,rfl,ho5,hb5⟩;obtain⟨hc5,hf5⟩:=Cn hb5;have hz5:=BH hb5;try simp only[Bo] at hz5;try simp only[sizes] at hc5 hf5)
  all_goals
   go_wp2_with fail
   exact bodyPost_ret (v:=.tuple #[.agg #[.int .u32 T,.int .u32 G],v5]) (by simp [results,Tryz.results106,go_sem,hc5 ]) rfl ⟨_,rfl,(((ho5.set (by simp only[sizes];omega) _).set (by simp only[sizes];omega) _).lower (by simp only[sizes];omega)),bel⟩):P:=h
theorem out_big (va:Value) (xs:List Int) (T G v:Nat) (port:Int) (w:World) (ha:MemRow w va xs) (hn:xs.length≤1024) (h:32≤v):Calls Tryz.prog 106 #[.agg #[.int .u32 T,.int .u32 G],va,.int .i64 port,.int .u32 v] w (GE w T G xs):=by
 have hrow:=ha
 obtain⟨b,off,cap,rfl,h1,h2,h0,h3,h4⟩:=ha
 clear h3 h4
 have HROW:=lh hrow;clear hrow
 obtain⟨n,hn'⟩:∃ n,xs.length=n:=⟨_,rfl⟩
 rw[hn'] at h0 h1 hn HROW ⊢
 have HN:=lh hn';clear hn'
 exact Xz44
theorem out_else (va:Value) (xs:List Int) (T G v:Nat) (port:Int) (w:World) (ha:MemRow w va xs) (hn:xs.length≤1024) (h:v<32) (hp:port≠10) (hq:port≠11):Calls Tryz.prog 106 #[.agg #[.int .u32 T,.int .u32 G],va,.int .i64 port,.int .u32 v] w (GE w T G xs):=by
 have hrow:=ha
 obtain⟨b,off,cap,rfl,h1,h2,h0,h3,h4⟩:=ha
 clear h3 h4
 have HROW:=lh hrow;clear hrow
 obtain⟨n,hn'⟩:∃ n,xs.length=n:=⟨_,rfl⟩
 rw[hn'] at h0 h1 hn HROW ⊢
 have HN:=lh hn';clear hn'
 have e1:(port == 10)=false:=by rw[beq_eq_false_iff_ne];exact hp
 have e2:(port == 11)=false:=by rw[beq_eq_false_iff_ne];exact hq
 clear hp hq
 exact Xz44
theorem out_take (va:Value) (xs:List Int) (T G v:Nat) (w:World) (ha:MemRow w va xs) (hn:xs.length≤1024) (_hG:G<4294967296) (h:v<32):Calls Tryz.prog 106 #[.agg #[.int .u32 T,.int .u32 G],va,.int .i64 11,.int .u32 v] w (GE w T (clrN G v) xs):=by
 have hrow:=ha
 obtain⟨b,off,cap,rfl,h1,h2,h0,h3,h4⟩:=ha
 clear h3 h4
 have HROW:=lh hrow;clear hrow
 obtain⟨n,hn'⟩:∃ n,xs.length=n:=⟨_,rfl⟩
 rw[hn'] at h0 h1 hn HROW ⊢
 have HN:=lh hn';clear hn'
 have am:=GI h
 have a1:=andNot_u32 G v
 have a2:=Hh G v
 obtain⟨G1,hG1⟩:∃ x,clrN G v=x:=⟨_,rfl⟩
 rw[hG1] at a1 a2 ⊢
 clear hG1
 go_in
 go_wp2_with fail
 go_region_with (go_at_call 44;refine (At _ xs _ (HROW.out.below bel) (by rw[HN.out];omega)).mono ?_;rintro e w5 ⟨v5,rfl,ho5,hb5⟩;obtain⟨hc5,hf5⟩:=Cn hb5;have hz5:=BH hb5;try simp only[Bo] at hz5;try simp only[sizes] at hc5 hf5)
 all_goals
  go_wp2_with fail
  exact bodyPost_ret (v:=.tuple #[.agg #[.int .u32 T,.int .u32 G1],v5]) (by simp [results,Tryz.results106,go_sem,hc5 ]) rfl ⟨_,rfl,(((ho5.set (by simp only[sizes];omega) _).set (by simp only[sizes];omega) _).lower (by simp only[sizes];omega)),bel⟩
theorem out_keep (va:Value) (xs:List Int) (T G v:Nat) (w:World) (ha:MemRow w va xs) (hn:xs.length≤1024) (hG:G<4294967296) (h:v<32) (hno:¬(v<AO xs.length∧G.testBit v=false)):Calls Tryz.prog 106 #[.agg #[.int .u32 T,.int .u32 G],va,.int .i64 10,.int .u32 v] w (GE w T G xs):=by
 have hrow:=ha
 obtain⟨b,off,cap,rfl,h1,h2,h0,h3,h4⟩:=ha
 clear h3 h4
 have HROW:=lh hrow;clear hrow
 obtain⟨n,hn'⟩:∃ n,xs.length=n:=⟨_,rfl⟩
 rw[hn'] at h0 h1 hn HROW ⊢
 have HN:=lh hn';clear hn'
 rw[HN.out] at hno
 have am:=GI h
 have a1:=and_bit G v hG h
 have P:=fun w=>CF (some ⟨b,off,none⟩) n cap w (by omega)
 have hpl:=Hx n
 obtain⟨q,hq⟩:∃ q,AO n=q:=⟨_,rfl⟩
 rw[hq] at P hno hpl
 have HP:=lh P;clear P hq
 by_cases hv:v<q
 have hb:G.testBit v=true:=by
   cases hb:G.testBit v
   · exact absurd ⟨hv,hb⟩ hno
   · rfl
 rw[hb,Bool.toNat_true,Nat.one_mul] at a1
 have a2:=two_ne v
 have a3:=two_ne' v
 clear hno hb
 rotate_left
 clear a1
 rotate_left
 all_goals
  go_in
  go_wp2_with fail
  refine (HP.out _).mono ?_
  rintro e w1 ⟨rfl,hb1⟩
  obtain⟨hc1,hf1⟩:=Cn hb1
  have hz1:=BH hb1
  try simp only[Bo] at hz1
  try simp only[sizes] at hc1 hf1
  obtain⟨D1,D2⟩:=out_blocks w (.int .u32 T) (.int .u32 G) (.int .u32 0) (.int .u32 0) 40
  replace D1:=D1.below hb1
  replace D2:=D2.below hb1
  have x0:=(D1.cell 0).trans rfl
  have x1:=(D1.cell 1).trans rfl
  have y0:=(D2.cell 0).trans rfl
  have y1:=(D2.cell 1).trans rfl
  have xf:=D1.free
  have yf:=D2.free
  have xz:=D1.lt
  have yz:=D2.lt
  clear hc1 hf1
  go_wp2_with fail
  go_region_with (go_at_call 44;refine (At _ xs _ (HROW.out.below bel) (by rw[HN.out];omega)).mono ?_;rintro e w5 ⟨v5,rfl,ho5,hb5⟩;obtain⟨hc5,hf5⟩:=Cn hb5;have hz5:=BH hb5;try simp only[Bo] at hz5;try simp only[sizes] at hc5 hf5)
  all_goals
   go_wp2_with fail
   exact bodyPost_ret (v:=.tuple #[.agg #[.int .u32 T,.int .u32 G],v5]) (by simp [results,Tryz.results106,go_sem,hc5 ,y0,y1,yz]) rfl ⟨_,rfl,(((ho5.set (by simp only[sizes];omega) _).set (by simp only[sizes];omega) _).lower (by simp only[sizes];omega)),bel⟩
theorem out_give (va:Value) (xs:List Int) (T G v:Nat) (w:World) (ha:MemRow w va xs) (hn:xs.length≤1024) (hG:G<4294967296) (h:v<32) (hp:v<AO xs.length) (hb:G.testBit v=false):Calls Tryz.prog 106 #[.agg #[.int .u32 T,.int .u32 G],va,.int .i64 10,.int .u32 v] w (GE w T (setN G v) (CJ xs v 32)):=by
 have hrow:=ha
 obtain⟨b,off,cap,rfl,h1,h2,h0,h3,h4⟩:=ha
 clear h3 h4
 have HROW:=lh hrow;clear hrow
 obtain⟨n,hn'⟩:∃ n,xs.length=n:=⟨_,rfl⟩
 rw[hn'] at h0 h1 hn HROW ⊢
 have HN:=lh hn';clear hn'
 have S:=fun w ha=>setPage_zero (.slice (some ⟨b,off,none⟩) n cap) xs v w ha hp
 have HS:=lh S;clear S
 rw[HN.out] at hp
 have am:=GI h
 have a1:=and_bit G v hG h
 rw[hb,Bool.toNat_false,Nat.zero_mul] at a1
 have a4:=or_u32 G v hG h
 have a5:=GQ hG h
 obtain⟨G1,hG1⟩:∃ x,setN G v=x:=⟨_,rfl⟩
 rw[hG1] at a4 a5 ⊢
 clear hG1 hb
 have P:=fun w=>CF (some ⟨b,off,none⟩) n cap w (by omega)
 have hpl:=Hx n
 obtain⟨q,hq⟩:∃ q,AO n=q:=⟨_,rfl⟩
 rw[hq] at P hp hpl
 have HP:=lh P;clear P hq
 go_in
 go_wp2_with fail
 refine (HP.out _).mono ?_
 rintro e w1 ⟨rfl,hb1⟩
 obtain⟨hc1,hf1⟩:=Cn hb1
 have hz1:=BH hb1
 try simp only[Bo] at hz1
 try simp only[sizes] at hc1 hf1
 obtain⟨D1,D2⟩:=out_blocks w (.int .u32 T) (.int .u32 G) (.int .u32 0) (.int .u32 0) 40
 replace D1:=D1.below hb1
 replace D2:=D2.below hb1
 have x0:=(D1.cell 0).trans rfl
 have x1:=(D1.cell 1).trans rfl
 have y0:=(D2.cell 0).trans rfl
 have y1:=(D2.cell 1).trans rfl
 have xf:=D1.free
 have yf:=D2.free
 have xz:=D1.lt
 have yz:=D2.lt
 clear hc1 hf1
 go_wp2_with fail
 refine (repeat_any _).mono ?_
 rintro e w2 ⟨rfl,hb2⟩
 obtain⟨hc2,hf2⟩:=Cn hb2
 have hz2:=BH hb2
 try simp only[Bo] at hz2
 try simp only[sizes] at hc2 hf2
 go_wp2_with fail
 refine (HS.out _ (HROW.out.below bel)).mono ?_
 rintro e w5 ⟨v5,rfl,ho5,hb5⟩
 have hz5:=BH hb5
 have E1:=((D1.set_at 1 (.int .u32 G1)).below hb2).below hb5
 have E2:=((D2.set_ne (b':=w.heap.size) (j:=1) (by omega) (.int .u32 G1)).below hb2).below hb5
 clear x0 x1 y0 y1 xf yf xz yz hc2 hf2
 have x0:=(E1.cell 0).trans rfl
 have x1:=(E1.cell 1).trans rfl
 have y0:=(E2.cell 0).trans rfl
 have y1:=(E2.cell 1).trans rfl
 have xf:=E1.free
 have yf:=E2.free
 have xz:=E1.lt
 have yz:=E2.lt
 go_wp2_with fail
 exact bodyPost_ret (v:=.tuple #[.agg #[.int .u32 T,.int .u32 G1],v5]) (by simp [results,Tryz.results106,go_sem,y0,y1]) rfl ⟨_,rfl,(((ho5.set (by omega) _).set (by omega) _).lower (by omega)),bel⟩
theorem out_any (va:Value) (xs:List Int) (T G v:Nat) (port:Int) (w:World) (ha:MemRow w va xs) (hn:xs.length≤1024) (hG:G<4294967296):Calls Tryz.prog 106 #[.agg #[.int .u32 T,.int .u32 G],va,.int .i64 port,.int .u32 v] w (GE w T (Hy G xs.length port v) (Fc G xs port v)):=by
 unfold Hy Fc
 by_cases h:v<32
 · by_cases h10:port=10
   · subst h10
     by_cases hp:v<AO xs.length∧G.testBit v=false
     · rw[if_pos h,if_pos rfl,if_pos hp,if_pos ⟨h,rfl,hp.1,hp.2⟩]
       exact out_give va xs T G v w ha hn hG h hp.1 hp.2
     · rw[if_pos h,if_pos rfl,if_neg hp,if_neg (fun e=>hp e.2.2)]
       exact out_keep va xs T G v w ha hn hG h hp
   · rw[if_pos h,if_neg h10,if_neg (c:=v<32∧port=10∧v<AO xs.length∧G.testBit v=false) (fun e=>h10 e.2.1)]
     by_cases h11:port=11
     · subst h11
       rw[if_pos rfl]
       exact out_take va xs T G v w ha hn hG h
     · rw[if_neg h11]
       exact out_else va xs T G v port w ha hn h h10 h11
 · rw[if_neg h,if_neg (fun e=>h e.1)]
   exact out_big va xs T G v port w ha hn (by omega)
def Bl (b:Int):ByteArray:=⟨#[UInt8.ofNat b.toNat]⟩
theorem Fw (b:Int):(Bl b).size=1:=rfl
def AV (s:ByteArray) (b:Int):ByteArray×Bool:=if 16≤s.size then (s,false) else (s++Bl b,true)
def Cw (s:ByteArray) (port:Int):ByteArray×Int :=
 if port=0 then (if s.size=0 then (s,4294967295) else (s.extract 1 s.size,((s.data[0]?.getD 0).toNat:Int)))
 else if port=1 then (s,s.size) else (s,0)
theorem CO (b:Int) (W:World) (B:Nat) (h:W.cell? ⟨B,0,none⟩=some (.int .u8 b)) :
    (convert 194 9 (.slice (some ⟨B,0,none⟩) 1 1)).run Tryz.prog W=.ok (.string (Bl b)) W :=
 @run_convert_bytes_arg Tryz.prog W 194 5 Tryz.underlying194 Tryz.underlying5 B 0 1 1 [b] rfl
  (fun i hi => by obtain rfl : i = 0 := by omega
                  exact h) 9 Tryz.underlying9
theorem Hg (s:ByteArray) (b:Int) (w:World) (hs:(16:Int)≤s.size) :
    Calls Tryz.prog 129 #[.agg #[.string s],.int .u8 b] w (Ret w (.tuple #[.agg #[.string s],.bool false])):=by
 go_in
 go_wp2
 exact bodyPost_ret (v:=.tuple #[.agg #[.string s],.bool false]) (by simp [results,Tryz.results129,go_sem]) rfl (Ret.mk bel)
theorem Hf (s:ByteArray) (b:Int) (w:World) (hs:s.size<16) :
    Calls Tryz.prog 129 #[.agg #[.string s],.int .u8 b] w (Ret w (.tuple #[.agg #[.string (s++Bl b)],.bool true])):=by
 have hc:=CO b
 have hz:=Fw b
 go_in
 go_wp2
 exact bodyPost_ret (v:=.tuple #[.agg #[.string (s++Bl b)],.bool true]) (by simp [results,Tryz.results129,go_sem]) rfl (Ret.mk bel)
theorem Ja (s:ByteArray) (b:Int) (w:World) :
    Calls Tryz.prog 129 #[.agg #[.string s],.int .u8 b] w (Ret w (.tuple #[.agg #[.string (AV s b).1],.bool (AV s b).2])):=by
 unfold AV
 split
 · exact Hg s b w (by omega)
 · exact Hf s b w (by omega)
theorem F6 (s:ByteArray) (b:Int) (w:World) (hs:(16:Int)≤s.size) :
    Calls Tryz.prog 140 #[.agg #[.string s],.int .u8 b] w (Ret w (.tuple #[.agg #[.string s],.bool false])):=by
 go_in
 go_wp2
 exact bodyPost_ret (v:=.tuple #[.agg #[.string s],.bool false]) (by simp [results,Tryz.results140,go_sem]) rfl (Ret.mk bel)
theorem F5 (s:ByteArray) (b:Int) (w:World) (hs:s.size<16) :
    Calls Tryz.prog 140 #[.agg #[.string s],.int .u8 b] w (Ret w (.tuple #[.agg #[.string (s++Bl b)],.bool true])):=by
 have hc:=CO b
 have hz:=Fw b
 go_in
 go_wp2
 exact bodyPost_ret (v:=.tuple #[.agg #[.string (s++Bl b)],.bool true]) (by simp [results,Tryz.results140,go_sem]) rfl (Ret.mk bel)
theorem FB (s:ByteArray) (b:Int) (w:World) :
    Calls Tryz.prog 140 #[.agg #[.string s],.int .u8 b] w (Ret w (.tuple #[.agg #[.string (AV s b).1],.bool (AV s b).2])):=by
 unfold AV
 split
 · exact F6 s b w (by omega)
 · exact F5 s b w (by omega)
theorem He (n:Int) (h0:0≤n) (h1:n<4294967296):IntKind.u32.wrap n=n:=by rw[IntKind.wrap_u32];omega
theorem head_byte (s:ByteArray) (h:0<s.size):(s.data[0]?.getD 0)=s[0]:=by
 rw[Array.getElem?_eq_getElem h];rfl
theorem byte_lt (c:UInt8):(c.toNat:Int)<4294967296∧(c.toNat:Int)<256∧0≤(c.toNat:Int):=by have:=c.toNat_lt;omega
theorem J4 (s:ByteArray) (w:World) (hs:s.toList.isEmpty=true) (hz:((s.size:Int) == 0)=true) :
    Calls Tryz.prog 98 #[.agg #[.string s],.int .i64 0] w (Ret w (.tuple #[.agg #[.string s],.int .u32 4294967295])):=by
 go_in
 go_wp2
 exact bodyPost_ret (v:=.tuple #[.agg #[.string s],.int .u32 4294967295]) (by simp [results,Tryz.results98,go_sem]) rfl (Ret.mk bel)
theorem J3 (s:ByteArray) (w:World) (hs:s.toList.isEmpty=false) (hz:((s.size:Int) == 0)=false) (h0:0<s.size) :
    Calls Tryz.prog 98 #[.agg #[.string s],.int .i64 0] w (Ret w (.tuple #[.agg #[.string (s.extract 1 s.size)],.int .u32 (s.data[0]?.getD 0).toNat])):=by
 have hb:=byte_lt s[0]
 have hw:=He s[0].toNat (by omega) (by omega)
 go_in
 go_wp2
 all_goals try (go_region;all_goals go_wp2)
 all_goals exact bodyPost_ret (v:=.tuple #[.agg #[.string (s.extract 1 s.size)],.int .u32 s[0].toNat]) (by simp [results,Tryz.results98,go_sem];try omega) rfl (Ret.mk' (by rw[head_byte s h0]) bel)
theorem J2 (s:ByteArray) (w:World) (h0:s.size≤1000) :
    Calls Tryz.prog 98 #[.agg #[.string s],.int .i64 1] w (Ret w (.tuple #[.agg #[.string s],.int .u32 s.size])):=by
 have hw:=He s.size (by omega) (by omega)
 go_in
 go_wp2
 go_region
 all_goals go_wp2
 all_goals exact bodyPost_ret (v:=.tuple #[.agg #[.string s],.int .u32 s.size]) (by simp [results,Tryz.results98,go_sem];try omega) rfl (Ret.mk bel)
theorem Jb (s:ByteArray) (p:Int) (w:World) (h0:(p == 0)=false) (h1:(p == 1)=false) :
    Calls Tryz.prog 98 #[.agg #[.string s],.int .i64 p] w (Ret w (.tuple #[.agg #[.string s],.int .u32 0])):=by
 go_in
 go_wp2
 all_goals exact bodyPost_ret (v:=.tuple #[.agg #[.string s],.int .u32 0]) (by simp [results,Tryz.results98,go_sem]) rfl (Ret.mk bel)
theorem console_In_any (s:ByteArray) (p:Int) (w:World) (h0:s.size≤1000) :
    Calls Tryz.prog 98 #[.agg #[.string s],.int .i64 p] w (Ret w (.tuple #[.agg #[.string (Cw s p).1],.int .u32 (Cw s p).2])):=by
 unfold Cw
 split
 · rename_i h;subst h
   split
   · exact J4 s w (by rw[isEmpty_iff];exact decide_eq_true (by assumption)) (by rw[beq_iff_eq];omega)
   · exact J3 s w (by rw[isEmpty_iff];exact decide_eq_false (by assumption)) (by rw[beq_eq_false_iff_ne];omega) (by omega)
 · split
   · rename_i h;subst h
     exact J2 s w h0
   · exact Jb s p w (by simpa using ‹_›) (by simpa using ‹_›)
theorem Em (s:ByteArray) (w:World) (hs:s.toList.isEmpty=true) (hz:((s.size:Int) == 0)=true) :
    Calls Tryz.prog 197 #[.agg #[.string s],.int .i64 0] w (Ret w (.tuple #[.agg #[.string s],.int .u32 4294967295])):=by
 go_in
 go_wp2
 exact bodyPost_ret (v:=.tuple #[.agg #[.string s],.int .u32 4294967295]) (by simp [results,Tryz.results197,go_sem]) rfl (Ret.mk bel)
theorem El (s:ByteArray) (w:World) (hs:s.toList.isEmpty=false) (hz:((s.size:Int) == 0)=false) (h0:0<s.size) :
    Calls Tryz.prog 197 #[.agg #[.string s],.int .i64 0] w (Ret w (.tuple #[.agg #[.string (s.extract 1 s.size)],.int .u32 (s.data[0]?.getD 0).toNat])):=by
 have hb:=byte_lt s[0]
 have hw:=He s[0].toNat (by omega) (by omega)
 go_in
 go_wp2
 all_goals try (go_region;all_goals go_wp2)
 all_goals exact bodyPost_ret (v:=.tuple #[.agg #[.string (s.extract 1 s.size)],.int .u32 s[0].toNat]) (by simp [results,Tryz.results197,go_sem];try omega) rfl (Ret.mk' (by rw[head_byte s h0]) bel)
theorem Ek (s:ByteArray) (w:World) (h0:s.size≤1000) :
    Calls Tryz.prog 197 #[.agg #[.string s],.int .i64 1] w (Ret w (.tuple #[.agg #[.string s],.int .u32 s.size])):=by
 have hw:=He s.size (by omega) (by omega)
 go_in
 go_wp2
 go_region
 all_goals go_wp2
 all_goals exact bodyPost_ret (v:=.tuple #[.agg #[.string s],.int .u32 s.size]) (by simp [results,Tryz.results197,go_sem];try omega) rfl (Ret.mk bel)
theorem DY (s:ByteArray) (p:Int) (w:World) (h0:(p == 0)=false) (h1:(p == 1)=false) :
    Calls Tryz.prog 197 #[.agg #[.string s],.int .i64 p] w (Ret w (.tuple #[.agg #[.string s],.int .u32 0])):=by
 go_in
 go_wp2
 all_goals exact bodyPost_ret (v:=.tuple #[.agg #[.string s],.int .u32 0]) (by simp [results,Tryz.results197,go_sem]) rfl (Ret.mk bel)
theorem CR (s:ByteArray) (p:Int) (w:World) (h0:s.size≤1000) :
    Calls Tryz.prog 197 #[.agg #[.string s],.int .i64 p] w (Ret w (.tuple #[.agg #[.string (Cw s p).1],.int .u32 (Cw s p).2])):=by
 unfold Cw
 split
 · rename_i h;subst h
   split
   · exact Em s w (by rw[isEmpty_iff];exact decide_eq_true (by assumption)) (by rw[beq_iff_eq];omega)
   · exact El s w (by rw[isEmpty_iff];exact decide_eq_false (by assumption)) (by rw[beq_eq_false_iff_ne];omega) (by omega)
 · split
   · rename_i h;subst h
     exact Ek s w h0
   · exact DY s p w (by simpa using ‹_›) (by simpa using ‹_›)
theorem Xz49 {P:Prop} (h:P:=by
  by_cases h:s.size=0
  · have h1:s.toList.isEmpty=true:=by rw[isEmpty_iff];exact decide_eq_true h
    have h2:decide ((0:Int)<s.size)=false:=decide_eq_false (by omega)
    go_in
    go_wp2
    go_ret
    exact Ret.mk' (by simp [h]) bel
  · have h1:s.toList.isEmpty=false:=by rw[isEmpty_iff];exact decide_eq_false h
    have h2:decide ((0:Int)<s.size)=true:=decide_eq_true (by omega)
    go_in
    go_wp2
    go_ret
    exact Ret.mk' (by have:0<s.size:=by omega
                      simp [this]) bel):P:=h
theorem Gy (s:ByteArray) (w:World):Calls Tryz.prog 209 #[.agg #[.string s]] w (Ret w (.bool (decide (0<s.size)))):=by
 exact Xz49
theorem Dw (s:ByteArray) (w:World):Calls Tryz.prog 238 #[.agg #[.string s]] w (Ret w (.bool (decide (0<s.size)))):=by
 exact Xz49
theorem J1 (s:ByteArray) (w:World):Calls Tryz.prog 152 #[.agg #[.string s]] w (Ret w (.bool (decide (s.size≤16)))):=by
 go_in
 go_wp2
 go_ret
 exact Ret.mk' (by simp;omega) bel
theorem Ej (s:ByteArray) (w:World):Calls Tryz.prog 133 #[.agg #[.string s]] w (Ret w (.bool (decide (s.size≤16)))):=by
 go_in
 go_wp2
 go_ret
 exact Ret.mk' (by simp;omega) bel
end Go.Proofs.YtnmpfmapncicmaaGreat
namespace Go.Proofs.YtnmpfmapncicmaaGreat
set_option linter.all false
set_option maxRecDepth 100000
set_option maxHeartbeats 40000000
structure Ou where
 k:Int
 p:Nat
 b:Int
 d:ByteArray
structure Tm where
 a:Bool
 d:Int
 f:Bool
structure Dk where
 bl:Int
 b:Int
 f:Int
 s:Int
 cmd:Int
 ob:Int
 of:Int
 od:ByteArray
structure Nc where
 f:Int
 l:Int
 p:Bool
 b:Int
 r:Bool
 g:Int
structure Mc where
 c:List Int
 m:List Int
 keys:ByteArray
 tm:Tm
 dk:Dk
 nc:Nc
 T:Nat
 G:Nat
 n:Nat
 w:Bool
 h:Bool
/-! ## Pages as bytes -/
def Do (x:Int) (k:Nat):UInt8:=UInt8.ofNat (x / 2 ^ (8*k) % 256).toNat
def EX (x:Int):List UInt8:=[Do x 0,Do x 1,Do x 2,Do x 3]
def DL (xs:List Int):ByteArray:=⟨(xs.flatMap EX).toArray⟩
def Bh (xs:List Int) (f:Int):ByteArray:=DL ((xs.drop (f.toNat*32)).take 32)
def BD (s:ByteArray) (k:Nat):Int:=((s.data[k]?.getD 0).toNat:Int)
def EI (s:ByteArray) (k:Nat):Int:=BD s (4*k)+256*BD s (4*k+1)+65536*BD s (4*k+2)+16777216*BD s (4*k+3)
def F4 (xs:List Int) (p:Nat) (s:ByteArray):Nat→List Int
 | 0=>xs
 | k+1=>(F4 xs p s k).set (p*32+k) (EI s k)
def A0 (xs:List Int) (f:Int) (s:ByteArray):List Int:=F4 xs f.toNat s 32
/-! ## The devices -/
def isPage (xs:List Int) (f:Int):Bool:=decide (f<Ao xs)
def F8 (d:Dk) (port:Int):Int:=if port=4 then d.b else if port=5 then d.f else if port=6 then d.s else 0
def EW (d:Dk):Bool:=d.s == 2 || d.s == 3
def Ci (d:Dk) (xs:List Int) (cmd:Int) (p:Nat):Dk×List Ou :=
 if d.s≠0 then (d,[])
 else if d.bl≤d.b∨isPage xs d.f=false then ({ d with s:=3 },[])
 else ({ d with s:=1,cmd:=cmd,ob:=d.b,of:=d.f,od:=if cmd=2 then Bh xs d.f else ⟨#[]⟩ },
  [⟨if cmd=2 then 4 else 3,p,d.b,if cmd=2 then Bh xs d.f else ⟨#[]⟩⟩])
def CI (d:Dk) (xs:List Int) (port v:Int) (p:Nat):Dk×List Ou :=
 if port=4 then ({ d with b:=v },[])
 else if port=5 then ({ d with f:=v },[])
 else if port=6∧(v=1∨v=2) then Ci d xs v p
 else if port=6∧v=0∧EW d=true then ({ d with s:=0 },[])
 else (d,[])
def dkDone (d:Dk) (n:Int):Dk:={ d with s:=if n=1 then 2 else 3,cmd:=0,ob:=0,of:=0,od:=⟨#[]⟩ }
def AS (d:Dk) (xs:List Int) (e:Ev):Dk×List Int×Bool :=
 if d.s≠1∨e.k≠4∨1<e.n then (d,xs,false)
 else if e.n=1∧d.cmd=1 then (if e.d.size=128∧isPage xs d.of=true then (dkDone d e.n,A0 xs d.of e.d,true) else (d,xs,false))
 else if e.d.size=0 then (dkDone d e.n,xs,true) else (d,xs,false)
def F7 (c:Nc) (port:Int):Int:=if port=7 then c.f else if port=8 then c.g else if port=9 then (if c.p then 1 else 0)+(if c.r then 2 else 0) else 0
def Cf (c:Nc) (xs:List Int) (port v:Int) (p:Nat):Nc×List Ou :=
 if port=7 then ({ c with f:=v },[])
 else if port=8 then ({ c with l:=v },[])
 else if port=9∧v=1 then (if 1≤c.l∧c.l≤128∧isPage xs c.f=true then (c,[⟨2,p,0,(Bh xs c.f).extract 0 c.l.toNat⟩]) else (c,[]))
 else if port=9∧v=2∧isPage xs c.f=true∧c.p=false∧c.r=false then ({ c with p:=true,b:=c.f },[])
 else if port=9∧v=0 then ({ c with r:=false,g:=0 },[])
 else (c,[])
def AR (c:Nc) (xs:List Int) (s:ByteArray):Nc×List Int×Bool :=
 if c.p=true∧1≤s.size∧s.size≤128∧isPage xs c.b=true then
  ({ c with p:=false,b:=0,r:=true,g:=s.size },A0 xs c.b (s++(Bh xs c.b).extract s.size 128),true)
 else (c,xs,false)
def FG (d:Int):Tm:=⟨d != 0,d,false⟩
/-! ## The machine -/
def E7 (M:Mc):Int:=(if M.tm.f then 1 else 0)+(if M.keys.size=0 then 0 else 2)+(if EW M.dk then 4 else 0)+(if M.nc.r then 8 else 0)+(if F1 M.T M.G then 16 else 0)
def enI (M:Mc):Int:=bits .and .u32 (E7 M) (rg M.c 24)
def Jm (M:Mc):Bool:=M.w && enI M == 0
def Ba (M:Mc):Bool:=M.h || Jm M || decide (1152921504606846976≤M.n)
def EV (l:Int):Int:=if l % 2=1 then 0 else if l / 2 % 2=1 then 1 else if l / 4 % 2=1 then 2 else if l / 8 % 2=1 then 3 else 4
def Bb (M:Mc):List Int:=if rg M.c 17 / 2 % 2=1∧enI M≠0 then AN M.c (16+EV (enI M)) 0 else M.c
def inP (M:Mc) (port clk:Int):ByteArray×Int :=
 if port≤1 then Cw M.keys port
 else (M.keys,if port=2 then clk else if port=3 then (if M.tm.f then 1 else 0) else if port≤6 then F8 M.dk port else if port≤9 then F7 M.nc port else inI M.T M.G port)
def Be (M:Mc) (port v:Int):Mc×List Ou :=
 if port=0 then (M,[⟨1,M.n,0,Bl (v % 256)⟩])
 else if port=3 then ({ M with tm:=FG v },[])
 else if 4≤port∧port≤6 then ({ M with dk:=(CI M.dk M.m port v M.n).1 },(CI M.dk M.m port v M.n).2)
 else if 7≤port∧port≤9 then ({ M with nc:=(Cf M.nc M.m port v M.n).1 },(Cf M.nc M.m port v M.n).2)
 else if port=10∨port=11 then ({ M with m:=Fc M.G M.m port v.toNat,G:=Hy M.G M.m.length port v.toNat },[])
 else (M,[])
def begM (M:Mc):Mc:={ M with c:=Bb M,w:=false }
def Hd (M:Mc) (e:Ef) (clk:Int):Mc×List Ou :=
 if e.k=1 then ({ M with keys:=(inP M e.p clk).1,c:=Bm M.c e.r (inP M e.p clk).2 },[])
 else if e.k=2 then Be M e.p e.v
 else if e.k=3 then ({ M with w:=true },[])
 else if e.k=4 then ({ M with h:=true },[])
 else (M,[])
def CG (M:Mc):Mc×Ef:=({ M with c:=(Bn (Bb M) M.m).1,m:=(Bn (Bb M) M.m).2.1,w:=false },(Bn (Bb M) M.m).2.2)
def AZ (M:Mc) (clk:Int):Mc×List Ou :=
 if Ba M=true then (M,[])
 else ({ (Hd (CG M).1 (CG M).2 clk).1 with n:=M.n+1 },(Hd (CG M).1 (CG M).2 clk).2)
def rdB (M:Mc):Bool := !Ba M && ((CG M).2.k == 1 && (CG M).2.p == 2)
def EG (M:Mc) (e:Ev):Mc×Bool :=
 if M.h=true then (M,false)
 else if e.k=2 then (if e.n=0∧e.d.size=0∧M.tm.a=true then ({ M with tm:=⟨false,M.tm.d,true⟩ },true) else (M,false))
 else if e.k=3 then (if e.n≤255∧e.d.size=0∧M.keys.size<16 then ({ M with keys:=M.keys++Bl e.n },true) else (M,false))
 else if e.k=4 then ({ M with dk:=(AS M.dk M.m e).1,m:=(AS M.dk M.m e).2.1 },(AS M.dk M.m e).2.2)
 else if e.k=5 then (if e.n=0 then ({ M with nc:=(AR M.nc M.m e.d).1,m:=(AR M.nc M.m e.d).2.1 },(AR M.nc M.m e.d).2.2) else (M,false))
 else if e.k=6 then (if e.d.size=0 then ({ M with T:=e.n.toNat },true) else (M,false))
 else (M,false)
/-! ## Valid machines -/
structure MemOk (xs:List Int):Prop where
 w:Words xs
 r:xs.length % 32=0
 p:0<xs.length
 q:xs.length≤1024
def W32 (x:Int):Prop:=0≤x∧x<4294967296
def tmOk (t:Tm):Prop:=W32 t.d∧(t.a=true→t.f=false∧t.d≠0)∧(t.a=false→t.f=false→t.d=0)
structure DkOk (d:Dk) (pages:Int):Prop where
 bl:0≤d.bl∧d.bl≤64
 b:W32 d.b
 f:W32 d.f
 s:0≤d.s∧d.s≤3
 idle:d.s≠1→d.cmd=0∧d.ob=0∧d.of=0∧d.od=⟨#[]⟩
 busy:d.s=1→0≤d.ob∧d.ob<d.bl∧0≤d.of∧d.of<pages∧(d.cmd=1∧d.od=⟨#[]⟩∨d.cmd=2∧d.od.size=128)
structure NcOk (c:Nc) (pages:Int):Prop where
 f:W32 c.f
 l:W32 c.l
 pr:c.p=true→c.r=false
 b:0≤c.b∧(c.p=true→c.b<pages)∧(c.p=false→c.b=0)
 g:(c.r=true→1≤c.g∧c.g≤128)∧(c.r=false→c.g=0)
structure Mc.Ok (M:Mc):Prop where
 c:CpuOk M.c
 m:MemOk M.m
 keys:M.keys.size≤16
 tm:tmOk M.tm
 dk:DkOk M.dk (Ao M.m)
 nc:NcOk M.nc (Ao M.m)
 T:M.T<4294967296
 G:M.G<4294967296
 bal:FV M.G (Ao M.m)=true
 n:M.n≤1152921504606846976
 wh:M.w=true→M.h=false
end Go.Proofs.YtnmpfmapncicmaaGreat
namespace Go.Proofs.YtnmpfmapncicmaaGreat
set_option linter.all false
set_option maxRecDepth 100000
set_option maxHeartbeats 40000000
open Go.RowKit
theorem Bv (xs:List Int):Ao xs=(AO xs.length:Int):=rfl
theorem MemOk.pages {xs:List Int} (h:MemOk xs):Ao xs*32=xs.length∧1≤Ao xs∧Ao xs≤32:=by
 have h1:=h.r;have h2:=h.p;have h3:=h.q
 unfold Ao
 rw[if_pos ⟨h1,h3⟩];omega
theorem EN (ao:Option Addr) (n cap:Nat) (w:World) (hn:n % 32=0) (hq:n≤1024):Calls Tryz.prog 9 #[.slice ao n cap] w (Same w (.int .i64 (n / 32:Nat))):=by
 have e0:(n:Int) % 32=0:=by omega
 go_in
 go_wp2_with fail
 go_ret
 exact Same.mk' (by simp)
theorem MemRow.cell {w:World} {b off cap:Nat} {xs:List Int} (h:MemRow w (.slice (some ⟨b,off,none⟩) xs.length cap) xs) {i:Nat} (hi:i<xs.length):w.cell? ⟨b,off+i,none⟩=some (.int .u32 (rg xs i)):=by
 obtain⟨b',off',cap',e,_,_,_,_,h4⟩:=h
 cases e
 refine h4 i _ ?_
 unfold rg
 rw[List.getElem?_eq_getElem hi];rfl
theorem MemRow.open {w:World} {v:Value} {xs:List Int} (h:MemRow w v xs):∃ b off cap,v=.slice (some ⟨b,off,none⟩) xs.length cap∧xs.length≤cap∧cap≤maxLen∧b<w.heap.size∧MemRow w (.slice (some ⟨b,off,none⟩) xs.length cap) xs:=by
 have h':=h
 obtain⟨b,off,cap,rfl,h1,h2,h0,h3,h4⟩:=h
 exact⟨b,off,cap,rfl,h1,h2,h3,h'⟩
theorem Xz57 {P:Prop} (h:P:=by
  go_ret
  exact Same.mk' (congrArg Value.bool (by rw[Bool.eq_iff_iff];simp only[decide_eq_true_eq];omega))):P:=h
theorem G8 (ao:Option Addr) (xs:List Int) (cap:Nat) (addr size:Int) (w:World) (hm:MemOk xs) (h0:0≤addr) (h1:addr<4294967296) (hs:size=1∨size=4) :
    Calls Tryz.prog 215 #[.slice ao xs.length cap,.int .u32 addr,.int .i64 size] w (Same w (.bool (inB xs addr size))):=by
 have P:=fun w=>EN ao xs.length cap w hm.r hm.q
 obtain⟨hp,hp1,hp2⟩:=hm.pages
 have hq:=hm.q
 unfold inB
 obtain⟨q,hqq⟩:∃ q,xs.length / 32=q:=⟨_,rfl⟩
 have e:Ao xs=q:=by omega
 rw[hqq] at P
 rw[e]
 have hq32:q≤32:=by omega
 have HP:=lh P;clear P hqq e hp
 by_cases hal:addr % size=0
 · obtain rfl|rfl:=hs
   all_goals
    go_in
    go_wp2_with (go_at_call 9;(with_reducible refine (HP.out _).mono ?_);rintro e wz ⟨rfl,rfl⟩)
    exact Xz57
 · obtain rfl|rfl:=hs
   · omega
   · have hne:(addr % 4 != 0)=true:=by rw[bne_iff_ne];exact hal
     rw[decide_eq_false (fun h=>hal h.1)]
     go_in
     go_wp2_with fail
     go_ret
     exact Same.mk
theorem E8 {xs:List Int} {addr size:Int} (hm:MemOk xs) (_h0:0≤addr) (hs:size=1∨size=4) (h:inB xs addr size=true):(addr / 4).toNat<xs.length:=by
 have:=hm.pages
 have h:=of_decide_eq_true h
 omega
theorem mload_no (ao:Option Addr) (xs:List Int) (cap:Nat) (addr size:Int) (w:World) (hm:MemOk xs) (h0:0≤addr) (h1:addr<4294967296) (hs:size=1∨size=4) (hin:inB xs addr size=false) :
    Calls Tryz.prog 160 #[.slice ao xs.length cap,.int .u32 addr,.int .i64 size] w (Same w (.tuple #[.int .u32 0,.bool false])):=by
 have P:=fun w=>G8 ao xs cap addr size w hm h0 h1 hs
 rw[hin] at P
 have HP:=lh P;clear P hin
 go_in
 go_wp2_with (go_at_call 215;(with_reducible refine (HP.out _).mono ?_);rintro e wz ⟨rfl,rfl⟩)
 go_ret2
 exact Same.mk
theorem Fe (va:Value) (xs:List Int) (addr size:Int) (w:World) (ha:MemRow w va xs) (hm:MemOk xs) (h0:0≤addr) (h1:addr<4294967296) (hs:size=1∨size=4) (hin:inB xs addr size=true) :
    Calls Tryz.prog 160 #[va,.int .u32 addr,.int .i64 size] w (Same w (.tuple #[.int .u32 (Cg xs addr size),.bool true])):=by
 obtain⟨b,off,cap,rfl,hc1,hc2,hlt,hrow⟩:=ha.open
 have hw:=E8 hm h0 hs hin
 have hcell:=hrow.cell hw
 have hbd:=Bg hm.w (addr / 4).toNat
 have P:=fun w=>G8 (some ⟨b,off,none⟩) xs cap addr size w hm h0 h1 hs
 rw[hin] at P
 unfold Cg A5
 obtain⟨x,hx⟩:∃ x,rg xs (addr / 4).toNat=x:=⟨_,rfl⟩
 rw[hx] at hcell hbd ⊢
 have F:=fun w=>DC x (addr % 4*8) 8 w hbd.1 hbd.2 (by omega) (by omega) (.inr (.inl rfl))
 obtain⟨n,hn⟩:∃ n,xs.length=n:=⟨_,rfl⟩
 rw[hn] at hw P ⊢
 have HP:=lh P;clear P hin
 have HF:=lh F;clear F
 have a0:0≤addr / 4:=by omega
 have a1:addr / 4<(n:Int):=by omega
 clear hx hn hrow hm ha
 obtain rfl|rfl:=hs
 all_goals
  go_in
  go_wp2_with (first|(go_at_call 215;(with_reducible refine (HP.out _).mono ?_);rintro e wz ⟨rfl,rfl⟩)|(go_at_call 161;(with_reducible refine (HF.out _).mono ?_);rintro e wz ⟨rfl,rfl⟩))
  go_ret2
  exact Same.mk
def AD (f:Value→Value) (xs:List Int) (w:World) (e:Ending) (w':World):Prop:=∃ v,e=.returned (f v)∧OwnMem w.heap.size w' v xs∧Below w.heap.size w w'
theorem OwnMem.open {base:Nat} {w:World} {v:Value} {xs:List Int} (h:OwnMem base w v xs):∃ g cap,v=.slice (some ⟨g,0,none⟩) xs.length cap∧base≤g∧g<w.heap.size∧OwnMem base w (.slice (some ⟨g,0,none⟩) xs.length cap) xs:=by
 have h':=h
 rcases h.1.2 with ⟨_,hbad⟩|⟨g,cap,cur,rfl,hb,hg,_⟩
 · have:=h.2;omega
 · exact⟨g,cap,rfl,hb,(Array.getElem?_eq_some_iff.1 hg).1,h'⟩
theorem OwnMem.cell {base:Nat} {w:World} {g cap:Nat} {xs:List Int} (h:OwnMem base w (.slice (some ⟨g,0,none⟩) xs.length cap) xs) {i:Nat} (hi:i<xs.length):w.cell? ⟨g,i,none⟩=some (.int .u32 (rg xs i)):=by
 have:=h.row.cell hi
 rwa[Nat.zero_add] at this
theorem OwnMem.free {base:Nat} {w:World} {g cap:Nat} {xs:List Int} (h:OwnMem base w (.slice (some ⟨g,0,none⟩) xs.length cap) xs) (i:Nat):w.frozen? ⟨g,i,none⟩=false:=h.1.frozenAt i
theorem OwnMem.put {base:Nat} {w:World} {g cap:Nat} {xs:List Int} (h:OwnMem base w (.slice (some ⟨g,0,none⟩) xs.length cap) xs) (i:Nat) (x:Int):OwnMem base (w.setCell ⟨g,i,none⟩ (.int .u32 x)) (.slice (some ⟨g,0,none⟩) xs.length cap) (xs.set i x):=by
 have h5:=(h.1.stored i (.int .u32 x)).1
 rw[Gc] at h5
 exact⟨by rw[List.length_set];exact h5,by rw[List.length_set];exact h.2⟩
theorem mstore_yes (va:Value) (xs:List Int) (addr size v:Int) (w:World) (ha:MemRow w va xs) (hm:MemOk xs) (h0:0≤addr) (h1:addr<4294967296) (hs:size=1∨size=4) (hin:inB xs addr size=true) (hv0:0≤v) (hv1:v<4294967296) :
    Calls Tryz.prog 167 #[va,.int .u32 addr,.int .i64 size,.int .u32 v] w (AD (fun u=>.tuple #[u,.bool true]) (BO xs addr size v) w):=by
 have HROW:=lh ha
 obtain⟨b,off,cap,rfl,hc1,hc2,hlt,hrow⟩:=ha.open
 have hw:=E8 hm h0 hs hin
 have hbd:=Bg hm.w (addr / 4).toNat
 have P:=fun w=>G8 (some ⟨b,off,none⟩) xs cap addr size w hm h0 h1 hs
 have hlen:xs.length≤1024:=hm.q
 rw[hin] at P
 unfold BO A5
 obtain⟨x,hx⟩:∃ x,rg xs (addr / 4).toNat=x:=⟨_,rfl⟩
 rw[hx] at hbd ⊢
 have F:=fun w=>setField_any x (addr % 4) v w hbd.1 hbd.2 (by omega) (by omega) hv0 hv1
 obtain⟨n,hn⟩:∃ n,xs.length=n:=⟨_,rfl⟩
 rw[hn] at hw P HROW
 have HP:=lh P;clear P hin
 have HF:=lh F;clear F
 have HX:=lh hx;clear hx
 have HN:=lh hn
 rw[hn]
 clear hn hrow hm ha
 have a0:0≤addr / 4:=by omega
 have a1:addr / 4<(n:Int):=by omega
 obtain rfl|rfl:=hs
 all_goals
  go_in
  go_wp2_with fail
  refine (At _ xs _ HROW.out (by omega)).mono ?_
  rintro e w1 ⟨v1,rfl,ho1,hb1⟩
  obtain⟨g,cap1,rfl,hg1,hg2,HO⟩:=ho1.open
  have hcell:=HO.cell (show (addr / 4).toNat<xs.length by rw[HN.out];exact hw)
  have hfree:=HO.free (addr / 4).toNat
  rw[HX.out] at hcell
  have HOO:=lh HO;clear HO ho1
  rw[HN.out]
  go_wp2_with (first|(go_at_call 215;(with_reducible refine (HP.out _).mono ?_);rintro e wz ⟨rfl,rfl⟩)|(go_at_call 218;(with_reducible refine (HF.out _).mono ?_);rintro e wz ⟨rfl,rfl⟩))
  go_ret2
  exact⟨.slice (some ⟨g,0,none⟩) n cap1,rfl,by rw[←HN.out];exact HOO.out.put _ _,hb1.setCell hg1 _⟩
theorem Xz32 {P:Prop} (h:P:=by
  have P:=fun w=>EN ao xs.length cap w hm.r hm.q
  obtain⟨hp,hp1,hp2⟩:=hm.pages
  unfold isPage
  obtain⟨q,hqq⟩:∃ q,xs.length / 32=q:=⟨_,rfl⟩
  have e:Ao xs=q:=by omega
  rw[hqq] at P
  rw[e]
  have hw:IntKind.u64.wrap (q:Int)=q:=by rw[IntKind.wrap_u64];omega
  have HP:=lh P;clear P hqq e hp
  go_in
  go_wp2_with (go_at_call 9;(with_reducible refine (HP.out _).mono ?_);rintro e wz ⟨rfl,rfl⟩)
  go_ret
  exact Same.mk' rfl):P:=h
theorem pisPage_any (ao:Option Addr) (xs:List Int) (cap:Nat) (f:Int) (w:World) (hm:MemOk xs) (h0:0≤f) (h1:f<4294967296):Calls Tryz.prog 258 #[.slice ao xs.length cap,.int .u32 f] w (Same w (.bool (isPage xs f))):=by
 exact Xz32
theorem tr_zero:(Tryz.prog.info? 294).map (·.zero)=some (some (.agg (List.toArray [.int .u32 0,.int .u32 0,.int .i64 0]))):=by kernel_rfl
theorem DR (ao:Option Addr) (xs:List Int) (cap:Nat) (f:Int) (w:World) (hm:MemOk xs) (h0:0≤f) (h1:f<4294967296):Calls Tryz.prog 185 #[.slice ao xs.length cap,.int .u32 f] w (Same w (.bool (isPage xs f))):=by
 exact Xz32
theorem EM (ao:Option Addr) (xs:List Int) (cap:Nat) (f:Int) (w:World) (hm:MemOk xs) (h0:0≤f) (h1:f<4294967296):Calls Tryz.prog 176 #[.slice ao xs.length cap,.int .u32 f] w (Same w (.bool (isPage xs f))):=by
 exact Xz32
theorem Xz117 {P:Prop} (h:P:=by
  obtain rfl|rfl|rfl:acc=1∨acc=2∨acc=3:=by omega
  all_goals
   clear h0 h1
   go_in
   go_wp2
   go_ret2
   exact Same.mk' rfl):P:=h
theorem pcause_any (acc:Int) (w:World) (h0:1≤acc) (h1:acc≤3):Calls Tryz.prog 257 #[.int .i64 acc] w (Same w (.tuple #[.int .i64 (AE acc),.bool true])):=by
 exact Xz117
theorem frameOf_any (e:Int) (w:World) (h0:0≤e) (h1:e<4294967296):Calls Tryz.prog 260 #[.int .u32 e] w (Same w (.int .u32 (e / 256 % 256))):=by
 have F:=fun w=>DC e 8 8 w h0 h1 (by decide) (by decide) (.inr (.inl rfl))
 have HF:=lh F;clear F
 go_in
 go_wp2_with (go_at_call 161;(with_reducible refine (HF.out _).mono ?_);rintro e wz ⟨rfl,rfl⟩)
 go_ret
 exact Same.mk' rfl
theorem permits_any (e acc:Int) (w:World) (h0:0≤e) (h1:e<4294967296) (ha0:1≤acc) (ha1:acc≤3):Calls Tryz.prog 259 #[.int .u32 e,.int .i64 acc] w (Same w (.bool (permB e acc))):=by
 have e1:=and1 h0 h1
 have e2:bits .and .u32 e 2=e / 2 % 2*2:=AT h0 h1 1 (by decide)
 have e4:bits .and .u32 e 4=e / 4 % 2*4:=AT h0 h1 2 (by decide)
 obtain rfl|rfl|rfl:acc=1∨acc=2∨acc=3:=by omega
 all_goals
  clear ha0 ha1
  rcases Int.emod_two_eq e with hv|hv
  all_goals
   rw[hv] at e1
   go_in
   go_wp2
   go_ret
   exact Same.mk' (congrArg Value.bool (by rw[Bool.eq_iff_iff];simp [permB,hv];try omega))
def trV (o:Option (Int×Int)) (acc:Int):Value :=
 match o with
 | none=>.agg #[.int .u32 0,.int .u32 0,.int .i64 (AE acc)]
 | some (a,e)=>.agg #[.int .u32 a,.int .u32 e,.int .i64 0]
theorem Xz52 {P:Prop} (h:P:=by
  exact bodyPost_ret (v:=.agg #[.int .u32 0,.int .u32 0,.int .i64 fa]) (by simp [results,Tryz.results213,go_sem]) rfl (Ret.mk bel)):P:=h
theorem walk_any (va:Value) (xs:List Int) (root x acc:Int) (w:World) (ha:MemRow w va xs) (hm:MemOk xs) (hr0:0≤root) (hr1:root<4294967296) (hx0:0≤x) (hx1:x<4294967296) (ha0:1≤acc) (ha1:acc≤3) :
    Calls Tryz.prog 213 #[va,.int .u32 root,.int .u32 x,.int .i64 acc] w (Ret w (trV (Cb xs root x acc) acc)):=by
 have HROW:=lh ha
 obtain⟨b,off,cap,rfl,hc1,hc2,hlt,hrow⟩:=ha.open
 obtain⟨hp,hp1,hp2⟩:=hm.pages
 have C:=fun w=>pcause_any acc w ha0 ha1
 have I:=fun f h0 h1 w=>pisPage_any (some ⟨b,off,none⟩) xs cap f w hm h0 h1
 have IR:=I root hr0 hr1
 obtain⟨fa,hfa⟩:∃ y,AE acc=y:=⟨_,rfl⟩
 unfold trV
 rw[hfa] at C ⊢
 have HC:=lh C;clear C hfa
 by_cases hx:x<4096
 · by_cases hroot:root<Ao xs
   · rw[show isPage xs root=true from decide_eq_true hroot] at IR
     have HI:=lh IR;clear IR
     have hin:inB xs (root*128+4*(x / 128)) 4=true:=decide_eq_true ⟨by omega,by omega⟩
     have L:=fun w h=>Fe (.slice (some ⟨b,off,none⟩) xs.length cap) xs (root*128+4*(x / 128)) 4 w h hm (by omega) (by omega) (.inr rfl) hin
     have hbd:=Bg hm.w ((root*128+4*(x / 128)) / 4).toNat
     unfold Cg at L
     rw[show (if (4:Int)=1 then A5 xs (root*128+4*(x / 128)) / 2 ^ ((root*128+4*(x / 128)) % 4*8).toNat % 256 else A5 xs (root*128+4*(x / 128)))=A5 xs (root*128+4*(x / 128)) from if_neg (by decide)] at L
     change 0≤A5 xs (root*128+4*(x / 128))∧A5 xs (root*128+4*(x / 128))<4294967296 at hbd
     unfold Cb
     obtain⟨e,he⟩:∃ y,A5 xs (root*128+4*(x / 128))=y:=⟨_,rfl⟩
     rw[he] at L hbd ⊢
     have HL:=lh L;clear L he hin
     have PM:=fun w=>permits_any e acc w hbd.1 hbd.2 ha0 ha1
     have FO:=fun w=>frameOf_any e w hbd.1 hbd.2
     have IF:=I (e / 256 % 256) (by omega) (by omega)
     have HFO:=lh FO;clear FO I
     have w1:IntKind.u32.wrap (root*128)=root*128:=by rw[IntKind.wrap_u32];omega
     have w2:IntKind.u32.wrap (4*(x / 128))=4*(x / 128):=by rw[IntKind.wrap_u32];omega
     have w3:IntKind.u32.wrap (root*128+4*(x / 128))=root*128+4*(x / 128):=by rw[IntKind.wrap_u32];omega
     have w4:IntKind.u32.wrap (e / 256 % 256*128)=e / 256 % 256*128:=by rw[IntKind.wrap_u32];omega
     have w5:IntKind.u32.wrap (e / 256 % 256*128+x % 128)=e / 256 % 256*128+x % 128:=by rw[IntKind.wrap_u32];omega
     by_cases hperm:permB e acc=true
     case neg =>
      have hperm:permB e acc=false:=by simpa using hperm
      rw[if_neg (fun h=>by have:=h.2.2.1;rw[hperm] at this;cases this)]
      rw[hperm] at PM
      have HPM:=lh PM;clear PM hperm
      clear IF hp hp1 hp2 hroot
      go_in
      go_wp2_with (first|(go_at_call 257;(with_reducible refine (HC.out _).mono ?_);rintro e wz ⟨rfl,rfl⟩)|(go_at_call 160;(with_reducible refine (HL.out _ (HROW.out.below bel)).mono ?_);rintro e wz ⟨rfl,rfl⟩)|(go_at_call 259;(with_reducible refine (HPM.out _).mono ?_);rintro e wz ⟨rfl,rfl⟩)|(go_at_call 260;(with_reducible refine (HFO.out _).mono ?_);rintro e wz ⟨rfl,rfl⟩)|(go_at_call 258;(with_reducible first|refine (HI.out _).mono ?_|refine (HIF.out _).mono ?_);rintro e wz ⟨rfl,rfl⟩))
      exact Xz52
     case pos =>
      have PM':=hperm ▸ PM
      have HPM:=lh PM';clear PM PM'
      by_cases hfr:e / 256 % 256<Ao xs
      rw[if_pos ⟨hx,hroot,hperm,hfr⟩]
      rw[show isPage xs (e / 256 % 256)=true from decide_eq_true hfr] at IF
      rotate_left
      rw[if_neg (fun h=>hfr h.2.2.2)]
      rw[show isPage xs (e / 256 % 256)=false from decide_eq_false hfr] at IF
      rotate_left
      all_goals
       have HIF:=lh IF;clear IF hperm hp hp1 hp2 hroot hfr
       go_in
       go_wp2_with (first|(go_at_call 257;(with_reducible refine (HC.out _).mono ?_);rintro e wz ⟨rfl,rfl⟩)|(go_at_call 160;(with_reducible refine (HL.out _ (HROW.out.below bel)).mono ?_);rintro e wz ⟨rfl,rfl⟩)|(go_at_call 259;(with_reducible refine (HPM.out _).mono ?_);rintro e wz ⟨rfl,rfl⟩)|(go_at_call 260;(with_reducible refine (HFO.out _).mono ?_);rintro e wz ⟨rfl,rfl⟩)|(go_at_call 258;(with_reducible first|refine (HI.out _).mono ?_|refine (HIF.out _).mono ?_);rintro e wz ⟨rfl,rfl⟩))
      · exact bodyPost_ret (v:=.agg #[.int .u32 (e / 256 % 256*128+x % 128),.int .u32 (root*128+4*(x / 128)),.int .i64 0]) (by simp [results,Tryz.results213,go_sem]) rfl (Ret.mk bel)
      · exact Xz52
   · rw[show isPage xs root=false from decide_eq_false hroot] at IR
     have HI:=lh IR;clear IR I
     unfold Cb
     rw[if_neg (fun h=>hroot h.2.1)]
     clear hp hp1 hp2 hroot
     go_in
     go_wp2_with (first|(go_at_call 257;(with_reducible refine (HC.out _).mono ?_);rintro e wz ⟨rfl,rfl⟩)|(go_at_call 258;(with_reducible refine (HI.out _).mono ?_);rintro e wz ⟨rfl,rfl⟩))
     exact Xz52
 · unfold Cb
   rw[if_neg (fun h=>hx h.1)]
   clear I IR hp hp1 hp2
   go_in
   go_wp2_with (go_at_call 257;(with_reducible refine (HC.out _).mono ?_);rintro e wz ⟨rfl,rfl⟩)
   exact Xz52
/-! ## Marking an entry -/
theorem or8 {e:Int} (h0:0≤e) (h1:e<4294967296):bits .or .u32 e 8=e+(if e / 8 % 2=0 then 8 else 0):=by
 obtain⟨n,rfl⟩:∃ n:Nat,e=n:=⟨e.toNat,by omega⟩
 have h:=u32_or_nat n 8 (by omega) (by decide)
 have k:=bit_orG (a:=n) (p:=3) (hi:=n / 16) (mid:=n / 8 % 2) (lo:=n % 8) (by omega) (by omega) (by omega)
 simp at h k
 rw[h,k];split <;> omega
theorem or16 {e:Int} (h0:0≤e) (h1:e<4294967296):bits .or .u32 e 16=e+(if e / 16 % 2=0 then 16 else 0):=by
 obtain⟨n,rfl⟩:∃ n:Nat,e=n:=⟨e.toNat,by omega⟩
 have h:=u32_or_nat n 16 (by omega) (by decide)
 have k:=bit_orG (a:=n) (p:=4) (hi:=n / 32) (mid:=n / 16 % 2) (lo:=n % 16) (by omega) (by omega) (by omega)
 simp at h k
 rw[h,k];split <;> omega
theorem mark_is {e acc:Int} (h0:0≤e) (h1:e<4294967296):(acc≠3→bits .or .u32 e 8=Jl e acc)∧(acc=3→bits .or .u32 (bits .or .u32 e 8) 16=Jl e acc)∧0≤Jl e acc∧Jl e acc<4294967296:=by
 have e8:=or8 h0 h1
 have b8:0≤bits .or .u32 e 8∧bits .or .u32 e 8<4294967296:=u32_bd _ _ _
 have e16:=or16 b8.1 b8.2
 have b16:0≤bits .or .u32 (bits .or .u32 e 8) 16∧bits .or .u32 (bits .or .u32 e 8) 16<4294967296:=u32_bd _ _ _
 unfold Jl
 by_cases ha:acc=3
 · refine ⟨fun h=>absurd ha h,fun _=>?_,?_⟩
   · rw[e16,e8];split <;> split <;> split <;> omega
   · rw[e16,e8] at b16;revert b16;split <;> split <;> split <;> omega
 · refine ⟨fun _=>?_,fun h=>absurd h ha,?_⟩
   · rw[e8,show (if acc=3∧e / 16 % 2=0 then (16:Int) else 0)=0 from if_neg (fun h=>ha h.1)];omega
   · rw[e8] at b8;rw[show (if acc=3∧e / 16 % 2=0 then (16:Int) else 0)=0 from if_neg (fun h=>ha h.1)];omega
theorem touch_any (va:Value) (xs:List Int) (ent acc:Int) (w:World) (ha:MemRow w va xs) (hm:MemOk xs) (he0:0≤ent) (he1:ent<4294967296) (hin:inB xs ent 4=true) (_ha0:1≤acc) (ha1:acc≤3) :
    Calls Tryz.prog 214 #[va,.int .u32 ent,.int .i64 acc] w (RetMem w (Dg xs ent acc)):=by
 have hbd:=Bg hm.w (ent / 4).toNat
 change 0≤A5 xs ent∧A5 xs ent<4294967296 at hbd
 have mk:=mark_is (acc:=acc) hbd.1 hbd.2
 have L:=fun w h=>Fe va xs ent 4 w h hm he0 he1 (.inr rfl) hin
 have S:=fun w h=>mstore_yes va xs ent 4 (Jl (A5 xs ent) acc) w h hm he0 he1 (.inr rfl) hin mk.2.2.1 mk.2.2.2
 have hl:Cg xs ent 4=A5 xs ent:=if_neg (by decide)
 have hs:BO xs ent 4 (Jl (A5 xs ent) acc)=Dg xs ent acc:=by unfold BO Dg;rw[if_neg (by decide)]
 rw[hl] at L
 rw[hs] at S
 have HROW:=lh ha
 obtain⟨b,off,cap,rfl,hc1,hc2,hlt,hrow⟩:=ha.open
 have HL:=lh L;have HS:=lh S
 clear L S hl hs hrow hm hin
 by_cases h3:acc=3
 subst h3
 have hk:=mk.2.1 rfl
 generalize A5 xs ent=x at *
 clear mk
 rotate_left
 have hk:=mk.1 h3
 generalize A5 xs ent=x at *
 clear mk
 have h3':(acc == 3)=false:=by simpa using h3
 rotate_left
 all_goals
  go_in
  go_wp2_with (first|(go_at_call 160;(with_reducible refine (HL.out _ HROW.out).mono ?_);rintro e wz ⟨rfl,rfl⟩)|(go_at_call 167;(with_reducible refine (HS.out _ HROW.out).mono ?_);rintro e wz ⟨v2,rfl,ho,hb⟩))
  go_ret
  exact⟨_,rfl,ho,hb⟩
def Ab (c:List Int):List Value:=[.int .u32 (rg c 0),.int .u32 (rg c 1),.int .u32 (rg c 2),.int .u32 (rg c 3),.int .u32 (rg c 4),.int .u32 (rg c 5),.int .u32 (rg c 6),.int .u32 (rg c 7),.int .u32 (rg c 8),.int .u32 (rg c 9),.int .u32 (rg c 10),.int .u32 (rg c 11),.int .u32 (rg c 12),.int .u32 (rg c 13),.int .u32 (rg c 14),.int .u32 (rg c 15),.int .u32 (rg c 16),.int .u32 (rg c 17),.int .u32 (rg c 18),.int .u32 (rg c 19),.int .u32 (rg c 20),.int .u32 (rg c 21),.int .u32 (rg c 22),.int .u32 (rg c 23),.int .u32 (rg c 24)]
theorem cpuL_map {c:List Int} (hc:c.length=25):Ab c=c.map (.int .u32):=by
 match c,hc with
 | [_,_,_,_,_,_,_,_,_,_,_,_,_,_,_,_,_,_,_,_,_,_,_,_,_],_=>rfl
theorem cpu_zero:(Tryz.prog.info? 29).map (·.zero)=some (some (.agg (List.toArray (List.replicate 25 (.int .u32 0))))):=by kernel_rfl
theorem BG (c:List Int):∀ v∈Ab c,v.oneCell'=true:=by
 intro v hv
 simp only[Ab,List.mem_cons,List.not_mem_nil,or_false] at hv
 rcases hv with rfl|rfl|rfl|rfl|rfl|rfl|rfl|rfl|rfl|rfl|rfl|rfl|rfl|rfl|rfl|rfl|rfl|rfl|rfl|rfl|rfl|rfl|rfl|rfl|rfl <;> rfl
theorem Ak {c:List Int} (hc:c.length=25) (j:Nat) (x:Int):(Ab c).set j (.int .u32 x)=Ab (c.set j x):=by
 rw[cpuL_map hc,cpuL_map (by rw[List.length_set];exact hc),List.map_set]
theorem AB {c:List Int} (hc:c.length=25) {j:Nat} (hj:j<25):(Ab c)[j]?=some (.int .u32 (rg c j)):=by
 rw[cpuL_map hc,List.getElem?_map]
 unfold rg
 rw[List.getElem?_eq_getElem (by omega)];rfl
theorem Av:(Tryz.prog.info? 29).map (·.size)=some 25:=by kernel_rfl
theorem Bj:(Tryz.prog.info? 25).map (·.size)=some 1:=by kernel_rfl
theorem Bt {ops:Array Oper} {rest:List Oper} {op:Oper} {a:Act} {w:World} {Q:Exit→Act→World→Prop} {B:Nat} {T:TypeId} {x:Operand} {cs:List Value} (c:List Int) (hB:HasBlock w B cs.toArray T)
    (hgd:op.guard=none) (ho:op.op=.load 29 x) (hx:a.eval x=.pointer (some ⟨B,0,none⟩)) (hv:cs.take 25=Ab c)
    (h:wpList Tryz.prog ops Q rest (a.put op.dst (.agg (Ab c).toArray)) w):wpList Tryz.prog ops Q (op :: rest) a w :=
 Hz (Ab c) hB hgd ho hx Tryz.underlying29 rfl Av (fun j v hv'=>by
  rw[Nat.zero_add]
  rw[←hv,List.getElem?_take] at hv'
  split at hv'
  · exact hv'
  · cases hv') h
theorem BW {ops:Array Oper} {rest:List Oper} {op:Oper} {a:Act} {w:World} {Q:Exit→Act→World→Prop} {B:Nat} {T:TypeId} {x y:Operand} {cs:List Value} (c:List Int) (hB:HasBlock w B cs.toArray T)
    (hgd:op.guard=none) (ho:op.op=.store 29 x y) (hx:a.eval x=.pointer (some ⟨B,0,none⟩)) (hy:a.eval y=.agg (Ab c).toArray) (hs:25≤cs.length)
    (h:∀ w',HasBlock w' B (Ab c++cs.drop 25).toArray T→But B w w'→wpList Tryz.prog ops Q rest (a.put op.dst undef) w'):wpList Tryz.prog ops Q (op :: rest) a w :=
 GB (Ab c) hB hgd ho hx hy (by show 0+25≤_;omega) Av (BG c) h
theorem HasBlock.loadCpu {w:World} {B:Nat} {T:TypeId} {c:List Int} (h:HasBlock w B (Ab c).toArray T):(loadVar 29 ⟨B,0,none⟩).run Tryz.prog w=.ok (.agg (Ab c).toArray) w :=
 run_loadVar_mid w B 0 _ (Ab c) _ (h.range 0 _ (fun j v hv=>by rw[Nat.zero_add];exact hv)) Tryz.underlying29 rfl Av
def zeroCpu:List Value:=List.replicate 25 (.int .u32 0)
theorem GJ (w:World) (c:List Int):HasBlock ((w.alloc (.cells (Ab c).toArray 29)).alloc (.cells #[.int .u32 0,.int .u32 0,.int .u32 0,.int .u32 0,.int .u32 0,.int .u32 0,.int .u32 0,.int .u32 0,.int .u32 0,.int .u32 0,.int .u32 0,.int .u32 0,.int .u32 0,.int .u32 0,.int .u32 0,.int .u32 0,.int .u32 0,.int .u32 0,.int .u32 0,.int .u32 0,.int .u32 0,.int .u32 0,.int .u32 0,.int .u32 0,.int .u32 0] 29)) w.heap.size (Ab c).toArray 29 ∧
    HasBlock ((w.alloc (.cells (Ab c).toArray 29)).alloc (.cells #[.int .u32 0,.int .u32 0,.int .u32 0,.int .u32 0,.int .u32 0,.int .u32 0,.int .u32 0,.int .u32 0,.int .u32 0,.int .u32 0,.int .u32 0,.int .u32 0,.int .u32 0,.int .u32 0,.int .u32 0,.int .u32 0,.int .u32 0,.int .u32 0,.int .u32 0,.int .u32 0,.int .u32 0,.int .u32 0,.int .u32 0,.int .u32 0,.int .u32 0] 29)) (w.heap.size+1) zeroCpu.toArray 29 ∧
    Below w.heap.size w ((w.alloc (.cells (Ab c).toArray 29)).alloc (.cells #[.int .u32 0,.int .u32 0,.int .u32 0,.int .u32 0,.int .u32 0,.int .u32 0,.int .u32 0,.int .u32 0,.int .u32 0,.int .u32 0,.int .u32 0,.int .u32 0,.int .u32 0,.int .u32 0,.int .u32 0,.int .u32 0,.int .u32 0,.int .u32 0,.int .u32 0,.int .u32 0,.int .u32 0,.int .u32 0,.int .u32 0,.int .u32 0,.int .u32 0] 29)):=by
 refine ⟨(HasBlock.made w (Ab c).toArray 29).alloc _,?_,bel⟩
 have:=HasBlock.made (w.alloc (.cells (Ab c).toArray 29)) #[.int .u32 0,.int .u32 0,.int .u32 0,.int .u32 0,.int .u32 0,.int .u32 0,.int .u32 0,.int .u32 0,.int .u32 0,.int .u32 0,.int .u32 0,.int .u32 0,.int .u32 0,.int .u32 0,.int .u32 0,.int .u32 0,.int .u32 0,.int .u32 0,.int .u32 0,.int .u32 0,.int .u32 0,.int .u32 0,.int .u32 0,.int .u32 0,.int .u32 0] 29
 rw[World.size_alloc] at this;exact this
theorem Cv (c:List Int) (r v:Int) (w:World) (hc:c.length=25) (h0:0≤r) (h1:r<16):Calls Tryz.prog 166 #[.agg (Ab c).toArray,.int .i64 r,.int .u32 v] w (Ret w (.agg (Ab (Bm c r v)).toArray)):=by
 obtain⟨D0,D1,hb⟩:=GJ w c
 by_cases hr:r=0
 · subst hr
   go_in
   go_wp2_with (first|(refine Bt (c) D0 rfl rfl rfl rfl ?_)|(refine BW (c) D1 rfl rfl rfl rfl (by decide) ?_;intro w1 D1 N1;replace hb:=N1.below hb (by omega);clear N1))
   go_simp
   have hl:=HasBlock.loadCpu (c:=Bm c 0 v) D1
   exact bodyPost_ret (v:=.agg (Ab (Bm c 0 v)).toArray) (by simp [results,Tryz.results166,asAddr,hl]) rfl (Ret.mk hb)
 · obtain⟨k,rfl⟩:∃ k:Nat,r=k:=⟨r.toNat,by omega⟩
   have e:Bm c k v=c.set k v:=by unfold Bm;rw[if_neg hr];rfl
   rw[e]
   have hd:((k:Int) != 0)=true:=by simpa using hr
   have hd2:((k:Int) == 0)=false:=by simpa using hr
   have HC:=lh hc;clear hc hr e
   go_in
   go_wp2_with (first|(refine A3 (ty:=25) (.int .u32 v) D0 rfl rfl rfl rfl (by show Nat.blt k 25=true;simp;omega) Bj rfl ?_;intro w1 D0 N1;have D1:=N1.block D1 (by omega);replace hb:=N1.below hb (by omega);clear N1;rw[Ak HC.out] at D0)|(refine Bt (c.set k v) D0 rfl rfl rfl rfl ?_)|(refine BW (c.set k v) D1 rfl rfl rfl rfl (by decide) ?_;intro w1 D1 N1;replace hb:=N1.below hb (by omega);clear N1))
   go_simp
   have hl:=HasBlock.loadCpu (c:=c.set k v) D1
   exact bodyPost_ret (v:=.agg (Ab (c.set k v)).toArray) (by simp [results,Tryz.results166,asAddr,hl]) rfl (Ret.mk hb)
/-! ## The status -/
def Dv (s f t:Int):Int:=if (bits .and .u32 s f != 0)=true then bits .or .u32 s t else bits .andNot .u32 s t
theorem move_any (s f t:Int) (w:World):Calls Tryz.prog 158 #[.int .u32 s,.int .u32 f,.int .u32 t] w (Same w (.int .u32 (Dv s f t))):=by
 unfold Dv
 by_cases h:(bits .and .u32 s f != 0)=true
 · rw[if_pos h]
   go_in
   go_wp2
   go_ret
   exact Same.mk
 · rw[if_neg h]
   have h':(bits .and .u32 s f != 0)=false:=by simpa using h
   clear h
   go_in
   go_wp2
   go_ret
   exact Same.mk
theorem trapS_is:∀ s:Nat,s≤31→bits .andNot .u32 (bits .or .u32 (Dv (Dv s 1 8) 2 16) 1) 2=GK s:=by decide +kernel
theorem retS_is:∀ s:Nat,s≤31→Dv (Dv s 8 1) 16 2=retS s:=by decide +kernel
theorem Eq (c:List Int) (cause bad:Int) (w:World) (hc:CpuOk c) (h0:0≤cause) (h1:cause<4294967296):Calls Tryz.prog 90 #[.agg (Ab c).toArray,.int .i64 cause,.int .u32 bad] w (Ret w (.agg (Ab (AN c cause bad)).toArray)):=by
 obtain⟨D0,D1,hb⟩:=GJ w c
 have hw:IntKind.u32.wrap cause=cause:=by rw[IntKind.wrap_u32];omega
 have hlen:=hc.len
 have hs:bits .andNot .u32 (bits .or .u32 (Dv (Dv (rg c 17) 1 8) 2 16) 1) 2=GK (rg c 17):=by
  have:=hc.s;have:=(hc.at 17).1
  obtain⟨k,hk⟩:∃ k:Nat,rg c 17=k:=⟨(rg c 17).toNat,by omega⟩
  rw[hk];exact trapS_is k (by omega)
 have e:Ab (AN c cause bad)=((((((Ab c).set 19 (.int .u32 (rg c 16))).set 20 (.int .u32 cause)).set 21 (.int .u32 bad)).set 17 (.int .u32 (bits .andNot .u32 (bits .or .u32 (Dv (Dv (rg c 17) 1 8) 2 16) 1) 2))).set 16 (.int .u32 (rg c 18))):=by
  rw[hs];unfold AN
  rw[Ak hlen,Ak (by simp [hlen]),Ak (by simp [hlen]),Ak (by simp [hlen]),Ak (by simp [hlen])]
 have HE:=lh e;clear e hs
 go_in
 go_wp2_with (first|(go_at_call 158;((with_reducible refine (move_any _ _ _ _).mono ?_);rintro e wz ⟨rfl,rfl⟩))|(refine AA (ty:=25) _ D0 rfl rfl rfl Tryz.underlying25 rfl rfl ?_)|(refine A3 (ty:=25) (.int .u32 (rg c 16)) D0 rfl rfl rfl rfl rfl Bj rfl ?_;intro w1 D0 N1;have D1:=N1.block D1 (by omega);replace hb:=N1.below hb (by omega);clear N1)|(refine A3 (ty:=25) (.int .u32 cause) D0 rfl rfl rfl rfl rfl Bj rfl ?_;intro w1 D0 N1;have D1:=N1.block D1 (by omega);replace hb:=N1.below hb (by omega);clear N1)|(refine A3 (ty:=25) (.int .u32 bad) D0 rfl rfl rfl rfl rfl Bj rfl ?_;intro w1 D0 N1;have D1:=N1.block D1 (by omega);replace hb:=N1.below hb (by omega);clear N1)|(refine A3 (ty:=25) (.int .u32 (bits .andNot .u32 (bits .or .u32 (Dv (Dv (rg c 17) 1 8) 2 16) 1) 2)) D0 rfl rfl rfl rfl rfl Bj rfl ?_;intro w1 D0 N1;have D1:=N1.block D1 (by omega);replace hb:=N1.below hb (by omega);clear N1)|(refine A3 (ty:=25) (.int .u32 (rg c 18)) D0 rfl rfl rfl rfl rfl Bj rfl ?_;intro w1 D0 N1;have D1:=N1.block D1 (by omega);replace hb:=N1.below hb (by omega);clear N1)|(refine Bt (AN c cause bad) D0 rfl rfl rfl ((by show List.take 25 _=_;rw[HE.out];rfl)) ?_)|(refine BW (AN c cause bad) D1 rfl rfl rfl rfl (by decide) ?_;intro w1 D1 N1;replace hb:=N1.below hb (by omega);clear N1))
 go_simp
 have hl:=HasBlock.loadCpu D1
 exact bodyPost_ret (v:=.agg (Ab _).toArray) (by simp [results,Tryz.results90,asAddr,hl]) rfl (Ret.mk hb)
theorem return_any (c:List Int) (w:World) (hc:CpuOk c):Calls Tryz.prog 169 #[.agg (Ab c).toArray] w (Ret w (.agg (Ab (GC c)).toArray)):=by
 obtain⟨D0,D1,hb⟩:=GJ w c
 have hlen:=hc.len
 have hs:Dv (Dv (rg c 17) 8 1) 16 2=retS (rg c 17):=by
  have:=hc.s;have:=(hc.at 17).1
  obtain⟨k,hk⟩:∃ k:Nat,rg c 17=k:=⟨(rg c 17).toNat,by omega⟩
  rw[hk];exact retS_is k (by omega)
 have e:Ab (GC c)=((Ab c).set 17 (.int .u32 (Dv (Dv (rg c 17) 8 1) 16 2))).set 16 (.int .u32 (rg c 19)):=by
  rw[hs];unfold GC
  rw[Ak hlen,Ak (by simp [hlen])]
 have HE:=lh e;clear e hs
 go_in
 go_wp2_with (first|(go_at_call 158;((with_reducible refine (move_any _ _ _ _).mono ?_);rintro e wz ⟨rfl,rfl⟩))|(refine AA (ty:=25) _ D0 rfl rfl rfl Tryz.underlying25 rfl rfl ?_)|(refine A3 (ty:=25) (.int .u32 (Dv (Dv (rg c 17) 8 1) 16 2)) D0 rfl rfl rfl rfl rfl Bj rfl ?_;intro w1 D0 N1;have D1:=N1.block D1 (by omega);replace hb:=N1.below hb (by omega);clear N1)|(refine A3 (ty:=25) (.int .u32 (rg c 19)) D0 rfl rfl rfl rfl rfl Bj rfl ?_;intro w1 D0 N1;have D1:=N1.block D1 (by omega);replace hb:=N1.below hb (by omega);clear N1)|(refine Bt (GC c) D0 rfl rfl rfl ((by show List.take 25 _=_;rw[HE.out];rfl)) ?_)|(refine BW (GC c) D1 rfl rfl rfl rfl (by decide) ?_;intro w1 D1 N1;replace hb:=N1.below hb (by omega);clear N1))
 go_simp
 have hl:=HasBlock.loadCpu D1
 exact bodyPost_ret (v:=.agg (Ab _).toArray) (by simp [results,Tryz.results169,asAddr,hl]) rfl (Ret.mk hb)
theorem Cy (c:List Int) (w:World) (hc:CpuOk c):Calls Tryz.prog 94 #[.agg (Ab c).toArray] w (Ret w (.bool (BM c))):=by
 have D0:=HasBlock.made w (Ab c).toArray 29
 have hb:Below w.heap.size w (w.alloc (.cells (Ab c).toArray 29)):=bel
 have he:bits .and .u32 (rg c 17) 1=rg c 17 % 2:=and1 (hc.at 17).1 (hc.at 17).2
 have HK:=lh (show BM c=(rg c 17 % 2 != 0) from by
  unfold BM
  rcases Int.emod_two_eq (rg c 17) with h|h <;> rw[h] <;> rfl)
 go_in
 go_wp2_with (first|(refine AA (ty:=25) _ D0 rfl rfl rfl Tryz.underlying25 rfl rfl ?_))
 go_ret
 exact Ret.mk' (by show Value.bool _=Value.bool _;rw[HK.out]) hb
theorem Ed (b:Bool) (w:World):Calls Tryz.prog 220 #[.bool b] w (Same w (.int .u32 (if b=true then 1 else 0))):=by
 cases b
 all_goals
  go_in
  go_wp2
  go_ret
  exact Same.mk' rfl
theorem Xz61 {P:Prop} (h:P:=by
  obtain rfl|rfl|rfl|rfl|rfl|rfl:op=40∨op=41∨op=42∨op=43∨op=44∨op=45:=by omega
  all_goals
   clear h0 h1
   go_in
   go_wp2
   go_ret
   exact Same.mk' (by refine congrArg Value.bool ?_;rw[Bool.eq_iff_iff];simp [GA,i32];try exact⟨fun h=>decide_eq_true h,fun h=>of_decide_eq_true h⟩)):P:=h
theorem taken_any (op a b:Int) (w:World) (h0:40≤op) (h1:op≤45):Calls Tryz.prog 168 #[.int .i64 op,.int .u32 a,.int .u32 b] w (Same w (.bool (GA op a b))):=by
 exact Xz61
theorem Gd (op:Int) (w:World):Calls Tryz.prog 165 #[.int .i64 op] w (Same w (.int .i64 (An op))):=by
 by_cases h0:op=32
 · subst h0
   go_in
   go_wp2
   go_ret
   exact Same.mk' rfl
 · by_cases h1:op=35
   · subst h1
     go_in
     go_wp2
     go_ret
     exact Same.mk' rfl
   · have e:An op=1:=by unfold An;rw[if_neg (by omega)]
     rw[e]
     have h2:(op == 32)=false:=by simpa using h0
     have h3:(op == 35)=false:=by simpa using h1
     clear h0 h1 e
     go_in
     go_wp2
     go_ret
     exact Same.mk' rfl
theorem Fj (acc:Int) (w:World) (h0:1≤acc) (h1:acc≤3):Calls Tryz.prog 212 #[.int .i64 acc] w (Same w (.tuple #[.int .i64 (AE acc),.bool true])):=by
 exact Xz117
/-! ## Writing a control register -/
theorem write_any (c:List Int) (k v:Int) (w:World) (hc:c.length=25) (h0:0≤k) (h1:k≤7) (hv0:0≤v) (hv1:v<4294967296):Calls Tryz.prog 170 #[.agg (Ab c).toArray,.int .i64 k,.int .u32 v] w (Ret w (.agg (Ab (CW c k v)).toArray)):=by
 obtain⟨D0,D1,hb⟩:=GJ w c
 have e31:=Bi hv0 hv1
 have e255:=Db hv0 hv1
 have e3:=Ec hv0 hv1
 obtain⟨X,hX⟩:∃ X,CW c k v=X:=⟨_,rfl⟩
 have hx:Ab X=(Ab c).set (17+k.toNat) (.int .u32 (csrV k v)):=by rw[←hX,Ak hc];unfold CW;rw[if_pos ⟨h0,h1⟩]
 rw[hX]
 have HX:=lh hx;clear hx hX hc
 obtain rfl|rfl|rfl|rfl|rfl|rfl|rfl|rfl:k=0∨k=1∨k=2∨k=3∨k=4∨k=5∨k=6∨k=7:=by omega
 all_goals
  clear h0 h1
  go_in
  go_wp2_with (first|(refine A3 (ty:=25) (.int .u32 (v % 32)) D0 rfl rfl rfl rfl rfl Bj rfl ?_;intro w1 D0 N1;have D1:=N1.block D1 (by omega);replace hb:=N1.below hb (by omega);clear N1)|(refine A3 (ty:=25) (.int .u32 (v % 256)) D0 rfl rfl rfl rfl rfl Bj rfl ?_;intro w1 D0 N1;have D1:=N1.block D1 (by omega);replace hb:=N1.below hb (by omega);clear N1)|(refine A3 (ty:=25) (.int .u32 (v - v % 4)) D0 rfl rfl rfl rfl rfl Bj rfl ?_;intro w1 D0 N1;have D1:=N1.block D1 (by omega);replace hb:=N1.below hb (by omega);clear N1)|(refine A3 (ty:=25) (.int .u32 v) D0 rfl rfl rfl rfl rfl Bj rfl ?_;intro w1 D0 N1;have D1:=N1.block D1 (by omega);replace hb:=N1.below hb (by omega);clear N1)|(refine Bt X D0 rfl rfl rfl (by show List.take 25 _=_;rw[HX.out];rfl) ?_)|(refine BW X D1 rfl rfl rfl rfl (by decide) ?_;intro w1 D1 N1;replace hb:=N1.below hb (by omega);clear N1))
  go_simp
  have hl:=HasBlock.loadCpu D1
  exact bodyPost_ret (v:=.agg (Ab _).toArray) (by simp [results,Tryz.results170,asAddr,hl]) rfl (Ret.mk hb)
section
variable {P:Program}
theorem Ju {o:Oper} {a:Act} {C:World→Prop} {K:Act→Prop} {B k:Nat} {T ty:TypeId} {x:Operand} {cs:List Value} {d:TypeDesc} (vs:List Value) (hB:∀ w,C w→HasBlock w B cs.toArray T)
    (ho:o.op=.load ty x) (hx:a.eval x=.pointer (some ⟨B,k,none⟩))
    (hu:P.underlying ty=some d) (hd:d.isRow=true) (hi:(P.info? ty).map (·.size)=some vs.length) (hv:∀ j v,vs[j]?=some v→cs[k+j]?=some v)
    (hk:K (a.put o.dst (.agg vs.toArray))):o.quiet P a C K :=
 ⟨_,fun w' hC=>by
   unfold Oper.quietAt execOp
   have hl:=run_loadAt_mid w' B k ty vs d ((hB w' hC).range k vs hv) hu hd hi
   simp only[ho,hx,Sem.run_bind,Sem.run_pure,hl,Result.andThen_ok]
   exact⟨rfl,rfl⟩,hk⟩
theorem Xz56 {P:Prop} (h:P:=by
  have hagg:(isAgg ty).run P w'=.ok false w':=by
   unfold isAgg
   rw[Sem.run_bind,run_underlying hu w']
   cases d <;> simp_all
  simp [loadVar,Sem.run_bind,hagg,hc]):P:=h
theorem Jv {o:Oper} {a:Act} {C:World→Prop} {K:Act→Prop} {B k:Nat} {T ty:TypeId} {x:Operand} {cs:List Value} {d:TypeDesc} (u:Value) (hB:∀ w,C w→HasBlock w B cs.toArray T)
    (ho:o.op=.load ty x) (hx:a.eval x=.pointer (some ⟨B,k,none⟩))
    (hu:P.underlying ty=some d) (hd:d.isRow=false) (hv:cs[k]?=some u)
    (hk:K (a.put o.dst u)):o.quiet P a C K :=
 ⟨_,fun w' hC=>by
   have hl:(loadVar ty ⟨B,k,none⟩).run P w'=.ok u w':=by
    have hc:w'.cell? ⟨B,k,none⟩=some u:=by rw[(hB w' hC).cell,List.getElem?_toArray];exact hv
    exact Xz56
   unfold Oper.quietAt execOp
   simp only[ho,hx,Instr.loadAt,Instr.sureAddr,Sem.run_bind,Sem.run_pure,Result.andThen_ok,hl]
   exact⟨rfl,rfl⟩,hk⟩
end
section
variable {P:Program}
structure NewBox (w:World) (cs:List Value) (T:TypeId) (w':World):Prop where
 box:HasBlock w' w.heap.size cs.toArray T
 bel:Below w.heap.size w w'
 size:w'.heap.size=w.heap.size+1
theorem NewBox.made (w:World) (cs:List Value) (T:TypeId):NewBox w cs T (w.alloc (.cells cs.toArray T)) :=
 ⟨HasBlock.made w _ _,(Below.refl _ _).alloc (nlr _) _,World.size_alloc ..⟩
theorem Xz95 {P:Prop} (h:P:=by
  unfold zeroValue typeInfo
  cases hi:P.info? ty with
  | none=>rw[hi] at hz;cases hz
  | some i =>
    rw[hi] at hz
    have:i.zero=some z:=by simpa using hz
    simp [Sem.run_bind,hi,this]):P:=h
theorem alloc_box {ops:Array Oper} {rest:List Oper} {op:Oper} {a:Act} {w:World} {Q:Exit→Act→World→Prop} {ty:TypeId} (zs:List Value) (z:Value)
    (hgd:op.guard=none) (ho:op.op=.alloc ty) (hz:(P.info? ty).map (·.zero)=some (some z)) (hc:z.cells=zs.toArray)
    (h:∀ w',NewBox w zs ty w'→wpList P ops Q rest (a.put op.dst (.pointer (some ⟨w.heap.size,0,none⟩))) w'):wpList P ops Q (op :: rest) a w:=by
 refine wpList_plain hgd fun _ hK=>?_
 have hzv:(zeroValue ty).run P w=.ok z w:=by
  exact Xz95
 have hr:(Instr.alloc ty true (.tuple #[])).run P w=.ok (.pointer (some ⟨w.heap.size,0,none⟩)) (w.alloc (.cells zs.toArray ty)):=by
  unfold Instr.alloc newVar
  simp [Sem.run_bind,hzv,hc,newRow]
 unfold Oper.wp execOp
 simp only[ho,Sem.run_bind,hr,Result.andThen_ok,Sem.run_pure]
 exact hK _ _ (h _ (NewBox.made w zs ty))
theorem make_box {ops:Array Oper} {rest:List Oper} {op:Oper} {a:Act} {w:World} {Q:Exit→Act→World→Prop} {ty:TypeId} {x:Operand} (cs:List Value) (v:Value)
    (hgd:op.guard=none) (ho:op.op=.box ty x) (hx:a.eval x=v) (hc:v.cells=cs.toArray)
    (h:∀ w',NewBox w cs ty w'→wpList P ops Q rest (a.put op.dst (.pointer (some ⟨w.heap.size,0,none⟩))) w'):wpList P ops Q (op :: rest) a w:=by
 refine wpList_plain hgd fun _ hK=>?_
 have hr:(Instr.box ty v).run P w=.ok (.pointer (some ⟨w.heap.size,0,none⟩)) (w.alloc (.cells cs.toArray ty)):=by
  unfold Instr.box newVar
  simp [hc,newRow]
 unfold Oper.wp execOp
 simp only[ho,hx,Sem.run_bind,hr,Result.andThen_ok,Sem.run_pure]
 exact hK _ _ (h _ (NewBox.made w cs ty))
end
end Go.Proofs.YtnmpfmapncicmaaGreat
