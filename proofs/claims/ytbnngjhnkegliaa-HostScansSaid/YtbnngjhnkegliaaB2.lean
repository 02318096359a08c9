/-
  Texts joined for the hand-in, in build order: Shelf PlIndex PlZeros PoolValid PlHas PlLaws PlRead. No law is proved here.
-/
import Derived.Shelf.Strings.Builder1
import Derived.Shelf.Strings.Builder2
import Derived.Shelf.Strings.BuilderF
import Derived.Shelf.Strings.Search1
import Derived.Shelf.Strings.Search2
import Derived.Shelf.Strings.Search3
import Derived.Shelf.Strings.Count
import Derived.Shelf.LaysM
import Derived.Shelf.Strings.Shaped
import Derived.Shelf.Strings.Prefix
import Derived.Shelf.Bits.Mul64
import Derived.Shelf.Strings.Repeat
import Derived.Ground.SlgnProg
import Derived.Shelf.SlicesE.Index
import Derived.Shelf.SlicesE.Clone
import Derived.Test.YtbnngjhnkegliaaProg
import Derived.Test.YtbnngjhnkegliaaB1
namespace Go.Proofs.Ytbnngjhnkegliaa
open Go.Shelf
def Try.lays170_ren : Go.Shelf.Ren := ⟨fun | 170 => 70 | n => n, fun | 70 => 111 | 3 => 3 | 0 => 0 | 72 => 113 | 37 => 68 | 5 => 5 | n => n, fun | n => n⟩
theorem Try.lays170 : Go.Proofs.Lays.n170 Try.prog Try.lays170_ren := {
  mixed := by kernel_rfl
  f170 := Try.func70.trans (congrArg some (by kernel_rfl))
  t0 := Try.underlying0
  a0 := Try.isAgg0
  z0 := Try.sizeOf0
  v0 := Try.zeroValue0
  t3 := Try.underlying3
  a3 := Try.isAgg3
  z3 := Try.sizeOf3
  v3 := Try.zeroValue3
  t37 := Try.underlying68
  a37 := Try.isAgg68
  z37 := Try.sizeOf68
  v37 := Try.zeroValue68
  t70 := Try.underlying111
  a70 := Try.isAgg111
  z70 := Try.sizeOf111
  v70 := Try.zeroValue111
  t72 := Try.underlying113
  a72 := Try.isAgg113
  z72 := Try.sizeOf113
  v72 := Try.zeroValue113 }
open Go.RowKit in
theorem Try.Builder_Len (B b : Nat) (bs : List Value) (w : World) (h : Lib.IsBuilder 113 5 B b bs w) :
    Calls Try.prog 70 #[.pointer (some ⟨b, 0, none⟩)] w fun e w' => e = .returned (.int .i64 bs.length) ∧ w' = w := Any.Builder_Len Try.lays170 B b bs w h
def Try.lays169_ren : Go.Shelf.Ren := ⟨fun | 169 => 71 | n => n, fun | 70 => 111 | 9 => 9 | 0 => 0 | 72 => 113 | 37 => 68 | 127 => 127 | 3 => 3 | 5 => 5 | n => n, fun | n => n⟩
theorem Try.lays169 : Go.Proofs.Lays.n169 Try.prog Try.lays169_ren := {
  mixed := by kernel_rfl
  f169 := Try.func71.trans (congrArg some (by kernel_rfl))
  t0 := Try.underlying0
  a0 := Try.isAgg0
  z0 := Try.sizeOf0
  v0 := Try.zeroValue0
  t3 := Try.underlying3
  a3 := Try.isAgg3
  z3 := Try.sizeOf3
  v3 := Try.zeroValue3
  t9 := Try.underlying9
  a9 := Try.isAgg9
  z9 := Try.sizeOf9
  v9 := Try.zeroValue9
  t37 := Try.underlying68
  a37 := Try.isAgg68
  z37 := Try.sizeOf68
  v37 := Try.zeroValue68
  t70 := Try.underlying111
  a70 := Try.isAgg111
  z70 := Try.sizeOf111
  v70 := Try.zeroValue111
  t72 := Try.underlying113
  a72 := Try.isAgg113
  z72 := Try.sizeOf113
  v72 := Try.zeroValue113
  t127 := Try.underlying127
  a127 := Try.isAgg127
  z127 := Try.sizeOf127
  v127 := Try.zeroValue127 }
theorem Try.Builder_Extra_169 : Builder.Extra Try.prog Try.lays169_ren := {
  sizeBuilder := by kernel_rfl
  liesBuilder := by kernel_rfl
  t5 := Try.underlying5
  a5 := Try.isAgg5
  z5 := Try.sizeOf5
  v5 := Try.zeroValue5
  infoByte := by kernel_rfl
  cellsByte := by kernel_rfl
  sizeByte := by kernel_rfl
  neB5 := by decide }
open Go.RowKit in
theorem Try.Builder_String (B b : Nat) (l : List UInt8) (w : World) (h : Lib.IsBuilder 113 5 B b (Lib.byteCells l) w) (h0 : l ≠ []) :
    Calls Try.prog 71 #[.pointer (some ⟨b, 0, none⟩)] w fun e w' => e = .returned (.string ⟨l.toArray⟩) ∧ Below B w w' := Any.Builder_String Try.lays169 Try.Builder_Extra_169 B b l w h h0
open Go.RowKit in
theorem Try.Builder_String_empty (B b : Nat) (w : World) (h : Lib.IsBuilder 113 5 B b [] w) (hBw : B ≤ w.heap.size) :
    Calls Try.prog 71 #[.pointer (some ⟨b, 0, none⟩)] w fun e w' => e = .returned (.string ⟨#[]⟩) ∧ Below B w w' := Any.Builder_String_empty Try.lays169 Try.Builder_Extra_169 B b w h hBw
open Go.RowKit in
theorem Try.Builder_String_any (B b : Nat) (l : List UInt8) (w : World) (h : Lib.IsBuilder 113 5 B b (Lib.byteCells l) w) (hBw : B ≤ w.heap.size) :
    Calls Try.prog 71 #[.pointer (some ⟨b, 0, none⟩)] w fun e w' => e = .returned (.string ⟨l.toArray⟩) ∧ Below B w w' := Any.Builder_String_any Try.lays169 Try.Builder_Extra_169 B b l w h hBw
def Try.lays241_ren : Go.Shelf.Ren := ⟨fun | 241 => 79 | 277 => 86 | n => n, fun | 70 => 111 | 3 => 3 | 0 => 0 | 72 => 113 | 37 => 68 | 5 => 5 | n => n, fun | n => n⟩
theorem Try.lays241 : Go.Proofs.Lays.n241 Try.prog Try.lays241_ren := {
  mixed := by kernel_rfl
  f241 := Try.func79.trans (congrArg some (by kernel_rfl))
  f277 := Try.func86.trans (congrArg some (by kernel_rfl))
  t0 := Try.underlying0
  a0 := Try.isAgg0
  z0 := Try.sizeOf0
  v0 := Try.zeroValue0
  t3 := Try.underlying3
  a3 := Try.isAgg3
  z3 := Try.sizeOf3
  v3 := Try.zeroValue3
  t37 := Try.underlying68
  a37 := Try.isAgg68
  z37 := Try.sizeOf68
  v37 := Try.zeroValue68
  t70 := Try.underlying111
  a70 := Try.isAgg111
  z70 := Try.sizeOf111
  v70 := Try.zeroValue111
  t72 := Try.underlying113
  a72 := Try.isAgg113
  z72 := Try.sizeOf113
  v72 := Try.zeroValue113 }
theorem Try.Builder_Extra_241 : Builder.Extra Try.prog Try.lays241_ren := {
  sizeBuilder := by kernel_rfl
  liesBuilder := by kernel_rfl
  t5 := Try.underlying5
  a5 := Try.isAgg5
  z5 := Try.sizeOf5
  v5 := Try.zeroValue5
  infoByte := by kernel_rfl
  cellsByte := by kernel_rfl
  sizeByte := by kernel_rfl
  neB5 := by decide }
open Go.RowKit in
theorem Try.Builder_grow_fresh (B b n : Nat) (w : World) (hB : B ≤ b) (hbk : w.heap[b]? = some (.cells #[.pointer (some ⟨b, 0, none⟩), .slice none 0 0] 113 (0, 0))) (hBw : B ≤ w.heap.size) (hn : n ≤ 281474976710656) :
    Calls Try.prog 79 #[.pointer (some ⟨b, 0, none⟩), .int .i64 n] w fun e w' => e = .returned (.tuple #[]) ∧ (Lib.BuilderAt 113 5 B b (.pointer (some ⟨b, 0, none⟩)) [] w' ∧ Below B w w') := Any.Builder_grow_fresh Try.lays241 Try.Builder_Extra_241 B b n w hB hbk hBw hn
def Try.lays165_ren : Go.Shelf.Ren := ⟨fun | 165 => 68 | 240 => 78 | 241 => 79 | 276 => 85 | 277 => 86 | n => n, fun | 70 => 111 | 3 => 3 | 0 => 0 | 4 => 4 | 9 => 9 | 20 => 20 | 72 => 113 | 37 => 68 | 164 => 130 | 5 => 5 | n => n, fun | n => n⟩
theorem Try.lays165 : Go.Proofs.Lays.n165 Try.prog Try.lays165_ren := {
  mixed := by kernel_rfl
  f165 := Try.func68.trans (congrArg some (by kernel_rfl))
  f240 := Try.func78.trans (congrArg some (by kernel_rfl))
  f241 := Try.func79.trans (congrArg some (by kernel_rfl))
  f276 := Try.func85.trans (congrArg some (by kernel_rfl))
  f277 := Try.func86.trans (congrArg some (by kernel_rfl))
  t0 := Try.underlying0
  a0 := Try.isAgg0
  z0 := Try.sizeOf0
  v0 := Try.zeroValue0
  t3 := Try.underlying3
  a3 := Try.isAgg3
  z3 := Try.sizeOf3
  v3 := Try.zeroValue3
  t4 := Try.underlying4
  a4 := Try.isAgg4
  z4 := Try.sizeOf4
  v4 := Try.zeroValue4
  t9 := Try.underlying9
  a9 := Try.isAgg9
  z9 := Try.sizeOf9
  v9 := Try.zeroValue9
  t20 := Try.underlying20
  a20 := Try.isAgg20
  z20 := Try.sizeOf20
  v20 := Try.zeroValue20
  t37 := Try.underlying68
  a37 := Try.isAgg68
  z37 := Try.sizeOf68
  v37 := Try.zeroValue68
  t70 := Try.underlying111
  a70 := Try.isAgg111
  z70 := Try.sizeOf111
  v70 := Try.zeroValue111
  t72 := Try.underlying113
  a72 := Try.isAgg113
  z72 := Try.sizeOf113
  v72 := Try.zeroValue113
  t164 := Try.underlying130
  a164 := Try.isAgg130
  z164 := Try.sizeOf130
  v164 := Try.zeroValue130 }
theorem Try.Builder_Extra_165 : Builder.Extra Try.prog Try.lays165_ren := {
  sizeBuilder := by kernel_rfl
  liesBuilder := by kernel_rfl
  t5 := Try.underlying5
  a5 := Try.isAgg5
  z5 := Try.sizeOf5
  v5 := Try.zeroValue5
  infoByte := by kernel_rfl
  cellsByte := by kernel_rfl
  sizeByte := by kernel_rfl
  neB5 := by decide }
open Go.RowKit in
theorem Try.Builder_Grow_fresh (B b n : Nat) (w : World) (hB : B ≤ b) (hbk : w.heap[b]? = some (.cells #[.pointer none, .slice none 0 0] 113 (0, 0))) (hBw : B ≤ w.heap.size) (hn : n ≤ 281474976710656) :
    Calls Try.prog 68 #[.pointer (some ⟨b, 0, none⟩), .int .i64 n] w fun e w' => e = .returned (.tuple #[]) ∧ (Lib.BuilderAt 113 5 B b (.pointer (some ⟨b, 0, none⟩)) [] w' ∧ Below B w w') := Any.Builder_Grow_fresh Try.lays165 Try.Builder_Extra_165 B b n w hB hbk hBw hn
open Go.RowKit in
theorem Try.Builder_Len_f (B b : Nat) (bs : List Value) (w : World) (h : Lib.IsBuilderF 113 5 B b bs w) :
    Calls Try.prog 70 #[.pointer (some ⟨b, 0, none⟩)] w fun e w' => e = .returned (.int .i64 bs.length) ∧ w' = w := Any.Builder_Len_f Try.lays170 B b bs w h
open Go.RowKit in
theorem Try.Builder_String_f (B b : Nat) (l : List UInt8) (w : World) (h : Lib.IsBuilderF 113 5 B b (Lib.byteCells l) w) (h0 : l ≠ []) :
    Calls Try.prog 71 #[.pointer (some ⟨b, 0, none⟩)] w fun e w' => e = .returned (.string ⟨l.toArray⟩) ∧ (Lib.IsBuilderF 113 5 B b (Lib.byteCells l) w' ∧ Below B w w') := Any.Builder_String_f Try.lays169 Try.Builder_Extra_169 B b l w h h0
open Go.RowKit in
theorem Try.Builder_String_empty_f (B b : Nat) (w : World) (h : Lib.IsBuilderF 113 5 B b [] w) (hBw : B ≤ w.heap.size) :
    Calls Try.prog 71 #[.pointer (some ⟨b, 0, none⟩)] w fun e w' => e = .returned (.string ⟨#[]⟩) ∧ (Lib.IsBuilderF 113 5 B b [] w' ∧ Below B w w') := Any.Builder_String_empty_f Try.lays169 Try.Builder_Extra_169 B b w h hBw
open Go.RowKit in
theorem Try.Builder_String_any_f (B b : Nat) (l : List UInt8) (w : World) (h : Lib.IsBuilderF 113 5 B b (Lib.byteCells l) w) (hBw : B ≤ w.heap.size) :
    Calls Try.prog 71 #[.pointer (some ⟨b, 0, none⟩)] w fun e w' => e = .returned (.string ⟨l.toArray⟩) ∧ (Lib.IsBuilderF 113 5 B b (Lib.byteCells l) w' ∧ Below B w w') := Any.Builder_String_any_f Try.lays169 Try.Builder_Extra_169 B b l w h hBw
def Try.lays217_ren : Go.Shelf.Ren := ⟨fun | 217 => 80 | 266 => 87 | n => n, fun | 9 => 9 | 5 => 5 | 3 => 3 | n => n, fun | n => n⟩
theorem Try.lays217 : Go.Proofs.Lays.n217 Try.prog Try.lays217_ren := {
  mixed := by kernel_rfl
  f217 := Try.func80.trans (congrArg some (by kernel_rfl))
  f266 := Try.func87.trans (congrArg some (by kernel_rfl))
  t3 := Try.underlying3
  a3 := Try.isAgg3
  z3 := Try.sizeOf3
  v3 := Try.zeroValue3
  t5 := Try.underlying5
  a5 := Try.isAgg5
  z5 := Try.sizeOf5
  v5 := Try.zeroValue5
  t9 := Try.underlying9
  a9 := Try.isAgg9
  z9 := Try.sizeOf9
  v9 := Try.zeroValue9 }
open Go.RowKit Go.Lib in
theorem Try.stringslite_IndexByte (s : ByteArray) (c : Int) (w : World) :
    Calls Try.prog 80 #[.string s, .int .u8 c] w fun e w' => e = .returned (.int .i64 (Lib.indexByte s.data.toList c.toNat.toUInt8)) ∧ w' = w := Any.stringslite_IndexByte Try.lays217 s c w
def Try.lays224_ren : Go.Shelf.Ren := ⟨fun | 224 => 82 | n => n, fun | 3 => 3 | n => n, fun | n => n⟩
theorem Try.lays224 : Go.Proofs.Lays.n224 Try.prog Try.lays224_ren := {
  mixed := by kernel_rfl
  f224 := Try.func82.trans (congrArg some (by kernel_rfl))
  t3 := Try.underlying3
  a3 := Try.isAgg3
  z3 := Try.sizeOf3
  v3 := Try.zeroValue3 }
open Go.RowKit Go.Lib in
theorem Try.bytealg_Cutover (n : Int) (h0 : 0 ≤ n) (h1 : n < 4611686018427387904) (w : World) :
    Calls Try.prog 82 #[.int .i64 n] w fun e w' => e = .returned (.int .i64 ((n + 16) / 8)) ∧ w' = w := Any.bytealg_Cutover Try.lays224 n h0 h1 w
def Try.lays314_ren : Go.Shelf.Ren := ⟨fun | 314 => 88 | n => n, fun | 9 => 9 | 51 => 123 | 3 => 3 | 4 => 4 | 5 => 5 | 46 => 43 | n => n, fun | n => n⟩
theorem Try.lays314 : Go.Proofs.Lays.n314 Try.prog Try.lays314_ren := {
  mixed := by kernel_rfl
  f314 := Try.func88.trans (congrArg some (by kernel_rfl))
  t3 := Try.underlying3
  a3 := Try.isAgg3
  z3 := Try.sizeOf3
  v3 := Try.zeroValue3
  t4 := Try.underlying4
  a4 := Try.isAgg4
  z4 := Try.sizeOf4
  v4 := Try.zeroValue4
  t5 := Try.underlying5
  a5 := Try.isAgg5
  z5 := Try.sizeOf5
  v5 := Try.zeroValue5
  t9 := Try.underlying9
  a9 := Try.isAgg9
  z9 := Try.sizeOf9
  v9 := Try.zeroValue9
  t46 := Try.underlying43
  a46 := Try.isAgg43
  z46 := Try.sizeOf43
  v46 := Try.zeroValue43
  t51 := Try.underlying123
  a51 := Try.isAgg123
  z51 := Try.sizeOf123
  v51 := Try.zeroValue123 }
open Go.RowKit Go.Lib in
theorem Try.bytealg_hashStr (sep : ByteArray) (hs : sep.size < 4294967281) (w : World) :
    Calls Try.prog 88 #[.string sep] w fun e w' => e = .returned (.tuple #[.int .u32 (RK.H sep.data.toList % 4294967296), .int .u32 (16777619 ^ sep.size % 4294967296)]) ∧ w' = w := Any.bytealg_hashStr Try.lays314 sep hs w
def Try.lays267_ren : Go.Shelf.Ren := ⟨fun | 267 => 83 | 314 => 88 | n => n, fun | 9 => 9 | 3 => 3 | 146 => 124 | 51 => 123 | 4 => 4 | 5 => 5 | 46 => 43 | n => n, fun | n => n⟩
theorem Try.lays267 : Go.Proofs.Lays.n267 Try.prog Try.lays267_ren := {
  mixed := by kernel_rfl
  f267 := Try.func83.trans (congrArg some (by kernel_rfl))
  f314 := Try.func88.trans (congrArg some (by kernel_rfl))
  t3 := Try.underlying3
  a3 := Try.isAgg3
  z3 := Try.sizeOf3
  v3 := Try.zeroValue3
  t4 := Try.underlying4
  a4 := Try.isAgg4
  z4 := Try.sizeOf4
  v4 := Try.zeroValue4
  t5 := Try.underlying5
  a5 := Try.isAgg5
  z5 := Try.sizeOf5
  v5 := Try.zeroValue5
  t9 := Try.underlying9
  a9 := Try.isAgg9
  z9 := Try.sizeOf9
  v9 := Try.zeroValue9
  t46 := Try.underlying43
  a46 := Try.isAgg43
  z46 := Try.sizeOf43
  v46 := Try.zeroValue43
  t51 := Try.underlying123
  a51 := Try.isAgg123
  z51 := Try.sizeOf123
  v51 := Try.zeroValue123
  t146 := Try.underlying124
  a146 := Try.isAgg124
  z146 := Try.sizeOf124
  v146 := Try.zeroValue124 }
open Go.RowKit Go.Lib in
theorem Try.bytealg_IndexRabinKarp (s sep : ByteArray) (h1 : 1 ≤ sep.size) (h2 : sep.size ≤ s.size) (hs : s.size < 4294967281) (w : World) :
    Calls Try.prog 83 #[.string s, .string sep] w fun e w' => e = .returned (.int .i64 (Lib.index s.data.toList sep.data.toList)) ∧ w' = w := Any.bytealg_IndexRabinKarp Try.lays267 s sep h1 h2 hs w
def Try.lays219_ren : Go.Shelf.Ren := ⟨fun | 219 => 72 | 217 => 80 | 225 => 81 | 224 => 82 | 267 => 83 | 266 => 87 | 314 => 88 | n => n, fun | 9 => 9 | 3 => 3 | 4 => 4 | 5 => 5 | 46 => 43 | 146 => 124 | 51 => 123 | n => n, fun | 1 => 0 | n => n⟩
theorem Try.lays219 : Go.Proofs.Lays.n219 Try.prog Try.lays219_ren := {
  mixed := by kernel_rfl
  f217 := Try.func80.trans (congrArg some (by kernel_rfl))
  f219 := Try.func72.trans (congrArg some (by kernel_rfl))
  f224 := Try.func82.trans (congrArg some (by kernel_rfl))
  f225 := Try.func81.trans (congrArg some (by kernel_rfl))
  f266 := Try.func87.trans (congrArg some (by kernel_rfl))
  f267 := Try.func83.trans (congrArg some (by kernel_rfl))
  f314 := Try.func88.trans (congrArg some (by kernel_rfl))
  t3 := Try.underlying3
  a3 := Try.isAgg3
  z3 := Try.sizeOf3
  v3 := Try.zeroValue3
  t4 := Try.underlying4
  a4 := Try.isAgg4
  z4 := Try.sizeOf4
  v4 := Try.zeroValue4
  t5 := Try.underlying5
  a5 := Try.isAgg5
  z5 := Try.sizeOf5
  v5 := Try.zeroValue5
  t9 := Try.underlying9
  a9 := Try.isAgg9
  z9 := Try.sizeOf9
  v9 := Try.zeroValue9
  t46 := Try.underlying43
  a46 := Try.isAgg43
  z46 := Try.sizeOf43
  v46 := Try.zeroValue43
  t51 := Try.underlying123
  a51 := Try.isAgg123
  z51 := Try.sizeOf123
  v51 := Try.zeroValue123
  t146 := Try.underlying124
  a146 := Try.isAgg124
  z146 := Try.sizeOf124
  v146 := Try.zeroValue124
  g1 := by kernel_rfl }
open Go.RowKit Go.Lib in
theorem Try.stringslite_Index_one (s : ByteArray) (c : UInt8) (w : World) :
    Calls Try.prog 72 #[.string s, .string ⟨#[c]⟩] w fun e w' => e = .returned (.int .i64 (Lib.indexByte s.data.toList c)) ∧ w' = w := Any.stringslite_Index_one Try.lays219 s c w
open Go.RowKit Go.Lib in
theorem Try.stringslite_Index (s sub : ByteArray) (m : Int) (w : World) (hs : s.size < 4294967281) (hm : w.cell? ⟨0, 0, none⟩ = some (.int .i64 m)) :
    Calls Try.prog 72 #[.string s, .string sub] w fun e w' => e = .returned (.int .i64 (Lib.index s.data.toList sub.data.toList)) ∧ w' = w := Any.stringslite_Index Try.lays219 s sub m w hs hm
def Try.lays143_ren : Go.Shelf.Ren := ⟨fun | 143 => 61 | 219 => 72 | 217 => 80 | 225 => 81 | 224 => 82 | 267 => 83 | 266 => 87 | 314 => 88 | n => n, fun | 9 => 9 | 3 => 3 | 4 => 4 | 5 => 5 | 46 => 43 | 146 => 124 | 51 => 123 | n => n, fun | 1 => 0 | n => n⟩
theorem Try.lays143 : Go.Proofs.Lays.n143 Try.prog Try.lays143_ren := {
  mixed := by kernel_rfl
  f143 := Try.func61.trans (congrArg some (by kernel_rfl))
  f217 := Try.func80.trans (congrArg some (by kernel_rfl))
  f219 := Try.func72.trans (congrArg some (by kernel_rfl))
  f224 := Try.func82.trans (congrArg some (by kernel_rfl))
  f225 := Try.func81.trans (congrArg some (by kernel_rfl))
  f266 := Try.func87.trans (congrArg some (by kernel_rfl))
  f267 := Try.func83.trans (congrArg some (by kernel_rfl))
  f314 := Try.func88.trans (congrArg some (by kernel_rfl))
  t3 := Try.underlying3
  a3 := Try.isAgg3
  z3 := Try.sizeOf3
  v3 := Try.zeroValue3
  t4 := Try.underlying4
  a4 := Try.isAgg4
  z4 := Try.sizeOf4
  v4 := Try.zeroValue4
  t5 := Try.underlying5
  a5 := Try.isAgg5
  z5 := Try.sizeOf5
  v5 := Try.zeroValue5
  t9 := Try.underlying9
  a9 := Try.isAgg9
  z9 := Try.sizeOf9
  v9 := Try.zeroValue9
  t46 := Try.underlying43
  a46 := Try.isAgg43
  z46 := Try.sizeOf43
  v46 := Try.zeroValue43
  t51 := Try.underlying123
  a51 := Try.isAgg123
  z51 := Try.sizeOf123
  v51 := Try.zeroValue123
  t146 := Try.underlying124
  a146 := Try.isAgg124
  z146 := Try.sizeOf124
  v146 := Try.zeroValue124
  g1 := by kernel_rfl }
open Go.RowKit Go.Lib in
theorem Try.strings_Index_one (s : ByteArray) (c : UInt8) (w : World) :
    Calls Try.prog 61 #[.string s, .string ⟨#[c]⟩] w fun e w' => e = .returned (.int .i64 (Lib.indexByte s.data.toList c)) ∧ w' = w := Any.strings_Index_one Try.lays143 s c w
open Go.RowKit Go.Lib in
theorem Try.strings_Index (s sub : ByteArray) (m : Int) (w : World) (hs : s.size < 4294967281) (hm : w.cell? ⟨0, 0, none⟩ = some (.int .i64 m)) :
    Calls Try.prog 61 #[.string s, .string sub] w fun e w' => e = .returned (.int .i64 (Lib.index s.data.toList sub.data.toList)) ∧ w' = w := Any.strings_Index Try.lays143 s sub m w hs hm
def Try.lays138_ren : Go.Shelf.Ren := ⟨fun | 138 => 46 | 195 => 59 | 218 => 60 | 143 => 61 | 219 => 72 | 217 => 80 | 225 => 81 | 224 => 82 | 267 => 83 | 266 => 87 | 314 => 88 | n => n, fun | 9 => 9 | 3 => 3 | 4 => 4 | 5 => 5 | 0 => 0 | 46 => 43 | 146 => 124 | 51 => 123 | n => n, fun | 1 => 0 | n => n⟩
theorem Try.lays138 : Go.Proofs.Lays.n138 Try.prog Try.lays138_ren := {
  mixed := by kernel_rfl
  f138 := Try.func46.trans (congrArg some (by kernel_rfl))
  f143 := Try.func61.trans (congrArg some (by kernel_rfl))
  f195 := Try.func59.trans (congrArg some (by kernel_rfl))
  f217 := Try.func80.trans (congrArg some (by kernel_rfl))
  f218 := Try.func60.trans (congrArg some (by kernel_rfl))
  f219 := Try.func72.trans (congrArg some (by kernel_rfl))
  f224 := Try.func82.trans (congrArg some (by kernel_rfl))
  f225 := Try.func81.trans (congrArg some (by kernel_rfl))
  f266 := Try.func87.trans (congrArg some (by kernel_rfl))
  f267 := Try.func83.trans (congrArg some (by kernel_rfl))
  f314 := Try.func88.trans (congrArg some (by kernel_rfl))
  t0 := Try.underlying0
  a0 := Try.isAgg0
  z0 := Try.sizeOf0
  v0 := Try.zeroValue0
  t3 := Try.underlying3
  a3 := Try.isAgg3
  z3 := Try.sizeOf3
  v3 := Try.zeroValue3
  t4 := Try.underlying4
  a4 := Try.isAgg4
  z4 := Try.sizeOf4
  v4 := Try.zeroValue4
  t5 := Try.underlying5
  a5 := Try.isAgg5
  z5 := Try.sizeOf5
  v5 := Try.zeroValue5
  t9 := Try.underlying9
  a9 := Try.isAgg9
  z9 := Try.sizeOf9
  v9 := Try.zeroValue9
  t46 := Try.underlying43
  a46 := Try.isAgg43
  z46 := Try.sizeOf43
  v46 := Try.zeroValue43
  t51 := Try.underlying123
  a51 := Try.isAgg123
  z51 := Try.sizeOf123
  v51 := Try.zeroValue123
  t146 := Try.underlying124
  a146 := Try.isAgg124
  z146 := Try.sizeOf124
  v146 := Try.zeroValue124
  g1 := by kernel_rfl }
open Go.RowKit Go.Lib in
theorem Try.strings_Count_one (s : ByteArray) (c : UInt8) (w : World) :
    Calls Try.prog 46 #[.string s, .string ⟨#[c]⟩] w fun e w' => e = .returned (.int .i64 (Lib.countByte s.data.toList c)) ∧ w' = w := Any.strings_Count_one Try.lays138 s c w
open Go.RowKit Go.Lib in
theorem Try.strings_Count (s sub : ByteArray) (m : Int) (w : World) (hs : s.size < 4294967281) (hm : w.cell? ⟨0, 0, none⟩ = some (.int .i64 m)) (h2 : 2 ≤ sub.size) :
    Calls Try.prog 46 #[.string s, .string sub] w fun e w' => e = .returned (.int .i64 (Lib.countB s sub)) ∧ w' = w := Any.strings_Count Try.lays138 s sub m w hs hm h2
def Try.laysM219_ren : Go.Shelf.Ren := ⟨fun | 219 => 72 | 217 => 80 | 225 => 81 | 224 => 82 | 267 => 83 | 266 => 87 | 314 => 88 | n => n, fun | 9 => 9 | 3 => 3 | 4 => 4 | 5 => 5 | 46 => 43 | 146 => 124 | 51 => 123 | n => n, fun | 1 => 0 | n => n⟩
theorem Try.laysM219 : Go.Proofs.LaysM.n219 Try.prog Try.laysM219_ren := {
  mixed := by kernel_rfl
  f217 := Try.func80.trans (congrArg some (by kernel_rfl))
  f219 := Try.func72.trans (congrArg some (by kernel_rfl))
  f224 := Try.func82.trans (congrArg some (by kernel_rfl))
  f225 := Try.func81.trans (congrArg some (by kernel_rfl))
  f266 := Try.func87.trans (congrArg some (by kernel_rfl))
  f267 := Try.func83.trans (congrArg some (by kernel_rfl))
  f314 := Try.func88.trans (congrArg some (by kernel_rfl))
  t3 := Try.underlying3
  a3 := Try.isAgg3
  z3 := Try.sizeOf3
  v3 := Try.zeroValue3
  t4 := Try.underlying4
  a4 := Try.isAgg4
  z4 := Try.sizeOf4
  v4 := Try.zeroValue4
  t5 := Try.underlying5
  a5 := Try.isAgg5
  z5 := Try.sizeOf5
  v5 := Try.zeroValue5
  t9 := Try.underlying9
  a9 := Try.isAgg9
  z9 := Try.sizeOf9
  v9 := Try.zeroValue9
  t46 := Try.underlying43
  a46 := Try.isAgg43
  z46 := Try.sizeOf43
  v46 := Try.zeroValue43
  t51 := Try.underlying123
  a51 := Try.isAgg123
  z51 := Try.sizeOf123
  v51 := Try.zeroValue123
  t146 := Try.underlying124
  a146 := Try.isAgg124
  z146 := Try.sizeOf124
  v146 := Try.zeroValue124
  g1 := by kernel_rfl
  i3 := by kernel_rfl
  i4 := by kernel_rfl
  i5 := by kernel_rfl
  i9 := by kernel_rfl
  i46 := by kernel_rfl
  i51 := by kernel_rfl
  i146 := by kernel_rfl
  m1 := by kernel_rfl
  s1_3 := fun w h => Go.Proofs.cell_of_shapedOpen_int (zero := #[.int .i64 0]) (t := 3) h (of_decide_eq_true (by kernel_rfl)) (by kernel_rfl) rfl (by kernel_rfl) (by kernel_rfl) Try.underlying3 }
open Go.RowKit Go.Lib in
theorem Try.stringslite_Index_shaped (s sub : ByteArray) (w : World) (h : w.ShapedOpen Try.prog) (hs : s.size < 4294967281) :
    Calls Try.prog 72 #[.string s, .string sub] w fun e w' => e = .returned (.int .i64 (Lib.index s.data.toList sub.data.toList)) ∧ w' = w := Any.stringslite_Index_shaped Try.laysM219 s sub w h hs
def Try.laysM143_ren : Go.Shelf.Ren := ⟨fun | 143 => 61 | 219 => 72 | 217 => 80 | 225 => 81 | 224 => 82 | 267 => 83 | 266 => 87 | 314 => 88 | n => n, fun | 9 => 9 | 3 => 3 | 4 => 4 | 5 => 5 | 46 => 43 | 146 => 124 | 51 => 123 | n => n, fun | 1 => 0 | n => n⟩
theorem Try.laysM143 : Go.Proofs.LaysM.n143 Try.prog Try.laysM143_ren := {
  mixed := by kernel_rfl
  f143 := Try.func61.trans (congrArg some (by kernel_rfl))
  f217 := Try.func80.trans (congrArg some (by kernel_rfl))
  f219 := Try.func72.trans (congrArg some (by kernel_rfl))
  f224 := Try.func82.trans (congrArg some (by kernel_rfl))
  f225 := Try.func81.trans (congrArg some (by kernel_rfl))
  f266 := Try.func87.trans (congrArg some (by kernel_rfl))
  f267 := Try.func83.trans (congrArg some (by kernel_rfl))
  f314 := Try.func88.trans (congrArg some (by kernel_rfl))
  t3 := Try.underlying3
  a3 := Try.isAgg3
  z3 := Try.sizeOf3
  v3 := Try.zeroValue3
  t4 := Try.underlying4
  a4 := Try.isAgg4
  z4 := Try.sizeOf4
  v4 := Try.zeroValue4
  t5 := Try.underlying5
  a5 := Try.isAgg5
  z5 := Try.sizeOf5
  v5 := Try.zeroValue5
  t9 := Try.underlying9
  a9 := Try.isAgg9
  z9 := Try.sizeOf9
  v9 := Try.zeroValue9
  t46 := Try.underlying43
  a46 := Try.isAgg43
  z46 := Try.sizeOf43
  v46 := Try.zeroValue43
  t51 := Try.underlying123
  a51 := Try.isAgg123
  z51 := Try.sizeOf123
  v51 := Try.zeroValue123
  t146 := Try.underlying124
  a146 := Try.isAgg124
  z146 := Try.sizeOf124
  v146 := Try.zeroValue124
  g1 := by kernel_rfl
  i3 := by kernel_rfl
  i4 := by kernel_rfl
  i5 := by kernel_rfl
  i9 := by kernel_rfl
  i46 := by kernel_rfl
  i51 := by kernel_rfl
  i146 := by kernel_rfl
  m1 := by kernel_rfl
  s1_3 := fun w h => Go.Proofs.cell_of_shapedOpen_int (zero := #[.int .i64 0]) (t := 3) h (of_decide_eq_true (by kernel_rfl)) (by kernel_rfl) rfl (by kernel_rfl) (by kernel_rfl) Try.underlying3 }
open Go.RowKit Go.Lib in
theorem Try.strings_Index_shaped (s sub : ByteArray) (w : World) (h : w.ShapedOpen Try.prog) (hs : s.size < 4294967281) :
    Calls Try.prog 61 #[.string s, .string sub] w fun e w' => e = .returned (.int .i64 (Lib.index s.data.toList sub.data.toList)) ∧ w' = w := Any.strings_Index_shaped Try.laysM143 s sub w h hs
def Try.laysM138_ren : Go.Shelf.Ren := ⟨fun | 138 => 46 | 195 => 59 | 218 => 60 | 143 => 61 | 219 => 72 | 217 => 80 | 225 => 81 | 224 => 82 | 267 => 83 | 266 => 87 | 314 => 88 | n => n, fun | 9 => 9 | 3 => 3 | 4 => 4 | 5 => 5 | 0 => 0 | 46 => 43 | 146 => 124 | 51 => 123 | n => n, fun | 1 => 0 | n => n⟩
theorem Try.laysM138 : Go.Proofs.LaysM.n138 Try.prog Try.laysM138_ren := {
  mixed := by kernel_rfl
  f138 := Try.func46.trans (congrArg some (by kernel_rfl))
  f143 := Try.func61.trans (congrArg some (by kernel_rfl))
  f195 := Try.func59.trans (congrArg some (by kernel_rfl))
  f217 := Try.func80.trans (congrArg some (by kernel_rfl))
  f218 := Try.func60.trans (congrArg some (by kernel_rfl))
  f219 := Try.func72.trans (congrArg some (by kernel_rfl))
  f224 := Try.func82.trans (congrArg some (by kernel_rfl))
  f225 := Try.func81.trans (congrArg some (by kernel_rfl))
  f266 := Try.func87.trans (congrArg some (by kernel_rfl))
  f267 := Try.func83.trans (congrArg some (by kernel_rfl))
  f314 := Try.func88.trans (congrArg some (by kernel_rfl))
  t0 := Try.underlying0
  a0 := Try.isAgg0
  z0 := Try.sizeOf0
  v0 := Try.zeroValue0
  t3 := Try.underlying3
  a3 := Try.isAgg3
  z3 := Try.sizeOf3
  v3 := Try.zeroValue3
  t4 := Try.underlying4
  a4 := Try.isAgg4
  z4 := Try.sizeOf4
  v4 := Try.zeroValue4
  t5 := Try.underlying5
  a5 := Try.isAgg5
  z5 := Try.sizeOf5
  v5 := Try.zeroValue5
  t9 := Try.underlying9
  a9 := Try.isAgg9
  z9 := Try.sizeOf9
  v9 := Try.zeroValue9
  t46 := Try.underlying43
  a46 := Try.isAgg43
  z46 := Try.sizeOf43
  v46 := Try.zeroValue43
  t51 := Try.underlying123
  a51 := Try.isAgg123
  z51 := Try.sizeOf123
  v51 := Try.zeroValue123
  t146 := Try.underlying124
  a146 := Try.isAgg124
  z146 := Try.sizeOf124
  v146 := Try.zeroValue124
  g1 := by kernel_rfl
  i0 := by kernel_rfl
  i3 := by kernel_rfl
  i4 := by kernel_rfl
  i5 := by kernel_rfl
  i9 := by kernel_rfl
  i46 := by kernel_rfl
  i51 := by kernel_rfl
  i146 := by kernel_rfl
  m1 := by kernel_rfl
  s1_3 := fun w h => Go.Proofs.cell_of_shapedOpen_int (zero := #[.int .i64 0]) (t := 3) h (of_decide_eq_true (by kernel_rfl)) (by kernel_rfl) rfl (by kernel_rfl) (by kernel_rfl) Try.underlying3 }
open Go.RowKit Go.Lib in
theorem Try.strings_Count_shaped (s sub : ByteArray) (w : World) (h : w.ShapedOpen Try.prog) (hs : s.size < 4294967281) (h2 : 2 ≤ sub.size) :
    Calls Try.prog 46 #[.string s, .string sub] w fun e w' => e = .returned (.int .i64 (Lib.countB s sub)) ∧ w' = w := Any.strings_Count_shaped Try.laysM138 s sub w h hs h2
def Try.lays206_ren : Go.Shelf.Ren := ⟨fun | 206 => 77 | n => n, fun | 9 => 9 | 4 => 4 | 3 => 3 | n => n, fun | n => n⟩
theorem Try.lays206 : Go.Proofs.Lays.n206 Try.prog Try.lays206_ren := {
  mixed := by kernel_rfl
  f206 := Try.func77.trans (congrArg some (by kernel_rfl))
  t3 := Try.underlying3
  a3 := Try.isAgg3
  z3 := Try.sizeOf3
  v3 := Try.zeroValue3
  t4 := Try.underlying4
  a4 := Try.isAgg4
  z4 := Try.sizeOf4
  v4 := Try.zeroValue4
  t9 := Try.underlying9
  a9 := Try.isAgg9
  z9 := Try.sizeOf9
  v9 := Try.zeroValue9 }
open Go.RowKit Go.Lib in
theorem Try.stringslite_HasPrefix (s p : ByteArray) (w : World) :
    Calls Try.prog 77 #[.string s, .string p] w fun e w' => e = .returned (.bool (Lib.hasPrefix s.data.toList p.data.toList)) ∧ w' = w := Any.stringslite_HasPrefix Try.lays206 s p w
def Try.lays99_ren : Go.Shelf.Ren := ⟨fun | 99 => 67 | 206 => 77 | n => n, fun | 9 => 9 | 4 => 4 | 3 => 3 | n => n, fun | n => n⟩
theorem Try.lays99 : Go.Proofs.Lays.n99 Try.prog Try.lays99_ren := {
  mixed := by kernel_rfl
  f99 := Try.func67.trans (congrArg some (by kernel_rfl))
  f206 := Try.func77.trans (congrArg some (by kernel_rfl))
  t3 := Try.underlying3
  a3 := Try.isAgg3
  z3 := Try.sizeOf3
  v3 := Try.zeroValue3
  t4 := Try.underlying4
  a4 := Try.isAgg4
  z4 := Try.sizeOf4
  v4 := Try.zeroValue4
  t9 := Try.underlying9
  a9 := Try.isAgg9
  z9 := Try.sizeOf9
  v9 := Try.zeroValue9 }
open Go.RowKit Go.Lib in
theorem Try.strings_HasPrefix (s p : ByteArray) (w : World) :
    Calls Try.prog 67 #[.string s, .string p] w fun e w' => e = .returned (.bool (Lib.hasPrefix s.data.toList p.data.toList)) ∧ w' = w := Any.strings_HasPrefix Try.lays99 s p w
def Try.lays264_ren : Go.Shelf.Ren := ⟨fun | 264 => 76 | n => n, fun | 53 => 29 | 46 => 43 | n => n, fun | n => n⟩
theorem Try.lays264 : Go.Proofs.Lays.n264 Try.prog Try.lays264_ren := {
  mixed := by kernel_rfl
  f264 := Try.func76.trans (congrArg some (by kernel_rfl))
  t46 := Try.underlying43
  a46 := Try.isAgg43
  z46 := Try.sizeOf43
  v46 := Try.zeroValue43
  t53 := Try.underlying29
  a53 := Try.isAgg29
  z53 := Try.sizeOf29
  v53 := Try.zeroValue29 }
open Go.RowKit Go.Lib in
theorem Try.bits_Mul64 (x y : Nat) (hx : x < 18446744073709551616) (hy : y < 18446744073709551616) (w : World) :
    Calls Try.prog 76 #[.int .u64 x, .int .u64 y] w fun e w' => e = .returned (.tuple #[.int .u64 ((x * y / 18446744073709551616 : Nat) : Int), .int .u64 ((x * y % 18446744073709551616 : Nat) : Int)]) ∧ w' = w := Any.bits_Mul64 Try.lays264 x y hx hy w
def Try.lays212_ren : Go.Shelf.Ren := ⟨fun | 212 => 66 | 263 => 75 | 264 => 76 | n => n, fun | 46 => 43 | 51 => 123 | 146 => 124 | 53 => 29 | 148 => 70 | n => n, fun | n => n⟩
theorem Try.lays212 : Go.Proofs.Lays.n212 Try.prog Try.lays212_ren := {
  mixed := by kernel_rfl
  f212 := Try.func66.trans (congrArg some (by kernel_rfl))
  f263 := Try.func75.trans (congrArg some (by kernel_rfl))
  f264 := Try.func76.trans (congrArg some (by kernel_rfl))
  t46 := Try.underlying43
  a46 := Try.isAgg43
  z46 := Try.sizeOf43
  v46 := Try.zeroValue43
  t51 := Try.underlying123
  a51 := Try.isAgg123
  z51 := Try.sizeOf123
  v51 := Try.zeroValue123
  t53 := Try.underlying29
  a53 := Try.isAgg29
  z53 := Try.sizeOf29
  v53 := Try.zeroValue29
  t146 := Try.underlying124
  a146 := Try.isAgg124
  z146 := Try.sizeOf124
  v146 := Try.zeroValue124
  t148 := Try.underlying70
  a148 := Try.isAgg70
  z148 := Try.sizeOf70
  v148 := Try.zeroValue70 }
open Go.RowKit Go.Lib in
theorem Try.bits_Mul (x y : Nat) (hx : x < 18446744073709551616) (hy : y < 18446744073709551616) (w : World) :
    Calls Try.prog 66 #[.int .u64 x, .int .u64 y] w fun e w' => e = .returned (.tuple #[.int .u64 ((x * y / 18446744073709551616 : Nat) : Int), .int .u64 ((x * y % 18446744073709551616 : Nat) : Int)]) ∧ w' = w := Any.bits_Mul Try.lays212 x y hx hy w
def Try.lays105_ren : Go.Shelf.Ren := ⟨fun | 105 => 57 | 212 => 66 | 99 => 67 | 165 => 68 | 166 => 69 | 170 => 70 | 169 => 71 | 263 => 75 | 264 => 76 | 206 => 77 | 240 => 78 | 241 => 79 | 276 => 85 | 277 => 86 | n => n, fun | 9 => 9 | 3 => 3 | 4 => 4 | 20 => 20 | 0 => 0 | 46 => 43 | 109 => 108 | 5 => 5 | 72 => 113 | 76 => 117 | 51 => 123 | 146 => 124 | 53 => 29 | 148 => 70 | 70 => 111 | 37 => 68 | 75 => 116 | 127 => 127 | 164 => 130 | 80 => 120 | n => n, fun | n => n⟩
theorem Try.lays105 : Go.Proofs.Lays.n105 Try.prog Try.lays105_ren := {
  mixed := by kernel_rfl
  f99 := Try.func67.trans (congrArg some (by kernel_rfl))
  f105 := Try.func57.trans (congrArg some (by kernel_rfl))
  f165 := Try.func68.trans (congrArg some (by kernel_rfl))
  f166 := Try.func69.trans (congrArg some (by kernel_rfl))
  f169 := Try.func71.trans (congrArg some (by kernel_rfl))
  f170 := Try.func70.trans (congrArg some (by kernel_rfl))
  f206 := Try.func77.trans (congrArg some (by kernel_rfl))
  f212 := Try.func66.trans (congrArg some (by kernel_rfl))
  f240 := Try.func78.trans (congrArg some (by kernel_rfl))
  f241 := Try.func79.trans (congrArg some (by kernel_rfl))
  f263 := Try.func75.trans (congrArg some (by kernel_rfl))
  f264 := Try.func76.trans (congrArg some (by kernel_rfl))
  f276 := Try.func85.trans (congrArg some (by kernel_rfl))
  f277 := Try.func86.trans (congrArg some (by kernel_rfl))
  t0 := Try.underlying0
  a0 := Try.isAgg0
  z0 := Try.sizeOf0
  v0 := Try.zeroValue0
  t3 := Try.underlying3
  a3 := Try.isAgg3
  z3 := Try.sizeOf3
  v3 := Try.zeroValue3
  t4 := Try.underlying4
  a4 := Try.isAgg4
  z4 := Try.sizeOf4
  v4 := Try.zeroValue4
  t5 := Try.underlying5
  a5 := Try.isAgg5
  z5 := Try.sizeOf5
  v5 := Try.zeroValue5
  t9 := Try.underlying9
  a9 := Try.isAgg9
  z9 := Try.sizeOf9
  v9 := Try.zeroValue9
  t20 := Try.underlying20
  a20 := Try.isAgg20
  z20 := Try.sizeOf20
  v20 := Try.zeroValue20
  t37 := Try.underlying68
  a37 := Try.isAgg68
  z37 := Try.sizeOf68
  v37 := Try.zeroValue68
  t46 := Try.underlying43
  a46 := Try.isAgg43
  z46 := Try.sizeOf43
  v46 := Try.zeroValue43
  t51 := Try.underlying123
  a51 := Try.isAgg123
  z51 := Try.sizeOf123
  v51 := Try.zeroValue123
  t53 := Try.underlying29
  a53 := Try.isAgg29
  z53 := Try.sizeOf29
  v53 := Try.zeroValue29
  t70 := Try.underlying111
  a70 := Try.isAgg111
  z70 := Try.sizeOf111
  v70 := Try.zeroValue111
  t72 := Try.underlying113
  a72 := Try.isAgg113
  z72 := Try.sizeOf113
  v72 := Try.zeroValue113
  t75 := Try.underlying116
  a75 := Try.isAgg116
  z75 := Try.sizeOf116
  v75 := Try.zeroValue116
  t76 := Try.underlying117
  a76 := Try.isAgg117
  z76 := Try.sizeOf117
  v76 := Try.zeroValue117
  t109 := Try.underlying108
  a109 := Try.isAgg108
  z109 := Try.sizeOf108
  v109 := Try.zeroValue108
  t127 := Try.underlying127
  a127 := Try.isAgg127
  z127 := Try.sizeOf127
  v127 := Try.zeroValue127
  t146 := Try.underlying124
  a146 := Try.isAgg124
  z146 := Try.sizeOf124
  v146 := Try.zeroValue124
  t148 := Try.underlying70
  a148 := Try.isAgg70
  z148 := Try.sizeOf70
  v148 := Try.zeroValue70
  t164 := Try.underlying130
  a164 := Try.isAgg130
  z164 := Try.sizeOf130
  v164 := Try.zeroValue130 }
theorem Try.Builder_Extra_105 : Builder.Extra Try.prog Try.lays105_ren := {
  sizeBuilder := by kernel_rfl
  liesBuilder := by kernel_rfl
  t5 := Try.underlying5
  a5 := Try.isAgg5
  z5 := Try.sizeOf5
  v5 := Try.zeroValue5
  infoByte := by kernel_rfl
  cellsByte := by kernel_rfl
  sizeByte := by kernel_rfl
  neB5 := by decide }
open Go.RowKit Go.Lib in
theorem Try.strings_Repeat_main (s : ByteArray) (c : Nat) (w : World) (hc2 : 2 ≤ c) (hc : c ≤ 9223372036854775807) (hlen : s.size * c ≤ 140737488355328) (h0 : 0 < s.size) :
    Calls Try.prog 57 #[.string s, .int .i64 c] w fun e w' => e = .returned (.string ⟨(Lib.repeatL s.data.toList c).toArray⟩) ∧ Below w.heap.size w w' := Any.strings_Repeat_main Try.lays105 Try.Builder_Extra_105 s c w hc2 hc hlen h0
open Go.RowKit Go.Lib in
theorem Try.strings_Repeat_zero (s : ByteArray) (w : World) :
    Calls Try.prog 57 #[.string s, .int .i64 0] w fun e w' => e = .returned (.string ⟨#[]⟩) ∧ w' = w := Any.strings_Repeat_zero Try.lays105 s w
open Go.RowKit Go.Lib in
theorem Try.strings_Repeat_one (s : ByteArray) (w : World) :
    Calls Try.prog 57 #[.string s, .int .i64 1] w fun e w' => e = .returned (.string s) ∧ w' = w := Any.strings_Repeat_one Try.lays105 s w
open Go.RowKit Go.Lib in
theorem Try.strings_Repeat_empty (s : ByteArray) (c : Nat) (w : World) (hc2 : 2 ≤ c) (hc : c ≤ 9223372036854775807) (h0 : s.size = 0) :
    Calls Try.prog 57 #[.string s, .int .i64 c] w fun e w' => e = .returned (.string ⟨#[]⟩) ∧ w' = w := Any.strings_Repeat_empty Try.lays105 s c w hc2 hc h0
open Go.RowKit Go.Lib in
theorem Try.strings_Repeat_negative (s : ByteArray) (c : Int) (w : World) (hc : c < 0) :
    Calls Try.prog 57 #[.string s, .int .i64 c] w fun e w' => e = .panicked [{ v := repeatPanic Try.lays105_ren "strings: negative Repeat count", recovered := false }] ∧ w' = w := Any.strings_Repeat_negative Try.lays105 s c w hc
open Go.RowKit Go.Lib in
theorem Try.strings_Repeat_overflow (s : ByteArray) (c : Nat) (w : World) (hc : c ≤ 9223372036854775807) (hs : s.size ≤ 9223372036854775807) (hbig : 9223372036854775807 < s.size * c) :
    Calls Try.prog 57 #[.string s, .int .i64 c] w fun e w' => e = .panicked [{ v := repeatPanic Try.lays105_ren "strings: Repeat output length overflow", recovered := false }] ∧ w' = w := Any.strings_Repeat_overflow Try.lays105 s c w hc hs hbig
open Go.RowKit Go.Lib in
theorem Try.strings_Repeat (s : ByteArray) (c : Nat) (w : World) (hc : c ≤ 9223372036854775807) (hlen : s.size * c ≤ 140737488355328) :
    Calls Try.prog 57 #[.string s, .int .i64 c] w fun e w' => e = .returned (.string ⟨(Lib.repeatL s.data.toList c).toArray⟩) ∧ Below w.heap.size w w' := Any.strings_Repeat Try.lays105 Try.Builder_Extra_105 s c w hc hlen
def Try.laysSlE29_f54_ren : Go.Shelf.Ren := ⟨fun | 29 => 54 | n => n, fun | 22 => 24 | 23 => 9 | 3 => 3 | 0 => 0 | 4 => 4 | n => n, fun | n => n⟩
theorem Try.laysSlE29_f54 : Go.Proofs.SlLaysE.n29 Try.prog Try.laysSlE29_f54_ren := {
  mixed := by kernel_rfl
  f29 := ⟨Try.f54.name, by decide, Try.func54.trans (congrArg some (by kernel_rfl))⟩
  t0 := Try.underlying0
  a0 := Try.isAgg0
  z0 := Try.sizeOf0
  v0 := Try.zeroValue0
  t3 := Try.underlying3
  a3 := Try.isAgg3
  z3 := Try.sizeOf3
  v3 := Try.zeroValue3
  t4 := Try.underlying4
  a4 := Try.isAgg4
  z4 := Try.sizeOf4
  v4 := Try.zeroValue4
  t22 := Try.underlying24
  a22 := Try.isAgg24
  z22 := Try.sizeOf24
  v22 := Try.zeroValue24
  a23 := Try.isAgg9
  z23 := Try.sizeOf9 }
open Go.Lib in
theorem Try.slices_Index {α : Type} [Inhabited α] (enc : α → Value) (eq : α → α → Bool) (heq : EqlAt Try.prog 9 enc eq) (b off n c : Nat) (zs : List α) (x : α) (w : World) (hz : n ≤ zs.length) (hbig : n ≤ 9223372036854775807) (hc : ∀ j, j < zs.length → w.cell? ⟨b, off + j, none⟩ = some (enc zs[j]!)) :
    Calls Try.prog 54 #[.slice (some ⟨b, off, none⟩) n c, enc x] w fun e w' => e = .returned (.int .i64 (Lib.idxBy eq (zs.take n) x)) ∧ w' = w := AnyE.slices_Index Try.laysSlE29_f54 enc eq heq b off n c zs x w hz hbig hc
open Go.Lib in
theorem Try.slices_Index_empty {α : Type} [Inhabited α] (a : Option Addr) (c : Nat) (xv : Value) (w : World) :
    Calls Try.prog 54 #[.slice a 0 c, xv] w fun e w' => e = .returned (.int .i64 (-1)) ∧ w' = w := AnyE.slices_Index_empty Try.laysSlE29_f54 a c xv w
def Try.laysSlE041_f43_ren : Go.Shelf.Ren := ⟨fun | 41 => 43 | n => n, fun | 22 => 24 | 23 => 9 | 4 => 4 | n => n, fun | n => n⟩
theorem Try.laysSlE041_f43 : Go.Proofs.SlLaysE0.n41 Try.prog Try.laysSlE041_f43_ren := {
  mixed := by kernel_rfl
  f41 := ⟨Try.f43.name, by decide, Try.func43.trans (congrArg some (by kernel_rfl))⟩
  t4 := Try.underlying4
  a4 := Try.isAgg4
  z4 := Try.sizeOf4
  v4 := Try.zeroValue4
  t22 := Try.underlying24
  a22 := Try.isAgg24
  z22 := Try.sizeOf24
  v22 := Try.zeroValue24 }
open Go.RowKit Go.Lib in
theorem Try.slices_Clone_f43 (i0 : TypeInfo) (z : Value) (size bytes : Nat) (hi : Try.prog.info? 9 = some i0) (hz0 : i0.zero = some z) (hz1 : i0.size = size) (hz2 : i0.bytes = bytes) (hzs : z.cells.size = size) (hsz : 0 < size) (z23 : ∀ w, (Go.sizeOf 9).run Try.prog w = .ok size w) (b off n c : Nat) (news : List Value) (w : World) (hl : news.length = n * size) (hn : n ≤ maxLen) (hbig : n * bytes ≤ 140737488355328) (hc : ∀ j u, news[j]? = some u → w.cell? ⟨b, off + j, none⟩ = some u) (h1 : ∀ u ∈ news, u.oneCell' = true) :
    Calls Try.prog 43 #[.slice (some ⟨b, off, none⟩) n c] w fun e w' => ∃ v', e = .returned v' ∧ w'.ownsRow w.heap.size 9 size v' n news ∧ v' ≠ .slice none 0 0 ∧ Below w.heap.size w w' := AnyE.slices_Clone Try.laysSlE041_f43 i0 z size bytes hi hz0 hz1 hz2 hzs hsz z23 b off n c news w hl hn hbig hc h1
def Try.laysSlE041_f44_ren : Go.Shelf.Ren := ⟨fun | 41 => 44 | n => n, fun | 22 => 22 | 23 => 3 | 4 => 4 | n => n, fun | n => n⟩
theorem Try.laysSlE041_f44 : Go.Proofs.SlLaysE0.n41 Try.prog Try.laysSlE041_f44_ren := {
  mixed := by kernel_rfl
  f41 := ⟨Try.f44.name, by decide, Try.func44.trans (congrArg some (by kernel_rfl))⟩
  t4 := Try.underlying4
  a4 := Try.isAgg4
  z4 := Try.sizeOf4
  v4 := Try.zeroValue4
  t22 := Try.underlying22
  a22 := Try.isAgg22
  z22 := Try.sizeOf22
  v22 := Try.zeroValue22 }
open Go.RowKit Go.Lib in
theorem Try.slices_Clone_f44 (i0 : TypeInfo) (z : Value) (size bytes : Nat) (hi : Try.prog.info? 3 = some i0) (hz0 : i0.zero = some z) (hz1 : i0.size = size) (hz2 : i0.bytes = bytes) (hzs : z.cells.size = size) (hsz : 0 < size) (z23 : ∀ w, (Go.sizeOf 3).run Try.prog w = .ok size w) (b off n c : Nat) (news : List Value) (w : World) (hl : news.length = n * size) (hn : n ≤ maxLen) (hbig : n * bytes ≤ 140737488355328) (hc : ∀ j u, news[j]? = some u → w.cell? ⟨b, off + j, none⟩ = some u) (h1 : ∀ u ∈ news, u.oneCell' = true) :
    Calls Try.prog 44 #[.slice (some ⟨b, off, none⟩) n c] w fun e w' => ∃ v', e = .returned v' ∧ w'.ownsRow w.heap.size 3 size v' n news ∧ v' ≠ .slice none 0 0 ∧ Below w.heap.size w w' := AnyE.slices_Clone Try.laysSlE041_f44 i0 z size bytes hi hz0 hz1 hz2 hzs hsz z23 b off n c news w hl hn hbig hc h1
def Try.laysSlE041_f45_ren : Go.Shelf.Ren := ⟨fun | 41 => 45 | n => n, fun | 22 => 55 | 23 => 4 | 4 => 4 | n => n, fun | n => n⟩
theorem Try.laysSlE041_f45 : Go.Proofs.SlLaysE0.n41 Try.prog Try.laysSlE041_f45_ren := {
  mixed := by kernel_rfl
  f41 := ⟨Try.f45.name, by decide, Try.func45.trans (congrArg some (by kernel_rfl))⟩
  t4 := Try.underlying4
  a4 := Try.isAgg4
  z4 := Try.sizeOf4
  v4 := Try.zeroValue4
  t22 := Try.underlying55
  a22 := Try.isAgg55
  z22 := Try.sizeOf55
  v22 := Try.zeroValue55 }
open Go.RowKit Go.Lib in
theorem Try.slices_Clone_f45 (i0 : TypeInfo) (z : Value) (size bytes : Nat) (hi : Try.prog.info? 4 = some i0) (hz0 : i0.zero = some z) (hz1 : i0.size = size) (hz2 : i0.bytes = bytes) (hzs : z.cells.size = size) (hsz : 0 < size) (z23 : ∀ w, (Go.sizeOf 4).run Try.prog w = .ok size w) (b off n c : Nat) (news : List Value) (w : World) (hl : news.length = n * size) (hn : n ≤ maxLen) (hbig : n * bytes ≤ 140737488355328) (hc : ∀ j u, news[j]? = some u → w.cell? ⟨b, off + j, none⟩ = some u) (h1 : ∀ u ∈ news, u.oneCell' = true) :
    Calls Try.prog 45 #[.slice (some ⟨b, off, none⟩) n c] w fun e w' => ∃ v', e = .returned v' ∧ w'.ownsRow w.heap.size 4 size v' n news ∧ v' ≠ .slice none 0 0 ∧ Below w.heap.size w w' := AnyE.slices_Clone Try.laysSlE041_f45 i0 z size bytes hi hz0 hz1 hz2 hzs hsz z23 b off n c news w hl hn hbig hc h1
open Go.RowKit Go.Lib in
theorem Try.slices_Clone_nil_f43 (n c : Nat) (w : World) :
    Calls Try.prog 43 #[.slice none n c] w fun e w' => e = .returned (.slice none 0 0) ∧ w' = w := AnyE.slices_Clone_nil Try.laysSlE041_f43 n c w
open Go.RowKit Go.Lib in
theorem Try.slices_Clone_nil_f44 (n c : Nat) (w : World) :
    Calls Try.prog 44 #[.slice none n c] w fun e w' => e = .returned (.slice none 0 0) ∧ w' = w := AnyE.slices_Clone_nil Try.laysSlE041_f44 n c w
open Go.RowKit Go.Lib in
theorem Try.slices_Clone_nil_f45 (n c : Nat) (w : World) :
    Calls Try.prog 45 #[.slice none n c] w fun e w' => e = .returned (.slice none 0 0) ∧ w' = w := AnyE.slices_Clone_nil Try.laysSlE041_f45 n c w
end Go.Proofs.Ytbnngjhnkegliaa
namespace Go.Proofs.Ytbnngjhnkegliaa
open Go.RowKit

theorem firstOf_some {L : List ByteArray} {s : ByteArray} {k : Nat} : firstOf L s = some k ↔ L[k]? = some s ∧ ∀ j, j < k → L[j]? ≠ some s := by
  unfold firstOf
  rw [List.findIdx?_eq_some_iff_getElem]
  constructor
  · rintro ⟨h, h1, h2⟩
    rw [decide_eq_true_eq] at h1
    refine ⟨by rw [List.getElem?_eq_getElem h, h1], fun j hj e => ?_⟩
    have hjl : j < L.length := Nat.lt_trans hj h
    rw [List.getElem?_eq_getElem hjl] at e
    injection e with e
    have := h2 j hj
    rw [e] at this
    simp at this
  · rintro ⟨h1, h2⟩
    have h := lt_of_get h1
    refine ⟨h, ?_, fun j hj => ?_⟩
    · rw [List.getElem?_eq_getElem h] at h1
      injection h1 with h1
      rw [decide_eq_true_eq]
      exact h1
    · have hjl : j < L.length := Nat.lt_trans hj h
      have := h2 j hj
      rw [List.getElem?_eq_getElem hjl] at this
      simp only [decide_eq_true_eq]
      exact fun e => this (by rw [e])
theorem firstOf_none {L : List ByteArray} {s : ByteArray} : firstOf L s = none ↔ ∀ j : Nat, L[j]? ≠ some s := by
  unfold firstOf
  rw [List.findIdx?_eq_none_iff]
  constructor
  · intro h j e
    have := h s (List.mem_of_getElem? e)
    simp at this
  · intro h x hx
    obtain ⟨j, hj⟩ := List.getElem?_of_mem hx
    rw [decide_eq_false_iff_not]
    rintro rfl
    exact h j hj
def idxI (L : List ByteArray) (s : ByteArray) : Int := match firstOf L s with | some k => k | none => -1
theorem idxBy_str (L : List ByteArray) (s : ByteArray) : Lib.idxBy (fun x y : ByteArray => x.toList == y.toList) L s = idxI L s := by
  unfold idxI
  have hne : ∀ {x y : ByteArray}, x ≠ y → (x.toList == y.toList) = false := fun h => toList_ne h
  cases h : firstOf L s with
  | none =>
    have h1 := firstOf_none.1 h
    have := Lib.idxBy_miss (fun x y : ByteArray => x.toList == y.toList) L L.length s (fun j hj => hne (fun e => h1 j (by rw [e]; simp [List.getElem?_eq_getElem hj, List.getElem!_eq_getElem?_getD])))
    rwa [List.take_length] at this
  | some k =>
    obtain ⟨h1, h2⟩ := firstOf_some.1 h
    have hk := lt_of_get h1
    have e : ∀ {j : Nat} {t : ByteArray}, L[j]? = some t → L[j]! = t := fun h => by rw [List.getElem!_eq_getElem?_getD, h]; rfl
    have := Lib.idxBy_hit (fun x y : ByteArray => x.toList == y.toList) L L.length k s hk (Nat.le_refl _) (by rw [e h1]; simp) (fun j hj => hne (fun e' => by
      obtain ⟨t, ht⟩ := get_lt (xs := L) (k := j) (by omega)
      rw [e ht] at e'
      exact h2 j hj (by rw [ht, e'])))
    rw [List.take_length] at this
    exact this
theorem index_any (v : Value) (L : List ByteArray) (s : ByteArray) (w : World) (h : StrRow w v L) : Calls Try.prog 54 #[v, .string s] w (Ret w (.int .i64 (idxI L s))) := by
  obtain ⟨ao, ca, rfl, a1, a2, a3⟩ := h.out
  unfold maxLen at a2
  rcases a3 with h0 | ⟨b, off, rfl, hb, hc⟩
  · have hnil := List.eq_nil_of_length_eq_zero h0
    subst hnil
    exact (Try.slices_Index_empty (α := ByteArray) ao ca (.string s) w).mono fun e w' ⟨h1, h2⟩ => by
      subst h1 h2
      exact Ret.mk (Below.refl _ _)
  · refine (Try.slices_Index Value.string (fun x y => x.toList == y.toList) (EqlAt.string Try.prog 9) b off L.length ca L s w (Nat.le_refl _) (by omega) (fun j hj => ?_)).mono fun e w' ⟨h1, h2⟩ => ?_
    · have := hc j L[j] (List.getElem?_eq_getElem hj)
      rw [this, List.getElem!_eq_getElem?_getD, List.getElem?_eq_getElem hj]
      rfl
    · subst h1 h2
      exact Ret.mk' (by rw [List.take_length, idxBy_str]) (Below.refl _ _)
theorem idxI_bd (L : List ByteArray) (s : ByteArray) : -1 ≤ idxI L s ∧ idxI L s < L.length ∨ idxI L s = -1 := by
  unfold idxI
  cases h : firstOf L s with
  | none => right; rfl
  | some k =>
    left
    have := lt_of_get (firstOf_some.1 h).1
    dsimp only
    omega
end Go.Proofs.Ytbnngjhnkegliaa
namespace Go.Proofs.Ytbnngjhnkegliaa
open Go.RowKit

theorem zeroB_iff (s : ByteArray) : zeroB s = decide (Lib.countByte s.data.toList 0 = s.size) := by
  unfold zeroB Lib.countByte
  rw [Bool.eq_iff_iff, decide_eq_true_eq, List.all_eq_true, show s.size = s.data.toList.length from (Array.length_toList ..).symm, List.count_eq_length]
  constructor
  · intro h b hb
    have := h b hb
    rw [beq_iff_eq] at this
    exact this.symm
  · intro h b hb
    rw [beq_iff_eq]
    exact (h b hb).symm
set_option maxHeartbeats 1000000 in
theorem zeros_any (s : ByteArray) (w : World) : Calls Try.prog 52 #[.string s] w (Ret w (.bool (zeroB s))) := by
  have C := fun w => Try.strings_Count_one s 0 w
  have hz := zeroB_iff s
  have hc : Lib.countByte s.data.toList 0 ≤ s.size := by
    have h : s.data.toList.count 0 ≤ s.data.toList.length := List.count_le_length
    rwa [Array.length_toList] at h
  obtain ⟨k, hk⟩ : ∃ k, Lib.countByte s.data.toList 0 = k := ⟨_, rfl⟩
  obtain ⟨m, hm⟩ : ∃ m, s.size = m := ⟨_, rfl⟩
  rw [hk] at C hz hc
  rw [hm] at hz hc
  have HM := Lib.hid hm; clear hm
  have HC := Lib.hid C; clear C hk
  by_cases h : k = m
  · rw [hz, decide_eq_true h]
    clear hz
    have HE := Lib.hid h; clear h
    go_enter Try.func52, Try.ntmps52
    go_wp2_with fail
    with_reducible refine (HC.out _).mono ?_
    rintro e w1 ⟨rfl, rfl⟩
    go_wp2_with fail
    go_ret
    exact Ret.mk' (congrArg Value.bool (by have h1 := HE.out; have h2 := HM.out; rw [h2, h1]; simp)) (by repeat (first | with_reducible exact Below.refl _ _ | with_reducible refine Below.drew ?_ | (with_reducible refine Below.alloc ?_ (by first | exact Nat.le_refl _ | omega | (simp only [sizes]; omega)) _) | (with_reducible refine Below.setCell ?_ (by first | exact Nat.le_refl _ | omega | (simp only [sizes]; omega)) _) | (refine Below.trans ?_ (Below.mono (by with_reducible assumption) (by first | exact Nat.le_refl _ | omega | (simp only [sizes]; omega))))))
  · rw [hz, decide_eq_false h]
    clear hz
    have HE := Lib.hid h; clear h
    go_enter Try.func52, Try.ntmps52
    go_wp2_with fail
    with_reducible refine (HC.out _).mono ?_
    rintro e w1 ⟨rfl, rfl⟩
    go_wp2_with fail
    go_ret
    exact Ret.mk' (congrArg Value.bool (by have h1 := HE.out; have h2 := HM.out; rw [h2]; simp; omega)) (by repeat (first | with_reducible exact Below.refl _ _ | with_reducible refine Below.drew ?_ | (with_reducible refine Below.alloc ?_ (by first | exact Nat.le_refl _ | omega | (simp only [sizes]; omega)) _) | (with_reducible refine Below.setCell ?_ (by first | exact Nat.le_refl _ | omega | (simp only [sizes]; omega)) _) | (refine Below.trans ?_ (Below.mono (by with_reducible assumption) (by first | exact Nat.le_refl _ | omega | (simp only [sizes]; omega))))))
set_option maxHeartbeats 1000000 in
theorem hzeros_any (s : ByteArray) (w : World) : Calls Try.prog 26 #[.string s] w (Ret w (.bool (zeroB s))) := by
  have C := fun w => Try.strings_Count_one s 0 w
  have hz := zeroB_iff s
  have hc : Lib.countByte s.data.toList 0 ≤ s.size := by
    have h : s.data.toList.count 0 ≤ s.data.toList.length := List.count_le_length
    rwa [Array.length_toList] at h
  obtain ⟨k, hk⟩ : ∃ k, Lib.countByte s.data.toList 0 = k := ⟨_, rfl⟩
  obtain ⟨m, hm⟩ : ∃ m, s.size = m := ⟨_, rfl⟩
  rw [hk] at C hz hc
  rw [hm] at hz hc
  have HM := Lib.hid hm; clear hm
  have HC := Lib.hid C; clear C hk
  by_cases h : k = m
  · rw [hz, decide_eq_true h]
    clear hz
    have HE := Lib.hid h; clear h
    go_enter Try.func26, Try.ntmps26
    go_wp2_with fail
    with_reducible refine (HC.out _).mono ?_
    rintro e w1 ⟨rfl, rfl⟩
    go_wp2_with fail
    go_ret
    exact Ret.mk' (congrArg Value.bool (by have h1 := HE.out; have h2 := HM.out; rw [h2, h1]; simp)) (by repeat (first | with_reducible exact Below.refl _ _ | with_reducible refine Below.drew ?_ | (with_reducible refine Below.alloc ?_ (by first | exact Nat.le_refl _ | omega | (simp only [sizes]; omega)) _) | (with_reducible refine Below.setCell ?_ (by first | exact Nat.le_refl _ | omega | (simp only [sizes]; omega)) _) | (refine Below.trans ?_ (Below.mono (by with_reducible assumption) (by first | exact Nat.le_refl _ | omega | (simp only [sizes]; omega))))))
  · rw [hz, decide_eq_false h]
    clear hz
    have HE := Lib.hid h; clear h
    go_enter Try.func26, Try.ntmps26
    go_wp2_with fail
    with_reducible refine (HC.out _).mono ?_
    rintro e w1 ⟨rfl, rfl⟩
    go_wp2_with fail
    go_ret
    exact Ret.mk' (congrArg Value.bool (by have h1 := HE.out; have h2 := HM.out; rw [h2]; simp; omega)) (by repeat (first | with_reducible exact Below.refl _ _ | with_reducible refine Below.drew ?_ | (with_reducible refine Below.alloc ?_ (by first | exact Nat.le_refl _ | omega | (simp only [sizes]; omega)) _) | (with_reducible refine Below.setCell ?_ (by first | exact Nat.le_refl _ | omega | (simp only [sizes]; omega)) _) | (refine Below.trans ?_ (Below.mono (by with_reducible assumption) (by first | exact Nat.le_refl _ | omega | (simp only [sizes]; omega))))))
def zeros128 : ByteArray := ⟨(List.replicate 128 0).toArray⟩
theorem zeros128_size : zeros128.size = 128 := by decide +kernel
theorem zeros128_zero : zeroB zeros128 = true := by decide +kernel
theorem rep_any (w : World) : Calls Try.prog 57 #[.string ⟨#[0]⟩, .int .i64 128] w (Ret w (.string zeros128)) := by
  have h := Try.strings_Repeat ⟨#[0]⟩ 128 w (by omega) (by decide)
  rw [show (⟨(Lib.repeatL (⟨#[0]⟩ : ByteArray).data.toList 128).toArray⟩ : ByteArray) = zeros128 by decide +kernel] at h
  exact h
end Go.Proofs.Ytbnngjhnkegliaa
namespace Go.Proofs.Ytbnngjhnkegliaa
open Go.RowKit

theorem flat_len {n : Nat} {M : List (List Int)} : ∀ k, k ≤ M.length → mapUp n M k = true → (M.take k).flatten.length ≤ 32 * k
  | 0, _, _ => by simp
  | k + 1, hk, h => by
    obtain ⟨l, hl⟩ := get_lt (xs := M) (k := k) (by omega)
    unfold mapUp mapOk at h
    rw [List.take_add_one, hl, List.all_append, Bool.and_eq_true] at h
    have h1 := flat_len (n := n) k (by omega) h.1
    have h2 : rowOk n l = true := by simpa using h.2
    unfold rowOk at h2
    rw [Bool.and_eq_true, decide_eq_true_eq] at h2
    rw [flat_succ hl, List.length_append]
    omega
theorem makes_num (n : Nat) (hn : n ≤ 1000000) (w : World) : (Instr.makeSlice 22 (.int .i64 (n : Int)) (.int .i64 (n : Int))).run Try.prog w = .ok (.slice (some ⟨w.heap.size, 0, none⟩) n n) (w.alloc (.cells ((cntRow n []).map (Value.int .i64)).toArray 3)) := by
  rw [cntRow_nil, List.map_replicate]
  exact run_make_one (P := Try.prog) 22 3 (.int .i64 0) 8 Try.underlying22 info_int rfl n (by omega) (by omega) w
theorem own_num {w : World} {base g n : Nat} {xs : List Int} (h : HasBlock w g ((xs.map (Value.int .i64)).toArray) 3) (hx : xs.length = n) (hn : n ≤ 1000000) (hb : base ≤ g) : OwnNum base w (.slice (some ⟨g, 0, none⟩) n n) xs := by
  unfold OwnNum OwnEnc
  rw [hx]
  refine ⟨by rw [List.length_map, hx, Nat.mul_one], .inr ⟨g, n, (xs.map (Value.int .i64)).toArray, rfl, hb, h, Nat.le_refl _, by unfold maxLen; omega, by simp [hx], ?_⟩⟩
  rw [Nat.mul_one]
  show (xs.map (Value.int .i64)).take n = _
  exact List.take_of_length_le (by rw [List.length_map, hx]; exact Nat.le_refl _)
set_option maxRecDepth 100000 in
set_option maxHeartbeats 8000000 in
theorem pvalid_any (vf vr vm : Value) (F : List ByteArray) (R : List Int) (M : List (List Int)) (w : World) (ha : StrRow w vf F) (hb : NumRow w vr R) (hc : MapRow w vm M) (hR : ∀ x ∈ R, -9223372036854775808 ≤ x ∧ x ≤ 9223372036854775807) (hM : ∀ l ∈ M, ∀ x ∈ l, -9223372036854775808 ≤ x ∧ x ≤ 9223372036854775807) : Calls Try.prog 37 #[.agg #[vf, vr, vm]] w (Ret w (.bool (poolB F R M))) := by
  obtain ⟨ao, ca, rfl, a1, a2, a3⟩ := ha.out
  obtain ⟨bo, cb, rfl, b1, b2, b3⟩ := hb.out
  obtain ⟨us, hu1, hu2, hu3⟩ := hc
  obtain ⟨co, cc, rfl, c1, c2, c3⟩ := hu1
  unfold maxLen at a2 b2 c2
  clear ha hb
  obtain ⟨n, hn⟩ : ∃ n, F.length = n := ⟨_, rfl⟩
  obtain ⟨r, hr⟩ : ∃ n, R.length = n := ⟨_, rfl⟩
  obtain ⟨m, hm⟩ : ∃ n, M.length = n := ⟨_, rfl⟩
  have HN := Lib.hid hn
  have HR := Lib.hid hr
  have HM := Lib.hid hm
  rw [hn] at a1 a3
  rw [hr] at b1 b3
  rw [hm] at c1 hu2
  have HU2 := Lib.hid hu2; clear hu2
  have HU3 := Lib.hid hu3; clear hu3
  unfold poolB poolHead
  rw [hn, hr, hm]
  clear hn hr hm
  by_cases h1 : 1 ≤ n ∧ n ≤ 96 ∧ r = n ∧ m ≤ 8
  rotate_left
  · rw [decide_eq_false h1, Bool.false_and]
    by_cases g1 : n < 1
    · clear h1
      go_enter Try.func37, Try.ntmps37
      go_wp2_with fail
      go_ret
      exact Ret.mk (by repeat (first | with_reducible exact Below.refl _ _ | with_reducible refine Below.drew ?_ | (with_reducible refine Below.alloc ?_ (by first | exact Nat.le_refl _ | omega | (simp only [sizes]; omega)) _) | (with_reducible refine Below.setCell ?_ (by first | exact Nat.le_refl _ | omega | (simp only [sizes]; omega)) _) | (refine Below.trans ?_ (Below.mono (by with_reducible assumption) (by first | exact Nat.le_refl _ | omega | (simp only [sizes]; omega))))))
    by_cases g2 : 96 < n
    · clear h1
      go_enter Try.func37, Try.ntmps37
      go_wp2_with fail
      go_ret
      exact Ret.mk (by repeat (first | with_reducible exact Below.refl _ _ | with_reducible refine Below.drew ?_ | (with_reducible refine Below.alloc ?_ (by first | exact Nat.le_refl _ | omega | (simp only [sizes]; omega)) _) | (with_reducible refine Below.setCell ?_ (by first | exact Nat.le_refl _ | omega | (simp only [sizes]; omega)) _) | (refine Below.trans ?_ (Below.mono (by with_reducible assumption) (by first | exact Nat.le_refl _ | omega | (simp only [sizes]; omega))))))
    by_cases g3 : r = n
    · have g4 : 8 < m := by omega
      clear h1
      subst g3
      go_enter Try.func37, Try.ntmps37
      go_wp2_with fail
      go_ret
      exact Ret.mk (by repeat (first | with_reducible exact Below.refl _ _ | with_reducible refine Below.drew ?_ | (with_reducible refine Below.alloc ?_ (by first | exact Nat.le_refl _ | omega | (simp only [sizes]; omega)) _) | (with_reducible refine Below.setCell ?_ (by first | exact Nat.le_refl _ | omega | (simp only [sizes]; omega)) _) | (refine Below.trans ?_ (Below.mono (by with_reducible assumption) (by first | exact Nat.le_refl _ | omega | (simp only [sizes]; omega))))))
    · have e1 : ((r : Int) != n) = true := by rw [bne_iff_ne]; omega
      have e2 : (r != n) = true := by rw [bne_iff_ne]; omega
      clear h1
      go_enter Try.func37, Try.ntmps37
      go_wp2_with fail
      go_ret
      exact Ret.mk (by repeat (first | with_reducible exact Below.refl _ _ | with_reducible refine Below.drew ?_ | (with_reducible refine Below.alloc ?_ (by first | exact Nat.le_refl _ | omega | (simp only [sizes]; omega)) _) | (with_reducible refine Below.setCell ?_ (by first | exact Nat.le_refl _ | omega | (simp only [sizes]; omega)) _) | (refine Below.trans ?_ (Below.mono (by with_reducible assumption) (by first | exact Nat.le_refl _ | omega | (simp only [sizes]; omega))))))
  rw [decide_eq_true h1, Bool.true_and]
  obtain ⟨h1, h2, hrn, h4⟩ := h1
  subst hrn
  have hmk := makes_num r (by omega)
  have HPR := Lib.hid hR; clear hR
  have HPM := Lib.hid hM; clear hM
  go_enter Try.func37, Try.ntmps37
  go_wp2_with fail
  have D0 := (HasBlock.made w #[.slice ao r ca, .slice bo r cb, .slice co m cc] 27).alloc (.cells ((cntRow r []).map (Value.int .i64)).toArray 3)
  have D9 := HasBlock.made (w.alloc (.cells #[.slice ao r ca, .slice bo r cb, .slice co m cc] 27)) ((cntRow r []).map (Value.int .i64)).toArray 3
  simp only [sizes] at D9
  have o0 := Lib.hid (own_num D9 (cntRow_len _ _) (by omega) (Nat.le_refl _))
  have hbw0 : Below w.heap.size w ((w.alloc (.cells #[.slice ao r ca, .slice bo r cb, .slice co m cc] 27)).alloc (.cells ((cntRow r []).map (Value.int .i64)).toArray 3)) := (by repeat (first | with_reducible exact Below.refl _ _ | with_reducible refine Below.drew ?_ | (with_reducible refine Below.alloc ?_ (by first | exact Nat.le_refl _ | omega | (dsimp only; omega) | (simp only [sizes]; omega)) _) | (with_reducible refine Below.setCell ?_ (by first | exact Nat.le_refl _ | omega | (dsimp only; omega) | (simp only [sizes]; omega)) _) | (refine Below.trans ?_ (Below.mono (by with_reducible assumption) (by first | exact Nat.le_refl _ | omega | (dsimp only; omega) | (simp only [sizes]; omega))))))
  clear D9 hmk
  go_loopw [38] (fun iv wr => ∃ i : Nat, i ≤ m ∧ iv = .int .i64 i ∧ Hid (mapUp r M i = true) ∧ HasBlock wr w.heap.size #[.slice ao r ca, .slice bo r cb, .slice co m cc] 27 ∧ OwnNum (w.heap.size + 1) wr (.slice (some ⟨w.heap.size + 1, 0, none⟩) r r) (cntRow r (M.take i).flatten) ∧ Below w.heap.size w wr) (fun iv _ => m - (intOf iv).toNat)
  case atStart => exact ⟨0, Nat.zero_le _, rfl, rfl, D0, o0.out, hbw0⟩
  case round =>
    obtain ⟨i, hi, rfl, hU, D, hown, hbw⟩ := hrel
    clear D0 o0 hbw0
    have hz0 := hbw.size
    have HO := Lib.hid hown; clear hown
    have x0 := (D.cell 0).trans rfl
    have x1 := (D.cell 1).trans rfl
    have x2 := (D.cell 2).trans rfl
    have xf := D.free
    have xz := D.lt
    by_cases hlt : i < m
    · obtain ⟨l, hl⟩ := get_lt (xs := M) (k := i) (by rw [HM.out]; exact hlt)
      obtain ⟨u, hu⟩ := get_lt (xs := us) (k := i) (by rw [HU2.out]; exact hlt)
      have hrow := HU3.out i u l hu hl
      obtain ⟨uo, uc, rfl, d1, d2, d3⟩ := hrow.out
      unfold maxLen at d2
      have hlb := HPM.out l (List.mem_of_getElem? hl)
      obtain ⟨q, hq⟩ : ∃ q, l.length = q := ⟨_, rfl⟩
      rw [hq] at d1 d3 hu
      have HQ := Lib.hid hq; clear hq
      obtain ⟨mb, moff, rfl, hmb, hmc⟩ := c3.resolve_left (by intro e; rw [e] at hu; simp at hu)
      have cm := (hbw.cell (p := ⟨mb, moff + i, none⟩) hmb).trans (hmc i _ hu)
      have HLB := Lib.hid hlb; clear hlb
      have HL := Lib.hid hl; clear hl hu hmc c3 hrow
      by_cases g1 : 1 ≤ q ∧ q ≤ 32
      rotate_left
      · have hf : mapOk r M = false := mapOk_false HL.out (rowOk_len (by rw [HQ.out]; exact g1))
        have HF := Lib.hid hf; clear hf
        by_cases g2 : q < 1
        · clear g1
          go_wp2_with fail
          go_ret
          exact Ret.mk' (by rw [HF.out]; rfl) (by repeat (first | with_reducible exact Below.refl _ _ | with_reducible refine Below.drew ?_ | (with_reducible refine Below.alloc ?_ (by first | exact Nat.le_refl _ | omega | (dsimp only; omega) | (simp only [sizes]; omega)) _) | (with_reducible refine Below.setCell ?_ (by first | exact Nat.le_refl _ | omega | (dsimp only; omega) | (simp only [sizes]; omega)) _) | (refine Below.trans ?_ (Below.mono (by with_reducible assumption) (by first | exact Nat.le_refl _ | omega | (dsimp only; omega) | (simp only [sizes]; omega))))))
        · have g3 : 32 < q := by omega
          clear g1
          go_wp2_with fail
          go_ret
          exact Ret.mk' (by rw [HF.out]; rfl) (by repeat (first | with_reducible exact Below.refl _ _ | with_reducible refine Below.drew ?_ | (with_reducible refine Below.alloc ?_ (by first | exact Nat.le_refl _ | omega | (dsimp only; omega) | (simp only [sizes]; omega)) _) | (with_reducible refine Below.setCell ?_ (by first | exact Nat.le_refl _ | omega | (dsimp only; omega) | (simp only [sizes]; omega)) _) | (refine Below.trans ?_ (Below.mono (by with_reducible assumption) (by first | exact Nat.le_refl _ | omega | (dsimp only; omega) | (simp only [sizes]; omega))))))
      obtain ⟨g1, g2⟩ := g1
      have hflat := flat_len (n := r) i (by rw [HM.out]; exact hi) hU.out
      go_wp2_with fail
      obtain ⟨wo, rfl⟩ : ∃ wo : World, wo = wr := ⟨_, rfl⟩
      go_loopw [52] (fun kv wi => ∃ k : Nat, k ≤ q ∧ kv = .int .i64 k ∧ Hid ((l.take k).all (pageOk r) = true) ∧ HasBlock wi w.heap.size #[.slice ao r ca, .slice bo r cb, .slice (some ⟨mb, moff, none⟩) m cc] 27 ∧ OwnNum (w.heap.size + 1) wi (.slice (some ⟨w.heap.size + 1, 0, none⟩) r r) (cntRow r ((M.take i).flatten ++ l.take k)) ∧ Below w.heap.size w wi) (fun kv _ => q - (intOf kv).toNat)
      case atStart => exact ⟨0, Nat.zero_le _, rfl, rfl, D, by simpa using HO.out, hbw⟩
      case round =>
        obtain ⟨k, hk, rfl, hA, E, hown, hbi⟩ := hrel
        clear D HO hbw cm x0 x1 x2 xf xz
        have hz1 := hbi.size
        have HO := Lib.hid hown; clear hown
        have x0 := (E.cell 0).trans rfl
        have x1 := (E.cell 1).trans rfl
        have x2 := (E.cell 2).trans rfl
        have xf := E.free
        have xz := E.lt
        by_cases hkq : k < q
        · obtain ⟨f, hf⟩ := get_lt (xs := l) (k := k) (by rw [HQ.out]; exact hkq)
          have hfb := HLB.out f (List.mem_of_getElem? hf)
          obtain ⟨lb, loff, rfl, hlbs, hlc⟩ := d3.resolve_left (by omega)
          have cf := (hbi.cell (p := ⟨lb, loff + k, none⟩) (show lb < w.heap.size by omega)).trans (hlc k f hf)
          have HFK := Lib.hid hf; clear hf hlc d3
          by_cases hf1 : f = -1
          · subst hf1
            have hup := rowUp_succ (n := r) HFK.out hA.out (by unfold pageOk; exact decide_eq_true (by omega))
            have HUP := Lib.hid hup; clear hup
            go_wp2_with fail
            go_roundw
            case rel =>
              refine ⟨k + 1, by omega, by go_num, HUP.out, E, ?_, hbi⟩
              have h := HO.out
              rw [take_succ' HFK.out, ← List.append_assoc, cntRow_neg]
              exact h
            case measure => simp [intOf]; omega
          have e1 : (f == -1) = false := by rw [beq_eq_false_iff_ne]; exact hf1
          by_cases hf0 : f < 0
          · have hno : mapOk r M = false := mapOk_false HL.out (rowOk_at HFK.out (by unfold pageOk; exact decide_eq_false (by omega)))
            have HF := Lib.hid hno; clear hno hf1
            go_wp2_with fail
            go_ret
            exact Ret.mk' (by rw [HF.out]; rfl) (by repeat (first | with_reducible exact Below.refl _ _ | with_reducible refine Below.drew ?_ | (with_reducible refine Below.alloc ?_ (by first | exact Nat.le_refl _ | omega | (dsimp only; omega) | (simp only [sizes]; omega)) _) | (with_reducible refine Below.setCell ?_ (by first | exact Nat.le_refl _ | omega | (dsimp only; omega) | (simp only [sizes]; omega)) _) | (refine Below.trans ?_ (Below.mono (by with_reducible assumption) (by first | exact Nat.le_refl _ | omega | (dsimp only; omega) | (simp only [sizes]; omega))))))
          by_cases hfr : (r : Int) ≤ f
          · have hno : mapOk r M = false := mapOk_false HL.out (rowOk_at HFK.out (by unfold pageOk; exact decide_eq_false (by omega)))
            have HF := Lib.hid hno; clear hno hf1
            go_wp2_with fail
            go_ret
            exact Ret.mk' (by rw [HF.out]; rfl) (by repeat (first | with_reducible exact Below.refl _ _ | with_reducible refine Below.drew ?_ | (with_reducible refine Below.alloc ?_ (by first | exact Nat.le_refl _ | omega | (dsimp only; omega) | (simp only [sizes]; omega)) _) | (with_reducible refine Below.setCell ?_ (by first | exact Nat.le_refl _ | omega | (dsimp only; omega) | (simp only [sizes]; omega)) _) | (refine Below.trans ?_ (Below.mono (by with_reducible assumption) (by first | exact Nat.le_refl _ | omega | (dsimp only; omega) | (simp only [sizes]; omega))))))
          obtain ⟨j, rfl⟩ : ∃ j : Nat, f = j := ⟨f.toNat, by omega⟩
          have hjr : j < r := by omega
          have hup := rowUp_succ (n := r) HFK.out hA.out (by unfold pageOk; exact decide_eq_true (by omega))
          have HUP := Lib.hid hup; clear hup hf1
          have hcnt := count_le_len ((M.take i).flatten ++ l.take k) (j : Int)
          rw [List.length_append, List.length_take] at hcnt
          have hinc := cntRow_inc ((M.take i).flatten ++ l.take k) hjr
          obtain ⟨t1, t2⟩ := HO.out.at (cntRow_at ((M.take i).flatten ++ l.take k) hjr)
          obtain ⟨ct, hct⟩ : ∃ c, ((M.take i).flatten ++ l.take k).count (j : Int) = c := ⟨_, rfl⟩
          rw [hct] at hcnt hinc t1
          have hcb : ct ≤ 1000 := by omega
          have HINC := Lib.hid hinc; clear hinc hct hcnt
          have hgw := (World.ownsRow.lt HO.out.raw (w.heap.size + 1) rfl).2
          go_wp2_with fail
          go_roundw
          case rel =>
            refine ⟨k + 1, by omega, by go_num, HUP.out, E.set_ne (by omega) _, ?_, (by repeat (first | with_reducible exact Below.refl _ _ | with_reducible refine Below.drew ?_ | (with_reducible refine Below.alloc ?_ (by first | exact Nat.le_refl _ | omega | (dsimp only; omega) | (simp only [sizes]; omega)) _) | (with_reducible refine Below.setCell ?_ (by first | exact Nat.le_refl _ | omega | (dsimp only; omega) | (simp only [sizes]; omega)) _) | (refine Below.trans ?_ (Below.mono (by with_reducible assumption) (by first | exact Nat.le_refl _ | omega | (dsimp only; omega) | (simp only [sizes]; omega))))))⟩
            rw [take_succ' HFK.out, ← List.append_assoc, HINC.out]
            exact HO.out.put j _
          case measure => simp [intOf]; omega
        · obtain rfl : k = q := by omega
          have hrow := rowUp_all (n := r) (l := l) (by rw [HQ.out]; exact ⟨g1, g2⟩) (by rw [HQ.out]; exact hA.out)
          have hup := mapUp_succ HL.out hU.out hrow
          have hfl := flat_succ HL.out
          have HUP := Lib.hid hup; clear hup hrow
          have HFL := Lib.hid hfl; clear hfl
          go_wp2_with fail
          go_roundw
          case rel =>
            refine ⟨i + 1, by omega, by go_num, HUP.out, E, ?_, hbi⟩
            rw [HFL.out]
            have h := HO.out
            rw [List.take_of_length_le (l := l) (by rw [HQ.out]; exact Nat.le_refl _)] at h
            exact h
          case measure => simp [intOf]; omega
    · obtain rfl : i = m := by omega
      have hall : M.take i = M := by rw [← HM.out]; exact List.take_length
      have hmap : mapOk r M = true := by have h := hU.out; unfold mapUp at h; rwa [hall] at h
      have HO' := HO.out
      rw [hall] at HO'
      obtain ⟨P, hP⟩ : ∃ P, M.flatten = P := ⟨_, rfl⟩
      rw [hP] at HO'
      have HMAP := Lib.hid hmap
      have HPF := Lib.hid hP
      have HOP := Lib.hid HO'; clear HO' HO hall hmap hP hU HM HU2 HU3 HPM
      obtain ⟨fb, foff, rfl, hfb, hfc⟩ := a3.resolve_left (by omega)
      obtain ⟨rb, roff, rfl, hrb, hrc⟩ := b3.resolve_left (by omega)
      have HFC := Lib.hid hfc; clear hfc a3
      have HRC := Lib.hid hrc; clear hrc b3
      go_wp2_with fail
      obtain ⟨wo, rfl⟩ : ∃ wo : World, wo = wr := ⟨_, rfl⟩
      go_loopw [76] (fun kv wi => ∃ k : Nat, k ≤ r ∧ kv = .int .i64 k ∧ Hid (framesOk F R P k = true) ∧ HasBlock wi w.heap.size #[.slice (some ⟨fb, foff, none⟩) r ca, .slice (some ⟨rb, roff, none⟩) r cb, .slice co i cc] 27 ∧ OwnNum (w.heap.size + 1) wi (.slice (some ⟨w.heap.size + 1, 0, none⟩) r r) (cntRow r P) ∧ Below w.heap.size w wi) (fun kv _ => r - (intOf kv).toNat)
      case atStart => exact ⟨0, Nat.zero_le _, rfl, rfl, D, HOP.out, hbw⟩
      case round =>
        obtain ⟨k, hk, rfl, hA, E, hown, hbi⟩ := hrel
        clear D HOP hbw x0 x1 x2 xf xz
        have hz1 := hbi.size
        have HO := Lib.hid hown; clear hown
        have x0 := (E.cell 0).trans rfl
        have x1 := (E.cell 1).trans rfl
        have x2 := (E.cell 2).trans rfl
        have xf := E.free
        have xz := E.lt
        by_cases hkr : k < r
        · obtain ⟨s, hs⟩ := get_lt (xs := F) (k := k) (by rw [HN.out]; exact hkr)
          obtain ⟨x, hx⟩ := get_lt (xs := R) (k := k) (by rw [HR.out]; exact hkr)
          have hxb := HPR.out x (List.mem_of_getElem? hx)
          have q1 := (hbi.cell (p := ⟨fb, foff + k, none⟩) hfb).trans (HFC.out k s hs)
          have q2 := (hbi.cell (p := ⟨rb, roff + k, none⟩) hrb).trans (HRC.out k x hx)
          obtain ⟨t1, _⟩ := HO.out.at (cntRow_at P hkr)
          have hgw := (World.ownsRow.lt HO.out.raw (w.heap.size + 1) rfl).2
          have hfb2 : fb < wr.heap.size := by omega
          have hrb2 : rb < wr.heap.size := by omega
          have hfr : frameOk F R P k = (decide (x = ((P.count (k : Int) : Nat) : Int)) && (decide (P.count (k : Int) = 0) == decide (s.size = 0)) && (decide (s.size = 0) || (decide (s.size = 128) && !zeroB s))) := by unfold frameOk; rw [hs, hx]
          obtain ⟨ct, hct⟩ : ∃ c, P.count (k : Int) = c := ⟨_, rfl⟩
          rw [hct] at t1 hfr
          have HFR := Lib.hid hfr; clear hfr hct hs hx
          by_cases hxc : x = (ct : Int)
          rotate_left
          · have e1 : (x != (ct : Int)) = true := by rw [bne_iff_ne]; exact hxc
            have hno : frameOk F R P k = false := by (rw [HFR.out, decide_eq_false hxc, Bool.false_and, Bool.false_and])
            have HF := Lib.hid (framesOk_false hno hkr); clear hno
            go_wp2_with fail
            refine wp_region_quiet_below (by kernel_rfl) (by kernel_rfl) ?_
            repeat (go_big_quiet_step (first | fail | fail))
            refine wpQuiet_nil ?_
            intro w3 hw3
            have hb3 := below_of_regrown hw3
            clear hw3
            obtain ⟨hc3, hf3⟩ := bcell hb3
            have hz3 := bsize hb3
            try simp only [sizes1] at hz3
            try simp only [sizes] at hc3 hf3
            go_wp2_with fail
            go_ret
            exact Ret.mk' (by rw [HMAP.out, HPF.out, HF.out]; rfl) (by repeat (first | with_reducible exact Below.refl _ _ | with_reducible refine Below.drew ?_ | (with_reducible refine Below.alloc ?_ (by first | exact Nat.le_refl _ | omega | (dsimp only; omega) | (simp only [sizes]; omega)) _) | (with_reducible refine Below.setCell ?_ (by first | exact Nat.le_refl _ | omega | (dsimp only; omega) | (simp only [sizes]; omega)) _) | (refine Below.trans ?_ (Below.mono (by with_reducible assumption) (by first | exact Nat.le_refl _ | omega | (dsimp only; omega) | (simp only [sizes]; omega))))))
          subst hxc
          have hii := isEmpty_iff s
          by_cases h0 : ct = 0
          · have e2 : ((ct : Int) == 0) = true := by rw [beq_iff_eq]; omega
            have e3 : (ct == 0) = true := by rw [beq_iff_eq]; exact h0
            by_cases hs0 : s.size = 0
            · rw [decide_eq_true hs0] at hii
              have hyes : framesOk F R P (k + 1) = true := by rw [framesOk, hA.out, HFR.out, decide_eq_true h0, decide_eq_true hs0]; simp
              have HY := Lib.hid hyes; clear hyes h0 hs0
              go_wp2_with fail
              refine wp_region_quiet_below (by kernel_rfl) (by kernel_rfl) ?_
              repeat (go_big_quiet_step (first | fail | fail))
              refine wpQuiet_nil ?_
              intro w3 hw3
              have hb3 := below_of_regrown hw3
              clear hw3
              obtain ⟨hc3, hf3⟩ := bcell hb3
              have hz3 := bsize hb3
              try simp only [sizes1] at hz3
              try simp only [sizes] at hc3 hf3
              have E3 := E.below hb3
              have P3 := HO.out.below hb3
              have hbw3 : Below w.heap.size w w3 := hbi.trans (hb3.mono hbi.size)
              clear x0 x1 x2 xf xz
              clear hc3 hf3 hb3 E HO hbi q1 q2 t1
              have x0 := (E3.cell 0).trans rfl
              have x1 := (E3.cell 1).trans rfl
              have x2 := (E3.cell 2).trans rfl
              have xf := E3.free
              have xz := E3.lt
              go_wp2_with fail
              go_roundw
              case rel => exact ⟨k + 1, by omega, by go_num, HY.out, E3, P3, hbw3⟩
              case measure => simp [intOf]; omega
            · rw [decide_eq_false hs0] at hii
              have hno2 : frameOk F R P k = false := by rw [HFR.out, decide_eq_true h0, decide_eq_false hs0]; simp
              have HN2 := Lib.hid hno2; clear hno2 h0 hs0
              have hno : frameOk F R P k = false := by exact HN2.out
              have HF := Lib.hid (framesOk_false hno hkr); clear hno
              go_wp2_with fail
              refine wp_region_quiet_below (by kernel_rfl) (by kernel_rfl) ?_
              repeat (go_big_quiet_step (first | fail | fail))
              refine wpQuiet_nil ?_
              intro w3 hw3
              have hb3 := below_of_regrown hw3
              clear hw3
              obtain ⟨hc3, hf3⟩ := bcell hb3
              have hz3 := bsize hb3
              try simp only [sizes1] at hz3
              try simp only [sizes] at hc3 hf3
              go_wp2_with fail
              go_ret
              exact Ret.mk' (by rw [HMAP.out, HPF.out, HF.out]; rfl) (by repeat (first | with_reducible exact Below.refl _ _ | with_reducible refine Below.drew ?_ | (with_reducible refine Below.alloc ?_ (by first | exact Nat.le_refl _ | omega | (dsimp only; omega) | (simp only [sizes]; omega)) _) | (with_reducible refine Below.setCell ?_ (by first | exact Nat.le_refl _ | omega | (dsimp only; omega) | (simp only [sizes]; omega)) _) | (refine Below.trans ?_ (Below.mono (by with_reducible assumption) (by first | exact Nat.le_refl _ | omega | (dsimp only; omega) | (simp only [sizes]; omega))))))
          · have e2 : ((ct : Int) == 0) = false := by rw [beq_eq_false_iff_ne]; omega
            have e3 : (ct == 0) = false := by rw [beq_eq_false_iff_ne]; exact h0
            by_cases hs0 : s.size = 0
            · rw [decide_eq_true hs0] at hii
              have hno2 : frameOk F R P k = false := by rw [HFR.out, decide_eq_false h0, decide_eq_true hs0]; simp
              have HN2 := Lib.hid hno2; clear hno2 h0 hs0
              have hno : frameOk F R P k = false := by exact HN2.out
              have HF := Lib.hid (framesOk_false hno hkr); clear hno
              go_wp2_with fail
              refine wp_region_quiet_below (by kernel_rfl) (by kernel_rfl) ?_
              repeat (go_big_quiet_step (first | fail | fail))
              refine wpQuiet_nil ?_
              intro w3 hw3
              have hb3 := below_of_regrown hw3
              clear hw3
              obtain ⟨hc3, hf3⟩ := bcell hb3
              have hz3 := bsize hb3
              try simp only [sizes1] at hz3
              try simp only [sizes] at hc3 hf3
              go_wp2_with fail
              go_ret
              exact Ret.mk' (by rw [HMAP.out, HPF.out, HF.out]; rfl) (by repeat (first | with_reducible exact Below.refl _ _ | with_reducible refine Below.drew ?_ | (with_reducible refine Below.alloc ?_ (by first | exact Nat.le_refl _ | omega | (dsimp only; omega) | (simp only [sizes]; omega)) _) | (with_reducible refine Below.setCell ?_ (by first | exact Nat.le_refl _ | omega | (dsimp only; omega) | (simp only [sizes]; omega)) _) | (refine Below.trans ?_ (Below.mono (by with_reducible assumption) (by first | exact Nat.le_refl _ | omega | (dsimp only; omega) | (simp only [sizes]; omega))))))
            · rw [decide_eq_false hs0] at hii
              by_cases q128 : s.size = 128
              rotate_left
              · have hno2 : frameOk F R P k = false := by rw [HFR.out, decide_eq_false hs0, decide_eq_false q128]; simp
                have HN2 := Lib.hid hno2; clear hno2 h0 hs0
                have se1 : ((s.size : Int) != 128) = true := by rw [bne_iff_ne]; omega
                have se2 : (s.size != 128) = true := by rw [bne_iff_ne]; omega
                clear q128
                have hno : frameOk F R P k = false := by exact HN2.out
                have HF := Lib.hid (framesOk_false hno hkr); clear hno
                go_wp2_with fail
                refine wp_region_quiet_below (by kernel_rfl) (by kernel_rfl) ?_
                repeat (go_big_quiet_step (first | fail | fail))
                refine wpQuiet_nil ?_
                intro w3 hw3
                have hb3 := below_of_regrown hw3
                clear hw3
                obtain ⟨hc3, hf3⟩ := bcell hb3
                have hz3 := bsize hb3
                try simp only [sizes1] at hz3
                try simp only [sizes] at hc3 hf3
                go_wp2_with fail
                go_ret
                exact Ret.mk' (by rw [HMAP.out, HPF.out, HF.out]; rfl) (by repeat (first | with_reducible exact Below.refl _ _ | with_reducible refine Below.drew ?_ | (with_reducible refine Below.alloc ?_ (by first | exact Nat.le_refl _ | omega | (dsimp only; omega) | (simp only [sizes]; omega)) _) | (with_reducible refine Below.setCell ?_ (by first | exact Nat.le_refl _ | omega | (dsimp only; omega) | (simp only [sizes]; omega)) _) | (refine Below.trans ?_ (Below.mono (by with_reducible assumption) (by first | exact Nat.le_refl _ | omega | (dsimp only; omega) | (simp only [sizes]; omega))))))
              have Z := fun w => zeros_any s w
              cases hzb : zeroB s
              · have hyes : framesOk F R P (k + 1) = true := by rw [framesOk, hA.out, HFR.out, decide_eq_false h0, decide_eq_false hs0, decide_eq_true q128, hzb]; simp
                rw [hzb] at Z
                have HZ := Lib.hid Z
                have HY := Lib.hid hyes
                have se1 : ((s.size : Int) != 128) = false := by rw [bne_eq_false_iff_eq]; omega
                have se2 : (s.size != 128) = false := by rw [bne_eq_false_iff_eq]; omega
                clear Z hyes h0 hs0 hzb q128
                go_wp2_with fail
                refine wp_region_quiet_below (by kernel_rfl) (by kernel_rfl) ?_
                repeat (go_big_quiet_step (first | fail | fail))
                refine wpQuiet_nil ?_
                intro w3 hw3
                have hb3 := below_of_regrown hw3
                clear hw3
                obtain ⟨hc3, hf3⟩ := bcell hb3
                have hz3 := bsize hb3
                try simp only [sizes1] at hz3
                try simp only [sizes] at hc3 hf3
                have E3 := E.below hb3
                have P3 := HO.out.below hb3
                have hbw3 : Below w.heap.size w w3 := hbi.trans (hb3.mono hbi.size)
                clear x0 x1 x2 xf xz
                clear hc3 hf3 hb3 E HO hbi q1 q2 t1
                go_wp2_with fail
                refine (HZ.out _).mono ?_
                rintro e w4 ⟨rfl, hb4⟩
                have E4 := E3.below hb4
                have P4 := P3.below hb4
                have hbw4 := hbw3.trans (hb4.mono hbw3.size)
                clear E3 P3 hbw3 hb4
                go_wp2_with fail
                go_roundw
                case rel => exact ⟨k + 1, by omega, by go_num, HY.out, E4, P4, hbw4⟩
                case measure => simp [intOf]; omega
              · have hno2 : frameOk F R P k = false := by rw [HFR.out, decide_eq_false hs0, hzb]; simp
                rw [hzb] at Z
                have HZ := Lib.hid Z
                have HF := Lib.hid (framesOk_false hno2 hkr)
                have se1 : ((s.size : Int) != 128) = false := by rw [bne_eq_false_iff_eq]; omega
                have se2 : (s.size != 128) = false := by rw [bne_eq_false_iff_eq]; omega
                clear Z hno2 h0 hs0 hzb q128
                go_wp2_with fail
                refine wp_region_quiet_below (by kernel_rfl) (by kernel_rfl) ?_
                repeat (go_big_quiet_step (first | fail | fail))
                refine wpQuiet_nil ?_
                intro w3 hw3
                have hb3 := below_of_regrown hw3
                clear hw3
                obtain ⟨hc3, hf3⟩ := bcell hb3
                have hz3 := bsize hb3
                try simp only [sizes1] at hz3
                try simp only [sizes] at hc3 hf3
                have hbw3 : Below w.heap.size w w3 := hbi.trans (hb3.mono hbi.size)
                go_wp2_with fail
                refine (HZ.out _).mono ?_
                rintro e w4 ⟨rfl, hb4⟩
                go_wp2_with fail
                go_ret
                exact Ret.mk' (by rw [HMAP.out, HPF.out, HF.out]; rfl) (hbw3.trans (hb4.mono hbw3.size))
        · obtain rfl : k = r := by omega
          go_wp2_with fail
          go_ret
          exact Ret.mk' (by rw [HMAP.out, HPF.out, hA.out]; rfl) (by repeat (first | with_reducible exact Below.refl _ _ | with_reducible refine Below.drew ?_ | (with_reducible refine Below.alloc ?_ (by first | exact Nat.le_refl _ | omega | (dsimp only; omega) | (simp only [sizes]; omega)) _) | (with_reducible refine Below.setCell ?_ (by first | exact Nat.le_refl _ | omega | (dsimp only; omega) | (simp only [sizes]; omega)) _) | (refine Below.trans ?_ (Below.mono (by with_reducible assumption) (by first | exact Nat.le_refl _ | omega | (dsimp only; omega) | (simp only [sizes]; omega))))))
end Go.Proofs.Ytbnngjhnkegliaa
namespace Go.Proofs.Ytbnngjhnkegliaa
open Go.RowKit

theorem Pl.is_no {P : Pl} {g p : Int} (h : ¬ (0 ≤ g ∧ g < P.M.length ∧ 0 ≤ p ∧ p < (P.pages g.toNat).length)) : P.is g p = false := decide_eq_false h
theorem Pl.is_yes {P : Pl} {g p : Int} (h : 0 ≤ g ∧ g < P.M.length ∧ 0 ≤ p ∧ p < (P.pages g.toNat).length) : P.is g p = true := decide_eq_true h
theorem Pl.pages_eq {P : Pl} {g : Nat} {l : List Int} (hl : P.M[g]? = some l) : P.pages g = l := by unfold Pl.pages; rw [hl]; rfl
theorem valid_pl (v : Value) (P : Pl) (w : World) (h : PlRow w v P) (hf : P.fit) : Calls Try.prog 37 #[v] w (Ret w (.bool P.ok)) := by
  obtain ⟨vf, vr, vm, rfl, h1, h2, h3⟩ := h
  exact pvalid_any vf vr vm P.F P.R P.M w h1 h2 h3 hf.1 hf.2
set_option maxHeartbeats 2000000 in
theorem phas_any (v : Value) (P : Pl) (g p : Int) (w : World) (h : PlRow w v P) (hf : P.fit) : Calls Try.prog 51 #[v, .int .i64 g, .int .i64 p] w (Ret w (.bool (P.has g p))) := by
  obtain ⟨of, or', om, kf, kr, km, rfl, kf1, kf2, kr1, kr2, km1, km2⟩ := h.form
  obtain ⟨n, hn⟩ : ∃ n, P.F.length = n := ⟨_, rfl⟩
  obtain ⟨r, hr⟩ : ∃ n, P.R.length = n := ⟨_, rfl⟩
  obtain ⟨m, hm⟩ : ∃ n, P.M.length = n := ⟨_, rfl⟩
  rw [hn] at h kf1 ⊢
  rw [hr] at h kr1 ⊢
  rw [hm] at h km1 ⊢
  have HN := Lib.hid hn; clear hn
  have HR := Lib.hid hr; clear hr
  have HM := Lib.hid hm; clear hm
  have V := fun w h => valid_pl (.agg #[.slice of n kf, .slice or' r kr, .slice om m km]) P w h hf
  have hhas : P.has g p = (P.ok && P.is g p) := rfl
  rw [hhas]
  clear hhas hf
  cases hok : P.ok
  · rw [hok] at V
    rw [Bool.false_and]
    clear hok
    have HV := Lib.hid V; clear V
    go_enter Try.func51, Try.ntmps51
    go_wp2_with fail
    with_reducible refine (HV.out _ (h.below (by repeat (first | with_reducible exact Below.refl _ _ | with_reducible refine Below.drew ?_ | (with_reducible refine Below.alloc ?_ (by first | exact Nat.le_refl _ | omega | (dsimp only; omega) | (simp only [sizes]; omega)) _) | (with_reducible refine Below.setCell ?_ (by first | exact Nat.le_refl _ | omega | (dsimp only; omega) | (simp only [sizes]; omega)) _) | (refine Below.trans ?_ (Below.mono (by with_reducible assumption) (by first | exact Nat.le_refl _ | omega | (dsimp only; omega) | (simp only [sizes]; omega)))))))).mono ?_
    rintro e w1 ⟨rfl, hb1⟩
    obtain ⟨hc1, hf1⟩ := bcell hb1
    have hz1 := bsize hb1
    try simp only [sizes1] at hz1
    try simp only [sizes] at hc1 hf1
    go_wp2_with fail
    go_ret
    exact Ret.mk (by repeat (first | with_reducible exact Below.refl _ _ | with_reducible refine Below.drew ?_ | (with_reducible refine Below.alloc ?_ (by first | exact Nat.le_refl _ | omega | (dsimp only; omega) | (simp only [sizes]; omega)) _) | (with_reducible refine Below.setCell ?_ (by first | exact Nat.le_refl _ | omega | (dsimp only; omega) | (simp only [sizes]; omega)) _) | (refine Below.trans ?_ (Below.mono (by with_reducible assumption) (by first | exact Nat.le_refl _ | omega | (dsimp only; omega) | (simp only [sizes]; omega))))))
  · rw [hok] at V
    rw [Bool.true_and]
    clear hok
    have HV := Lib.hid V; clear V
    by_cases g0 : 0 ≤ g
    rotate_left
    · have hno : P.is g p = false := Pl.is_no (fun hh => g0 hh.1)
      have HNO := Lib.hid hno; clear hno
      go_enter Try.func51, Try.ntmps51
      go_wp2_with fail
      with_reducible refine (HV.out _ (h.below (by repeat (first | with_reducible exact Below.refl _ _ | with_reducible refine Below.drew ?_ | (with_reducible refine Below.alloc ?_ (by first | exact Nat.le_refl _ | omega | (dsimp only; omega) | (simp only [sizes]; omega)) _) | (with_reducible refine Below.setCell ?_ (by first | exact Nat.le_refl _ | omega | (dsimp only; omega) | (simp only [sizes]; omega)) _) | (refine Below.trans ?_ (Below.mono (by with_reducible assumption) (by first | exact Nat.le_refl _ | omega | (dsimp only; omega) | (simp only [sizes]; omega)))))))).mono ?_
      rintro e w1 ⟨rfl, hb1⟩
      obtain ⟨hc1, hf1⟩ := bcell hb1
      have hz1 := bsize hb1
      try simp only [sizes1] at hz1
      try simp only [sizes] at hc1 hf1
      go_wp2_with fail
      go_ret
      exact Ret.mk' (by rw [HNO.out]; first | rfl | exact congrArg Value.bool (decide_eq_false (by omega))) (by repeat (first | with_reducible exact Below.refl _ _ | with_reducible refine Below.drew ?_ | (with_reducible refine Below.alloc ?_ (by first | exact Nat.le_refl _ | omega | (dsimp only; omega) | (simp only [sizes]; omega)) _) | (with_reducible refine Below.setCell ?_ (by first | exact Nat.le_refl _ | omega | (dsimp only; omega) | (simp only [sizes]; omega)) _) | (refine Below.trans ?_ (Below.mono (by with_reducible assumption) (by first | exact Nat.le_refl _ | omega | (dsimp only; omega) | (simp only [sizes]; omega))))))
    by_cases g1 : g < m
    rotate_left
    · have hno : P.is g p = false := Pl.is_no (fun hh => g1 (by rw [← HM.out]; exact hh.2.1))
      have HNO := Lib.hid hno; clear hno
      go_enter Try.func51, Try.ntmps51
      go_wp2_with fail
      with_reducible refine (HV.out _ (h.below (by repeat (first | with_reducible exact Below.refl _ _ | with_reducible refine Below.drew ?_ | (with_reducible refine Below.alloc ?_ (by first | exact Nat.le_refl _ | omega | (dsimp only; omega) | (simp only [sizes]; omega)) _) | (with_reducible refine Below.setCell ?_ (by first | exact Nat.le_refl _ | omega | (dsimp only; omega) | (simp only [sizes]; omega)) _) | (refine Below.trans ?_ (Below.mono (by with_reducible assumption) (by first | exact Nat.le_refl _ | omega | (dsimp only; omega) | (simp only [sizes]; omega)))))))).mono ?_
      rintro e w1 ⟨rfl, hb1⟩
      obtain ⟨hc1, hf1⟩ := bcell hb1
      have hz1 := bsize hb1
      try simp only [sizes1] at hz1
      try simp only [sizes] at hc1 hf1
      go_wp2_with fail
      go_ret
      exact Ret.mk' (by rw [HNO.out]; first | rfl | exact congrArg Value.bool (decide_eq_false (by omega))) (by repeat (first | with_reducible exact Below.refl _ _ | with_reducible refine Below.drew ?_ | (with_reducible refine Below.alloc ?_ (by first | exact Nat.le_refl _ | omega | (dsimp only; omega) | (simp only [sizes]; omega)) _) | (with_reducible refine Below.setCell ?_ (by first | exact Nat.le_refl _ | omega | (dsimp only; omega) | (simp only [sizes]; omega)) _) | (refine Below.trans ?_ (Below.mono (by with_reducible assumption) (by first | exact Nat.le_refl _ | omega | (dsimp only; omega) | (simp only [sizes]; omega))))))
    obtain ⟨i, rfl⟩ : ∃ i : Nat, g = i := ⟨g.toNat, by omega⟩
    obtain ⟨l, hl⟩ := get_lt (xs := P.M) (k := i) (by rw [HM.out]; omega)
    have hpl := Pl.pages_eq hl
    obtain ⟨mb, moff, uo, uc, rfl, hmb, cm, u1, u2, hrow⟩ := h.guest hl
    clear hrow
    have HPL := Lib.hid hpl; clear hpl
    have HL := Lib.hid hl; clear hl
    by_cases p0 : 0 ≤ p
    rotate_left
    · have hno : P.is i p = false := Pl.is_no (fun hh => p0 hh.2.2.1)
      have HNO := Lib.hid hno; clear hno
      go_enter Try.func51, Try.ntmps51
      go_wp2_with fail
      with_reducible refine (HV.out _ (h.below (by repeat (first | with_reducible exact Below.refl _ _ | with_reducible refine Below.drew ?_ | (with_reducible refine Below.alloc ?_ (by first | exact Nat.le_refl _ | omega | (dsimp only; omega) | (simp only [sizes]; omega)) _) | (with_reducible refine Below.setCell ?_ (by first | exact Nat.le_refl _ | omega | (dsimp only; omega) | (simp only [sizes]; omega)) _) | (refine Below.trans ?_ (Below.mono (by with_reducible assumption) (by first | exact Nat.le_refl _ | omega | (dsimp only; omega) | (simp only [sizes]; omega)))))))).mono ?_
      rintro e w1 ⟨rfl, hb1⟩
      obtain ⟨hc1, hf1⟩ := bcell hb1
      have hz1 := bsize hb1
      try simp only [sizes1] at hz1
      try simp only [sizes] at hc1 hf1
      go_wp2_with fail
      go_ret
      exact Ret.mk' (by rw [HNO.out]; first | rfl | exact congrArg Value.bool (decide_eq_false (by omega))) (by repeat (first | with_reducible exact Below.refl _ _ | with_reducible refine Below.drew ?_ | (with_reducible refine Below.alloc ?_ (by first | exact Nat.le_refl _ | omega | (dsimp only; omega) | (simp only [sizes]; omega)) _) | (with_reducible refine Below.setCell ?_ (by first | exact Nat.le_refl _ | omega | (dsimp only; omega) | (simp only [sizes]; omega)) _) | (refine Below.trans ?_ (Below.mono (by with_reducible assumption) (by first | exact Nat.le_refl _ | omega | (dsimp only; omega) | (simp only [sizes]; omega))))))
    by_cases p1 : p < l.length
    rotate_left
    · have hno : P.is i p = false := Pl.is_no (fun hh => p1 (by rw [← HPL.out]; exact hh.2.2.2))
      have HNO := Lib.hid hno; clear hno
      go_enter Try.func51, Try.ntmps51
      go_wp2_with fail
      with_reducible refine (HV.out _ (h.below (by repeat (first | with_reducible exact Below.refl _ _ | with_reducible refine Below.drew ?_ | (with_reducible refine Below.alloc ?_ (by first | exact Nat.le_refl _ | omega | (dsimp only; omega) | (simp only [sizes]; omega)) _) | (with_reducible refine Below.setCell ?_ (by first | exact Nat.le_refl _ | omega | (dsimp only; omega) | (simp only [sizes]; omega)) _) | (refine Below.trans ?_ (Below.mono (by with_reducible assumption) (by first | exact Nat.le_refl _ | omega | (dsimp only; omega) | (simp only [sizes]; omega)))))))).mono ?_
      rintro e w1 ⟨rfl, hb1⟩
      obtain ⟨hc1, hf1⟩ := bcell hb1
      have hz1 := bsize hb1
      try simp only [sizes1] at hz1
      try simp only [sizes] at hc1 hf1
      go_wp2_with fail
      go_ret
      exact Ret.mk' (by rw [HNO.out]; first | rfl | exact congrArg Value.bool (decide_eq_false (by omega))) (by repeat (first | with_reducible exact Below.refl _ _ | with_reducible refine Below.drew ?_ | (with_reducible refine Below.alloc ?_ (by first | exact Nat.le_refl _ | omega | (dsimp only; omega) | (simp only [sizes]; omega)) _) | (with_reducible refine Below.setCell ?_ (by first | exact Nat.le_refl _ | omega | (dsimp only; omega) | (simp only [sizes]; omega)) _) | (refine Below.trans ?_ (Below.mono (by with_reducible assumption) (by first | exact Nat.le_refl _ | omega | (dsimp only; omega) | (simp only [sizes]; omega))))))
    · have hyes : P.is i p = true := Pl.is_yes ⟨g0, by rw [HM.out]; exact g1, p0, by rw [Int.toNat_natCast, HPL.out]; exact p1⟩
      have HNO := Lib.hid hyes; clear hyes
      go_enter Try.func51, Try.ntmps51
      go_wp2_with fail
      with_reducible refine (HV.out _ (h.below (by repeat (first | with_reducible exact Below.refl _ _ | with_reducible refine Below.drew ?_ | (with_reducible refine Below.alloc ?_ (by first | exact Nat.le_refl _ | omega | (dsimp only; omega) | (simp only [sizes]; omega)) _) | (with_reducible refine Below.setCell ?_ (by first | exact Nat.le_refl _ | omega | (dsimp only; omega) | (simp only [sizes]; omega)) _) | (refine Below.trans ?_ (Below.mono (by with_reducible assumption) (by first | exact Nat.le_refl _ | omega | (dsimp only; omega) | (simp only [sizes]; omega)))))))).mono ?_
      rintro e w1 ⟨rfl, hb1⟩
      obtain ⟨hc1, hf1⟩ := bcell hb1
      have hz1 := bsize hb1
      try simp only [sizes1] at hz1
      try simp only [sizes] at hc1 hf1
      go_wp2_with fail
      go_ret
      exact Ret.mk' (by rw [HNO.out]; first | rfl | exact congrArg Value.bool (decide_eq_false (by omega))) (by repeat (first | with_reducible exact Below.refl _ _ | with_reducible refine Below.drew ?_ | (with_reducible refine Below.alloc ?_ (by first | exact Nat.le_refl _ | omega | (dsimp only; omega) | (simp only [sizes]; omega)) _) | (with_reducible refine Below.setCell ?_ (by first | exact Nat.le_refl _ | omega | (dsimp only; omega) | (simp only [sizes]; omega)) _) | (refine Below.trans ?_ (Below.mono (by with_reducible assumption) (by first | exact Nat.le_refl _ | omega | (dsimp only; omega) | (simp only [sizes]; omega))))))
end Go.Proofs.Ytbnngjhnkegliaa
namespace Go.Proofs.Ytbnngjhnkegliaa
open Go.RowKit

theorem framesOk_iff {F : List ByteArray} {R P : List Int} : ∀ n, framesOk F R P n = true ↔ ∀ k, k < n → frameOk F R P k = true
  | 0 => ⟨fun _ k h => absurd h (Nat.not_lt_zero _), fun _ => rfl⟩
  | n + 1 => by
    rw [framesOk, Bool.and_eq_true, framesOk_iff n]
    constructor
    · rintro ⟨h1, h2⟩ k hk
      by_cases e : k = n
      · subst e; exact h2
      · exact h1 k (by omega)
    · intro h
      exact ⟨fun k hk => h k (by omega), h n (by omega)⟩
/-- How often a frame is used. -/
def Pl.cnt (P : Pl) (f : Nat) : Nat := P.M.flatten.count (f : Int)
/-- What is true of each frame. -/
def Pl.frameP (P : Pl) (f : Nat) : Prop := ∃ s, P.F[f]? = some s ∧ P.R[f]? = some ((P.cnt f : Nat) : Int) ∧ (P.cnt f = 0 ↔ s.size = 0) ∧ (s.size = 0 ∨ s.size = 128 ∧ zeroB s = false)
structure Pl.Ok (P : Pl) : Prop where
  n1 : 1 ≤ P.F.length
  n2 : P.F.length ≤ 96
  r : P.R.length = P.F.length
  m : P.M.length ≤ 8
  l : ∀ l ∈ P.M, 1 ≤ l.length ∧ l.length ≤ 32
  pg : ∀ l ∈ P.M, ∀ f ∈ l, (-1 : Int) ≤ f ∧ f < P.F.length
  fr : ∀ f, f < P.F.length → P.frameP f
theorem Pl.ok_iff {P : Pl} : P.ok = true ↔ P.Ok := by
  unfold Pl.ok poolB poolHead
  rw [Bool.and_eq_true, Bool.and_eq_true, decide_eq_true_eq, framesOk_iff]
  unfold mapOk
  rw [List.all_eq_true]
  constructor
  · rintro ⟨⟨h1, h2, h3, h4⟩, h5, h6⟩
    have hl : ∀ l ∈ P.M, (1 ≤ l.length ∧ l.length ≤ 32) ∧ ∀ f ∈ l, (-1 : Int) ≤ f ∧ f < P.F.length := by
      intro l hl
      have h := h5 l hl
      unfold rowOk at h
      rw [Bool.and_eq_true, decide_eq_true_eq, List.all_eq_true] at h
      refine ⟨h.1, fun f hf => ?_⟩
      have := h.2 f hf
      unfold pageOk at this
      rwa [decide_eq_true_eq] at this
    refine ⟨h1, h2, h3, h4, fun l h => (hl l h).1, fun l h => (hl l h).2, fun f hf => ?_⟩
    obtain ⟨s, hs⟩ := get_lt hf
    obtain ⟨x, hx⟩ := get_lt (xs := P.R) (k := f) (by omega)
    have h := h6 f hf
    unfold frameOk at h
    rw [hs, hx] at h
    simp only [Bool.and_eq_true, decide_eq_true_eq, Bool.or_eq_true, beq_iff_eq, Bool.not_eq_true'] at h
    obtain ⟨⟨e1, e2⟩, e3⟩ := h
    have e2 : (P.M.flatten.count (f : Int) = 0 ↔ s.size = 0) := by
      constructor
      · intro a
        rw [decide_eq_true a] at e2
        exact of_decide_eq_true e2.symm
      · intro a
        rw [decide_eq_true a] at e2
        exact of_decide_eq_true e2
    exact ⟨s, hs, by rw [hx, e1]; rfl, e2, e3⟩
  · intro H
    refine ⟨⟨H.n1, H.n2, H.r, H.m⟩, fun l hl => ?_, fun f hf => ?_⟩
    · unfold rowOk
      rw [Bool.and_eq_true, decide_eq_true_eq, List.all_eq_true]
      refine ⟨H.l l hl, fun f hf => ?_⟩
      unfold pageOk
      rw [decide_eq_true_eq]
      exact H.pg l hl f hf
    · obtain ⟨s, hs, hx, h1, h2⟩ := H.fr f hf
      unfold frameOk
      rw [hs, hx]
      simp only [Bool.and_eq_true, decide_eq_true_eq, Bool.or_eq_true, beq_iff_eq, Bool.not_eq_true']
      refine ⟨⟨rfl, ?_⟩, h2⟩
      rw [Bool.eq_iff_iff, decide_eq_true_eq, decide_eq_true_eq]
      exact h1
theorem mem_at {α : Type} {xs : List α} {k : Nat} {x : α} (h : xs[k]? = some x) : x ∈ xs := List.mem_of_getElem? h
theorem Pl.Ok.page {P : Pl} (H : P.Ok) {g p : Nat} {l : List Int} {f : Int} (hl : P.M[g]? = some l) (hp : l[p]? = some f) : (-1 : Int) ≤ f ∧ f < P.F.length := H.pg l (mem_at hl) f (mem_at hp)
theorem flat_count {M : List (List Int)} : ∀ (k : Nat), (∀ l ∈ M, l.length ≤ k) → M.flatten.length ≤ k * M.length := by
  intro k h
  induction M with
  | nil => simp
  | cons a M ih =>
    rw [List.flatten_cons, List.length_append, List.length_cons, Nat.mul_add]
    have h1 := h a (List.mem_cons_self ..)
    have h2 := ih (fun l hl => h l (List.mem_cons_of_mem _ hl))
    omega
theorem Pl.Ok.cnt_le {P : Pl} (H : P.Ok) (f : Nat) : P.cnt f ≤ 256 := by
  have h1 : P.cnt f ≤ P.M.flatten.length := List.count_le_length
  have h2 := flat_count (M := P.M) 32 (fun l hl => (H.l l hl).2)
  have := H.m
  omega
theorem Pl.Ok.ref_eq {P : Pl} (H : P.Ok) {f : Nat} (hf : f < P.F.length) : P.ref f = P.cnt f := by
  obtain ⟨s, _, hx, _⟩ := H.fr f hf
  unfold Pl.ref
  rw [hx]
  rfl
theorem Pl.Ok.fit {P : Pl} (H : P.Ok) : P.fit := by
  refine ⟨fun x hx => ?_, fun l hl x hx => ?_⟩
  · obtain ⟨k, hk⟩ := List.getElem?_of_mem hx
    have hlt := lt_of_get hk
    rw [H.r] at hlt
    obtain ⟨s, _, hx', _⟩ := H.fr k hlt
    rw [hk] at hx'
    injection hx' with hx'
    have := H.cnt_le k
    omega
  · have h1 := H.pg l hl x hx
    have := H.n2
    omega
theorem Pl.Ok.small {P : Pl} (H : P.Ok) : P.small := ⟨by have := H.n2; omega, by have := H.n2; have := H.r; omega, by have := H.m; omega, fun l hl => by have := (H.l l hl).2; omega⟩
/-- A frame that a page has is counted. -/
theorem Pl.cnt_pos {P : Pl} {g p f : Nat} {l : List Int} (hl : P.M[g]? = some l) (hp : l[p]? = some (f : Int)) : 0 < P.cnt f := by
  unfold Pl.cnt
  rw [List.count_pos_iff, List.mem_flatten]
  exact ⟨l, mem_at hl, mem_at hp⟩
end Go.Proofs.Ytbnngjhnkegliaa
namespace Go.Proofs.Ytbnngjhnkegliaa
open Go.RowKit

def Pl.read (P : Pl) (g p : Int) : ByteArray := if P.has g p then (if P.fr g.toNat p.toNat < 0 then zeros128 else P.txt (P.fr g.toNat p.toNat).toNat) else ⟨#[]⟩
set_option maxHeartbeats 2000000 in
theorem pread_any (v : Value) (P : Pl) (g p : Int) (w : World) (h : PlRow w v P) (hf : P.fit) : Calls Try.prog 39 #[v, .int .i64 g, .int .i64 p] w (Ret w (.tuple #[.string (P.read g p), .bool (P.has g p)])) := by
  have hrd : P.read g p = if P.has g p then (if P.fr g.toNat p.toNat < 0 then zeros128 else P.txt (P.fr g.toNat p.toNat).toNat) else ⟨#[]⟩ := rfl
  have HRD := Lib.hid hrd; clear hrd
  obtain ⟨of, or', om, kf, kr, km, rfl, kf1, kf2, kr1, kr2, km1, km2⟩ := h.form
  obtain ⟨n, hn⟩ : ∃ n, P.F.length = n := ⟨_, rfl⟩
  obtain ⟨r, hr⟩ : ∃ n, P.R.length = n := ⟨_, rfl⟩
  obtain ⟨m, hm⟩ : ∃ n, P.M.length = n := ⟨_, rfl⟩
  rw [hn] at h kf1 ⊢
  rw [hr] at h kr1 ⊢
  rw [hm] at h km1 ⊢
  have HN := Lib.hid hn; clear hn
  have HR := Lib.hid hr; clear hr
  have HM := Lib.hid hm; clear hm
  have V := fun w h => phas_any (.agg #[.slice of n kf, .slice or' r kr, .slice om m km]) P g p w h hf
  clear hf
  cases hh : P.has g p
  · rw [hh] at V HRD
    have HV := Lib.hid V; clear V
    have HH := Lib.hid hh; clear hh
    go_enter Try.func39, Try.ntmps39
    go_wp2_with fail
    with_reducible refine (HV.out _ (h.below (by repeat (first | with_reducible exact Below.refl _ _ | with_reducible refine Below.drew ?_ | (with_reducible refine Below.alloc ?_ (by first | exact Nat.le_refl _ | omega | (dsimp only; omega) | (simp only [sizes]; omega)) _) | (with_reducible refine Below.setCell ?_ (by first | exact Nat.le_refl _ | omega | (dsimp only; omega) | (simp only [sizes]; omega)) _) | (refine Below.trans ?_ (Below.mono (by with_reducible assumption) (by first | exact Nat.le_refl _ | omega | (dsimp only; omega) | (simp only [sizes]; omega)))))))).mono ?_
    rintro e w1 ⟨rfl, hb1⟩
    obtain ⟨hc1, hf1⟩ := bcell hb1
    have hz1 := bsize hb1
    try simp only [sizes1] at hz1
    try simp only [sizes] at hc1 hf1
    go_wp2_with fail
    go_ret2
    exact Ret.mk' (by rw [HRD.out]; rfl) (by repeat (first | with_reducible exact Below.refl _ _ | with_reducible refine Below.drew ?_ | (with_reducible refine Below.alloc ?_ (by first | exact Nat.le_refl _ | omega | (dsimp only; omega) | (simp only [sizes]; omega)) _) | (with_reducible refine Below.setCell ?_ (by first | exact Nat.le_refl _ | omega | (dsimp only; omega) | (simp only [sizes]; omega)) _) | (refine Below.trans ?_ (Below.mono (by with_reducible assumption) (by first | exact Nat.le_refl _ | omega | (dsimp only; omega) | (simp only [sizes]; omega))))))
  · rw [hh] at V HRD
    have HV := Lib.hid V; clear V
    unfold Pl.has at hh
    rw [Bool.and_eq_true] at hh
    obtain ⟨hok, his⟩ := hh
    have H := Pl.ok_iff.1 hok
    have hi := his
    unfold Pl.is at hi
    rw [decide_eq_true_eq] at hi
    obtain ⟨i, rfl⟩ : ∃ i : Nat, g = i := ⟨g.toNat, by omega⟩
    obtain ⟨k, rfl⟩ : ∃ i : Nat, p = i := ⟨p.toNat, by omega⟩
    obtain ⟨l, f, hl, hp⟩ := Pl.is_at his
    have hfb := H.page hl hp
    rw [HN.out] at hfb
    have hfr := Pl.fr_eq hl hp
    rw [if_pos rfl, Int.toNat_natCast, Int.toNat_natCast, hfr] at HRD
    have hpl := Pl.pages_eq hl
    rw [HM.out, Int.toNat_natCast, hpl] at hi
    clear hok his H hfr hpl
    obtain ⟨mb, moff, uo, uc, rfl, hmb, cm, u1, u2, hrow⟩ := h.guest hl
    obtain ⟨lb, loff, rfl, hlb, cl⟩ := hrow.elem hp
    clear hrow hl hp
    by_cases h0 : f < 0
    · rw [if_pos h0] at HRD
      go_enter Try.func39, Try.ntmps39
      go_wp2_with fail
      with_reducible refine (HV.out _ (h.below (by repeat (first | with_reducible exact Below.refl _ _ | with_reducible refine Below.drew ?_ | (with_reducible refine Below.alloc ?_ (by first | exact Nat.le_refl _ | omega | (dsimp only; omega) | (simp only [sizes]; omega)) _) | (with_reducible refine Below.setCell ?_ (by first | exact Nat.le_refl _ | omega | (dsimp only; omega) | (simp only [sizes]; omega)) _) | (refine Below.trans ?_ (Below.mono (by with_reducible assumption) (by first | exact Nat.le_refl _ | omega | (dsimp only; omega) | (simp only [sizes]; omega)))))))).mono ?_
      rintro e w1 ⟨rfl, hb1⟩
      obtain ⟨hc1, hf1⟩ := bcell hb1
      have hz1 := bsize hb1
      try simp only [sizes1] at hz1
      try simp only [sizes] at hc1 hf1
      go_wp2_with fail
      with_reducible refine (rep_any _).mono ?_
      rintro e w2 ⟨rfl, hb2⟩
      obtain ⟨hc2, hf2⟩ := bcell hb2
      have hz2 := bsize hb2
      try simp only [sizes1] at hz2
      try simp only [sizes] at hc2 hf2
      go_wp2_with fail
      go_ret2
      exact Ret.mk' (by rw [HRD.out]; rfl) (by repeat (first | with_reducible exact Below.refl _ _ | with_reducible refine Below.drew ?_ | (with_reducible refine Below.alloc ?_ (by first | exact Nat.le_refl _ | omega | (dsimp only; omega) | (simp only [sizes]; omega)) _) | (with_reducible refine Below.setCell ?_ (by first | exact Nat.le_refl _ | omega | (dsimp only; omega) | (simp only [sizes]; omega)) _) | (refine Below.trans ?_ (Below.mono (by with_reducible assumption) (by first | exact Nat.le_refl _ | omega | (dsimp only; omega) | (simp only [sizes]; omega))))))
    · rw [if_neg h0] at HRD
      obtain ⟨j, rfl⟩ : ∃ i : Nat, f = i := ⟨f.toNat, by omega⟩
      obtain ⟨s, hs⟩ := get_lt (xs := P.F) (k := j) (by rw [HN.out]; omega)
      obtain ⟨fb, foff, rfl, hfb1, cf⟩ := (h.parts.1).elem hs
      have ht : P.txt (j : Int).toNat = s := by unfold Pl.txt; rw [Int.toNat_natCast, hs]; rfl
      rw [ht] at HRD
      clear ht hs
      go_enter Try.func39, Try.ntmps39
      go_wp2_with fail
      with_reducible refine (HV.out _ (h.below (by repeat (first | with_reducible exact Below.refl _ _ | with_reducible refine Below.drew ?_ | (with_reducible refine Below.alloc ?_ (by first | exact Nat.le_refl _ | omega | (dsimp only; omega) | (simp only [sizes]; omega)) _) | (with_reducible refine Below.setCell ?_ (by first | exact Nat.le_refl _ | omega | (dsimp only; omega) | (simp only [sizes]; omega)) _) | (refine Below.trans ?_ (Below.mono (by with_reducible assumption) (by first | exact Nat.le_refl _ | omega | (dsimp only; omega) | (simp only [sizes]; omega)))))))).mono ?_
      rintro e w1 ⟨rfl, hb1⟩
      obtain ⟨hc1, hf1⟩ := bcell hb1
      have hz1 := bsize hb1
      try simp only [sizes1] at hz1
      try simp only [sizes] at hc1 hf1
      go_wp2_with fail
      go_ret2
      exact Ret.mk' (by rw [HRD.out]; rfl) (by repeat (first | with_reducible exact Below.refl _ _ | with_reducible refine Below.drew ?_ | (with_reducible refine Below.alloc ?_ (by first | exact Nat.le_refl _ | omega | (dsimp only; omega) | (simp only [sizes]; omega)) _) | (with_reducible refine Below.setCell ?_ (by first | exact Nat.le_refl _ | omega | (dsimp only; omega) | (simp only [sizes]; omega)) _) | (refine Below.trans ?_ (Below.mono (by with_reducible assumption) (by first | exact Nat.le_refl _ | omega | (dsimp only; omega) | (simp only [sizes]; omega))))))
end Go.Proofs.Ytbnngjhnkegliaa
