/- A part of the proof: TryzShelf. -/
import Derived.Shelf.Small.Bits
import Derived.Shelf.Strconv.Itoa0
import Derived.Shelf.Strings.Search1
import Derived.Shelf.Strings.Search2
import Derived.Shelf.Strings.Search3
import Derived.Shelf.LaysM
import Derived.Shelf.Strings.Shaped
import Derived.Shelf.Sort.Plain
import Derived.Shelf.Strings.Fields
import Derived.Shelf.Unicode.Latin
import Derived.Shelf.Bits.Mul64
import Derived.Shelf.Unicode.Is16White
import Derived.Shelf.Unicode.IsSpaceAny
import Derived.Shelf.Unicode.Is16Any
import Derived.Shelf.Unicode.Is32Any
import Derived.Shelf.Unicode.ExclAny
import Derived.Shelf.Slices.Reverse
import Derived.Test.YtchkknkjhiaooaaGreatDoorProg
import Derived.Test.YtchkknkjhiaooaaGreatDoorQ11
set_option linter.unusedVariables false
set_option linter.unusedSimpArgs false
set_option linter.constructorNameAsVariable false
namespace Go.Proofs
open Go.Shelf
def Tryz.lays125_ren:Go.Shelf.Ren:=⟨fun | 125=>146 | 128=>217 | 129=>218 | n=>n,fun | 46=>186 | 3=>3 | 51=>283 | 53=>120 | 4=>4 | 5=>5 | 9=>9 | n=>n,fun | n=>n⟩
theorem Tryz.lays125:Go.Proofs.Lays.n125 Tryz.prog Tryz.lays125_ren:={
 mixed:=by kernel_rfl
 f125:=Tryz.func146.trans (congrArg some (by kernel_rfl))
 f128:=Tryz.func217.trans (congrArg some (by kernel_rfl))
 f129:=Tryz.func218.trans (congrArg some (by kernel_rfl))
 t3:=Tryz.underlying3
 a3:=Tryz.isAgg3
 z3:=Tryz.sizeOf3
 v3:=Tryz.zeroValue3
 t4:=Tryz.underlying4
 a4:=Tryz.isAgg4
 z4:=Tryz.sizeOf4
 v4:=Tryz.zeroValue4
 t5:=Tryz.underlying5
 a5:=Tryz.isAgg5
 z5:=Tryz.sizeOf5
 v5:=Tryz.zeroValue5
 t9:=Tryz.underlying9
 a9:=Tryz.isAgg9
 z9:=Tryz.sizeOf9
 v9:=Tryz.zeroValue9
 t46:=Tryz.underlying186
 a46:=Tryz.isAgg186
 z46:=Tryz.sizeOf186
 v46:=Tryz.zeroValue186
 t51:=Tryz.underlying283
 a51:=Tryz.isAgg283
 z51:=Tryz.sizeOf283
 v51:=Tryz.zeroValue283
 t53:=Tryz.underlying120
 a53:=Tryz.isAgg120
 z53:=Tryz.sizeOf120
 v53:=Tryz.zeroValue120 }
theorem Tryz.bits_Len (x:Int) (w:World) (h0:0≤x) (h1:x≤18446744073709551615) :
  Calls Tryz.prog 146 #[.int .u64 x] w fun e w'=>e=.returned (.int .i64 (Lib.bitLen x.toNat))∧w'=w:=Any.bits_Len Tryz.lays125 x w h0 h1
def Tryz.lays217_ren:Go.Shelf.Ren:=⟨fun | 217=>296 | 266=>316 | n=>n,fun | 9=>9 | 5=>5 | 3=>3 | n=>n,fun | n=>n⟩
theorem Tryz.lays217:Go.Proofs.Lays.n217 Tryz.prog Tryz.lays217_ren:={
 mixed:=by kernel_rfl
 f217:=Tryz.func296.trans (congrArg some (by kernel_rfl))
 f266:=Tryz.func316.trans (congrArg some (by kernel_rfl))
 t3:=Tryz.underlying3
 a3:=Tryz.isAgg3
 z3:=Tryz.sizeOf3
 v3:=Tryz.zeroValue3
 t5:=Tryz.underlying5
 a5:=Tryz.isAgg5
 z5:=Tryz.sizeOf5
 v5:=Tryz.zeroValue5
 t9:=Tryz.underlying9
 a9:=Tryz.isAgg9
 z9:=Tryz.sizeOf9
 v9:=Tryz.zeroValue9 }
open Go.RowKit Go.Lib in
theorem Tryz.stringslite_IndexByte (s:ByteArray) (c:Int) (w:World) :
  Calls Tryz.prog 296 #[.string s,.int .u8 c] w fun e w'=>e=.returned (.int .i64 (Lib.indexByte s.data.toList c.toNat.toUInt8))∧w'=w:=Any.stringslite_IndexByte Tryz.lays217 s c w
def Tryz.lays224_ren:Go.Shelf.Ren:=⟨fun | 224=>298 | n=>n,fun | 3=>3 | n=>n,fun | n=>n⟩
theorem Tryz.lays224:Go.Proofs.Lays.n224 Tryz.prog Tryz.lays224_ren:={
 mixed:=by kernel_rfl
 f224:=Tryz.func298.trans (congrArg some (by kernel_rfl))
 t3:=Tryz.underlying3
 a3:=Tryz.isAgg3
 z3:=Tryz.sizeOf3
 v3:=Tryz.zeroValue3 }
open Go.RowKit Go.Lib in
theorem Tryz.bytealg_Cutover (n:Int) (h0:0≤n) (h1:n < 4611686018427387904) (w:World) :
  Calls Tryz.prog 298 #[.int .i64 n] w fun e w'=>e=.returned (.int .i64 ((n + 16) / 8))∧w'=w:=Any.bytealg_Cutover Tryz.lays224 n h0 h1 w
def Tryz.lays314_ren:Go.Shelf.Ren:=⟨fun | 314=>317 | n=>n,fun | 9=>9 | 51=>283 | 3=>3 | 4=>4 | 5=>5 | 46=>186 | n=>n,fun | n=>n⟩
theorem Tryz.lays314:Go.Proofs.Lays.n314 Tryz.prog Tryz.lays314_ren:={
 mixed:=by kernel_rfl
 f314:=Tryz.func317.trans (congrArg some (by kernel_rfl))
 t3:=Tryz.underlying3
 a3:=Tryz.isAgg3
 z3:=Tryz.sizeOf3
 v3:=Tryz.zeroValue3
 t4:=Tryz.underlying4
 a4:=Tryz.isAgg4
 z4:=Tryz.sizeOf4
 v4:=Tryz.zeroValue4
 t5:=Tryz.underlying5
 a5:=Tryz.isAgg5
 z5:=Tryz.sizeOf5
 v5:=Tryz.zeroValue5
 t9:=Tryz.underlying9
 a9:=Tryz.isAgg9
 z9:=Tryz.sizeOf9
 v9:=Tryz.zeroValue9
 t46:=Tryz.underlying186
 a46:=Tryz.isAgg186
 z46:=Tryz.sizeOf186
 v46:=Tryz.zeroValue186
 t51:=Tryz.underlying283
 a51:=Tryz.isAgg283
 z51:=Tryz.sizeOf283
 v51:=Tryz.zeroValue283 }
open Go.RowKit Go.Lib in
theorem Tryz.bytealg_hashStr (sep:ByteArray) (hs:sep.size < 4294967281) (w:World) :
  Calls Tryz.prog 317 #[.string sep] w fun e w'=>e=.returned (.tuple #[.int .u32 (RK.H sep.data.toList % 4294967296),.int .u32 (16777619 ^ sep.size % 4294967296)])∧w'=w:=Any.bytealg_hashStr Tryz.lays314 sep hs w
def Tryz.lays267_ren:Go.Shelf.Ren:=⟨fun | 267=>299 | 314=>317 | n=>n,fun | 9=>9 | 3=>3 | 146=>346 | 51=>283 | 4=>4 | 5=>5 | 46=>186 | n=>n,fun | n=>n⟩
theorem Tryz.lays267:Go.Proofs.Lays.n267 Tryz.prog Tryz.lays267_ren:={
 mixed:=by kernel_rfl
 f267:=Tryz.func299.trans (congrArg some (by kernel_rfl))
 f314:=Tryz.func317.trans (congrArg some (by kernel_rfl))
 t3:=Tryz.underlying3
 a3:=Tryz.isAgg3
 z3:=Tryz.sizeOf3
 v3:=Tryz.zeroValue3
 t4:=Tryz.underlying4
 a4:=Tryz.isAgg4
 z4:=Tryz.sizeOf4
 v4:=Tryz.zeroValue4
 t5:=Tryz.underlying5
 a5:=Tryz.isAgg5
 z5:=Tryz.sizeOf5
 v5:=Tryz.zeroValue5
 t9:=Tryz.underlying9
 a9:=Tryz.isAgg9
 z9:=Tryz.sizeOf9
 v9:=Tryz.zeroValue9
 t46:=Tryz.underlying186
 a46:=Tryz.isAgg186
 z46:=Tryz.sizeOf186
 v46:=Tryz.zeroValue186
 t51:=Tryz.underlying283
 a51:=Tryz.isAgg283
 z51:=Tryz.sizeOf283
 v51:=Tryz.zeroValue283
 t146:=Tryz.underlying346
 a146:=Tryz.isAgg346
 z146:=Tryz.sizeOf346
 v146:=Tryz.zeroValue346 }
open Go.RowKit Go.Lib in
theorem Tryz.bytealg_IndexRabinKarp (s sep:ByteArray) (h1:1≤sep.size) (h2:sep.size≤s.size) (hs:s.size < 4294967281) (w:World) :
  Calls Tryz.prog 299 #[.string s,.string sep] w fun e w'=>e=.returned (.int .i64 (Lib.index s.data.toList sep.data.toList))∧w'=w:=Any.bytealg_IndexRabinKarp Tryz.lays267 s sep h1 h2 hs w
def Tryz.lays219_ren:Go.Shelf.Ren:=⟨fun | 219=>254 | 217=>296 | 225=>297 | 224=>298 | 267=>299 | 266=>316 | 314=>317 | n=>n,fun | 9=>9 | 3=>3 | 4=>4 | 5=>5 | 46=>186 | 146=>346 | 51=>283 | n=>n,fun | 1=>2 | n=>n⟩
theorem Tryz.lays219:Go.Proofs.Lays.n219 Tryz.prog Tryz.lays219_ren:={
 mixed:=by kernel_rfl
 f217:=Tryz.func296.trans (congrArg some (by kernel_rfl))
 f219:=Tryz.func254.trans (congrArg some (by kernel_rfl))
 f224:=Tryz.func298.trans (congrArg some (by kernel_rfl))
 f225:=Tryz.func297.trans (congrArg some (by kernel_rfl))
 f266:=Tryz.func316.trans (congrArg some (by kernel_rfl))
 f267:=Tryz.func299.trans (congrArg some (by kernel_rfl))
 f314:=Tryz.func317.trans (congrArg some (by kernel_rfl))
 t3:=Tryz.underlying3
 a3:=Tryz.isAgg3
 z3:=Tryz.sizeOf3
 v3:=Tryz.zeroValue3
 t4:=Tryz.underlying4
 a4:=Tryz.isAgg4
 z4:=Tryz.sizeOf4
 v4:=Tryz.zeroValue4
 t5:=Tryz.underlying5
 a5:=Tryz.isAgg5
 z5:=Tryz.sizeOf5
 v5:=Tryz.zeroValue5
 t9:=Tryz.underlying9
 a9:=Tryz.isAgg9
 z9:=Tryz.sizeOf9
 v9:=Tryz.zeroValue9
 t46:=Tryz.underlying186
 a46:=Tryz.isAgg186
 z46:=Tryz.sizeOf186
 v46:=Tryz.zeroValue186
 t51:=Tryz.underlying283
 a51:=Tryz.isAgg283
 z51:=Tryz.sizeOf283
 v51:=Tryz.zeroValue283
 t146:=Tryz.underlying346
 a146:=Tryz.isAgg346
 z146:=Tryz.sizeOf346
 v146:=Tryz.zeroValue346
 g1:=by kernel_rfl }
open Go.RowKit Go.Lib in
theorem Tryz.stringslite_Index_one (s:ByteArray) (c:UInt8) (w:World) :
  Calls Tryz.prog 254 #[.string s,.string ⟨#[c]⟩] w fun e w'=>e=.returned (.int .i64 (Lib.indexByte s.data.toList c))∧w'=w:=Any.stringslite_Index_one Tryz.lays219 s c w
open Go.RowKit Go.Lib in
theorem Tryz.stringslite_Index (s sub:ByteArray) (m:Int) (w:World) (hs:s.size < 4294967281) (hm:w.cell? ⟨2,0,none⟩=some (.int .i64 m)) :
  Calls Tryz.prog 254 #[.string s,.string sub] w fun e w'=>e=.returned (.int .i64 (Lib.index s.data.toList sub.data.toList))∧w'=w:=Any.stringslite_Index Tryz.lays219 s sub m w hs hm
def Tryz.lays143_ren:Go.Shelf.Ren:=⟨fun | 143=>188 | 219=>254 | 217=>296 | 225=>297 | 224=>298 | 267=>299 | 266=>316 | 314=>317 | n=>n,fun | 9=>9 | 3=>3 | 4=>4 | 5=>5 | 46=>186 | 146=>346 | 51=>283 | n=>n,fun | 1=>2 | n=>n⟩
theorem Tryz.lays143:Go.Proofs.Lays.n143 Tryz.prog Tryz.lays143_ren:={
 mixed:=by kernel_rfl
 f143:=Tryz.func188.trans (congrArg some (by kernel_rfl))
 f217:=Tryz.func296.trans (congrArg some (by kernel_rfl))
 f219:=Tryz.func254.trans (congrArg some (by kernel_rfl))
 f224:=Tryz.func298.trans (congrArg some (by kernel_rfl))
 f225:=Tryz.func297.trans (congrArg some (by kernel_rfl))
 f266:=Tryz.func316.trans (congrArg some (by kernel_rfl))
 f267:=Tryz.func299.trans (congrArg some (by kernel_rfl))
 f314:=Tryz.func317.trans (congrArg some (by kernel_rfl))
 t3:=Tryz.underlying3
 a3:=Tryz.isAgg3
 z3:=Tryz.sizeOf3
 v3:=Tryz.zeroValue3
 t4:=Tryz.underlying4
 a4:=Tryz.isAgg4
 z4:=Tryz.sizeOf4
 v4:=Tryz.zeroValue4
 t5:=Tryz.underlying5
 a5:=Tryz.isAgg5
 z5:=Tryz.sizeOf5
 v5:=Tryz.zeroValue5
 t9:=Tryz.underlying9
 a9:=Tryz.isAgg9
 z9:=Tryz.sizeOf9
 v9:=Tryz.zeroValue9
 t46:=Tryz.underlying186
 a46:=Tryz.isAgg186
 z46:=Tryz.sizeOf186
 v46:=Tryz.zeroValue186
 t51:=Tryz.underlying283
 a51:=Tryz.isAgg283
 z51:=Tryz.sizeOf283
 v51:=Tryz.zeroValue283
 t146:=Tryz.underlying346
 a146:=Tryz.isAgg346
 z146:=Tryz.sizeOf346
 v146:=Tryz.zeroValue346
 g1:=by kernel_rfl }
open Go.RowKit Go.Lib in
theorem Tryz.strings_Index_one (s:ByteArray) (c:UInt8) (w:World) :
  Calls Tryz.prog 188 #[.string s,.string ⟨#[c]⟩] w fun e w'=>e=.returned (.int .i64 (Lib.indexByte s.data.toList c))∧w'=w:=Any.strings_Index_one Tryz.lays143 s c w
open Go.RowKit Go.Lib in
theorem Tryz.strings_Index (s sub:ByteArray) (m:Int) (w:World) (hs:s.size < 4294967281) (hm:w.cell? ⟨2,0,none⟩=some (.int .i64 m)) :
  Calls Tryz.prog 188 #[.string s,.string sub] w fun e w'=>e=.returned (.int .i64 (Lib.index s.data.toList sub.data.toList))∧w'=w:=Any.strings_Index Tryz.lays143 s sub m w hs hm
def Tryz.lays144_ren:Go.Shelf.Ren:=⟨fun | 144=>126 | 143=>188 | 219=>254 | 217=>296 | 225=>297 | 224=>298 | 267=>299 | 266=>316 | 314=>317 | n=>n,fun | 9=>9 | 4=>4 | 3=>3 | 5=>5 | 46=>186 | 146=>346 | 51=>283 | n=>n,fun | 1=>2 | n=>n⟩
theorem Tryz.lays144:Go.Proofs.Lays.n144 Tryz.prog Tryz.lays144_ren:={
 mixed:=by kernel_rfl
 f143:=Tryz.func188.trans (congrArg some (by kernel_rfl))
 f144:=Tryz.func126.trans (congrArg some (by kernel_rfl))
 f217:=Tryz.func296.trans (congrArg some (by kernel_rfl))
 f219:=Tryz.func254.trans (congrArg some (by kernel_rfl))
 f224:=Tryz.func298.trans (congrArg some (by kernel_rfl))
 f225:=Tryz.func297.trans (congrArg some (by kernel_rfl))
 f266:=Tryz.func316.trans (congrArg some (by kernel_rfl))
 f267:=Tryz.func299.trans (congrArg some (by kernel_rfl))
 f314:=Tryz.func317.trans (congrArg some (by kernel_rfl))
 t3:=Tryz.underlying3
 a3:=Tryz.isAgg3
 z3:=Tryz.sizeOf3
 v3:=Tryz.zeroValue3
 t4:=Tryz.underlying4
 a4:=Tryz.isAgg4
 z4:=Tryz.sizeOf4
 v4:=Tryz.zeroValue4
 t5:=Tryz.underlying5
 a5:=Tryz.isAgg5
 z5:=Tryz.sizeOf5
 v5:=Tryz.zeroValue5
 t9:=Tryz.underlying9
 a9:=Tryz.isAgg9
 z9:=Tryz.sizeOf9
 v9:=Tryz.zeroValue9
 t46:=Tryz.underlying186
 a46:=Tryz.isAgg186
 z46:=Tryz.sizeOf186
 v46:=Tryz.zeroValue186
 t51:=Tryz.underlying283
 a51:=Tryz.isAgg283
 z51:=Tryz.sizeOf283
 v51:=Tryz.zeroValue283
 t146:=Tryz.underlying346
 a146:=Tryz.isAgg346
 z146:=Tryz.sizeOf346
 v146:=Tryz.zeroValue346
 g1:=by kernel_rfl }
open Go.RowKit Go.Lib in
theorem Tryz.strings_Contains_one (s:ByteArray) (c:UInt8) (w:World) :
  Calls Tryz.prog 126 #[.string s,.string ⟨#[c]⟩] w fun e w'=>e=.returned (.bool (decide (0≤Lib.indexByte s.data.toList c)))∧w'=w:=Any.strings_Contains_one Tryz.lays144 s c w
open Go.RowKit Go.Lib in
theorem Tryz.strings_Contains (s sub:ByteArray) (m:Int) (w:World) (hs:s.size < 4294967281) (hm:w.cell? ⟨2,0,none⟩=some (.int .i64 m)) :
  Calls Tryz.prog 126 #[.string s,.string sub] w fun e w'=>e=.returned (.bool (Lib.contains s.data.toList sub.data.toList))∧w'=w:=Any.strings_Contains Tryz.lays144 s sub m w hs hm
def Tryz.laysM219_ren:Go.Shelf.Ren:=⟨fun | 219=>254 | 217=>296 | 225=>297 | 224=>298 | 267=>299 | 266=>316 | 314=>317 | n=>n,fun | 9=>9 | 3=>3 | 4=>4 | 5=>5 | 46=>186 | 146=>346 | 51=>283 | n=>n,fun | 1=>2 | n=>n⟩
theorem Tryz.laysM219:Go.Proofs.LaysM.n219 Tryz.prog Tryz.laysM219_ren:={
 mixed:=by kernel_rfl
 f217:=Tryz.func296.trans (congrArg some (by kernel_rfl))
 f219:=Tryz.func254.trans (congrArg some (by kernel_rfl))
 f224:=Tryz.func298.trans (congrArg some (by kernel_rfl))
 f225:=Tryz.func297.trans (congrArg some (by kernel_rfl))
 f266:=Tryz.func316.trans (congrArg some (by kernel_rfl))
 f267:=Tryz.func299.trans (congrArg some (by kernel_rfl))
 f314:=Tryz.func317.trans (congrArg some (by kernel_rfl))
 t3:=Tryz.underlying3
 a3:=Tryz.isAgg3
 z3:=Tryz.sizeOf3
 v3:=Tryz.zeroValue3
 t4:=Tryz.underlying4
 a4:=Tryz.isAgg4
 z4:=Tryz.sizeOf4
 v4:=Tryz.zeroValue4
 t5:=Tryz.underlying5
 a5:=Tryz.isAgg5
 z5:=Tryz.sizeOf5
 v5:=Tryz.zeroValue5
 t9:=Tryz.underlying9
 a9:=Tryz.isAgg9
 z9:=Tryz.sizeOf9
 v9:=Tryz.zeroValue9
 t46:=Tryz.underlying186
 a46:=Tryz.isAgg186
 z46:=Tryz.sizeOf186
 v46:=Tryz.zeroValue186
 t51:=Tryz.underlying283
 a51:=Tryz.isAgg283
 z51:=Tryz.sizeOf283
 v51:=Tryz.zeroValue283
 t146:=Tryz.underlying346
 a146:=Tryz.isAgg346
 z146:=Tryz.sizeOf346
 v146:=Tryz.zeroValue346
 g1:=by kernel_rfl
 i3:=by kernel_rfl
 i4:=by kernel_rfl
 i5:=by kernel_rfl
 i9:=by kernel_rfl
 i46:=by kernel_rfl
 i51:=by kernel_rfl
 i146:=by kernel_rfl
 m1:=by kernel_rfl
 s1_3:=fun w h=>Go.Proofs.cell_of_shapedOpen_int (zero:=#[.int .i64 0]) (t:=3) h (of_decide_eq_true (by kernel_rfl)) (by kernel_rfl) rfl (by kernel_rfl) (by kernel_rfl) Tryz.underlying3 }
open Go.RowKit Go.Lib in
theorem Tryz.stringslite_Index_shaped (s sub:ByteArray) (w:World) (h:w.ShapedOpen Tryz.prog) (hs:s.size < 4294967281) :
  Calls Tryz.prog 254 #[.string s,.string sub] w fun e w'=>e=.returned (.int .i64 (Lib.index s.data.toList sub.data.toList))∧w'=w:=Any.stringslite_Index_shaped Tryz.laysM219 s sub w h hs
def Tryz.laysM143_ren:Go.Shelf.Ren:=⟨fun | 143=>188 | 219=>254 | 217=>296 | 225=>297 | 224=>298 | 267=>299 | 266=>316 | 314=>317 | n=>n,fun | 9=>9 | 3=>3 | 4=>4 | 5=>5 | 46=>186 | 146=>346 | 51=>283 | n=>n,fun | 1=>2 | n=>n⟩
theorem Tryz.laysM143:Go.Proofs.LaysM.n143 Tryz.prog Tryz.laysM143_ren:={
 mixed:=by kernel_rfl
 f143:=Tryz.func188.trans (congrArg some (by kernel_rfl))
 f217:=Tryz.func296.trans (congrArg some (by kernel_rfl))
 f219:=Tryz.func254.trans (congrArg some (by kernel_rfl))
 f224:=Tryz.func298.trans (congrArg some (by kernel_rfl))
 f225:=Tryz.func297.trans (congrArg some (by kernel_rfl))
 f266:=Tryz.func316.trans (congrArg some (by kernel_rfl))
 f267:=Tryz.func299.trans (congrArg some (by kernel_rfl))
 f314:=Tryz.func317.trans (congrArg some (by kernel_rfl))
 t3:=Tryz.underlying3
 a3:=Tryz.isAgg3
 z3:=Tryz.sizeOf3
 v3:=Tryz.zeroValue3
 t4:=Tryz.underlying4
 a4:=Tryz.isAgg4
 z4:=Tryz.sizeOf4
 v4:=Tryz.zeroValue4
 t5:=Tryz.underlying5
 a5:=Tryz.isAgg5
 z5:=Tryz.sizeOf5
 v5:=Tryz.zeroValue5
 t9:=Tryz.underlying9
 a9:=Tryz.isAgg9
 z9:=Tryz.sizeOf9
 v9:=Tryz.zeroValue9
 t46:=Tryz.underlying186
 a46:=Tryz.isAgg186
 z46:=Tryz.sizeOf186
 v46:=Tryz.zeroValue186
 t51:=Tryz.underlying283
 a51:=Tryz.isAgg283
 z51:=Tryz.sizeOf283
 v51:=Tryz.zeroValue283
 t146:=Tryz.underlying346
 a146:=Tryz.isAgg346
 z146:=Tryz.sizeOf346
 v146:=Tryz.zeroValue346
 g1:=by kernel_rfl
 i3:=by kernel_rfl
 i4:=by kernel_rfl
 i5:=by kernel_rfl
 i9:=by kernel_rfl
 i46:=by kernel_rfl
 i51:=by kernel_rfl
 i146:=by kernel_rfl
 m1:=by kernel_rfl
 s1_3:=fun w h=>Go.Proofs.cell_of_shapedOpen_int (zero:=#[.int .i64 0]) (t:=3) h (of_decide_eq_true (by kernel_rfl)) (by kernel_rfl) rfl (by kernel_rfl) (by kernel_rfl) Tryz.underlying3 }
open Go.RowKit Go.Lib in
theorem Tryz.strings_Index_shaped (s sub:ByteArray) (w:World) (h:w.ShapedOpen Tryz.prog) (hs:s.size < 4294967281) :
  Calls Tryz.prog 188 #[.string s,.string sub] w fun e w'=>e=.returned (.int .i64 (Lib.index s.data.toList sub.data.toList))∧w'=w:=Any.strings_Index_shaped Tryz.laysM143 s sub w h hs
def Tryz.laysM144_ren:Go.Shelf.Ren:=⟨fun | 144=>126 | 143=>188 | 219=>254 | 217=>296 | 225=>297 | 224=>298 | 267=>299 | 266=>316 | 314=>317 | n=>n,fun | 9=>9 | 4=>4 | 3=>3 | 5=>5 | 46=>186 | 146=>346 | 51=>283 | n=>n,fun | 1=>2 | n=>n⟩
theorem Tryz.laysM144:Go.Proofs.LaysM.n144 Tryz.prog Tryz.laysM144_ren:={
 mixed:=by kernel_rfl
 f143:=Tryz.func188.trans (congrArg some (by kernel_rfl))
 f144:=Tryz.func126.trans (congrArg some (by kernel_rfl))
 f217:=Tryz.func296.trans (congrArg some (by kernel_rfl))
 f219:=Tryz.func254.trans (congrArg some (by kernel_rfl))
 f224:=Tryz.func298.trans (congrArg some (by kernel_rfl))
 f225:=Tryz.func297.trans (congrArg some (by kernel_rfl))
 f266:=Tryz.func316.trans (congrArg some (by kernel_rfl))
 f267:=Tryz.func299.trans (congrArg some (by kernel_rfl))
 f314:=Tryz.func317.trans (congrArg some (by kernel_rfl))
 t3:=Tryz.underlying3
 a3:=Tryz.isAgg3
 z3:=Tryz.sizeOf3
 v3:=Tryz.zeroValue3
 t4:=Tryz.underlying4
 a4:=Tryz.isAgg4
 z4:=Tryz.sizeOf4
 v4:=Tryz.zeroValue4
 t5:=Tryz.underlying5
 a5:=Tryz.isAgg5
 z5:=Tryz.sizeOf5
 v5:=Tryz.zeroValue5
 t9:=Tryz.underlying9
 a9:=Tryz.isAgg9
 z9:=Tryz.sizeOf9
 v9:=Tryz.zeroValue9
 t46:=Tryz.underlying186
 a46:=Tryz.isAgg186
 z46:=Tryz.sizeOf186
 v46:=Tryz.zeroValue186
 t51:=Tryz.underlying283
 a51:=Tryz.isAgg283
 z51:=Tryz.sizeOf283
 v51:=Tryz.zeroValue283
 t146:=Tryz.underlying346
 a146:=Tryz.isAgg346
 z146:=Tryz.sizeOf346
 v146:=Tryz.zeroValue346
 g1:=by kernel_rfl
 i3:=by kernel_rfl
 i4:=by kernel_rfl
 i5:=by kernel_rfl
 i9:=by kernel_rfl
 i46:=by kernel_rfl
 i51:=by kernel_rfl
 i146:=by kernel_rfl
 m1:=by kernel_rfl
 s1_3:=fun w h=>Go.Proofs.cell_of_shapedOpen_int (zero:=#[.int .i64 0]) (t:=3) h (of_decide_eq_true (by kernel_rfl)) (by kernel_rfl) rfl (by kernel_rfl) (by kernel_rfl) Tryz.underlying3 }
open Go.RowKit Go.Lib in
theorem Tryz.strings_Contains_shaped (s sub:ByteArray) (w:World) (h:w.ShapedOpen Tryz.prog) (hs:s.size < 4294967281) :
  Calls Tryz.prog 126 #[.string s,.string sub] w fun e w'=>e=.returned (.bool (Lib.contains s.data.toList sub.data.toList))∧w'=w:=Any.strings_Contains_shaped Tryz.laysM144 s sub w h hs
def Tryz.lays189_ren:Go.Shelf.Ren:=⟨fun | 189=>90 | 125=>146 | 257=>145 | 128=>217 | 129=>218 | 294=>208 | 295=>209 | 296=>210 | 297=>211 | 298=>212 | 299=>213 | 216=>214 | 300=>215 | 301=>216 | 328=>274 | 329=>275 | 330=>276 | 331=>277 | 332=>278 | 215=>279 | 343=>313 | n=>n,fun | 28=>33 | 3=>3 | 46=>186 | 0=>0 | 51=>283 | 53=>120 | 4=>4 | 183=>277 | 182=>276 | 131=>196 | 5=>5 | 9=>9 | 218=>319 | 222=>323 | 228=>343 | 229=>344 | n=>n,fun | n=>n⟩
theorem Tryz.lays189:Go.Proofs.Lays.n189 Tryz.prog Tryz.lays189_ren:={
 mixed:=by kernel_rfl
 f125:=Tryz.func146.trans (congrArg some (by kernel_rfl))
 f128:=Tryz.func217.trans (congrArg some (by kernel_rfl))
 f129:=Tryz.func218.trans (congrArg some (by kernel_rfl))
 f189:=Tryz.func90.trans (congrArg some (by kernel_rfl))
 f215:=Tryz.func279.trans (congrArg some (by kernel_rfl))
 f216:=Tryz.func214.trans (congrArg some (by kernel_rfl))
 f257:=Tryz.func145.trans (congrArg some (by kernel_rfl))
 f294:=Tryz.func208.trans (congrArg some (by kernel_rfl))
 f295:=Tryz.func209.trans (congrArg some (by kernel_rfl))
 f296:=Tryz.func210.trans (congrArg some (by kernel_rfl))
 f297:=Tryz.func211.trans (congrArg some (by kernel_rfl))
 f298:=Tryz.func212.trans (congrArg some (by kernel_rfl))
 f299:=Tryz.func213.trans (congrArg some (by kernel_rfl))
 f300:=Tryz.func215.trans (congrArg some (by kernel_rfl))
 f301:=Tryz.func216.trans (congrArg some (by kernel_rfl))
 f328:=Tryz.func274.trans (congrArg some (by kernel_rfl))
 f329:=Tryz.func275.trans (congrArg some (by kernel_rfl))
 f330:=Tryz.func276.trans (congrArg some (by kernel_rfl))
 f331:=Tryz.func277.trans (congrArg some (by kernel_rfl))
 f332:=Tryz.func278.trans (congrArg some (by kernel_rfl))
 f343:=Tryz.func313.trans (congrArg some (by kernel_rfl))
 t0:=Tryz.underlying0
 a0:=Tryz.isAgg0
 z0:=Tryz.sizeOf0
 v0:=Tryz.zeroValue0
 t3:=Tryz.underlying3
 a3:=Tryz.isAgg3
 z3:=Tryz.sizeOf3
 v3:=Tryz.zeroValue3
 t4:=Tryz.underlying4
 a4:=Tryz.isAgg4
 z4:=Tryz.sizeOf4
 v4:=Tryz.zeroValue4
 t5:=Tryz.underlying5
 a5:=Tryz.isAgg5
 z5:=Tryz.sizeOf5
 v5:=Tryz.zeroValue5
 t9:=Tryz.underlying9
 a9:=Tryz.isAgg9
 z9:=Tryz.sizeOf9
 v9:=Tryz.zeroValue9
 t28:=Tryz.underlying33
 a28:=Tryz.isAgg33
 z28:=Tryz.sizeOf33
 v28:=Tryz.zeroValue33
 t46:=Tryz.underlying186
 a46:=Tryz.isAgg186
 z46:=Tryz.sizeOf186
 v46:=Tryz.zeroValue186
 t51:=Tryz.underlying283
 a51:=Tryz.isAgg283
 z51:=Tryz.sizeOf283
 v51:=Tryz.zeroValue283
 t53:=Tryz.underlying120
 a53:=Tryz.isAgg120
 z53:=Tryz.sizeOf120
 v53:=Tryz.zeroValue120
 t131:=Tryz.underlying196
 a131:=Tryz.isAgg196
 z131:=Tryz.sizeOf196
 v131:=Tryz.zeroValue196
 t182:=Tryz.underlying276
 a182:=Tryz.isAgg276
 z182:=Tryz.sizeOf276
 v182:=Tryz.zeroValue276
 t183:=Tryz.underlying277
 a183:=Tryz.isAgg277
 z183:=Tryz.sizeOf277
 v183:=Tryz.zeroValue277
 t218:=Tryz.underlying319
 a218:=Tryz.isAgg319
 z218:=Tryz.sizeOf319
 v218:=Tryz.zeroValue319
 t222:=Tryz.underlying323
 a222:=Tryz.isAgg323
 z222:=Tryz.sizeOf323
 v222:=Tryz.zeroValue323
 t228:=Tryz.underlying343
 a228:=Tryz.isAgg343
 z228:=Tryz.sizeOf343
 v228:=Tryz.zeroValue343
 t229:=Tryz.underlying344
 a229:=Tryz.isAgg344
 z229:=Tryz.sizeOf344
 v229:=Tryz.zeroValue344 }
open Go.Sort Go.RowKit in
theorem Tryz.slices_Sort_int (blk off cap:Nat) (zs:List Int) (w:World) (hH:Holds (Value.int .i64) w blk off zs.toArray) (hblk:blk < w.heap.size) (hsz:zs.length < 4611686018427387904) :
  Calls Tryz.prog 90 #[.slice (some ⟨blk,off,none⟩) zs.length cap] w fun e w' =>
   e=.returned (.tuple #[])∧∃ n os,w'=grow (putRow (Value.int .i64) (Sort.ahead w n) blk off (zs.mergeSort fun x y=>decide (x≤y)).toArray) os:=Any.slices_Sort_int Tryz.lays189 blk off cap zs w hH hblk hsz
def Tryz.lays157_ren:Go.Shelf.Ren:=⟨fun | 157=>189 | 229=>255 | 199=>256 | 261=>300 | 311=>318 | 312=>319 | n=>n,fun | 9=>9 | 31=>249 | 3=>3 | 5=>5 | 4=>4 | 119=>303 | 0=>0 | 40=>305 | 152=>331 | 21=>21 | 154=>333 | 51=>283 | 141=>335 | 196=>354 | 193=>351 | 198=>357 | 49=>355 | 194=>352 | 201=>360 | 226=>371 | 46=>186 | 227=>372 | n=>n,fun | 0=>1 | 6=>3 | n=>n⟩
theorem Tryz.lays157:Go.Proofs.Lays.n157 Tryz.prog Tryz.lays157_ren:={
 mixed:=by kernel_rfl
 f157:=Tryz.func189.trans (congrArg some (by kernel_rfl))
 f199:=Tryz.func256.trans (congrArg some (by kernel_rfl))
 f229:=Tryz.func255.trans (congrArg some (by kernel_rfl))
 f261:=Tryz.func300.trans (congrArg some (by kernel_rfl))
 f311:=Tryz.func318.trans (congrArg some (by kernel_rfl))
 f312:=Tryz.func319.trans (congrArg some (by kernel_rfl))
 t0:=Tryz.underlying0
 a0:=Tryz.isAgg0
 z0:=Tryz.sizeOf0
 v0:=Tryz.zeroValue0
 t3:=Tryz.underlying3
 a3:=Tryz.isAgg3
 z3:=Tryz.sizeOf3
 v3:=Tryz.zeroValue3
 t4:=Tryz.underlying4
 a4:=Tryz.isAgg4
 z4:=Tryz.sizeOf4
 v4:=Tryz.zeroValue4
 t5:=Tryz.underlying5
 a5:=Tryz.isAgg5
 z5:=Tryz.sizeOf5
 v5:=Tryz.zeroValue5
 t9:=Tryz.underlying9
 a9:=Tryz.isAgg9
 z9:=Tryz.sizeOf9
 v9:=Tryz.zeroValue9
 t21:=Tryz.underlying21
 a21:=Tryz.isAgg21
 z21:=Tryz.sizeOf21
 v21:=Tryz.zeroValue21
 t31:=Tryz.underlying249
 a31:=Tryz.isAgg249
 z31:=Tryz.sizeOf249
 v31:=Tryz.zeroValue249
 t40:=Tryz.underlying305
 a40:=Tryz.isAgg305
 z40:=Tryz.sizeOf305
 v40:=Tryz.zeroValue305
 t46:=Tryz.underlying186
 a46:=Tryz.isAgg186
 z46:=Tryz.sizeOf186
 v46:=Tryz.zeroValue186
 t49:=Tryz.underlying355
 a49:=Tryz.isAgg355
 z49:=Tryz.sizeOf355
 v49:=Tryz.zeroValue355
 t51:=Tryz.underlying283
 a51:=Tryz.isAgg283
 z51:=Tryz.sizeOf283
 v51:=Tryz.zeroValue283
 t119:=Tryz.underlying303
 a119:=Tryz.isAgg303
 z119:=Tryz.sizeOf303
 t141:=Tryz.underlying335
 a141:=Tryz.isAgg335
 z141:=Tryz.sizeOf335
 v141:=Tryz.zeroValue335
 t152:=Tryz.underlying331
 a152:=Tryz.isAgg331
 z152:=Tryz.sizeOf331
 v152:=Tryz.zeroValue331
 t154:=Tryz.underlying333
 a154:=Tryz.isAgg333
 z154:=Tryz.sizeOf333
 v154:=Tryz.zeroValue333
 t193:=Tryz.underlying351
 a193:=Tryz.isAgg351
 z193:=Tryz.sizeOf351
 v193:=Tryz.zeroValue351
 t194:=Tryz.underlying352
 a194:=Tryz.isAgg352
 z194:=Tryz.sizeOf352
 v194:=Tryz.zeroValue352
 t196:=Tryz.underlying354
 a196:=Tryz.isAgg354
 z196:=Tryz.sizeOf354
 v196:=Tryz.zeroValue354
 t198:=Tryz.underlying357
 a198:=Tryz.isAgg357
 z198:=Tryz.sizeOf357
 v198:=Tryz.zeroValue357
 t201:=Tryz.underlying360
 a201:=Tryz.isAgg360
 z201:=Tryz.sizeOf360
 v201:=Tryz.zeroValue360
 t226:=Tryz.underlying371
 a226:=Tryz.isAgg371
 z226:=Tryz.sizeOf371
 v226:=Tryz.zeroValue371
 t227:=Tryz.underlying372
 a227:=Tryz.isAgg372
 z227:=Tryz.sizeOf372
 v227:=Tryz.zeroValue372
 g0:=by kernel_rfl
 g6:=by kernel_rfl }
open Go.RowKit Go.Lib in
theorem Tryz.strings_Fields (s : ByteArray) (w : World) (hs : s.size < 4294967281) (hascii : ∀ (j : Nat) b, s.data.toList[j]? = some b → b.toNat < 128) (htab : Lib.TabIs Tryz.prog w "strings.asciiSpace" .u8 Lib.asciiSpaceTab) :
  Calls Tryz.prog 189 #[.string s] w fun e w' =>
   e=.returned (.slice (some ⟨w.heap.size,0,none⟩) (Lib.fields s.data.toList).length (Lib.fields s.data.toList).length)∧w'=w.alloc (.cells ((Lib.fields s.data.toList).map fun l=>Value.string ⟨l.toArray⟩).toArray 9):=Any.strings_Fields Tryz.lays157 (by kernel_rfl) (by kernel_rfl) s w hs hascii htab
def Tryz.lays199_ren:Go.Shelf.Ren:=⟨fun | 199=>256 | 261=>300 | 311=>318 | 312=>319 | n=>n,fun | 21=>21 | 4=>4 | 51=>283 | 141=>335 | 0=>0 | 196=>354 | 193=>351 | 3=>3 | 198=>357 | 49=>355 | 194=>352 | 201=>360 | 226=>371 | 46=>186 | 227=>372 | n=>n,fun | 6=>3 | n=>n⟩
theorem Tryz.lays199:Go.Proofs.Lays.n199 Tryz.prog Tryz.lays199_ren:={
 mixed:=by kernel_rfl
 f199:=Tryz.func256.trans (congrArg some (by kernel_rfl))
 f261:=Tryz.func300.trans (congrArg some (by kernel_rfl))
 f311:=Tryz.func318.trans (congrArg some (by kernel_rfl))
 f312:=Tryz.func319.trans (congrArg some (by kernel_rfl))
 t0:=Tryz.underlying0
 a0:=Tryz.isAgg0
 z0:=Tryz.sizeOf0
 v0:=Tryz.zeroValue0
 t3:=Tryz.underlying3
 a3:=Tryz.isAgg3
 z3:=Tryz.sizeOf3
 v3:=Tryz.zeroValue3
 t4:=Tryz.underlying4
 a4:=Tryz.isAgg4
 z4:=Tryz.sizeOf4
 v4:=Tryz.zeroValue4
 t21:=Tryz.underlying21
 a21:=Tryz.isAgg21
 z21:=Tryz.sizeOf21
 v21:=Tryz.zeroValue21
 t46:=Tryz.underlying186
 a46:=Tryz.isAgg186
 z46:=Tryz.sizeOf186
 v46:=Tryz.zeroValue186
 t49:=Tryz.underlying355
 a49:=Tryz.isAgg355
 z49:=Tryz.sizeOf355
 v49:=Tryz.zeroValue355
 t51:=Tryz.underlying283
 a51:=Tryz.isAgg283
 z51:=Tryz.sizeOf283
 v51:=Tryz.zeroValue283
 t141:=Tryz.underlying335
 a141:=Tryz.isAgg335
 z141:=Tryz.sizeOf335
 v141:=Tryz.zeroValue335
 t193:=Tryz.underlying351
 a193:=Tryz.isAgg351
 z193:=Tryz.sizeOf351
 v193:=Tryz.zeroValue351
 t194:=Tryz.underlying352
 a194:=Tryz.isAgg352
 z194:=Tryz.sizeOf352
 v194:=Tryz.zeroValue352
 t196:=Tryz.underlying354
 a196:=Tryz.isAgg354
 z196:=Tryz.sizeOf354
 v196:=Tryz.zeroValue354
 t198:=Tryz.underlying357
 a198:=Tryz.isAgg357
 z198:=Tryz.sizeOf357
 v198:=Tryz.zeroValue357
 t201:=Tryz.underlying360
 a201:=Tryz.isAgg360
 z201:=Tryz.sizeOf360
 v201:=Tryz.zeroValue360
 t226:=Tryz.underlying371
 a226:=Tryz.isAgg371
 z226:=Tryz.sizeOf371
 v226:=Tryz.zeroValue371
 t227:=Tryz.underlying372
 a227:=Tryz.isAgg372
 z227:=Tryz.sizeOf372
 v227:=Tryz.zeroValue372
 g6:=by kernel_rfl }
open Go.RowKit Go.Lib in
theorem Tryz.unicode_IsSpace (r:Int) (w:World) (h0:0≤r) (h:r≤255) :
  Calls Tryz.prog 256 #[.int .i32 r] w fun e w'=>e=.returned (.bool (Lib.isSpaceL r))∧w'=w:=Any.unicode_IsSpace Tryz.lays199 r w h0 h
def Tryz.lays264_ren:Go.Shelf.Ren:=⟨fun | 264=>315 | n=>n,fun | 53=>120 | 46=>186 | n=>n,fun | n=>n⟩
theorem Tryz.lays264:Go.Proofs.Lays.n264 Tryz.prog Tryz.lays264_ren:={
 mixed:=by kernel_rfl
 f264:=Tryz.func315.trans (congrArg some (by kernel_rfl))
 t46:=Tryz.underlying186
 a46:=Tryz.isAgg186
 z46:=Tryz.sizeOf186
 v46:=Tryz.zeroValue186
 t53:=Tryz.underlying120
 a53:=Tryz.isAgg120
 z53:=Tryz.sizeOf120
 v53:=Tryz.zeroValue120 }
open Go.RowKit Go.Lib in
theorem Tryz.bits_Mul64 (x y:Nat) (hx:x < 18446744073709551616) (hy:y < 18446744073709551616) (w:World) :
  Calls Tryz.prog 315 #[.int .u64 x,.int .u64 y] w fun e w'=>e=.returned (.tuple #[.int .u64 ((x * y / 18446744073709551616:Nat):Int),.int .u64 ((x * y % 18446744073709551616:Nat):Int)])∧w'=w:=Any.bits_Mul64 Tryz.lays264 x y hx hy w
def Tryz.lays212_ren:Go.Shelf.Ren:=⟨fun | 212=>280 | 263=>314 | 264=>315 | n=>n,fun | 46=>186 | 51=>283 | 146=>346 | 53=>120 | 148=>348 | n=>n,fun | n=>n⟩
theorem Tryz.lays212:Go.Proofs.Lays.n212 Tryz.prog Tryz.lays212_ren:={
 mixed:=by kernel_rfl
 f212:=Tryz.func280.trans (congrArg some (by kernel_rfl))
 f263:=Tryz.func314.trans (congrArg some (by kernel_rfl))
 f264:=Tryz.func315.trans (congrArg some (by kernel_rfl))
 t46:=Tryz.underlying186
 a46:=Tryz.isAgg186
 z46:=Tryz.sizeOf186
 v46:=Tryz.zeroValue186
 t51:=Tryz.underlying283
 a51:=Tryz.isAgg283
 z51:=Tryz.sizeOf283
 v51:=Tryz.zeroValue283
 t53:=Tryz.underlying120
 a53:=Tryz.isAgg120
 z53:=Tryz.sizeOf120
 v53:=Tryz.zeroValue120
 t146:=Tryz.underlying346
 a146:=Tryz.isAgg346
 z146:=Tryz.sizeOf346
 v146:=Tryz.zeroValue346
 t148:=Tryz.underlying348
 a148:=Tryz.isAgg348
 z148:=Tryz.sizeOf348
 v148:=Tryz.zeroValue348 }
open Go.RowKit Go.Lib in
theorem Tryz.bits_Mul (x y:Nat) (hx:x < 18446744073709551616) (hy:y < 18446744073709551616) (w:World) :
  Calls Tryz.prog 280 #[.int .u64 x,.int .u64 y] w fun e w'=>e=.returned (.tuple #[.int .u64 ((x * y / 18446744073709551616:Nat):Int),.int .u64 ((x * y % 18446744073709551616:Nat):Int)])∧w'=w:=Any.bits_Mul Tryz.lays212 x y hx hy w
def Tryz.lays311_ren:Go.Shelf.Ren:=⟨fun | 311=>318 | n=>n,fun | 193=>351 | 49=>355 | 4=>4 | 3=>3 | 0=>0 | 226=>371 | 198=>357 | 46=>186 | n=>n,fun | n=>n⟩
theorem Tryz.lays311:Go.Proofs.Lays.n311 Tryz.prog Tryz.lays311_ren:={
 mixed:=by kernel_rfl
 f311:=Tryz.func318.trans (congrArg some (by kernel_rfl))
 t0:=Tryz.underlying0
 a0:=Tryz.isAgg0
 z0:=Tryz.sizeOf0
 v0:=Tryz.zeroValue0
 t3:=Tryz.underlying3
 a3:=Tryz.isAgg3
 z3:=Tryz.sizeOf3
 v3:=Tryz.zeroValue3
 t4:=Tryz.underlying4
 a4:=Tryz.isAgg4
 z4:=Tryz.sizeOf4
 v4:=Tryz.zeroValue4
 t46:=Tryz.underlying186
 a46:=Tryz.isAgg186
 z46:=Tryz.sizeOf186
 v46:=Tryz.zeroValue186
 t49:=Tryz.underlying355
 a49:=Tryz.isAgg355
 z49:=Tryz.sizeOf355
 v49:=Tryz.zeroValue355
 t193:=Tryz.underlying351
 a193:=Tryz.isAgg351
 z193:=Tryz.sizeOf351
 v193:=Tryz.zeroValue351
 t198:=Tryz.underlying357
 a198:=Tryz.isAgg357
 z198:=Tryz.sizeOf357
 v198:=Tryz.zeroValue357
 t226:=Tryz.underlying371
 a226:=Tryz.isAgg371
 z226:=Tryz.sizeOf371
 v226:=Tryz.zeroValue371 }
open Go.RowKit Go.Lib in
theorem Tryz.unicode_is16_white (R oR:Nat) (z:Nat) (w:World) (hz:z < 65536) (hz0:255 < z) (c6:w.cell? ⟨R,oR + 6,none⟩=some (.int .u16 160)) (c7:w.cell? ⟨R,oR + 7,none⟩=some (.int .u16 5760)) (c8:w.cell? ⟨R,oR + 8,none⟩=some (.int .u16 5600)) (c9:w.cell? ⟨R,oR + 9,none⟩=some (.int .u16 8192)) (c10:w.cell? ⟨R,oR + 10,none⟩=some (.int .u16 8202)) (c11:w.cell? ⟨R,oR + 11,none⟩=some (.int .u16 1)) (c12:w.cell? ⟨R,oR + 12,none⟩=some (.int .u16 8232)) (c13:w.cell? ⟨R,oR + 13,none⟩=some (.int .u16 8233)) (c14:w.cell? ⟨R,oR + 14,none⟩=some (.int .u16 1)) (c15:w.cell? ⟨R,oR + 15,none⟩=some (.int .u16 8239)) (c16:w.cell? ⟨R,oR + 16,none⟩=some (.int .u16 8287)) (c17:w.cell? ⟨R,oR + 17,none⟩=some (.int .u16 48)) (c18:w.cell? ⟨R,oR + 18,none⟩=some (.int .u16 12288)) (c19:w.cell? ⟨R,oR + 19,none⟩=some (.int .u16 12288)) (c20:w.cell? ⟨R,oR + 20,none⟩=some (.int .u16 1)) :
  Calls Tryz.prog 318 #[.slice (some ⟨R,oR + 6,none⟩) 5 5,.int .u16 z] w fun e w'=>e=.returned (.bool (Lib.isSpaceR z))∧Below w.heap.size w w':=Any.unicode_is16_white Tryz.lays311 R oR z w hz hz0 c6 c7 c8 c9 c10 c11 c12 c13 c14 c15 c16 c17 c18 c19 c20
def Tryz.lays261_ren:Go.Shelf.Ren:=⟨fun | 261=>300 | 311=>318 | 312=>319 | n=>n,fun | 141=>335 | 21=>21 | 4=>4 | 0=>0 | 196=>354 | 193=>351 | 3=>3 | 51=>283 | 198=>357 | 49=>355 | 194=>352 | 201=>360 | 226=>371 | 46=>186 | 227=>372 | n=>n,fun | n=>n⟩
theorem Tryz.lays261:Go.Proofs.Lays.n261 Tryz.prog Tryz.lays261_ren:={
 mixed:=by kernel_rfl
 f261:=Tryz.func300.trans (congrArg some (by kernel_rfl))
 f311:=Tryz.func318.trans (congrArg some (by kernel_rfl))
 f312:=Tryz.func319.trans (congrArg some (by kernel_rfl))
 t0:=Tryz.underlying0
 a0:=Tryz.isAgg0
 z0:=Tryz.sizeOf0
 v0:=Tryz.zeroValue0
 t3:=Tryz.underlying3
 a3:=Tryz.isAgg3
 z3:=Tryz.sizeOf3
 v3:=Tryz.zeroValue3
 t4:=Tryz.underlying4
 a4:=Tryz.isAgg4
 z4:=Tryz.sizeOf4
 v4:=Tryz.zeroValue4
 t21:=Tryz.underlying21
 a21:=Tryz.isAgg21
 z21:=Tryz.sizeOf21
 v21:=Tryz.zeroValue21
 t46:=Tryz.underlying186
 a46:=Tryz.isAgg186
 z46:=Tryz.sizeOf186
 v46:=Tryz.zeroValue186
 t49:=Tryz.underlying355
 a49:=Tryz.isAgg355
 z49:=Tryz.sizeOf355
 v49:=Tryz.zeroValue355
 t51:=Tryz.underlying283
 a51:=Tryz.isAgg283
 z51:=Tryz.sizeOf283
 v51:=Tryz.zeroValue283
 t141:=Tryz.underlying335
 a141:=Tryz.isAgg335
 z141:=Tryz.sizeOf335
 v141:=Tryz.zeroValue335
 t193:=Tryz.underlying351
 a193:=Tryz.isAgg351
 z193:=Tryz.sizeOf351
 v193:=Tryz.zeroValue351
 t194:=Tryz.underlying352
 a194:=Tryz.isAgg352
 z194:=Tryz.sizeOf352
 v194:=Tryz.zeroValue352
 t196:=Tryz.underlying354
 a196:=Tryz.isAgg354
 z196:=Tryz.sizeOf354
 v196:=Tryz.zeroValue354
 t198:=Tryz.underlying357
 a198:=Tryz.isAgg357
 z198:=Tryz.sizeOf357
 v198:=Tryz.zeroValue357
 t201:=Tryz.underlying360
 a201:=Tryz.isAgg360
 z201:=Tryz.sizeOf360
 v201:=Tryz.zeroValue360
 t226:=Tryz.underlying371
 a226:=Tryz.isAgg371
 z226:=Tryz.sizeOf371
 v226:=Tryz.zeroValue371
 t227:=Tryz.underlying372
 a227:=Tryz.isAgg372
 z227:=Tryz.sizeOf372
 v227:=Tryz.zeroValue372 }
open Go.RowKit Go.Lib in
theorem Tryz.unicode_isExcludingLatin_white (T oT R oR:Nat) (r:Int) (w:World) (hlo:-2147483648≤r) (hhi:r≤2147483647) (hr:r < 0 ∨ 255 < r) (h2:w.cell? ⟨T,oT,none⟩=some (.slice (some ⟨R,oR,none⟩) 7 7)) (h3:w.cell? ⟨T,oT + 1,none⟩=some (.slice none 0 0)) (h4:w.cell? ⟨T,oT + 2,none⟩=some (.int .i64 2)) (h5:∀i,i < 21→w.cell? ⟨R,oR + i,none⟩=some (.int .u16 (whiteT.getD i 0))) :
  Calls Tryz.prog 300 #[.pointer (some ⟨T,oT,none⟩),.int .i32 r] w fun e w'=>e=.returned (.bool (Lib.isSpaceZ r))∧Below w.heap.size w w':=Any.unicode_isExcludingLatin_white Tryz.lays261 T oT R oR r w hlo hhi hr h2 h3 h4 h5
open Go.RowKit Go.Lib in
theorem Tryz.unicode_IsSpace_any (r:Int) (w:World) (hlo:-2147483648≤r) (hhi:r≤2147483647) (hW:Lib.WhiteTab 3 w) :
  Calls Tryz.prog 256 #[.int .i32 r] w fun e w'=>e=.returned (.bool (Lib.isSpaceZ r))∧Below w.heap.size w w':=Any.unicode_IsSpace_any Tryz.lays199 r w hlo hhi hW
open Go.RowKit Go.Lib in
theorem Tryz.unicode_is16_any (T:Array Rg) (R oR cap:Nat) (z:Nat) (w:World) (hz:z < 65536) (hT:RgTab .u16 R oR T w) (hok:RgOk 65536 T) (hn:T.size≤1000000000) :
  Calls Tryz.prog 318 #[.slice (some ⟨R,oR,none⟩) T.size cap,.int .u16 z] w fun e w'=>e=.returned (.bool (is16Go T z))∧∃ q,w'=w.drewN q:=Any.unicode_is16_any Tryz.lays311 T R oR cap z w hz hT hok hn
def Tryz.lays312_ren:Go.Shelf.Ren:=⟨fun | 312=>319 | n=>n,fun | 194=>352 | 51=>283 | 4=>4 | 3=>3 | 0=>0 | 227=>372 | 201=>360 | 46=>186 | n=>n,fun | n=>n⟩
theorem Tryz.lays312:Go.Proofs.Lays.n312 Tryz.prog Tryz.lays312_ren:={
 mixed:=by kernel_rfl
 f312:=Tryz.func319.trans (congrArg some (by kernel_rfl))
 t0:=Tryz.underlying0
 a0:=Tryz.isAgg0
 z0:=Tryz.sizeOf0
 v0:=Tryz.zeroValue0
 t3:=Tryz.underlying3
 a3:=Tryz.isAgg3
 z3:=Tryz.sizeOf3
 v3:=Tryz.zeroValue3
 t4:=Tryz.underlying4
 a4:=Tryz.isAgg4
 z4:=Tryz.sizeOf4
 v4:=Tryz.zeroValue4
 t46:=Tryz.underlying186
 a46:=Tryz.isAgg186
 z46:=Tryz.sizeOf186
 v46:=Tryz.zeroValue186
 t51:=Tryz.underlying283
 a51:=Tryz.isAgg283
 z51:=Tryz.sizeOf283
 v51:=Tryz.zeroValue283
 t194:=Tryz.underlying352
 a194:=Tryz.isAgg352
 z194:=Tryz.sizeOf352
 v194:=Tryz.zeroValue352
 t201:=Tryz.underlying360
 a201:=Tryz.isAgg360
 z201:=Tryz.sizeOf360
 v201:=Tryz.zeroValue360
 t227:=Tryz.underlying372
 a227:=Tryz.isAgg372
 z227:=Tryz.sizeOf372
 v227:=Tryz.zeroValue372 }
open Go.RowKit Go.Lib in
theorem Tryz.unicode_is32_any (T:Array Rg) (R oR cap:Nat) (z:Nat) (w:World) (hz:z < 4294967296) (hT:RgTab .u32 R oR T w) (hok:RgOk 4294967296 T) (hn:T.size≤1000000000) :
  Calls Tryz.prog 319 #[.slice (some ⟨R,oR,none⟩) T.size cap,.int .u32 z] w fun e w'=>e=.returned (.bool (is32Go T z))∧Below w.heap.size w w':=Any.unicode_is32_any Tryz.lays312 T R oR cap z w hz hT hok hn
open Go.RowKit Go.Lib in
theorem Tryz.unicode_isExcludingLatin_any (Tb oT:Nat) (T:RTab) (r:Int) (w:World) (hlo:-2147483648≤r) (hhi:r≤2147483647) (hA:RTabAt Tb oT T w) (hok:RTabOk T) :
  Calls Tryz.prog 300 #[.pointer (some ⟨Tb,oT,none⟩),.int .i32 r] w fun e w'=>e=.returned (.bool (exclGo T r))∧Below w.heap.size w w':=Any.unicode_isExcludingLatin_any Tryz.lays261 Tb oT T r w hlo hhi hA hok
def Tryz.lays112_ren:Go.Shelf.Ren:=⟨fun | 112=>262 | n=>n,fun | 28=>33 | 3=>3 | 4=>4 | 0=>0 | n=>n,fun | n=>n⟩
theorem Tryz.lays112:Go.Proofs.Lays.n112 Tryz.prog Tryz.lays112_ren:={
 mixed:=by kernel_rfl
 f112:=Tryz.func262.trans (congrArg some (by kernel_rfl))
 t0:=Tryz.underlying0
 a0:=Tryz.isAgg0
 z0:=Tryz.sizeOf0
 v0:=Tryz.zeroValue0
 t3:=Tryz.underlying3
 a3:=Tryz.isAgg3
 z3:=Tryz.sizeOf3
 v3:=Tryz.zeroValue3
 t4:=Tryz.underlying4
 a4:=Tryz.isAgg4
 z4:=Tryz.sizeOf4
 v4:=Tryz.zeroValue4
 t28:=Tryz.underlying33
 a28:=Tryz.isAgg33
 z28:=Tryz.sizeOf33
 v28:=Tryz.zeroValue33 }
open Go.RowKit Go.Lib Go.Sort in
theorem Tryz.slices_Reverse_int_arr (blk off cap:Nat) (d:Array Int) (w:World) (hH:Holds encI w blk off d) (hsz:d.size≤9223372036854775807) :
  Calls Tryz.prog 262 #[.slice (some ⟨blk,off,none⟩) d.size cap] w fun e w'=>e=.returned (.tuple #[])∧∃ n,w'=putRow encI (Sort.ahead w n) blk off d.reverse:=Any.slices_Reverse_int_arr Tryz.lays112 blk off cap d w hH hsz
open Go.RowKit Go.Lib Go.Sort in
theorem Tryz.slices_Reverse_int (blk off cap:Nat) (zs:List Int) (w:World) (hH:Holds (Value.int .i64) w blk off zs.toArray) (hsz:zs.length≤9223372036854775807) :
  Calls Tryz.prog 262 #[.slice (some ⟨blk,off,none⟩) zs.length cap] w fun e w'=>e=.returned (.tuple #[])∧∃ n,w'=putRow (Value.int .i64) (Sort.ahead w n) blk off zs.reverse.toArray:=Any.slices_Reverse_int Tryz.lays112 blk off cap zs w hH hsz
open Go.RowKit Go.Lib Go.Sort in
theorem Tryz.slices_Reverse_int_empty (a:Option Addr) (cap:Nat) (w:World) :
  Calls Tryz.prog 262 #[.slice a 0 cap] w fun e w'=>e=.returned (.tuple #[])∧w'=w:=Any.slices_Reverse_int_empty Tryz.lays112 a cap w
end Go.Proofs
