/- A part of the proof: TryzShelf. -/
import Derived.Shelf.Small.Bits
import Derived.Shelf.Strings.Search1
import Derived.Shelf.Strings.Search2
import Derived.Shelf.Strings.Search3
import Derived.Shelf.Sort.Plain
import Derived.Shelf.Strings.Fields
import Derived.Shelf.Bits.Mul64
import Derived.Shelf.Spec.TrailingZeros
import Derived.Shelf.Spec.SlicesGrow
import Derived.Test.YtbhkamemheaajaaGreatDoorProg
import Derived.Test.YtbhkamemheaajaaGreatDoorQ11
set_option linter.unusedVariables false
set_option linter.unusedSimpArgs false
set_option linter.constructorNameAsVariable false
namespace Go.Proofs
open Go.Shelf
def Tryz.lays125_ren:Go.Shelf.Ren:=⟨fun | 125=>103 | 128=>154 | 129=>155 | n=>n,fun | 46=>176 | 3=>3 | 51=>232 | 53=>98 | 4=>4 | 5=>5 | 9=>9 | n=>n,fun | n=>n⟩
theorem Tryz.lays125:Go.Proofs.Lays.n125 Tryz.prog Tryz.lays125_ren:={
 mixed:=by kernel_rfl
 f125:=Tryz.func103.trans (congrArg some (by kernel_rfl))
 f128:=Tryz.func154.trans (congrArg some (by kernel_rfl))
 f129:=Tryz.func155.trans (congrArg some (by kernel_rfl))
 t3:=Tryz.underlying3
 a3:=Tryz.isAgg3
 z3:=Tryz.sizeOf3
 v3:=Tryz.zeroValue3
 t4:=Tryz.underlying4
 a4:=Tryz.isAgg4
 z4:=Tryz.sizeOf4
 v4:=Tryz.zeroValue4
 t5:=Tryz.underlying5
 a5:=Tryz.isAgg5
 z5:=Tryz.sizeOf5
 v5:=Tryz.zeroValue5
 t9:=Tryz.underlying9
 a9:=Tryz.isAgg9
 z9:=Tryz.sizeOf9
 v9:=Tryz.zeroValue9
 t46:=Tryz.underlying176
 a46:=Tryz.isAgg176
 z46:=Tryz.sizeOf176
 v46:=Tryz.zeroValue176
 t51:=Tryz.underlying232
 a51:=Tryz.isAgg232
 z51:=Tryz.sizeOf232
 v51:=Tryz.zeroValue232
 t53:=Tryz.underlying98
 a53:=Tryz.isAgg98
 z53:=Tryz.sizeOf98
 v53:=Tryz.zeroValue98 }
theorem Tryz.bits_Len (x:Int) (w:World) (h0:0≤x) (h1:x≤18446744073709551615) :
  Calls Tryz.prog 103 #[.int .u64 x] w fun e w'=>e=.returned (.int .i64 (Lib.bitLen x.toNat))∧w'=w:=Any.bits_Len Tryz.lays125 x w h0 h1
def Tryz.lays144_ren:Go.Shelf.Ren:=⟨fun | 144=>97 | 143=>142 | 219=>199 | 217=>245 | 225=>246 | 224=>247 | 267=>248 | 266=>265 | 314=>266 | n=>n,fun | 9=>9 | 4=>4 | 3=>3 | 5=>5 | 46=>176 | 146=>318 | 51=>232 | n=>n,fun | 1=>3 | n=>n⟩
theorem Tryz.lays144:Go.Proofs.Lays.n144 Tryz.prog Tryz.lays144_ren:={
 mixed:=by kernel_rfl
 f143:=Tryz.func142.trans (congrArg some (by kernel_rfl))
 f144:=Tryz.func97.trans (congrArg some (by kernel_rfl))
 f217:=Tryz.func245.trans (congrArg some (by kernel_rfl))
 f219:=Tryz.func199.trans (congrArg some (by kernel_rfl))
 f224:=Tryz.func247.trans (congrArg some (by kernel_rfl))
 f225:=Tryz.func246.trans (congrArg some (by kernel_rfl))
 f266:=Tryz.func265.trans (congrArg some (by kernel_rfl))
 f267:=Tryz.func248.trans (congrArg some (by kernel_rfl))
 f314:=Tryz.func266.trans (congrArg some (by kernel_rfl))
 t3:=Tryz.underlying3
 a3:=Tryz.isAgg3
 z3:=Tryz.sizeOf3
 v3:=Tryz.zeroValue3
 t4:=Tryz.underlying4
 a4:=Tryz.isAgg4
 z4:=Tryz.sizeOf4
 v4:=Tryz.zeroValue4
 t5:=Tryz.underlying5
 a5:=Tryz.isAgg5
 z5:=Tryz.sizeOf5
 v5:=Tryz.zeroValue5
 t9:=Tryz.underlying9
 a9:=Tryz.isAgg9
 z9:=Tryz.sizeOf9
 v9:=Tryz.zeroValue9
 t46:=Tryz.underlying176
 a46:=Tryz.isAgg176
 z46:=Tryz.sizeOf176
 v46:=Tryz.zeroValue176
 t51:=Tryz.underlying232
 a51:=Tryz.isAgg232
 z51:=Tryz.sizeOf232
 v51:=Tryz.zeroValue232
 t146:=Tryz.underlying318
 a146:=Tryz.isAgg318
 z146:=Tryz.sizeOf318
 v146:=Tryz.zeroValue318
 g1:=by kernel_rfl }
open Go.RowKit Go.Lib in
theorem Tryz.strings_Contains_one (s:ByteArray) (c:UInt8) (w:World) :
  Calls Tryz.prog 97 #[.string s,.string ⟨#[c]⟩] w fun e w'=>e=.returned (.bool (decide (0≤Lib.indexByte s.data.toList c)))∧w'=w:=Any.strings_Contains_one Tryz.lays144 s c w
def Tryz.lays189_ren:Go.Shelf.Ren:=⟨fun | 189=>59 | 125=>103 | 257=>102 | 128=>154 | 129=>155 | 294=>145 | 295=>146 | 296=>147 | 297=>148 | 298=>149 | 299=>150 | 216=>151 | 300=>152 | 301=>153 | 328=>202 | 329=>203 | 330=>204 | 331=>205 | 332=>206 | 215=>207 | 343=>250 | n=>n,fun | 28=>33 | 3=>3 | 46=>176 | 0=>0 | 51=>232 | 53=>98 | 4=>4 | 183=>225 | 182=>224 | 131=>196 | 5=>5 | 9=>9 | 218=>273 | 222=>277 | 228=>303 | 229=>304 | n=>n,fun | n=>n⟩
theorem Tryz.lays189:Go.Proofs.Lays.n189 Tryz.prog Tryz.lays189_ren:={
 mixed:=by kernel_rfl
 f125:=Tryz.func103.trans (congrArg some (by kernel_rfl))
 f128:=Tryz.func154.trans (congrArg some (by kernel_rfl))
 f129:=Tryz.func155.trans (congrArg some (by kernel_rfl))
 f189:=Tryz.func59.trans (congrArg some (by kernel_rfl))
 f215:=Tryz.func207.trans (congrArg some (by kernel_rfl))
 f216:=Tryz.func151.trans (congrArg some (by kernel_rfl))
 f257:=Tryz.func102.trans (congrArg some (by kernel_rfl))
 f294:=Tryz.func145.trans (congrArg some (by kernel_rfl))
 f295:=Tryz.func146.trans (congrArg some (by kernel_rfl))
 f296:=Tryz.func147.trans (congrArg some (by kernel_rfl))
 f297:=Tryz.func148.trans (congrArg some (by kernel_rfl))
 f298:=Tryz.func149.trans (congrArg some (by kernel_rfl))
 f299:=Tryz.func150.trans (congrArg some (by kernel_rfl))
 f300:=Tryz.func152.trans (congrArg some (by kernel_rfl))
 f301:=Tryz.func153.trans (congrArg some (by kernel_rfl))
 f328:=Tryz.func202.trans (congrArg some (by kernel_rfl))
 f329:=Tryz.func203.trans (congrArg some (by kernel_rfl))
 f330:=Tryz.func204.trans (congrArg some (by kernel_rfl))
 f331:=Tryz.func205.trans (congrArg some (by kernel_rfl))
 f332:=Tryz.func206.trans (congrArg some (by kernel_rfl))
 f343:=Tryz.func250.trans (congrArg some (by kernel_rfl))
 t0:=Tryz.underlying0
 a0:=Tryz.isAgg0
 z0:=Tryz.sizeOf0
 v0:=Tryz.zeroValue0
 t3:=Tryz.underlying3
 a3:=Tryz.isAgg3
 z3:=Tryz.sizeOf3
 v3:=Tryz.zeroValue3
 t4:=Tryz.underlying4
 a4:=Tryz.isAgg4
 z4:=Tryz.sizeOf4
 v4:=Tryz.zeroValue4
 t5:=Tryz.underlying5
 a5:=Tryz.isAgg5
 z5:=Tryz.sizeOf5
 v5:=Tryz.zeroValue5
 t9:=Tryz.underlying9
 a9:=Tryz.isAgg9
 z9:=Tryz.sizeOf9
 v9:=Tryz.zeroValue9
 t28:=Tryz.underlying33
 a28:=Tryz.isAgg33
 z28:=Tryz.sizeOf33
 v28:=Tryz.zeroValue33
 t46:=Tryz.underlying176
 a46:=Tryz.isAgg176
 z46:=Tryz.sizeOf176
 v46:=Tryz.zeroValue176
 t51:=Tryz.underlying232
 a51:=Tryz.isAgg232
 z51:=Tryz.sizeOf232
 v51:=Tryz.zeroValue232
 t53:=Tryz.underlying98
 a53:=Tryz.isAgg98
 z53:=Tryz.sizeOf98
 v53:=Tryz.zeroValue98
 t131:=Tryz.underlying196
 a131:=Tryz.isAgg196
 z131:=Tryz.sizeOf196
 v131:=Tryz.zeroValue196
 t182:=Tryz.underlying224
 a182:=Tryz.isAgg224
 z182:=Tryz.sizeOf224
 v182:=Tryz.zeroValue224
 t183:=Tryz.underlying225
 a183:=Tryz.isAgg225
 z183:=Tryz.sizeOf225
 v183:=Tryz.zeroValue225
 t218:=Tryz.underlying273
 a218:=Tryz.isAgg273
 z218:=Tryz.sizeOf273
 v218:=Tryz.zeroValue273
 t222:=Tryz.underlying277
 a222:=Tryz.isAgg277
 z222:=Tryz.sizeOf277
 v222:=Tryz.zeroValue277
 t228:=Tryz.underlying303
 a228:=Tryz.isAgg303
 z228:=Tryz.sizeOf303
 v228:=Tryz.zeroValue303
 t229:=Tryz.underlying304
 a229:=Tryz.isAgg304
 z229:=Tryz.sizeOf304
 v229:=Tryz.zeroValue304 }
open Go.Sort Go.RowKit in
theorem Tryz.slices_Sort_int (blk off cap:Nat) (zs:List Int) (w:World) (hH:Holds (Value.int .i64) w blk off zs.toArray) (hblk:blk < w.heap.size) (hsz:zs.length < 4611686018427387904) :
  Calls Tryz.prog 59 #[.slice (some ⟨blk,off,none⟩) zs.length cap] w fun e w' =>
   e=.returned (.tuple #[])∧∃ n os,w'=grow (putRow (Value.int .i64) (Sort.ahead w n) blk off (zs.mergeSort fun x y=>decide (x≤y)).toArray) os:=Any.slices_Sort_int Tryz.lays189 blk off cap zs w hH hblk hsz
def Tryz.lays157_ren:Go.Shelf.Ren:=⟨fun | 157=>143 | 229=>200 | 199=>201 | 261=>249 | 311=>267 | 312=>268 | n=>n,fun | 9=>9 | 31=>221 | 3=>3 | 5=>5 | 4=>4 | 119=>270 | 0=>0 | 40=>272 | 152=>298 | 21=>21 | 154=>300 | 51=>232 | 141=>302 | 196=>323 | 193=>320 | 198=>326 | 49=>324 | 194=>321 | 201=>329 | 226=>343 | 46=>176 | 227=>344 | n=>n,fun | 0=>2 | 6=>4 | n=>n⟩
theorem Tryz.lays157:Go.Proofs.Lays.n157 Tryz.prog Tryz.lays157_ren:={
 mixed:=by kernel_rfl
 f157:=Tryz.func143.trans (congrArg some (by kernel_rfl))
 f199:=Tryz.func201.trans (congrArg some (by kernel_rfl))
 f229:=Tryz.func200.trans (congrArg some (by kernel_rfl))
 f261:=Tryz.func249.trans (congrArg some (by kernel_rfl))
 f311:=Tryz.func267.trans (congrArg some (by kernel_rfl))
 f312:=Tryz.func268.trans (congrArg some (by kernel_rfl))
 t0:=Tryz.underlying0
 a0:=Tryz.isAgg0
 z0:=Tryz.sizeOf0
 v0:=Tryz.zeroValue0
 t3:=Tryz.underlying3
 a3:=Tryz.isAgg3
 z3:=Tryz.sizeOf3
 v3:=Tryz.zeroValue3
 t4:=Tryz.underlying4
 a4:=Tryz.isAgg4
 z4:=Tryz.sizeOf4
 v4:=Tryz.zeroValue4
 t5:=Tryz.underlying5
 a5:=Tryz.isAgg5
 z5:=Tryz.sizeOf5
 v5:=Tryz.zeroValue5
 t9:=Tryz.underlying9
 a9:=Tryz.isAgg9
 z9:=Tryz.sizeOf9
 v9:=Tryz.zeroValue9
 t21:=Tryz.underlying21
 a21:=Tryz.isAgg21
 z21:=Tryz.sizeOf21
 v21:=Tryz.zeroValue21
 t31:=Tryz.underlying221
 a31:=Tryz.isAgg221
 z31:=Tryz.sizeOf221
 v31:=Tryz.zeroValue221
 t40:=Tryz.underlying272
 a40:=Tryz.isAgg272
 z40:=Tryz.sizeOf272
 v40:=Tryz.zeroValue272
 t46:=Tryz.underlying176
 a46:=Tryz.isAgg176
 z46:=Tryz.sizeOf176
 v46:=Tryz.zeroValue176
 t49:=Tryz.underlying324
 a49:=Tryz.isAgg324
 z49:=Tryz.sizeOf324
 v49:=Tryz.zeroValue324
 t51:=Tryz.underlying232
 a51:=Tryz.isAgg232
 z51:=Tryz.sizeOf232
 v51:=Tryz.zeroValue232
 t119:=Tryz.underlying270
 a119:=Tryz.isAgg270
 z119:=Tryz.sizeOf270
 t141:=Tryz.underlying302
 a141:=Tryz.isAgg302
 z141:=Tryz.sizeOf302
 v141:=Tryz.zeroValue302
 t152:=Tryz.underlying298
 a152:=Tryz.isAgg298
 z152:=Tryz.sizeOf298
 v152:=Tryz.zeroValue298
 t154:=Tryz.underlying300
 a154:=Tryz.isAgg300
 z154:=Tryz.sizeOf300
 v154:=Tryz.zeroValue300
 t193:=Tryz.underlying320
 a193:=Tryz.isAgg320
 z193:=Tryz.sizeOf320
 v193:=Tryz.zeroValue320
 t194:=Tryz.underlying321
 a194:=Tryz.isAgg321
 z194:=Tryz.sizeOf321
 v194:=Tryz.zeroValue321
 t196:=Tryz.underlying323
 a196:=Tryz.isAgg323
 z196:=Tryz.sizeOf323
 v196:=Tryz.zeroValue323
 t198:=Tryz.underlying326
 a198:=Tryz.isAgg326
 z198:=Tryz.sizeOf326
 v198:=Tryz.zeroValue326
 t201:=Tryz.underlying329
 a201:=Tryz.isAgg329
 z201:=Tryz.sizeOf329
 v201:=Tryz.zeroValue329
 t226:=Tryz.underlying343
 a226:=Tryz.isAgg343
 z226:=Tryz.sizeOf343
 v226:=Tryz.zeroValue343
 t227:=Tryz.underlying344
 a227:=Tryz.isAgg344
 z227:=Tryz.sizeOf344
 v227:=Tryz.zeroValue344
 g0:=by kernel_rfl
 g6:=by kernel_rfl }
open Go.RowKit Go.Lib in
theorem Tryz.strings_Fields (s : ByteArray) (w : World) (hs : s.size < 4294967281) (hascii : ∀ (j : Nat) b, s.data.toList[j]? = some b → b.toNat < 128) (htab : Lib.TabIs Tryz.prog w "strings.asciiSpace" .u8 Lib.asciiSpaceTab) :
  Calls Tryz.prog 143 #[.string s] w fun e w' =>
   e=.returned (.slice (some ⟨w.heap.size,0,none⟩) (Lib.fields s.data.toList).length (Lib.fields s.data.toList).length)∧w'=w.alloc (.cells ((Lib.fields s.data.toList).map fun l=>Value.string ⟨l.toArray⟩).toArray 9):=Any.strings_Fields Tryz.lays157 (by kernel_rfl) (by kernel_rfl) s w hs hascii htab
def Tryz.lays212_ren:Go.Shelf.Ren:=⟨fun | 212=>255 | 263=>269 | 264=>270 | n=>n,fun | 46=>176 | 51=>232 | 146=>318 | 53=>98 | 148=>332 | n=>n,fun | n=>n⟩
theorem Tryz.lays212:Go.Proofs.Lays.n212 Tryz.prog Tryz.lays212_ren:={
 mixed:=by kernel_rfl
 f212:=Tryz.func255.trans (congrArg some (by kernel_rfl))
 f263:=Tryz.func269.trans (congrArg some (by kernel_rfl))
 f264:=Tryz.func270.trans (congrArg some (by kernel_rfl))
 t46:=Tryz.underlying176
 a46:=Tryz.isAgg176
 z46:=Tryz.sizeOf176
 v46:=Tryz.zeroValue176
 t51:=Tryz.underlying232
 a51:=Tryz.isAgg232
 z51:=Tryz.sizeOf232
 v51:=Tryz.zeroValue232
 t53:=Tryz.underlying98
 a53:=Tryz.isAgg98
 z53:=Tryz.sizeOf98
 v53:=Tryz.zeroValue98
 t146:=Tryz.underlying318
 a146:=Tryz.isAgg318
 z146:=Tryz.sizeOf318
 v146:=Tryz.zeroValue318
 t148:=Tryz.underlying332
 a148:=Tryz.isAgg332
 z148:=Tryz.sizeOf332
 v148:=Tryz.zeroValue332 }
open Go.RowKit Go.Lib in
theorem Tryz.bits_Mul (x y:Nat) (hx:x < 18446744073709551616) (hy:y < 18446744073709551616) (w:World) :
  Calls Tryz.prog 255 #[.int .u64 x,.int .u64 y] w fun e w'=>e=.returned (.tuple #[.int .u64 ((x * y / 18446744073709551616:Nat):Int),.int .u64 ((x * y % 18446744073709551616:Nat):Int)])∧w'=w:=Any.bits_Mul Tryz.lays212 x y hx hy w
def Tryz.lays8_4_ren:Go.Shelf.Ren:=⟨fun | 4=>225 | n=>n,fun | 0=>0 | 3=>3 | 4=>4 | 9=>9 | 20=>20 | 22=>33 | 25=>3 | n=>n,fun | n=>n⟩
theorem Tryz.lays8_4:Go.Proofs.Lays8.n4 Tryz.prog Tryz.lays8_4_ren:={
 mixed:=by kernel_rfl
 f4 := ⟨"slices.Grow[[]int,int]", rfl, Tryz.func225.trans (congrArg some (by kernel_rfl))⟩
 t0:=Tryz.underlying0
 a0:=Tryz.isAgg0
 z0:=Tryz.sizeOf0
 v0:=Tryz.zeroValue0
 t3:=Tryz.underlying3
 a3:=Tryz.isAgg3
 z3:=Tryz.sizeOf3
 v3:=Tryz.zeroValue3
 t4:=Tryz.underlying4
 a4:=Tryz.isAgg4
 z4:=Tryz.sizeOf4
 v4:=Tryz.zeroValue4
 t9:=Tryz.underlying9
 a9:=Tryz.isAgg9
 z9:=Tryz.sizeOf9
 v9:=Tryz.zeroValue9
 t20:=Tryz.underlying20
 a20:=Tryz.isAgg20
 z20:=Tryz.sizeOf20
 v20:=Tryz.zeroValue20
 t22:=Tryz.underlying33
 a22:=Tryz.isAgg33
 z22:=Tryz.sizeOf33
 v22:=Tryz.zeroValue33 }
end Go.Proofs
