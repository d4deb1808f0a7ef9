/- A part of the proof: TopShelf, Top0, Cmd1, Op2, SAlive, SFull, Full7. -/
import Derived.Shelf.Small.Strs
import Derived.Shelf.Small.Wraps
import Derived.Shelf.Strconv.Itoa0
import Derived.Shelf.Strconv.Itoa1
import Derived.Shelf.LaysM
import Derived.Shelf.Strconv.Itoa2
import Derived.Shelf.Strings.Fields
import Derived.Shelf.Slices.Turned
import Derived.Shelf.Slices.Equal
import Derived.Shelf.Bytes.SlIndexSmall
import Derived.Shelf.Bytes.SlIndexAt
import Derived.Shelf.Bytes.SlIndexWhole
import Derived.Shelf.Bytes.SlSmallAll
import Derived.Shelf.Bytes.IndexByte
import Derived.Test.YtliimglbbiebiaaGreatDoorProg
import Derived.Test.YtliimglbbiebiaaGreatDoorGTopPairsAU
import Derived.Lib.ItoaMem
import Derived.Lib.ItoaWalk
import Derived.Lib.LaidTab
import Derived.Lib.LaidU8
import Derived.Lib.BufferRead
import Derived.Lib.MinMax
import Derived.Test.YtliimglbbiebiaaGreatDoorGTopPairsAJ
import Derived.Lib.SlBytesConst
import Derived.Test.YtliimglbbiebiaaGreatDoorGTopPairsAS
set_option maxRecDepth 100000
set_option maxHeartbeats 6400000
section
namespace Go.Proofs.YtliimglbbiebiaaGreatDoor
open Go.Shelf Go.Proofs
def Tryz.lays137_ren:Go.Shelf.Ren:=⟨fun | 137=>444 | 217=>459 | 266=>464 | n=>n,fun | 9=>9 | 5=>5 | 3=>3 | n=>n,fun | n=>n⟩
theorem Tryz.lays137:Go.Proofs.Lays.n137 Tryz.prog Tryz.lays137_ren:={
 mixed:=by kernel_rfl
 f137:=Tryz.func444.trans (congrArg some (by kernel_rfl))
 f217:=Tryz.func459.trans (congrArg some (by kernel_rfl))
 f266:=Tryz.func464.trans (congrArg some (by kernel_rfl))
 t3:=Tryz.underlying3
 a3:=Tryz.isAgg3
 z3:=Tryz.sizeOf3
 v3:=Tryz.zeroValue3
 t5:=Tryz.underlying5
 a5:=Tryz.isAgg5
 z5:=Tryz.sizeOf5
 v5:=Tryz.zeroValue5
 t9:=Tryz.underlying9
 a9:=Tryz.isAgg9
 z9:=Tryz.sizeOf9
 v9:=Tryz.zeroValue9 }
open Go.RowKit in
theorem Tryz.strings_IndexByte (s:ByteArray) (c:Int) (w:World) :
 Calls Tryz.prog 444 #[.string s,.int .u8 c] w fun e w'=>e=.returned (.int .i64 (Lib.indexByte s.data.toList c.toNat.toUInt8))∧w'=w:=Any.strings_IndexByte Tryz.lays137 s c w
def Tryz.lays283_ren:Go.Shelf.Ren:=⟨fun | 283=>230 | n=>n,fun | 3=>3 | 9=>9 | 4=>4 | n=>n,fun | n=>n⟩
theorem Tryz.lays283:Go.Proofs.Lays.n283 Tryz.prog Tryz.lays283_ren:={
 mixed:=by kernel_rfl
 f283:=Tryz.func230.trans (congrArg some (by kernel_rfl))
 t3:=Tryz.underlying3
 a3:=Tryz.isAgg3
 z3:=Tryz.sizeOf3
 v3:=Tryz.zeroValue3
 t4:=Tryz.underlying4
 a4:=Tryz.isAgg4
 z4:=Tryz.sizeOf4
 v4:=Tryz.zeroValue4
 t9:=Tryz.underlying9
 a9:=Tryz.isAgg9
 z9:=Tryz.sizeOf9
 v9:=Tryz.zeroValue9 }
open Go.Lib in
theorem Tryz.internal_strconv_small (i:Nat) (h:i < 100) (w:World) :
 Calls Tryz.prog 230 #[.int .i64 i] w fun e w'=>e=.returned (.string ⟨(Lib.decDigits i).toArray⟩)∧w'=w:=Any.internal_strconv_small Tryz.lays283 i h w
def Tryz.laysM284_ren:Go.Shelf.Ren:=⟨fun | 284=>231 | 129=>172 | 317=>290 | 318=>291 | n=>n,fun | 53=>146 | 3=>3 | 212=>400 | 0=>0 | 4=>4 | 46=>214 | 5=>5 | 9=>9 | n=>n,fun | 17=>3 | n=>n⟩
theorem Tryz.laysM284:Go.Proofs.LaysM.n284 Tryz.prog Tryz.laysM284_ren:={
 mixed:=by kernel_rfl
 f129:=Tryz.func172.trans (congrArg some (by kernel_rfl))
 f284:=Tryz.func231.trans (congrArg some (by kernel_rfl))
 f317:=Tryz.func290.trans (congrArg some (by kernel_rfl))
 f318:=Tryz.func291.trans (congrArg some (by kernel_rfl))
 t0:=Tryz.underlying0
 a0:=Tryz.isAgg0
 z0:=Tryz.sizeOf0
 v0:=Tryz.zeroValue0
 t3:=Tryz.underlying3
 a3:=Tryz.isAgg3
 z3:=Tryz.sizeOf3
 v3:=Tryz.zeroValue3
 t4:=Tryz.underlying4
 a4:=Tryz.isAgg4
 z4:=Tryz.sizeOf4
 v4:=Tryz.zeroValue4
 t5:=Tryz.underlying5
 a5:=Tryz.isAgg5
 z5:=Tryz.sizeOf5
 v5:=Tryz.zeroValue5
 t9:=Tryz.underlying9
 a9:=Tryz.isAgg9
 z9:=Tryz.sizeOf9
 v9:=Tryz.zeroValue9
 t46:=Tryz.underlying214
 a46:=Tryz.isAgg214
 z46:=Tryz.sizeOf214
 v46:=Tryz.zeroValue214
 t53:=Tryz.underlying146
 a53:=Tryz.isAgg146
 z53:=Tryz.sizeOf146
 v53:=Tryz.zeroValue146
 t212:=Tryz.underlying400
 a212:=Tryz.isAgg400
 z212:=Tryz.sizeOf400
 v212:=Tryz.zeroValue400
 g17:=by kernel_rfl
 i0:=by kernel_rfl
 i3:=by kernel_rfl
 i4:=by kernel_rfl
 i5:=by kernel_rfl
 i9:=by kernel_rfl
 i46:=by kernel_rfl
 i53:=by kernel_rfl
 i212:=by kernel_rfl
 m17:=by kernel_rfl }
open Go.Lib in
theorem Tryz.internal_strconv_numDigits (u:Nat) (h1:1≤u) (h2:u < 18446744073709551616) (w:World) (htab:Lib.TabIs Tryz.prog w "internal/strconv.uint64pow10" .u64 Lib.pow10Tab) :
 Calls Tryz.prog 231 #[.int .u64 u] w fun e w'=>e=.returned (.int .i64 (Lib.nDigits u))∧w'=w:=Any.internal_strconv_numDigits Tryz.laysM284 u h1 h2 w htab
def Tryz.lays285_ren:Go.Shelf.Ren:=⟨fun | 285=>232 | n=>n,fun | 37=>23 | 53=>146 | 3=>3 | 4=>4 | 51=>28 | 9=>9 | 5=>5 | 0=>0 | n=>n,fun | n=>n⟩
theorem Tryz.lays285:Go.Proofs.Lays.n285 Tryz.prog Tryz.lays285_ren:={
 mixed:=by kernel_rfl
 f285:=Tryz.func232.trans (congrArg some (by kernel_rfl))
 t0:=Tryz.underlying0
 a0:=Tryz.isAgg0
 z0:=Tryz.sizeOf0
 v0:=Tryz.zeroValue0
 t3:=Tryz.underlying3
 a3:=Tryz.isAgg3
 z3:=Tryz.sizeOf3
 v3:=Tryz.zeroValue3
 t4:=Tryz.underlying4
 a4:=Tryz.isAgg4
 z4:=Tryz.sizeOf4
 v4:=Tryz.zeroValue4
 t5:=Tryz.underlying5
 a5:=Tryz.isAgg5
 z5:=Tryz.sizeOf5
 v5:=Tryz.zeroValue5
 t9:=Tryz.underlying9
 a9:=Tryz.isAgg9
 z9:=Tryz.sizeOf9
 v9:=Tryz.zeroValue9
 t37:=Tryz.underlying23
 a37:=Tryz.isAgg23
 z37:=Tryz.sizeOf23
 v37:=Tryz.zeroValue23
 t51:=Tryz.underlying28
 a51:=Tryz.isAgg28
 z51:=Tryz.sizeOf28
 v51:=Tryz.zeroValue28
 t53:=Tryz.underlying146
 a53:=Tryz.isAgg146
 z53:=Tryz.sizeOf146
 v53:=Tryz.zeroValue146 }
open Go.RowKit Go.Sort Go.Lib in
theorem Tryz.internal_strconv_formatBase10 (blk off cap:Nat) (u:Nat) (d:Array UInt8) (w:World) (hH:Holds (fun (b:UInt8)=>Value.int .u8 (b.toNat:Int)) w blk off d) (hu:u < 10 ^ d.size) (hu64:u < 18446744073709551616) (hsz:d.size < 4611686018427387904) :
 Calls Tryz.prog 232 #[.slice (some ⟨blk,off,none⟩) d.size cap,.int .u64 u] w fun e w' =>
  e=.returned (.tuple #[])∧∃ (n v':Nat) (dk:Array UInt8),w'=(putRow (fun (b:UInt8)=>Value.int .u8 (b.toNat:Int)) w blk off dk).drewN n∧FmtInv d.size u 0 v' dk:=Any.internal_strconv_formatBase10 Tryz.lays285 blk off cap u d w hH hu hu64 hsz
def Tryz.lays157_ren:Go.Shelf.Ren:=⟨fun | 157=>86 | 229=>121 | 199=>122 | 261=>173 | 311=>224 | 312=>225 | n=>n,fun | 9=>9 | 31=>187 | 3=>3 | 5=>5 | 4=>4 | 119=>218 | 0=>0 | 40=>220 | 152=>270 | 21=>21 | 154=>272 | 51=>28 | 141=>274 | 196=>340 | 193=>337 | 198=>343 | 49=>341 | 194=>338 | 201=>346 | 226=>394 | 46=>214 | 227=>395 | n=>n,fun | 0=>0 | 6=>1 | n=>n⟩
theorem Tryz.lays157:Go.Proofs.Lays.n157 Tryz.prog Tryz.lays157_ren:={
 mixed:=by kernel_rfl
 f157:=Tryz.func86.trans (congrArg some (by kernel_rfl))
 f199:=Tryz.func122.trans (congrArg some (by kernel_rfl))
 f229:=Tryz.func121.trans (congrArg some (by kernel_rfl))
 f261:=Tryz.func173.trans (congrArg some (by kernel_rfl))
 f311:=Tryz.func224.trans (congrArg some (by kernel_rfl))
 f312:=Tryz.func225.trans (congrArg some (by kernel_rfl))
 t0:=Tryz.underlying0
 a0:=Tryz.isAgg0
 z0:=Tryz.sizeOf0
 v0:=Tryz.zeroValue0
 t3:=Tryz.underlying3
 a3:=Tryz.isAgg3
 z3:=Tryz.sizeOf3
 v3:=Tryz.zeroValue3
 t4:=Tryz.underlying4
 a4:=Tryz.isAgg4
 z4:=Tryz.sizeOf4
 v4:=Tryz.zeroValue4
 t5:=Tryz.underlying5
 a5:=Tryz.isAgg5
 z5:=Tryz.sizeOf5
 v5:=Tryz.zeroValue5
 t9:=Tryz.underlying9
 a9:=Tryz.isAgg9
 z9:=Tryz.sizeOf9
 v9:=Tryz.zeroValue9
 t21:=Tryz.underlying21
 a21:=Tryz.isAgg21
 z21:=Tryz.sizeOf21
 v21:=Tryz.zeroValue21
 t31:=Tryz.underlying187
 a31:=Tryz.isAgg187
 z31:=Tryz.sizeOf187
 v31:=Tryz.zeroValue187
 t40:=Tryz.underlying220
 a40:=Tryz.isAgg220
 z40:=Tryz.sizeOf220
 v40:=Tryz.zeroValue220
 t46:=Tryz.underlying214
 a46:=Tryz.isAgg214
 z46:=Tryz.sizeOf214
 v46:=Tryz.zeroValue214
 t49:=Tryz.underlying341
 a49:=Tryz.isAgg341
 z49:=Tryz.sizeOf341
 v49:=Tryz.zeroValue341
 t51:=Tryz.underlying28
 a51:=Tryz.isAgg28
 z51:=Tryz.sizeOf28
 v51:=Tryz.zeroValue28
 t119:=Tryz.underlying218
 a119:=Tryz.isAgg218
 z119:=Tryz.sizeOf218
 t141:=Tryz.underlying274
 a141:=Tryz.isAgg274
 z141:=Tryz.sizeOf274
 v141:=Tryz.zeroValue274
 t152:=Tryz.underlying270
 a152:=Tryz.isAgg270
 z152:=Tryz.sizeOf270
 v152:=Tryz.zeroValue270
 t154:=Tryz.underlying272
 a154:=Tryz.isAgg272
 z154:=Tryz.sizeOf272
 v154:=Tryz.zeroValue272
 t193:=Tryz.underlying337
 a193:=Tryz.isAgg337
 z193:=Tryz.sizeOf337
 v193:=Tryz.zeroValue337
 t194:=Tryz.underlying338
 a194:=Tryz.isAgg338
 z194:=Tryz.sizeOf338
 v194:=Tryz.zeroValue338
 t196:=Tryz.underlying340
 a196:=Tryz.isAgg340
 z196:=Tryz.sizeOf340
 v196:=Tryz.zeroValue340
 t198:=Tryz.underlying343
 a198:=Tryz.isAgg343
 z198:=Tryz.sizeOf343
 v198:=Tryz.zeroValue343
 t201:=Tryz.underlying346
 a201:=Tryz.isAgg346
 z201:=Tryz.sizeOf346
 v201:=Tryz.zeroValue346
 t226:=Tryz.underlying394
 a226:=Tryz.isAgg394
 z226:=Tryz.sizeOf394
 v226:=Tryz.zeroValue394
 t227:=Tryz.underlying395
 a227:=Tryz.isAgg395
 z227:=Tryz.sizeOf395
 v227:=Tryz.zeroValue395
 g0:=by kernel_rfl
 g6:=by kernel_rfl }
open Go.RowKit Go.Lib in
theorem Tryz.strings_Fields (s:ByteArray) (w:World) (hs:s.size < 4294967281) (hascii:∀ (j:Nat) b,s.data.toList[j]? = some b→b.toNat < 128) (htab:Lib.TabIs Tryz.prog w "strings.asciiSpace" .u8 Lib.asciiSpaceTab) :
 Calls Tryz.prog 86 #[.string s] w fun e w' =>
  e=.returned (.slice (some ⟨w.heap.size,0,none⟩) (Lib.fields s.data.toList).length (Lib.fields s.data.toList).length)∧w'=w.alloc (.cells ((Lib.fields s.data.toList).map fun l=>Value.string ⟨l.toArray⟩).toArray 9):=Any.strings_Fields Tryz.lays157 (by kernel_rfl) (by kernel_rfl) s w hs hascii htab
def Tryz.lays107_ren:Go.Shelf.Ren:=⟨fun | 107=>157 | 108=>214 | n=>n,fun | 28=>31 | 3=>3 | 4=>4 | 0=>0 | n=>n,fun | n=>n⟩
theorem Tryz.lays107:Go.Proofs.Lays.n107 Tryz.prog Tryz.lays107_ren:={
 mixed:=by kernel_rfl
 f107:=Tryz.func157.trans (congrArg some (by kernel_rfl))
 f108:=Tryz.func214.trans (congrArg some (by kernel_rfl))
 t0:=Tryz.underlying0
 a0:=Tryz.isAgg0
 z0:=Tryz.sizeOf0
 v0:=Tryz.zeroValue0
 t3:=Tryz.underlying3
 a3:=Tryz.isAgg3
 z3:=Tryz.sizeOf3
 v3:=Tryz.zeroValue3
 t4:=Tryz.underlying4
 a4:=Tryz.isAgg4
 z4:=Tryz.sizeOf4
 v4:=Tryz.zeroValue4
 t28:=Tryz.underlying31
 a28:=Tryz.isAgg31
 z28:=Tryz.sizeOf31
 v28:=Tryz.zeroValue31 }
open Go.Lib in
theorem Tryz.slices_Contains_int (b off n c:Nat) (zs:List Int) (x:Int) (w:World) (hz:n≤zs.length) (hbig:n≤9223372036854775807) (hc:∀ j,j < zs.length→w.cell? ⟨b,off + j,none⟩=some (.int .i64 (zs.getD j 0))) :
 Calls Tryz.prog 157 #[.slice (some ⟨b,off,none⟩) n c,.int .i64 x] w fun e w'=>e=.returned (.bool ((zs.take n).contains x))∧w'=w:=Any.slices_Contains_int Tryz.lays107 b off n c zs x w hz hbig hc
open Go.Lib in
theorem Tryz.slices_Contains_int_empty (a:Option Addr) (c:Nat) (x:Int) (w:World) :
 Calls Tryz.prog 157 #[.slice a 0 c,.int .i64 x] w fun e w'=>e=.returned (.bool false)∧w'=w:=Any.slices_Contains_int_empty Tryz.lays107 a c x w
def Tryz.lays109_ren:Go.Shelf.Ren:=⟨fun | 109=>318 | n=>n,fun | 31=>187 | 9=>9 | 3=>3 | 0=>0 | 4=>4 | n=>n,fun | n=>n⟩
theorem Tryz.lays109:Go.Proofs.Lays.n109 Tryz.prog Tryz.lays109_ren:={
 mixed:=by kernel_rfl
 f109:=Tryz.func318.trans (congrArg some (by kernel_rfl))
 t0:=Tryz.underlying0
 a0:=Tryz.isAgg0
 z0:=Tryz.sizeOf0
 v0:=Tryz.zeroValue0
 t3:=Tryz.underlying3
 a3:=Tryz.isAgg3
 z3:=Tryz.sizeOf3
 v3:=Tryz.zeroValue3
 t4:=Tryz.underlying4
 a4:=Tryz.isAgg4
 z4:=Tryz.sizeOf4
 v4:=Tryz.zeroValue4
 t9:=Tryz.underlying9
 a9:=Tryz.isAgg9
 z9:=Tryz.sizeOf9
 v9:=Tryz.zeroValue9
 t31:=Tryz.underlying187
 a31:=Tryz.isAgg187
 z31:=Tryz.sizeOf187
 v31:=Tryz.zeroValue187 }
open Go.Lib in
theorem Tryz.slices_Index_string (b off n c:Nat) (zs:List ByteArray) (x:ByteArray) (w:World) (hz:n≤zs.length) (hbig:n≤9223372036854775807) (hc:∀ j,j < zs.length→w.cell? ⟨b,off + j,none⟩=some (.string (zs.getD j ByteArray.empty))) :
 Calls Tryz.prog 318 #[.slice (some ⟨b,off,none⟩) n c,.string x] w fun e w'=>e=.returned (.int .i64 (Lib.idxOfS (zs.take n) x))∧w'=w:=Any.slices_Index_string Tryz.lays109 b off n c zs x w hz hbig hc
def Tryz.lays111_ren:Go.Shelf.Ren:=⟨fun | 111=>12 | n=>n,fun | 28=>31 | 3=>3 | 4=>4 | 0=>0 | n=>n,fun | n=>n⟩
theorem Tryz.lays111:Go.Proofs.Lays.n111 Tryz.prog Tryz.lays111_ren:={
 mixed:=by kernel_rfl
 f111:=Tryz.func12.trans (congrArg some (by kernel_rfl))
 t0:=Tryz.underlying0
 a0:=Tryz.isAgg0
 z0:=Tryz.sizeOf0
 v0:=Tryz.zeroValue0
 t3:=Tryz.underlying3
 a3:=Tryz.isAgg3
 z3:=Tryz.sizeOf3
 v3:=Tryz.zeroValue3
 t4:=Tryz.underlying4
 a4:=Tryz.isAgg4
 z4:=Tryz.sizeOf4
 v4:=Tryz.zeroValue4
 t28:=Tryz.underlying31
 a28:=Tryz.isAgg31
 z28:=Tryz.sizeOf31
 v28:=Tryz.zeroValue31 }
open Go.RowKit Go.Lib in
theorem Tryz.slices_Equal_int (b1 o1 n c b2 o2 m d:Nat) (xs ys:List Int) (w:World) (hx:n≤xs.length) (hy:m≤ys.length) (hbig:n≤9223372036854775807) (hbig2:m≤9223372036854775807) (hc1:∀ j,j < xs.length→w.cell? ⟨b1,o1 + j,none⟩=some (.int .i64 (xs.getD j 0))) (hc2:∀ j,j < ys.length→w.cell? ⟨b2,o2 + j,none⟩=some (.int .i64 (ys.getD j 0))) :
 Calls Tryz.prog 12 #[.slice (some ⟨b1,o1,none⟩) n c,.slice (some ⟨b2,o2,none⟩) m d] w fun e w'=>e=.returned (.bool (xs.take n == ys.take m))∧∃ q,w'=w.drewN q:=Any.slices_Equal_int Tryz.lays111 b1 o1 n c b2 o2 m d xs ys w hx hy hbig hbig2 hc1 hc2
def Tryz.lays185_ren:Go.Shelf.Ren:=⟨fun | 185=>201 | 187=>264 | 115=>265 | 253=>266 | 224=>267 | 254=>268 | 255=>311 | 291=>312 | n=>n,fun | 37=>23 | 3=>3 | 4=>4 | 0=>0 | 5=>5 | 46=>214 | 9=>9 | 146=>422 | 51=>28 | n=>n,fun | 1=>2 | n=>n⟩
theorem Tryz.lays185:Go.Proofs.Lays.n185 Tryz.prog Tryz.lays185_ren:={
 mixed:=by kernel_rfl
 f115:=Tryz.func265.trans (congrArg some (by kernel_rfl))
 f185:=Tryz.func201.trans (congrArg some (by kernel_rfl))
 f187:=Tryz.func264.trans (congrArg some (by kernel_rfl))
 f224:=Tryz.func267.trans (congrArg some (by kernel_rfl))
 f253:=Tryz.func266.trans (congrArg some (by kernel_rfl))
 f254:=Tryz.func268.trans (congrArg some (by kernel_rfl))
 f255:=Tryz.func311.trans (congrArg some (by kernel_rfl))
 f291:=Tryz.func312.trans (congrArg some (by kernel_rfl))
 t0:=Tryz.underlying0
 a0:=Tryz.isAgg0
 z0:=Tryz.sizeOf0
 v0:=Tryz.zeroValue0
 t3:=Tryz.underlying3
 a3:=Tryz.isAgg3
 z3:=Tryz.sizeOf3
 v3:=Tryz.zeroValue3
 t4:=Tryz.underlying4
 a4:=Tryz.isAgg4
 z4:=Tryz.sizeOf4
 v4:=Tryz.zeroValue4
 t5:=Tryz.underlying5
 a5:=Tryz.isAgg5
 z5:=Tryz.sizeOf5
 v5:=Tryz.zeroValue5
 t9:=Tryz.underlying9
 a9:=Tryz.isAgg9
 z9:=Tryz.sizeOf9
 v9:=Tryz.zeroValue9
 t37:=Tryz.underlying23
 a37:=Tryz.isAgg23
 z37:=Tryz.sizeOf23
 v37:=Tryz.zeroValue23
 t46:=Tryz.underlying214
 a46:=Tryz.isAgg214
 z46:=Tryz.sizeOf214
 v46:=Tryz.zeroValue214
 t51:=Tryz.underlying28
 a51:=Tryz.isAgg28
 z51:=Tryz.sizeOf28
 v51:=Tryz.zeroValue28
 t146:=Tryz.underlying422
 a146:=Tryz.isAgg422
 z146:=Tryz.sizeOf422
 v146:=Tryz.zeroValue422
 g1:=by kernel_rfl }
open Go.RowKit Go.Lib in
theorem Tryz.bytes_Index_longer (p q:Option Addr) (n c m d:Nat) (w:World) (h2:2≤m) (hnm:n < m) (hm:m≤9223372036854775807) :
 Calls Tryz.prog 201 #[.slice p n c,.slice q m d] w fun e w'=>e=.returned (.int .i64 (-1))∧w'=w:=Any.bytes_Index_longer Tryz.lays185 p q n c m d w h2 hnm hm
def Tryz.lays187_ren:Go.Shelf.Ren:=⟨fun | 187=>264 | 255=>311 | n=>n,fun | 37=>23 | 5=>5 | 3=>3 | n=>n,fun | n=>n⟩
theorem Tryz.lays187:Go.Proofs.Lays.n187 Tryz.prog Tryz.lays187_ren:={
 mixed:=by kernel_rfl
 f187:=Tryz.func264.trans (congrArg some (by kernel_rfl))
 f255:=Tryz.func311.trans (congrArg some (by kernel_rfl))
 t3:=Tryz.underlying3
 a3:=Tryz.isAgg3
 z3:=Tryz.sizeOf3
 v3:=Tryz.zeroValue3
 t5:=Tryz.underlying5
 a5:=Tryz.isAgg5
 z5:=Tryz.sizeOf5
 v5:=Tryz.zeroValue5
 t37:=Tryz.underlying23
 a37:=Tryz.isAgg23
 z37:=Tryz.sizeOf23
 v37:=Tryz.zeroValue23 }
open Go.Proofs Go.RowKit Go.Lib in
theorem Tryz.bytes_Index_at (a1 a2:Addr) (n c1 k c2:Nat) (xs ys:List Int) (m:Int) (w:World) (hx:xs.length=n) (hy:ys.length=k) (hr1:∀ x ∈ xs,0≤x∧x < 256) (hr2:∀ y ∈ ys,0≤y∧y < 256) (hc1:∀ i,i < n→w.cell? (a1.add i)=some (.int .u8 (xs.getD i 0))) (hc2:∀ i,i < k→w.cell? (a2.add i)=some (.int .u8 (ys.getD i 0))) (hcap:n≤c1) (hs:n < 4294967281) (hk:k≤9223372036854775807) (hm:w.cell? ⟨2,0,none⟩=some (.int .i64 m)) :
 Calls Tryz.prog 201 #[.slice (some a1) n c1,.slice (some a2) k c2] w fun e w'=>e=.returned (.int .i64 (Lib.index (Lib.bytesOf xs) (Lib.bytesOf ys)))∧∃ q,w'=w.drewN q:=Any.bytes_Index_at Tryz.lays185 a1 a2 n c1 k c2 xs ys m w hx hy hr1 hr2 hc1 hc2 hcap hs hk hm
def Tryz.laysnb142_ren:Go.Shelf.Ren:=⟨fun | 142=>202 | 117=>269 | 115=>265 | n=>n,fun | 37=>23 | 4=>4 | 3=>3 | 9=>9 | 5=>5 | n=>n,fun | n=>n⟩
theorem Tryz.laysnb142:Go.Proofs.Lays.nb142 Tryz.prog Tryz.laysnb142_ren:={
 mixed:=by kernel_rfl
 f115:=Tryz.func265.trans (congrArg some (by kernel_rfl))
 f117:=Tryz.func269.trans (congrArg some (by kernel_rfl))
 f142:=Tryz.func202.trans (congrArg some (by kernel_rfl))
 t3:=Tryz.underlying3
 a3:=Tryz.isAgg3
 z3:=Tryz.sizeOf3
 v3:=Tryz.zeroValue3
 t4:=Tryz.underlying4
 a4:=Tryz.isAgg4
 z4:=Tryz.sizeOf4
 v4:=Tryz.zeroValue4
 t9:=Tryz.underlying9
 a9:=Tryz.isAgg9
 z9:=Tryz.sizeOf9
 v9:=Tryz.zeroValue9
 t37:=Tryz.underlying23
 a37:=Tryz.isAgg23
 z37:=Tryz.sizeOf23
 v37:=Tryz.zeroValue23
 t5:=Tryz.underlying5
 a5:=Tryz.isAgg5
 z5:=Tryz.sizeOf5
 v5:=Tryz.zeroValue5 }
theorem Tryz.bytes_CutSuffix_all (p1 p2:Option Addr) (n c m d:Nat) (xs ys:List Int) (w:World) (hx:xs.length=n) (hy:ys.length=m) (hnc:n≤c) (hbig:n≤9223372036854775807) (h1:Lib.BytesIn w p1 n xs) (h2:Lib.BytesIn w p2 m ys) :
 Calls Tryz.prog 202 #[.slice p1 n c,.slice p2 m d] w fun e w'=>e=.returned (.tuple #[Lib.trimSuffixV p1 n c xs ys,.bool (Lib.hasSuffix (Lib.bytesOf xs) (Lib.bytesOf ys))])∧w'=w:=Any.bytes_CutSuffix_all Tryz.laysnb142 p1 p2 n c m d xs ys w hx hy hnc hbig h1 h2
theorem Tryz.bytes_IndexByte (b o n c:Nat) (xs:List Int) (cv:Int) (w:World) (hx:xs.length=n) (hc:∀ i,i < n→w.cell? ⟨b,o + i,none⟩=some (.int .u8 (xs.getD i 0))) :
 Calls Tryz.prog 264 #[.slice (some ⟨b,o,none⟩) n c,.int .u8 cv] w fun e w'=>e=.returned (.int .i64 (Lib.indexByte (Lib.bytesOf xs) cv.toNat.toUInt8))∧w'=w:=Any.bytes_IndexByte Tryz.lays187 b o n c xs cv w hx hc
end Go.Proofs.YtliimglbbiebiaaGreatDoor
end

section
namespace Go.Proofs.YtliimglbbiebiaaGreatDoor
open Go.RowKit Go.Lib Go.Sort
structure Tabs (w:World):Prop where
 sp:Lib.TabIs Tryz.prog w "strings.asciiSpace" .u8 Lib.asciiSpaceTab
 pow:Lib.TabIs Tryz.prog w "internal/strconv.uint64pow10" .u64 Lib.pow10Tab
 ml:∃ m,w.cell? ⟨2,0,none⟩=some (.int .i64 m)
theorem tabIs_fr {P:Program} {n:String} {k:IntKind} {zs:List Int} {w w':World} (h:Lib.TabIs P w n k zs) (hn:New w w'):Lib.TabIs P w' n k zs:=by
 unfold Lib.TabIs World.var? at h ⊢
 cases hg:P.globalNamed n with
 | none=>rw [hg] at h; cases h
 | some g =>
   rw [hg] at h
   simp only [Option.bind_some] at h ⊢
   have hlt:g < w.heap.size:=by
    rcases Nat.lt_or_ge g w.heap.size with h1 | h1
    · exact h1
    · rw [Array.getElem?_eq_none h1] at h; cases h
   rw [hn.block g hlt id]
   exact h
theorem Tabs.new {w w':World} (h:Tabs w) (hn:New w w'):Tabs w' :=
 ⟨tabIs_fr h.sp hn,tabIs_fr h.pow hn,by obtain ⟨m,hm⟩:=h.ml; exact ⟨m,Fr.cell hn hm id⟩⟩
theorem New.grow_ (w:World) (os:Array Obj):New w (grow w os) :=
 ⟨rfl,rfl,rfl,by simp [grow],fun k hk _=>by simp [grow,Array.getElem?_append_left hk]⟩
def decS (n:Nat):ByteArray:=⟨(Lib.decDigits n).toArray⟩
theorem fmtU_any (u:Nat) (h64:u < 18446744073709551616) (w:World) (ht:Tabs w):Calls Tryz.prog 184 #[.int .u64 u,.int .i64 10] w fun e w'=>e=.returned (.string (decS u))∧New w w':=by
 by_cases hs:u < 100
 · go_enter Tryz.func184,Tryz.ntmps184
   go_wp2_with (go_at_call 230; refine (Tryz.internal_strconv_small u hs _).mono ?_; rintro e w' ⟨rfl,rfl⟩)
   go_ret
   exact ⟨rfl,New.refl _⟩
 · have hu1:1≤u:=by omega
   have htab:=ht.pow
   have hnd20:Lib.nDigits u≤20:=by have:=Lib.numDigits_eq u hu1 h64; split at this <;> omega
   have hal:Tryz.prog.arrayLen 354=24:=by simp [Program.arrayLen,Tryz.underlying354]
   have hsl1:∀ W,(Instr.sliceAt 354 (.pointer (some ⟨w.heap.size,0,none⟩)) none (some (.int .i64 (Lib.nDigits u:Int))) none).run Tryz.prog W=.ok (.slice (some ⟨w.heap.size,0,none⟩) (Lib.nDigits u) 24) W:=fun W=>by
    rw [run_sliceAt_array_h W 354 ⟨w.heap.size,0,none⟩ (by simp [Program.arrayLen,Program.elem,Tryz.underlying354]) .i64 (Lib.nDigits u:Int) (by omega) (by rw [hal]; omega)]
    go_simp
   have hH0:Holds (fun (b:UInt8)=>Value.int .u8 (b.toNat:Int)) (w.alloc (.cells Lib.zeros24 354)) w.heap.size 0 (Array.replicate (Lib.nDigits u) (0:UInt8)):=fun j hj=>by
    have hj':j < Lib.nDigits u:=by simpa using hj
    refine ⟨?_,World.frozen?_alloc_new _ _ _ _⟩
    rw [World.cell?_alloc_new,Lib.zeros24_at _ (by omega),getElem!_pos _ j hj]
    simp
   have hfmt:=Tryz.internal_strconv_formatBase10 w.heap.size 0 24 u (Array.replicate (Lib.nDigits u) 0) (w.alloc (.cells Lib.zeros24 354)) hH0 (by rw [Array.size_replicate]; exact Lib.lt_pow_nDigits u) h64 (by rw [Array.size_replicate]; omega)
   rw [Array.size_replicate] at hfmt
   have HH0:=Lib.hid hH0
   clear hH0 hal
   go_enter Tryz.func184,Tryz.ntmps184
   go_wp2_with (go_at_call 231; refine (Tryz.internal_strconv_numDigits u hu1 h64 _ (Lib.tabIs_alloc htab _)).mono ?_; rintro e w' ⟨rfl,rfl⟩)
   go_at_call 232
   refine hfmt.mono ?_
   rintro e w' ⟨rfl,k,v',dk,rfl,hF⟩
   have hcv:(convert 23 9 (.slice (some ⟨w.heap.size,0,none⟩) (Lib.nDigits u) 24)).run Tryz.prog ((putRow (fun (b:UInt8)=>Value.int .u8 (b.toNat:Int)) (w.alloc (.cells Lib.zeros24 354)) w.heap.size 0 dk).drewN k)=.ok (.string ⟨(Lib.decDigits u).toArray⟩) ((putRow (fun (b:UInt8)=>Value.int .u8 (b.toNat:Int)) (w.alloc (.cells Lib.zeros24 354)) w.heap.size 0 dk).drewN k):=by
    have h:=run_convert_bytes_back (P:=Tryz.prog) ((putRow (fun (b:UInt8)=>Value.int .u8 (b.toNat:Int)) (w.alloc (.cells Lib.zeros24 354)) w.heap.size 0 dk).drewN k) 23 9 5 ⟨w.heap.size,0,none⟩ 24 (Lib.decDigits u) Tryz.underlying23 Tryz.underlying5 Tryz.underlying9 (fun j hj=>by
     rw [Lib.row_is_numeral hF j hj,Lib.add_plain,World.cell?_drewN]
     exact cell?_putRow (fun (b:UInt8)=>Value.int .u8 (b.toNat:Int)) _ w.heap.size 0 _ dk HH0.out (by rw [hF.size,Array.size_replicate]) j (by rw [hF.size]; rw [Lib.decDigits_length] at hj; exact hj))
    rw [Lib.decDigits_length] at h
    exact h
   go_wp2
   go_ret
   refine ⟨rfl,?_⟩
   rw [alloc_eq_grow]
   obtain ⟨os',_,e⟩:=putRow_grow_new (fun (b:UInt8)=>Value.int .u8 (b.toNat:Int)) w #[.cells Lib.zeros24 354] w.heap.size 0 dk (Nat.le_refl _)
   rw [e]
   exact (New.grow_ w os').drewN k
theorem fmtU1_any (u:Nat) (h64:u < 18446744073709551616) (w:World) (ht:Tabs w):Calls Tryz.prog 129 #[.int .u64 u,.int .i64 10] w fun e w'=>e=.returned (.string (decS u))∧New w w':=by
 go_enter Tryz.func129,Tryz.ntmps129
 go_wp2_with (go_at_call 184; refine (fmtU_any u h64 _ ht).mono ?_; rintro e w1 ⟨rfl,n1⟩)
 go_ret
 exact ⟨rfl,n1⟩
theorem decimal_any (u:Nat) (h32:u < 4294967296) (w:World) (ht:Tabs w):Calls Tryz.prog 94 #[.int .u32 u] w fun e w'=>e=.returned (.string (decS u))∧New w w':=by
 go_enter Tryz.func94,Tryz.ntmps94
 go_wp2_with (go_at_call 129; refine (fmtU1_any u (by omega) _ ht).mono ?_; rintro e w1 ⟨rfl,n1⟩)
 go_ret
 exact ⟨rfl,n1⟩
theorem decS_size (u:Nat) (h32:u < 4294967296):(decS u).size≤20:=by
 have h:(decS u).size=(Lib.decDigits u).length:=rfl
 rw [h,Lib.decDigits_length]
 by_cases hu:1≤u
 · have:=Lib.numDigits_eq u hu (by omega)
   split at this <;> omega
 · obtain rfl:u=0:=by omega
   decide +kernel
end Go.Proofs.YtliimglbbiebiaaGreatDoor
end

section
namespace Go.Proofs.YtliimglbbiebiaaGreatDoor
open Go.RowKit
def verbsS:ByteArray:=⟨#[78,79,79,80,32,76,79,71,79,85,84,32,67,76,79,83,69,32,69,88,80,85,78,71,69,32,83,69,76,69,67,84,32,65,80,80,69,78,68,32,70,69,84,67,72,32,83,84,79,82,69]⟩
def verbsL:List (List UInt8):=[[78,79,79,80],[76,79,71,79,85,84],[67,76,79,83,69],[69,88,80,85,78,71,69],[83,69,76,69,67,84],[65,80,80,69,78,68],[70,69,84,67,72],[83,84,79,82,69]]
theorem verbs_fields:Lib.fields verbsS.data.toList=verbsL:=by decide +kernel
theorem verbs_ascii:∀ b ∈ verbsS.data.toList,b.toNat < 128:=by decide +kernel
theorem vfields_any (w:World) (ht:Tabs w):Calls Tryz.prog 86 #[.string verbsS] w fun e w'=>e=.returned (.slice (some ⟨w.heap.size,0,none⟩) 8 8)∧w'=w.alloc (.cells (verbsL.map fun l=>Value.string ⟨l.toArray⟩).toArray 9):=by
 have h:=Tryz.strings_Fields verbsS w (by decide) (fun j b hb=>verbs_ascii b (List.mem_of_getElem? hb)) ht.sp
 rw [verbs_fields] at h
 exact h
def verbS (k:Nat):ByteArray:=⟨((verbsL.getD (k - 1) []).toArray)⟩
theorem verb_any (k:Nat) (h1:1≤k) (h8:k≤8) (w:World) (ht:Tabs w):Calls Tryz.prog 63 #[.int .i64 k] w fun e w'=>e=.returned (.string (verbS k))∧New w w':=by
 have hf:=vfields_any w ht
 have hc:(w.alloc (.cells (verbsL.map fun l=>Value.string ⟨l.toArray⟩).toArray 9)).cell? ⟨w.heap.size,k - 1,none⟩=some (.string (verbS k)):=by
  rw [World.cell?_alloc_new]
  have hk:∀ k:Fin 9,1≤k.val→(verbsL.map fun l=>Value.string ⟨l.toArray⟩).toArray[k.val - 1]? = some (.string (verbS k.val)):=by
   intro ⟨k,hk⟩ h1
   have h2:1≤k:=h1
   have:k=1∨k=2∨k=3∨k=4∨k=5∨k=6∨k=7∨k=8:=by omega
   rcases this with rfl | rfl | rfl | rfl | rfl | rfl | rfl | rfl <;> rfl
  exact hk ⟨k,by omega⟩ h1
 obtain ⟨j,rfl⟩:∃ j,k=j + 1:=⟨k - 1,by omega⟩
 rw [Nat.add_sub_cancel] at hc
 go_enter Tryz.func63,Tryz.ntmps63
 go_wp2_with fail
 refine hf.mono ?_
 rintro e w1 ⟨rfl,rfl⟩
 have hn:New w (w.alloc (.cells (verbsL.map fun l=>Value.string ⟨l.toArray⟩).toArray 9)):=(New.refl w).alloc _
 generalize (w.alloc (.cells (verbsL.map fun l=>Value.string ⟨l.toArray⟩).toArray 9))=w1 at *
 clear hf
 go_wp2
 go_ret
 exact ⟨rfl,hn⟩
def verbsZ:List ByteArray:=verbsL.map fun l=>⟨l.toArray⟩
def kindI (s:ByteArray):Int:=Lib.idxOfS verbsZ (upS s)
theorem idxFromS_bd (x:ByteArray):∀ (zs:List ByteArray) (i:Nat),-1≤Lib.idxFromS zs x i∧Lib.idxFromS zs x i < (i:Int) + zs.length
 | [],i=>by simp [Lib.idxFromS]; omega
 | z :: zs,i=>by
   have h:=idxFromS_bd x zs (i + 1)
   simp only [Lib.idxFromS,List.length_cons]
   split <;> omega
theorem kind_any (s:ByteArray) (hs:s.size≤1000000) (w:World) (ht:Tabs w):Calls Tryz.prog 276 #[.string s] w fun e w'=>e=.returned (.tuple #[.int .i64 (kindI s + 1),.bool (decide (0≤kindI s))])∧New w w':=by
 have hf:=vfields_any w ht
 obtain ⟨i,hi⟩:∃ i,i=kindI s:=⟨_,rfl⟩
 rw [← hi]
 have HI:=Lib.hid hi
 clear hi
 have hz:verbsZ.length=8:=rfl
 have hc:∀ j,j < verbsZ.length→(w.alloc (.cells (verbsL.map fun l=>Value.string ⟨l.toArray⟩).toArray 9)).cell? ⟨w.heap.size,0 + j,none⟩=some (.string (verbsZ.getD j ByteArray.empty)):=by
  intro j hj
  rw [hz] at hj
  rw [Nat.zero_add,World.cell?_alloc_new]
  have:j=0∨j=1∨j=2∨j=3∨j=4∨j=5∨j=6∨j=7:=by omega
  rcases this with rfl | rfl | rfl | rfl | rfl | rfl | rfl | rfl <;> rfl
 have hn:New w (w.alloc (.cells (verbsL.map fun l=>Value.string ⟨l.toArray⟩).toArray 9)):=(New.refl w).alloc _
 have HC:=Lib.hid hc
 clear hc
 go_enter Tryz.func276,Tryz.ntmps276
 go_wp2_with fail
 refine hf.mono ?_
 rintro e w1 ⟨rfl,rfl⟩
 generalize (w.alloc (.cells (verbsL.map fun l=>Value.string ⟨l.toArray⟩).toArray 9))=w1 at *
 clear hf
 go_wp2_with fail
 refine (upper_any s hs w1).mono ?_
 rintro e w2 ⟨rfl,n2⟩
 go_wp2_with fail
 refine (Tryz.slices_Index_string w.heap.size 0 8 8 verbsZ (upS s) w2 (by rw [hz]; exact Nat.le_refl _) (by decide) (fun j hj=>Fr.cell n2 (HC.out j hj) id)).mono ?_
 rintro e w3 ⟨rfl,rfl⟩
 have hk:Lib.idxOfS (verbsZ.take 8) (upS s)=i:=HI.out.symm
 have hb:-1≤i∧i < 8:=by
  rw [HI.out]
  have h:=idxFromS_bd (upS s) verbsZ 0
  rw [hz] at h
  unfold kindI Lib.idxOfS
  omega
 rw [hk]
 clear hk HI
 go_wp2
 go_ret2
 exact ⟨rfl,hn.trans n2⟩
def cmd0:Value:=.agg #[.string ⟨#[]⟩,.int .i64 0,.string ⟨#[]⟩,.slice none 0 0,.int .i64 0,.int .i64 0,.bool false,.int .u8 0,.slice none 0 0]
theorem requal_nil (w:World):Calls Tryz.prog 87 #[.slice none 0 0,.slice none 0 0] w fun e w'=>e=.returned (.bool true)∧w=w':=by
 go_enter Tryz.func87,Tryz.ntmps87
 go_wp2_with fail
 refine wp_loop_rounds 1 ?_
 rw [rounds_succ]
 go_wp2
 go_ret
 exact ⟨rfl,rfl⟩
theorem same_zero (w:World):Calls Tryz.prog 64 #[cmd0,cmd0] w fun e w'=>e=.returned (.bool true)∧New w w':=by
 have hcv:=fun w=>Lib.run_convert_nil_bytes (P:=Tryz.prog) w 23 9 5 0 Tryz.underlying23 Tryz.underlying5 Tryz.underlying9
 unfold cmd0
 go_enter Tryz.func64,Tryz.ntmps64
 go_wp2_with (go_at_call 87; refine (requal_nil _).mono ?_; rintro e w1 ⟨rfl,rfl⟩)
 go_ret
 exact ⟨rfl,((New.refl _).alloc _).alloc _⟩
def cmdV (t:ByteArray) (k:Int) (m:ByteArray) (fl:Int) (d:Value):Value:=.agg #[.string t,.int .i64 k,.string m,.slice none 0 0,.int .i64 0,.int .i64 0,.bool false,.int .u8 fl,d]
def inboxS:ByteArray:=⟨#[73,78,66,79,88]⟩
theorem valid_noop (t:ByteArray) (ht:tagS t=true) (hts:t.size≤1000000) (w:World) (hT:Tabs w):Calls Tryz.prog 38 #[cmdV t 1 ⟨#[]⟩ 0 (.slice none 0 0)] w fun e w'=>e=.returned (.bool true)∧New w w':=by
 have hall:=All_tag t hts
 rw [ht] at hall
 have HT:=Lib.hid hT
 have b0:Blk (w.alloc (.cells #[.string t,.int .i64 1,.string ⟨#[]⟩,.slice none 0 0,.int .i64 0,.int .i64 0,.bool false,.int .u8 0,.slice none 0 0] 47)) w.heap.size 47 #[.string t,.int .i64 1,.string ⟨#[]⟩,.slice none 0 0,.int .i64 0,.int .i64 0,.bool false,.int .u8 0,.slice none 0 0]:=Blk.new _ _ _
 have n0:New w (w.alloc (.cells #[.string t,.int .i64 1,.string ⟨#[]⟩,.slice none 0 0,.int .i64 0,.int .i64 0,.bool false,.int .u8 0,.slice none 0 0] 47)):=(New.refl w).alloc _
 clear hT
 unfold cmdV
 go_enter Tryz.func38,Tryz.ntmps38
 go_wp2_with fail
 refine (hall _).mono ?_
 rintro e w1 ⟨rfl,n1⟩
 have b1:=n1.blk b0
 have c0:w1.cell? ⟨w.heap.size,0,none⟩=some (.string t):=b1.cell 0
 have c1:w1.cell? ⟨w.heap.size,1,none⟩=some (.int .i64 1):=b1.cell 1
 go_wp2_with fail
 refine (verb_any 1 (by decide) (by decide) w1 (HT.out.new (n0.trans n1))).mono ?_
 rintro e w2 ⟨rfl,n2⟩
 have b2:=n2.blk b1
 have n02:=(n0.trans n1).trans n2
 have d0:w2.cell? ⟨w.heap.size,0,none⟩=some (.string t):=b2.cell 0
 have d1:w2.cell? ⟨w.heap.size,1,none⟩=some (.int .i64 1):=b2.cell 1
 have d2:w2.cell? ⟨w.heap.size,2,none⟩=some (.string ⟨#[]⟩):=b2.cell 2
 have d3:w2.cell? ⟨w.heap.size,3,none⟩=some (.slice none 0 0):=b2.cell 3
 have d4:w2.cell? ⟨w.heap.size,4,none⟩=some (.int .i64 0):=b2.cell 4
 have d5:w2.cell? ⟨w.heap.size,5,none⟩=some (.int .i64 0):=b2.cell 5
 have d6:w2.cell? ⟨w.heap.size,6,none⟩=some (.bool false):=b2.cell 6
 have d7:w2.cell? ⟨w.heap.size,7,none⟩=some (.int .u8 0):=b2.cell 7
 have d8:w2.cell? ⟨w.heap.size,8,none⟩=some (.slice none 0 0):=b2.cell 8
 have f0:=b2.frozen 0
 have f1:=b2.frozen 1
 have hvs:(verbS 1).toList=[78,79,79,80]:=by rw [ByteArray.toList_eq]; rfl
 clear c0 c1 n1 n2 b1
 go_wp2_with fail
 refine (same_zero _).mono ?_
 rintro e w3 ⟨rfl,n3⟩
 go_wp2
 go_ret
 exact ⟨rfl,(New.one n02 (((One.refl w.heap.size w2).set 0 _).set 1 _) (Nat.le_refl _)).trans n3⟩
end Go.Proofs.YtliimglbbiebiaaGreatDoor
end

section
namespace Go.Proofs.YtliimglbbiebiaaGreatDoor
open Go.RowKit Go.Maps
section
variable {w0 W w w' w'':World} {base:Nat} {S S':Sx} {Q Q':Qs} {M M':List Msg} {n t f n' t' f':Int} {i:Int} {xs:Nat} {o o':Vo} {m d:Nat} {R:Nat→Prop} {b b':Bool} {bs OB:Nat} {vo vo':Value} {lo lo':List Rsp}
def CodeA (c:Int):Prop:=c=0∨c=2∨c=5∨c=6
theorem of_app (c:Int) (hc:CodeA c) (x:ByteArray) (hx:x.size≤100) (w:World):Calls Tryz.prog 99 #[.int .i64 c,.string x] w fun e w'=>∃ st tx,e=.returned (.agg #[.int .i64 st,.string tx])∧((0≤st∧st≤2)∧tx.size≤300)∧New w w':=by
 have h2:CodeF c→Calls Tryz.prog 99 #[.int .i64 c,.string x] w fun e w'=>∃ st tx,e=.returned (.agg #[.int .i64 st,.string tx])∧((0≤st∧st≤2)∧tx.size≤300)∧New w w':=fun h =>
  (of_some c h x w).mono fun e w' ⟨st,tx,h1,h2,h3,h4⟩=>⟨st,tx,h1,⟨h2,by omega⟩,h4⟩
 have h1:c=5∨c=6→Calls Tryz.prog 99 #[.int .i64 c,.string x] w fun e w'=>∃ st tx,e=.returned (.agg #[.int .i64 st,.string tx])∧((0≤st∧st≤2)∧tx.size≤300)∧New w w':=fun h =>
  (of_no c h x w).mono fun e w' ⟨h1,h4⟩=>⟨1,codeS c,h1,⟨by omega,by rcases h with rfl | rfl <;> decide⟩,h4⟩
 rcases hc with rfl | rfl | h | h
 · exact h2 (.inl rfl)
 · exact h2 (.inr (.inl rfl))
 · exact h1 (.inl h)
 · exact h1 (.inr h)
theorem sappend_so (H:SO w0 base w S Q M n t f i xs o b) (hn:n≤5000) (hQ:∀ j ∈ Q.ids,(Q.l j).length≤90000000) (fl:Int) (hf:0≤fl) (A:Option Addr) (len c:Nat) (body:List Int) (hb:Rd (intE .u8) w (.slice A len c) body)
 (hfar:∀ b,Value.ownBlock (.slice A len c)=some b→body≠[]→¬ S.foot Q b) :
 Calls Tryz.prog 98 #[.pointer (some ⟨S.s,0,none⟩),.int .u8 fl,.slice A len c] w fun e w'=>∃ (u:Nat) (cd:Int),e=.returned (.tuple #[.int .u32 u,.int .i64 cd])∧u≤5000∧CodeA cd ∧
  ∃ S' Q' M' n' t',SO w0 base w' S' Q' M' n' t' f i xs o b∧OpS w w' S Q n i xs o 1 1 (fun _=>False) S' Q' n' o∧∀ j ∈ Q'.ids,(Q'.l j).length≤91000000:=by
 have hlen:len=body.length:=by
  obtain ⟨_,_,e,_⟩:=hb
  injection e
 have hsame:∀ {w'},New w w'→∃ S' Q' M' n' t',SO w0 base w' S' Q' M' n' t' f i xs o b∧OpS w w' S Q n i xs o 1 1 (fun _=>False) S' Q' n' o∧∀ j ∈ Q'.ids,(Q'.l j).length≤91000000:=fun hw =>
  ⟨S,Q,M,n,t,H.new hw,(OpS.refl hw).weak (by omega) (by omega) fun _ _ h=>h,fun j hj=>by have:=hQ j hj; omega⟩
 have hst:=H.st
 by_cases h1:31 < fl∨65536 < len
 · refine (sappend_range S.s w fl A len c h1).mono ?_
   rintro e w' ⟨rfl,hw⟩
   exact ⟨0,2,rfl,by omega,.inr (.inl rfl),hsame hw⟩
 by_cases h2:(M.length:Int)=S.cap
 · refine (sappend_full hst h2 fl (by omega) A len c (by omega)).mono ?_
   rintro e w' ⟨rfl,hw⟩
   exact ⟨0,5,rfl,by omega,.inr (.inr (.inl rfl)),hsame hw⟩
 have hn1:=hst.n1
 have hlt:(M.length:Int) < S.cap:=by have:=hst.len; omega
 refine (sappend_any hst hlt (by omega) (fun j hj=>by have:=hQ j hj; omega) fl ⟨hf,by omega⟩ A len c body hb (by omega) hfar).mono ?_
 rintro e w' ⟨rfl,u',v',hst',hf',hu',hv'⟩
 obtain ⟨nN,rfl⟩:∃ nN:Nat,n=nN:=⟨n.toNat,by omega⟩
 have hp:=append_stp (p:=fun _=>true) (ev:=⟨1,nN,0⟩) hf' hu' hv'
 have hev:EvOk ((nN:Int) + 1) ⟨1,nN,0⟩:=⟨by dsimp only; omega,⟨by dsimp only; omega,by dsimp only; omega⟩,by dsimp only; omega⟩
 have hoth:∀ j,∃ L,(Q.told (fun _=>true) ⟨1,nN,0⟩ v').l j=Q.l j ++ L∧L.length≤1∧∀ e ∈ L,EvOk ((nN:Int) + 1) e:=fun j =>
  ⟨[⟨1,nN,0⟩],by simp [Qs.told,toldL],by simp,fun e he=>by rw [List.mem_singleton.1 he]; exact hev⟩
 refine ⟨nN,0,rfl,by omega,.inl rfl,_,_,_,_,_,H.turn hst' rfl hf' (fun k hk=>H.far k hk) hp.gr (by omega) Iff.rfl (fun e he=>?_),{ s:=rfl,cap:=rfl,fr:=hf'.mono fun _ _ h=>.inl h,gr:=hp.gr,mg:=fun _ h=>.inl h,nn:=by omega,oth:=fun j _=>⟨Iff.rfl,hoth j⟩,own:=?_ },fun j hj=>?_⟩
 · obtain ⟨L,e1,_,e3⟩:=hoth i
   rw [e1] at he
   exact (List.mem_append.1 he).imp id (e3 e)
 · obtain ⟨L,e1,e2,_⟩:=hoth i
   rw [e1,List.length_append]
   omega
 · obtain ⟨L,e1,e2,_⟩:=hoth j
   have:=hQ j hj
   rw [e1,List.length_append]
   omega
def tryS:ByteArray:=⟨#[91,84,82,89,67,82,69,65,84,69,93,32,110,111,32,115,117,99,104,32,109,97,105,108,98,111,120]⟩
theorem SO.valid (H:SO w0 base w S Q M n t f i xs o b) (hst:STX w0 base w' { S with vv:=f,dd:=1 } Q M n t f) (ho:One S.c w w'):SO w0 base w' { S with vv:=f,dd:=1 } Q M n t f i xs o b :=
 H.turn hst rfl ho (fun k hk e=>H.far k hk (.inr (.inr (.inl e)))) (fun _ hk=>.inl hk) (Int.le_refl _) Iff.rfl fun _ h=>.inl h
theorem OpS.valid (ho:One S.c w w'):OpS w w' S Q n i xs o 0 0 R { S with vv:=f,dd:=1 } Q n o :=
 { s:=rfl,cap:=rfl,fr:=ho.mono fun _ _ e=>.inl (.inr (.inr (.inl e))),gr:=fun _ h=>.inl h,mg:=fun _ h=>.inl h,nn:=by omega,oth:=fun j _=>⟨Iff.rfl,[],by simp,by simp,by simp⟩,own:=by omega }
theorem xappend_any (fN:Nat) (hfN:fN < 4294967296) (hT:Tabs w0) (H0:SO w0 base W S Q M n t (fN:Int) i xs o false) (hn:n≤5000) (hQ:∀ j ∈ Q.ids,(Q.l j).length≤90000000) (c:Cmd) (hfl:0≤c.fl) (hm:c.m.size≤1000000) (body:List Int) (hb:Rd (intE .u8) W (.slice c.dA c.dn c.dc) body)
 (hfar:∀ b,Value.ownBlock (.slice c.dA c.dn c.dc)=some b→body≠[]→¬ S.foot Q b) (ho:OutI bs OB vo lo W) (hlo:lo.length≤1000) (hbb:base≤bs) (hbw:w0.heap.size≤bs) (hbs:bs≤W.heap.size) (hOB:base≤OB) (hOw:w0.heap.size≤OB) :
 Calls Tryz.prog 68 #[.pointer (some ⟨xs,0,none⟩),c.val,addV OB] W fun e W'=>OpR w0 base W W' S Q n (fN:Int) i xs o bs OB vo lo e:=by
 obtain ⟨WA,hWA,nA,cA,rA⟩:=boxes W c
 have HA:=H0.new nA
 have hWb:=H0.st.hb
 have hW0:=H0.st.new.size
 have hoA:=ho.new nA
 have k2:WA.cell? ⟨W.heap.size,2,none⟩=some (.string c.m):=cA.cell 2
 have HSM:=Lib.hid (same_any c.m inboxS hm (by decide) WA)
 have hbA:=hb.new nA
 have HX:=Lib.hid (And.intro hQ (And.intro hbA hfar))
 have H:=Lib.hid (And.intro HA (And.intro hoA (And.intro rA (And.intro nA cA))))
 clear H0 HA ho hoA rA cA nA hQ hb hbA hfar
 cases hs:sameB c.m inboxS
 · rw [hs] at HSM
   clear hs
   go_enter Tryz.func68,Tryz.ntmps68
   go_wp2_with fail
   rw [← hWA]
   clear hWA
   refine HSM.out.mono ?_
   rintro e w1 ⟨rfl,n1⟩
   have H1:=H.out.1.new n1
   have ho1:=H.out.2.1.new n1
   have R1:=n1.blk H.out.2.2.1
   have hsA:=H.out.2.2.2.1.size
   have hs1:=n1.size
   have HF:=Lib.hid (flush_so H1 true (by omega) fun j hj=>by have:=HX.out.1 j hj; omega)
   have HH:=Lib.hid (And.intro H1 (And.intro ho1 (And.intro n1 R1)))
   clear H1 ho1 n1 R1 HSM
   go_wp2_with fail
   refine HF.out.mono ?_
   rintro e w2 ⟨r2,lr,rfl,hown,hp,hll,Q2,o2,H2,k2',_⟩
   have ho2:=HH.out.2.1.ops k2' HH.out.1 hbb hOB
   have R2:=k2'.blk HH.out.1 HH.out.2.2.2 (by omega) id (by decide)
   have hs2:=k2'.fr.size
   have HAD:=Lib.hid (add_so H2 ho2 hown.rd (fun x hx=>(hp x hx).2.mono (by omega)) (by omega) (by omega) hbb hbw hOB hOw)
   have HH2:=Lib.hid (And.intro ho2 (And.intro k2' (And.intro R2 hp)))
   clear H2 ho2 k2' R2 hp hown HF
   go_wp2_with fail
   refine HAD.out.mono ?_
   rintro e w3 ⟨rfl,vo3,ho3,H3,f3,_⟩
   have R3:=f3.blk HH2.out.2.2.1 (by
    rintro (e | e)
    · exact HH2.out.2.2.1.ne_ HH2.out.1.b (by decide) e
    · exact HH2.out.1.r.ne_blk HH2.out.2.2.1 (by decide) e)
   have c0:w3.cell? ⟨W.heap.size + 1,0,none⟩=some (.int .i64 0):=R3.cell 0
   have c1:w3.cell? ⟨W.heap.size + 1,1,none⟩=some (.string ⟨#[]⟩):=R3.cell 1
   have ff:=R3.froz
   go_wp2
   refine bodyPost_ret (results_cell1 rfl _ _ rfl (loadOut (R3.over2 (.int .i64 1) (.string tryS)))) rfl ?_
   have one:=One.over2 w3 (W.heap.size + 1) (.int .i64 1) (.string tryS)
   have g1:OpS W w3 S Q n i xs o (0 + 0 + 0) (0 + 0 + 0) (fun k=>k=OB∨vo.ownBlock=some k) S Q2 n o2:=((OpS.refl (H.out.2.2.2.1.trans HH.out.2.2.1)).trans HH2.out.2.1 fun _ h=>h.elim).trans (OpS.side f3) fun _ h=>.inl h
   refine opr_fin H3 g1 (by omega) (by omega) ho3 R3 (by omega) hWb hW0 one 1 tryS ⟨by omega,by decide⟩ (fun r hr=>?_) (by rw [List.length_append]; omega)
   exact (List.mem_append.1 hr).imp id fun h=>.inl (HH2.out.2.2.2 r h).1
 · rw [hs] at HSM
   clear hs
   go_enter Tryz.func68,Tryz.ntmps68
   go_wp2_with fail
   rw [← hWA]
   clear hWA
   refine HSM.out.mono ?_
   rintro e w1 ⟨rfl,n1⟩
   have H1:=H.out.1.new n1
   have ho1:=H.out.2.1.new n1
   have R1:=n1.blk H.out.2.2.1
   have C1:=n1.blk H.out.2.2.2.2
   have hsA:=H.out.2.2.2.1.size
   have hs1:=n1.size
   have x0:w1.cell? ⟨xs,0,none⟩=some (.pointer (some ⟨S.s,0,none⟩)):=H1.ses.cell 0
   have x7:w1.cell? ⟨W.heap.size,7,none⟩=some (.int .u8 c.fl):=C1.cell 7
   have x8:w1.cell? ⟨W.heap.size,8,none⟩=some (.slice c.dA c.dn c.dc):=C1.cell 8
   have HAP:Hid (∀ W2,New w1 W2→_):=Lib.hid fun W2 (h2:New w1 W2)=>sappend_so (H1.new h2) hn HX.out.1 c.fl hfl c.dA c.dn c.dc body ((HX.out.2.1.new n1).new h2) HX.out.2.2
   have HH:=Lib.hid (And.intro H1 (And.intro ho1 (And.intro n1 (And.intro R1 C1))))
   clear H1 ho1 n1 R1 C1 HSM
   go_wp2_with fail
   go_region_held3 (fun W'=>W'.cell? ⟨xs,0,none⟩=some (.pointer (some ⟨S.s,0,none⟩))∧W'.cell? ⟨W.heap.size,7,none⟩=some (.int .u8 c.fl)∧W'.cell? ⟨W.heap.size,8,none⟩=some (.slice c.dA c.dn c.dc)) (first | go_keep | (refine ⟨?_,?_,?_⟩ <;> assumption)) ((first
    | (go_at_call 98
       have hnq:New w1 w1.drew:=Fr.drew (New.refl w1)
       refine (HAP.out _ hnq).mono ?_
       rintro e w2 ⟨uN,cd,rfl,huN,hcd,S2,Q2,M2,n2,t2,H2,k2,hQ2⟩
       have H1d:=HH.out.1.new hnq
       have hoD:=HH.out.2.1.new hnq
       have ho2:=hoD.ops k2 H1d hbb hOB
       have R2:=k2.blk H1d (hnq.blk HH.out.2.2.2.1) (by omega) id (by decide)
       have C2:=k2.blk H1d (hnq.blk HH.out.2.2.2.2) (by omega) id (by decide)
       have p0:w2.cell? ⟨xs,0,none⟩=some (.pointer (some ⟨S.s,0,none⟩)):=by rw [← k2.s]; exact H2.ses.cell 0
       have p7:w2.cell? ⟨W.heap.size,7,none⟩=some (.int .u8 c.fl):=C2.cell 7
       have p8:w2.cell? ⟨W.heap.size,8,none⟩=some (.slice c.dA c.dn c.dc):=C2.cell 8
       have H2':=Lib.hid (And.intro H2 (And.intro k2 (And.intro ho2 (And.intro R2 (And.intro hQ2 (And.intro hcd (And.intro huN hnq)))))))
       clear H2 k2 ho2 R2 C2 hQ2 hcd huN H1d hoD hnq)
    | fail))
   have hs2:=H2'.out.2.1.fr.size
   have hsd:w1.drew.heap.size=w1.heap.size:=rfl
   have hn2:=H2'.out.2.1.nn
   have HF:=Lib.hid (flush_so H2'.out.1 true (by omega) fun j hj=>by have:=H2'.out.2.2.2.2.1 j hj; omega)
   go_wp2_with fail
   refine HF.out.mono ?_
   rintro e w3 ⟨r3,lr,rfl,hown,hp,hll,Q3,o3,H3,k3,_⟩
   have ho3:=H2'.out.2.2.1.ops k3 H2'.out.1 hbb hOB
   have R3:=k3.blk H2'.out.1 H2'.out.2.2.2.1 (by omega) id (by decide)
   have hs3:=k3.fr.size
   have HAD:=Lib.hid (add_so H3 ho3 hown.rd (fun x hx=>(hp x hx).2.mono (by omega)) (by omega) (by omega) hbb hbw hOB hOw)
   have HH3:=Lib.hid (And.intro ho3 (And.intro k3 (And.intro R3 hp)))
   clear H3 ho3 k3 R3 hp hown HF
   go_wp2_with fail
   refine HAD.out.mono ?_
   rintro e w4 ⟨rfl,vo4,ho4,H4,f4,hv4⟩
   have R4:=f4.blk HH3.out.2.2.1 (by
    rintro (e | e)
    · exact HH3.out.2.2.1.ne_ HH3.out.1.b (by decide) e
    · exact HH3.out.1.r.ne_blk HH3.out.2.2.1 (by decide) e)
   have hs4:=f4.size
   have x0:w4.cell? ⟨xs,0,none⟩=some (.pointer (some ⟨S2.s,0,none⟩)):=H4.ses.cell 0
   have HVA:=Lib.hid (svalid_any H4.st)
   have HH4:=Lib.hid (And.intro H4 (And.intro ho4 (And.intro R4 (And.intro f4 hv4))))
   clear H4 ho4 R4 f4 hv4
   go_wp2_with fail
   refine HVA.out.mono ?_
   rintro e w5 ⟨rfl,st5,o5⟩
   have H5:=HH4.out.1.valid st5 o5
   have hnc:∀ k ty cs,Blk w4 k ty cs→ty≠155→¬ k=S2.c:=fun k ty cs hb ht e=>hb.ne_ HH4.out.1.st.ctr ht e
   have R5:=o5.blk HH4.out.2.2.1 (hnc _ _ _ HH4.out.2.2.1 (by decide))
   have ho5:=HH4.out.2.1.fr o5 fun k ty cs hb _ ht=>hnc k ty cs hb (by rcases ht with rfl | rfl | rfl <;> decide)
   have HD:=Lib.hid (decimal_any fN hfN w5 (hT.new H5.st.new))
   have d1:=decS_size fN hfN
   have huN:=H2'.out.2.2.2.2.2.2.1
   have d2:=decS_size uN (by omega)
   have z1:ByteArray.size ⟨#[91,65,80,80,69,78,68,85,73,68,32]⟩=11:=rfl
   have z2:ByteArray.size ⟨#[32]⟩=1:=rfl
   have z3:ByteArray.size ⟨#[93,32,65,80,80,69,78,68,32,99,111,109,112,108,101,116,101,100]⟩=18:=rfl
   have a1:¬ 9223372036854775807 < 11 + (decS fN).size:=by omega
   have a2:¬ 9223372036854775807 < 11 + (decS fN).size + 1:=by omega
   have a3:¬ 9223372036854775807 < 11 + (decS fN).size + 1 + (decS uN).size:=by omega
   have a4:¬ 9223372036854775807 < 11 + (decS fN).size + 1 + (decS uN).size + 18:=by omega
   have HH5:=Lib.hid (And.intro H5 (And.intro ho5 (And.intro R5 (And.intro o5 hnc))))
   have HDS:=Lib.hid (And.intro d1 d2)
   clear H5 ho5 R5 o5 hnc st5 d1 d2
   go_wp2_with fail
   refine HD.out.mono ?_
   rintro e w6 ⟨rfl,n6⟩
   have HD2:=Lib.hid (decimal_any uN (by omega) w6 (hT.new (HH5.out.1.new n6).st.new))
   go_wp2_with fail
   refine HD2.out.mono ?_
   rintro e w7 ⟨rfl,n7⟩
   go_wp2_with fail
   refine (of_app cd H2'.out.2.2.2.2.2.1 _ (by
    have:=HDS.out.1
    have:=HDS.out.2
    simp only [ByteArray.size_append]
    omega) w7).mono ?_
   rintro e w8 ⟨st,tx,rfl,hst,n8⟩
   have N8:New w5 w8:=(n6.trans n7).trans n8
   have R8:=N8.blk HH5.out.2.2.1
   have t0:w8.cell? ⟨W.heap.size + 1,0,none⟩=some (.int .i64 0):=R8.cell 0
   have t1:w8.cell? ⟨W.heap.size + 1,1,none⟩=some (.string ⟨#[]⟩):=R8.cell 1
   have tf:=R8.froz
   have HN8:=Lib.hid N8
   clear n6 n7 n8 N8
   go_wp2
   refine bodyPost_ret (results_cell1 rfl _ _ rfl (loadOut (R8.over2 (.int .i64 st) (.string tx)))) rfl ?_
   have one:=One.over2 w8 (W.heap.size + 1) (.int .i64 st) (.string tx)
   have g1:OpS W w3 S Q n i xs o (0 + 1 + 0) (0 + 1 + 0) (fun k=>k=OB∨vo.ownBlock=some k) S2 Q3 n2 o3:=((OpS.refl ((H.out.2.2.2.1.trans HH.out.2.2.1).trans H2'.out.2.2.2.2.2.2.2)).trans H2'.out.2.1 fun _ h=>h.elim).trans HH3.out.2.1 fun _ h=>h.elim
   have g2:=g1.trans (OpS.side HH4.out.2.2.2.1) fun _ h=>.inl h
   have g3:=(g2.trans (OpS.valid (R:=fun _=>False) (f:=(fN:Int)) HH5.out.2.2.2.1) fun _ h=>h.elim).trans (OpS.refl (R:=fun _=>False) HN8.out) fun _ h=>h.elim
   refine opr_fin (HH5.out.1.new HN8.out) g3 (by omega) (by omega) (HH5.out.2.1.new HN8.out) R8 (by omega) hWb hW0 one st tx hst (fun r hr=>?_) (by rw [List.length_append]; omega)
   exact (List.mem_append.1 hr).imp id fun h=>.inl (HH3.out.2.2.2 r h).1
end
end Go.Proofs.YtliimglbbiebiaaGreatDoor
end

section
namespace Go.Proofs.YtliimglbbiebiaaGreatDoor
open Go.RowKit Go.Maps
end Go.Proofs.YtliimglbbiebiaaGreatDoor
end

section
namespace Go.Proofs.YtliimglbbiebiaaGreatDoor
open Go.RowKit Go.Maps
theorem snext_any {w0 w:World} {base:Nat} {S:Sx} {Q:Qs} {M:List Msg} {n t f:Int} (h:STX w0 base w S Q M n t f):Calls Tryz.prog 21 #[.pointer (some ⟨S.s,0,none⟩)] w fun e w'=>e=.returned (.int .u32 n)∧w=w':=by
 have e1:w.cell? ⟨S.s,1,none⟩=some (.pointer (some ⟨S.c,0,none⟩)):=h.hd.cell 1
 have HN:=Lib.hid (next_any h.ctr)
 clear h
 go_enter Tryz.func21,Tryz.ntmps21
 go_wp2_with fail
 refine HN.out.mono ?_
 rintro e w5 ⟨rfl,rfl⟩
 go_wp2
 go_ret
 exact ⟨rfl,rfl⟩
end Go.Proofs.YtliimglbbiebiaaGreatDoor
end

section
namespace Go.Proofs.YtliimglbbiebiaaGreatDoor
open Go.RowKit Go.Maps
def infoS (a:ByteArray) (n:Nat) (b:ByteArray):ByteArray:=⟨#[91]⟩ ++ a ++ ⟨#[32]⟩ ++ decS n ++ ⟨#[93,32]⟩ ++ b
abbrev infoR (a:ByteArray) (n:Nat) (b:ByteArray):Rsp:=⟨6,0,⟨#[]⟩,0,infoS a n b,0,0,0,0,none,0,0⟩
theorem info_any (a b:ByteArray) (ha:a.size≤1000) (hb:b.size≤1000) (n:Nat) (hn:n < 4294967296) (w:World) (hT:Tabs w):Calls Tryz.prog 93 #[.string a,.int .u32 n,.string b] w fun e w'=>e=.returned (infoR a n b).val∧New w w':=by
 have HT:=Lib.hid hT
 have hd:=decS_size n hn
 have z1:ByteArray.size ⟨#[91]⟩=1:=rfl
 have z2:ByteArray.size ⟨#[32]⟩=1:=rfl
 have z3:ByteArray.size ⟨#[93,32]⟩=2:=rfl
 have a1:¬ 9223372036854775807 < 1 + a.size:=by omega
 have a2:¬ 9223372036854775807 < 1 + a.size + 1:=by omega
 have a3:¬ 9223372036854775807 < 1 + a.size + 1 + (decS n).size:=by omega
 have a4:¬ 9223372036854775807 < 1 + a.size + 1 + (decS n).size + 2:=by omega
 have a5:¬ 9223372036854775807 < 1 + a.size + 1 + (decS n).size + 2 + b.size:=by omega
 clear hT
 go_enter Tryz.func93,Tryz.ntmps93
 go_wp2_with fail
 refine (decimal_any n hn _ (HT.out.new ((New.refl w).alloc _))).mono ?_
 rintro e w1 ⟨rfl,n1⟩
 have r1:=n1.blk (Blk.new w 53 #[.int .i64 0,.int .u32 0,.string ⟨#[]⟩,.int .i64 0,.string ⟨#[]⟩,.int .i64 0,.int .u8 0,.int .u32 0,.int .u32 0,.slice none 0 0])
 obtain ⟨q0,q1,q2,q3,q4,q5,q6,q7,q8,q9⟩:=r1.all10
 have ff:=r1.froz
 have N1:=Lib.hid (((New.refl w).alloc _).trans n1)
 clear n1
 go_wp2
 have hR:=r1.over10 (.int .i64 6) (.int .u32 0) (.string ⟨#[]⟩) (.int .i64 0) (.string (infoS a n b)) (.int .i64 0) (.int .u8 0) (.int .u32 0) (.int .u32 0) (.slice none 0 0)
 have hO:=One.over10 w1 w.heap.size (.int .i64 6) (.int .u32 0) (.string ⟨#[]⟩) (.int .i64 0) (.string (infoS a n b)) (.int .i64 0) (.int .u8 0) (.int .u32 0) (.int .u32 0) (.slice none 0 0)
 exact bodyPost_ret (results_cell1 rfl _ _ rfl (loadR hR)) rfl ⟨rfl,New.one N1.out hO (Nat.le_refl _)⟩
abbrev infR (s:ByteArray):Rsp:=⟨6,0,⟨#[]⟩,0,s,0,0,0,0,none,0,0⟩
section
variable {w0 w w':World} {base:Nat} {S:Sx} {Q:Qs} {M:List Msg} {n t f:Int} {xs v x:Nat} {u:Value} {l:List Int}
theorem rd_row {α:Type} {E:Elem α} {w:World} {g:Nat} {t:TypeId} {l:List α} (h:Blk w g t (E.cells l).toArray):Rd E w (.slice (some ⟨g,0,none⟩) l.length l.length) l:=by
 refine ⟨_,l.length,rfl,Nat.le_refl _,fun _=>⟨g,0,rfl,fun i y hy j u hu=>?_⟩⟩
 have:=h.cell (i * E.sz + j)
 rw [Nat.zero_add,this]
 have:=E.cells_at hy hu
 simpa using this
theorem count_zero (k:Int) (w:World):Calls Tryz.prog 95 #[.int .i64 k,.int .i64 0] w fun e w'=>e=.returned (.agg #[.int .i64 k,.int .u32 0,.string ⟨#[]⟩,.int .i64 0,.string ⟨#[]⟩,.int .i64 0,.int .u8 0,.int .u32 0,.int .u32 0,.slice none 0 0])∧New w w':=count_rsp k 0 (by omega) w
end
end Go.Proofs.YtliimglbbiebiaaGreatDoor
end

