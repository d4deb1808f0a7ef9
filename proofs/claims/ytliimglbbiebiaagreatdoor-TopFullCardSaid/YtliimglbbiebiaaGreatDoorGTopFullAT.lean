/- A part of the proof: TopShelf, Top0, Cmd1. -/
import Derived.Shelf.Small.Strs
import Derived.Shelf.Small.Wraps
import Derived.Shelf.Strconv.Itoa0
import Derived.Shelf.Strconv.Itoa1
import Derived.Shelf.LaysM
import Derived.Shelf.Strconv.Itoa2
import Derived.Shelf.Strings.Fields
import Derived.Shelf.Slices.Turned
import Derived.Shelf.Slices.Equal
import Derived.Shelf.Bytes.SlIndexSmall
import Derived.Shelf.Bytes.SlIndexAt
import Derived.Shelf.Bytes.SlIndexWhole
import Derived.Shelf.Bytes.SlSmallAll
import Derived.Shelf.Bytes.IndexByte
import Derived.Test.YtliimglbbiebiaaGreatDoorProg
import Derived.Test.YtliimglbbiebiaaGreatDoorGTopFullAS
import Derived.Lib.ItoaMem
import Derived.Lib.ItoaWalk
import Derived.Lib.LaidTab
import Derived.Lib.LaidU8
import Derived.Lib.BufferRead
import Derived.Lib.MinMax

section
/- The library contracts that the top laws' walks use, at this program: the numbers, compared by the kernel. Written by the kit's lay-plain. -/
namespace Go.Proofs.YtliimglbbiebiaaGreatDoor
open Go.Shelf Go.Proofs
def Tryz.lays137_ren : Go.Shelf.Ren := ⟨fun | 137 => 444 | 217 => 459 | 266 => 464 | n => n, fun | 9 => 9 | 5 => 5 | 3 => 3 | n => n, fun | n => n⟩
theorem Tryz.lays137 : Go.Proofs.Lays.n137 Tryz.prog Tryz.lays137_ren := {
  mixed := by kernel_rfl
  f137 := Tryz.func444.trans (congrArg some (by kernel_rfl))
  f217 := Tryz.func459.trans (congrArg some (by kernel_rfl))
  f266 := Tryz.func464.trans (congrArg some (by kernel_rfl))
  t3 := Tryz.underlying3
  a3 := Tryz.isAgg3
  z3 := Tryz.sizeOf3
  v3 := Tryz.zeroValue3
  t5 := Tryz.underlying5
  a5 := Tryz.isAgg5
  z5 := Tryz.sizeOf5
  v5 := Tryz.zeroValue5
  t9 := Tryz.underlying9
  a9 := Tryz.isAgg9
  z9 := Tryz.sizeOf9
  v9 := Tryz.zeroValue9 }
open Go.RowKit in
/-- strings.IndexByte: "IndexByte returns the index of the first instance of c in s, or -1 if c is not present in s.": IT RETURNS 'Lib.indexByte s c'; the world is as it was. (LAID: no walk: one application.) -/
theorem Tryz.strings_IndexByte (s : ByteArray) (c : Int) (w : World) :
    Calls Tryz.prog 444 #[.string s, .int .u8 c] w fun e w' => e = .returned (.int .i64 (Lib.indexByte s.data.toList c.toNat.toUInt8)) ∧ w' = w := Any.strings_IndexByte Tryz.lays137 s c w
def Tryz.lays283_ren : Go.Shelf.Ren := ⟨fun | 283 => 230 | n => n, fun | 3 => 3 | 9 => 9 | 4 => 4 | n => n, fun | n => n⟩
theorem Tryz.lays283 : Go.Proofs.Lays.n283 Tryz.prog Tryz.lays283_ren := {
  mixed := by kernel_rfl
  f283 := Tryz.func230.trans (congrArg some (by kernel_rfl))
  t3 := Tryz.underlying3
  a3 := Tryz.isAgg3
  z3 := Tryz.sizeOf3
  v3 := Tryz.zeroValue3
  t4 := Tryz.underlying4
  a4 := Tryz.isAgg4
  z4 := Tryz.sizeOf4
  v4 := Tryz.zeroValue4
  t9 := Tryz.underlying9
  a9 := Tryz.isAgg9
  z9 := Tryz.sizeOf9
  v9 := Tryz.zeroValue9 }
open Go.Lib in
/-- internal/strconv.small: "small returns the string for an i with 0 <= i < nSmalls.": i's decimal numeral. The world is as it was. (LAID: no walk: one application.) -/
theorem Tryz.internal_strconv_small (i : Nat) (h : i < 100) (w : World) :
    Calls Tryz.prog 230 #[.int .i64 i] w fun e w' => e = .returned (.string ⟨(Lib.decDigits i).toArray⟩) ∧ w' = w := Any.internal_strconv_small Tryz.lays283 i h w
def Tryz.laysM284_ren : Go.Shelf.Ren := ⟨fun | 284 => 231 | 129 => 172 | 317 => 290 | 318 => 291 | n => n, fun | 53 => 146 | 3 => 3 | 212 => 400 | 0 => 0 | 4 => 4 | 46 => 214 | 5 => 5 | 9 => 9 | n => n, fun | 17 => 3 | n => n⟩
theorem Tryz.laysM284 : Go.Proofs.LaysM.n284 Tryz.prog Tryz.laysM284_ren := {
  mixed := by kernel_rfl
  f129 := Tryz.func172.trans (congrArg some (by kernel_rfl))
  f284 := Tryz.func231.trans (congrArg some (by kernel_rfl))
  f317 := Tryz.func290.trans (congrArg some (by kernel_rfl))
  f318 := Tryz.func291.trans (congrArg some (by kernel_rfl))
  t0 := Tryz.underlying0
  a0 := Tryz.isAgg0
  z0 := Tryz.sizeOf0
  v0 := Tryz.zeroValue0
  t3 := Tryz.underlying3
  a3 := Tryz.isAgg3
  z3 := Tryz.sizeOf3
  v3 := Tryz.zeroValue3
  t4 := Tryz.underlying4
  a4 := Tryz.isAgg4
  z4 := Tryz.sizeOf4
  v4 := Tryz.zeroValue4
  t5 := Tryz.underlying5
  a5 := Tryz.isAgg5
  z5 := Tryz.sizeOf5
  v5 := Tryz.zeroValue5
  t9 := Tryz.underlying9
  a9 := Tryz.isAgg9
  z9 := Tryz.sizeOf9
  v9 := Tryz.zeroValue9
  t46 := Tryz.underlying214
  a46 := Tryz.isAgg214
  z46 := Tryz.sizeOf214
  v46 := Tryz.zeroValue214
  t53 := Tryz.underlying146
  a53 := Tryz.isAgg146
  z53 := Tryz.sizeOf146
  v53 := Tryz.zeroValue146
  t212 := Tryz.underlying400
  a212 := Tryz.isAgg400
  z212 := Tryz.sizeOf400
  v212 := Tryz.zeroValue400
  g17 := by kernel_rfl
  i0 := by kernel_rfl
  i3 := by kernel_rfl
  i4 := by kernel_rfl
  i5 := by kernel_rfl
  i9 := by kernel_rfl
  i46 := by kernel_rfl
  i53 := by kernel_rfl
  i212 := by kernel_rfl
  m17 := by kernel_rfl }
open Go.Lib in
/-- internal/strconv.numDigits, at a d that is not 0: THE NUMBER OF d's DECIMAL DIGITS. The world is as it was. (LAID: no walk: one application.) -/
theorem Tryz.internal_strconv_numDigits (u : Nat) (h1 : 1 ≤ u) (h2 : u < 18446744073709551616) (w : World) (htab : Lib.TabIs Tryz.prog w "internal/strconv.uint64pow10" .u64 Lib.pow10Tab) :
    Calls Tryz.prog 231 #[.int .u64 u] w fun e w' => e = .returned (.int .i64 (Lib.nDigits u)) ∧ w' = w := Any.internal_strconv_numDigits Tryz.laysM284 u h1 h2 w htab
def Tryz.lays285_ren : Go.Shelf.Ren := ⟨fun | 285 => 232 | n => n, fun | 37 => 23 | 53 => 146 | 3 => 3 | 4 => 4 | 51 => 28 | 9 => 9 | 5 => 5 | 0 => 0 | n => n, fun | n => n⟩
theorem Tryz.lays285 : Go.Proofs.Lays.n285 Tryz.prog Tryz.lays285_ren := {
  mixed := by kernel_rfl
  f285 := Tryz.func232.trans (congrArg some (by kernel_rfl))
  t0 := Tryz.underlying0
  a0 := Tryz.isAgg0
  z0 := Tryz.sizeOf0
  v0 := Tryz.zeroValue0
  t3 := Tryz.underlying3
  a3 := Tryz.isAgg3
  z3 := Tryz.sizeOf3
  v3 := Tryz.zeroValue3
  t4 := Tryz.underlying4
  a4 := Tryz.isAgg4
  z4 := Tryz.sizeOf4
  v4 := Tryz.zeroValue4
  t5 := Tryz.underlying5
  a5 := Tryz.isAgg5
  z5 := Tryz.sizeOf5
  v5 := Tryz.zeroValue5
  t9 := Tryz.underlying9
  a9 := Tryz.isAgg9
  z9 := Tryz.sizeOf9
  v9 := Tryz.zeroValue9
  t37 := Tryz.underlying23
  a37 := Tryz.isAgg23
  z37 := Tryz.sizeOf23
  v37 := Tryz.zeroValue23
  t51 := Tryz.underlying28
  a51 := Tryz.isAgg28
  z51 := Tryz.sizeOf28
  v51 := Tryz.zeroValue28
  t53 := Tryz.underlying146
  a53 := Tryz.isAgg146
  z53 := Tryz.sizeOf146
  v53 := Tryz.zeroValue146 }
open Go.RowKit Go.Sort Go.Lib in
/-- internal/strconv.formatBase10: "formatBase10 formats the decimal representation of u into a. The caller is responsible for ensuring that a is big enough to hold u. If a is too big, leading zeros will be filled in as needed.": THE ROW HOLDS u's DIGITS ('FmtInv .. 0 ..': every place t holds 'dg u (len - 1 - t)'); all else is as it was but for the count of draws. (LAID: no walk: one application.) -/
theorem Tryz.internal_strconv_formatBase10 (blk off cap : Nat) (u : Nat) (d : Array UInt8) (w : World) (hH : Holds (fun (b : UInt8) => Value.int .u8 (b.toNat : Int)) w blk off d) (hu : u < 10 ^ d.size) (hu64 : u < 18446744073709551616) (hsz : d.size < 4611686018427387904) :
    Calls Tryz.prog 232 #[.slice (some ⟨blk, off, none⟩) d.size cap, .int .u64 u] w fun e w' =>
      e = .returned (.tuple #[]) ∧ ∃ (n v' : Nat) (dk : Array UInt8), w' = (putRow (fun (b : UInt8) => Value.int .u8 (b.toNat : Int)) w blk off dk).drewN n ∧ FmtInv d.size u 0 v' dk := Any.internal_strconv_formatBase10 Tryz.lays285 blk off cap u d w hH hu hu64 hsz
def Tryz.lays157_ren : Go.Shelf.Ren := ⟨fun | 157 => 86 | 229 => 121 | 199 => 122 | 261 => 173 | 311 => 224 | 312 => 225 | n => n, fun | 9 => 9 | 31 => 187 | 3 => 3 | 5 => 5 | 4 => 4 | 119 => 218 | 0 => 0 | 40 => 220 | 152 => 270 | 21 => 21 | 154 => 272 | 51 => 28 | 141 => 274 | 196 => 340 | 193 => 337 | 198 => 343 | 49 => 341 | 194 => 338 | 201 => 346 | 226 => 394 | 46 => 214 | 227 => 395 | n => n, fun | 0 => 0 | 6 => 1 | n => n⟩
theorem Tryz.lays157 : Go.Proofs.Lays.n157 Tryz.prog Tryz.lays157_ren := {
  mixed := by kernel_rfl
  f157 := Tryz.func86.trans (congrArg some (by kernel_rfl))
  f199 := Tryz.func122.trans (congrArg some (by kernel_rfl))
  f229 := Tryz.func121.trans (congrArg some (by kernel_rfl))
  f261 := Tryz.func173.trans (congrArg some (by kernel_rfl))
  f311 := Tryz.func224.trans (congrArg some (by kernel_rfl))
  f312 := Tryz.func225.trans (congrArg some (by kernel_rfl))
  t0 := Tryz.underlying0
  a0 := Tryz.isAgg0
  z0 := Tryz.sizeOf0
  v0 := Tryz.zeroValue0
  t3 := Tryz.underlying3
  a3 := Tryz.isAgg3
  z3 := Tryz.sizeOf3
  v3 := Tryz.zeroValue3
  t4 := Tryz.underlying4
  a4 := Tryz.isAgg4
  z4 := Tryz.sizeOf4
  v4 := Tryz.zeroValue4
  t5 := Tryz.underlying5
  a5 := Tryz.isAgg5
  z5 := Tryz.sizeOf5
  v5 := Tryz.zeroValue5
  t9 := Tryz.underlying9
  a9 := Tryz.isAgg9
  z9 := Tryz.sizeOf9
  v9 := Tryz.zeroValue9
  t21 := Tryz.underlying21
  a21 := Tryz.isAgg21
  z21 := Tryz.sizeOf21
  v21 := Tryz.zeroValue21
  t31 := Tryz.underlying187
  a31 := Tryz.isAgg187
  z31 := Tryz.sizeOf187
  v31 := Tryz.zeroValue187
  t40 := Tryz.underlying220
  a40 := Tryz.isAgg220
  z40 := Tryz.sizeOf220
  v40 := Tryz.zeroValue220
  t46 := Tryz.underlying214
  a46 := Tryz.isAgg214
  z46 := Tryz.sizeOf214
  v46 := Tryz.zeroValue214
  t49 := Tryz.underlying341
  a49 := Tryz.isAgg341
  z49 := Tryz.sizeOf341
  v49 := Tryz.zeroValue341
  t51 := Tryz.underlying28
  a51 := Tryz.isAgg28
  z51 := Tryz.sizeOf28
  v51 := Tryz.zeroValue28
  t119 := Tryz.underlying218
  a119 := Tryz.isAgg218
  z119 := Tryz.sizeOf218
  t141 := Tryz.underlying274
  a141 := Tryz.isAgg274
  z141 := Tryz.sizeOf274
  v141 := Tryz.zeroValue274
  t152 := Tryz.underlying270
  a152 := Tryz.isAgg270
  z152 := Tryz.sizeOf270
  v152 := Tryz.zeroValue270
  t154 := Tryz.underlying272
  a154 := Tryz.isAgg272
  z154 := Tryz.sizeOf272
  v154 := Tryz.zeroValue272
  t193 := Tryz.underlying337
  a193 := Tryz.isAgg337
  z193 := Tryz.sizeOf337
  v193 := Tryz.zeroValue337
  t194 := Tryz.underlying338
  a194 := Tryz.isAgg338
  z194 := Tryz.sizeOf338
  v194 := Tryz.zeroValue338
  t196 := Tryz.underlying340
  a196 := Tryz.isAgg340
  z196 := Tryz.sizeOf340
  v196 := Tryz.zeroValue340
  t198 := Tryz.underlying343
  a198 := Tryz.isAgg343
  z198 := Tryz.sizeOf343
  v198 := Tryz.zeroValue343
  t201 := Tryz.underlying346
  a201 := Tryz.isAgg346
  z201 := Tryz.sizeOf346
  v201 := Tryz.zeroValue346
  t226 := Tryz.underlying394
  a226 := Tryz.isAgg394
  z226 := Tryz.sizeOf394
  v226 := Tryz.zeroValue394
  t227 := Tryz.underlying395
  a227 := Tryz.isAgg395
  z227 := Tryz.sizeOf395
  v227 := Tryz.zeroValue395
  g0 := by kernel_rfl
  g6 := by kernel_rfl }
open Go.RowKit Go.Lib in
/-- strings.Fields, the table by 'Lib.TabIs' (as strings.TrimSpace's contract). 'hg': the table's number, by its name: at a dump 'by kernel_rfl'. (LAID: no walk: one application.) -/
theorem Tryz.strings_Fields (s : ByteArray) (w : World) (hs : s.size < 4294967281) (hascii : ∀ (j : Nat) b, s.data.toList[j]? = some b → b.toNat < 128) (htab : Lib.TabIs Tryz.prog w "strings.asciiSpace" .u8 Lib.asciiSpaceTab) :
    Calls Tryz.prog 86 #[.string s] w fun e w' =>
      e = .returned (.slice (some ⟨w.heap.size, 0, none⟩) (Lib.fields s.data.toList).length (Lib.fields s.data.toList).length) ∧ w' = w.alloc (.cells ((Lib.fields s.data.toList).map fun l => Value.string ⟨l.toArray⟩).toArray 9) := Any.strings_Fields Tryz.lays157 (by kernel_rfl) (by kernel_rfl) s w hs hascii htab
def Tryz.lays107_ren : Go.Shelf.Ren := ⟨fun | 107 => 157 | 108 => 214 | n => n, fun | 28 => 31 | 3 => 3 | 4 => 4 | 0 => 0 | n => n, fun | n => n⟩
theorem Tryz.lays107 : Go.Proofs.Lays.n107 Tryz.prog Tryz.lays107_ren := {
  mixed := by kernel_rfl
  f107 := Tryz.func157.trans (congrArg some (by kernel_rfl))
  f108 := Tryz.func214.trans (congrArg some (by kernel_rfl))
  t0 := Tryz.underlying0
  a0 := Tryz.isAgg0
  z0 := Tryz.sizeOf0
  v0 := Tryz.zeroValue0
  t3 := Tryz.underlying3
  a3 := Tryz.isAgg3
  z3 := Tryz.sizeOf3
  v3 := Tryz.zeroValue3
  t4 := Tryz.underlying4
  a4 := Tryz.isAgg4
  z4 := Tryz.sizeOf4
  v4 := Tryz.zeroValue4
  t28 := Tryz.underlying31
  a28 := Tryz.isAgg31
  z28 := Tryz.sizeOf31
  v28 := Tryz.zeroValue31 }
open Go.Lib in
/-- slices.Contains at []int: "Contains reports whether v is present in s.": IT RETURNS 'elements.contains v'; the world is as it was. ITS CALLEE slices.Index IS MET BY ITS OWN CONTRACT OFF THE SHELF (lay that first): no loop is walked here. (LAID: no walk: one application.) -/
theorem Tryz.slices_Contains_int (b off n c : Nat) (zs : List Int) (x : Int) (w : World) (hz : n ≤ zs.length) (hbig : n ≤ 9223372036854775807) (hc : ∀ j, j < zs.length → w.cell? ⟨b, off + j, none⟩ = some (.int .i64 (zs.getD j 0))) :
    Calls Tryz.prog 157 #[.slice (some ⟨b, off, none⟩) n c, .int .i64 x] w fun e w' => e = .returned (.bool ((zs.take n).contains x)) ∧ w' = w := Any.slices_Contains_int Tryz.lays107 b off n c zs x w hz hbig hc
open Go.Lib in
/-- The same at a slice of length 0, a nil one too. (LAID: no walk: one application.) -/
theorem Tryz.slices_Contains_int_empty (a : Option Addr) (c : Nat) (x : Int) (w : World) :
    Calls Tryz.prog 157 #[.slice a 0 c, .int .i64 x] w fun e w' => e = .returned (.bool false) ∧ w' = w := Any.slices_Contains_int_empty Tryz.lays107 a c x w
def Tryz.lays109_ren : Go.Shelf.Ren := ⟨fun | 109 => 318 | n => n, fun | 31 => 187 | 9 => 9 | 3 => 3 | 0 => 0 | 4 => 4 | n => n, fun | n => n⟩
theorem Tryz.lays109 : Go.Proofs.Lays.n109 Tryz.prog Tryz.lays109_ren := {
  mixed := by kernel_rfl
  f109 := Tryz.func318.trans (congrArg some (by kernel_rfl))
  t0 := Tryz.underlying0
  a0 := Tryz.isAgg0
  z0 := Tryz.sizeOf0
  v0 := Tryz.zeroValue0
  t3 := Tryz.underlying3
  a3 := Tryz.isAgg3
  z3 := Tryz.sizeOf3
  v3 := Tryz.zeroValue3
  t4 := Tryz.underlying4
  a4 := Tryz.isAgg4
  z4 := Tryz.sizeOf4
  v4 := Tryz.zeroValue4
  t9 := Tryz.underlying9
  a9 := Tryz.isAgg9
  z9 := Tryz.sizeOf9
  v9 := Tryz.zeroValue9
  t31 := Tryz.underlying187
  a31 := Tryz.isAgg187
  z31 := Tryz.sizeOf187
  v31 := Tryz.zeroValue187 }
open Go.Lib in
/-- slices.Index at []string: "Index returns the index of the first occurrence of v in s, or -1 if not present.": IT RETURNS 'Lib.idxOfS (the elements) v'; the world is as it was. 'zs': what the cells behind the slice's address hold (its spare capacity too, if you have it); 'zs.take n': its elements. (LAID: no walk: one application.) -/
theorem Tryz.slices_Index_string (b off n c : Nat) (zs : List ByteArray) (x : ByteArray) (w : World) (hz : n ≤ zs.length) (hbig : n ≤ 9223372036854775807) (hc : ∀ j, j < zs.length → w.cell? ⟨b, off + j, none⟩ = some (.string (zs.getD j ByteArray.empty))) :
    Calls Tryz.prog 318 #[.slice (some ⟨b, off, none⟩) n c, .string x] w fun e w' => e = .returned (.int .i64 (Lib.idxOfS (zs.take n) x)) ∧ w' = w := Any.slices_Index_string Tryz.lays109 b off n c zs x w hz hbig hc
def Tryz.lays111_ren : Go.Shelf.Ren := ⟨fun | 111 => 12 | n => n, fun | 28 => 31 | 3 => 3 | 4 => 4 | 0 => 0 | n => n, fun | n => n⟩
theorem Tryz.lays111 : Go.Proofs.Lays.n111 Tryz.prog Tryz.lays111_ren := {
  mixed := by kernel_rfl
  f111 := Tryz.func12.trans (congrArg some (by kernel_rfl))
  t0 := Tryz.underlying0
  a0 := Tryz.isAgg0
  z0 := Tryz.sizeOf0
  v0 := Tryz.zeroValue0
  t3 := Tryz.underlying3
  a3 := Tryz.isAgg3
  z3 := Tryz.sizeOf3
  v3 := Tryz.zeroValue3
  t4 := Tryz.underlying4
  a4 := Tryz.isAgg4
  z4 := Tryz.sizeOf4
  v4 := Tryz.zeroValue4
  t28 := Tryz.underlying31
  a28 := Tryz.isAgg31
  z28 := Tryz.sizeOf31
  v28 := Tryz.zeroValue31 }
open Go.RowKit Go.Lib in
/-- slices.Equal at []int: "Equal reports whether two slices are equal: the same length and all elements equal. If the lengths are different, Equal returns false. Otherwise, the elements are compared in increasing index order, and the comparison stops at the first unequal pair. Empty and nil slices are considered equal.": IT RETURNS WHETHER THE TWO LISTS OF ELEMENTS ARE ONE; the world is as it was but for the count of draws (the test 's1[i] != s2[i]' has two reads, whose order the model draws, once a round). 'xs', 'ys': what the cells behind the two addresses hold (the spare capacity too, if you have it); 'xs.take n', 'ys.take m': the elements. THE TWO SLICES MAY OVERLAP. (LAID: no walk: one application.) -/
theorem Tryz.slices_Equal_int (b1 o1 n c b2 o2 m d : Nat) (xs ys : List Int) (w : World) (hx : n ≤ xs.length) (hy : m ≤ ys.length) (hbig : n ≤ 9223372036854775807) (hbig2 : m ≤ 9223372036854775807) (hc1 : ∀ j, j < xs.length → w.cell? ⟨b1, o1 + j, none⟩ = some (.int .i64 (xs.getD j 0))) (hc2 : ∀ j, j < ys.length → w.cell? ⟨b2, o2 + j, none⟩ = some (.int .i64 (ys.getD j 0))) :
    Calls Tryz.prog 12 #[.slice (some ⟨b1, o1, none⟩) n c, .slice (some ⟨b2, o2, none⟩) m d] w fun e w' => e = .returned (.bool (xs.take n == ys.take m)) ∧ ∃ q, w' = w.drewN q := Any.slices_Equal_int Tryz.lays111 b1 o1 n c b2 o2 m d xs ys w hx hy hbig hbig2 hc1 hc2
def Tryz.lays185_ren : Go.Shelf.Ren := ⟨fun | 185 => 201 | 187 => 264 | 115 => 265 | 253 => 266 | 224 => 267 | 254 => 268 | 255 => 311 | 291 => 312 | n => n, fun | 37 => 23 | 3 => 3 | 4 => 4 | 0 => 0 | 5 => 5 | 46 => 214 | 9 => 9 | 146 => 422 | 51 => 28 | n => n, fun | 1 => 2 | n => n⟩
theorem Tryz.lays185 : Go.Proofs.Lays.n185 Tryz.prog Tryz.lays185_ren := {
  mixed := by kernel_rfl
  f115 := Tryz.func265.trans (congrArg some (by kernel_rfl))
  f185 := Tryz.func201.trans (congrArg some (by kernel_rfl))
  f187 := Tryz.func264.trans (congrArg some (by kernel_rfl))
  f224 := Tryz.func267.trans (congrArg some (by kernel_rfl))
  f253 := Tryz.func266.trans (congrArg some (by kernel_rfl))
  f254 := Tryz.func268.trans (congrArg some (by kernel_rfl))
  f255 := Tryz.func311.trans (congrArg some (by kernel_rfl))
  f291 := Tryz.func312.trans (congrArg some (by kernel_rfl))
  t0 := Tryz.underlying0
  a0 := Tryz.isAgg0
  z0 := Tryz.sizeOf0
  v0 := Tryz.zeroValue0
  t3 := Tryz.underlying3
  a3 := Tryz.isAgg3
  z3 := Tryz.sizeOf3
  v3 := Tryz.zeroValue3
  t4 := Tryz.underlying4
  a4 := Tryz.isAgg4
  z4 := Tryz.sizeOf4
  v4 := Tryz.zeroValue4
  t5 := Tryz.underlying5
  a5 := Tryz.isAgg5
  z5 := Tryz.sizeOf5
  v5 := Tryz.zeroValue5
  t9 := Tryz.underlying9
  a9 := Tryz.isAgg9
  z9 := Tryz.sizeOf9
  v9 := Tryz.zeroValue9
  t37 := Tryz.underlying23
  a37 := Tryz.isAgg23
  z37 := Tryz.sizeOf23
  v37 := Tryz.zeroValue23
  t46 := Tryz.underlying214
  a46 := Tryz.isAgg214
  z46 := Tryz.sizeOf214
  v46 := Tryz.zeroValue214
  t51 := Tryz.underlying28
  a51 := Tryz.isAgg28
  z51 := Tryz.sizeOf28
  v51 := Tryz.zeroValue28
  t146 := Tryz.underlying422
  a146 := Tryz.isAgg422
  z146 := Tryz.sizeOf422
  v146 := Tryz.zeroValue422
  g1 := by kernel_rfl }
open Go.RowKit Go.Lib in
/-- bytes.Index at a separator of two bytes or more that is longer than s: -1; no cell is read. (LAID: no walk: one application.) -/
theorem Tryz.bytes_Index_longer (p q : Option Addr) (n c m d : Nat) (w : World) (h2 : 2 ≤ m) (hnm : n < m) (hm : m ≤ 9223372036854775807) :
    Calls Tryz.prog 201 #[.slice p n c, .slice q m d] w fun e w' => e = .returned (.int .i64 (-1)) ∧ w' = w := Any.bytes_Index_longer Tryz.lays185 p q n c m d w h2 hnm hm
def Tryz.lays187_ren : Go.Shelf.Ren := ⟨fun | 187 => 264 | 255 => 311 | n => n, fun | 37 => 23 | 5 => 5 | 3 => 3 | n => n, fun | n => n⟩
theorem Tryz.lays187 : Go.Proofs.Lays.n187 Tryz.prog Tryz.lays187_ren := {
  mixed := by kernel_rfl
  f187 := Tryz.func264.trans (congrArg some (by kernel_rfl))
  f255 := Tryz.func311.trans (congrArg some (by kernel_rfl))
  t3 := Tryz.underlying3
  a3 := Tryz.isAgg3
  z3 := Tryz.sizeOf3
  v3 := Tryz.zeroValue3
  t5 := Tryz.underlying5
  a5 := Tryz.isAgg5
  z5 := Tryz.sizeOf5
  v5 := Tryz.zeroValue5
  t37 := Tryz.underlying23
  a37 := Tryz.isAgg23
  z37 := Tryz.sizeOf23
  v37 := Tryz.zeroValue23 }
open Go.Proofs Go.RowKit Go.Lib in
/-- bytes.Index, WHOLE: "Index returns the index of the first instance of sep in s, or -1 if sep is not present in s.": 'Lib.index' of the two lists of bytes. (LAID: no walk: one application.) -/
theorem Tryz.bytes_Index_at (a1 a2 : Addr) (n c1 k c2 : Nat) (xs ys : List Int) (m : Int) (w : World) (hx : xs.length = n) (hy : ys.length = k) (hr1 : ∀ x ∈ xs, 0 ≤ x ∧ x < 256) (hr2 : ∀ y ∈ ys, 0 ≤ y ∧ y < 256) (hc1 : ∀ i, i < n → w.cell? (a1.add i) = some (.int .u8 (xs.getD i 0))) (hc2 : ∀ i, i < k → w.cell? (a2.add i) = some (.int .u8 (ys.getD i 0))) (hcap : n ≤ c1) (hs : n < 4294967281) (hk : k ≤ 9223372036854775807) (hm : w.cell? ⟨2, 0, none⟩ = some (.int .i64 m)) :
    Calls Tryz.prog 201 #[.slice (some a1) n c1, .slice (some a2) k c2] w fun e w' => e = .returned (.int .i64 (Lib.index (Lib.bytesOf xs) (Lib.bytesOf ys))) ∧ ∃ q, w' = w.drewN q := Any.bytes_Index_at Tryz.lays185 a1 a2 n c1 k c2 xs ys m w hx hy hr1 hr2 hc1 hc2 hcap hs hk hm
def Tryz.laysnb142_ren : Go.Shelf.Ren := ⟨fun | 142 => 202 | 117 => 269 | 115 => 265 | n => n, fun | 37 => 23 | 4 => 4 | 3 => 3 | 9 => 9 | 5 => 5 | n => n, fun | n => n⟩
theorem Tryz.laysnb142 : Go.Proofs.Lays.nb142 Tryz.prog Tryz.laysnb142_ren := {
  mixed := by kernel_rfl
  f115 := Tryz.func265.trans (congrArg some (by kernel_rfl))
  f117 := Tryz.func269.trans (congrArg some (by kernel_rfl))
  f142 := Tryz.func202.trans (congrArg some (by kernel_rfl))
  t3 := Tryz.underlying3
  a3 := Tryz.isAgg3
  z3 := Tryz.sizeOf3
  v3 := Tryz.zeroValue3
  t4 := Tryz.underlying4
  a4 := Tryz.isAgg4
  z4 := Tryz.sizeOf4
  v4 := Tryz.zeroValue4
  t9 := Tryz.underlying9
  a9 := Tryz.isAgg9
  z9 := Tryz.sizeOf9
  v9 := Tryz.zeroValue9
  t37 := Tryz.underlying23
  a37 := Tryz.isAgg23
  z37 := Tryz.sizeOf23
  v37 := Tryz.zeroValue23
  t5 := Tryz.underlying5
  a5 := Tryz.isAgg5
  z5 := Tryz.sizeOf5
  v5 := Tryz.zeroValue5 }
/-- bytes.CutSuffix: WHOLE. (LAID: no walk: one application.) -/
theorem Tryz.bytes_CutSuffix_all (p1 p2 : Option Addr) (n c m d : Nat) (xs ys : List Int) (w : World) (hx : xs.length = n) (hy : ys.length = m) (hnc : n ≤ c) (hbig : n ≤ 9223372036854775807) (h1 : Lib.BytesIn w p1 n xs) (h2 : Lib.BytesIn w p2 m ys) :
    Calls Tryz.prog 202 #[.slice p1 n c, .slice p2 m d] w fun e w' => e = .returned (.tuple #[Lib.trimSuffixV p1 n c xs ys, .bool (Lib.hasSuffix (Lib.bytesOf xs) (Lib.bytesOf ys))]) ∧ w' = w := Any.bytes_CutSuffix_all Tryz.laysnb142 p1 p2 n c m d xs ys w hx hy hnc hbig h1 h2
/-- bytes.IndexByte: "IndexByte returns the index of the first instance of c in b, or -1 if c is not present in b.": IT RETURNS 'Lib.indexByte (the bytes of b) c'; the world is as it was. 'xs': the numbers that the slice's cells hold. (LAID: no walk: one application.) -/
theorem Tryz.bytes_IndexByte (b o n c : Nat) (xs : List Int) (cv : Int) (w : World) (hx : xs.length = n) (hc : ∀ i, i < n → w.cell? ⟨b, o + i, none⟩ = some (.int .u8 (xs.getD i 0))) :
    Calls Tryz.prog 264 #[.slice (some ⟨b, o, none⟩) n c, .int .u8 cv] w fun e w' => e = .returned (.int .i64 (Lib.indexByte (Lib.bytesOf xs) cv.toNat.toUInt8)) ∧ w' = w := Any.bytes_IndexByte Tryz.lays187 b o n c xs cv w hx hc
end Go.Proofs.YtliimglbbiebiaaGreatDoor
end

section
/- The tables of the library as the start lays them; char.Decimal. -/
namespace Go.Proofs.YtliimglbbiebiaaGreatDoor
open Go.RowKit Go.Lib Go.Sort

/-- What the walks read of the library's variables. -/
structure Tabs (w : World) : Prop where
  sp : Lib.TabIs Tryz.prog w "strings.asciiSpace" .u8 Lib.asciiSpaceTab
  pow : Lib.TabIs Tryz.prog w "internal/strconv.uint64pow10" .u64 Lib.pow10Tab
  ml : ∃ m, w.cell? ⟨2, 0, none⟩ = some (.int .i64 m)

theorem tabIs_fr {P : Program} {n : String} {k : IntKind} {zs : List Int} {w w' : World} (h : Lib.TabIs P w n k zs) (hn : New w w') : Lib.TabIs P w' n k zs := by
  unfold Lib.TabIs World.var? at h ⊢
  cases hg : P.globalNamed n with
  | none => rw [hg] at h; cases h
  | some g =>
    rw [hg] at h
    simp only [Option.bind_some] at h ⊢
    have hlt : g < w.heap.size := by
      rcases Nat.lt_or_ge g w.heap.size with h1 | h1
      · exact h1
      · rw [Array.getElem?_eq_none h1] at h; cases h
    rw [hn.block g hlt id]
    exact h
theorem Tabs.new {w w' : World} (h : Tabs w) (hn : New w w') : Tabs w' :=
  ⟨tabIs_fr h.sp hn, tabIs_fr h.pow hn, by obtain ⟨m, hm⟩ := h.ml; exact ⟨m, Fr.cell hn hm id⟩⟩

theorem New.grow_ (w : World) (os : Array Obj) : New w (grow w os) :=
  ⟨rfl, rfl, rfl, by simp [grow], fun k hk _ => by simp [grow, Array.getElem?_append_left hk]⟩

/-- The decimal form. -/
def decS (n : Nat) : ByteArray := ⟨(Lib.decDigits n).toArray⟩

set_option maxRecDepth 100000 in
set_option maxHeartbeats 1600000 in
theorem fmtU_any (u : Nat) (h64 : u < 18446744073709551616) (w : World) (ht : Tabs w) : Calls Tryz.prog 184 #[.int .u64 u, .int .i64 10] w fun e w' => e = .returned (.string (decS u)) ∧ New w w' := by
  by_cases hs : u < 100
  · go_enter Tryz.func184, Tryz.ntmps184
    go_wp2_with (go_at_call 230; refine (Tryz.internal_strconv_small u hs _).mono ?_; rintro e w' ⟨rfl, rfl⟩)
    go_ret
    exact ⟨rfl, New.refl _⟩
  · have hu1 : 1 ≤ u := by omega
    have htab := ht.pow
    have hnd20 : Lib.nDigits u ≤ 20 := by have := Lib.numDigits_eq u hu1 h64; split at this <;> omega
    have hal : Tryz.prog.arrayLen 354 = 24 := by simp [Program.arrayLen, Tryz.underlying354]
    have hsl1 : ∀ W, (Instr.sliceAt 354 (.pointer (some ⟨w.heap.size, 0, none⟩)) none (some (.int .i64 (Lib.nDigits u : Int))) none).run Tryz.prog W = .ok (.slice (some ⟨w.heap.size, 0, none⟩) (Lib.nDigits u) 24) W := fun W => by
      rw [run_sliceAt_array_h W 354 ⟨w.heap.size, 0, none⟩ (by simp [Program.arrayLen, Program.elem, Tryz.underlying354]) .i64 (Lib.nDigits u : Int) (by omega) (by rw [hal]; omega)]
      go_simp
    have hH0 : Holds (fun (b : UInt8) => Value.int .u8 (b.toNat : Int)) (w.alloc (.cells Lib.zeros24 354)) w.heap.size 0 (Array.replicate (Lib.nDigits u) (0 : UInt8)) := fun j hj => by
      have hj' : j < Lib.nDigits u := by simpa using hj
      refine ⟨?_, World.frozen?_alloc_new _ _ _ _⟩
      rw [World.cell?_alloc_new, Lib.zeros24_at _ (by omega), getElem!_pos _ j hj]
      simp
    have hfmt := Tryz.internal_strconv_formatBase10 w.heap.size 0 24 u (Array.replicate (Lib.nDigits u) 0) (w.alloc (.cells Lib.zeros24 354)) hH0 (by rw [Array.size_replicate]; exact Lib.lt_pow_nDigits u) h64 (by rw [Array.size_replicate]; omega)
    rw [Array.size_replicate] at hfmt
    have HH0 := Lib.hid hH0
    clear hH0 hal
    go_enter Tryz.func184, Tryz.ntmps184
    go_wp2_with (go_at_call 231; refine (Tryz.internal_strconv_numDigits u hu1 h64 _ (Lib.tabIs_alloc htab _)).mono ?_; rintro e w' ⟨rfl, rfl⟩)
    go_at_call 232
    refine hfmt.mono ?_
    rintro e w' ⟨rfl, k, v', dk, rfl, hF⟩
    have hcv : (convert 23 9 (.slice (some ⟨w.heap.size, 0, none⟩) (Lib.nDigits u) 24)).run Tryz.prog ((putRow (fun (b : UInt8) => Value.int .u8 (b.toNat : Int)) (w.alloc (.cells Lib.zeros24 354)) w.heap.size 0 dk).drewN k) = .ok (.string ⟨(Lib.decDigits u).toArray⟩) ((putRow (fun (b : UInt8) => Value.int .u8 (b.toNat : Int)) (w.alloc (.cells Lib.zeros24 354)) w.heap.size 0 dk).drewN k) := by
      have h := run_convert_bytes_back (P := Tryz.prog) ((putRow (fun (b : UInt8) => Value.int .u8 (b.toNat : Int)) (w.alloc (.cells Lib.zeros24 354)) w.heap.size 0 dk).drewN k) 23 9 5 ⟨w.heap.size, 0, none⟩ 24 (Lib.decDigits u) Tryz.underlying23 Tryz.underlying5 Tryz.underlying9 (fun j hj => by
        rw [Lib.row_is_numeral hF j hj, Lib.add_plain, World.cell?_drewN]
        exact cell?_putRow (fun (b : UInt8) => Value.int .u8 (b.toNat : Int)) _ w.heap.size 0 _ dk HH0.out (by rw [hF.size, Array.size_replicate]) j (by rw [hF.size]; rw [Lib.decDigits_length] at hj; exact hj))
      rw [Lib.decDigits_length] at h
      exact h
    go_wp2
    go_ret
    refine ⟨rfl, ?_⟩
    rw [alloc_eq_grow]
    obtain ⟨os', _, e⟩ := putRow_grow_new (fun (b : UInt8) => Value.int .u8 (b.toNat : Int)) w #[.cells Lib.zeros24 354] w.heap.size 0 dk (Nat.le_refl _)
    rw [e]
    exact (New.grow_ w os').drewN k

set_option maxHeartbeats 800000 in
theorem fmtU1_any (u : Nat) (h64 : u < 18446744073709551616) (w : World) (ht : Tabs w) : Calls Tryz.prog 129 #[.int .u64 u, .int .i64 10] w fun e w' => e = .returned (.string (decS u)) ∧ New w w' := by
  go_enter Tryz.func129, Tryz.ntmps129
  go_wp2_with (go_at_call 184; refine (fmtU_any u h64 _ ht).mono ?_; rintro e w1 ⟨rfl, n1⟩)
  go_ret
  exact ⟨rfl, n1⟩

set_option maxHeartbeats 800000 in
theorem decimal_any (u : Nat) (h32 : u < 4294967296) (w : World) (ht : Tabs w) : Calls Tryz.prog 94 #[.int .u32 u] w fun e w' => e = .returned (.string (decS u)) ∧ New w w' := by
  go_enter Tryz.func94, Tryz.ntmps94
  go_wp2_with (go_at_call 129; refine (fmtU1_any u (by omega) _ ht).mono ?_; rintro e w1 ⟨rfl, n1⟩)
  go_ret
  exact ⟨rfl, n1⟩
theorem decS_size (u : Nat) (h32 : u < 4294967296) : (decS u).size ≤ 20 := by
  have h : (decS u).size = (Lib.decDigits u).length := rfl
  rw [h, Lib.decDigits_length]
  by_cases hu : 1 ≤ u
  · have := Lib.numDigits_eq u hu (by omega)
    split at this <;> omega
  · obtain rfl : u = 0 := by omega
    decide +kernel
end Go.Proofs.YtliimglbbiebiaaGreatDoor
end

section
/- command.Verb, Kind, and Valid at the commands that a mailbox of one's own wants. -/
namespace Go.Proofs.YtliimglbbiebiaaGreatDoor
open Go.RowKit

def verbsS : ByteArray := ⟨#[78, 79, 79, 80, 32, 76, 79, 71, 79, 85, 84, 32, 67, 76, 79, 83, 69, 32, 69, 88, 80, 85, 78, 71, 69, 32, 83, 69, 76, 69, 67, 84, 32, 65, 80, 80, 69, 78, 68, 32, 70, 69, 84, 67, 72, 32, 83, 84, 79, 82, 69]⟩
def verbsL : List (List UInt8) := [[78, 79, 79, 80], [76, 79, 71, 79, 85, 84], [67, 76, 79, 83, 69], [69, 88, 80, 85, 78, 71, 69], [83, 69, 76, 69, 67, 84], [65, 80, 80, 69, 78, 68], [70, 69, 84, 67, 72], [83, 84, 79, 82, 69]]
theorem verbs_fields : Lib.fields verbsS.data.toList = verbsL := by decide +kernel
theorem verbs_ascii : ∀ b ∈ verbsS.data.toList, b.toNat < 128 := by decide +kernel

theorem vfields_any (w : World) (ht : Tabs w) : Calls Tryz.prog 86 #[.string verbsS] w fun e w' => e = .returned (.slice (some ⟨w.heap.size, 0, none⟩) 8 8) ∧ w' = w.alloc (.cells (verbsL.map fun l => Value.string ⟨l.toArray⟩).toArray 9) := by
  have h := Tryz.strings_Fields verbsS w (by decide) (fun j b hb => verbs_ascii b (List.mem_of_getElem? hb)) ht.sp
  rw [verbs_fields] at h
  exact h

def verbS (k : Nat) : ByteArray := ⟨((verbsL.getD (k - 1) []).toArray)⟩

set_option maxRecDepth 100000 in
set_option maxHeartbeats 1600000 in
theorem verb_any (k : Nat) (h1 : 1 ≤ k) (h8 : k ≤ 8) (w : World) (ht : Tabs w) : Calls Tryz.prog 63 #[.int .i64 k] w fun e w' => e = .returned (.string (verbS k)) ∧ New w w' := by
  have hf := vfields_any w ht
  have hc : (w.alloc (.cells (verbsL.map fun l => Value.string ⟨l.toArray⟩).toArray 9)).cell? ⟨w.heap.size, k - 1, none⟩ = some (.string (verbS k)) := by
    rw [World.cell?_alloc_new]
    have hk : ∀ k : Fin 9, 1 ≤ k.val → (verbsL.map fun l => Value.string ⟨l.toArray⟩).toArray[k.val - 1]? = some (.string (verbS k.val)) := by
      intro ⟨k, hk⟩ h1
      have h2 : 1 ≤ k := h1
      have : k = 1 ∨ k = 2 ∨ k = 3 ∨ k = 4 ∨ k = 5 ∨ k = 6 ∨ k = 7 ∨ k = 8 := by omega
      rcases this with rfl | rfl | rfl | rfl | rfl | rfl | rfl | rfl <;> rfl
    exact hk ⟨k, by omega⟩ h1
  obtain ⟨j, rfl⟩ : ∃ j, k = j + 1 := ⟨k - 1, by omega⟩
  rw [Nat.add_sub_cancel] at hc
  go_enter Tryz.func63, Tryz.ntmps63
  go_wp2_with fail
  refine hf.mono ?_
  rintro e w1 ⟨rfl, rfl⟩
  have hn : New w (w.alloc (.cells (verbsL.map fun l => Value.string ⟨l.toArray⟩).toArray 9)) := (New.refl w).alloc _
  generalize (w.alloc (.cells (verbsL.map fun l => Value.string ⟨l.toArray⟩).toArray 9)) = w1 at *
  clear hf
  go_wp2
  go_ret
  exact ⟨rfl, hn⟩

def verbsZ : List ByteArray := verbsL.map fun l => ⟨l.toArray⟩
def kindI (s : ByteArray) : Int := Lib.idxOfS verbsZ (upS s)

theorem idxFromS_bd (x : ByteArray) : ∀ (zs : List ByteArray) (i : Nat), -1 ≤ Lib.idxFromS zs x i ∧ Lib.idxFromS zs x i < (i : Int) + zs.length
  | [], i => by simp [Lib.idxFromS]; omega
  | z :: zs, i => by
    have h := idxFromS_bd x zs (i + 1)
    simp only [Lib.idxFromS, List.length_cons]
    split <;> omega

set_option maxRecDepth 100000 in
set_option maxHeartbeats 1600000 in
theorem kind_any (s : ByteArray) (hs : s.size ≤ 1000000) (w : World) (ht : Tabs w) : Calls Tryz.prog 276 #[.string s] w fun e w' => e = .returned (.tuple #[.int .i64 (kindI s + 1), .bool (decide (0 ≤ kindI s))]) ∧ New w w' := by
  have hf := vfields_any w ht
  obtain ⟨i, hi⟩ : ∃ i, i = kindI s := ⟨_, rfl⟩
  rw [← hi]
  have HI := Lib.hid hi
  clear hi
  have hz : verbsZ.length = 8 := rfl
  have hc : ∀ j, j < verbsZ.length → (w.alloc (.cells (verbsL.map fun l => Value.string ⟨l.toArray⟩).toArray 9)).cell? ⟨w.heap.size, 0 + j, none⟩ = some (.string (verbsZ.getD j ByteArray.empty)) := by
    intro j hj
    rw [hz] at hj
    rw [Nat.zero_add, World.cell?_alloc_new]
    have : j = 0 ∨ j = 1 ∨ j = 2 ∨ j = 3 ∨ j = 4 ∨ j = 5 ∨ j = 6 ∨ j = 7 := by omega
    rcases this with rfl | rfl | rfl | rfl | rfl | rfl | rfl | rfl <;> rfl
  have hn : New w (w.alloc (.cells (verbsL.map fun l => Value.string ⟨l.toArray⟩).toArray 9)) := (New.refl w).alloc _
  have HC := Lib.hid hc
  clear hc
  go_enter Tryz.func276, Tryz.ntmps276
  go_wp2_with fail
  refine hf.mono ?_
  rintro e w1 ⟨rfl, rfl⟩
  generalize (w.alloc (.cells (verbsL.map fun l => Value.string ⟨l.toArray⟩).toArray 9)) = w1 at *
  clear hf
  go_wp2_with fail
  refine (upper_any s hs w1).mono ?_
  rintro e w2 ⟨rfl, n2⟩
  go_wp2_with fail
  refine (Tryz.slices_Index_string w.heap.size 0 8 8 verbsZ (upS s) w2 (by rw [hz]; exact Nat.le_refl _) (by decide) (fun j hj => Fr.cell n2 (HC.out j hj) id)).mono ?_
  rintro e w3 ⟨rfl, rfl⟩
  have hk : Lib.idxOfS (verbsZ.take 8) (upS s) = i := HI.out.symm
  have hb : -1 ≤ i ∧ i < 8 := by
    rw [HI.out]
    have h := idxFromS_bd (upS s) verbsZ 0
    rw [hz] at h
    unfold kindI Lib.idxOfS
    omega
  rw [hk]
  clear hk HI
  go_wp2
  go_ret2
  exact ⟨rfl, hn.trans n2⟩

def cmd0 : Value := .agg #[.string ⟨#[]⟩, .int .i64 0, .string ⟨#[]⟩, .slice none 0 0, .int .i64 0, .int .i64 0, .bool false, .int .u8 0, .slice none 0 0]

set_option maxRecDepth 100000 in
set_option maxHeartbeats 1600000 in
theorem requal_nil (w : World) : Calls Tryz.prog 87 #[.slice none 0 0, .slice none 0 0] w fun e w' => e = .returned (.bool true) ∧ w = w' := by
  go_enter Tryz.func87, Tryz.ntmps87
  go_wp2_with fail
  refine wp_loop_rounds 1 ?_
  rw [rounds_succ]
  go_wp2
  go_ret
  exact ⟨rfl, rfl⟩

set_option maxRecDepth 100000 in
set_option maxHeartbeats 1600000 in
theorem same_zero (w : World) : Calls Tryz.prog 64 #[cmd0, cmd0] w fun e w' => e = .returned (.bool true) ∧ New w w' := by
  have hcv := fun w => Lib.run_convert_nil_bytes (P := Tryz.prog) w 23 9 5 0 Tryz.underlying23 Tryz.underlying5 Tryz.underlying9
  unfold cmd0
  go_enter Tryz.func64, Tryz.ntmps64
  go_wp2_with (go_at_call 87; refine (requal_nil _).mono ?_; rintro e w1 ⟨rfl, rfl⟩)
  go_ret
  exact ⟨rfl, ((New.refl _).alloc _).alloc _⟩

def cmdV (t : ByteArray) (k : Int) (m : ByteArray) (fl : Int) (d : Value) : Value := .agg #[.string t, .int .i64 k, .string m, .slice none 0 0, .int .i64 0, .int .i64 0, .bool false, .int .u8 fl, d]
def inboxS : ByteArray := ⟨#[73, 78, 66, 79, 88]⟩

set_option maxRecDepth 100000 in
set_option maxHeartbeats 3200000 in
theorem valid_noop (t : ByteArray) (ht : tagS t = true) (hts : t.size ≤ 1000000) (w : World) (hT : Tabs w) : Calls Tryz.prog 38 #[cmdV t 1 ⟨#[]⟩ 0 (.slice none 0 0)] w fun e w' => e = .returned (.bool true) ∧ New w w' := by
  have hall := All_tag t hts
  rw [ht] at hall
  have HT := Lib.hid hT
  have b0 : Blk (w.alloc (.cells #[.string t, .int .i64 1, .string ⟨#[]⟩, .slice none 0 0, .int .i64 0, .int .i64 0, .bool false, .int .u8 0, .slice none 0 0] 47)) w.heap.size 47 #[.string t, .int .i64 1, .string ⟨#[]⟩, .slice none 0 0, .int .i64 0, .int .i64 0, .bool false, .int .u8 0, .slice none 0 0] := Blk.new _ _ _
  have n0 : New w (w.alloc (.cells #[.string t, .int .i64 1, .string ⟨#[]⟩, .slice none 0 0, .int .i64 0, .int .i64 0, .bool false, .int .u8 0, .slice none 0 0] 47)) := (New.refl w).alloc _
  clear hT
  unfold cmdV
  go_enter Tryz.func38, Tryz.ntmps38
  go_wp2_with fail
  refine (hall _).mono ?_
  rintro e w1 ⟨rfl, n1⟩
  have b1 := n1.blk b0
  have c0 : w1.cell? ⟨w.heap.size, 0, none⟩ = some (.string t) := b1.cell 0
  have c1 : w1.cell? ⟨w.heap.size, 1, none⟩ = some (.int .i64 1) := b1.cell 1
  go_wp2_with fail
  refine (verb_any 1 (by decide) (by decide) w1 (HT.out.new (n0.trans n1))).mono ?_
  rintro e w2 ⟨rfl, n2⟩
  have b2 := n2.blk b1
  have n02 := (n0.trans n1).trans n2
  have d0 : w2.cell? ⟨w.heap.size, 0, none⟩ = some (.string t) := b2.cell 0
  have d1 : w2.cell? ⟨w.heap.size, 1, none⟩ = some (.int .i64 1) := b2.cell 1
  have d2 : w2.cell? ⟨w.heap.size, 2, none⟩ = some (.string ⟨#[]⟩) := b2.cell 2
  have d3 : w2.cell? ⟨w.heap.size, 3, none⟩ = some (.slice none 0 0) := b2.cell 3
  have d4 : w2.cell? ⟨w.heap.size, 4, none⟩ = some (.int .i64 0) := b2.cell 4
  have d5 : w2.cell? ⟨w.heap.size, 5, none⟩ = some (.int .i64 0) := b2.cell 5
  have d6 : w2.cell? ⟨w.heap.size, 6, none⟩ = some (.bool false) := b2.cell 6
  have d7 : w2.cell? ⟨w.heap.size, 7, none⟩ = some (.int .u8 0) := b2.cell 7
  have d8 : w2.cell? ⟨w.heap.size, 8, none⟩ = some (.slice none 0 0) := b2.cell 8
  have f0 := b2.frozen 0
  have f1 := b2.frozen 1
  have hvs : (verbS 1).toList = [78, 79, 79, 80] := by rw [ByteArray.toList_eq]; rfl
  clear c0 c1 n1 n2 b1
  go_wp2_with fail
  refine (same_zero _).mono ?_
  rintro e w3 ⟨rfl, n3⟩
  go_wp2
  go_ret
  exact ⟨rfl, (New.one n02 (((One.refl w.heap.size w2).set 0 _).set 1 _) (Nat.le_refl _)).trans n3⟩

set_option maxRecDepth 100000 in
set_option maxHeartbeats 3200000 in
theorem valid_select (t : ByteArray) (ht : tagS t = true) (hts : t.size ≤ 1000000) (w : World) (hT : Tabs w) : Calls Tryz.prog 38 #[cmdV t 5 inboxS 0 (.slice none 0 0)] w fun e w' => e = .returned (.bool true) ∧ New w w' := by
  have hall := All_tag t hts
  rw [ht] at hall
  have HT := Lib.hid hT
  have b0 : Blk (w.alloc (.cells #[.string t, .int .i64 5, .string inboxS, .slice none 0 0, .int .i64 0, .int .i64 0, .bool false, .int .u8 0, .slice none 0 0] 47)) w.heap.size 47 #[.string t, .int .i64 5, .string inboxS, .slice none 0 0, .int .i64 0, .int .i64 0, .bool false, .int .u8 0, .slice none 0 0] := Blk.new _ _ _
  have n0 : New w (w.alloc (.cells #[.string t, .int .i64 5, .string inboxS, .slice none 0 0, .int .i64 0, .int .i64 0, .bool false, .int .u8 0, .slice none 0 0] 47)) := (New.refl w).alloc _
  clear hT
  have hib : inboxS.size = 5 := rfl
  unfold cmdV
  go_enter Tryz.func38, Tryz.ntmps38
  go_wp2_with fail
  refine (hall _).mono ?_
  rintro e w1 ⟨rfl, n1⟩
  have b1 := n1.blk b0
  have c0 : w1.cell? ⟨w.heap.size, 0, none⟩ = some (.string t) := b1.cell 0
  have c1 : w1.cell? ⟨w.heap.size, 1, none⟩ = some (.int .i64 5) := b1.cell 1
  go_wp2_with fail
  refine (verb_any 5 (by decide) (by decide) w1 (HT.out.new (n0.trans n1))).mono ?_
  rintro e w2 ⟨rfl, n2⟩
  have b2 := n2.blk b1
  have n02 := (n0.trans n1).trans n2
  have d0 : w2.cell? ⟨w.heap.size, 0, none⟩ = some (.string t) := b2.cell 0
  have d1 : w2.cell? ⟨w.heap.size, 1, none⟩ = some (.int .i64 5) := b2.cell 1
  have d2 : w2.cell? ⟨w.heap.size, 2, none⟩ = some (.string inboxS) := b2.cell 2
  have d3 : w2.cell? ⟨w.heap.size, 3, none⟩ = some (.slice none 0 0) := b2.cell 3
  have d4 : w2.cell? ⟨w.heap.size, 4, none⟩ = some (.int .i64 0) := b2.cell 4
  have d5 : w2.cell? ⟨w.heap.size, 5, none⟩ = some (.int .i64 0) := b2.cell 5
  have d6 : w2.cell? ⟨w.heap.size, 6, none⟩ = some (.bool false) := b2.cell 6
  have d7 : w2.cell? ⟨w.heap.size, 7, none⟩ = some (.int .u8 0) := b2.cell 7
  have d8 : w2.cell? ⟨w.heap.size, 8, none⟩ = some (.slice none 0 0) := b2.cell 8
  have f0 := b2.frozen 0
  have f1 := b2.frozen 1
  have f2 := b2.frozen 2
  have hvs : (verbS 5).toList = [83, 69, 76, 69, 67, 84] := by rw [ByteArray.toList_eq]; rfl
  clear c0 c1 n1 n2 b1
  go_wp2_with fail
  refine (same_zero _).mono ?_
  rintro e w3 ⟨rfl, n3⟩
  go_wp2
  go_ret
  exact ⟨rfl, (New.one n02 ((((One.refl w.heap.size w2).set 0 _).set 1 _).set 2 _) (Nat.le_refl _)).trans n3⟩

set_option maxRecDepth 100000 in
set_option maxHeartbeats 3200000 in
theorem valid_append (t : ByteArray) (ht : tagS t = true) (hts : t.size ≤ 1000000) (fl : Int) (hf0 : 0 ≤ fl) (hf1 : fl ≤ 31) (A : Option Addr) (n c : Nat) (hn : n ≤ 65536) (w : World) (hT : Tabs w) : Calls Tryz.prog 38 #[cmdV t 6 inboxS fl (.slice A n c)] w fun e w' => e = .returned (.bool true) ∧ New w w' := by
  have hall := All_tag t hts
  rw [ht] at hall
  have HT := Lib.hid hT
  have b0 : Blk (w.alloc (.cells #[.string t, .int .i64 6, .string inboxS, .slice none 0 0, .int .i64 0, .int .i64 0, .bool false, .int .u8 fl, .slice A n c] 47)) w.heap.size 47 #[.string t, .int .i64 6, .string inboxS, .slice none 0 0, .int .i64 0, .int .i64 0, .bool false, .int .u8 fl, .slice A n c] := Blk.new _ _ _
  have n0 : New w (w.alloc (.cells #[.string t, .int .i64 6, .string inboxS, .slice none 0 0, .int .i64 0, .int .i64 0, .bool false, .int .u8 fl, .slice A n c] 47)) := (New.refl w).alloc _
  clear hT
  have hib : inboxS.size = 5 := rfl
  unfold cmdV
  go_enter Tryz.func38, Tryz.ntmps38
  go_wp2_with fail
  refine (hall _).mono ?_
  rintro e w1 ⟨rfl, n1⟩
  have b1 := n1.blk b0
  have c0 : w1.cell? ⟨w.heap.size, 0, none⟩ = some (.string t) := b1.cell 0
  have c1 : w1.cell? ⟨w.heap.size, 1, none⟩ = some (.int .i64 6) := b1.cell 1
  go_wp2_with fail
  refine (verb_any 6 (by decide) (by decide) w1 (HT.out.new (n0.trans n1))).mono ?_
  rintro e w2 ⟨rfl, n2⟩
  have b2 := n2.blk b1
  have n02 := (n0.trans n1).trans n2
  have d0 : w2.cell? ⟨w.heap.size, 0, none⟩ = some (.string t) := b2.cell 0
  have d1 : w2.cell? ⟨w.heap.size, 1, none⟩ = some (.int .i64 6) := b2.cell 1
  have d2 : w2.cell? ⟨w.heap.size, 2, none⟩ = some (.string inboxS) := b2.cell 2
  have d3 : w2.cell? ⟨w.heap.size, 3, none⟩ = some (.slice none 0 0) := b2.cell 3
  have d4 : w2.cell? ⟨w.heap.size, 4, none⟩ = some (.int .i64 0) := b2.cell 4
  have d5 : w2.cell? ⟨w.heap.size, 5, none⟩ = some (.int .i64 0) := b2.cell 5
  have d6 : w2.cell? ⟨w.heap.size, 6, none⟩ = some (.bool false) := b2.cell 6
  have d7 : w2.cell? ⟨w.heap.size, 7, none⟩ = some (.int .u8 fl) := b2.cell 7
  have d8 : w2.cell? ⟨w.heap.size, 8, none⟩ = some (.slice A n c) := b2.cell 8
  have f0 := b2.frozen 0
  have f1 := b2.frozen 1
  have f2 := b2.frozen 2
  have f7 := b2.frozen 7
  have f8 := b2.frozen 8
  have hvs : (verbS 6).toList = [65, 80, 80, 69, 78, 68] := by rw [ByteArray.toList_eq]; rfl
  clear c0 c1 n1 n2 b1
  go_wp2_with fail
  refine (same_zero _).mono ?_
  rintro e w3 ⟨rfl, n3⟩
  go_wp2
  go_ret
  exact ⟨rfl, (New.one n02 ((((((One.refl w.heap.size w2).set 0 _).set 1 _).set 2 _).set 7 _).set 8 _) (Nat.le_refl _)).trans n3⟩

end Go.Proofs.YtliimglbbiebiaaGreatDoor
end

