import Derived.Test.YtliimglbbiebiaaGreatDoorGTopTime0
import Derived.Test.YtliimglbbiebiaaGreatDoorProg
set_option maxRecDepth 100000
set_option maxHeartbeats 6400000
set_option linter.all false
namespace Go.Proofs.YtliimglbbiebiaaGreatDoor
open Go.Proofs.Tryz Go.RowKit Go.Maps
section
open Go.Shelf Go.Proofs
def Tryz.Df:Go.Shelf.Ren:=⟨fun|137=>444|217=>459|266=>464|n=>n,fun|9=>9|5=>5|3=>3|n=>n,fun|n=>n⟩
theorem Tryz.TT:Go.Proofs.Lays.n137 prog Tryz.Df:={
 mixed:=K_
 f137:=aK func444 K_
 f217:=aK func459 K_
 f266:=aK func464 K_
 t3:=underlying3
 a3:=isAgg3
 z3:=sizeOf3
 v3:=zeroValue3
 t5:=underlying5
 a5:=isAgg5
 z5:=sizeOf5
 v5:=zeroValue5
 t9:=underlying9
 a9:=isAgg9
 z9:=sizeOf9
 v9:=zeroValue9}
open Go.RowKit in
theorem Tryz.strings_IndexByte (s:ByteArray) (c:Int) (w:World):
 H_ 444 #[T_ s,B_ c] w fun e w'=>e=.returned (I_ (Lib.indexByte s.data.toList c.toNat.toUInt8))/\w'=w:=Any.strings_IndexByte Tryz.TT s c w
def Tryz.Dg:Go.Shelf.Ren:=⟨fun|283=>230|n=>n,fun|3=>3|9=>9|4=>4|n=>n,fun|n=>n⟩
theorem Tryz.TU:Go.Proofs.Lays.n283 prog Tryz.Dg:={
 mixed:=K_
 f283:=aK func230 K_
 t3:=underlying3
 a3:=isAgg3
 z3:=sizeOf3
 v3:=zeroValue3
 t4:=underlying4
 a4:=isAgg4
 z4:=sizeOf4
 v4:=zeroValue4
 t9:=underlying9
 a9:=isAgg9
 z9:=sizeOf9
 v9:=zeroValue9}
open Go.Lib in
theorem Tryz.internal_strconv_small (i:Nat) (h:i<100) (w:World):
 H_ 230 #[I_ i] w fun e w'=>e=.returned (T_ ⟨(Lib.decDigits i).toArray⟩)/\w'=w:=Any.internal_strconv_small Tryz.TU i h w
def Tryz.AJ:Go.Shelf.Ren:=⟨fun|284=>231|129=>172|317=>290|318=>291|n=>n,fun|53=>146|3=>3|212=>400|0=>0|4=>4|46=>214|5=>5|9=>9|n=>n,fun|17=>3|n=>n⟩
theorem Tryz.O5:Go.Proofs.LaysM.n284 prog Tryz.AJ:={
 mixed:=K_
 f129:=aK func172 K_
 f284:=aK func231 K_
 f317:=aK func290 K_
 f318:=aK func291 K_
 t0:=underlying0
 a0:=isAgg0
 z0:=sizeOf0
 v0:=zeroValue0
 t3:=underlying3
 a3:=isAgg3
 z3:=sizeOf3
 v3:=zeroValue3
 t4:=underlying4
 a4:=isAgg4
 z4:=sizeOf4
 v4:=zeroValue4
 t5:=underlying5
 a5:=isAgg5
 z5:=sizeOf5
 v5:=zeroValue5
 t9:=underlying9
 a9:=isAgg9
 z9:=sizeOf9
 v9:=zeroValue9
 t46:=underlying214
 a46:=isAgg214
 z46:=sizeOf214
 v46:=zeroValue214
 t53:=underlying146
 a53:=isAgg146
 z53:=sizeOf146
 v53:=zeroValue146
 t212:=underlying400
 a212:=isAgg400
 z212:=sizeOf400
 v212:=zeroValue400
 g17:=K_
 i0:=K_
 i3:=K_
 i4:=K_
 i5:=K_
 i9:=K_
 i46:=K_
 i53:=K_
 i212:=K_
 m17:=by kernel_rfl}
open Go.Lib in
theorem Tryz.internal_strconv_numDigits (u:Nat) (h1:1<=u) (h2:u<18446744073709551616) (w:World) (oQ:Lib.TabIs prog w "internal/strconv.uint64pow10" .u64 Lib.pow10Tab):
 H_ 231 #[.int .u64 u] w fun e w'=>e=.returned (I_ (Lib.nDigits u))/\w'=w:=Any.internal_strconv_numDigits Tryz.O5 u h1 h2 w oQ
def Tryz.Dh:Go.Shelf.Ren:=⟨fun|285=>232|n=>n,fun|37=>23|53=>146|3=>3|4=>4|51=>28|9=>9|5=>5|0=>0|n=>n,fun|n=>n⟩
theorem Tryz.TV:Go.Proofs.Lays.n285 prog Tryz.Dh:={
 mixed:=K_
 f285:=aK func232 K_
 t0:=underlying0
 a0:=isAgg0
 z0:=sizeOf0
 v0:=zeroValue0
 t3:=underlying3
 a3:=isAgg3
 z3:=sizeOf3
 v3:=zeroValue3
 t4:=underlying4
 a4:=isAgg4
 z4:=sizeOf4
 v4:=zeroValue4
 t5:=underlying5
 a5:=isAgg5
 z5:=sizeOf5
 v5:=zeroValue5
 t9:=underlying9
 a9:=isAgg9
 z9:=sizeOf9
 v9:=zeroValue9
 t37:=underlying23
 a37:=isAgg23
 z37:=sizeOf23
 v37:=zeroValue23
 t51:=underlying28
 a51:=isAgg28
 z51:=sizeOf28
 v51:=zeroValue28
 t53:=underlying146
 a53:=isAgg146
 z53:=sizeOf146
 v53:=zeroValue146}
open Go.RowKit Go.Sort Go.Lib in
theorem Tryz.internal_strconv_formatBase10 (ai off cap:Nat) (u:Nat) (d:Array UInt8) (w:World) (hH:Holds (fun(b:UInt8)=>Value.int .u8 (b.toNat:Int)) w ai off d) (hu:u<10^d.size) (aii:u<18446744073709551616) (eE:d.size<4611686018427387904):
 H_ 232 #[X_ (some ⟨ai,off,none⟩) d.size cap,.int .u64 u] w fun e w'=>
  e=.returned (.tuple #[])/\∃(n v':Nat) (dk:Array UInt8),w'=(putRow (fun(b:UInt8)=>Value.int .u8 (b.toNat:Int)) w ai off dk).drewN n/\FmtInv d.size u 0 v' dk:=Any.internal_strconv_formatBase10 Tryz.TV ai off cap u d w hH hu aii eE
def Tryz.Di:Go.Shelf.Ren:=⟨fun|157=>86|229=>121|199=>122|261=>173|311=>224|312=>225|n=>n,fun|9=>9|31=>187|3=>3|5=>5|4=>4|119=>218|0=>0|40=>220|152=>270|21=>21|154=>272|51=>28|141=>274|196=>340|193=>337|198=>343|49=>341|194=>338|201=>346|226=>394|46=>214|227=>395|n=>n,fun|0=>0|6=>1|n=>n⟩
theorem Tryz.TW:Go.Proofs.Lays.n157 prog Tryz.Di:={
 mixed:=K_
 f157:=aK func86 K_
 f199:=aK func122 K_
 f229:=aK func121 K_
 f261:=aK func173 K_
 f311:=aK func224 K_
 f312:=aK func225 K_
 t0:=underlying0
 a0:=isAgg0
 z0:=sizeOf0
 v0:=zeroValue0
 t3:=underlying3
 a3:=isAgg3
 z3:=sizeOf3
 v3:=zeroValue3
 t4:=underlying4
 a4:=isAgg4
 z4:=sizeOf4
 v4:=zeroValue4
 t5:=underlying5
 a5:=isAgg5
 z5:=sizeOf5
 v5:=zeroValue5
 t9:=underlying9
 a9:=isAgg9
 z9:=sizeOf9
 v9:=zeroValue9
 t21:=underlying21
 a21:=isAgg21
 z21:=sizeOf21
 v21:=zeroValue21
 t31:=underlying187
 a31:=isAgg187
 z31:=sizeOf187
 v31:=zeroValue187
 t40:=underlying220
 a40:=isAgg220
 z40:=sizeOf220
 v40:=zeroValue220
 t46:=underlying214
 a46:=isAgg214
 z46:=sizeOf214
 v46:=zeroValue214
 t49:=underlying341
 a49:=isAgg341
 z49:=sizeOf341
 v49:=zeroValue341
 t51:=underlying28
 a51:=isAgg28
 z51:=sizeOf28
 v51:=zeroValue28
 t119:=underlying218
 a119:=isAgg218
 z119:=sizeOf218
 t141:=underlying274
 a141:=isAgg274
 z141:=sizeOf274
 v141:=zeroValue274
 t152:=underlying270
 a152:=isAgg270
 z152:=sizeOf270
 v152:=zeroValue270
 t154:=underlying272
 a154:=isAgg272
 z154:=sizeOf272
 v154:=zeroValue272
 t193:=underlying337
 a193:=isAgg337
 z193:=sizeOf337
 v193:=zeroValue337
 t194:=underlying338
 a194:=isAgg338
 z194:=sizeOf338
 v194:=zeroValue338
 t196:=underlying340
 a196:=isAgg340
 z196:=sizeOf340
 v196:=zeroValue340
 t198:=underlying343
 a198:=isAgg343
 z198:=sizeOf343
 v198:=zeroValue343
 t201:=underlying346
 a201:=isAgg346
 z201:=sizeOf346
 v201:=zeroValue346
 t226:=underlying394
 a226:=isAgg394
 z226:=sizeOf394
 v226:=zeroValue394
 t227:=underlying395
 a227:=isAgg395
 z227:=sizeOf395
 v227:=zeroValue395
 g0:=K_
 g6:=by kernel_rfl}
open Go.RowKit Go.Lib in
theorem Tryz.strings_Fields (s:ByteArray) (w:World) (hs:s.size<4294967281) (Yz:∀(j:Nat) b,s.data.toList[j]? =some b->b.toNat<128) (oQ:Lib.TabIs prog w "strings.asciiSpace" .u8 Lib.asciiSpaceTab):
 H_ 86 #[T_ s] w fun e w'=>
  e=.returned (X_ (M_ w) (Lib.fields s.data.toList).length (Lib.fields s.data.toList).length)/\w'=w.alloc (G_ ((Lib.fields s.data.toList).map fun l=>Value.string ⟨l.toArray⟩).toArray 9):=Any.strings_Fields Tryz.TW K_ K_ s w hs Yz oQ
def Tryz.Dj:Go.Shelf.Ren:=⟨fun|107=>157|108=>214|n=>n,fun|28=>31|3=>3|4=>4|0=>0|n=>n,fun|n=>n⟩
theorem Tryz.JQ:Go.Proofs.Lays.n107 prog Tryz.Dj:={
 mixed:=K_
 f107:=aK func157 K_
 f108:=aK func214 K_
 t0:=underlying0
 a0:=isAgg0
 z0:=sizeOf0
 v0:=zeroValue0
 t3:=underlying3
 a3:=isAgg3
 z3:=sizeOf3
 v3:=zeroValue3
 t4:=underlying4
 a4:=isAgg4
 z4:=sizeOf4
 v4:=zeroValue4
 t28:=underlying31
 a28:=isAgg31
 z28:=sizeOf31
 v28:=zeroValue31}
open Go.Lib in
theorem Tryz.slices_Contains_int (b off n c:Nat) (zs:List Int) (x:Int) (w:World) (hz:n<=zs.length) (Dk:n<=9223372036854775807) (hc:∀j,j<zs.length->L_ w b (off+j) (I_ (zs.getD j 0))):
 H_ 157 #[X_ (some ⟨b,off,none⟩) n c,I_ x] w fun e w'=>e=.returned (R_ ((zs.take n).contains x))/\w'=w:=Any.slices_Contains_int Tryz.JQ b off n c zs x w hz Dk hc
open Go.Lib in
theorem Tryz.slices_Contains_int_empty (a:Option Addr) (c:Nat) (x:Int) (w:World):
 H_ 157 #[X_ a 0 c,I_ x] w fun e w'=>e=.returned (R_ false)/\w'=w:=Any.slices_Contains_int_empty Tryz.JQ a c x w
def Tryz.Dl:Go.Shelf.Ren:=⟨fun|109=>318|n=>n,fun|31=>187|9=>9|3=>3|0=>0|4=>4|n=>n,fun|n=>n⟩
theorem Tryz.TX:Go.Proofs.Lays.n109 prog Tryz.Dl:={
 mixed:=K_
 f109:=aK func318 K_
 t0:=underlying0
 a0:=isAgg0
 z0:=sizeOf0
 v0:=zeroValue0
 t3:=underlying3
 a3:=isAgg3
 z3:=sizeOf3
 v3:=zeroValue3
 t4:=underlying4
 a4:=isAgg4
 z4:=sizeOf4
 v4:=zeroValue4
 t9:=underlying9
 a9:=isAgg9
 z9:=sizeOf9
 v9:=zeroValue9
 t31:=underlying187
 a31:=isAgg187
 z31:=sizeOf187
 v31:=zeroValue187}
open Go.Lib in
theorem Tryz.slices_Index_string (b off n c:Nat) (zs:List ByteArray) (x:ByteArray) (w:World) (hz:n<=zs.length) (Dk:n<=9223372036854775807) (hc:∀j,j<zs.length->L_ w b (off+j) (T_ (zs.getD j ByteArray.empty))):
 H_ 318 #[X_ (some ⟨b,off,none⟩) n c,T_ x] w fun e w'=>e=.returned (I_ (Lib.idxOfS (zs.take n) x))/\w'=w:=Any.slices_Index_string Tryz.TX b off n c zs x w hz Dk hc
def Tryz.Dm:Go.Shelf.Ren:=⟨fun|111=>12|n=>n,fun|28=>31|3=>3|4=>4|0=>0|n=>n,fun|n=>n⟩
theorem Tryz.TY:Go.Proofs.Lays.n111 prog Tryz.Dm:={
 mixed:=K_
 f111:=aK func12 K_
 t0:=underlying0
 a0:=isAgg0
 z0:=sizeOf0
 v0:=zeroValue0
 t3:=underlying3
 a3:=isAgg3
 z3:=sizeOf3
 v3:=zeroValue3
 t4:=underlying4
 a4:=isAgg4
 z4:=sizeOf4
 v4:=zeroValue4
 t28:=underlying31
 a28:=isAgg31
 z28:=sizeOf31
 v28:=zeroValue31}
open Go.RowKit Go.Lib in
theorem Tryz.slices_Equal_int (b1 o1 n c b2 o2 m d:Nat) (xs ys:List Int) (w:World) (hx:n<=xs.length) (hy:m<=ys.length) (Dk:n<=9223372036854775807) (ac1:m<=9223372036854775807) (GW:∀j,j<xs.length->L_ w b1 (o1+j) (I_ (xs.getD j 0))) (uJ:∀j,j<ys.length->L_ w b2 (o2+j) (I_ (ys.getD j 0))):
 H_ 12 #[X_ (some ⟨b1,o1,none⟩) n c,X_ (some ⟨b2,o2,none⟩) m d] w fun e w'=>e=.returned (R_ (xs.take n==ys.take m))/\∃q,w'=w.drewN q:=Any.slices_Equal_int Tryz.TY b1 o1 n c b2 o2 m d xs ys w hx hy Dk ac1 GW uJ
def Tryz.Dn:Go.Shelf.Ren:=⟨fun|185=>201|187=>264|115=>265|253=>266|224=>267|254=>268|255=>311|291=>312|n=>n,fun|37=>23|3=>3|4=>4|0=>0|5=>5|46=>214|9=>9|146=>422|51=>28|n=>n,fun|1=>2|n=>n⟩
theorem Tryz.JR:Go.Proofs.Lays.n185 prog Tryz.Dn:={
 mixed:=K_
 f115:=aK func265 K_
 f185:=aK func201 K_
 f187:=aK func264 K_
 f224:=aK func267 K_
 f253:=aK func266 K_
 f254:=aK func268 K_
 f255:=aK func311 K_
 f291:=aK func312 K_
 t0:=underlying0
 a0:=isAgg0
 z0:=sizeOf0
 v0:=zeroValue0
 t3:=underlying3
 a3:=isAgg3
 z3:=sizeOf3
 v3:=zeroValue3
 t4:=underlying4
 a4:=isAgg4
 z4:=sizeOf4
 v4:=zeroValue4
 t5:=underlying5
 a5:=isAgg5
 z5:=sizeOf5
 v5:=zeroValue5
 t9:=underlying9
 a9:=isAgg9
 z9:=sizeOf9
 v9:=zeroValue9
 t37:=underlying23
 a37:=isAgg23
 z37:=sizeOf23
 v37:=zeroValue23
 t46:=underlying214
 a46:=isAgg214
 z46:=sizeOf214
 v46:=zeroValue214
 t51:=underlying28
 a51:=isAgg28
 z51:=sizeOf28
 v51:=zeroValue28
 t146:=underlying422
 a146:=isAgg422
 z146:=sizeOf422
 v146:=zeroValue422
 g1:=by kernel_rfl}
open Go.RowKit Go.Lib in
theorem Tryz.bytes_Index_longer (p q:Option Addr) (n c m d:Nat) (w:World) (h2:2<=m) (TZ:n<m) (hm:m<=9223372036854775807):
 H_ 201 #[X_ p n c,X_ q m d] w fun e w'=>e=.returned (I_ (-1))/\w'=w:=Any.bytes_Index_longer Tryz.JR p q n c m d w h2 TZ hm
def Tryz.Dp:Go.Shelf.Ren:=⟨fun|187=>264|255=>311|n=>n,fun|37=>23|5=>5|3=>3|n=>n,fun|n=>n⟩
theorem Tryz.JS:Go.Proofs.Lays.n187 prog Tryz.Dp:={
 mixed:=K_
 f187:=aK func264 K_
 f255:=aK func311 K_
 t3:=underlying3
 a3:=isAgg3
 z3:=sizeOf3
 v3:=zeroValue3
 t5:=underlying5
 a5:=isAgg5
 z5:=sizeOf5
 v5:=zeroValue5
 t37:=underlying23
 a37:=isAgg23
 z37:=sizeOf23
 v37:=zeroValue23}
open Go.Proofs Go.RowKit Go.Lib in
theorem Tryz.bytes_Index_at (a1 a2:Addr) (n c1 k c2:Nat) (xs ys:List Int) (m:Int) (w:World) (hx:xs.length=n) (hy:ys.length=k) (pO:∀x∈xs,0<=x/\x<256) (ic:∀y∈ys,0<=y/\y<256) (GW:∀i,i<n->w.cell? (a1.add i)=some (B_ (xs.getD i 0))) (uJ:∀i,i<k->w.cell? (a2.add i)=some (B_ (ys.getD i 0))) (iW:n<=c1) (hs:n<4294967281) (hk:k<=9223372036854775807) (hm:L_ w 2 0 (I_ m)):
 H_ 201 #[X_ (some a1) n c1,X_ (some a2) k c2] w fun e w'=>e=.returned (I_ (Lib.index (Lib.bytesOf xs) (Lib.bytesOf ys)))/\∃q,w'=w.drewN q:=Any.bytes_Index_at Tryz.JR a1 a2 n c1 k c2 xs ys m w hx hy pO ic GW uJ iW hs hk hm
def Tryz.yh:Go.Shelf.Ren:=⟨fun|142=>202|117=>269|115=>265|n=>n,fun|37=>23|4=>4|3=>3|9=>9|5=>5|n=>n,fun|n=>n⟩
theorem Tryz.Lt:Go.Proofs.Lays.nb142 prog Tryz.yh:={
 mixed:=K_
 f115:=aK func265 K_
 f117:=aK func269 K_
 f142:=aK func202 K_
 t3:=underlying3
 a3:=isAgg3
 z3:=sizeOf3
 v3:=zeroValue3
 t4:=underlying4
 a4:=isAgg4
 z4:=sizeOf4
 v4:=zeroValue4
 t9:=underlying9
 a9:=isAgg9
 z9:=sizeOf9
 v9:=zeroValue9
 t37:=underlying23
 a37:=isAgg23
 z37:=sizeOf23
 v37:=zeroValue23
 t5:=underlying5
 a5:=isAgg5
 z5:=sizeOf5
 v5:=zeroValue5}
theorem Tryz.bytes_CutSuffix_all (p1 p2:Option Addr) (n c m d:Nat) (xs ys:List Int) (w:World) (hx:xs.length=n) (hy:ys.length=m) (ya:n<=c) (Dk:n<=9223372036854775807) (h1:Lib.BytesIn w p1 n xs) (h2:Lib.BytesIn w p2 m ys):
 H_ 202 #[X_ p1 n c,X_ p2 m d] w fun e w'=>e=.returned (.tuple #[Lib.trimSuffixV p1 n c xs ys,R_ (Lib.hasSuffix (Lib.bytesOf xs) (Lib.bytesOf ys))])/\w'=w:=Any.bytes_CutSuffix_all Tryz.Lt p1 p2 n c m d xs ys w hx hy ya Dk h1 h2
theorem Tryz.bytes_IndexByte (b o n c:Nat) (xs:List Int) (cv:Int) (w:World) (hx:xs.length=n) (hc:∀i,i<n->L_ w b (o+i) (B_ (xs.getD i 0))):
 H_ 264 #[X_ (some ⟨b,o,none⟩) n c,B_ cv] w fun e w'=>e=.returned (I_ (Lib.indexByte (Lib.bytesOf xs) cv.toNat.toUInt8))/\w'=w:=Any.bytes_IndexByte Tryz.JS b o n c xs cv w hx hc
end
section
open Go.Shelf Go.Proofs
def Tryz.tm:Go.Shelf.Ren:=⟨fun|156=>307|165=>342|166=>343|169=>344|240=>397|241=>398|276=>430|277=>431|n=>n,fun|31=>187|9=>9|3=>3|4=>4|0=>0|20=>20|72=>452|76=>454|70=>450|37=>23|75=>370|127=>487|164=>447|5=>5|80=>456|n=>n,fun|n=>n⟩
theorem Tryz.JY:Go.Proofs.Lays.n156 prog Tryz.tm:={
 mixed:=K_
 f156:=aK func307 K_
 f165:=aK func342 K_
 f166:=aK func343 K_
 f169:=aK func344 K_
 f240:=aK func397 K_
 f241:=aK func398 K_
 f276:=aK func430 K_
 f277:=aK func431 K_
 t0:=underlying0
 a0:=isAgg0
 z0:=sizeOf0
 v0:=zeroValue0
 t3:=underlying3
 a3:=isAgg3
 z3:=sizeOf3
 v3:=zeroValue3
 t4:=underlying4
 a4:=isAgg4
 z4:=sizeOf4
 v4:=zeroValue4
 t9:=underlying9
 a9:=isAgg9
 z9:=sizeOf9
 v9:=zeroValue9
 t20:=underlying20
 a20:=isAgg20
 z20:=sizeOf20
 v20:=zeroValue20
 t31:=underlying187
 a31:=isAgg187
 z31:=sizeOf187
 v31:=zeroValue187
 t37:=underlying23
 a37:=isAgg23
 z37:=sizeOf23
 v37:=zeroValue23
 t70:=underlying450
 a70:=isAgg450
 z70:=sizeOf450
 v70:=zeroValue450
 t72:=underlying452
 a72:=isAgg452
 z72:=sizeOf452
 v72:=zeroValue452
 t75:=underlying370
 a75:=isAgg370
 z75:=sizeOf370
 v75:=zeroValue370
 t76:=underlying454
 a76:=isAgg454
 z76:=sizeOf454
 v76:=zeroValue454
 t127:=underlying487
 a127:=isAgg487
 z127:=sizeOf487
 v127:=zeroValue487
 t164:=underlying447
 a164:=isAgg447
 z164:=sizeOf447
 v164:=zeroValue447}
theorem Tryz.js:Builder.Extra prog Tryz.tm:={
 sizeBuilder:=K_
 liesBuilder:=K_
 t5:=underlying5
 a5:=isAgg5
 z5:=sizeOf5
 v5:=zeroValue5
 infoByte:=K_
 cellsByte:=K_
 sizeByte:=K_
 neB5:=by decide}
open Go.RowKit in
theorem Tryz.strings_Join_none (a:Option Addr) (c:Nat) (sep:ByteArray) (w:World):
 H_ 307 #[X_ a 0 c,T_ sep] w fun e w'=>e=.returned E_/\w'=w:=Any.strings_Join_none Tryz.JY Tryz.js a c sep w
open Go.RowKit in
theorem Tryz.strings_Join (bk o c:Nat) (xs:List ByteArray) (sep:ByteArray) (w:World) (az:∀(j:Nat) x,xs[j]? =some x->L_ w bk (o+j) (T_ x)) (WD:bk<w.heap.size) (hN:xs.length<=140737488355328) (iW:xs.length<=c) (hlen:(Lib.join (xs.map (·.data.toList)) sep.data.toList).length<=140737488355328):
 H_ 307 #[X_ (some ⟨bk,o,none⟩) xs.length c,T_ sep] w fun e w'=>e=.returned (T_ ⟨(Lib.join (xs.map (·.data.toList)) sep.data.toList).toArray⟩)/\Below w.heap.size w w':=Any.strings_Join Tryz.JY Tryz.js bk o c xs sep w az WD hN iW hlen
def Tryz.Dz:Go.Shelf.Ren:=⟨fun|103=>449|210=>462|206=>469|n=>n,fun|9=>9|4=>4|24=>314|3=>3|n=>n,fun|n=>n⟩
theorem Tryz.Ua:Go.Proofs.Lays.n103 prog Tryz.Dz:={
 mixed:=K_
 f103:=aK func449 K_
 f206:=aK func469 K_
 f210:=aK func462 K_
 t3:=underlying3
 a3:=isAgg3
 z3:=sizeOf3
 v3:=zeroValue3
 t4:=underlying4
 a4:=isAgg4
 z4:=sizeOf4
 v4:=zeroValue4
 t9:=underlying9
 a9:=isAgg9
 z9:=sizeOf9
 v9:=zeroValue9
 t24:=underlying314
 a24:=isAgg314
 z24:=sizeOf314
 v24:=zeroValue314}
open Go.RowKit in
theorem Tryz.strings_CutPrefix (s p:ByteArray) (w:World):
 H_ 449 #[T_ s,T_ p] w fun e w'=>e=.returned (.tuple #[T_ ⟨(Lib.trimPrefix s.data.toList p.data.toList).toArray⟩,R_ (Lib.hasPrefix s.data.toList p.data.toList)])/\w'=w:=Any.strings_CutPrefix Tryz.Ua s p w
def Tryz.DA:Go.Shelf.Ren:=⟨fun|104=>377|211=>420|207=>448|n=>n,fun|9=>9|4=>4|24=>314|3=>3|n=>n,fun|n=>n⟩
theorem Tryz.Uc:Go.Proofs.Lays.n104 prog Tryz.DA:={
 mixed:=K_
 f104:=aK func377 K_
 f207:=aK func448 K_
 f211:=aK func420 K_
 t3:=underlying3
 a3:=isAgg3
 z3:=sizeOf3
 v3:=zeroValue3
 t4:=underlying4
 a4:=isAgg4
 z4:=sizeOf4
 v4:=zeroValue4
 t9:=underlying9
 a9:=isAgg9
 z9:=sizeOf9
 v9:=zeroValue9
 t24:=underlying314
 a24:=isAgg314
 z24:=sizeOf314
 v24:=zeroValue314}
open Go.RowKit in
theorem Tryz.strings_CutSuffix (s p:ByteArray) (w:World) (hs:s.size<=9223372036854775807):
 H_ 377 #[T_ s,T_ p] w fun e w'=>e=.returned (.tuple #[T_ ⟨(Lib.trimSuffix s.data.toList p.data.toList).toArray⟩,R_ (Lib.hasSuffix s.data.toList p.data.toList)])/\w'=w:=Any.strings_CutSuffix Tryz.Uc s p w hs
def Tryz.AV:Go.Shelf.Ren:=⟨fun|14=>271|16=>313|17=>314|19=>350|20=>351|21=>352|22=>353|23=>354|24=>355|25=>400|27=>402|26=>401|28=>440|29=>456|30=>230|31=>231|32=>232|33=>233|35=>172|34=>290|36=>291|37=>292|38=>293|39=>331|40=>332|n=>n,fun|9=>9|3=>3|22=>146|24=>370|25=>371|4=>4|34=>461|5=>5|36=>214|37=>23|0=>0|39=>462|21=>21|44=>490|47=>487|50=>516|48=>514|2=>2|52=>354|55=>356|59=>400|60=>28|20=>20|61=>401|65=>483|66=>484|67=>456|n=>n,fun|0=>6|1=>7|2=>3|3=>4|4=>5|n=>n⟩
theorem Tryz.vY:Go.Proofs.LaysPu.n14 prog Tryz.AV:={
 mixed:=K_
 f14:=aK func271 K_
 f16:=aK func313 K_
 f17:=aK func314 K_
 f19:=aK func350 K_
 f20:=aK func351 K_
 f21:=aK func352 K_
 f22:=aK func353 K_
 f23:=aK func354 K_
 f24:=aK func355 K_
 f25:=aK func400 K_
 f26:=aK func401 K_
 f27:=aK func402 K_
 f28:=aK func440 K_
 f29:=aK func456 K_
 f30:=aK func230 K_
 f31:=aK func231 K_
 f32:=aK func232 K_
 f33:=aK func233 K_
 f34:=aK func290 K_
 f35:=aK func172 K_
 f36:=aK func291 K_
 f37:=aK func292 K_
 f38:=aK func293 K_
 f39:=aK func331 K_
 f40:=aK func332 K_
 t0:=underlying0
 a0:=isAgg0
 z0:=sizeOf0
 v0:=zeroValue0
 i0:=K_
 t2:=underlying2
 a2:=isAgg2
 z2:=sizeOf2
 v2:=zeroValue2
 i2:=K_
 t3:=underlying3
 a3:=isAgg3
 z3:=sizeOf3
 v3:=zeroValue3
 i3:=K_
 t4:=underlying4
 a4:=isAgg4
 z4:=sizeOf4
 v4:=zeroValue4
 i4:=K_
 t5:=underlying5
 a5:=isAgg5
 z5:=sizeOf5
 v5:=zeroValue5
 i5:=K_
 t9:=underlying9
 a9:=isAgg9
 z9:=sizeOf9
 v9:=zeroValue9
 i9:=K_
 t20:=underlying20
 a20:=isAgg20
 z20:=sizeOf20
 v20:=zeroValue20
 i20:=K_
 t21:=underlying21
 a21:=isAgg21
 z21:=sizeOf21
 v21:=zeroValue21
 i21:=K_
 t22:=underlying146
 a22:=isAgg146
 z22:=sizeOf146
 v22:=zeroValue146
 i22:=K_
 t24:=underlying370
 a24:=isAgg370
 z24:=sizeOf370
 v24:=zeroValue370
 i24:=K_
 t25:=underlying371
 a25:=isAgg371
 z25:=sizeOf371
 v25:=zeroValue371
 i25:=K_
 t34:=underlying461
 a34:=isAgg461
 z34:=sizeOf461
 v34:=zeroValue461
 i34:=K_
 c34:=K_
 t36:=underlying214
 a36:=isAgg214
 z36:=sizeOf214
 v36:=zeroValue214
 i36:=K_
 t37:=underlying23
 a37:=isAgg23
 z37:=sizeOf23
 v37:=zeroValue23
 i37:=K_
 t39:=underlying462
 a39:=isAgg462
 z39:=sizeOf462
 v39:=zeroValue462
 i39:=K_
 t44:=underlying490
 a44:=isAgg490
 z44:=sizeOf490
 v44:=zeroValue490
 i44:=K_
 t47:=underlying487
 a47:=isAgg487
 z47:=sizeOf487
 v47:=zeroValue487
 i47:=K_
 t48:=underlying514
 a48:=isAgg514
 z48:=sizeOf514
 v48:=zeroValue514
 i48:=K_
 t50:=underlying516
 a50:=isAgg516
 z50:=sizeOf516
 v50:=zeroValue516
 i50:=K_
 t52:=underlying354
 a52:=isAgg354
 z52:=sizeOf354
 v52:=zeroValue354
 i52:=K_
 t55:=underlying356
 a55:=isAgg356
 z55:=sizeOf356
 v55:=zeroValue356
 i55:=K_
 t59:=underlying400
 a59:=isAgg400
 z59:=sizeOf400
 v59:=zeroValue400
 i59:=K_
 t60:=underlying28
 a60:=isAgg28
 z60:=sizeOf28
 v60:=zeroValue28
 i60:=K_
 t61:=underlying401
 a61:=isAgg401
 z61:=sizeOf401
 t65:=underlying483
 a65:=isAgg483
 z65:=sizeOf483
 v65:=zeroValue483
 i65:=K_
 t66:=underlying484
 a66:=isAgg484
 z66:=sizeOf484
 v66:=zeroValue484
 i66:=K_
 t67:=underlying456
 a67:=isAgg456
 z67:=sizeOf456
 v67:=zeroValue456
 i67:=K_
 g0:=K_
 m0:=K_
 g1:=K_
 m1:=K_
 g2:=K_
 m2:=K_
 g3:=K_
 m3:=K_
 g4:=K_
 m4:=by kernel_rfl}
open Go.RowKit in
theorem Tryz.strconv_ParseUint_10_at32_ok (s:ByteArray) (aiv:s.size<=9223372036854775806) (u:Nat) (h:Lib.parseUintB 32 s.data.toList=.ok u) (w:World):
 H_ 271 #[T_ s,I_ 10,I_ 32] w fun e w'=>e=.returned (.tuple #[.int .u64 u,.nilIface])/\(w'=w\/w'=Lib.bytesWorld w 5 s):=Any.strconv_ParseUint_10_at32_ok Tryz.vY s aiv u h w
open Go.RowKit in
theorem Tryz.strconv_ParseUint_10_at32_range (s:ByteArray) (Ud:s.size<=281474976710656) (h:Lib.parseUintB 32 s.data.toList=.range) (ev:Value) (w:World) (hv:L_ w 7 0 ev) (WE:ev=.nilIface\/∃te pe,ev=.iface te pe):
 H_ 271 #[T_ s,I_ 10,I_ 32] w fun e w'=>∃N,e=.returned (.tuple #[.int .u64 4294967295,.iface 462 (Q_ N)])/\w.heap.size<=N/\w'.heap[N]? =some (.cells #[T_ ⟨#[80,97,114,115,101,85,105,110,116]⟩,T_ s,ev] 490 (0,0))/\Below w.heap.size w w':=Any.strconv_ParseUint_10_at32_range Tryz.vY s Ud h ev w hv WE
def Tryz.DB:Go.Shelf.Ren:=⟨fun|145=>446|220=>461|219=>468|217=>459|225=>473|224=>267|267=>474|266=>464|314=>476|n=>n,fun|9=>9|4=>4|59=>523|3=>3|5=>5|46=>214|146=>422|51=>28|n=>n,fun|1=>2|n=>n⟩
theorem Tryz.Ue:Go.Proofs.Lays.n145 prog Tryz.DB:={
 mixed:=K_
 f145:=aK func446 K_
 f217:=aK func459 K_
 f219:=aK func468 K_
 f220:=aK func461 K_
 f224:=aK func267 K_
 f225:=aK func473 K_
 f266:=aK func464 K_
 f267:=aK func474 K_
 f314:=aK func476 K_
 t3:=underlying3
 a3:=isAgg3
 z3:=sizeOf3
 v3:=zeroValue3
 t4:=underlying4
 a4:=isAgg4
 z4:=sizeOf4
 v4:=zeroValue4
 t5:=underlying5
 a5:=isAgg5
 z5:=sizeOf5
 v5:=zeroValue5
 t9:=underlying9
 a9:=isAgg9
 z9:=sizeOf9
 v9:=zeroValue9
 t46:=underlying214
 a46:=isAgg214
 z46:=sizeOf214
 v46:=zeroValue214
 t51:=underlying28
 a51:=isAgg28
 z51:=sizeOf28
 v51:=zeroValue28
 t59:=underlying523
 a59:=isAgg523
 z59:=sizeOf523
 v59:=zeroValue523
 t146:=underlying422
 a146:=isAgg422
 z146:=sizeOf422
 v146:=zeroValue422
 g1:=by kernel_rfl}
open Go.RowKit Go.Lib in
theorem Tryz.strings_Cut (s sep:ByteArray) (m:Int) (w:World) (hs:s.size<4294967281) (hm:L_ w 2 0 (I_ m)):
 H_ 446 #[T_ s,T_ sep] w fun e w'=>e=.returned (.tuple #[T_ ⟨(Lib.cut s.data.toList sep.data.toList).1.toArray⟩,T_ ⟨(Lib.cut s.data.toList sep.data.toList).2.1.toArray⟩,R_ (Lib.cut s.data.toList sep.data.toList).2.2])/\∃n,w'=w.drewN n:=Any.strings_Cut Tryz.Ue s sep m w hs hm
def Tryz.DC:Go.Shelf.Ren:=⟨fun|146=>445|221=>460|268=>465|138=>466|143=>467|195=>470|197=>471|218=>472|219=>468|260=>475|217=>459|225=>473|224=>267|267=>474|266=>464|314=>476|n=>n,fun|9=>9|31=>187|3=>3|4=>4|0=>0|105=>543|21=>21|5=>5|46=>214|119=>218|139=>548|138=>547|146=>422|51=>28|n=>n,fun|1=>2|3=>8|4=>9|n=>n⟩
theorem Tryz.Uf:Go.Proofs.Lays.n146 prog Tryz.DC:={
 mixed:=K_
 f138:=aK func466 K_
 f143:=aK func467 K_
 f146:=aK func445 K_
 f195:=aK func470 K_
 f197:=aK func471 K_
 f217:=aK func459 K_
 f218:=aK func472 K_
 f219:=aK func468 K_
 f221:=aK func460 K_
 f224:=aK func267 K_
 f225:=aK func473 K_
 f260:=aK func475 K_
 f266:=aK func464 K_
 f267:=aK func474 K_
 f268:=aK func465 K_
 f314:=aK func476 K_
 t0:=underlying0
 a0:=isAgg0
 z0:=sizeOf0
 v0:=zeroValue0
 t3:=underlying3
 a3:=isAgg3
 z3:=sizeOf3
 v3:=zeroValue3
 t4:=underlying4
 a4:=isAgg4
 z4:=sizeOf4
 v4:=zeroValue4
 t5:=underlying5
 a5:=isAgg5
 z5:=sizeOf5
 v5:=zeroValue5
 t9:=underlying9
 a9:=isAgg9
 z9:=sizeOf9
 v9:=zeroValue9
 t21:=underlying21
 a21:=isAgg21
 z21:=sizeOf21
 v21:=zeroValue21
 t31:=underlying187
 a31:=isAgg187
 z31:=sizeOf187
 v31:=zeroValue187
 t46:=underlying214
 a46:=isAgg214
 z46:=sizeOf214
 v46:=zeroValue214
 t51:=underlying28
 a51:=isAgg28
 z51:=sizeOf28
 v51:=zeroValue28
 t105:=underlying543
 a105:=isAgg543
 z105:=sizeOf543
 v105:=zeroValue543
 t119:=underlying218
 a119:=isAgg218
 z119:=sizeOf218
 t138:=underlying547
 a138:=isAgg547
 z138:=sizeOf547
 v138:=zeroValue547
 t139:=underlying548
 a139:=isAgg548
 z139:=sizeOf548
 v139:=zeroValue548
 t146:=underlying422
 a146:=isAgg422
 z146:=sizeOf422
 v146:=zeroValue422
 g1:=K_
 g3:=K_
 g4:=by kernel_rfl}
open Go.RowKit Go.Lib in
theorem Tryz.strings_Split (s sep:ByteArray) (m:Int) (w:World) (hs:s.size<4294967281) (hm:L_ w 2 0 (I_ m)) (h1:1<=sep.size):
 H_ 445 #[T_ s,T_ sep] w fun e w'=>
  e=.returned (X_ (M_ w) (Lib.countB s sep+1) (Lib.countB s sep+1))/\w'=w.alloc (G_ ((Lib.splitB sep 0 (Lib.countB s sep) s).map Value.string).toArray 9):=Any.strings_Split Tryz.Uf K_ s sep m w hs hm h1
theorem Tryz.bytes_IndexByte_nil (cv:Int) (w:World):
 H_ 264 #[Z_,B_ cv] w fun e w'=>e=.returned (I_ (-1))/\w'=w:=Any.bytes_IndexByte_nil Tryz.JS cv w
end
end Go.Proofs.YtliimglbbiebiaaGreatDoor
