import Derived.Test.YtliimglbbiebiaaGreatDoorGTopTime0
import Derived.Test.YtliimglbbiebiaaGreatDoorProg
set_option maxRecDepth 100000
set_option maxHeartbeats 6400000
set_option linter.all false
namespace Go.Proofs.YtliimglbbiebiaaGreatDoor
open Go.Proofs.Tryz Go.RowKit Go.Maps
section
open Go.Shelf Go.Proofs
def Me:Go.Shelf.Ren:=⟨fun|6=>348|15=>118|14=>399|28=>171|29=>172|20=>432|21=>433|22=>434|23=>435|24=>436|25=>437|26=>438|27=>439|46=>453|47=>219|48=>220|49=>454|50=>455|57=>463|n=>n,fun|22=>44|24=>191|25=>460|3=>3|39=>214|0=>0|53=>28|55=>146|4=>4|46=>261|45=>260|50=>124|5=>5|9=>9|66=>331|70=>335|76=>391|77=>392|n=>n,fun|n=>n⟩
theorem adJ:Go.Proofs.SlLaysF0.n6 prog Me:={
 mixed:=K_
 f6:=⟨Tryz.f348.name,D_,aK func348 K_⟩
 f14:=⟨Tryz.f399.name,D_,aK func399 K_⟩
 f15:=aK func118 K_
 f20:=⟨Tryz.f432.name,D_,aK func432 K_⟩
 f21:=⟨Tryz.f433.name,D_,aK func433 K_⟩
 f22:=⟨Tryz.f434.name,D_,aK func434 K_⟩
 f23:=⟨Tryz.f435.name,D_,aK func435 K_⟩
 f24:=⟨Tryz.f436.name,D_,aK func436 K_⟩
 f25:=⟨Tryz.f437.name,D_,aK func437 K_⟩
 f26:=⟨Tryz.f438.name,D_,aK func438 K_⟩
 f27:=⟨Tryz.f439.name,D_,aK func439 K_⟩
 f28:=aK func171 K_
 f29:=aK func172 K_
 f46:=⟨Tryz.f453.name,D_,aK func453 K_⟩
 f47:=aK func219 K_
 f48:=aK func220 K_
 f49:=⟨Tryz.f454.name,D_,aK func454 K_⟩
 f50:=⟨Tryz.f455.name,D_,aK func455 K_⟩
 f57:=⟨Tryz.f463.name,D_,aK func463 K_⟩
 t0:=underlying0
 a0:=isAgg0
 z0:=sizeOf0
 v0:=zeroValue0
 t3:=underlying3
 a3:=isAgg3
 z3:=sizeOf3
 v3:=zeroValue3
 t4:=underlying4
 a4:=isAgg4
 z4:=sizeOf4
 v4:=zeroValue4
 t5:=underlying5
 a5:=isAgg5
 z5:=sizeOf5
 v5:=zeroValue5
 t9:=underlying9
 a9:=isAgg9
 z9:=sizeOf9
 v9:=zeroValue9
 t22:=underlying44
 a22:=isAgg44
 z22:=sizeOf44
 v22:=zeroValue44
 t25:=underlying460
 a25:=isAgg460
 z25:=sizeOf460
 v25:=zeroValue460
 t39:=underlying214
 a39:=isAgg214
 z39:=sizeOf214
 v39:=zeroValue214
 t45:=underlying260
 a45:=isAgg260
 z45:=sizeOf260
 v45:=zeroValue260
 t46:=underlying261
 a46:=isAgg261
 z46:=sizeOf261
 v46:=zeroValue261
 t50:=underlying124
 a50:=isAgg124
 z50:=sizeOf124
 v50:=zeroValue124
 t53:=underlying28
 a53:=isAgg28
 z53:=sizeOf28
 v53:=zeroValue28
 t55:=underlying146
 a55:=isAgg146
 z55:=sizeOf146
 v55:=zeroValue146
 t66:=underlying331
 a66:=isAgg331
 z66:=sizeOf331
 v66:=zeroValue331
 t70:=underlying335
 a70:=isAgg335
 z70:=sizeOf335
 v70:=zeroValue335
 t76:=underlying391
 a76:=isAgg391
 z76:=sizeOf391
 v76:=zeroValue391
 t77:=underlying392
 a77:=isAgg392
 z77:=sizeOf392
 v77:=zeroValue392}
end
section
open Go.Shelf Go.Proofs
def U5:Go.Shelf.Ren:=⟨fun|48=>220|n=>n,fun|76=>391|55=>146|0=>0|66=>331|39=>214|n=>n,fun|n=>n⟩
theorem xsA:Go.Proofs.SlLaysF0.n48 prog U5:={
 mixed:=K_
 f48:=aK func220 K_
 t0:=underlying0
 a0:=isAgg0
 z0:=sizeOf0
 v0:=zeroValue0
 t39:=underlying214
 a39:=isAgg214
 z39:=sizeOf214
 v39:=zeroValue214
 t55:=underlying146
 a55:=isAgg146
 z55:=sizeOf146
 v55:=zeroValue146
 t66:=underlying331
 a66:=isAgg331
 z66:=sizeOf331
 v66:=zeroValue331
 t76:=underlying391
 a76:=isAgg391
 z76:=sizeOf391
 v76:=zeroValue391}
def Kq:Go.Shelf.Ren:=⟨fun|47=>219|15=>118|28=>171|29=>172|n=>n,fun|3=>3|39=>214|53=>28|55=>146|4=>4|5=>5|9=>9|n=>n,fun|n=>n⟩
theorem npA:Go.Proofs.SlLaysF0.n47 prog Kq:={
 mixed:=K_
 f15:=aK func118 K_
 f28:=aK func171 K_
 f29:=aK func172 K_
 f47:=aK func219 K_
 t3:=underlying3
 a3:=isAgg3
 z3:=sizeOf3
 v3:=zeroValue3
 t4:=underlying4
 a4:=isAgg4
 z4:=sizeOf4
 v4:=zeroValue4
 t5:=underlying5
 a5:=isAgg5
 z5:=sizeOf5
 v5:=zeroValue5
 t9:=underlying9
 a9:=isAgg9
 z9:=sizeOf9
 v9:=zeroValue9
 t39:=underlying214
 a39:=isAgg214
 z39:=sizeOf214
 v39:=zeroValue214
 t53:=underlying28
 a53:=isAgg28
 z53:=sizeOf28
 v53:=zeroValue28
 t55:=underlying146
 a55:=isAgg146
 z55:=sizeOf146
 v55:=zeroValue146}
end
end Go.Proofs.YtliimglbbiebiaaGreatDoor
