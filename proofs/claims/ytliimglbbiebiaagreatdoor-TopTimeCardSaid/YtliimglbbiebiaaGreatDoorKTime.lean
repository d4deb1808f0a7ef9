import Derived.Test.YtliimglbbiebiaaGreatDoorCards
import Derived.Test.YtliimglbbiebiaaGreatDoorGTopTimeAN
import Derived.SevenTiedAt
set_option maxRecDepth 100000
set_option maxHeartbeats 6400000
namespace Go.Proofs.YtliimglbbiebiaaGreatDoor
open Go.ChangeShapes Go.WideShapes Go.ChangeAt Go.RowKit
set_option maxRecDepth 100000
theorem kTime_wf:Rows.topTimeRow.wfByText (OpenSpec.ofChange Rows.topTimeSpec)=true:=by kernel_rfl
theorem kTime_main:Tryz.pinned.checked.prog.mainIs=some (true, "65a2c7d0648cdf9069095455b2a07684bfeb3dd6a7e9aa4547f4ffcc87a73442".toList):=by kernel_rfl
theorem kTime_look:∀f fn,Tryz.pinned.checked.prog.funcNamed Rows.topTimeRow.func=some f->Tryz.pinned.checked.prog.funcs[f]? =some fn->true=Tryz.pinned.checked.prog.looks []/\∀(j:Nat) t,fn.params[j]? =some t->Tryz.pinned.checked.prog.wantsStandIn t=false:=by
 intro f fn hf TJ;obtain rfl:f=3:=Option.some.inj ((show Tryz.prog.funcNamed "cubbyhole/cubbyholetop.TopTime" =some 3 by kernel_rfl).symm.trans hf) |>.symm;obtain rfl:fn=Tryz.f3:=(Option.some.inj (Tryz.func3.symm.trans TJ)).symm
 exact⟨by kernel_rfl,fun j t ht=>by
  rw [Tryz.params3]at ht;have hm:t∈[22,23]:=by simpa using Array.mem_of_getElem? ht
  have iK:([22,23].all fun u=> !Tryz.prog.wantsStandIn u)=true:=by kernel_rfl
  exact(show Tryz.prog.wantsStandIn t=false by simpa using List.all_eq_true.1 iK t hm)⟩
end Go.Proofs.YtliimglbbiebiaaGreatDoor
