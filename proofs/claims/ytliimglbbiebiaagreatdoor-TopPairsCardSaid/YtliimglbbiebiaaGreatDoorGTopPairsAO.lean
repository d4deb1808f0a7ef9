/- A part of the proof: Rng, RngShelf, RngSort, RangeOf, RangeIn, Nums. -/
import Derived.Test.YtliimglbbiebiaaGreatDoorGTopPairsAI
import Derived.Lib.MinMax
import Derived.Shelf.SlGeneric
import Derived.Shelf.SlSortCmp.WholeK
import Derived.Test.YtliimglbbiebiaaGreatDoorProg
import Derived.RangeFuncNested
import Derived.RangeFuncBound
import Derived.RangeFuncCalls
import Derived.RangeFuncLeaves
import Derived.Test.YtliimglbbiebiaaGreatDoorGTopPairsAA
import Derived.OwnWalkIn
import Derived.TacticsInMore
import Derived.LoopNIn
import Derived.LoopIn
import Derived.Shelf.Abstract
import Derived.Shelf.RegionOpen
import Derived.WalkKit
import Derived.Test.YtliimglbbiebiaaGreatDoorGTopPairsAL
import Derived.Test.YtliimglbbiebiaaGreatDoorGTopPairsAH
set_option maxRecDepth 100000
set_option maxHeartbeats 6400000
section
namespace Go.Proofs.YtliimglbbiebiaaGreatDoor
open Go.RowKit
structure Rg where
 lo:Int
 hi:Int
abbrev Rg.val (r:Rg):Value:=.agg #[.int .u32 r.lo,.int .u32 r.hi]
def rgE:Elem Rg where
 enc r:=[.int .u32 r.lo,.int .u32 r.hi]
 sz:=2
 len _:=rfl
 one x u hu:=by simp at hu; rcases hu with rfl | rfl <;> rfl
 pos:=by omega
def Rg.wf (r:Rg):Prop:=0≤r.lo∧r.lo≤4294967295∧0≤r.hi∧r.hi≤4294967295
def IsPredR (w:World) (g:Nat) (lb:Array Value) (p:Rg→Bool):Prop:=∀ (W:World) (x:Rg),New w W→Calls Tryz.prog g (#[x.val] ++ lb) W fun e w'=>e=.returned (.bool (p x))∧New W w'
theorem indexFuncR_any (g:Nat) (lb:Array Value) (p:Rg→Bool) (hE:∀ args w,(callFunc g args).run Tryz.prog w=.ok (.enter g args) w) (v:Value) (l:List Rg) (w:World) (hp:IsPredR w g lb p) (hv:Rd rgE w v l) (hl:l.length≤1000000) :
 Calls Tryz.prog 345 #[v,.func (.func g) #[] lb] w fun e w'=>(∃ i:Int,e=.returned (.int .i64 i)∧-1≤i∧(0≤i ↔ l.any p=true))∧New w w':=by
 obtain ⟨A,c,rfl,hc,hcells⟩:=hv
 have HC:=Lib.hid hcells
 clear hcells
 go_enter Tryz.func345,Tryz.ntmps345
 go_wp2
 go_loopw [8] (fun vi wr=>∃ k:Nat,k≤l.length∧vi=.int .i64 k∧Hid (∀ x,x ∈ l.take k→p x=false)∧New w wr) (fun vi _=>l.length - (intOf vi).toNat)
 case atStart=>exact ⟨0,Nat.zero_le _,rfl,fun x hx=>by simp at hx,New.refl _⟩
 case round =>
  obtain ⟨k,hk,rfl,HS,hnew⟩:=hrel
  by_cases hkl:k < l.length
  · obtain ⟨x,hx⟩:∃ x,l[k]? = some x:=⟨_,List.getElem?_eq_getElem hkl⟩
    obtain ⟨b,off,rfl,hcell⟩:=HC.out (by rintro rfl; simp at hkl)
    obtain ⟨xk,xu⟩:=x
    have c0:wr.cell? ⟨b,off + k * 2,none⟩=some (.int .u32 xk):=Fr.cell hnew (hcell k _ hx 0 _ rfl) id
    have c1:wr.cell? ⟨b,off + k * 2 + 1,none⟩=some (.int .u32 xu):=Fr.cell hnew (hcell k _ hx 1 _ rfl) id
    have HX:=Lib.hid hx
    clear hcell hx
    have hcall:=hp _ ⟨xk,xu⟩ hnew
    cases hpx:p ⟨xk,xu⟩
    all_goals
     rw [hpx] at hcall
     have HP:=Lib.hid hpx
     have HCALL:=Lib.hid hcall
     clear hpx hcall
     go_wp2_with fail
     refine HCALL.out.mono ?_
     rintro e w1 ⟨rfl,hn1⟩
     go_wp2
    · go_roundw
      case rel =>
       refine ⟨k + 1,by omega,by go_num,fun x hx=>?_,hnew.trans hn1⟩
       rw [take_snoc HX.out] at hx
       rcases List.mem_append.1 hx with hx | hx
       · exact HS.out x hx
       · rw [List.mem_singleton.1 hx]; exact HP.out
      case measure=>simp [intOf]; omega
    · go_ret
      refine ⟨⟨k,rfl,by omega,fun _=>?_,fun _=>by omega⟩,hnew.trans hn1⟩
      exact List.any_eq_true.2 ⟨_,List.mem_of_getElem? HX.out,HP.out⟩
  · go_wp2
    go_ret
    refine ⟨⟨-1,rfl,by omega,fun h=>by omega,fun h=>?_⟩,hnew⟩
    obtain ⟨x,hx,hpx⟩:=List.any_eq_true.1 h
    have:=HS.out x (by rw [List.take_of_length_le (by omega)]; exact hx)
    rw [this] at hpx
    cases hpx
theorem containsFuncR_any (g:Nat) (lb:Array Value) (p:Rg→Bool) (hE:∀ args w,(callFunc g args).run Tryz.prog w=.ok (.enter g args) w) (v:Value) (l:List Rg) (w:World) (hp:IsPredR w g lb p) (hv:Rd rgE w v l) (hl:l.length≤1000000) :
 Calls Tryz.prog 308 #[v,.func (.func g) #[] lb] w fun e w'=>e=.returned (.bool (l.any p))∧New w w':=by
 have h:=indexFuncR_any g lb p hE v l w hp hv hl
 generalize l.any p=q at h ⊢
 have H:=Lib.hid h
 clear h hp hv hE
 go_enter Tryz.func308,Tryz.ntmps308
 go_wp2_with fail
 refine H.out.mono ?_
 rintro e w1 ⟨⟨i,rfl,h1,h2⟩,hn⟩
 have H2:=Lib.hid h2
 clear h2
 cases q
 · have hi:decide ((0:Int)≤i)=false:=by
    refine decide_eq_false fun h=>?_
    have:=H2.out.1 h
    cases this
   go_wp2
   go_ret
   exact ⟨rfl,hn⟩
 · have hi:decide ((0:Int)≤i)=true:=decide_eq_true (H2.out.2 rfl)
   go_wp2
   go_ret
   exact ⟨rfl,hn⟩
def overB (top:Int) (r:Rg):Bool:=decide (top < max r.lo r.hi)
theorem valid1_pred (w:World) (g:Nat) (top:Int) (hg:Blk w g 28 #[.int .u32 top]):IsPredR w 309 #[.pointer (some ⟨g,0,none⟩)] (overB top):=by
 intro W x hn
 obtain ⟨lo,hi⟩:=x
 have hc:W.cell? ⟨g,0,none⟩=some (.int .u32 top):=(hn.blk hg).cell 0
 have hlt:=(hn.blk hg).lt
 have hc1:∀ o,(W.alloc o).cell? ⟨g,0,none⟩=some (.int .u32 top):=fun o=>(Blk.alloc (hn.blk hg) o).cell 0
 show Calls Tryz.prog 309 #[.agg #[.int .u32 lo,.int .u32 hi],.pointer (some ⟨g,0,none⟩)] W _
 generalize hq:overB top ⟨lo,hi⟩=q
 have HQ:=Lib.hid hq
 clear hq
 go_enter Tryz.func309,Tryz.ntmps309
 go_wp2
 go_ret
 refine ⟨?_,(New.refl _).alloc _⟩
 rw [← HQ.out]
 rfl
def okSet (top:Int) (l:List Rg):Bool:=decide (0 < top) && decide (0 < l.length) && !l.any (overB top)
theorem rvalid_any (top:Int) (v:Value) (l:List Rg) (w:World) (hv:Rd rgE w v l) (hl:l.length≤1000000) :
 Calls Tryz.prog 259 #[.int .u32 top,v] w fun e w'=>e=.returned (.bool (okSet top l))∧New w w':=by
 have hmf:∀ (fn:Fn) (first cap:Array Value) (w:World),(Instr.makeFunc fn first cap).run Tryz.prog w=.ok (.func fn first cap) w:=fun _ _ _ _=>rfl
 have hv1:=hv.alloc (.cells #[.int .u32 top] 28)
 have hbox:Blk (w.alloc (.cells #[.int .u32 top] 28)) w.heap.size 28 #[.int .u32 top]:=Blk.new _ _ _
 have H:=containsFuncR_any 309 #[.pointer (some ⟨w.heap.size,0,none⟩)] _ (enters _ _ _ Tryz.func309 (by kernel_rfl) rfl) v l _ (valid1_pred _ w.heap.size top hbox) hv1 hl
 have HH:=Lib.hid H
 obtain ⟨A,c,rfl,hc,_⟩:=hv
 unfold okSet
 generalize l.any (overB top)=q at HH ⊢
 clear H hv1
 by_cases ht:0 < top
 · have hd:decide (0 < top)=true:=decide_eq_true ht
   by_cases hn:0 < l.length
   · have hd2:decide ((0:Int) < l.length)=true:=decide_eq_true (by omega)
     have hd3:decide (0 < l.length)=true:=decide_eq_true hn
     go_enter Tryz.func259,Tryz.ntmps259
     go_wp2_with fail
     refine HH.out.mono ?_
     rintro e w1 ⟨rfl,hn1⟩
     go_wp2
     go_ret
     exact ⟨by simp [ht,hd3],((New.refl _).alloc _).trans hn1⟩
   · have hd2:decide ((0:Int) < l.length)=false:=decide_eq_false (by omega)
     have hd3:decide (0 < l.length)=false:=decide_eq_false hn
     clear HH
     go_enter Tryz.func259,Tryz.ntmps259
     go_wp2
     go_ret
     exact ⟨by simp [hd3],(New.refl _).alloc _⟩
 · have hd:decide (0 < top)=false:=decide_eq_false ht
   clear HH
   go_enter Tryz.func259,Tryz.ntmps259
   go_wp2
   go_ret
   exact ⟨by simp,(New.refl _).alloc _⟩
def plainR (top:Int) (r:Rg):Rg :=
 ⟨min (if r.lo=0 then top else r.lo) (if r.hi=0 then top else r.hi),max (if r.lo=0 then top else r.lo) (if r.hi=0 then top else r.hi)⟩
theorem loadRg {w:World} {g:Nat} {a b:Value} (h:Blk w g 191 #[a,b]):(loadVar 191 ⟨g,0,none⟩).run Tryz.prog w=.ok (.agg #[a,b]) w :=
 run_loadVar_row w g _ _ _ _ _ h Tryz.underlying191 rfl (by kernel_rfl)
theorem results_cellR {P:Program} {fn:Func} {p:Tmp} {t:TypeId} (h:fn.results=#[.cell p t]) (tmps:Array Value) (w:World) {a:Addr} {v:Value}
 (hp:tmps[p]? = some (.pointer (some a))) (hv:(loadVar t a).run P w=.ok v w):(results fn tmps).run P w=.ok v w:=by
 simp [results,h,hp,asAddr,hv]
theorem blk_two (w:World) (o:Obj) (t:TypeId) (cs:Array Value):Blk ((w.alloc o).alloc (.cells cs t)) (w.heap.size + 1) t cs:=by
 have h:=Blk.new (w.alloc o) t cs
 rw [World.size_alloc] at h
 exact h
theorem plain_any (top:Int) (r:Rg) (w:World) :
 Calls Tryz.prog 347 #[.int .u32 top,r.val] w fun e w'=>e=.returned (plainR top r).val∧New w w':=by
 obtain ⟨lo,hi⟩:=r
 unfold plainR
 dsimp only
 by_cases h1:lo=0 <;> by_cases h2:hi=0
 all_goals
  first
   | (have e1:(lo == 0)=true:=beq_iff_eq.2 h1; rw [if_pos h1])
   | (have e1:(lo == 0)=false:=beq_eq_false_iff_ne.2 h1; rw [if_neg h1])
  first
   | (have e2:(hi == 0)=true:=beq_iff_eq.2 h2; rw [if_pos h2])
   | (have e2:(hi == 0)=false:=beq_eq_false_iff_ne.2 h2; rw [if_neg h2])
  clear h1 h2
  go_enter Tryz.func347,Tryz.ntmps347
  go_wp2
  exact bodyPost_ret (results_cellR rfl _ _ rfl (loadRg (blk_two _ _ _ _))) rfl ⟨by first | rfl | simp,((New.refl w).alloc _).alloc _⟩
theorem cmp_any (a b:Rg) (ha:a.wf) (hb:b.wf) (w:World) :
 Calls Tryz.prog 349 #[a.val,b.val] w fun e w'=>e=.returned (.int .i64 (a.lo - b.lo))∧w'=(w.alloc (.cells #[.int .u32 a.lo,.int .u32 a.hi] 191)).alloc (.cells #[.int .u32 b.lo,.int .u32 b.hi] 191):=by
 obtain ⟨alo,ahi⟩:=a
 obtain ⟨blo,bhi⟩:=b
 obtain ⟨a1,a2,a3,a4⟩:=ha
 obtain ⟨b1,b2,b3,b4⟩:=hb
 dsimp only at *
 go_enter Tryz.func349,Tryz.ntmps349
 go_wp2
 go_ret
 exact ⟨rfl,rfl⟩
end Go.Proofs.YtliimglbbiebiaaGreatDoor
end

section
namespace Go.Proofs.YtliimglbbiebiaaGreatDoor
open Go.Shelf Go.Proofs
def sortR_ren:Go.Shelf.Ren:=⟨fun | 6=>348 | 15=>118 | 14=>399 | 28=>171 | 29=>172 | 20=>432 | 21=>433 | 22=>434 | 23=>435 | 24=>436 | 25=>437 | 26=>438 | 27=>439 | 46=>453 | 47=>219 | 48=>220 | 49=>454 | 50=>455 | 57=>463 | n=>n,fun | 22=>44 | 24=>191 | 25=>460 | 3=>3 | 39=>214 | 0=>0 | 53=>28 | 55=>146 | 4=>4 | 46=>261 | 45=>260 | 50=>124 | 5=>5 | 9=>9 | 66=>331 | 70=>335 | 76=>391 | 77=>392 | n=>n,fun | n=>n⟩
theorem sortR:Go.Proofs.SlLaysF0.n6 Tryz.prog sortR_ren:={
 mixed:=by kernel_rfl
 f6:=⟨Tryz.f348.name,by decide,Tryz.func348.trans (congrArg some (by kernel_rfl))⟩
 f14:=⟨Tryz.f399.name,by decide,Tryz.func399.trans (congrArg some (by kernel_rfl))⟩
 f15:=Tryz.func118.trans (congrArg some (by kernel_rfl))
 f20:=⟨Tryz.f432.name,by decide,Tryz.func432.trans (congrArg some (by kernel_rfl))⟩
 f21:=⟨Tryz.f433.name,by decide,Tryz.func433.trans (congrArg some (by kernel_rfl))⟩
 f22:=⟨Tryz.f434.name,by decide,Tryz.func434.trans (congrArg some (by kernel_rfl))⟩
 f23:=⟨Tryz.f435.name,by decide,Tryz.func435.trans (congrArg some (by kernel_rfl))⟩
 f24:=⟨Tryz.f436.name,by decide,Tryz.func436.trans (congrArg some (by kernel_rfl))⟩
 f25:=⟨Tryz.f437.name,by decide,Tryz.func437.trans (congrArg some (by kernel_rfl))⟩
 f26:=⟨Tryz.f438.name,by decide,Tryz.func438.trans (congrArg some (by kernel_rfl))⟩
 f27:=⟨Tryz.f439.name,by decide,Tryz.func439.trans (congrArg some (by kernel_rfl))⟩
 f28:=Tryz.func171.trans (congrArg some (by kernel_rfl))
 f29:=Tryz.func172.trans (congrArg some (by kernel_rfl))
 f46:=⟨Tryz.f453.name,by decide,Tryz.func453.trans (congrArg some (by kernel_rfl))⟩
 f47:=Tryz.func219.trans (congrArg some (by kernel_rfl))
 f48:=Tryz.func220.trans (congrArg some (by kernel_rfl))
 f49:=⟨Tryz.f454.name,by decide,Tryz.func454.trans (congrArg some (by kernel_rfl))⟩
 f50:=⟨Tryz.f455.name,by decide,Tryz.func455.trans (congrArg some (by kernel_rfl))⟩
 f57:=⟨Tryz.f463.name,by decide,Tryz.func463.trans (congrArg some (by kernel_rfl))⟩
 t0:=Tryz.underlying0
 a0:=Tryz.isAgg0
 z0:=Tryz.sizeOf0
 v0:=Tryz.zeroValue0
 t3:=Tryz.underlying3
 a3:=Tryz.isAgg3
 z3:=Tryz.sizeOf3
 v3:=Tryz.zeroValue3
 t4:=Tryz.underlying4
 a4:=Tryz.isAgg4
 z4:=Tryz.sizeOf4
 v4:=Tryz.zeroValue4
 t5:=Tryz.underlying5
 a5:=Tryz.isAgg5
 z5:=Tryz.sizeOf5
 v5:=Tryz.zeroValue5
 t9:=Tryz.underlying9
 a9:=Tryz.isAgg9
 z9:=Tryz.sizeOf9
 v9:=Tryz.zeroValue9
 t22:=Tryz.underlying44
 a22:=Tryz.isAgg44
 z22:=Tryz.sizeOf44
 v22:=Tryz.zeroValue44
 t25:=Tryz.underlying460
 a25:=Tryz.isAgg460
 z25:=Tryz.sizeOf460
 v25:=Tryz.zeroValue460
 t39:=Tryz.underlying214
 a39:=Tryz.isAgg214
 z39:=Tryz.sizeOf214
 v39:=Tryz.zeroValue214
 t45:=Tryz.underlying260
 a45:=Tryz.isAgg260
 z45:=Tryz.sizeOf260
 v45:=Tryz.zeroValue260
 t46:=Tryz.underlying261
 a46:=Tryz.isAgg261
 z46:=Tryz.sizeOf261
 v46:=Tryz.zeroValue261
 t50:=Tryz.underlying124
 a50:=Tryz.isAgg124
 z50:=Tryz.sizeOf124
 v50:=Tryz.zeroValue124
 t53:=Tryz.underlying28
 a53:=Tryz.isAgg28
 z53:=Tryz.sizeOf28
 v53:=Tryz.zeroValue28
 t55:=Tryz.underlying146
 a55:=Tryz.isAgg146
 z55:=Tryz.sizeOf146
 v55:=Tryz.zeroValue146
 t66:=Tryz.underlying331
 a66:=Tryz.isAgg331
 z66:=Tryz.sizeOf331
 v66:=Tryz.zeroValue331
 t70:=Tryz.underlying335
 a70:=Tryz.isAgg335
 z70:=Tryz.sizeOf335
 v70:=Tryz.zeroValue335
 t76:=Tryz.underlying391
 a76:=Tryz.isAgg391
 z76:=Tryz.sizeOf391
 v76:=Tryz.zeroValue391
 t77:=Tryz.underlying392
 a77:=Tryz.isAgg392
 z77:=Tryz.sizeOf392
 v77:=Tryz.zeroValue392 }
end Go.Proofs.YtliimglbbiebiaaGreatDoor
end

section
namespace Go.Proofs.YtliimglbbiebiaaGreatDoor
open Go.RowKit Go.Sort Go.Shelf Go.Proofs Go.Lib
abbrev RgW:Type:={ r:Rg // r.wf }
instance:Inhabited RgW:=⟨⟨⟨0,0⟩,by unfold Rg.wf; refine ⟨?_,?_,?_,?_⟩ <;> decide⟩⟩
def rgW (x:RgW):List Value:=rgE.enc x.1
def rgC (x y:RgW):Int:=x.1.lo - y.1.lo
theorem rgC_swo:SWO (ltOf rgC) where
 irrefl x:=decide_eq_false (by unfold rgC; omega)
 trans x y z h1 h2:=by
  have a:=of_decide_eq_true h1
  have b:=of_decide_eq_true h2
  unfold rgC at a b
  exact decide_eq_true (by unfold rgC; omega)
 ntrans x y z h1 h2:=by
  have a:=of_decide_eq_false h1
  have b:=of_decide_eq_false h2
  unfold rgC at a b
  exact decide_eq_false (by unfold rgC; omega)
theorem rgC_lays (blk off size:Nat) (w:World):CmpLays Tryz.prog 349 #[] rgW 2 rgC blk off size w:=by
 intro m os dk _ x y
 refine (cmp_any x.1 y.1 x.2 y.2 _).mono ?_
 rintro e w' ⟨rfl,rfl⟩
 refine ⟨rfl,0,#[.cells #[.int .u32 x.1.lo,.int .u32 x.1.hi] 191,.cells #[.int .u32 y.1.lo,.int .u32 y.1.hi] 191],?_⟩
 rw [alloc_eq_grow,alloc_eq_grow,grow_grow]
 rfl
theorem fr_sorted {w:World} {blk off n:Nat} {d:Array RgW} {os:Array Obj}:Fr (fun k=>k=blk) w (sortWorldK rgW 2 w blk off n d os):=by
 refine ⟨rfl,rfl,rfl,?_,?_⟩
 · exact size_sortWorldK_c rgW 2 w blk off n d os
 · intro k hk hne
   have hs:(putRowK rgW 2 (Sort.ahead w n) blk off d).heap.size=w.heap.size:=by unfold putRowK; rw [size_putRow]; rfl
   unfold sortWorldK
   show ((putRowK rgW 2 (Sort.ahead w n) blk off d).heap ++ os)[k]? = _
   rw [Array.getElem?_append_left (by rw [hs]; exact hk)]
   unfold putRowK putRow mapBlock
   show (w.heap.modify blk _)[k]? = _
   rw [Array.getElem?_modify,if_neg (fun e=>hne e.symm)]
theorem blk_sorted {w:World} {blk off n:Nat} {d:Array RgW} {os:Array Obj} {t:TypeId} {cs:Array Value} (h:Blk w blk t cs):Blk (sortWorldK rgW 2 w blk off n d os) blk t (putCells id off (flatK rgW 2 d) cs):=by
 have hs:(putRowK rgW 2 (Sort.ahead w n) blk off d).heap.size=w.heap.size:=by unfold putRowK; rw [size_putRow]; rfl
 unfold Blk sortWorldK
 show ((putRowK rgW 2 (Sort.ahead w n) blk off d).heap ++ os)[blk]? = _
 rw [Array.getElem?_append_left (by rw [hs]; exact h.lt)]
 unfold putRowK putRow mapBlock
 show (w.heap.modify blk _)[blk]? = _
 rw [Array.getElem?_modify,if_pos rfl,h]
 rfl
def toW:(l:List Rg)→(∀ r ∈ l,r.wf)→List RgW
 | [],_=>[]
 | r :: l,h=>⟨r,h r (by simp)⟩ :: toW l fun r hr=>h r (by simp [hr])
theorem toW_len:∀ (l:List Rg) (h:∀ r ∈ l,r.wf),(toW l h).length=l.length
 | [],_=>rfl
 | r :: l,h=>by simp [toW,toW_len l]
theorem toW_at:∀ (l:List Rg) (h:∀ r ∈ l,r.wf) (i:Nat),((toW l h)[i]?).map (·.1)=l[i]?
 | [],_,_=>by simp [toW]
 | r :: l,h,0=>by simp [toW]
 | r :: l,h,i + 1=>by simpa [toW] using toW_at l _ i
theorem toW_get (l:List Rg) (h:∀ r ∈ l,r.wf) (i:Nat) (hi:i < (toW l h).toArray.size):((toW l h).toArray[i]!).1=l[i]'(by simpa [toW_len] using hi):=by
 have h1:=toW_at l h i
 have hi':i < l.length:=by simpa [toW_len] using hi
 have h2:i < (toW l h).length:=by simpa using hi
 rw [List.getElem?_eq_getElem h2,List.getElem?_eq_getElem hi'] at h1
 simp only [Option.map_some,Option.some.injEq] at h1
 rw [← h1,getElem!_pos _ i hi]
 simp
theorem toW_mem (l:List Rg) (h:∀ r ∈ l,r.wf) (x:RgW) (hx:x ∈ toW l h):x.1 ∈ l:=by
 obtain ⟨i,hi,rfl⟩:=List.mem_iff_getElem.1 hx
 have h1:=toW_at l h i
 rw [List.getElem?_eq_getElem hi] at h1
 exact List.mem_of_getElem? h1.symm
theorem rsort_any {w:World} {base:Nat} {v:Value} {l:List Rg} (hv:Own rgE 191 base w v l) (hw:∀ r ∈ l,r.wf) (hl:l.length≤1000000) (hl0:l≠[]) :
 Calls Tryz.prog 348 #[v,.func (.func 349) #[] #[]] w fun e w'=>e=.returned (.tuple #[])∧∃ l',Rd rgE w' v l'∧l'.length=l.length∧(∀ r ∈ l',r ∈ l)∧Fr (fun k=>v.ownBlock=some k) w w'∧∃ g cs,v.ownBlock=some g∧Blk w' g 191 cs:=by
 have hrd:=hv.rd
 rcases hv.2 with ⟨_,hn⟩ | ⟨g,cap,cur,rfl,hb,hgg,hnc,_⟩
 · exact absurd (List.eq_nil_of_length_eq_zero hn) hl0
 obtain ⟨A,c,he,hc,hcells⟩:=hrd
 cases he
 obtain ⟨b,off,hA,hcell⟩:=hcells hl0
 cases hA
 have hgl:g < w.heap.size:=(Array.getElem?_eq_some_iff.1 hgg).1
 obtain ⟨d,hd⟩:∃ d:Array RgW,d=(toW l hw).toArray:=⟨_,rfl⟩
 have hds:d.size=l.length:=by rw [hd]; simp [toW_len]
 have hH:HoldsK rgW 2 w g 0 d:=by
  intro j hj
  rw [size_flatK] at hj
  rw [get_flatK _ _ _ _ hj]
  have hi:j / 2 < d.size:=by omega
  have hi2:j / 2 < l.length:=by omega
  have hx:l[j / 2]? = some (l[j / 2]'hi2):=List.getElem?_eq_getElem hi2
  have he:(d[j / 2]!).1=l[j / 2]'hi2:=by subst hd; exact toW_get l hw (j / 2) hi
  refine ⟨?_,Blk.frozen (t:=191) (cs:=cur) hgg _⟩
  have hm:j % 2=0∨j % 2=1:=by omega
  show w.cell? ⟨g,0 + j,none⟩=some ((rgE.enc (d[j / 2]!).1)[j % 2]!)
  rw [he]
  have hjj:0 + j=0 + (j / 2 * 2 + j % 2):=by omega
  rw [hjj]
  rcases hm with hm | hm
  · rw [hm]
    exact hcell _ _ hx 0 _ rfl
  · rw [hm]
    exact hcell _ _ hx 1 _ rfl
 have eg:∀ args w,(callFunc 349 args).run Tryz.prog w=.ok (.enter 349 args) w:=enters_of Tryz.func349 (by kernel_rfl) rfl
 have hcon:=AnyQ.slices_SortFunc sortR 2 Tryz.isAgg191 Tryz.sizeOf191 rgW (fun _=>rfl) (fun x v hv=>by simp [rgW,rgE] at hv; rcases hv with rfl | rfl <;> rfl) rgC rgC_swo 349 #[] g 0 cap d w eg (rgC_lays g 0 d.size w) hH hgl (by omega)
 change Calls Tryz.prog 348 _ _ _ at hcon
 rw [hds] at hcon
 refine hcon.mono ?_
 rintro e w' ⟨rfl,d',n,os,hp,_,rfl⟩
 have hs':d'.size=l.length:=hp.1.trans hds
 have hH':=holdsK_sortWorldK_c rgW 2 w g 0 d d' n os hH hgl (hp.1)
 refine ⟨rfl,d'.toList.map (·.1),⟨_,cap,by simp [hs'],by simpa [hs'] using hc,fun _=>⟨g,0,rfl,fun i x hx j u hu=>?_⟩⟩,by simp [hs'],fun r hr=>?_,?_,g,_,rfl,blk_sorted hgg⟩
 · have hi:i < d'.size:=by
    have:=(List.getElem?_eq_some_iff.1 hx).1
    simpa using this
   have hxe:x=(d'[i]!).1:=by
    rw [List.getElem?_map,List.getElem?_eq_getElem (by simpa using hi)] at hx
    simp only [Option.map_some,Option.some.injEq] at hx
    rw [← hx,getElem!_pos _ i hi]
    simp
   have hj:j < 2:=by
    have:=(List.getElem?_eq_some_iff.1 hu).1
    rw [rgE.len] at this
    exact this
   have h1:=(hH'.cell hi hj).1
   rw [Nat.add_assoc] at h1
   show (sortWorldK rgW 2 w g 0 n d' os).cell? ⟨g,0 + (i * 2 + j),none⟩=some u
   rw [h1]
   show some ((rgE.enc (d'[i]!).1)[j]!)=some u
   rw [← hxe]
   rw [List.getElem!_eq_getElem?_getD,hu]
   rfl
 · obtain ⟨x,hx,rfl⟩:=List.mem_map.1 hr
   have h3:=hp.2.2
   have e1:(d'.extract 0 l.length).toList=d'.toList:=by rw [← hs']; simp
   have e2:(d.extract 0 l.length).toList=d.toList:=by rw [← hds]; simp
   rw [e1,e2] at h3
   have hx2:=h3.mem_iff.1 hx
   rw [hd] at hx2
   exact toW_mem l hw x (by simpa using hx2)
 · exact Fr.mono fr_sorted fun k _ hk=>by rw [hk]; rfl
end Go.Proofs.YtliimglbbiebiaaGreatDoor
end

section
namespace Go.Proofs.YtliimglbbiebiaaGreatDoor
open Go.RowKit
def Bk (D l:Nat) (r:Loop) (w:World):Prop:=w.heap[l]? = some (.loop r)∧w.heap[D]? = some (.deferred (some []))
theorem Bk.keep {B D l:Nat} {r:Loop} {w w':World} (h:Bk D l r w) (hD:B≤D) (hl:B≤l) (k:KeepsFrom B w w'):Bk D l r w' :=
 ⟨k.same l _ hl h.1 rfl,k.same D _ hD h.2 rfl⟩
theorem Bk.lt {D l:Nat} {r:Loop} {w:World} (h:Bk D l r w):l < w.heap.size:=(Array.getElem?_eq_some_iff.1 h.1).1
theorem Bk.put {D l:Nat} {r:Loop} {w:World} (h:Bk D l r w) (hne:D≠l) (r':Loop):Bk D l r' (w.putObj l (.loop r')) :=
 ⟨World.putObj_heap_same h.lt,(World.putObj_heap_other hne).trans h.2⟩
def ofPost {α:Type} (B:Nat) (I:List α→World→Prop) (Ix:Code→List α→World→Prop) (xs:List α) (W:World):Exit→Act→World→Prop
 | .normal,_,W'=>KeepsFrom B W W'∧I xs W'
 | .ret,_,W'=>KeepsFrom B W W'∧Ix .ret xs W'
 | .exit i,_,W'=>KeepsFrom B W W'∧Ix (.exit i) xs W'
 | .goto t,_,W'=>KeepsFrom B W W'∧Ix (.goto t) xs W'
 | .panic _,_,_=>False
 | .outgrown,_,_=>False
def OfYield {α:Type} (D l:Nat) (rec:LoopState→Option Code→Loop) (I:List α→World→Prop) (Ix:Code→List α→World→Prop) (xs:List α) (e:Ending) (W:World):Prop :=
 (e=.returned (.bool true)∧I xs W∧Bk D l (rec .ready none) W)∨(e=.returned (.bool false)∧∃ c,Ix c xs W∧Bk D l (rec .done (some c)) W)
section
variable {F:Fence} {n:Nat} {P:Program} {α:Type}
theorem ofPost_round {B D l:Nat} {rec:LoopState→Option Code→Loop} (hrec:∀ s p s' p',{ rec s p with state:=s',pending:=p' }=rec s' p') {I:List α→World→Prop} {Ix:Code→List α→World→Prop}
 (hI:OwnFrom B I) (hIx:∀ c,OwnFrom B (Ix c)) (hD:B≤D) (hl:B≤l) (hne:D≠l) {xs:List α} {W W3:World} {e:Exit} {a3:Act}
 (hb:Bk D l (rec .busy none) W) (h:ofPost B I Ix xs W e a3 W3):roundPost P l (OfYield D l rec I Ix xs) e a3 W3:=by
 have fin:∀ jump:Option Code,KeepsFrom B W W3→∃ W4,(Instr.endRound l jump).run P W3=.ok (.bool jump.isNone) W4∧Bk D l (rec (if jump.isNone then .ready else .done) jump) W4 ∧
  W4=W3.putObj l (.loop (rec (if jump.isNone then .ready else .done) jump))∧W3.heap[l]? = some (.loop (rec .busy none)):=by
  intro jump k
  have b3:=hb.keep hD hl k
  have run:=run_endRound (P:=P) jump b3.1
  rw [hrec] at run
  exact ⟨_,run,b3.put hne _,rfl,b3.1⟩
 cases e with
 | panic c=>exact h.elim
 | outgrown=>exact h.elim
 | normal =>
   obtain ⟨W4,run,b4,rfl,h3⟩:=fin none h.1
   exact ⟨_,_,run,.inl ⟨rfl,hI.putObj _ h.2 hl h3 rfl,b4⟩⟩
 | ret =>
   obtain ⟨W4,run,b4,rfl,h3⟩:=fin (some .ret) h.1
   exact ⟨_,_,run,.inr ⟨rfl,_,(hIx _).putObj _ h.2 hl h3 rfl,b4⟩⟩
 | exit i =>
   obtain ⟨W4,run,b4,rfl,h3⟩:=fin (some (.exit i)) h.1
   exact ⟨_,_,run,.inr ⟨rfl,_,(hIx _).putObj _ h.2 hl h3 rfl,b4⟩⟩
 | goto t =>
   obtain ⟨W4,run,b4,rfl,h3⟩:=fin (some (.goto t)) h.1
   exact ⟨_,_,run,.inr ⟨rfl,_,(hIx _).putObj _ h.2 hl h3 rfl,b4⟩⟩
theorem wpIn_rangeFunc_of {g:Operand} {ps:Array Tmp} {assign body:Code} {Q:Exit→Act→World→Prop} {a:Act} {w:World}
 (hro:F.round=none) (h1:1≤n) {gf:Nat} {lb:Array Value} (hg:a.eval g=.func (.func gf) #[] lb) (hFg:F.fn gf) (eg:∀ args w,(callFunc gf args).run P w=.ok (.enter gf args) w)
 {encs:α→Array Value} (hps:∀ x,(encs x).size=ps.size) {S Sp:List α→Prop}
 (I:List α→World→Prop) (J:List α→α→World→Prop) (Ix:Code→List α→World→Prop) (hI:OwnFrom w.heap.size I) (hJ:∀ pre x,OwnFrom w.heap.size (fun (_:Unit) W=>J pre x W)) (hIx:∀ c,OwnFrom w.heap.size (Ix c)) (h0:I [] w)
 (hseq:∀ (l:Nat) (K:World→Prop) (Kx:Code→World→Prop) (W1:World),Below w.heap.size w W1 →
   (∀ A B,K A→KeepsFrom w.heap.size A B→K B)→(∀ c A B,Kx c A→KeepsFrom w.heap.size A B→Kx c B)→K W1→I [] W1 →
   (∀ pre x W,J pre x W→K W→YieldAt F (n - 1 - 1) P l (encs x) W fun e W'=>(e=.returned (.bool true)∧I (pre ++ [x]) W'∧K W')∨(e=.returned (.bool false)∧∃ c,Ix c (pre ++ [x]) W'∧Kx c W')) →
   CallsIn F (n - 1) P gf (#[.func (.yield l) #[] #[]] ++ lb) W1 fun e W'=>(∃ v,e=.returned v)∧((∃ xs,S xs∧I xs W'∧K W')∨(∃ pre c,Sp pre∧Ix c pre W'∧Kx c W')))
 (Ax:α→Act→World→Prop) (hAx:∀ x a',OwnFrom w.heap.size (fun (_:Unit) W=>Ax x a' W))
 (hassign:∀ (l:Nat) (pre:List α) (x:α) (W:World) (K:Act→World→Prop),J pre x W→(∀ a' W',KeepsFrom w.heap.size W W'→J pre x W'→Ax x a' W'→K a' W') →
   assign.wpIn (F.inRound l) (n - 1 - 1) P (Exit.then K (fun _ _ _=>False)) { tmps:=(ps.zip (encs x)).foldl (fun t (p,v)=>t.setIfInBounds p v) a.tmps,defers:=[] } W)
 (hbody:∀ (l:Nat) (pre:List α) (x:α) (a':Act) (W:World),w.heap.size≤l→(∃ r,W.heap[l]? = some (.loop r))→J pre x W→Ax x a' W→body.wpIn (F.inRound l) (n - 1 - 1) P (ofPost w.heap.size I Ix (pre ++ [x]) W) a' W)
 (hdone:∀ (D:Nat) (xs:List α) (W:World),w.heap.size≤D→S xs→I xs W→W.heap[D]? = some (.deferred (some []))→Q .normal { a with defers:={ target:=.collected D,args:=#[] } :: a.defers } W)
 (hstop:∀ (D:Nat) (c:Code) (pre:List α) (W:World),w.heap.size≤D→Sp pre→Ix c pre W→W.heap[D]? = some (.deferred (some []))→c.wpIn F n P Q { a with defers:={ target:=.collected D,args:=#[] } :: a.defers } W) :
 (Code.rangeFunc g ps assign body).wpIn F n P Q a w:=by
 refine wpIn_rangeFunc fun fn hfn=>?_
 obtain ⟨D,hD⟩:∃ D,D=w.heap.size:=⟨_,rfl⟩
 obtain ⟨rec,er⟩:∃ rec:LoopState→Option Code→Loop,rec=fun st pe=>{ state:=st,pending:=pe,fn:=fn,tmps:=a.tmps,params:=ps,assign:=assign,body:=body,defers:=D }:=⟨_,rfl⟩
 have hrec:∀ s p s' p',{ rec s p with state:=s',pending:=p' }=rec s' p':=by intro s p s' p'; rw [er]
 obtain ⟨W1,e1⟩:∃ W1,W1=(w.alloc (.deferred (some []))).alloc (.loop (rec .ready none)):=⟨_,rfl⟩
 have ent:(Instr.enterLoop fn a.tmps ps assign body F.round).run P w=.ok (D + 1,[{ target:=.collected D,args:=#[] }]) W1:=by
  rw [hro,e1,er,hD]; exact run_enterLoop_outer _ _ _ _ _
 have bk:Bk D (D + 1) (rec .ready none) W1:=by
  rw [e1,hD]
  exact ⟨by have:=World.alloc_heap_new (w.alloc (.deferred (some []))) (.loop (rec .ready none)); rwa [World.size_alloc] at this,(Below.heap_alloc _ _ _ (by simp)).trans (World.alloc_heap_new w _)⟩
 have i1:I [] W1:=by rw [e1]; exact hI.alloc _ (hI.alloc _ h0)
 have b1:Below w.heap.size w W1:=by rw [e1]; exact ((Below.refl _ w).alloc (Nat.le_refl _) _).alloc (by simp) _
 have hle:w.heap.size≤D:=by omega
 have hle1:w.heap.size≤D + 1:=by omega
 have hne:D≠D + 1:=by omega
 refine ⟨D + 1,_,W1,{ target:=.fn (.func gf) lb,args:=#[.func (.yield (D + 1)) #[] #[]] },W1,gf,#[.func (.yield (D + 1)) #[] #[]] ++ lb,W1,ent,?_,?_,?_,fun _=>h1,?_⟩
 · simp only [resolve,hg]; simp [go_sem]
 · intro f' hf'; simp [Target.leads] at hf'; subst hf'; exact hFg
 · simp [invoke,go_sem,eg]
 · refine (hseq (D + 1) (Bk D (D + 1) (rec .ready none)) (fun c=>Bk D (D + 1) (rec .done (some c))) W1 b1 (fun A B h k=>h.keep hle hle1 k) (fun c A B h k=>h.keep hle hle1 k) bk i1 ?round).mono ?_
   case round =>
    intro pre x W hi hk
    have hy:=run_yield (P:=P) (args:=encs x) hk.1 (by rw [er]; exact hps x)
    have ef:(rec .ready none).fn=fn:=by rw [er]
    have et:(rec .ready none).tmps=a.tmps:=by rw [er]
    have ep:(rec .ready none).params=ps:=by rw [er]
    have ea:(rec .ready none).assign=assign:=by rw [er]
    have eb:(rec .ready none).body=body:=by rw [er]
    rw [ef,et,ep,ea,eb] at hy
    refine ⟨fn,_,assign,body,hy,roundIn_of_wpIn hfn (hassign _ pre x W _ hi fun a' Wa ka ia xa=>?_)⟩
    have ba:=hk.keep hle hle1 ka
    refine ⟨_,run_beginRound ba.1 (by rw [er]),?_⟩
    have eb2:{ rec .ready none with state:=.busy }=rec .busy none:=by rw [er]
    rw [eb2]
    have b2:=ba.put hne (rec .busy none)
    exact wpIn_mono (hbody _ pre x a' _ hle1 ⟨_,b2.1⟩ ((hJ pre x).putObj (s:=()) _ ia hle1 ba.1 rfl) ((hAx x a').putObj (s:=()) _ xa hle1 ba.1 rfl)) fun e a3 W3 hp=>ofPost_round hrec hI hIx hle hle1 hne b2 hp
   rintro e W2 ⟨⟨v,rfl⟩,(⟨xs,hS,hi,hk⟩ | ⟨pre,c,hSp,hi,hk⟩)⟩
   · have run:=run_endLoop (P:=P) hk.1 (by rw [er]; simp)
     refine ⟨none,_,by rw [run,er],hdone D xs _ hle hS (hI.putObj _ hi hle1 hk.1 rfl) ((World.putObj_heap_other hne).trans hk.2)⟩
   · have run:=run_endLoop (P:=P) hk.1 (by rw [er]; simp)
     refine ⟨some c,_,by rw [run,er],hstop D c pre _ hle hSp ((hIx c).putObj _ hi hle1 hk.1 rfl) ((World.putObj_heap_other hne).trans hk.2)⟩
end
end Go.Proofs.YtliimglbbiebiaaGreatDoor
end

section
namespace Go.Proofs.YtliimglbbiebiaaGreatDoor
open Go.RowKit Go.Maps
def Turn (B:Nat) (W W':World):Prop:=∃ row,W.grownBy W' row∧∀ r,row=some r→B≤r∧∃ o:Obj,W.heap[r]? = some o∧o.isCells=false
theorem ownFrom_of {β:Type} {B:Nat} {I:β→World→Prop} (h:∀ s W W',I s W→Turn B W W'→I s W'):OwnFrom B I:=fun s W W' row hs hg hr=>h s W W' hs ⟨row,hg,hr⟩
section
variable {B:Nat} {w0 W W':World} {S:Nat→Prop}
theorem Turn.fr (h:Turn B W W') (hS:∀ k,B≤k→(∃ o:Obj,W.heap[k]? = some o∧o.isCells=false)→S k):Fr S W W':=by
 obtain ⟨row,hg,hr⟩:=h
 exact Fr.of_grown hg fun i e=>hS i (hr i e).1 (hr i e).2
theorem Turn.fr_from (h:Turn B W W'):Fr (fun k=>B≤k) W W':=h.fr fun _ h _=>h
theorem Turn.fr_odd (h:Turn B W W'):Fr (fun k=>∃ o:Obj,W.heap[k]? = some o∧o.isCells=false) W W':=h.fr fun _ _ h=>h
theorem Turn.of_fr (h:Turn B W W') (hf:Fr S w0 W) (hB:w0.heap.size≤B):Fr S w0 W':=Fr.trans' hf h.fr_from fun i hi hk=>by omega
theorem Turn.blk (h:Turn B W W') {g:Nat} {t:TypeId} {cs:Array Value} (hb:Blk W g t cs):Blk W' g t cs:=Fr.blk h.fr_odd hb fun ⟨o,ho,hc⟩=>by
 unfold Blk at hb
 rw [hb] at ho
 cases ho
 cases hc
theorem Turn.own {α:Type} {E:Elem α} {e:TypeId} {base:Nat} {v:Value} {l:List α} (h:Turn B W W') (ho:Own E e base W v l):Own E e base W' v l:=by
 refine ho.fr h.fr_odd fun g hg ⟨o,h1,hc⟩=>?_
 rcases ho.2 with ⟨h2,_⟩ | ⟨g',_,cur,h2,_,h3,_⟩
 · rw [h2] at hg; cases hg
 · rw [h2] at hg
   cases hg
   rw [h3] at h1
   cases h1
   cases hc
theorem keeps_fr (hf:Fr S W W') (hS:∀ k,B≤k→S k→∀ o:Obj,W.heap[k]? = some o→o.isCells=true):KeepsFrom B W W' :=
 ⟨hf.size,fun k o hB hk ho=>by
   by_cases hs:S k
   · rw [hS k hB hs o hk] at ho; cases ho
   · rw [hf.block k (Array.getElem?_eq_some_iff.1 hk).1 hs]; exact hk⟩
theorem keeps_below (hf:Fr S W W') (hS:∀ k,S k→k < B):KeepsFrom B W W':=keeps_fr hf fun k h1 h2=>by have:=hS k h2; omega
theorem Blk.isCells {g:Nat} {t:TypeId} {cs:Array Value} (h:Blk W g t cs):∀ o:Obj,W.heap[g]? = some o→o.isCells=true:=fun o ho=>by
 unfold Blk at h
 rw [h] at ho
 cases ho
 rfl
theorem Own.isCells {α:Type} {E:Elem α} {e:TypeId} {base:Nat} {v:Value} {l:List α} (ho:Own E e base W v l) {k:Nat} (hk:v.ownBlock=some k):∀ o:Obj,W.heap[k]? = some o→o.isCells=true:=fun o h1=>by
 rcases ho.2 with ⟨h2,_⟩ | ⟨g',_,cur,h2,_,h3,_⟩
 · rw [h2] at hk; cases hk
 · rw [h2] at hk
   cases hk
   rw [h3] at h1
   cases h1
   rfl
end
section
variable {P:Program} {α:Type} {E:Elem α} {e:TypeId} {base:Nat} {v:Value} {l:List α} {w:World} {F:Fence} {n:Nat}
variable {ops:Array Oper} {rest:List Oper} {o:Oper} {a:Act} {Q:Exit→Act→World→Prop}
theorem wpListIn_append (hgd:o.guard=none) (s x:Operand) (t:TypeId) (ho:o.op=.call { callee:=.builtin .append,args:=#[s,x],argTypes:=#[t,t] })
 {i:TypeInfo} {z:Value} {bytes:Nat} (ht:P.underlying t=some (.slice e)) (hi:P.info? e=some i) (hz:i.zero=some z)
 (hsize:i.size=E.sz) (hby:i.bytes=bytes) (hzs:z.cells.size=E.sz)
 (h:Own E e base w v l) (hs:a.eval s=v) {u:Value} {m:List α} (hu:Rd E w u m) (hx:a.eval x=u)
 (h63:l.length + m.length≤maxLen) (hbytes:(l.length + m.length) * bytes≤140737488355328) (hbase:base≤w.heap.size)
 (hK:∀ v' w',Own E e base w' v' (l ++ m)→Fr (fun k=>v.ownBlock=some k) w w'→(v'.ownBlock=v.ownBlock∨v'.ownBlock=some w.heap.size)→wpListIn F n P ops Q rest (a.put o.dst v') w') :
 wpListIn F n P ops Q (o :: rest) a w:=by
 obtain ⟨v',w',hr,h1,h2,h3⟩:=run_append_list (P:=P) t o.type ht hi hz hsize hby hzs h hu h63 hbytes hbase
 refine wpListIn_plain hgd fun K' hK'=>?_
 unfold Oper.wpIn
 refine ⟨by simp [Oper.about,ho,resolve,Target.leads,Sem.run_pure],?_⟩
 rw [Oper.semAt_plain F _ _ (by rw [ho]; intro c hc'; cases hc')]
 unfold execOp
 simp only [ho,resolve,invoke,builtin,Sem.run_bind,Sem.run_pure,Result.andThen_ok,List.map_toArray,List.map_cons,List.map_nil,hs,hx,hr]
 exact hK' _ _ (hK v' w' h1 h2 h3)
end
end Go.Proofs.YtliimglbbiebiaaGreatDoor
end

section
namespace Go.Proofs.YtliimglbbiebiaaGreatDoor
open Go.RowKit Go.Shelf Go.Proofs
attribute [local go_sem] Oper.semAt_some
def rangeL (lo hi:Int):List Int:=(List.range (hi + 1 - lo).toNat).map fun (i:Nat)=>lo + (i:Int)
theorem rangeL_len (lo hi:Int):(rangeL lo hi).length=(hi + 1 - lo).toNat:=by simp [rangeL]
theorem rangeL_mem {lo hi y:Int}:y ∈ rangeL lo hi ↔ lo≤y∧y≤hi:=by
 unfold rangeL
 rw [List.mem_map]
 constructor
 · rintro ⟨i,hi',rfl⟩
   have:=List.mem_range.1 hi'
   omega
 · rintro ⟨h1,h2⟩
   exact ⟨(y - lo).toNat,List.mem_range.2 (by omega),by omega⟩
theorem rangeL_asc (lo hi:Int):Asc (rangeL lo hi):=by
 unfold rangeL Asc
 rw [List.pairwise_map]
 exact List.pairwise_lt_range.imp fun h=>by omega
theorem rangeL_snoc {lo hi:Int} (h:lo≤hi + 1):rangeL lo (hi + 1)=rangeL lo hi ++ [hi + 1]:=by
 unfold rangeL
 have e:(hi + 1 + 1 - lo).toNat=(hi + 1 - lo).toNat + 1:=by omega
 rw [e,List.range_succ,List.map_append]
 simp
 omega
theorem rangeL_none {lo hi:Int} (h:hi < lo):rangeL lo hi=[]:=by
 unfold rangeL
 have e:(hi + 1 - lo).toNat=0:=by omega
 rw [e]; rfl
def okChain (top:Int):Int→List Rg→Prop
 | _,[]=>True
 | nx,r :: t=>nx≤r.lo∧r.lo≤r.hi∧r.hi≤top∧okChain top (r.hi + 1) t
def nxtOf:Int→List Rg→Int
 | nx,[]=>nx
 | _,r :: t=>nxtOf (r.hi + 1) t
theorem okChain_snoc {top:Int}:∀ {nx:Int} {l:List Rg} {r:Rg},okChain top nx l→nxtOf nx l≤r.lo→r.lo≤r.hi→r.hi≤top→okChain top nx (l ++ [r])
 | _,[],_,_,h1,h2,h3=>⟨h1,h2,h3,trivial⟩
 | _,_ :: _,_,h,h1,h2,h3=>⟨h.1,h.2.1,h.2.2.1,okChain_snoc h.2.2.2 h1 h2 h3⟩
theorem nxtOf_snoc:∀ (nx:Int) (l:List Rg) (r:Rg),nxtOf nx (l ++ [r])=r.hi + 1
 | _,[],_=>rfl
 | _,x :: l,r=>nxtOf_snoc (x.hi + 1) l r
theorem nxtOf_bd {top:Int}:∀ {nx:Int} {l:List Rg},okChain top nx l→1≤nx→nx≤top + 1→1≤nxtOf nx l∧nxtOf nx l≤top + 1
 | _,[],_,h1,h2=>⟨h1,h2⟩
 | _,r :: t,h,h1,_=>nxtOf_bd (nx:=r.hi + 1) (l:=t) h.2.2.2 (by have:=h.1; have:=h.2.1; omega) (by have:=h.2.2.1; omega)
def numsOf (l:List Rg):List Int:=l.flatMap fun r=>rangeL r.lo r.hi
theorem numsOf_snoc (l:List Rg) (r:Rg):numsOf (l ++ [r])=numsOf l ++ rangeL r.lo r.hi:=by simp [numsOf]
theorem okChain_low {top:Int}:∀ {nx:Int} {l:List Rg},okChain top nx l→∀ y ∈ numsOf l,nx≤y∧y≤top
 | _,[],_,y,hy=>by simp [numsOf] at hy
 | nx,r :: l,h,y,hy=>by
   simp only [numsOf,List.flatMap_cons,List.mem_append] at hy
   rcases hy with hy | hy
   · have h1:=rangeL_mem.1 hy
     have h2:=h.1
     have h3:=h.2.2.1
     omega
   · have h1:=okChain_low h.2.2.2 y hy
     have h2:=h.1
     have h3:=h.2.1
     omega
theorem okChain_asc {top:Int}:∀ {nx:Int} {l:List Rg},okChain top nx l→Asc (numsOf l)
 | _,[],_=>List.Pairwise.nil
 | _,r :: l,h=>by
   have e:numsOf (r :: l)=rangeL r.lo r.hi ++ numsOf l:=by simp [numsOf]
   rw [e]
   refine List.pairwise_append.2 ⟨rangeL_asc _ _,okChain_asc h.2.2.2,fun a ha b hb=>?_⟩
   have h1:=rangeL_mem.1 ha
   have h2:=okChain_low h.2.2.2 b hb
   omega
theorem asc_len {l:List Int} {lo hi:Int} (ha:Asc l) (h:∀ y ∈ l,lo≤y∧y≤hi) (hlh:lo≤hi + 1):(l.length:Int)≤hi + 1 - lo:=by
 induction l generalizing lo with
 | nil=>simp; omega
 | cons x l ih =>
   have h1:=h x (by simp)
   have h2:=ih (lo:=x + 1) ha.tail (fun y hy=>⟨by have:=ha.head hy; omega,(h y (by simp [hy])).2⟩) (by omega)
   simp only [List.length_cons,Int.natCast_add,Int.natCast_one]
   omega
theorem plainR_bd {top:Int} {r:Rg} (h0:0 < top) (hr:r.wf) (ho:overB top r=false):1≤(plainR top r).lo∧(plainR top r).hi≤top:=by
 have h1:=of_decide_eq_false ho
 obtain ⟨a,b,c,d⟩:=hr
 unfold plainR
 dsimp only
 split <;> split <;> omega
theorem rg_info:(Tryz.prog.info? 191).map (fun i=>(i.zero,i.size,i.bytes))=some (some (.agg #[.int .u32 0,.int .u32 0]),2,8):=by kernel_rfl
abbrev RgV (top:Int):Type:={ r:Rg // 1≤r.lo∧r.lo≤r.hi∧r.hi≤top }
def KR (W W':World):Prop:=W.heap.size≤W'.heap.size∧∀ k cs,Blk W k 191 cs→Blk W' k 191 cs
theorem KR.trans {A B C:World} (h:KR A B) (k:KR B C):KR A C:=⟨Nat.le_trans h.1 k.1,fun g cs hb=>k.2 g cs (h.2 g cs hb)⟩
theorem KR.refl (W:World):KR W W:=⟨Nat.le_refl _,fun _ _ h=>h⟩
theorem rd_oneR {α:Type} {E:Elem α} {w:World} {g:Nat} {t:TypeId} {x:α} (h:Blk w g t (E.enc x).toArray):Rd E w (.slice (some ⟨g,0,none⟩) 1 1) [x]:=rd_one' h
theorem agree_new {β:Type} {B:Nat} {J:β→World→Prop} (hJ:AbidesFrom B J) {s:β} {W W':World} (h:J s W) (n:New W W'):J s W' :=
 hJ s W W' none h ⟨n.os,n.tape,n.output,n.size,fun i hi _=>n.block i hi id⟩ (fun _ e=>by cases e)
theorem merged1_in (n:Nat) (hn:1≤n) (lid Bl Bt:Nat) (top:Int) (h0:0 < top) (h1:top≤100000) (A:Option Addr) (c:Nat) (l:List Rg) (hwf:∀ r ∈ l,r.wf) (hok:∀ r ∈ l,overB top r=false) (hl:l.length≤100000) (hl0:l≠[])
 (J Jx:List (RgV top)→World→Prop) (W:World) (hJ:AbidesFrom W.heap.size J)
 (hY:∀ pre x W1,J pre W1→pre.length < l.length→YieldAt Fence.wide (n - 1) Tryz.prog lid #[x.1.val] W1 fun e W' =>
   (e=.returned (.bool true)∧J (pre ++ [x]) W'∧KR W1 W')∨(e=.returned (.bool false)∧Jx (pre ++ [x]) W'))
 (hBl:W.cell? ⟨Bl,0,none⟩=some (.slice A l.length c)) (hBt:W.cell? ⟨Bt,0,none⟩=some (.int .u32 top)) (hv:Rd rgE W (.slice A l.length c) l) (hJ0:J [] W) :
 CallsIn Fence.wide n Tryz.prog 346 #[.func (.yield lid) #[] #[],.pointer (some ⟨Bl,0,none⟩),.pointer (some ⟨Bt,0,none⟩)] W fun e W'=>(∃ v,e=.returned v)∧((∃ xs:List (RgV top),okChain top 1 (xs.map (·.1))∧J xs W')∨∃ pre,Jx pre W'):=by
 obtain ⟨i0,hi,hz0,hz1,hz2⟩:=info_parts rg_info
 have HY:=Lib.hid hY
 have HJ:=Lib.hid hJ
 have HJ0:Hid (J [] W):=hJ0
 have HWF:=Lib.hid hwf
 have HOK:=Lib.hid hok
 have HV:=Lib.hid hv
 have HL0:=Lib.hid hl0
 have H01:=Lib.hid (And.intro h0 h1)
 clear hY hJ hJ0 hwf hok hv hl0 h0 h1
 refine callsIn_of_wp Tryz.func346 rfl trivial ?_ rfl
 simp only [Tryz.ntmps346,List.size_toArray,List.length_cons,List.length_nil,Nat.reduceAdd,Nat.reduceSub,Array.replicate_succ,Array.replicate_zero,List.push_toArray,List.append_toArray,List.nil_append,List.cons_append]
 gi_wp2_with fail
 gi_loopw [4,12] (fun pv iv wr=>∃ k:Nat,k≤l.length∧iv=.int .i64 k∧Hid (Own rgE 191 W.heap.size wr pv ((l.take k).map (plainR top))∧New W wr)) (fun _ iv _=>l.length - (intOf iv).toNat)
 case atStart=>exact ⟨0,Nat.zero_le _,rfl,Own.nil _ _ _ _,New.refl _⟩
 case round =>
  obtain ⟨k,hk,rfl,HR⟩:=hrel
  have hn1:=HR.out.2
  have e1:wr.cell? ⟨Bl,0,none⟩=some (.slice A l.length c):=Fr.cell hn1 hBl id
  have e2:wr.cell? ⟨Bt,0,none⟩=some (.int .u32 top):=Fr.cell hn1 hBt id
  have e3:∀ o,(wr.alloc o).cell? ⟨Bt,0,none⟩=some (.int .u32 top):=fun o=>Fr.cell ((New.refl wr).alloc o) e2 id
  obtain ⟨pA,pC,rfl,_⟩:=HR.out.1.form
  have hpl:((l.take k).map (plainR top)).length=k:=by rw [List.length_map,List.length_take]; omega
  rw [hpl] at HR ⊢
  have HPL:=Lib.hid hpl
  clear hpl
  by_cases hkl:k < l.length
  · obtain ⟨x,hx⟩:∃ x,l[k]? = some x:=⟨_,List.getElem?_eq_getElem hkl⟩
    obtain ⟨_,_,he,_,hcells⟩:=HV.out
    cases he
    obtain ⟨b,off,rfl,hcell⟩:=hcells HL0.out
    obtain ⟨xl,xh⟩:=x
    have c0:wr.cell? ⟨b,off + k * 2,none⟩=some (.int .u32 xl):=Fr.cell hn1 (hcell k _ hx 0 _ rfl) id
    have c1:wr.cell? ⟨b,off + k * 2 + 1,none⟩=some (.int .u32 xh):=Fr.cell hn1 (hcell k _ hx 1 _ rfl) id
    have htk:(l.take (k + 1)).map (plainR top)=(l.take k).map (plainR top) ++ [plainR top ⟨xl,xh⟩]:=by rw [take_snoc hx,List.map_append]; rfl
    have hplain:=fun W=>plain_any top ⟨xl,xh⟩ W
    obtain ⟨pr,hpr⟩:∃ pr,plainR top ⟨xl,xh⟩=pr:=⟨_,rfl⟩
    rw [hpr] at htk hplain
    obtain ⟨pl,ph⟩:=pr
    have HTK:=Lib.hid htk
    have HPN:=Lib.hid hplain
    have HN1:=Lib.hid hn1
    clear htk hplain hpr hcell hcells hx hn1
    gi_wp2_with fail
    refine ⟨trivial,?_⟩
    refine (callsIn_wide.2 (HPN.out _)).mono ?_
    rintro e w2 ⟨rfl,n2⟩
    have n3:New wr w2:=((New.refl wr).alloc _).trans n2
    have ho2:=HR.out.1.new n3
    have hr2:Rd rgE (w2.alloc (.cells #[.int .u32 pl,.int .u32 ph] 191)) (.slice (some ⟨w2.heap.size,0,none⟩) 1 1) [⟨pl,ph⟩]:=rd_oneR (Blk.new _ _ _)
    have hsz:=HN1.out.size
    have hsz2:=n3.size
    have HO2:=Lib.hid (ho2.alloc (.cells #[.int .u32 pl,.int .u32 ph] 191))
    have HR2:=Lib.hid hr2
    clear ho2 hr2
    gi_wp2_with (gi_at_builtin; refine wpListIn_append (E:=rgE) rfl _ _ _ rfl Tryz.underlying44 hi hz0 hz1 hz2 rfl HO2.out rfl HR2.out rfl (by rw [HPL.out]; unfold maxLen; simp; omega) (by rw [HPL.out]; simp; omega) (by rw [World.size_alloc]; omega) ?_; intro v3 w3 hv3 hf3 hl3)
    go_roundw
    · refine ⟨k + 1,by omega,rfl,Lib.hid ⟨by rw [HTK.out]; exact hv3,New.append (HN1.out.trans (n3.alloc _)) (HO2.out) hf3⟩⟩
    · simp [intOf]; omega
  · obtain rfl:k=l.length:=by omega
    have HRow:Hid (Own rgE 191 W.heap.size wr (.slice pA l.length pC) (l.map (plainR top))∧New W wr):=by
     have h:=HR.out
     rw [List.take_length] at h
     exact h
    have hne:l.map (plainR top)≠[]:=fun e=>HL0.out (List.map_eq_nil_iff.1 e)
    have hwfm:∀ r ∈ l.map (plainR top),r.wf:=fun r hr=>by
     obtain ⟨x,hx,rfl⟩:=List.mem_map.1 hr
     have h1:=plainR_bd H01.out.1 (HWF.out x hx) (HOK.out x hx)
     have h2:(plainR top x).lo≤(plainR top x).hi:=by unfold plainR; dsimp only; omega
     have h3:=H01.out.2
     unfold Rg.wf
     omega
    have hsort:=rsort_any HRow.out.1 hwfm (by rw [List.length_map]; omega) hne
    have HS:=Lib.hid hsort
    clear hsort hwfm hne HR e1 e2 e3 hn1 hkl hk
    gi_wp2_with fail
    refine ⟨trivial,?_⟩
    refine (callsIn_wide.2 HS.out).mono ?_
    rintro e w2 ⟨rfl,l',hrd,hll,hmem,hfr,pg,pcs,hpg,hpb⟩
    have n2:New W w2:=New.append HRow.out.2 HRow.out.1 hfr
    have HJ2:Hid (J [] w2):=agree_new HJ.out HJ0.out n2
    rw [List.length_map] at hll
    have HLL:=Lib.hid hll
    have HMEM:=Lib.hid hmem
    have HP2:Hid (okChain top 1 (([]:List (RgV top)).map (·.1))∧J [] w2∧Rd rgE w2 (.slice pA l.length pC) l'∧∃ cs,Blk w2 pg 191 cs):=Lib.hid ⟨trivial,HJ2.out,hrd,_,hpb⟩
    have HPG:Hid (Value.ownBlock (.slice pA l.length pC)=some pg):=hpg
    clear hll hmem hrd hfr hpb hpg n2 HS HRow HPL HJ0 HJ2
    gi_wp2_with fail
    gi_loopw [7,27] (fun nv jv wr=>∃ (pre:List (RgV top)) (j:Nat),nv=.int .u32 (nxtOf 1 (pre.map (·.1)))∧jv=.int .i64 j∧pre.length≤j∧j≤l.length∧Hid (okChain top 1 (pre.map (·.1))∧J pre wr∧Rd rgE wr (.slice pA l.length pC) l'∧∃ cs,Blk wr pg 191 cs)) (fun _ jv _=>l.length - (intOf jv).toNat)
    case atStart=>exact ⟨[],0,rfl,rfl,Nat.le_refl _,Nat.zero_le _,HP2⟩
    case round =>
     obtain ⟨pre,j,rfl,rfl,hpj,hjl,HR2⟩:=hrel
     clear HP2
     by_cases hj:j < l.length
     · obtain ⟨x,hx⟩:∃ x,l'[j]? = some x:=⟨_,List.getElem?_eq_getElem (by have:=HLL.out; omega)⟩
       obtain ⟨A',c',he,_,hcells⟩:=HR2.out.2.2.1
       injection he with e1 e2 e3
       subst e1
       clear e2 e3
       obtain ⟨b,off,rfl,hcell⟩:=hcells (by rintro rfl; simp at hx)
       obtain ⟨y,hy,hyx⟩:=List.mem_map.1 (HMEM.out x (List.mem_of_getElem? hx))
       have hbd:=plainR_bd H01.out.1 (HWF.out y hy) (HOK.out y hy)
       have hle:(plainR top y).lo≤(plainR top y).hi:=by unfold plainR; dsimp only; omega
       rw [hyx] at hbd hle
       obtain ⟨xl,xh⟩:=x
       have c0:wr.cell? ⟨b,off + j * 2,none⟩=some (.int .u32 xl):=hcell j _ hx 0 _ rfl
       have c1:wr.cell? ⟨b,off + j * 2 + 1,none⟩=some (.int .u32 xh):=hcell j _ hx 1 _ rfl
       have hnb:=nxtOf_bd HR2.out.1 (by omega) (by have:=H01.out.1; omega)
       obtain ⟨nx,hnx⟩:∃ nx,nxtOf 1 (pre.map (·.1))=nx:=⟨_,rfl⟩
       rw [hnx] at hnb ⊢
       have HNX:=Lib.hid hnx
       have HBD:=Lib.hid (And.intro hbd (And.intro hle hnb))
       have htop:=H01.out.2
       dsimp only at hbd hle
       clear hcells hcell hx hy hyx hnx
       by_cases hgo:xh < max xl nx
       · have d1:decide (xh < max xl nx)=true:=decide_eq_true hgo
         clear hgo hbd hle hnb htop
         gi_wp2
         go_roundw
         · refine ⟨pre,j + 1,by rw [HNX.out],rfl,by omega,by omega,Lib.hid ⟨HR2.out.1,agree_new HJ.out HR2.out.2.1 ((New.refl _).alloc _),HR2.out.2.2.1.alloc _,?_⟩⟩
           obtain ⟨cs,hcs⟩:=HR2.out.2.2.2
           exact ⟨cs,hcs.alloc _⟩
         · simp [intOf]; omega
       · have d1:decide (xh < max xl nx)=false:=decide_eq_false hgo
         have d2:(max xl nx == 0)=false:=beq_eq_false_iff_ne.2 (by omega)
         have d3:(xh == 4294967295)=false:=beq_eq_false_iff_ne.2 (by omega)
         have d4:IntKind.u32.wrap (xh + 1)=xh + 1:=by unfold IntKind.wrap; simp [IntKind.bits,IntKind.signed]; omega
         obtain ⟨z,hz⟩:∃ z:RgV top,z.1=⟨max xl nx,xh⟩:=⟨⟨⟨max xl nx,xh⟩,by dsimp only; omega⟩,rfl⟩
         have n1:New wr (wr.alloc (.cells #[.int .u32 (max xl nx),.int .u32 xh] 191)):=(New.refl wr).alloc _
         obtain ⟨fn,tmps,assign,body,hyy,hR⟩:=HY.out pre z (wr.alloc (.cells #[.int .u32 (max xl nx),.int .u32 xh] 191)) (agree_new HJ.out HR2.out.2.1 n1) (by omega)
         have hbB:Blk (wr.alloc (.cells #[.int .u32 (max xl nx),.int .u32 xh] 191)) wr.heap.size 191 #[.int .u32 (max xl nx),.int .u32 xh]:=Blk.new _ _ _
         rw [hz] at hyy
         have HZ:=Lib.hid hz
         have HGO:=Lib.hid hgo
         have HB:=Lib.hid hbB
         have N1:=Lib.hid n1
         clear hgo hbd hle hnb htop hz hbB n1
         gi_wp2
         refine hR.mono ?_
         rintro e W3 (⟨rfl,hJ3,hk3⟩ | ⟨rfl,hJx3⟩)
         · have q1:W3.cell? ⟨wr.heap.size,1,none⟩=some (.int .u32 xh):=(hk3.2 _ _ HB.out).cell 1
           have HK3:=Lib.hid hk3
           have HJ3:Hid (J (pre ++ [z]) W3):=hJ3
           clear hk3 hJ3
           gi_wp2
           go_roundw
           · refine ⟨pre ++ [z],j + 1,?_,rfl,by simp; omega,by omega,Lib.hid ⟨?_,HJ3.out,?_,?_⟩⟩
             · rw [List.map_append,List.map_singleton,nxtOf_snoc,HZ.out]
             · rw [List.map_append,List.map_singleton,HZ.out]
               have h:=HBD.out
               have h':=HGO.out
               exact okChain_snoc HR2.out.1 (by rw [HNX.out]; dsimp only; omega) (by dsimp only; omega) (by dsimp only; omega)
             · obtain ⟨cs,hcs⟩:=HR2.out.2.2.2
               refine (HR2.out.2.2.1.new N1.out).keep fun b' hb' _=>?_
               have e:b'=pg:=Option.some.inj (hb'.symm.trans HPG.out)
               subst e
               exact (HK3.out.2 _ _ (N1.out.blk hcs)).trans (N1.out.blk hcs).symm
             · obtain ⟨cs,hcs⟩:=HR2.out.2.2.2
               exact ⟨cs,HK3.out.2 _ _ (N1.out.blk hcs)⟩
           · simp [intOf]; omega
         · gi_wp2
           refine bodyPost_ret (results_none rfl _ _ _) rfl ?_
           exact ⟨⟨_,rfl⟩,.inr ⟨_,hJx3⟩⟩
     · gi_wp2
       go_end0
       exact ⟨⟨_,rfl⟩,.inl ⟨pre,HR2.out.1,HR2.out.2.1⟩⟩
end Go.Proofs.YtliimglbbiebiaaGreatDoor
end

