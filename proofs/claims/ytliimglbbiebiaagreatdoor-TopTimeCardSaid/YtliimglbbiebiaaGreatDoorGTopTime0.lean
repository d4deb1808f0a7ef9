import Derived.WalkKit
import Derived.Below
import Derived.Laws.OwnMore
import Derived.Laws.Rows
import Derived.Deep.AppendLies
import Derived.Deep.Draws
import Derived.Lib.Hide
import Derived.Maps.AppendAt
import Derived.StillTailTactics
import Derived.Laws.BitsAllLaws
import Derived.Maps.Own
import Derived.Maps.OwnOps
import Derived.Maps.OwnSet
import Derived.OwnWalk
import Derived.Laws.CopyRow
import Derived.Lib.SliceRun
import Derived.Lib.AppendZerosOnto
import Derived.WalkSpells
import Derived.WalkLawsBesides
import Derived.Deep.QuietTactic
import Derived.BigQuiet
import Derived.Laws.EntriesVeiled
import Derived.LoopN
import Derived.Deep.RegionHeld3
import Derived.Shelf.Abstract
import Derived.Laws.IdiomStrings
import Derived.Shelf.Small.Strs
import Derived.Shelf.Small.Wraps
import Derived.Shelf.Strconv.Itoa0
import Derived.Shelf.Strconv.Itoa1
import Derived.Shelf.LaysM
import Derived.Shelf.Strconv.Itoa2
import Derived.Shelf.Strings.Fields
import Derived.Shelf.Slices.Turned
import Derived.Shelf.Slices.Equal
import Derived.Shelf.Bytes.SlIndexSmall
import Derived.Shelf.Bytes.SlIndexAt
import Derived.Shelf.Bytes.SlIndexWhole
import Derived.Shelf.Bytes.SlSmallAll
import Derived.Shelf.Bytes.IndexByte
import Derived.Lib.ItoaMem
import Derived.Lib.ItoaWalk
import Derived.Lib.LaidTab
import Derived.Lib.LaidU8
import Derived.Lib.BufferRead
import Derived.Lib.MinMax
import Derived.Lib.SlBytesConst
import Derived.RangeFuncNested
import Derived.RangeFuncBound
import Derived.RangeFuncCalls
import Derived.RangeFuncLeaves
import Derived.OwnWalkIn
import Derived.TacticsInMore
import Derived.LoopNIn
import Derived.LoopIn
import Derived.Shelf.RegionOpen
import Derived.Lib.IndexMore
import Derived.Shelf.Strings.OnBuilder
import Derived.Shelf.Strings.Prefix
import Derived.Shelf.Strings.Cut
import Derived.Shelf.Strings.Split
import Derived.Shelf.Pu.ParseUintPublic10
import Derived.Lib.SmallJoins
import Derived.Lib.SplitLaws
import Derived.StringKeys
import Derived.Deep.DeepCutAuto
import Derived.Laws.CopyOwn
import Derived.Lib.BufferWrite
import Derived.Laws.LoneSync
import Derived.Shelf.SlGeneric
import Derived.Shelf.SlIterI.Nil
import Derived.Shelf.SortM.Plain
import Derived.Shelf.SortM.SortNone
import Derived.Defers
import Derived.Recover
import Derived.DeepKeys4
import Derived.KernelRfl
import Derived.ProofKit
import Derived.MapViews
import Derived.Deep.DeepMust
import Derived.Laws.StructEq
import Derived.Shelf.SlSortCmp.WholeK
import Derived.Conc.MuLone
import Derived.Sort.Defs
import Derived.BigGuard
import Derived.RegionTactic
import Derived.Sort.LotD1
import Derived.Sort.LotD4
import Derived.Sort.LotC
import Derived.Deep.CutBlock
import Derived.Deep.LoopGhost
import Derived.Shelf.SlSortCmp.Xorshift
import Derived.Sort.LotD5
import Derived.Sort.AssemblyPlain
import Derived.Sort.Walk13a
import Derived.Maps.RangeWalk
import Derived.LoopTactic
import Derived.Deep.AppendSrc
import Derived.Deep.RegionWith
import Derived.Deep.DeepFit
import Derived.Laws.IdiomCopy
import Derived.Deep.RegionLaw
import Derived.Sort.QuietIn
import Derived.OpenShut
import Derived.Deep.Slices
import Derived.Deep.Fields
import Derived.ChangeSame
import Derived.LaidMore
import Derived.Lay
import Derived.Shelf.Vars
import Derived.Stop.Joined
import Derived.Test.YtliimglbbiebiaaGreatDoorRows
namespace Go.Proofs.YtliimglbbiebiaaGreatDoor
open Go Go.Proofs.Tryz Go.RowKit
abbrev kR:=@Go.Addr.add_lit
abbrev TR:=@Array.getElem?_append_left
abbrev adV:=@Array.getElem?_eq_getElem
abbrev ab2:=@Array.getElem?_eq_none
abbrev Yd:=@Array.getElem?_modify
abbrev ab8:=@Array.getElem?_toList
abbrev Yh:=@Array.length_toList
abbrev rX:=@Array.replicate_succ
abbrev rY:=@Array.replicate_zero
abbrev YA:=@Array.size_replicate
abbrev adX:=@Array.size_setIfInBounds
abbrev adW:=@Array.toList_setIfInBounds
abbrev JA:=@Go.RowKit.Below.heap_alloc
abbrev Wf:=@Go.RowKit.Below.heap_setCell
abbrev zm:=@Go.RowKit.Below.refl
abbrev JU:=@Bool.and_eq_true
abbrev JL:=@Bool.and_false
abbrev yW:=@Bool.false_and
abbrev Xn:=@Bool.false_eq_true
abbrev Xr:=@Bool.not_true
abbrev tc:=@Bool.true_and
abbrev WR:=@Bool.true_or
abbrev cI:=@ByteArray.size_append
abbrev adb:=@ByteArray.size_extract
abbrev CY:=@Go.ByteArray.toList_eq
abbrev lG:=@Go.Calls.quiet_of_same
abbrev XJ:=@Go.CallsIn.inRound
abbrev PE:=@Decidable.byContradiction
abbrev ou:=@Iff.rfl
abbrev Km:=@Int.emod_lt_of_pos
abbrev Kl:=@Int.emod_nonneg
abbrev tu:=@Int.eq_ofNat_of_zero_le
abbrev gq:=@Int.le_refl
abbrev zJ:=@Int.lt_or_le
abbrev adN:=@Int.tmod_eq_emod_of_nonneg
abbrev Q5:=@Go.IntKind.wrap_u64
abbrev aM:=@Go.IntWalk.i64_in
abbrev WB:=@Go.IntWalk.wrap64_in
abbrev ab:=@Go.Lib.decDigits_length
abbrev ac5:=@Go.Lib.hid
abbrev JT:=@Go.Lib.run_convert_bytes_const
abbrev Wy:=@Go.Lib.run_convert_nil_bytes
abbrev JZ:=@Go.Lib.run_eql_slice_nil
abbrev Ou:=@Go.Lib.size_eq
abbrev J8:=@List.Sublist.map
abbrev CN:=@List.any_eq_true
abbrev zi:=@List.append_assoc
abbrev kg:=@List.append_nil
abbrev iY:=@List.append_toArray
abbrev OZ:=@List.cons_append
abbrev acZ:=@List.drop_eq_getElem_cons
abbrev PU:=@List.drop_eq_nil_of_le
abbrev PV:=@List.drop_succ_cons
abbrev vp:=@List.drop_zero
abbrev wk:=@List.eq_nil_of_length_eq_zero
abbrev Kk:=@List.filter_append
abbrev yU:=@List.filter_congr
abbrev ku:=@List.filter_cons
abbrev mD:=@List.filter_cons_of_neg
abbrev Qo:=@List.filter_cons_of_pos
abbrev Xd:=@List.filter_eq_self
abbrev Kh:=@List.filter_filter
abbrev Ov:=@List.filter_map
abbrev Wi:=@List.filter_sublist
abbrev Wh:=@List.find?_cons
abbrev Wg:=@List.find?_eq_none
abbrev JF:=@List.find?_some
abbrev wj:=@List.flatMap_cons
abbrev JG:=@List.getD_eq_getElem?_getD
abbrev Ox:=@List.getElem?_append_left
abbrev ab4:=@List.getElem?_append_right
abbrev Dd:=@List.getElem?_cons_zero
abbrev aR:=@List.getElem?_drop
abbrev DW:=@List.getElem?_eq_getElem
abbrev aeA:=@List.getElem?_eq_none
abbrev Qw:=@List.getElem?_eraseIdx
abbrev gl:=@List.getElem?_inj
abbrev OX:=@List.getElem?_map
abbrev OV:=@List.getElem?_set_ne
abbrev acW:=@List.getElem?_set_self
abbrev ab7:=@List.getElem?_take_of_lt
abbrev XG:=@List.getElem?_toArray
abbrev aV:=@List.getLast?_eq_getElem?
abbrev dr:=@List.length_append
abbrev iU:=@List.length_cons
abbrev gj:=@List.length_drop
abbrev cR:=@List.length_filter_le
abbrev D9:=@List.length_map
abbrev ke:=@List.length_mergeSort
abbrev WL:=@List.length_nil
abbrev OD:=@List.length_replicate
abbrev xj:=@List.length_set
abbrev dK:=@List.length_singleton
abbrev jo:=@List.length_take
abbrev ta:=@List.map_append
abbrev eR:=@List.map_congr_left
abbrev nR:=@List.map_cons
abbrev JJ:=@List.map_map
abbrev Kf:=@List.map_nil
abbrev JI:=@List.map_singleton
abbrev Hx:=@List.map_toArray
abbrev xg:=@List.mem_append
abbrev wu:=@List.mem_cons
abbrev su:=@List.mem_cons_of_mem
abbrev vB:=@List.mem_cons_self
abbrev SE:=@List.mem_map
abbrev Oj:=@List.mem_map_of_mem
abbrev bK:=@List.mem_of_find?_eq_some
abbrev YX:=@List.mem_of_getElem?
abbrev Hr:=@List.mem_or_eq_of_mem_set
abbrev eU:=@List.mergeSort_perm
abbrev Qv:=@List.nil_append
abbrev Ar:=@List.nodup_append
abbrev BY:=@List.nodup_cons
abbrev Bf:=@List.not_mem_nil
abbrev YW:=@List.pairwise_mergeSort
abbrev Ru:=@List.perm_ext_iff_of_nodup
abbrev IU:=@List.prefix_append
abbrev gW:=@List.prefix_rfl
abbrev eL:=@List.push_toArray
abbrev ey:=@List.setIfInBounds_toArray
abbrev eo:=@List.set_cons_succ
abbrev fY:=@List.set_cons_zero
abbrev PA:=@List.size_toArray
abbrev Hz:=@List.sum_cons
abbrev Gz:=@List.take_add_one
abbrev Yg:=@List.take_append_drop
abbrev jL:=@List.take_append_of_le_length
abbrev iD:=@List.take_length
abbrev Hv:=@List.take_of_length_le
abbrev Ay:=@List.take_succ_cons
abbrev wt:=@List.take_succ_eq_append_getElem
abbrev ID:=@List.take_zero
abbrev rU:=@Go.Maps.keyOf_int_inv
abbrev vh:=@Nat.add_assoc
abbrev rT:=@Nat.add_mul
abbrev aaH:=@Nat.add_sub_cancel
abbrev eS:=@Nat.add_sub_cancel_left
abbrev Au:=@Nat.add_zero
abbrev Pl:=@Nat.eq_zero_or_pos
abbrev ag:=@Nat.le_of_succ_le
abbrev aA:=@Nat.le_refl
abbrev gy:=@Nat.le_trans
abbrev bh:=@Nat.lt_irrefl
abbrev iB:=@Nat.lt_of_le_of_lt
abbrev fw:=@Nat.lt_of_lt_of_le
abbrev GA:=@Nat.lt_or_ge
abbrev oN:=@Nat.min_eq_left
abbrev eW:=@Nat.mul_le_mul_right
abbrev RZ:=@Nat.mul_one
abbrev cZ:=@Nat.ne_of_lt
abbrev aH:=@Nat.zero_add
abbrev Gv:=@Nat.zero_le
abbrev aT:=@Nat.zero_mul
abbrev iX:=@Ne.symm
abbrev wT:=@Go.Oper.semAt_some
abbrev ly:=@Option.getD_none
abbrev ON:=@Option.getD_some
abbrev OO:=@Option.isNone_none
abbrev Ir:=@Option.isNone_some
abbrev Bz:=@Option.isSome_none
abbrev Yf:=@Option.isSome_some
abbrev AS:=@Option.map_eq_none_iff
abbrev Pk:=@Option.map_some
abbrev lZ:=@Option.some.inj
abbrev rM:=@Option.some.injEq
abbrev vt:=@Prod.mk.injEq
abbrev oM:=@Go.Result.andThen_ok
abbrev rN:=@Go.Sem.run_bind
abbrev jK:=@Go.Sem.run_pure
abbrev ve:=@Go.WalkArith.wf_i64
abbrev jH:=@Go.World.block_lt_of_cell?
abbrev GS:=@Go.World.cell?_alloc_new
abbrev Aq:=@Go.World.cell?_alloc_past
abbrev jG:=@Go.World.cell?_of_block
abbrev OW:=@Go.World.cell?_setCell_other
abbrev ZM:=@Go.World.cell?_setCell_same
abbrev Oy:=@Go.World.cell?_setCells_out
abbrev Pe:=@Go.World.ownsRow.cells
abbrev an:=@Go.World.putObj_heap_other
abbrev gz:=@Go.World.size_alloc
abbrev IN:=@Go.World.size_drew
abbrev ao:=@Go.World.size_setCell
abbrev r_:=@Go.bodyPost_ret
abbrev rW:=@Go.callsIn_of_wp
abbrev jJ:=@Go.callsIn_of_wp_marks
abbrev ay:=@Go.callsIn_wide
abbrev aP:=@decide_eq_false
abbrev k_:=@decide_eq_true
abbrev aJ:=@decide_eq_true_eq
abbrev Aw:=@Go.Proofs.enters_of
abbrev oU:=@getElem!_pos
abbrev bH:=@Go.grownBy_putObj'
abbrev wF:=@Go.info_parts
abbrev Qd:=@Go.leaves_cons
abbrev wI:=@of_decide_eq_false
abbrev cj:=@of_decide_eq_true
abbrev G6:=@Go.results_none
abbrev cF:=@Go.results_tmp2
abbrev O0:=@Go.rounds_succ
abbrev GU:=@Go.run_bytes_of_string
abbrev l7:=@Go.run_convert_bytes_back
abbrev kV:=@Go.run_loadVar_row
abbrev rZ:=@Go.run_sliceAt_slice
abbrev Gx:=@Go.run_takeDeferred
abbrev BG:=@Go.run_underlying
abbrev vg:=@Go.wpList_plain
abbrev pK:=@Go.wpQuietIn_nil
abbrev Hw:=@Go.wpStill_nil
abbrev jD:=@Go.wp_loop_rounds
abbrev QQ210_:=@Go.wp_region_held_drew
theorem atQ(fn:Fn) (first cap:Array Value) (w:World):(Instr.makeFunc fn first cap).run prog w=.ok (.func fn first cap) w:=rfl
theorem aK{α:Type}{p:Option α}{f g:α}(h:p=some f) (k:f=g):p=some g:=h.trans (congrArg some k)
section
variable{a b c d e f g h i j:Prop}
theorem cu(z:c):a\/b\/c:=.inr (.inr z)
theorem dS(z:d):a\/b\/c\/d:=.inr (.inr (.inr z))
theorem iO(z:e):a\/b\/c\/d\/e:=.inr (.inr (.inr (.inr z)))
theorem gd(z:f):a\/b\/c\/d\/e\/f:=.inr (.inr (.inr (.inr (.inr z))))
theorem lX(z:g):a\/b\/c\/d\/e\/f\/g:=.inr (.inr (.inr (.inr (.inr (.inr z)))))
theorem VL(z:h):a\/b\/c\/d\/e\/f\/g\/h:=.inr (.inr (.inr (.inr (.inr (.inr (.inr z))))))
theorem Sq(z:i):a\/b\/c\/d\/e\/f\/g\/h\/i:=.inr (.inr (.inr (.inr (.inr (.inr (.inr (.inr z)))))))
theorem atS(z:j):a\/b\/c\/d\/e\/f\/g\/h\/i\/j:=.inr (.inr (.inr (.inr (.inr (.inr (.inr (.inr (.inr z))))))))
end
theorem O_{p:Prop}(h:p:=by omega):p:=h
theorem D_{p:Prop}(h:p:=by decide):p:=h
theorem K_{p:Prop}(h:p:=by kernel_rfl):p:=h
theorem S_{p:Prop}(h:p:=by simp):p:=h
theorem P_{p:Prop}(h:p:=by simp;omega):p:=h
instance:Coe World Nat:=⟨fun w=>w.heap.size⟩
structure Qt_(b:Nat)
def Q_(b:Nat):Qt_ b:={}
instance {b:Nat}:CoeHead (Qt_ b) (Value):=⟨fun _=>.pointer (some ⟨b,0,none⟩)⟩
instance {b:Nat}:CoeHead (Option (Qt_ b)) (Option Value):=⟨fun _=>some (.pointer (some ⟨b,0,none⟩))⟩
structure It_(x:Int)
def I_(x:Int):It_ x:={}
instance {x:Int}:CoeHead (It_ x) (Value):=⟨fun _=>.int .i64 x⟩
instance {x:Int}:CoeHead (Option (It_ x)) (Option Value):=⟨fun _=>some (.int .i64 x)⟩
structure Ut_(x:Int)
def U_(x:Int):Ut_ x:={}
instance {x:Int}:CoeHead (Ut_ x) (Value):=⟨fun _=>.int .u32 x⟩
instance {x:Int}:CoeHead (Option (Ut_ x)) (Option Value):=⟨fun _=>some (.int .u32 x)⟩
structure Bt_(x:Int)
def B_(x:Int):Bt_ x:={}
instance {x:Int}:CoeHead (Bt_ x) (Value):=⟨fun _=>.int .u8 x⟩
instance {x:Int}:CoeHead (Option (Bt_ x)) (Option Value):=⟨fun _=>some (.int .u8 x)⟩
structure Et_
def E_:Et_:={}
instance:CoeHead (Et_) (Value):=⟨fun _=>.string ⟨#[]⟩⟩
instance:CoeHead (Option (Et_)) (Option Value):=⟨fun _=>some (.string ⟨#[]⟩)⟩
structure Zt_
def Z_:Zt_:={}
instance:CoeHead (Zt_) (Value):=⟨fun _=>.slice none 0 0⟩
instance:CoeHead (Option (Zt_)) (Option Value):=⟨fun _=>some (.slice none 0 0)⟩
structure Tt_(s:ByteArray)
def T_(s:ByteArray):Tt_ s:={}
instance {s:ByteArray}:CoeHead (Tt_ s) (Value):=⟨fun _=>.string s⟩
instance {s:ByteArray}:CoeHead (Option (Tt_ s)) (Option Value):=⟨fun _=>some (.string s)⟩
structure Xt_(a:Option Addr)(n c:Nat)
def X_(a:Option Addr)(n c:Nat):Xt_ a n c:={}
instance {a:Option Addr}{n c:Nat}:CoeHead (Xt_ a n c) (Value):=⟨fun _=>.slice a n c⟩
instance {a:Option Addr}{n c:Nat}:CoeHead (Option (Xt_ a n c)) (Option Value):=⟨fun _=>some (.slice a n c)⟩
structure Rt_(b:Bool)
def R_(b:Bool):Rt_ b:={}
instance {b:Bool}:CoeHead (Rt_ b) (Value):=⟨fun _=>.bool b⟩
instance {b:Bool}:CoeHead (Option (Rt_ b)) (Option Value):=⟨fun _=>some (.bool b)⟩
structure Mt_(b:Nat)
def M_(b:Nat):Mt_ b:={}
instance {b:Nat}:CoeHead (Mt_ b) (Option Addr):=⟨fun _=>some ⟨b,0,none⟩⟩
structure Ct_(b j:Nat)
def C_(b j:Nat):Ct_ b j:={}
instance {b j:Nat}:CoeHead (Ct_ b j) (Addr):=⟨fun _=>⟨b,j,none⟩⟩
structure Gt_(c:Array Value)(t:TypeId)
def G_(c:Array Value)(t:TypeId):Gt_ c t:={}
instance {c:Array Value}{t:TypeId}:CoeHead (Gt_ c t) (Obj):=⟨fun _=>.cells c t⟩
instance {c:Array Value}{t:TypeId}:CoeHead (Option (Gt_ c t)) (Option Obj):=⟨fun _=>some (.cells c t)⟩
structure Lt_(w:World)(b j:Nat)(v:Value)
def L_(w:World)(b j:Nat)(v:Value):Lt_ w b j v:={}
instance {w:World}{b j:Nat}{v:Value}:CoeHead (Lt_ w b j v) (Prop):=⟨fun _=>w.cell? ⟨b,j,none⟩=some v⟩
instance {w:World}{b j:Nat}{v:Value}:CoeSort (Lt_ w b j v) (Prop):=⟨fun _=>w.cell? ⟨b,j,none⟩=some v⟩
structure Ht_(f:FuncId)(a:Array Value)(w:World)(Q:Ending→World→Prop)
def H_(f:FuncId)(a:Array Value)(w:World)(Q:Ending→World→Prop):Ht_ f a w Q:={}
instance {f:FuncId}{a:Array Value}{w:World}{Q:Ending→World→Prop}:CoeHead (Ht_ f a w Q) (Prop):=⟨fun _=>Calls prog f a w Q⟩
instance {f:FuncId}{a:Array Value}{w:World}{Q:Ending→World→Prop}:CoeSort (Ht_ f a w Q) (Prop):=⟨fun _=>Calls prog f a w Q⟩
structure Wt_(w:World)(c:Array Value)(t:TypeId)
def W_(w:World)(c:Array Value)(t:TypeId):Wt_ w c t:={}
instance {w:World}{c:Array Value}{t:TypeId}:CoeHead (Wt_ w c t) (World):=⟨fun _=>w.alloc (.cells c t)⟩
structure Ft_(w:World)
def F_(w:World):Ft_ w:={}
instance {w:World}:CoeHead (Ft_ w) (World):=⟨fun _=>w.drew⟩
end Go.Proofs.YtliimglbbiebiaaGreatDoor
