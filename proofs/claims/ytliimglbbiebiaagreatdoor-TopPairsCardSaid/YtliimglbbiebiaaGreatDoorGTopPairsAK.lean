/- A part of the proof: UidV, Resp1, Char1, Char2, Over, Frame1. -/
import Derived.Test.YtliimglbbiebiaaGreatDoorGTopPairsAI
import Derived.Conc.MuLone
import Derived.Defers
import Derived.Test.YtliimglbbiebiaaGreatDoorGTopPairsAB
import Derived.Test.YtliimglbbiebiaaGreatDoorGTopPairsAA
import Derived.Laws.EntriesVeiled
import Derived.WalkKit
import Derived.WalkSpells
import Derived.WalkLawsBesides
import Derived.LoopN
import Derived.Lib.Hide
import Derived.Deep.QuietTactic
import Derived.Deep.RegionHeld3
import Derived.BigQuiet
set_option maxRecDepth 100000
set_option maxHeartbeats 6400000
section
namespace Go.Proofs.YtliimglbbiebiaaGreatDoor.UV
open Go.RowKit Go.MuLone
abbrev mu:Go.Conc.Locks.MuLink:={ lock:=243,unlock:=244,ilock:=300,iunlock:=301,lockSlow:=338,unlockSlow:=341,disable:=334,enable:=336,acquire:=337,relMerge:=339,cas32:=335,add32:=340,tMutex:=141,tIMutex:=139,tPMutex:=408,tPIMutex:=443,tPI32:=445,tUP:=447,tNoCopy:=137,tU32:=28 }
theorem muLib:Go.Conc.Locks.MuLib Tryz.prog mu :=
 ⟨Tryz.func243,Tryz.func244,Tryz.func300,Tryz.func301,Tryz.func334,Tryz.func336,Tryz.func337,Tryz.func339,Tryz.func335,Tryz.func340,Tryz.underlying139,Tryz.runUnderlying139,Tryz.sizeOf139,Tryz.isAgg139,Tryz.zeroValue139,Tryz.underlying141,Tryz.runUnderlying141,Tryz.sizeOf141,Tryz.isAgg141,Tryz.zeroValue141,Tryz.underlying408,Tryz.runUnderlying408,Tryz.sizeOf408,Tryz.isAgg408,Tryz.zeroValue408,Tryz.underlying443,Tryz.runUnderlying443,Tryz.sizeOf443,Tryz.isAgg443,Tryz.zeroValue443,Tryz.underlying445,Tryz.runUnderlying445,Tryz.sizeOf445,Tryz.isAgg445,Tryz.zeroValue445,Tryz.underlying447,Tryz.runUnderlying447,Tryz.sizeOf447,Tryz.isAgg447,Tryz.zeroValue447,Tryz.underlying137,Tryz.runUnderlying137,Tryz.sizeOf137,Tryz.isAgg137,Tryz.zeroValue137,Tryz.underlying21,Tryz.runUnderlying21,Tryz.sizeOf21,Tryz.isAgg21,Tryz.zeroValue21,(by kernel_rfl)⟩
theorem hnot (x:Bool) (w:World):(Op.unary .not (.bool x)).run Tryz.prog w=.ok (.bool (!x)) w:=rfl
theorem bool_load (a:Addr) (x:Int) (w:World) (hc:w.cell? a=some (.int .u32 x)) :
 Calls Tryz.prog 234 #[.pointer (some a)] w fun e w'=>e=.returned (.bool (x != 0))∧w=w':=by
 have hs:=run_call_load (P:=Tryz.prog) Tryz.func104 (by kernel_rfl) (by kernel_rfl) (by kernel_rfl) .u32 (by kernel_rfl) hc
 go_enter Tryz.func234,Tryz.ntmps234
 go_wp2
 go_ret
 exact ⟨rfl,rfl⟩
theorem bool_store_deferred (a:Addr) (x:Value) (u:FrameMode) (w:World) (hc:w.cell? a=some x) (hz:w.frozen? a=false) :
 CallsD Tryz.prog 294 #[.pointer (some a),.bool true] u w fun e u' w'=>u'=u∧(e=.returned (.tuple #[])∧w'=w.drew.setCell a (.int .u32 1)):=by
 have hc':w.drew.cell? a=some x:=by go_simp
 have hz':w.drew.frozen? a=false:=by go_simp
 have hst:=run_call_store (P:=Tryz.prog) Tryz.func80 (by kernel_rfl) (by kernel_rfl) (by kernel_rfl) (by kernel_rfl) (k:=.u32) (y:=1) hc' hz'
 go_enter_d Tryz.func294,Tryz.ntmps294
 go_wp2
 go_region_calls
 all_goals (go_end0; exact ⟨rfl,rfl⟩)
theorem vfn_any (pl b:Nat) (w:World) (f:Int) (v:Value) (hp:w.cell? ⟨pl,0,none⟩=some (.pointer (some ⟨b,0,none⟩)))
 (c2:w.cell? ⟨b,2,none⟩=some (.int .u32 f)) (c3:w.cell? ⟨b,3,none⟩=some v) (f3:w.frozen? ⟨b,3,none⟩=false) :
 Calls Tryz.prog 186 #[.pointer (some ⟨pl,0,none⟩)] w fun e w'=>e=.returned (.tuple #[])∧w.drew.setCell ⟨b,3,none⟩ (.int .u32 f)=w':=by
 go_enter Tryz.func186,Tryz.ntmps186
 go_wp2_with fail
 refine wp_tail 7 (by kernel_rfl) (by kernel_rfl) ?_
 simp only [List.take_succ_cons,List.take_zero,List.drop_succ_cons,List.drop_zero]
 repeat still_step
 refine wpStill_nil ?_
 go_wp2
 go_end0
 exact ⟨rfl,rfl⟩
theorem slow_first (pl b:Nat) (w:World) (n t f v:Int) (hp:w.cell? ⟨pl,0,none⟩=some (.pointer (some ⟨b,0,none⟩))) (h:Ctr w b n t f v 0) :
 Calls Tryz.prog 235 #[.pointer (some ⟨b,4,none⟩),.func (.func 186) #[] #[.pointer (some ⟨pl,0,none⟩)]] w fun e w'=>e=.returned (.tuple #[])∧Ctr w' b n t f f 1∧One b w w':=by
 have f5:w.frozen? ⟨b,5,none⟩=false:=h.frozen 5
 have c5:=h.c5
 have h1:Blk (w.setCell ⟨b,5,none⟩ (.int .i32 1)) b 155 #[.int .u32 n,.int .u64 t,.int .u32 f,.int .u32 v,.int .u32 0,.int .i32 1,.int .u32 0]:=h.set_ 5 _
 have d4:(w.setCell ⟨b,5,none⟩ (.int .i32 1)).cell? ⟨b,4,none⟩=some (.int .u32 0):=h1.cell 4
 have hnot:=hnot
 go_enter_defers Tryz.func235,Tryz.ntmps235
 go_wp2_with (first
  | (go_at_call 243; refine (lock_free muLib ⟨b,5,none⟩ _ c5 f5).mono ?_; rintro e w' ⟨rfl,rfl⟩)
  | (go_at_call 234; refine (bool_load _ _ _ d4).mono ?_; rintro e w' ⟨rfl,rfl⟩))
 refine (vfn_any pl b _ f (.int .u32 v) ((World.cell?_setCell_other _ _ _ _ (by simp)).trans hp) (h1.cell 2) (h1.cell 3) (h1.frozen 3)).mono ?_
 rintro e w' ⟨rfl,rfl⟩
 have h2:Blk ((w.setCell ⟨b,5,none⟩ (.int .i32 1)).drew.setCell ⟨b,3,none⟩ (.int .u32 f)) b 155 #[.int .u32 n,.int .u64 t,.int .u32 f,.int .u32 f,.int .u32 0,.int .i32 1,.int .u32 0]:=h1.drew.set_ 3 _
 have h3:Blk (((w.setCell ⟨b,5,none⟩ (.int .i32 1)).drew.setCell ⟨b,3,none⟩ (.int .u32 f)).drew.setCell ⟨b,4,none⟩ (.int .u32 1)) b 155 #[.int .u32 n,.int .u64 t,.int .u32 f,.int .u32 f,.int .u32 1,.int .i32 1,.int .u32 0]:=h2.drew.set_ 4 _
 have h4:Blk ((((w.setCell ⟨b,5,none⟩ (.int .i32 1)).drew.setCell ⟨b,3,none⟩ (.int .u32 f)).drew.setCell ⟨b,4,none⟩ (.int .u32 1)).setCell ⟨b,5,none⟩ (.int .i32 0)) b 155 #[.int .u32 n,.int .u64 t,.int .u32 f,.int .u32 f,.int .u32 1,.int .i32 0,.int .u32 0]:=h3.set_ 5 _
 go_wp2
 refine leaves_cons (f:=294) (args:=#[.pointer (some ⟨b,4,none⟩),.bool true]) (by simp) (by simp [go_sem]) ?_
 refine (bool_store_deferred ⟨b,4,none⟩ (.int .u32 0) .returning _ (h2.cell 4) (h2.frozen 4)).mono ?_
 rintro e u' w'' ⟨rfl,rfl,rfl⟩
 refine leaves_cons (f:=244) (args:=#[.pointer (some ⟨b,5,none⟩)]) (by simp [settle]) (by simp [go_sem]) ?_
 refine (unlock_deferred muLib ⟨b,5,none⟩ _ _ (h3.cell 5) (h3.frozen 5)).mono ?_
 rintro e u' w'' ⟨rfl,rfl,rfl⟩
 exact ⟨_,results_none rfl _ _ _,rfl,h4,One.set (One.set (Fr.drew (One.set (Fr.drew (One.set (One.refl _ _) _ _)) _ _)) _ _) _ _⟩
theorem do_first (pl b:Nat) (w:World) (n t f v:Int) (hp:w.cell? ⟨pl,0,none⟩=some (.pointer (some ⟨b,0,none⟩))) (h:Ctr w b n t f v 0) :
 Calls Tryz.prog 185 #[.pointer (some ⟨b,4,none⟩),.func (.func 186) #[] #[.pointer (some ⟨pl,0,none⟩)]] w fun e w'=>e=.returned (.tuple #[])∧Ctr w' b n t f f 1∧One b w w':=by
 have c4:=h.c4
 have hnot:=hnot
 go_enter Tryz.func185,Tryz.ntmps185
 go_wp2_with (first
  | (go_at_call 234; refine (bool_load _ _ _ c4).mono ?_; rintro e w' ⟨rfl,rfl⟩)
  | (go_at_call 235; refine (slow_first pl b _ n t f v hp h).mono ?_; rintro e w' ⟨rfl,hc,ho⟩))
 go_end0
 exact ⟨rfl,hc,ho⟩
theorem do_done (b:Nat) (w:World) (n t f v:Int) (fv:Value) (h:Ctr w b n t f v 1) :
 Calls Tryz.prog 185 #[.pointer (some ⟨b,4,none⟩),fv] w fun e w'=>e=.returned (.tuple #[])∧w=w':=by
 have c4:=h.c4
 have hnot:=hnot
 go_enter Tryz.func185,Tryz.ntmps185
 go_wp2_with (go_at_call 234; refine (bool_load _ _ _ c4).mono ?_; rintro e w' ⟨rfl,rfl⟩)
 go_end0
 exact ⟨rfl,rfl⟩
theorem validity_first (b:Nat) (w:World) (n t f v:Int) (h:Ctr w b n t f v 0) :
 Calls Tryz.prog 131 #[.pointer (some ⟨b,0,none⟩)] w fun e w'=>e=.returned (.int .u32 f)∧Ctr w' b n t f f 1∧One b w w':=by
 have hmf:∀ (fn:Fn) (first cap:Array Value) (w:World),(Instr.makeFunc fn first cap).run Tryz.prog w=.ok (.func fn first cap) w:=fun _ _ _ _=>rfl
 have hb:=Blk.lt h
 go_enter Tryz.func131,Tryz.ntmps131
 go_wp2_with (go_at_call 185; refine (do_first w.heap.size b _ n t f v (by simp) (Blk.alloc h _)).mono ?_; rintro e w1 ⟨rfl,hc,ho⟩; have hp1:w1.cell? ⟨w.heap.size,0,none⟩=some (.pointer (some ⟨b,0,none⟩)):=(One.blk ho (Blk.new w _ _) (by omega)).cell 0; have c3:=hc.c3)
 go_ret
 exact ⟨rfl,hc,(Fr.trans ((One.refl _ _).alloc _) ho)⟩
theorem validity_done (b:Nat) (w:World) (n t f v:Int) (h:Ctr w b n t f v 1) :
 Calls Tryz.prog 131 #[.pointer (some ⟨b,0,none⟩)] w fun e w'=>e=.returned (.int .u32 v)∧Ctr w' b n t f v 1∧New w w':=by
 have hmf:∀ (fn:Fn) (first cap:Array Value) (w:World),(Instr.makeFunc fn first cap).run Tryz.prog w=.ok (.func fn first cap) w:=fun _ _ _ _=>rfl
 have c3:=h.c3
 have hb:=Blk.lt h
 go_enter Tryz.func131,Tryz.ntmps131
 go_wp2_with (go_at_call 185; refine (do_done b _ n t f v _ (Blk.alloc h _)).mono ?_; rintro e w1 ⟨rfl,rfl⟩)
 go_ret
 exact ⟨rfl,Blk.alloc h _,(New.refl _).alloc _⟩
theorem validity_any {w:World} {b:Nat} {n t f v d:Int} (h:Ctr w b n t f v d) (hd:d=0∨d=1∧v=f) :
 Calls Tryz.prog 131 #[.pointer (some ⟨b,0,none⟩)] w fun e w'=>e=.returned (.int .u32 f)∧Ctr w' b n t f f 1∧One b w w':=by
 rcases hd with rfl | ⟨rfl,rfl⟩
 · exact validity_first b w n t f v h
 · exact (validity_done b w n t v v h).mono fun e w' ⟨he,hc,hn⟩=>⟨he,hc,hn.mono fun _ _ h=>h.elim⟩
end Go.Proofs.YtliimglbbiebiaaGreatDoor.UV
end

section
namespace Go.Proofs.YtliimglbbiebiaaGreatDoor
open Go.RowKit Go.Maps
theorem Blk.not_map {w:World} {g:Nat} {t:TypeId} {cs:Array Value} {P:Program} {K:TypeId} {β:Type} [DecidableEq β] {KE:KeyEnc P K β} {b:Nat} {m:List (β × Value)} (h:Blk w g t cs) (hm:HasMap KE w b m):g≠b:=by
 rintro rfl
 obtain ⟨D,⟨es,clock,h3,_⟩,_⟩:=hm.own
 unfold Blk at h
 rw [h] at h3
 cases h3
theorem results_cell1 {P:Program} {fn:Func} {p:Tmp} {t:TypeId} (h:fn.results=#[.cell p t]) (tmps:Array Value) (w:World) {a:Addr} {v:Value}
 (hp:tmps[p]? = some (.pointer (some a))) (hv:(loadVar t a).run P w=.ok v w):(results fn tmps).run P w=.ok v w:=by
 simp [results,h,hp,asAddr,hv]
theorem loadForm {w:World} {g:Nat} {a b:Value} (h:Blk w g 428 #[a,b]):(loadVar 428 ⟨g,0,none⟩).run Tryz.prog w=.ok (.agg #[a,b]) w :=
 run_loadVar_row w g _ _ _ _ _ h Tryz.underlying428 rfl (by kernel_rfl)
abbrev numF (g:Nat):Value:=.agg #[.func (.func 404) #[] #[.pointer (some ⟨g,0,none⟩)],.func (.func 405) #[] #[]]
abbrev txtF (g:Nat):Value:=.agg #[.func (.func 408) #[] #[.pointer (some ⟨g,0,none⟩)],.func (.func 409) #[] #[]]
abbrev fetF:Value:=.agg #[.func (.func 406) #[] #[],.func (.func 407) #[] #[]]
abbrev tagF:Value:=.agg #[.func (.func 411) #[] #[],.func (.func 412) #[] #[]]
abbrev flgF:Value:=.agg #[.func (.func 359) #[] #[],.func (.func 360) #[] #[]]
theorem fnumber_any (s:ByteArray) (w:World):Calls Tryz.prog 357 #[.string s] w fun e w'=>e=.returned (numF w.heap.size)∧Blk w' w.heap.size 9 #[.string s]∧New w w':=by
 have hmf:∀ (fn:Fn) (first cap:Array Value) (w:World),(Instr.makeFunc fn first cap).run Tryz.prog w=.ok (.func fn first cap) w:=fun _ _ _ _=>rfl
 go_enter Tryz.func357,Tryz.ntmps357
 go_wp2
 refine bodyPost_ret (results_cell1 rfl _ _ rfl (loadForm (Blk.new1 _ _ _ _))) rfl ⟨rfl,(Blk.new _ _ _).alloc _,((New.refl w).alloc _).alloc _⟩
theorem ftext_any (s:ByteArray) (w:World):Calls Tryz.prog 361 #[.string s] w fun e w'=>e=.returned (txtF w.heap.size)∧Blk w' w.heap.size 9 #[.string s]∧New w w':=by
 have hmf:∀ (fn:Fn) (first cap:Array Value) (w:World),(Instr.makeFunc fn first cap).run Tryz.prog w=.ok (.func fn first cap) w:=fun _ _ _ _=>rfl
 go_enter Tryz.func361,Tryz.ntmps361
 go_wp2
 refine bodyPost_ret (results_cell1 rfl _ _ rfl (loadForm (Blk.new1 _ _ _ _))) rfl ⟨rfl,(Blk.new _ _ _).alloc _,((New.refl w).alloc _).alloc _⟩
theorem ffetched_any (w:World):Calls Tryz.prog 358 #[] w fun e w'=>e=.returned fetF∧New w w':=by
 go_enter Tryz.func358,Tryz.ntmps358
 go_wp2
 exact bodyPost_ret (results_cell1 rfl _ _ rfl (loadForm (Blk.new _ _ _))) rfl ⟨rfl,(New.refl w).alloc _⟩
theorem ftagged_any (w:World):Calls Tryz.prog 362 #[] w fun e w'=>e=.returned tagF∧New w w':=by
 go_enter Tryz.func362,Tryz.ntmps362
 go_wp2
 exact bodyPost_ret (results_cell1 rfl _ _ rfl (loadForm (Blk.new _ _ _))) rfl ⟨rfl,(New.refl w).alloc _⟩
def formsL (g1 g2 g3 g6 g7 g8 g10:Nat):List (Int × Value):=(put (put (put (put (put (put (put (put (put (put [] 1 (numF g1)) 2 (numF g2)) 3 (numF g3)) 4 fetF) 5 flgF) 6 (txtF g6)) 7 (txtF g7)) 8 (txtF g8)) 9 tagF) 10 (txtF g10))
def FormBs (w:World) (g1 g2 g3 g6 g7 g8 g10:Nat):Prop:=Blk w g1 9 #[.string ⟨#[69,88,73,83,84,83]⟩]∧Blk w g2 9 #[.string ⟨#[82,69,67,69,78,84]⟩]∧Blk w g3 9 #[.string ⟨#[69,88,80,85,78,71,69]⟩]∧Blk w g6 9 #[.string ⟨#[42,32,79,75]⟩]∧Blk w g7 9 #[.string ⟨#[42,32,66,89,69]⟩]∧Blk w g8 9 #[.string ⟨#[42,32,66,65,68]⟩]∧Blk w g10 9 #[.string ⟨#[43]⟩]
theorem forms_any (w:World):Calls Tryz.prog 316 #[] w fun e w'=>e=.returned (.map (some w.heap.size))∧New w w'∧∃ g1 g2 g3 g6 g7 g8 g10,FormBs w' g1 g2 g3 g6 g7 g8 g10∧HasMap iKeys w' w.heap.size (formsL g1 g2 g3 g6 g7 g8 g10):=by
 have hmm:=@run_makeMap Tryz.prog
 have h00:=HasMap.made iKeys w
 go_enter Tryz.func316,Tryz.ntmps316
 go_wp2_with (first
  | (go_at_call 357; refine (fnumber_any ⟨#[69,88,73,83,84,83]⟩ _).mono ?_; rintro e cw1 ⟨rfl,cb1,cn1⟩; have ch1:=h00.fr cn1 id)
  | (refine wpList_ins (E:=iKeys) rfl _ _ _ 429 428 rfl Tryz.underlying429 ch1 (Nat.lt_of_le_of_lt (Nat.le_refl 0) (by unfold maxLen; decide)) 1 (by show (Lit.int .i64 1).wf=true; decide) (numF _) rfl rfl rfl ?_; intro zw1 zm1 zo1)
  | (go_at_call 357; refine (fnumber_any ⟨#[82,69,67,69,78,84]⟩ _).mono ?_; rintro e cw2 ⟨rfl,cb2,cn2⟩; have ch2:=zm1.fr cn2 id)
  | (refine wpList_ins (E:=iKeys) rfl _ _ _ 429 428 rfl Tryz.underlying429 ch2 (Nat.lt_of_le_of_lt (ins_len (Nat.le_refl 0)) (by unfold maxLen; decide)) 2 (by show (Lit.int .i64 2).wf=true; decide) (numF _) rfl rfl rfl ?_; intro zw2 zm2 zo2)
  | (go_at_call 357; refine (fnumber_any ⟨#[69,88,80,85,78,71,69]⟩ _).mono ?_; rintro e cw3 ⟨rfl,cb3,cn3⟩; have ch3:=zm2.fr cn3 id)
  | (refine wpList_ins (E:=iKeys) rfl _ _ _ 429 428 rfl Tryz.underlying429 ch3 (Nat.lt_of_le_of_lt (ins_len (ins_len (Nat.le_refl 0))) (by unfold maxLen; decide)) 3 (by show (Lit.int .i64 3).wf=true; decide) (numF _) rfl rfl rfl ?_; intro zw3 zm3 zo3)
  | (go_at_call 358; refine (ffetched_any _).mono ?_; rintro e cw4 ⟨rfl,cn4⟩; have ch4:=zm3.fr cn4 id)
  | (refine wpList_ins (E:=iKeys) rfl _ _ _ 429 428 rfl Tryz.underlying429 ch4 (Nat.lt_of_le_of_lt (ins_len (ins_len (ins_len (Nat.le_refl 0)))) (by unfold maxLen; decide)) 4 (by show (Lit.int .i64 4).wf=true; decide) fetF rfl rfl rfl ?_; intro zw4 zm4 zo4)
  | (refine wpList_ins (E:=iKeys) rfl _ _ _ 429 428 rfl Tryz.underlying429 zm4 (Nat.lt_of_le_of_lt (ins_len (ins_len (ins_len (ins_len (Nat.le_refl 0))))) (by unfold maxLen; decide)) 5 (by show (Lit.int .i64 5).wf=true; decide) flgF rfl rfl rfl ?_; intro zw5 zm5 zo5)
  | (go_at_call 361; refine (ftext_any ⟨#[42,32,79,75]⟩ _).mono ?_; rintro e cw6 ⟨rfl,cb6,cn6⟩; have ch6:=zm5.fr cn6 id)
  | (refine wpList_ins (E:=iKeys) rfl _ _ _ 429 428 rfl Tryz.underlying429 ch6 (Nat.lt_of_le_of_lt (ins_len (ins_len (ins_len (ins_len (ins_len (Nat.le_refl 0)))))) (by unfold maxLen; decide)) 6 (by show (Lit.int .i64 6).wf=true; decide) (txtF _) rfl rfl rfl ?_; intro zw6 zm6 zo6)
  | (go_at_call 361; refine (ftext_any ⟨#[42,32,66,89,69]⟩ _).mono ?_; rintro e cw7 ⟨rfl,cb7,cn7⟩; have ch7:=zm6.fr cn7 id)
  | (refine wpList_ins (E:=iKeys) rfl _ _ _ 429 428 rfl Tryz.underlying429 ch7 (Nat.lt_of_le_of_lt (ins_len (ins_len (ins_len (ins_len (ins_len (ins_len (Nat.le_refl 0))))))) (by unfold maxLen; decide)) 7 (by show (Lit.int .i64 7).wf=true; decide) (txtF _) rfl rfl rfl ?_; intro zw7 zm7 zo7)
  | (go_at_call 361; refine (ftext_any ⟨#[42,32,66,65,68]⟩ _).mono ?_; rintro e cw8 ⟨rfl,cb8,cn8⟩; have ch8:=zm7.fr cn8 id)
  | (refine wpList_ins (E:=iKeys) rfl _ _ _ 429 428 rfl Tryz.underlying429 ch8 (Nat.lt_of_le_of_lt (ins_len (ins_len (ins_len (ins_len (ins_len (ins_len (ins_len (Nat.le_refl 0)))))))) (by unfold maxLen; decide)) 8 (by show (Lit.int .i64 8).wf=true; decide) (txtF _) rfl rfl rfl ?_; intro zw8 zm8 zo8)
  | (go_at_call 362; refine (ftagged_any _).mono ?_; rintro e cw9 ⟨rfl,cn9⟩; have ch9:=zm8.fr cn9 id)
  | (refine wpList_ins (E:=iKeys) rfl _ _ _ 429 428 rfl Tryz.underlying429 ch9 (Nat.lt_of_le_of_lt (ins_len (ins_len (ins_len (ins_len (ins_len (ins_len (ins_len (ins_len (Nat.le_refl 0))))))))) (by unfold maxLen; decide)) 9 (by show (Lit.int .i64 9).wf=true; decide) tagF rfl rfl rfl ?_; intro zw9 zm9 zo9)
  | (go_at_call 361; refine (ftext_any ⟨#[43]⟩ _).mono ?_; rintro e cw10 ⟨rfl,cb10,cn10⟩; have ch10:=zm9.fr cn10 id)
  | (refine wpList_ins (E:=iKeys) rfl _ _ _ 429 428 rfl Tryz.underlying429 ch10 (Nat.lt_of_le_of_lt (ins_len (ins_len (ins_len (ins_len (ins_len (ins_len (ins_len (ins_len (ins_len (Nat.le_refl 0)))))))))) (by unfold maxLen; decide)) 10 (by show (Lit.int .i64 10).wf=true; decide) (txtF _) rfl rfl rfl ?_; intro zw10 zm10 zo10))
 have q1_0:=zo1.blk cb1 (Blk.not_map cb1 ch1)
 have q1_1:=cn2.blk q1_0
 have q1_2:=zo2.blk q1_1 (Blk.not_map q1_1 ch2)
 have q1_3:=cn3.blk q1_2
 have q1_4:=zo3.blk q1_3 (Blk.not_map q1_3 ch3)
 have q1_5:=cn4.blk q1_4
 have q1_6:=zo4.blk q1_5 (Blk.not_map q1_5 ch4)
 have q1_7:=zo5.blk q1_6 (Blk.not_map q1_6 zm4)
 have q1_8:=cn6.blk q1_7
 have q1_9:=zo6.blk q1_8 (Blk.not_map q1_8 ch6)
 have q1_10:=cn7.blk q1_9
 have q1_11:=zo7.blk q1_10 (Blk.not_map q1_10 ch7)
 have q1_12:=cn8.blk q1_11
 have q1_13:=zo8.blk q1_12 (Blk.not_map q1_12 ch8)
 have q1_14:=cn9.blk q1_13
 have q1_15:=zo9.blk q1_14 (Blk.not_map q1_14 ch9)
 have q1_16:=cn10.blk q1_15
 have q1_17:=zo10.blk q1_16 (Blk.not_map q1_16 ch10)
 have q2_0:=zo2.blk cb2 (Blk.not_map cb2 ch2)
 have q2_1:=cn3.blk q2_0
 have q2_2:=zo3.blk q2_1 (Blk.not_map q2_1 ch3)
 have q2_3:=cn4.blk q2_2
 have q2_4:=zo4.blk q2_3 (Blk.not_map q2_3 ch4)
 have q2_5:=zo5.blk q2_4 (Blk.not_map q2_4 zm4)
 have q2_6:=cn6.blk q2_5
 have q2_7:=zo6.blk q2_6 (Blk.not_map q2_6 ch6)
 have q2_8:=cn7.blk q2_7
 have q2_9:=zo7.blk q2_8 (Blk.not_map q2_8 ch7)
 have q2_10:=cn8.blk q2_9
 have q2_11:=zo8.blk q2_10 (Blk.not_map q2_10 ch8)
 have q2_12:=cn9.blk q2_11
 have q2_13:=zo9.blk q2_12 (Blk.not_map q2_12 ch9)
 have q2_14:=cn10.blk q2_13
 have q2_15:=zo10.blk q2_14 (Blk.not_map q2_14 ch10)
 have q3_0:=zo3.blk cb3 (Blk.not_map cb3 ch3)
 have q3_1:=cn4.blk q3_0
 have q3_2:=zo4.blk q3_1 (Blk.not_map q3_1 ch4)
 have q3_3:=zo5.blk q3_2 (Blk.not_map q3_2 zm4)
 have q3_4:=cn6.blk q3_3
 have q3_5:=zo6.blk q3_4 (Blk.not_map q3_4 ch6)
 have q3_6:=cn7.blk q3_5
 have q3_7:=zo7.blk q3_6 (Blk.not_map q3_6 ch7)
 have q3_8:=cn8.blk q3_7
 have q3_9:=zo8.blk q3_8 (Blk.not_map q3_8 ch8)
 have q3_10:=cn9.blk q3_9
 have q3_11:=zo9.blk q3_10 (Blk.not_map q3_10 ch9)
 have q3_12:=cn10.blk q3_11
 have q3_13:=zo10.blk q3_12 (Blk.not_map q3_12 ch10)
 have q6_0:=zo6.blk cb6 (Blk.not_map cb6 ch6)
 have q6_1:=cn7.blk q6_0
 have q6_2:=zo7.blk q6_1 (Blk.not_map q6_1 ch7)
 have q6_3:=cn8.blk q6_2
 have q6_4:=zo8.blk q6_3 (Blk.not_map q6_3 ch8)
 have q6_5:=cn9.blk q6_4
 have q6_6:=zo9.blk q6_5 (Blk.not_map q6_5 ch9)
 have q6_7:=cn10.blk q6_6
 have q6_8:=zo10.blk q6_7 (Blk.not_map q6_7 ch10)
 have q7_0:=zo7.blk cb7 (Blk.not_map cb7 ch7)
 have q7_1:=cn8.blk q7_0
 have q7_2:=zo8.blk q7_1 (Blk.not_map q7_1 ch8)
 have q7_3:=cn9.blk q7_2
 have q7_4:=zo9.blk q7_3 (Blk.not_map q7_3 ch9)
 have q7_5:=cn10.blk q7_4
 have q7_6:=zo10.blk q7_5 (Blk.not_map q7_5 ch10)
 have q8_0:=zo8.blk cb8 (Blk.not_map cb8 ch8)
 have q8_1:=cn9.blk q8_0
 have q8_2:=zo9.blk q8_1 (Blk.not_map q8_1 ch9)
 have q8_3:=cn10.blk q8_2
 have q8_4:=zo10.blk q8_3 (Blk.not_map q8_3 ch10)
 have q10_0:=zo10.blk cb10 (Blk.not_map cb10 ch10)
 rw [World.size_alloc] at q1_17
 go_ret
 exact ⟨rfl,(New.one (Fr.trans (New.one (Fr.trans (New.one (Fr.trans (New.one (Fr.trans (New.one (Fr.trans (New.one (New.one (Fr.trans (New.one (Fr.trans (New.one (Fr.trans (New.one (Fr.trans ((New.refl w).alloc _) cn1) zo1 (Nat.le_refl _)) cn2) zo2 (Nat.le_refl _)) cn3) zo3 (Nat.le_refl _)) cn4) zo4 (Nat.le_refl _)) zo5 (Nat.le_refl _)) cn6) zo6 (Nat.le_refl _)) cn7) zo7 (Nat.le_refl _)) cn8) zo8 (Nat.le_refl _)) cn9) zo9 (Nat.le_refl _)) cn10) zo10 (Nat.le_refl _)),_,_,_,_,_,_,_,⟨q1_17,q2_15,q3_13,q6_8,q7_6,q8_4,q10_0⟩,zm10⟩
end Go.Proofs.YtliimglbbiebiaaGreatDoor
end

section
namespace Go.Proofs.YtliimglbbiebiaaGreatDoor
open Go.RowKit
def setV (a b:Int):Array Value:=#[.int .u64 a,.int .u64 b,.int .u64 0,.int .u64 0]
def specialL:List Int:=[40,41,123,37,42,34,92,93]
def atomB (x:Int):Bool:=decide (32 < x) && decide (x≤126) && !specialL.contains x
def tagB (x:Int):Bool:=x == 93 || (x != 43 && atomB x)
def textB (x:Int):Bool:=x != 0 && decide (x < 128) && x != 13 && x != 10
theorem setadd_lo (x a b m:Int) (hx:x / 64=0) (hm:IntKind.u64.wrap ((2:Int) ^ (x % 64).toNat)=m) {w:World} {g:Nat} (hg:Blk w g 216 (setV a b)) :
 Calls Tryz.prog 119 #[.pointer (some ⟨g,0,none⟩),.int .u8 x] w fun e w'=>e=.returned (.tuple #[])∧Blk w' g 216 (setV (bits .or .u64 a m) b)∧One g w w':=by
 have c0:w.cell? ⟨g,0,none⟩=some (.int .u64 a):=hg.cell 0
 have f0:w.frozen? ⟨g,0,none⟩=false:=hg.frozen 0
 go_enter Tryz.func119,Tryz.ntmps119
 go_region
 go_end0
 exact ⟨rfl,(hg.set_ 0 _).drew,((One.refl g w).set 0 _).drew⟩
theorem setadd_hi (x a b m:Int) (hx:x / 64=1) (hm:IntKind.u64.wrap ((2:Int) ^ (x % 64).toNat)=m) {w:World} {g:Nat} (hg:Blk w g 216 (setV a b)) :
 Calls Tryz.prog 119 #[.pointer (some ⟨g,0,none⟩),.int .u8 x] w fun e w'=>e=.returned (.tuple #[])∧Blk w' g 216 (setV a (bits .or .u64 b m))∧One g w w':=by
 have c1:w.cell? ⟨g,1,none⟩=some (.int .u64 b):=hg.cell 1
 have f1:w.frozen? ⟨g,1,none⟩=false:=hg.frozen 1
 go_enter Tryz.func119,Tryz.ntmps119
 go_region
 go_end0
 exact ⟨rfl,(hg.set_ 1 _).drew,((One.refl g w).set 1 _).drew⟩
def setA:Int:=1099511627776 + 2199023255552 + 137438953472 + 4398046511104 + 17179869184
def setB:Int:=576460752303423488 + 268435456 + 536870912
def hasB (x:Int):Bool:=bits .and .u64 ((if x < 64 then setA else setB) / 2 ^ (x % 64).toNat) 1 == 1
theorem hasB_nat:∀ n:Fin 128,hasB (n.val:Int)=specialL.contains (n.val:Int):=by decide +kernel
theorem hasB_eq {x:Int} (h0:0≤x) (h1:x < 128):hasB x=specialL.contains x:=by
 have h:=hasB_nat ⟨x.toNat,by omega⟩
 have e:((x.toNat:Nat):Int)=x:=by omega
 simpa only [e] using h
theorem has_any (x:Int) (h0:0≤x) (h1:x < 128) (w:World):Calls Tryz.prog 120 #[.agg (setV setA setB),.int .u8 x] w fun e w'=>e=.returned (.bool (specialL.contains x))∧New w w':=by
 rw [← hasB_eq h0 h1]
 unfold setV hasB
 by_cases h2:x < 64
 · have h:x / 64=0:=by omega
   rw [if_pos h2]
   go_enter Tryz.func120,Tryz.ntmps120
   go_wp2
   go_ret
   exact ⟨rfl,(New.refl w).alloc _⟩
 · have h:x / 64=1:=by omega
   rw [if_neg h2]
   go_enter Tryz.func120,Tryz.ntmps120
   go_wp2
   go_ret
   exact ⟨rfl,(New.refl w).alloc _⟩
theorem isAtom_any (x:Int) (h0:0≤x) (w:World):Calls Tryz.prog 85 #[.int .u8 x] w fun e w'=>e=.returned (.bool (atomB x))∧New w w':=by
 have b0:Blk (w.alloc (.cells (setV 0 0) 216)) w.heap.size 216 (setV 0 0):=Blk.new _ _ _
 have n0:New w (w.alloc (.cells (setV 0 0) 216)):=(New.refl w).alloc _
 obtain ⟨r,hr⟩:∃ r,r=atomB x:=⟨_,rfl⟩
 rw [← hr]
 unfold atomB at hr
 have HR:=Lib.hid hr
 clear hr
 go_enter Tryz.func85,Tryz.ntmps85
 go_wp2_with fail
 refine wp_loop_rounds 9 ?_
 rw [rounds_succ]
 go_wp2_with (go_at_call 119; refine (setadd_lo 40 _ _ 1099511627776 (by decide) (by decide) b0).mono ?_; rintro e w1 ⟨rfl,b1,o1⟩)
 rw [rounds_succ]
 go_wp2_with (go_at_call 119; refine (setadd_lo 41 _ _ 2199023255552 (by decide) (by decide) b1).mono ?_; rintro e w2 ⟨rfl,b2,o2⟩)
 rw [rounds_succ]
 go_wp2_with (go_at_call 119; refine (setadd_hi 123 _ _ 576460752303423488 (by decide) (by decide) b2).mono ?_; rintro e w3 ⟨rfl,b3,o3⟩)
 rw [rounds_succ]
 go_wp2_with (go_at_call 119; refine (setadd_lo 37 _ _ 137438953472 (by decide) (by decide) b3).mono ?_; rintro e w4 ⟨rfl,b4,o4⟩)
 rw [rounds_succ]
 go_wp2_with (go_at_call 119; refine (setadd_lo 42 _ _ 4398046511104 (by decide) (by decide) b4).mono ?_; rintro e w5 ⟨rfl,b5,o5⟩)
 rw [rounds_succ]
 go_wp2_with (go_at_call 119; refine (setadd_lo 34 _ _ 17179869184 (by decide) (by decide) b5).mono ?_; rintro e w6 ⟨rfl,b6,o6⟩)
 rw [rounds_succ]
 go_wp2_with (go_at_call 119; refine (setadd_hi 92 _ _ 268435456 (by decide) (by decide) b6).mono ?_; rintro e w7 ⟨rfl,b7,o7⟩)
 rw [rounds_succ]
 go_wp2_with (go_at_call 119; refine (setadd_hi 93 _ _ 536870912 (by decide) (by decide) b7).mono ?_; rintro e w8 ⟨rfl,b8,o8⟩)
 rw [rounds_succ]
 have n8:New w w8:=((((((((n0.one o1 (Nat.le_refl _)).one o2 (Nat.le_refl _)).one o3 (Nat.le_refl _)).one o4 (Nat.le_refl _)).one o5 (Nat.le_refl _)).one o6 (Nat.le_refl _)).one o7 (Nat.le_refl _)).one o8 (Nat.le_refl _))
 have b9:Blk w8 w.heap.size 216 (setV setA setB):=b8
 clear b8 b7 b6 b5 b4 b3 b2 b1 b0 n0 o1 o2 o3 o4 o5 o6 o7 o8
 have q0:w8.cell? ⟨w.heap.size,0,none⟩=some (.int .u64 setA):=b9.cell 0
 have q1:w8.cell? ⟨w.heap.size,1,none⟩=some (.int .u64 setB):=b9.cell 1
 have q2:w8.cell? ⟨w.heap.size,2,none⟩=some (.int .u64 0):=b9.cell 2
 have q3:w8.cell? ⟨w.heap.size,3,none⟩=some (.int .u64 0):=b9.cell 3
 by_cases h1:32 < x
 · by_cases h2:x≤126
   · have hr:=HR.out
     rw [decide_eq_true h1,decide_eq_true h2,Bool.true_and,Bool.true_and] at hr
     subst hr
     go_wp2_with (go_at_call 120; refine (has_any x h0 (by omega) w8).mono ?_; rintro e w9 ⟨rfl,n9⟩)
     go_ret
     exact ⟨by simp,n8.trans n9⟩
   · have hr:=HR.out
     rw [decide_eq_false h2,Bool.and_false,Bool.false_and] at hr
     subst hr
     go_wp2
     go_ret
     exact ⟨rfl,n8⟩
 · have hr:=HR.out
   rw [decide_eq_false h1,Bool.false_and,Bool.false_and] at hr
   subst hr
   go_wp2
   go_ret
   exact ⟨rfl,n8⟩
theorem tag_any (x:Int) (h0:0≤x) (w:World):Calls Tryz.prog 62 #[.int .u8 x] w fun e w'=>e=.returned (.bool (tagB x))∧New w w':=by
 unfold tagB
 by_cases h1:x=93
 · subst h1
   go_enter Tryz.func62,Tryz.ntmps62
   go_wp2
   go_ret
   exact ⟨rfl,New.refl _⟩
 · have e1:(x == 93)=false:=by simp [h1]
   rw [e1,Bool.false_or]
   by_cases h2:x=43
   · subst h2
     go_enter Tryz.func62,Tryz.ntmps62
     go_wp2
     go_ret
     exact ⟨rfl,New.refl _⟩
   · have e2:(x != 43)=true:=by simp [h2]
     rw [e2,Bool.true_and]
     go_enter Tryz.func62,Tryz.ntmps62
     go_wp2_with (go_at_call 85; refine (isAtom_any x h0 _).mono ?_; rintro e w1 ⟨rfl,n1⟩)
     go_ret
     exact ⟨rfl,n1⟩
theorem text_any (x:Int) (w:World):Calls Tryz.prog 410 #[.int .u8 x] w fun e w'=>e=.returned (.bool (textB x))∧New w w':=by
 unfold textB
 by_cases h1:x=0
 · subst h1
   go_enter Tryz.func410,Tryz.ntmps410
   go_wp2
   go_ret
   exact ⟨rfl,New.refl _⟩
 · have e1:(x != 0)=true:=by simp [h1]
   by_cases h2:x < 128
   · by_cases h3:x=13
     · subst h3
       go_enter Tryz.func410,Tryz.ntmps410
       go_wp2
       go_ret
       exact ⟨rfl,New.refl _⟩
     · have e3:(x != 13)=true:=by simp [h3]
       rw [e1,e3,decide_eq_true h2,Bool.true_and,Bool.true_and,Bool.true_and]
       go_enter Tryz.func410,Tryz.ntmps410
       go_wp2
       go_ret
       exact ⟨rfl,New.refl _⟩
   · rw [e1,decide_eq_false h2,Bool.true_and,Bool.false_and,Bool.false_and]
     go_enter Tryz.func410,Tryz.ntmps410
     go_wp2
     go_ret
     exact ⟨rfl,New.refl _⟩
end Go.Proofs.YtliimglbbiebiaaGreatDoor
end

section
namespace Go.Proofs.YtliimglbbiebiaaGreatDoor
open Go.RowKit
def bytesOf (s:ByteArray):List Int:=s.data.toList.map fun b=>(b.toNat:Int)
theorem bytesOf_len (s:ByteArray):(bytesOf s).length=s.size:=by
 unfold bytesOf
 rw [List.length_map]
 rfl
theorem bytesOf_at (s:ByteArray) (k:Nat) (h:k < s.size):(bytesOf s)[k]? = some ((s[k].toNat:Nat):Int):=by
 unfold bytesOf
 rw [List.getElem?_map,List.getElem?_eq_getElem (show k < s.data.toList.length from h)]
 rfl
def BPred (w:World) (f:Nat) (p:Int→Bool):Prop:=∀ (W:World) (x:Int),0≤x→x < 256→New w W→Calls Tryz.prog f #[.int .u8 x] W fun e w'=>e=.returned (.bool (p x))∧New W w'
theorem all_any (f:Nat) (p:Int→Bool) (hE:∀ args w,(callFunc f args).run Tryz.prog w=.ok (.enter f args) w) (s:ByteArray) (hs:s.size≤1000000) (w:World) (hp:BPred w f p) :
 Calls Tryz.prog 84 #[.agg #[.func (.func f) #[] #[]],.string s] w fun e w'=>e=.returned (.bool ((bytesOf s).all p))∧New w w':=by
 obtain ⟨r,hr⟩:∃ r,r=(bytesOf s).all p:=⟨_,rfl⟩
 rw [← hr]
 have HR:=Lib.hid hr
 clear hr
 go_enter Tryz.func84,Tryz.ntmps84
 go_wp2_with fail
 go_loopw [8] (fun vi wr=>∃ k:Nat,k≤s.size∧vi=.int .i64 k∧((bytesOf s).take k).all p=true∧New w wr∧Blk wr w.heap.size 185 #[.func (.func f) #[] #[]]) (fun vi _=>s.size - (intOf vi).toNat)
 case atStart=>exact ⟨0,Nat.zero_le _,rfl,rfl,(New.refl w).alloc _,Blk.new _ _ _⟩
 case round =>
  obtain ⟨k,hk,rfl,hall,hnew,hb⟩:=hrel
  by_cases hks:k < s.size
  · have c0:wr.cell? ⟨w.heap.size,0,none⟩=some (.func (.func f) #[] #[]):=hb.cell 0
    have hcall:=fun n=>hp (wr.drewN n) ((s[k].toNat:Nat):Int) (by omega) (by have:=s[k].toNat_lt; omega) (hnew.drewN n)
    have HB:=Lib.hid hb
    have HALL:=Lib.hid hall
    have HAT:=Lib.hid (take_snoc (bytesOf_at s k hks))
    have HM:=Lib.hid (List.mem_of_getElem? (bytesOf_at s k hks))
    have HCALL:=Lib.hid hcall
    clear hb hall hcall
    have hr:p ((s[k].toNat:Nat):Int)=false→r=false:=by
     intro h
     rw [HR.out,List.all_eq_false]
     exact ⟨_,HM.out,by rw [h]; simp⟩
    have HR2:=Lib.hid hr
    clear hr
    cases hpx:p ((s[k].toNat:Nat):Int)
    all_goals
     rw [hpx] at HCALL
     go_wp2_with fail
     go_region_held3 (fun w'=>w'.cell? ⟨w.heap.size,0,none⟩=some (.func (.func f) #[] #[])) (first | go_keep | assumption)
      ((first
        | (refine (HCALL.out _).mono ?_
           rintro e w1 ⟨rfl,hn1⟩
           have hn2:New wr w1:=((New.refl wr).drewN _).trans hn1
           have c1:w1.cell? ⟨w.heap.size,0,none⟩=some (.func (.func f) #[] #[]):=Fr.cell hn2 c0 id)
        | fail))
    · have hr:=HR2.out hpx
      subst hr
      go_wp2
      go_ret
      exact ⟨rfl,hnew.trans hn2⟩
    · go_wp2
      go_roundw
      case rel =>
       refine ⟨k + 1,by omega,by go_num,?_,hnew.trans hn2,hn2.blk HB.out⟩
       rw [HAT.out,List.all_append,HALL.out]
       simp [hpx]
      case measure=>simp [intOf]; omega
  · have hr:r=true:=by
     rw [HR.out,← hall,List.take_of_length_le (by rw [bytesOf_len]; omega)]
    subst hr
    go_wp2
    go_ret
    exact ⟨rfl,hnew⟩
theorem bytesOf_emp (s:ByteArray):s.toList.isEmpty=(bytesOf s).isEmpty:=by
 rw [ByteArray.toList_eq]
 unfold bytesOf
 rw [List.isEmpty_map]
def allB (s:ByteArray) (p:Int→Bool):Bool:=!(bytesOf s).isEmpty && (bytesOf s).all p
theorem All_any (f:Nat) (p:Int→Bool) (hE:∀ args w,(callFunc f args).run Tryz.prog w=.ok (.enter f args) w) (s:ByteArray) (hs:s.size≤1000000) (w:World) (hp:BPred w f p) :
 Calls Tryz.prog 61 #[.string s,.func (.func f) #[] #[]] w fun e w'=>e=.returned (.bool (allB s p))∧New w w':=by
 unfold allB
 rw [← bytesOf_emp]
 by_cases h:s.toList=[]
 · have h2:s.toList.isEmpty=true:=by rw [h]; rfl
   rw [h2]
   go_enter Tryz.func61,Tryz.ntmps61
   go_wp2
   go_ret
   exact ⟨rfl,New.refl _⟩
 · have h2:s.toList.isEmpty=false:=by simpa using h
   rw [h2]
   go_enter Tryz.func61,Tryz.ntmps61
   go_wp2_with (go_at_call 84; refine (all_any f p hE s hs _ hp).mono ?_; rintro e w1 ⟨rfl,n1⟩)
   go_ret
   exact ⟨by simp,n1⟩
def tagS (s:ByteArray):Bool:=allB s tagB
def textS (s:ByteArray):Bool:=allB s textB
theorem All_tag (s:ByteArray) (hs:s.size≤1000000) (w:World):Calls Tryz.prog 61 #[.string s,.func (.func 62) #[] #[]] w fun e w'=>e=.returned (.bool (tagS s))∧New w w' :=
 All_any _ tagB (enters _ _ _ Tryz.func62 (by kernel_rfl) rfl) s hs w fun W x h0 _ _=>tag_any x h0 W
theorem All_text (s:ByteArray) (hs:s.size≤1000000) (w:World):Calls Tryz.prog 61 #[.string s,.func (.func 410) #[] #[]] w fun e w'=>e=.returned (.bool (textS s))∧New w w' :=
 All_any _ textB (enters _ _ _ Tryz.func410 (by kernel_rfl) rfl) s hs w fun W x h0 _ _=>text_any x W
end Go.Proofs.YtliimglbbiebiaaGreatDoor
end

section
namespace Go.Proofs.YtliimglbbiebiaaGreatDoor
open Go.RowKit
theorem Blk.over2 {w:World} {g:Nat} {t:TypeId} {a0 a1:Value} (h:Blk w g t #[a0,a1]) (b0 b1:Value):Blk ((w.setCell ⟨g,0,none⟩ b0).setCell ⟨g,1,none⟩ b1) g t #[b0,b1]:=by
 have q:=((h.set_ 0 b0).set_ 1 b1)
 simpa using q
theorem One.over2 (w:World) (g:Nat) (b0 b1:Value):One g w ((w.setCell ⟨g,0,none⟩ b0).setCell ⟨g,1,none⟩ b1):=(((One.refl g w).set 0 b0).set 1 b1)
theorem Blk.all2 {w:World} {g:Nat} {t:TypeId} {a0 a1:Value} (h:Blk w g t #[a0,a1]):w.cell? ⟨g,0,none⟩=some a0∧w.cell? ⟨g,1,none⟩=some a1 :=
 ⟨h.cell 0,h.cell 1⟩
theorem Blk.all4 {w:World} {g:Nat} {t:TypeId} {a0 a1 a2 a3:Value} (h:Blk w g t #[a0,a1,a2,a3]):w.cell? ⟨g,0,none⟩=some a0∧w.cell? ⟨g,1,none⟩=some a1∧w.cell? ⟨g,2,none⟩=some a2∧w.cell? ⟨g,3,none⟩=some a3 :=
 ⟨h.cell 0,h.cell 1,h.cell 2,h.cell 3⟩
theorem Blk.over9 {w:World} {g:Nat} {t:TypeId} {a0 a1 a2 a3 a4 a5 a6 a7 a8:Value} (h:Blk w g t #[a0,a1,a2,a3,a4,a5,a6,a7,a8]) (b0 b1 b2 b3 b4 b5 b6 b7 b8:Value):Blk (((((((((w.setCell ⟨g,0,none⟩ b0).setCell ⟨g,1,none⟩ b1).setCell ⟨g,2,none⟩ b2).setCell ⟨g,3,none⟩ b3).setCell ⟨g,4,none⟩ b4).setCell ⟨g,5,none⟩ b5).setCell ⟨g,6,none⟩ b6).setCell ⟨g,7,none⟩ b7).setCell ⟨g,8,none⟩ b8) g t #[b0,b1,b2,b3,b4,b5,b6,b7,b8]:=by
 have q:=(((((((((h.set_ 0 b0).set_ 1 b1).set_ 2 b2).set_ 3 b3).set_ 4 b4).set_ 5 b5).set_ 6 b6).set_ 7 b7).set_ 8 b8)
 simpa using q
theorem One.over9 (w:World) (g:Nat) (b0 b1 b2 b3 b4 b5 b6 b7 b8:Value):One g w (((((((((w.setCell ⟨g,0,none⟩ b0).setCell ⟨g,1,none⟩ b1).setCell ⟨g,2,none⟩ b2).setCell ⟨g,3,none⟩ b3).setCell ⟨g,4,none⟩ b4).setCell ⟨g,5,none⟩ b5).setCell ⟨g,6,none⟩ b6).setCell ⟨g,7,none⟩ b7).setCell ⟨g,8,none⟩ b8):=((((((((((One.refl g w).set 0 b0).set 1 b1).set 2 b2).set 3 b3).set 4 b4).set 5 b5).set 6 b6).set 7 b7).set 8 b8)
theorem Blk.all9 {w:World} {g:Nat} {t:TypeId} {a0 a1 a2 a3 a4 a5 a6 a7 a8:Value} (h:Blk w g t #[a0,a1,a2,a3,a4,a5,a6,a7,a8]):w.cell? ⟨g,0,none⟩=some a0∧w.cell? ⟨g,1,none⟩=some a1∧w.cell? ⟨g,2,none⟩=some a2∧w.cell? ⟨g,3,none⟩=some a3∧w.cell? ⟨g,4,none⟩=some a4∧w.cell? ⟨g,5,none⟩=some a5∧w.cell? ⟨g,6,none⟩=some a6∧w.cell? ⟨g,7,none⟩=some a7∧w.cell? ⟨g,8,none⟩=some a8 :=
 ⟨h.cell 0,h.cell 1,h.cell 2,h.cell 3,h.cell 4,h.cell 5,h.cell 6,h.cell 7,h.cell 8⟩
theorem Blk.over10 {w:World} {g:Nat} {t:TypeId} {a0 a1 a2 a3 a4 a5 a6 a7 a8 a9:Value} (h:Blk w g t #[a0,a1,a2,a3,a4,a5,a6,a7,a8,a9]) (b0 b1 b2 b3 b4 b5 b6 b7 b8 b9:Value):Blk ((((((((((w.setCell ⟨g,0,none⟩ b0).setCell ⟨g,1,none⟩ b1).setCell ⟨g,2,none⟩ b2).setCell ⟨g,3,none⟩ b3).setCell ⟨g,4,none⟩ b4).setCell ⟨g,5,none⟩ b5).setCell ⟨g,6,none⟩ b6).setCell ⟨g,7,none⟩ b7).setCell ⟨g,8,none⟩ b8).setCell ⟨g,9,none⟩ b9) g t #[b0,b1,b2,b3,b4,b5,b6,b7,b8,b9]:=by
 have q:=((((((((((h.set_ 0 b0).set_ 1 b1).set_ 2 b2).set_ 3 b3).set_ 4 b4).set_ 5 b5).set_ 6 b6).set_ 7 b7).set_ 8 b8).set_ 9 b9)
 simpa using q
theorem One.over10 (w:World) (g:Nat) (b0 b1 b2 b3 b4 b5 b6 b7 b8 b9:Value):One g w ((((((((((w.setCell ⟨g,0,none⟩ b0).setCell ⟨g,1,none⟩ b1).setCell ⟨g,2,none⟩ b2).setCell ⟨g,3,none⟩ b3).setCell ⟨g,4,none⟩ b4).setCell ⟨g,5,none⟩ b5).setCell ⟨g,6,none⟩ b6).setCell ⟨g,7,none⟩ b7).setCell ⟨g,8,none⟩ b8).setCell ⟨g,9,none⟩ b9):=(((((((((((One.refl g w).set 0 b0).set 1 b1).set 2 b2).set 3 b3).set 4 b4).set 5 b5).set 6 b6).set 7 b7).set 8 b8).set 9 b9)
theorem Blk.all10 {w:World} {g:Nat} {t:TypeId} {a0 a1 a2 a3 a4 a5 a6 a7 a8 a9:Value} (h:Blk w g t #[a0,a1,a2,a3,a4,a5,a6,a7,a8,a9]):w.cell? ⟨g,0,none⟩=some a0∧w.cell? ⟨g,1,none⟩=some a1∧w.cell? ⟨g,2,none⟩=some a2∧w.cell? ⟨g,3,none⟩=some a3∧w.cell? ⟨g,4,none⟩=some a4∧w.cell? ⟨g,5,none⟩=some a5∧w.cell? ⟨g,6,none⟩=some a6∧w.cell? ⟨g,7,none⟩=some a7∧w.cell? ⟨g,8,none⟩=some a8∧w.cell? ⟨g,9,none⟩=some a9 :=
 ⟨h.cell 0,h.cell 1,h.cell 2,h.cell 3,h.cell 4,h.cell 5,h.cell 6,h.cell 7,h.cell 8,h.cell 9⟩
theorem Blk.all19 {w:World} {g:Nat} {t:TypeId} {a0 a1 a2 a3 a4 a5 a6 a7 a8 a9 a10 a11 a12 a13 a14 a15 a16 a17 a18:Value} (h:Blk w g t #[a0,a1,a2,a3,a4,a5,a6,a7,a8,a9,a10,a11,a12,a13,a14,a15,a16,a17,a18]):w.cell? ⟨g,0,none⟩=some a0∧w.cell? ⟨g,1,none⟩=some a1∧w.cell? ⟨g,2,none⟩=some a2∧w.cell? ⟨g,3,none⟩=some a3∧w.cell? ⟨g,4,none⟩=some a4∧w.cell? ⟨g,5,none⟩=some a5∧w.cell? ⟨g,6,none⟩=some a6∧w.cell? ⟨g,7,none⟩=some a7∧w.cell? ⟨g,8,none⟩=some a8∧w.cell? ⟨g,9,none⟩=some a9∧w.cell? ⟨g,10,none⟩=some a10∧w.cell? ⟨g,11,none⟩=some a11∧w.cell? ⟨g,12,none⟩=some a12∧w.cell? ⟨g,13,none⟩=some a13∧w.cell? ⟨g,14,none⟩=some a14∧w.cell? ⟨g,15,none⟩=some a15∧w.cell? ⟨g,16,none⟩=some a16∧w.cell? ⟨g,17,none⟩=some a17∧w.cell? ⟨g,18,none⟩=some a18 :=
 ⟨h.cell 0,h.cell 1,h.cell 2,h.cell 3,h.cell 4,h.cell 5,h.cell 6,h.cell 7,h.cell 8,h.cell 9,h.cell 10,h.cell 11,h.cell 12,h.cell 13,h.cell 14,h.cell 15,h.cell 16,h.cell 17,h.cell 18⟩
theorem Blk.froz {w:World} {g:Nat} {t:TypeId} {cs:Array Value} (h:Blk w g t cs):∀ i,w.frozen? ⟨g,i,none⟩=false:=h.frozen
end Go.Proofs.YtliimglbbiebiaaGreatDoor
end

section
namespace Go.Proofs.YtliimglbbiebiaaGreatDoor
open Go.RowKit Go.Maps
theorem results_cellt {P:Program} {fn:Func} {p q:Tmp} {t:TypeId} (h:fn.results=#[.cell p t,.tmp q]) (tmps:Array Value) (w:World) {a:Addr} {v v':Value}
 (hp:tmps[p]? = some (.pointer (some a))) (hq:tmps[q]? = some v') (hv:(loadVar t a).run P w=.ok v w):(results fn tmps).run P w=.ok (.tuple #[v,v']) w:=by
 simp [results,h,hp,hq,asAddr,hv]
theorem loadFr {w:World} {g:Nat} {a b:Value} (h:Blk w g 174 #[a,b]):(loadVar 174 ⟨g,0,none⟩).run Tryz.prog w=.ok (.agg #[a,b]) w :=
 run_loadVar_row w g _ _ _ _ _ h Tryz.underlying174 rfl (by kernel_rfl)
theorem fnew_any (w:World):Calls Tryz.prog 52 #[] w fun e w'=>e=.returned (.pointer (some ⟨w.heap.size,0,none⟩))∧w'=w.alloc (.cells #[.slice none 0 0,.int .i64 0,.int .i64 0,.int .i64 0] 176):=by
 go_enter Tryz.func52,Tryz.ntmps52
 go_wp2
 go_ret
 exact ⟨rfl,rfl⟩
theorem feed_nil (p:Nat) (u:Value) (l:List Int) (w:World) (h:Blk w p 176 #[.slice none 0 0,.int .i64 0,.int .i64 0,.int .i64 0]) (hu:Rd (intE .u8) w u l) (hl:l.length≤100000) :
 Calls Tryz.prog 53 #[.pointer (some ⟨p,0,none⟩),u] w fun e w'=>e=.returned (.tuple #[])∧One p w w'∧∃ v,Blk w' p 176 #[v,.int .i64 0,.int .i64 0,.int .i64 0]∧Own (intE .u8) 5 w.heap.size w' v l:=by
 obtain ⟨i0,hi,hz0,hz1,hz2⟩:=info_parts u8_info
 have h0:=Own.nil (intE .u8) 5 w.heap.size w
 have c0:w.cell? ⟨p,0,none⟩=some (.slice none 0 0):=h.cell 0
 have f0:w.frozen? ⟨p,0,none⟩=false:=h.frozen 0
 have hlt:=h.lt
 go_enter Tryz.func53,Tryz.ntmps53
 go_wp2_with (at_builtin; refine wpList_append (E:=intE .u8) rfl _ _ _ rfl Tryz.underlying23 hi hz0 hz1 hz2 rfl h0 rfl hu rfl (by unfold maxLen; simp; omega) (by simp; omega) (by omega) ?_; intro v1 w1 hv1 hf1 hl1; have hn1:New w w1:=New.append (New.refl w) h0 hf1; have hb1:=hn1.blk h; have c1:w1.cell? ⟨p,0,none⟩=some (.slice none 0 0):=hb1.cell 0; have g1:w1.frozen? ⟨p,0,none⟩=false:=hb1.frozen 0; obtain ⟨A2,N2,C2,hv2e⟩:=own_shape hv1; subst hv2e)
 rw [List.nil_append] at hv1
 go_end0
 refine ⟨rfl,((New.to hn1).trans ((One.refl p w1).set 0 _)),_,hb1.set_ 0 _,hv1.fr ((One.refl p w1).set 0 _) fun g hg e=>?_⟩
 subst e
 exact hv1.blk_ne hb1 (by decide) hg
theorem left_any (p:Nat) (A:Option Addr) (n c:Nat) (x y z:Value) (w:World) (h:Blk w p 176 #[.slice A n c,x,y,z]):Calls Tryz.prog 77 #[.pointer (some ⟨p,0,none⟩)] w fun e w'=>e=.returned (.int .i64 n)∧w'=w:=by
 have c0:w.cell? ⟨p,0,none⟩=some (.slice A n c):=h.cell 0
 go_enter Tryz.func77,Tryz.ntmps77
 go_wp2
 go_ret
 exact ⟨rfl,rfl⟩
theorem literal_zero (p:Nat) (A:Option Addr) (n c:Nat) (hn:n≤100000) (w:World) (h:Blk w p 176 #[.slice A n c,.int .i64 0,.int .i64 0,.int .i64 0]) :
 Calls Tryz.prog 147 #[.pointer (some ⟨p,0,none⟩)] w fun e w'=>e=.returned (.bool true)∧One p w w'∧w'.heap.size=w.heap.size∧Blk w' p 176 #[.slice A n c,.int .i64 0,.int .i64 0,.int .i64 0]:=by
 have c0:w.cell? ⟨p,0,none⟩=some (.slice A n c):=h.cell 0
 have c1:w.cell? ⟨p,1,none⟩=some (.int .i64 0):=h.cell 1
 have c2:w.cell? ⟨p,2,none⟩=some (.int .i64 0):=h.cell 2
 have c3:w.cell? ⟨p,3,none⟩=some (.int .i64 0):=h.cell 3
 have f1:w.frozen? ⟨p,1,none⟩=false:=h.frozen 1
 have f2:w.frozen? ⟨p,2,none⟩=false:=h.frozen 2
 have f3:w.frozen? ⟨p,3,none⟩=false:=h.frozen 3
 have hlt:=h.lt
 have hw1:IntKind.i64.wrap ((n:Int) - 0)=n:=by rw [IntWalk.i64_in _ (by omega)]; omega
 have hw0:¬ (n:Int) < 0:=by omega
 go_enter Tryz.func147,Tryz.ntmps147
 go_wp2_with (first | go_region | fail)
 go_ret
 exact ⟨rfl,((((One.refl p w).set 1 _).set 2 _).set 3 _).drew.drew,by simp [World.setCell,World.drew],((h.set_ 1 _).set_ 2 _).set_ 3 _⟩
def Emp (v:Value):Prop:=∃ A c,v=.slice A 0 c
theorem Emp.rd {v:Value} (h:Emp v) (w:World):Rd (intE .u8) w v []:=by
 obtain ⟨A,c,rfl⟩:=h
 exact ⟨A,c,rfl,Nat.zero_le _,fun h=>absurd rfl h⟩
theorem finish_all (p:Nat) (k:Int) (u:Value) (l:List Int) (b off n c:Nat) (_hn:n≤100000) (hnc:n≤c) (x y z:Value) (w:World) (h:Blk w p 176 #[.slice (some ⟨b,off,none⟩) n c,x,y,z]) (hu:Rd (intE .u8) w u l) (hl:l.length≤100000) (_hup:u.ownBlock≠some p) :
 Calls Tryz.prog 150 #[.pointer (some ⟨p,0,none⟩),.int .i64 k,u,.int .i64 n] w fun e w'=>∃ d v,e=.returned (.tuple #[.agg #[.int .i64 k,d],.bool true])∧One p w w'∧Own (intE .u8) 5 w.heap.size w' d l ∧
  Emp v∧Blk w' p 176 #[v,.int .i64 0,.int .i64 0,.int .i64 0]:=by
 have hlt:=h.lt
 have n0:=(New.refl w).alloc (.cells #[.int .i64 0,.slice none 0 0] 174)
 go_enter Tryz.func150,Tryz.ntmps150
 go_wp2_with fail
 refine (bclone_any u l _ (hu.new n0) hl).mono ?_
 rintro e w1 ⟨d,rfl,hd,m1⟩
 have n1:=n0.trans m1
 have h1:=New.blk n1 h
 have c0:w1.cell? ⟨p,0,none⟩=some ((.slice (some ⟨b,off,none⟩) n c)):=h1.cell 0
 have r0:Blk w1 w.heap.size 174 #[.int .i64 0,.slice none 0 0]:=m1.blk (Blk.new _ _ _)
 have s1:=n1.size
 obtain ⟨A1,C1,rfl,hC1⟩:=hd.form
 have l1:=h1.lt
 have hB:Blk (w1.alloc (.cells #[.int .i64 k,.slice A1 l.length C1] 174)) p 176 #[.slice (some ⟨b,off,none⟩) n c,x,y,z]:=h1.alloc _
 have rB:Blk (w1.alloc (.cells #[.int .i64 k,.slice A1 l.length C1] 174)) w.heap.size 174 #[.int .i64 0,.slice none 0 0]:=r0.alloc _
 have gB:Blk (w1.alloc (.cells #[.int .i64 k,.slice A1 l.length C1] 174)) w1.heap.size 174 #[.int .i64 k,.slice A1 l.length C1]:=Blk.new _ _ _
 have nB:New w (w1.alloc (.cells #[.int .i64 k,.slice A1 l.length C1] 174)):=n1.alloc _
 have dB:=hd.alloc (.cells #[.int .i64 k,.slice A1 l.length C1] 174)
 have sB:(w1.alloc (.cells #[.int .i64 k,.slice A1 l.length C1] 174)).heap.size=w1.heap.size + 1:=by rw [World.size_alloc]
 have HN:=Lib.hid hnc
 clear hnc
 obtain ⟨A2,hsl⟩:∃ A2,∀ W,(Instr.sliceAt 23 (.slice (some ⟨b,off,none⟩) n c) (some (.int .i64 (n:Int))) none none).run Tryz.prog W=.ok (.slice A2 0 (c - n)) W:=by
  rcases Nat.eq_or_lt_of_le HN.out with h | h
  · subst h
    exact ⟨some ⟨b,off,none⟩,fun W=>by
     rw [run_sliceAt_slice (P:=Tryz.prog) W _ _ _ _ _ Tryz.underlying23]
     go_simp⟩
  · exact ⟨some ⟨b,off + n,none⟩,fun W=>by
     rw [run_sliceAt_slice (P:=Tryz.prog) W _ _ _ _ _ Tryz.underlying23]
     go_simp
     omega⟩
 go_wp2_with fail
 refine (bclone_any _ [] _ (Emp.rd ⟨_,_,rfl⟩ _) (by simp)).mono ?_
 rintro e w2 ⟨v,rfl,hv,m2⟩
 obtain ⟨A3,C3,rfl,hC3⟩:=hv.form
 have n2:=nB.trans m2
 have h2:=m2.blk hB
 have r2:=m2.blk rB
 have g2:=m2.blk gB
 have d2:=dB.new m2
 have s2:=m2.size
 have c20:w2.cell? ⟨p,0,none⟩=some (.slice (some ⟨b,off,none⟩) n c):=h2.cell 0
 have c21:w2.cell? ⟨p,1,none⟩=some x:=h2.cell 1
 have c22:w2.cell? ⟨p,2,none⟩=some y:=h2.cell 2
 have c23:w2.cell? ⟨p,3,none⟩=some z:=h2.cell 3
 have f20:w2.frozen? ⟨p,0,none⟩=false:=h2.frozen 0
 have f21:w2.frozen? ⟨p,1,none⟩=false:=h2.frozen 1
 have f22:w2.frozen? ⟨p,2,none⟩=false:=h2.frozen 2
 have f23:w2.frozen? ⟨p,3,none⟩=false:=h2.frozen 3
 have g20:w2.cell? ⟨w1.heap.size,0,none⟩=some (.int .i64 k):=g2.cell 0
 have g21:w2.cell? ⟨w1.heap.size,1,none⟩=some (.slice A1 l.length C1):=g2.cell 1
 have r20:w2.cell? ⟨w.heap.size,0,none⟩=some (.int .i64 0):=r2.cell 0
 have r21:w2.cell? ⟨w.heap.size,1,none⟩=some (.slice none 0 0):=r2.cell 1
 have z20:w2.frozen? ⟨w.heap.size,0,none⟩=false:=r2.frozen 0
 have z21:w2.frozen? ⟨w.heap.size,1,none⟩=false:=r2.frozen 1
 go_wp2_with fail
 have hne:p≠w.heap.size:=by omega
 have hR:=(((((r2.far (p:=⟨p,0,none⟩) (Ne.symm hne) (.slice A3 0 C3)).far (p:=⟨p,1,none⟩) (Ne.symm hne) (.int .i64 0)).far (p:=⟨p,2,none⟩) (Ne.symm hne) (.int .i64 0)).far (p:=⟨p,3,none⟩) (Ne.symm hne) (.int .i64 0)).set_ 0 (.int .i64 k)).set_ 1 (.slice A1 l.length C1)
 have hP:=(((((h2.set_ 0 (.slice A3 0 C3)).set_ 1 (.int .i64 0)).set_ 2 (.int .i64 0)).set_ 3 (.int .i64 0)).far (p:=⟨w.heap.size,0,none⟩) hne (.int .i64 k)).far (p:=⟨w.heap.size,1,none⟩) hne (.slice A1 l.length C1)
 have hF:=((((((One.refl p w2).set 0 (.slice A3 0 C3)).set 1 (.int .i64 0)).set 2 (.int .i64 0)).set 3 (.int .i64 0)))
 have hO:One p w _:=Fr.setCell (Fr.setCell ((New.to n2).trans hF) (p:=⟨w.heap.size,0,none⟩) (fun h=>absurd h (Nat.lt_irrefl _)) (.int .i64 k)) (p:=⟨w.heap.size,1,none⟩) (fun h=>absurd h (Nat.lt_irrefl _)) (.slice A1 l.length C1)
 refine bodyPost_ret (results_cellt rfl _ _ rfl rfl (loadFr hR)) rfl ⟨_,_,rfl,hO,?_,⟨_,_,rfl⟩,hP⟩
 have hQ:Fr (fun k=>k=p∨k=w.heap.size) w2 _:=Fr.setCell (Fr.setCell (fr_or hF fun _ h=>.inl h) (p:=⟨w.heap.size,0,none⟩) (fun _=>.inr rfl) (.int .i64 k)) (p:=⟨w.heap.size,1,none⟩) (fun _=>.inr rfl) (.slice A1 l.length C1)
 refine (d2.mono (b':=w.heap.size) (by rw [World.size_alloc]; omega)).fr hQ fun g hg hh=>?_
 have:=(d2.block hg).1
 rw [World.size_alloc] at this
 omega
end Go.Proofs.YtliimglbbiebiaaGreatDoor
end

