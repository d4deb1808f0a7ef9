/- A part of the proof: Task1, Task2, LockP, IntSl, Lock, Lock2, LockShelf, LockHeld, LockAcq, LockRel. -/
import Derived.Test.YtliimglbbiebiaaGreatDoorGTopPairsAZ
import Derived.Test.YtliimglbbiebiaaGreatDoorGTopPairsAL
import Derived.Test.YtliimglbbiebiaaGreatDoorGTopPairsAA
import Derived.Test.YtliimglbbiebiaaGreatDoorRows
import Derived.WalkKit
import Derived.WalkSpells
import Derived.WalkLawsBesides
import Derived.Deep.QuietTactic
import Derived.BigQuiet
import Derived.Lib.Hide
import Derived.Test.YtliimglbbiebiaaGreatDoorGTopPairsAB
import Derived.Laws.LoneSync
import Derived.Shelf.SlGeneric
import Derived.Shelf.SlIterI.Nil
import Derived.Shelf.SortM.Plain
import Derived.Shelf.SortM.SortNone
import Derived.Test.YtliimglbbiebiaaGreatDoorProg
set_option maxRecDepth 100000
set_option maxHeartbeats 6400000
section
namespace Go.Proofs.YtliimglbbiebiaaGreatDoor
open Go.RowKit
abbrev Tsk (w:World) (t:Nat) (bz:Bool) (c:Cmd) (ms:ByteArray) (nd:Value) (x sp lk:Nat) (a b:Int) (ah out:Value):Prop :=
 Blk w t 131 #[.bool bz,.string c.t,.int .i64 c.k,.string c.m,.slice c.sA c.sn c.sc,.int .i64 c.it,.int .i64 c.mo,.bool c.si,.int .u8 c.fl,.slice c.dA c.dn c.dc,.string ms,nd,.pointer (some ⟨x,0,none⟩),.pointer (some ⟨sp,0,none⟩),.pointer (some ⟨lk,0,none⟩),.int .i64 a,.int .i64 b,ah,out]
def cmdZ:Cmd:=⟨⟨#[]⟩,0,⟨#[]⟩,none,0,0,0,0,false,0,none,0,0⟩
abbrev Spl (w:World) (sp:Nat) (v:Value):Prop:=Blk w sp 176 #[v,.int .i64 0,.int .i64 0,.int .i64 0]
section
variable {w:World} {t:Nat} {bz:Bool} {c:Cmd} {ms:ByteArray} {nd:Value} {x sp lk:Nat} {a b:Int} {ah out:Value}
theorem tfeed_nil (h:Tsk w t bz c ms nd x sp lk a b ah out) (hs:Spl w sp (.slice none 0 0)) (u:Value) (l:List Int) (hu:Rd (intE .u8) w u l) (hl:l.length≤100000) :
 Calls Tryz.prog 30 #[.pointer (some ⟨t,0,none⟩),u] w fun e w'=>e=.returned (.tuple #[])∧One sp w w'∧∃ v,Spl w' sp v∧Own (intE .u8) 5 w.heap.size w' v l:=by
 have c13:w.cell? ⟨t,13,none⟩=some (.pointer (some ⟨sp,0,none⟩)):=h.cell 13
 have hcall:=feed_nil sp u l w hs hu hl
 go_enter Tryz.func30,Tryz.ntmps30
 go_wp2_with (go_at_call 53; refine hcall.mono ?_; rintro e w1 ⟨rfl,o1,v,h1,hv⟩)
 go_end0
 exact ⟨rfl,o1,v,h1,hv⟩
theorem tout_any (l:List Int) (h:Tsk w t bz c ms nd x sp lk a b ah out) (ho:Rd (intE .u8) w out l) (hl:l.length≤100000) :
 Calls Tryz.prog 46 #[.pointer (some ⟨t,0,none⟩)] w fun e w'=>∃ v,e=.returned v∧Own (intE .u8) 5 w.heap.size w' v l∧New w w':=by
 have c18:w.cell? ⟨t,18,none⟩=some out:=h.cell 18
 have hcall:=bclone_any out l w ho hl
 go_enter Tryz.func46,Tryz.ntmps46
 go_wp2_with (go_at_call 75; refine hcall.mono ?_; rintro e w1 ⟨v,rfl,hv,n1⟩)
 go_ret
 exact ⟨v,rfl,hv,n1⟩
theorem peek_empty (h:Tsk w t bz c ms nd x sp lk a b (.slice none 0 0) out) (v:Value) (hv:Emp v) (hs:Spl w sp v) :
 Calls Tryz.prog 109 #[.pointer (some ⟨t,0,none⟩)] w fun e w'=>e=.returned (.tuple #[.agg #[.int .i64 0,.slice none 0 0],.bool false])∧One sp w w'∧Spl w' sp v:=by
 have n0:New w (w.alloc (.cells #[.int .i64 0,.slice none 0 0] 174)):=(New.refl w).alloc _
 have r0:Blk (w.alloc (.cells #[.int .i64 0,.slice none 0 0] 174)) w.heap.size 174 #[.int .i64 0,.slice none 0 0]:=Blk.new _ _ _
 have h0:=n0.blk h
 have hs0:=n0.blk hs
 have hlt:=hs.lt
 have c13:(w.alloc (.cells #[.int .i64 0,.slice none 0 0] 174)).cell? ⟨t,13,none⟩=some (.pointer (some ⟨sp,0,none⟩)):=h0.cell 13
 have c17:(w.alloc (.cells #[.int .i64 0,.slice none 0 0] 174)).cell? ⟨t,17,none⟩=some (.slice none 0 0):=h0.cell 17
 go_enter Tryz.func109,Tryz.ntmps109
 go_wp2_with fail
 refine (next_empty sp v hv _ hs0).mono ?_
 rintro e w1 ⟨rfl,o1,s1⟩
 have r1:=o1.blk r0 (by omega)
 have r2:=r1.alloc (.cells #[.int .i64 0,.slice none 0 0] 174)
 have s2:=s1.alloc (.cells #[.int .i64 0,.slice none 0 0] 174)
 have o2:=((New.to n0).trans o1).alloc (.cells #[.int .i64 0,.slice none 0 0] 174)
 have g2:=Blk.new w1 174 #[.int .i64 0,.slice none 0 0]
 have hss:=s1.lt
 clear c13 c17 r0 h0 hs0 n0 o1
 obtain ⟨p0,p1⟩:=r2.all2
 have f2:=r2.froz
 obtain ⟨g0,g1⟩:=g2.all2
 go_wp2
 have hR:=r2.over2 (.int .i64 0) (.slice none 0 0)
 refine bodyPost_ret (results_cellt rfl _ _ rfl rfl (loadFr hR)) rfl ⟨rfl,Fr.setCell (Fr.setCell o2 (p:=⟨w.heap.size,0,none⟩) (fun h=>absurd h (Nat.lt_irrefl _)) (.int .i64 0)) (p:=⟨w.heap.size,1,none⟩) (fun h=>absurd h (Nat.lt_irrefl _)) (.slice none 0 0),?_⟩
 exact (s2.far (p:=⟨w.heap.size,0,none⟩) (by show sp≠w.heap.size; omega) _).far (p:=⟨w.heap.size,1,none⟩) (by show sp≠w.heap.size; omega) _
end
end Go.Proofs.YtliimglbbiebiaaGreatDoor
end

section
namespace Go.Proofs.YtliimglbbiebiaaGreatDoor
open Go.RowKit
section
variable {w:World} {t:Nat} {bz:Bool} {c:Cmd} {ms:ByteArray} {nd:Value} {x sp lk:Nat} {a b:Int} {ah out:Value}
theorem peek_ahead (f:Frm) (base:Nat) (h:Tsk w t bz c ms nd x sp lk a b ah out) (ho:Own frmE 174 base w ah [f]) :
 Calls Tryz.prog 109 #[.pointer (some ⟨t,0,none⟩)] w fun e w'=>e=.returned (.tuple #[f.val,.bool true])∧New w w':=by
 have n0:New w (w.alloc (.cells #[.int .i64 0,.slice none 0 0] 174)):=(New.refl w).alloc _
 have r0:Blk (w.alloc (.cells #[.int .i64 0,.slice none 0 0] 174)) w.heap.size 174 #[.int .i64 0,.slice none 0 0]:=Blk.new _ _ _
 have h0:=n0.blk h
 have ho0:=(ho.new n0).rd
 obtain ⟨A,C,rfl,hC,hcell⟩:=ho0
 obtain ⟨bb,off,rfl,hcel⟩:=hcell (by simp)
 obtain ⟨fk,fA,fn,fc⟩:=f
 have d0:(w.alloc (.cells #[.int .i64 0,.slice none 0 0] 174)).cell? ⟨bb,off,none⟩=some (.int .i64 fk):=hcel 0 _ rfl 0 _ rfl
 have d1:(w.alloc (.cells #[.int .i64 0,.slice none 0 0] 174)).cell? ⟨bb,off + 1,none⟩=some (.slice fA fn fc):=hcel 0 _ rfl 1 _ rfl
 have c17:(w.alloc (.cells #[.int .i64 0,.slice none 0 0] 174)).cell? ⟨t,17,none⟩=some (.slice (some ⟨bb,off,none⟩) 1 C):=h0.cell 17
 have hC':1≤C:=hC
 clear hcell hcel hC
 unfold Frm.val
 go_enter Tryz.func109,Tryz.ntmps109
 go_wp2
 have hR:=r0.over2 (.int .i64 fk) (.slice fA fn fc)
 first
 | exact bodyPost_ret (results_cellt rfl _ _ rfl rfl (loadFr hR)) rfl ⟨rfl,Fr.setCell (Fr.setCell n0 (p:=⟨w.heap.size,0,none⟩) (fun h=>absurd h (Nat.lt_irrefl _)) (.int .i64 fk)) (p:=⟨w.heap.size,1,none⟩) (fun h=>absurd h (Nat.lt_irrefl _)) (.slice fA fn fc)⟩
 | exact bodyPost_ret (results_cellt rfl _ _ rfl rfl (loadFr (Blk.new w 174 #[.int .i64 fk,.slice fA fn fc]))) rfl ⟨rfl,(New.refl w).alloc _⟩
theorem peek_line (h:Tsk w t bz c ms nd x sp lk a b (.slice none 0 0) out) (g off c':Nat) (y:UInt8) (hy:y=97∨y=98) (hc:8≤c') (hgs:g≠sp) (hglt:g < w.heap.size) (hs:Spl w sp (.slice (some ⟨g,off,none⟩) 8 c')) (hb:Bts w g off (wholeL y)) (hts:t≠sp) (hT:Tabs w) (hT':∀ w',One sp w w'→Tabs w') :
 Calls Tryz.prog 109 #[.pointer (some ⟨t,0,none⟩)] w fun e w'=>∃ d ah v,e=.returned (.tuple #[.agg #[.int .i64 1,d],.bool true])∧Fr (fun k=>k=t∨k=sp) w w'∧Tsk w' t bz c ms nd x sp lk a b ah out∧Spl w' sp v∧Emp v ∧
  ∃ dA dC,d=.slice dA 6 dC∧Own frmE 174 w.heap.size w' ah [⟨1,dA,6,dC⟩]∧Own (intE .u8) 5 w.heap.size w' d (nums (lineL y)):=by
 obtain ⟨i0,hi,hz0,hz1,hz2⟩:=info_parts frm_info
 have n0:New w (w.alloc (.cells #[.int .i64 0,.slice none 0 0] 174)):=(New.refl w).alloc _
 have r0:Blk (w.alloc (.cells #[.int .i64 0,.slice none 0 0] 174)) w.heap.size 174 #[.int .i64 0,.slice none 0 0]:=Blk.new _ _ _
 have h0:=n0.blk h
 have hs0:=n0.blk hs
 have hlt:=hs.lt
 have htl:=h.lt
 have c13:(w.alloc (.cells #[.int .i64 0,.slice none 0 0] 174)).cell? ⟨t,13,none⟩=some (.pointer (some ⟨sp,0,none⟩)):=h0.cell 13
 have c17:(w.alloc (.cells #[.int .i64 0,.slice none 0 0] 174)).cell? ⟨t,17,none⟩=some (.slice none 0 0):=h0.cell 17
 have hcall:=next_line sp g off c' y hy hc hgs _ (hT.new n0) hs0 (hb.new n0) (by rw [World.size_alloc]; omega) (fun w' o=>hT' w' ((New.to n0).trans o))
 have HCALL:=Lib.hid hcall
 clear hcall hT'
 go_enter Tryz.func109,Tryz.ntmps109
 go_wp2_with fail
 refine HCALL.out.mono ?_
 rintro e w1 ⟨d,v,rfl,o1,hd,hv,s1⟩
 obtain ⟨dA,dC,rfl,hdC⟩:=hd.form
 have hln:(nums (lineL y)).length=6:=by rw [nums_len,lineL_len]
 rw [hln] at hd ⊢
 have r1:=o1.blk r0 (by omega)
 have t1:=o1.blk h0 hts
 have m1:=(New.to n0).trans o1
 have sz1:=o1.size
 rw [World.size_alloc] at sz1
 have hs0':w.heap.size + 1≤(w.alloc (.cells #[.int .i64 0,.slice none 0 0] 174)).heap.size:=by rw [World.size_alloc]; omega
 have r2:=r1.alloc (.cells #[.int .i64 1,.slice dA 6 dC] 174)
 have t2:=t1.alloc (.cells #[.int .i64 1,.slice dA 6 dC] 174)
 have s2:=s1.alloc (.cells #[.int .i64 1,.slice dA 6 dC] 174)
 have d2:=hd.alloc (.cells #[.int .i64 1,.slice dA 6 dC] 174)
 have m2:=m1.alloc (.cells #[.int .i64 1,.slice dA 6 dC] 174)
 have g2:=Blk.new w1 174 #[.int .i64 1,.slice dA 6 dC]
 have sz2:(w1.alloc (.cells #[.int .i64 1,.slice dA 6 dC] 174)).heap.size=w1.heap.size + 1:=by rw [World.size_alloc]
 have HLN:=Lib.hid hln
 clear hd c13 c17 r0 h0 hs0 n0 o1 r1 t1 s1 m1 hln
 go_wp2_with fail
 generalize (w1.alloc (.cells #[.int .i64 1,.slice dA 6 dC] 174))=wA at *
 generalize w1.heap.size=F at *
 have SZ2:=Lib.hid sz2
 have hwA:w.heap.size≤wA.heap.size:=m2.size
 have hFl:w.heap.size + 1≤F:=sz1
 clear sz1 sz2 w1
 obtain ⟨g0,g1⟩:=g2.all2
 have c17:wA.cell? ⟨t,17,none⟩=some (.slice none 0 0):=t2.cell 17
 have htA:=t2.lt
 have hrA:Rd frmE (wA.alloc (.cells #[.int .i64 1,.slice dA 6 dC] 174)).drew (.slice (some ⟨wA.heap.size,0,none⟩) 1 1) [⟨1,dA,6,dC⟩]:=rd_one' (E:=frmE) (x:=⟨1,dA,6,dC⟩) (t:=174) (Blk.new wA.drew 174 #[.int .i64 1,.slice dA 6 dC])
 have hbA:w.heap.size≤(wA.alloc (.cells #[.int .i64 1,.slice dA 6 dC] 174)).drew.heap.size:=by
  show w.heap.size≤(wA.alloc (.cells #[.int .i64 1,.slice dA 6 dC] 174)).heap.size
  rw [World.size_alloc]
  omega
 have nA:New wA (wA.alloc (.cells #[.int .i64 1,.slice dA 6 dC] 174)).drew:=((New.refl wA).alloc _).drew
 have HRA:=Lib.hid hrA
 have HBA:=Lib.hid hbA
 clear hrA hbA
 go_region_law ((first
  | (refine step_append_list (E:=frmE) (l:=[]) (v:=.slice none 0 0) (by rfl) (.tmp 27) (.tmp 29) 121 (by rfl) Tryz.underlying121 hi hz0 hz1 hz2 rfl (by rfl) (by rfl) [⟨1,dA,6,dC⟩] (Own.nil _ _ w.heap.size _) HRA.out (by unfold maxLen; simp) (by simp) HBA.out ?_
     intro A7 C7 w7 ho7 hf7 hl7
     have n7:New wA w7:=Fr.trans nA (hf7.mono fun _ _ h=>by cases h)
     have t7:=n7.blk t2
     have g7:=n7.blk g2
     obtain ⟨q0,q1⟩:=g7.all2
     have z17:w7.cell? ⟨t,17,none⟩=some (.slice none 0 0):=t7.cell 17
     have y17:w7.frozen? ⟨t,17,none⟩=false:=t7.frozen 17
     have S0:∀ u,(w7.setCell ⟨t,17,none⟩ u).cell? ⟨F,0,none⟩=some (.int .i64 1)∧(w7.setCell ⟨t,17,none⟩ u).cell? ⟨F,1,none⟩=some (.slice dA 6 dC):=fun u=>⟨Fr.cell ((One.refl t w7).set 17 u) q0 (by show ¬ F=t; omega),Fr.cell ((One.refl t w7).set 17 u) q1 (by show ¬ F=t; omega)⟩)
  | fail))
 all_goals
  have e8:([] ++ [(⟨1,dA,6,dC⟩:Frm)]).length=1:=rfl
  rw [e8] at ho7
  have t8:Tsk (w7.setCell ⟨t,17,none⟩ (.slice A7 1 C7)) t bz c ms nd x sp lk a b (.slice A7 1 C7) out:=by
   have q:=t7.set_ 17 (.slice A7 1 C7)
   simpa using q
  have ho8:=ho7.fr ((One.refl t w7).set 17 (.slice A7 1 C7)) fun z hz e=>ho7.blk_ne t7 (by decide) (by have e:z=t:=e; rw [← e]; exact hz)
  have r7:=n7.blk r2
  have s7:=n7.blk s2
  have d7:=d2.new n7
  have r8:=r7.far (p:=⟨t,17,none⟩) (by show w.heap.size≠t; omega) (.slice A7 1 C7)
  have s8:=s7.far (p:=⟨t,17,none⟩) (by show sp≠t; exact Ne.symm hts) (.slice A7 1 C7)
  have d8:=d7.fr ((One.refl t w7).set 17 (.slice A7 1 C7)) fun z hz e=>d7.blk_ne t7 (by decide) (by have e:z=t:=e; rw [← e]; exact hz)
  have m8:Fr (fun k=>k=t∨k=sp) w (w7.setCell ⟨t,17,none⟩ (.slice A7 1 C7)):=Fr.trans (Fr.trans (m2.mono fun k _ h=>.inr h) (n7.mono fun _ _ h=>h.elim)) ((Fr.refl _ w7).setCell (p:=⟨t,17,none⟩) (fun _=>.inl rfl) _)
  have l8:w.heap.size < (w7.setCell ⟨t,17,none⟩ (.slice A7 1 C7)).heap.size:=r8.lt
  have nodup:(Value.slice A7 1 C7).ownBlock≠some w.heap.size∧(Value.slice dA 6 dC).ownBlock≠some w.heap.size:=⟨fun e=>?x1,fun e=>?x2⟩
  case x2=>exact d8.blk_ne r8 (by decide) e
  case x1 =>
   have e':(Value.slice A7 ([] ++ [(⟨1,dA,6,dC⟩:Frm)]).length C7).ownBlock=some w.heap.size:=e
   have hr2:=r2.lt
   rw [e'] at hl7
   rcases hl7 with h1 | h1
   · cases h1
   · have h1:=Option.some.inj h1
     have h2:(wA.alloc (.cells #[.int .i64 1,.slice dA 6 dC] 174)).drew.heap.size=wA.heap.size + 1:=World.size_alloc _ _
     omega
  have HN:=Lib.hid nodup
  have M8:=Lib.hid m8
  have D8:=Lib.hid d8
  have O8:=Lib.hid ho8
  clear c17 g0 g1 htA t2 s2 d2 m2 g2 r2 n7 t7 g7 q0 q1 z17 y17 S0 ho7 hf7 hl7 r7 s7 d7 nodup m8 d8 nA
  generalize (w7.setCell ⟨t,17,none⟩ (.slice A7 1 C7))=w8 at *
  have ho9:=O8.out.rd
  obtain ⟨A9,C9,he9,hC9,hcel⟩:=ho9
  cases he9
  obtain ⟨bb,off9,rfl,hce⟩:=hcel (by simp)
  have k17:w8.cell? ⟨t,17,none⟩=some (.slice (some ⟨bb,off9,none⟩) 1 C7):=t8.cell 17
  have k0:w8.cell? ⟨bb,off9,none⟩=some (.int .i64 1):=hce 0 _ rfl 0 _ rfl
  have k1:w8.cell? ⟨bb,off9 + 1,none⟩=some (.slice dA 6 dC):=hce 0 _ rfl 1 _ rfl
  have hC1:1≤C7:=hC9
  obtain ⟨p0,p1⟩:=r8.all2
  have f8:=r8.froz
  clear hcel hce hC9
  go_wp2
  have hR:=r8.over2 (.int .i64 1) (.slice dA 6 dC)
  have hF:=One.over2 w8 w.heap.size (.int .i64 1) (.slice dA 6 dC)
  have hpt:t≠w.heap.size:=by omega
  have hps:sp≠w.heap.size:=by omega
  refine bodyPost_ret (results_cellt rfl _ _ rfl rfl (loadFr hR)) rfl ⟨_,.slice (some ⟨bb,off9,none⟩) 1 C7,v,rfl,Fr.trans' M8.out hF (fun i hi e=>by have e:i=w.heap.size:=e; omega),(t8.far (p:=⟨w.heap.size,0,none⟩) hpt _).far (p:=⟨w.heap.size,1,none⟩) hpt _,(s8.far (p:=⟨w.heap.size,0,none⟩) hps _).far (p:=⟨w.heap.size,1,none⟩) hps _,hv,dA,dC,rfl,?_,?_⟩
  · exact O8.out.fr hF fun z hz e=>HN.out.1 (by have e:z=w.heap.size:=e; rw [← e]; exact hz)
  · exact (D8.out.mono (Nat.le_of_succ_le hs0')).fr hF fun z hz e=>HN.out.2 (by have e:z=w.heap.size:=e; rw [← e]; exact hz)
end
end Go.Proofs.YtliimglbbiebiaaGreatDoor
end

section
namespace Go.Proofs.YtliimglbbiebiaaGreatDoor
def ownerP (O:List Int) (k:Int):Int:=if 0≤k then O.getD k.toNat (-1) else -1
def heldN (O:List Int) (o:Int):List Nat:=(List.range O.length).filter fun i=>decide (O.getD i (-1)=o)
def heldP (O:List Int) (o:Int):List Int:=if o < 0 then [] else (heldN O o).map Int.ofNat
def relO (O:List Int) (o:Int):List Int:=O.map fun x=>if x=o then -1 else x
def Ows (O:List Int):Prop:=∀ x ∈ O,-1≤x
theorem ownerP_lo {O:List Int} (h:Ows O) (k:Int):-1≤ownerP O k:=by
 unfold ownerP
 split
 · rw [List.getD_eq_getElem?_getD]
   cases hk:O[k.toNat]? with
   | none=>simp
   | some x=>simpa using h x (List.mem_of_getElem? hk)
 · exact Int.le_refl _
theorem ownerP_out {O:List Int} {k:Int} (h:k < 0∨(O.length:Int)≤k):ownerP O k=-1:=by
 unfold ownerP
 split
 · rw [List.getD_eq_getElem?_getD,List.getElem?_eq_none (by omega)]; rfl
 · rfl
theorem ownerP_nat (O:List Int) (i:Nat):ownerP O i=O.getD i (-1):=by
 unfold ownerP
 rw [if_pos (by omega)]
 rfl
theorem ownerP_in {O:List Int} {k:Int} (h:0≤ownerP O k):0≤k∧k < O.length:=by
 by_cases h1:k < 0∨(O.length:Int)≤k
 · rw [ownerP_out h1] at h; omega
 · omega
theorem mem_heldN {O:List Int} {o:Int} {i:Nat}:i ∈ heldN O o ↔ i < O.length∧O.getD i (-1)=o:=by
 unfold heldN
 rw [List.mem_filter]
 simp
theorem mem_heldP {O:List Int} {o k:Int} (ho:0≤o):k ∈ heldP O o ↔ ownerP O k=o:=by
 unfold heldP
 rw [if_neg (by omega),List.mem_map]
 constructor
 · rintro ⟨i,hi,rfl⟩
   rw [mem_heldN] at hi
   show ownerP O (i:Int)=o
   rw [ownerP_nat]; exact hi.2
 · intro h
   have hk:=ownerP_in (O:=O) (k:=k) (by omega)
   refine ⟨k.toNat,mem_heldN.2 ⟨by omega,?_⟩,by show ((k.toNat:Nat):Int)=k; omega⟩
   unfold ownerP at h
   rwa [if_pos hk.1] at h
theorem heldN_sorted (O:List Int) (o:Int):(heldN O o).Pairwise (· < ·):=List.Pairwise.filter _ List.pairwise_lt_range
theorem heldP_sorted (O:List Int) (o:Int):(heldP O o).Pairwise (· < ·):=by
 unfold heldP
 split
 · exact List.Pairwise.nil
 · refine (heldN_sorted O o).map _ fun a b h=>?_
   show (a:Int) < (b:Int)
   omega
theorem heldP_len (O:List Int) (o:Int):(heldP O o).length≤O.length:=by
 unfold heldP
 split
 · simp
 · rw [List.length_map]
   unfold heldN
   have:=List.length_filter_le (fun i=>decide (O.getD i (-1)=o)) (List.range O.length)
   rwa [List.length_range] at this
theorem heldP_range {O:List Int} {o k:Int} (h:k ∈ heldP O o):0≤k∧k < O.length:=by
 by_cases ho:0≤o
 · have:=(mem_heldP ho).1 h
   exact ownerP_in (by omega)
 · unfold heldP at h
   rw [if_pos (by omega)] at h
   cases h
theorem sorted_ext {l m:List Int} (hl:l.Pairwise (· < ·)) (hm:m.Pairwise (· < ·)) (h:∀ x,x ∈ l ↔ x ∈ m):l=m:=by
 have hp:l.Perm m:=(List.perm_ext_iff_of_nodup (hl.imp fun h=>by omega) (hm.imp fun h=>by omega)).2 h
 exact hp.eq_of_pairwise (fun a b _ _ h1 h2=>by omega) hl hm
theorem relO_len (O:List Int) (o:Int):(relO O o).length=O.length:=by simp [relO]
theorem relO_ows {O:List Int} (h:Ows O) (o:Int):Ows (relO O o):=by
 intro x hx
 unfold relO at hx
 obtain ⟨y,hy,rfl⟩:=List.mem_map.1 hx
 split
 · exact Int.le_refl _
 · exact h y hy
theorem ownerP_relO (O:List Int) (o j:Int):ownerP (relO O o) j=if ownerP O j=o then -1 else ownerP O j:=by
 unfold ownerP relO
 split
 · rw [List.getD_eq_getElem?_getD,List.getD_eq_getElem?_getD,List.getElem?_map]
   cases O[j.toNat]? with
   | none=>simp
   | some x=>simp
 · simp
end Go.Proofs.YtliimglbbiebiaaGreatDoor
end

section
namespace Go.Proofs.YtliimglbbiebiaaGreatDoor
open Go.RowKit
abbrev okI (x:Int):Prop:=(Lit.int .i64 x).wf=true
def IsPredI (w:World) (g:Nat) (lb:Array Value) (p:Int→Bool):Prop :=
 ∀ (W:World) (x:Int),okI x→New w W→Calls Tryz.prog g (#[.int .i64 x] ++ lb) W fun e w'=>e=.returned (.bool (p x))∧New W w'
def FirstAtI (p:Int→Bool) (l:List Int) (i:Int):Prop:=(i=-1∧∀ x ∈ l,p x=false)∨∃ (k:Nat) (x:Int),i=k∧l[k]? = some x∧p x=true∧∀ y ∈ l.take k,p y=false
theorem iindex_any (g:Nat) (lb:Array Value) (p:Int→Bool) (hE:∀ args w,(callFunc g args).run Tryz.prog w=.ok (.enter g args) w) (v:Value) (l:List Int) (w:World) (hp:IsPredI w g lb p) (hv:Rd (intE .i64) w v l) (hok:∀ x ∈ l,okI x) (hl:l.length≤1000000) :
 Calls Tryz.prog 159 #[v,.func (.func g) #[] lb] w fun e w'=>∃ i:Int,e=.returned (.int .i64 i)∧FirstAtI p l i∧New w w':=by
 obtain ⟨A,c,rfl,hc,hcells⟩:=hv.ints
 have HC:=Lib.hid hcells
 have HOK:=Lib.hid hok
 clear hcells hok hv
 go_enter Tryz.func159,Tryz.ntmps159
 go_wp2
 go_loopw [8] (fun vi wr=>∃ k:Nat,k≤l.length∧vi=.int .i64 k∧Hid (∀ x,x ∈ l.take k→p x=false)∧New w wr) (fun vi _=>l.length - (intOf vi).toNat)
 case atStart=>exact ⟨0,Nat.zero_le _,rfl,fun x hx=>by simp at hx,New.refl _⟩
 case round =>
  obtain ⟨k,hk,rfl,HS,hnew⟩:=hrel
  by_cases hkl:k < l.length
  · obtain ⟨x,hx⟩:∃ x,l[k]? = some x:=⟨_,List.getElem?_eq_getElem hkl⟩
    obtain ⟨b,off,rfl,hcell⟩:=HC.out (by rintro rfl; simp at hkl)
    have c0:wr.cell? ⟨b,off + k,none⟩=some (.int .i64 x):=Fr.cell hnew (hcell k _ hx) id
    have hcall:=hp _ x (HOK.out x (List.mem_of_getElem? hx)) hnew
    have HX:=Lib.hid hx
    clear hcell hx
    cases hpx:p x
    all_goals
     rw [hpx] at hcall
     have HP:=Lib.hid hpx
     have HCALL:=Lib.hid hcall
     clear hpx hcall
     go_wp2_with fail
     refine HCALL.out.mono ?_
     rintro e w1 ⟨rfl,hn1⟩
     go_wp2
    · go_roundw
      case rel =>
       refine ⟨k + 1,by omega,by go_num,fun x hx=>?_,hnew.trans hn1⟩
       rw [take_snocI HX.out] at hx
       rcases List.mem_append.1 hx with hx | hx
       · exact HS.out x hx
       · rw [List.mem_singleton.1 hx]; exact HP.out
      case measure=>simp [intOf]; omega
    · go_ret
      exact ⟨_,rfl,.inr ⟨k,_,rfl,HX.out,HP.out,HS.out⟩,hnew.trans hn1⟩
  · go_wp2
    go_ret
    refine ⟨_,rfl,.inl ⟨rfl,fun x hx=>?_⟩,hnew⟩
    exact HS.out x (by rw [List.take_of_length_le (by omega)]; exact hx)
theorem idelete_any (g:Nat) (lb:Array Value) (p:Int→Bool) (hE:∀ args w,(callFunc g args).run Tryz.prog w=.ok (.enter g args) w) (v:Value) (l:List Int) (w0 w:World) (hp:IsPredI w0 g lb p) (hn0:New w0 w)
 (hv:Own (intE .i64) 3 w0.heap.size w v l) (hok:∀ x ∈ l,okI x) (hl:l.length≤100000) :
 Calls Tryz.prog 155 #[v,.func (.func g) #[] lb] w fun e w'=>∃ o,e=.returned o∧Own (intE .i64) 3 w0.heap.size w' o (l.filter fun x=>!p x)∧Fr (fun k=>v.ownBlock=some k) w w':=by
 have hzero:∀ w,(zeroValue 3).run Tryz.prog w=.ok (.int .i64 0) w:=fun w=>by kernel_rfl
 have hp1:IsPredI w g lb p:=fun W x ho h=>hp W x ho (hn0.trans h)
 have hidx:=iindex_any g lb p hE v l w hp1 hv.rd hok (by omega)
 obtain ⟨A,c,rfl,hc⟩:=hv.form
 have HP0:=Lib.hid hp
 have HI:=Lib.hid hidx
 have HOK:=Lib.hid hok
 clear hp hp1 hidx hok
 obtain ⟨r,hr⟩:∃ r,r=l.filter fun x=>!p x:=⟨_,rfl⟩
 rw [← hr]
 have HRE:=Lib.hid hr
 clear hr
 go_enter Tryz.func155,Tryz.ntmps155
 go_wp2_with fail
 refine HI.out.mono ?_
 rintro e w1 ⟨i,rfl,hfirst,hn1⟩
 have hv1:=hv.new hn1
 rcases hfirst with ⟨rfl,hall⟩ | ⟨k,x,rfl,hx,hpx,hbef⟩
 · have hfl:(l.filter fun x=>!p x)=l:=List.filter_eq_self.2 fun x hx=>by simp [hall x hx]
   have hr:=HRE.out.trans hfl
   subst hr
   clear hfl hall HRE
   go_wp2
   go_ret
   exact ⟨_,rfl,hv1,hn1.mono fun _ _ h=>h.elim⟩
 · have hkl:k < l.length:=(List.getElem?_eq_some_iff.1 hx).1
   have hstart:l.take k=(l.take (k + 1)).filter fun x=>!p x:=by
    rw [take_snocI hx,List.filter_append,List.filter_eq_self.2 fun y hy=>by simp [hbef y hy]]
    simp [hpx]
   have HSTART:=Lib.hid hstart
   clear hx hpx hbef hstart HI
   obtain ⟨gg,rfl⟩:=hv1.some1 (by omega)
   have hn01:=hn0.trans hn1
   have hv1b:w0.heap.size≤gg:=(hv1.block rfl).1
   obtain ⟨wo,rfl⟩:∃ wo:World,wo=w1:=⟨_,rfl⟩
   have hkb:((k:Int) == -1)=false:=by simp
   go_wp2
   go_loopw [5,6] (fun vi vj wr=>∃ (i j:Nat) (m:List Int),i < j∧j≤l.length∧vi=.int .i64 i∧vj=.int .i64 j∧m.length=l.length∧Hid (m.take i=(l.take j).filter fun x=>!p x)∧Hid (∀ t,j≤t→m[t]? = l[t]?) ∧
    Own (intE .i64) 3 w0.heap.size wr (.slice (some ⟨gg,0,none⟩) l.length c) m∧Fr (fun q=>gg=q) wo wr) (fun _ vj _=>l.length - (intOf vj).toNat)
   case atStart=>exact ⟨k,k + 1,l,by omega,by omega,rfl,by go_num,rfl,HSTART.out,fun _ _=>rfl,hv1,Fr.refl _ _⟩
   case round =>
    obtain ⟨i,j,m,hij,hjl,rfl,rfl,hm,HT,HR,ho,hf⟩:=hrel
    have hn0r:New w0 wr:=Fr.trans' hn01 hf fun q hq hs=>by omega
    clear hv1
    by_cases hjn:j < l.length
    · obtain ⟨x,hx⟩:∃ x,l[j]? = some x:=⟨_,List.getElem?_eq_getElem hjn⟩
      have hxm:m[j]? = some x:=by rw [HR.out j (Nat.le_refl _)]; exact hx
      obtain ⟨y,hy⟩:∃ y,m[i]? = some y:=⟨_,List.getElem?_eq_getElem (by omega)⟩
      have hsn:=take_snocI hx
      have c0:wr.cell? ⟨gg,j,none⟩=some (.int .i64 x):=ho.icell hxm
      have hcall:=HP0.out wr x (HOK.out x (List.mem_of_getElem? hx)) hn0r
      have HSN:=Lib.hid hsn
      have HY:=Lib.hid hy
      clear hx hxm hsn hy
      cases hpx:p x
      · rw [hpx] at hcall
        have HPX:=Lib.hid hpx
        have HCALL:=Lib.hid hcall
        clear hpx hcall
        go_wp2_with fail
        refine HCALL.out.mono ?_
        rintro e w2 ⟨rfl,hn2⟩
        have ho2:=ho.new hn2
        have e0:w2.cell? ⟨gg,i,none⟩=some (.int .i64 y):=ho2.icell HY.out
        have f0:w2.frozen? ⟨gg,i,none⟩=false:=ho2.ifrozen _
        have hil:i < m.length:=by omega
        have hst:=ho2.istored i x
        have HST:=Lib.hid hst
        have hf2:Fr (fun q=>gg=q) wo w2:=hf.trans (hn2.mono fun _ _ h=>h.elim)
        clear hst ho2 ho
        go_wp2
        go_roundw
        case rel =>
         refine ⟨i + 1,j + 1,m.set i x,by omega,by omega,by go_num,by go_num,by rw [List.length_set]; exact hm,?_,?_,HST.out,?_⟩
         · show (m.set i x).take (i + 1)=_
           rw [HSN.out,List.filter_append,take_snocI (List.getElem?_set_self hil),List.take_set_of_le (Nat.le_refl _),HT.out]
           simp [HPX.out]
         · intro t ht
           rw [List.getElem?_set_ne (by omega)]
           exact HR.out t (by omega)
         · exact Fr.setCell (p:=⟨gg,_,none⟩) hf2 (fun _=>rfl) _
        case measure=>simp [intOf]; omega
      · rw [hpx] at hcall
        have HPX:=Lib.hid hpx
        have HCALL:=Lib.hid hcall
        clear hpx hcall
        go_wp2_with fail
        refine HCALL.out.mono ?_
        rintro e w2 ⟨rfl,hn2⟩
        have ho2:=ho.new hn2
        have hf2:Fr (fun q=>gg=q) wo w2:=hf.trans (hn2.mono fun _ _ h=>h.elim)
        clear ho
        go_wp2
        go_roundw
        case rel =>
         refine ⟨i,j + 1,m,by omega,by omega,rfl,by go_num,hm,?_,fun t ht=>HR.out t (by omega),ho2,hf2⟩
         show m.take i=_
         rw [HSN.out,List.filter_append,HT.out]
         simp [HPX.out]
        case measure=>simp [intOf]; omega
    · obtain rfl:j=l.length:=by omega
      have ht:=HT.out
      rw [List.take_length] at ht
      have hr:=HRE.out.trans ht.symm
      subst hr
      clear ht HRE
      have hz1:∀ u ∈ (Value.int .i64 0).cells.toList,u.oneCell'=true:=by
       intro u hu
       have hu2:u ∈ [Value.int .i64 0]:=hu
       rw [List.mem_singleton.1 hu2]
       rfl
      obtain ⟨w3,hr3,ho3,hf3⟩:=run_clear_own (P:=Tryz.prog) (E:=intE .i64) (ty:=0) Tryz.underlying31 hzero rfl hz1 ho i (c - i) (by omega)
      have hr3':(Builtin.clear_ #[31] 0 #[.slice (some ⟨gg,i,none⟩) (l.length - i) (c - i)]).run Tryz.prog wr=.ok (.tuple #[]) w3:=by
       have e1:i * (intE .i64).sz=i:=Nat.mul_one i
       rw [e1] at hr3
       exact hr3
      clear hr3
      go_wp2
      go_ret
      have hf13:Fr (fun q=>gg=q) wo w3:=hf.trans (hf3.mono fun _ _ h=>h.symm)
      exact ⟨_,rfl,ho3,(hn1.mono fun _ _ h=>h.elim).trans (hf13.mono fun _ _ h=>by rw [h]; rfl)⟩
end Go.Proofs.YtliimglbbiebiaaGreatDoor
end

section
namespace Go.Proofs.YtliimglbbiebiaaGreatDoor
open Go.RowKit
theorem lzeroInt (w:World):(zeroValue 3).run Tryz.prog w=.ok (.int .i64 0) w:=by kernel_rfl
def cellAt (O:List Int) (k:Int):Option Value:=if 0≤ownerP O k then some (.int .i64 (ownerP O k)) else none
structure Tab (w:World) (b bm:Nat) (O:List Int) (N:Int):Prop where
 blk:Blk w b 120 #[.int .i64 O.length,.map (some bm),.int .i64 N]
 map:∃ l,HasMap iKeys w bm l∧(l.length:Int)≤N∧∀ k,okI k→get l k=cellAt O k
 ows:Ows O
 ok:∀ x ∈ O,okI x
 len:O.length≤65536
 hi:N≤10000
abbrev TFr (b bm:Nat) (w w':World):Prop:=Fr (fun k=>k=b∨k=bm) w w'
theorem Tab.fr {S:Nat→Prop} {w w':World} {b bm:Nat} {O:List Int} {N:Int} (h:Tab w b bm O N) (hf:Fr S w w') (hb:¬ S b) (hm:¬ S bm):Tab w' b bm O N:=by
 obtain ⟨l,h1,h2⟩:=h.map
 exact ⟨Fr.blk hf h.blk hb,⟨l,h1.fr hf hm,h2⟩,h.ows,h.ok,h.len,h.hi⟩
theorem Tab.new {w w':World} {b bm:Nat} {O:List Int} {N:Int} (h:Tab w b bm O N) (hf:New w w'):Tab w' b bm O N:=h.fr hf id id
theorem Tab.lt {w:World} {b bm:Nat} {O:List Int} {N:Int} (h:Tab w b bm O N):b < w.heap.size:=h.blk.lt
theorem Tab.ltm {w:World} {b bm:Nat} {O:List Int} {N:Int} (h:Tab w b bm O N):bm < w.heap.size:=by
 obtain ⟨l,h1,_⟩:=h.map
 exact h1.lt
theorem Tab.ne {w:World} {b bm:Nat} {O:List Int} {N:Int} (h:Tab w b bm O N):b≠bm:=by
 rintro rfl
 obtain ⟨l,h1,_⟩:=h.map
 obtain ⟨D,⟨es,clock,h3,_⟩,_⟩:=h1.own
 have:=h.blk
 unfold Blk at this
 rw [this] at h3
 cases h3
theorem rep_owner (n:Nat) (k:Int):ownerP (List.replicate n (-1)) k=-1:=by
 unfold ownerP
 split
 · rw [List.getD_eq_getElem?_getD]
   cases h:(List.replicate n (-1:Int))[k.toNat]? with
   | none=>rfl
   | some x=>simpa using (List.mem_replicate.1 (List.mem_of_getElem? h)).2
 · rfl
theorem lnew_any (n:Int) (h0:0≤n) (h1:n≤65536) (w:World) :
 Calls Tryz.prog 26 #[.int .i64 n] w fun e w'=>∃ b bm,e=.returned (.pointer (some ⟨b,0,none⟩))∧Tab w' b bm (List.replicate n.toNat (-1)) 0∧w.heap.size≤b∧w.heap.size≤bm∧New w w':=by
 have hmm:=@run_makeMap Tryz.prog
 go_enter Tryz.func26,Tryz.ntmps26
 go_wp2
 go_ret
 obtain ⟨m,rfl⟩:∃ m:Nat,n=m:=⟨n.toNat,by omega⟩
 have hlen:(List.replicate m (-1:Int)).length=m:=List.length_replicate
 have hb:Blk ((w.alloc (.map #[] 0)).alloc (.cells #[.int .i64 m,.map (some w.heap.size),.int .i64 0] 120)) (w.heap.size + 1) 120 #[.int .i64 m,.map (some w.heap.size),.int .i64 0]:=Blk.new1 _ _ _ _
 refine ⟨w.heap.size + 1,w.heap.size,rfl,⟨?_,⟨[],(HasMap.made iKeys w).alloc _,Int.le_refl _,fun k _=>?_⟩,?_,?_,?_,by omega⟩,by omega,Nat.le_refl _,((New.refl w).alloc _).alloc _⟩
 · show Blk _ _ _ #[.int .i64 ((List.replicate m (-1:Int)).length:Int),_,_]
   rw [hlen]
   exact hb
 · show none=cellAt (List.replicate m (-1)) k
   unfold cellAt
   rw [rep_owner,if_neg (by omega)]
 · intro x hx
   rw [(List.mem_replicate.1 hx).2]
   exact Int.le_refl _
 · intro x hx
   rw [(List.mem_replicate.1 hx).2]
   decide
 · show (List.replicate m (-1:Int)).length≤65536
   omega
theorem llen_any {w:World} {b bm:Nat} {O:List Int} {N:Int} (h:Tab w b bm O N):Calls Tryz.prog 50 #[.pointer (some ⟨b,0,none⟩)] w fun e w'=>e=.returned (.int .i64 O.length)∧w=w':=by
 have c0:w.cell? ⟨b,0,none⟩=some (.int .i64 O.length):=h.blk.cell 0
 go_enter Tryz.func50,Tryz.ntmps50
 go_wp2
 go_ret
 exact ⟨rfl,rfl⟩
end Go.Proofs.YtliimglbbiebiaaGreatDoor
end

section
namespace Go.Proofs.YtliimglbbiebiaaGreatDoor
open Go.RowKit
theorem Tab.look {w:World} {b bm:Nat} {O:List Int} {N:Int} (h:Tab w b bm O N) {k:Int} (hk:okI k) :
 (Instr.lookup 113 (.map (some bm)) (.int .i64 k) true).run Tryz.prog w=.ok (.tuple #[.int .i64 (max (ownerP O k) 0),.bool (decide (0≤ownerP O k))]) w:=by
 obtain ⟨l,hm,_,hg⟩:=h.map
 have h1:=hm.run_look_ok (t:=113) (e:=3) Tryz.underlying113 (lzeroInt w) hk
 rw [hg k hk] at h1
 have h2:(cellAt O k).getD (.int .i64 0)=.int .i64 (max (ownerP O k) 0)∧(cellAt O k).isSome=decide (0≤ownerP O k):=by
  unfold cellAt
  by_cases h3:0≤ownerP O k
  · rw [if_pos h3,decide_eq_true h3,show max (ownerP O k) 0=ownerP O k by omega]
    exact ⟨rfl,rfl⟩
  · rw [if_neg h3,decide_eq_false h3,show max (ownerP O k) 0=0 by omega]
    exact ⟨rfl,rfl⟩
 rw [h2.1,h2.2] at h1
 exact h1
theorem Tab.look0 {w:World} {b bm:Nat} {O:List Int} {N:Int} (h:Tab w b bm O N) {k:Int} (hk:okI k) :
 (Instr.lookup 113 (.map (some bm)) (.int .i64 k) false).run Tryz.prog w=.ok (.int .i64 (max (ownerP O k) 0)) w:=by
 obtain ⟨l,hm,_,hg⟩:=h.map
 have h1:=hm.run_look (t:=113) (e:=3) Tryz.underlying113 (lzeroInt w) hk
 rw [hg k hk] at h1
 have h2:(cellAt O k).getD (.int .i64 0)=.int .i64 (max (ownerP O k) 0):=by
  unfold cellAt
  by_cases h3:0≤ownerP O k
  · rw [if_pos h3,show max (ownerP O k) 0=ownerP O k by omega]
    rfl
  · rw [if_neg h3,show max (ownerP O k) 0=0 by omega]
    rfl
 rw [h2] at h1
 exact h1
end Go.Proofs.YtliimglbbiebiaaGreatDoor
end

section
namespace Go.Proofs.YtliimglbbiebiaaGreatDoor
open Go.Shelf Go.Proofs
def keysA_ren:Go.Shelf.Ren:=⟨fun | 7=>212 | 10=>287 | n=>n,fun | 23=>113 | 26=>3 | 3=>3 | 28=>80 | 0=>0 | 27=>79 | 33=>77 | 4=>4 | n=>n,fun | n=>n⟩
theorem keysA:Go.Proofs.SlLaysZI.n7 Tryz.prog keysA_ren:={
 mixed:=by kernel_rfl
 f7:=⟨Tryz.f212.name,by decide,Tryz.func212.trans (congrArg some (by kernel_rfl))⟩
 f10:=⟨Tryz.f287.name,by decide,Tryz.func287.trans (congrArg some (by kernel_rfl))⟩
 t0:=Tryz.underlying0
 a0:=Tryz.isAgg0
 z0:=Tryz.sizeOf0
 v0:=Tryz.zeroValue0
 t4:=Tryz.underlying4
 a4:=Tryz.isAgg4
 z4:=Tryz.sizeOf4
 v4:=Tryz.zeroValue4
 t23:=Tryz.underlying113
 a23:=Tryz.isAgg113
 z23:=Tryz.sizeOf113
 v23:=Tryz.zeroValue113
 t26:=Tryz.underlying3
 a26:=Tryz.isAgg3
 z26:=Tryz.sizeOf3
 v26:=Tryz.zeroValue3
 t27:=Tryz.underlying79
 a27:=Tryz.isAgg79
 z27:=Tryz.sizeOf79
 v27:=Tryz.zeroValue79
 t28:=Tryz.underlying80
 a28:=Tryz.isAgg80
 z28:=Tryz.sizeOf80
 v28:=Tryz.zeroValue80
 t33:=Tryz.underlying77
 a33:=Tryz.isAgg77
 z33:=Tryz.sizeOf77
 v33:=Tryz.zeroValue77 }
def sortedA_ren:Go.Shelf.Ren:=⟨fun | 6=>211 | 8=>285 | 9=>286 | 11=>329 | 13=>118 | 12=>330 | 23=>171 | 24=>172 | 14=>381 | 15=>382 | 16=>383 | 17=>384 | 18=>385 | 19=>386 | 20=>387 | 21=>388 | 22=>389 | 25=>426 | 26=>219 | 27=>220 | 28=>427 | 29=>428 | 30=>429 | 31=>452 | n=>n,fun | 26=>3 | 28=>80 | 24=>31 | 0=>0 | 3=>3 | 37=>214 | 48=>28 | 50=>146 | 4=>4 | 40=>261 | 39=>260 | 45=>124 | 5=>5 | 9=>9 | 51=>331 | 55=>335 | 57=>391 | 58=>392 | 33=>77 | n=>n,fun | n=>n⟩
theorem sortedA:Go.Proofs.SlLaysZI.n6 Tryz.prog sortedA_ren:={
 mixed:=by kernel_rfl
 f6:=⟨Tryz.f211.name,by decide,Tryz.func211.trans (congrArg some (by kernel_rfl))⟩
 f8:=⟨Tryz.f285.name,by decide,Tryz.func285.trans (congrArg some (by kernel_rfl))⟩
 f11:=⟨Tryz.f329.name,by decide,Tryz.func329.trans (congrArg some (by kernel_rfl))⟩
 t0:=Tryz.underlying0
 a0:=Tryz.isAgg0
 z0:=Tryz.sizeOf0
 v0:=Tryz.zeroValue0
 t24:=Tryz.underlying31
 a24:=Tryz.isAgg31
 z24:=Tryz.sizeOf31
 v24:=Tryz.zeroValue31
 t26:=Tryz.underlying3
 a26:=Tryz.isAgg3
 z26:=Tryz.sizeOf3
 v26:=Tryz.zeroValue3
 t28:=Tryz.underlying80
 a28:=Tryz.isAgg80
 z28:=Tryz.sizeOf80
 v28:=Tryz.zeroValue80
 i26:=by kernel_rfl }
def sortA_ren:Go.Shelf.Ren:=⟨fun | 5=>286 | 8=>118 | 7=>330 | 19=>171 | 20=>172 | 10=>381 | 11=>382 | 12=>383 | 13=>384 | 14=>385 | 15=>386 | 16=>387 | 17=>388 | 18=>389 | 30=>426 | 31=>219 | 32=>220 | 33=>427 | 34=>428 | 35=>429 | 40=>452 | n=>n,fun | 23=>31 | 25=>3 | 3=>3 | 32=>214 | 22=>31 | 0=>0 | 44=>28 | 46=>146 | 4=>4 | 36=>261 | 35=>260 | 41=>124 | 5=>5 | 9=>9 | 53=>331 | 57=>335 | 63=>391 | 64=>392 | n=>n,fun | n=>n⟩
theorem sortA:Go.Proofs.SlLaysM.n5 Tryz.prog sortA_ren:={
 mixed:=by kernel_rfl
 f5:=⟨Tryz.f286.name,by decide,Tryz.func286.trans (congrArg some (by kernel_rfl))⟩
 f7:=⟨Tryz.f330.name,by decide,Tryz.func330.trans (congrArg some (by kernel_rfl))⟩
 f8:=Tryz.func118.trans (congrArg some (by kernel_rfl))
 f10:=⟨Tryz.f381.name,by decide,Tryz.func381.trans (congrArg some (by kernel_rfl))⟩
 f11:=⟨Tryz.f382.name,by decide,Tryz.func382.trans (congrArg some (by kernel_rfl))⟩
 f12:=⟨Tryz.f383.name,by decide,Tryz.func383.trans (congrArg some (by kernel_rfl))⟩
 f13:=⟨Tryz.f384.name,by decide,Tryz.func384.trans (congrArg some (by kernel_rfl))⟩
 f14:=⟨Tryz.f385.name,by decide,Tryz.func385.trans (congrArg some (by kernel_rfl))⟩
 f15:=⟨Tryz.f386.name,by decide,Tryz.func386.trans (congrArg some (by kernel_rfl))⟩
 f16:=⟨Tryz.f387.name,by decide,Tryz.func387.trans (congrArg some (by kernel_rfl))⟩
 f17:=⟨Tryz.f388.name,by decide,Tryz.func388.trans (congrArg some (by kernel_rfl))⟩
 f18:=⟨Tryz.f389.name,by decide,Tryz.func389.trans (congrArg some (by kernel_rfl))⟩
 f19:=Tryz.func171.trans (congrArg some (by kernel_rfl))
 f20:=Tryz.func172.trans (congrArg some (by kernel_rfl))
 f30:=⟨Tryz.f426.name,by decide,Tryz.func426.trans (congrArg some (by kernel_rfl))⟩
 f31:=Tryz.func219.trans (congrArg some (by kernel_rfl))
 f32:=Tryz.func220.trans (congrArg some (by kernel_rfl))
 f33:=⟨Tryz.f427.name,by decide,Tryz.func427.trans (congrArg some (by kernel_rfl))⟩
 f34:=⟨Tryz.f428.name,by decide,Tryz.func428.trans (congrArg some (by kernel_rfl))⟩
 f35:=⟨Tryz.f429.name,by decide,Tryz.func429.trans (congrArg some (by kernel_rfl))⟩
 f40:=⟨Tryz.f452.name,by decide,Tryz.func452.trans (congrArg some (by kernel_rfl))⟩
 t0:=Tryz.underlying0
 a0:=Tryz.isAgg0
 z0:=Tryz.sizeOf0
 v0:=Tryz.zeroValue0
 t3:=Tryz.underlying3
 a3:=Tryz.isAgg3
 z3:=Tryz.sizeOf3
 v3:=Tryz.zeroValue3
 t4:=Tryz.underlying4
 a4:=Tryz.isAgg4
 z4:=Tryz.sizeOf4
 v4:=Tryz.zeroValue4
 t5:=Tryz.underlying5
 a5:=Tryz.isAgg5
 z5:=Tryz.sizeOf5
 v5:=Tryz.zeroValue5
 t9:=Tryz.underlying9
 a9:=Tryz.isAgg9
 z9:=Tryz.sizeOf9
 v9:=Tryz.zeroValue9
 t22:=Tryz.underlying31
 a22:=Tryz.isAgg31
 z22:=Tryz.sizeOf31
 v22:=Tryz.zeroValue31
 t23:=Tryz.underlying31
 a23:=Tryz.isAgg31
 z23:=Tryz.sizeOf31
 v23:=Tryz.zeroValue31
 t25:=Tryz.underlying3
 a25:=Tryz.isAgg3
 z25:=Tryz.sizeOf3
 v25:=Tryz.zeroValue3
 t32:=Tryz.underlying214
 a32:=Tryz.isAgg214
 z32:=Tryz.sizeOf214
 v32:=Tryz.zeroValue214
 t35:=Tryz.underlying260
 a35:=Tryz.isAgg260
 z35:=Tryz.sizeOf260
 v35:=Tryz.zeroValue260
 t36:=Tryz.underlying261
 a36:=Tryz.isAgg261
 z36:=Tryz.sizeOf261
 v36:=Tryz.zeroValue261
 t41:=Tryz.underlying124
 a41:=Tryz.isAgg124
 z41:=Tryz.sizeOf124
 v41:=Tryz.zeroValue124
 t44:=Tryz.underlying28
 a44:=Tryz.isAgg28
 z44:=Tryz.sizeOf28
 v44:=Tryz.zeroValue28
 t46:=Tryz.underlying146
 a46:=Tryz.isAgg146
 z46:=Tryz.sizeOf146
 v46:=Tryz.zeroValue146
 t53:=Tryz.underlying331
 a53:=Tryz.isAgg331
 z53:=Tryz.sizeOf331
 v53:=Tryz.zeroValue331
 t57:=Tryz.underlying335
 a57:=Tryz.isAgg335
 z57:=Tryz.sizeOf335
 v57:=Tryz.zeroValue335
 t63:=Tryz.underlying391
 a63:=Tryz.isAgg391
 z63:=Tryz.sizeOf391
 v63:=Tryz.zeroValue391
 t64:=Tryz.underlying392
 a64:=Tryz.isAgg392
 z64:=Tryz.sizeOf392
 v64:=Tryz.zeroValue392 }
end Go.Proofs.YtliimglbbiebiaaGreatDoor
end

section
namespace Go.Proofs.YtliimglbbiebiaaGreatDoor
open Go.RowKit Go.Maps
theorem sortsA (m:Nat):AnyZI.SortsIn Tryz.prog sortedA_ren Fence.wide m :=
 ⟨fun blk off cap ss W hH hblk hsz=>callsIn_wide.2 (AnyM.slices_Sort_int sortA blk off cap ss W hH hblk hsz),
  fun p cap W=>callsIn_wide.2 (AnyM.slices_Sort_int_none sortA p cap W)⟩
theorem keys_any (mb:Option Nat) (w:World):Calls Tryz.prog 212 #[.map mb] w fun e w'=>e=.returned (.func (.func 287) #[] #[.pointer (some ⟨w.heap.size,0,none⟩)])∧w'=w.alloc (.cells #[.map mb] 113) :=
 (callsIn_wide (n:=5)).1 (AnyZI.keys_in keysA Fence.wide 5 trivial rfl mb w)
theorem sorted_any {w:World} {g bm:Nat} {l:List (Int × Value)} (hg:Blk w g 113 #[.map (some bm)]) (hm:HasMap iKeys w bm l) (hl:l.length≤1000000) :
 Calls Tryz.prog 211 #[.func (.func 287) #[] #[.pointer (some ⟨g,0,none⟩)]] w fun e w'=>∃ v s,e=.returned v∧Own (intE .i64) 3 w.heap.size w' v s∧s.Pairwise (· < ·)∧(∀ x,x ∈ s ↔ okI x∧(get l x).isSome)∧s.length≤l.length∧New w w':=by
 obtain ⟨D,h1,h2,h3⟩:=hm.own
 have hgl:=hg.lt
 have hseq:SeqGives Fence.wide 2 Tryz.prog 287 #[.pointer (some ⟨g,0,none⟩)] encZ (fun ss=>ss.Perm (Go.intKeys D)) (Maps.size D) w :=
  AnyZI.keys_gives (ρ:=keysA_ren) { keysA with } Fence.wide _ trivial rfl (by omega) g bm _ D _ hgl (hg.cell 0) h1
 have cS:=AnyZI.sorted_in sortedA Fence.wide 5 trivial trivial trivial trivial rfl (by omega) (sortsA _) (enters_of Tryz.func286 (by kernel_rfl) rfl) 287 #[.pointer (some ⟨g,0,none⟩)] trivial (enters_of Tryz.func287 (by kernel_rfl) rfl) _ (Maps.size D) (by rw [h2]; unfold maxLen; omega) (by rw [h2]; omega) w hseq
 refine ((callsIn_wide (n:=5)).1 cS).mono ?_
 rintro e w' ⟨v,ss,rfl,hperm,hrow,_,hb⟩
 obtain ⟨es,hD,hpw,_⟩:=h1.entries iKeys.law
 obtain ⟨es',hD',hko⟩:=h1.keysOf
 obtain rfl:es=es':=by rw [hD] at hD'; simpa using hD'
 have hks:∀ p ∈ es,∃ x:Int,p.1=.int .i64 x∧okI x:=fun p hp=>by
  obtain ⟨v,hv⟩:=hko p hp
  obtain ⟨x,_,hx,hw⟩:=Maps.keyOf_i64 Tryz.underlying3 hv
  exact ⟨x,hx,hw⟩
 have hnd:(Go.intKeys D).Nodup:=by
  subst hD
  show (es.map fun p=>Go.intOf p.1).Nodup
  refine List.pairwise_map.2 (hpw.imp_of_mem fun {p q} hp' hq' hne e=>hne ?_)
  obtain ⟨a,ha,_⟩:=hks p hp'
  obtain ⟨b,hb,_⟩:=hks q hq'
  rw [ha,hb] at e ⊢
  exact congrArg _ e
 have hmem:∀ x,x ∈ Go.intKeys D ↔ okI x∧(get l x).isSome:=by
  intro x
  have hh:∀ x,okI x→(Maps.has D (.int .i64 x)=(get l x).isSome):=fun x hx=>has_of (h3 x hx)
  subst hD
  show x ∈ es.map (fun p=>Go.intOf p.1) ↔ _
  rw [List.mem_map]
  constructor
  · rintro ⟨p,hp,rfl⟩
    obtain ⟨a,ha,hw⟩:=hks p hp
    have e1:Go.intOf p.1=a:=by rw [ha]; rfl
    rw [e1]
    refine ⟨hw,?_⟩
    rw [← hh a hw,has_eq,List.any_eq_true]
    exact ⟨p,hp,by rw [ha]; simp [Lit.sameKey]⟩
  · rintro ⟨hw,hs⟩
    rw [← hh x hw,has_eq,List.any_eq_true] at hs
    obtain ⟨p,hp,hq⟩:=hs
    obtain ⟨a,ha,_⟩:=hks p hp
    refine ⟨p,hp,?_⟩
    rw [ha] at hq ⊢
    simpa [Lit.sameKey,Go.intOf] using hq
 have hsp:(ss.mergeSort (fun x y=>decide (x≤y))).Perm (Go.intKeys D):=(List.mergeSort_perm ss _).trans hperm
 have hlen:ss.length≤l.length:=by
  have e1:=hperm.length_eq
  have e2:(Go.intKeys D).length=es.length:=by subst hD; exact List.length_map _
  have e3:es.length=l.length:=by rw [← h2]; subst hD; rfl
  omega
 refine ⟨v,ss.mergeSort (fun x y=>decide (x≤y)),rfl,?_,?_,fun x=>?_,?_,New.of_below hb⟩
 · unfold Own
   rw [intE_cells,List.length_mergeSort]
   exact hrow
 · have hs:=List.pairwise_mergeSort (le:=fun x y:Int=>decide (x≤y)) (fun a b c h1 h2=>by simp only [decide_eq_true_eq] at *; omega) (fun a b=>by simp only [Bool.or_eq_true,decide_eq_true_eq]; omega) ss
   have hn:(ss.mergeSort (fun x y=>decide (x≤y))).Nodup:=hsp.nodup_iff.2 hnd
   exact (hs.and hn).imp fun {a b} h=>by have h4:=h.1; have h5:=h.2; simp only [decide_eq_true_eq] at h4; omega
 · rw [hsp.mem_iff]
   exact hmem x
 · rw [List.length_mergeSort]
   exact hlen
theorem held1_pred {w:World} {b bm:Nat} {O:List Int} {N:Int} (h:Tab w b bm O N) (o:Int) (gt go:Nat) (ht:Blk w gt 68 #[.pointer (some ⟨b,0,none⟩)]) (ho:Blk w go 3 #[.int .i64 o]) :
 IsPredI w 213 #[.pointer (some ⟨gt,0,none⟩),.pointer (some ⟨go,0,none⟩)] (fun k=>max (ownerP O k) 0 != o):=by
 intro W k hk hn
 have hW:=h.new hn
 have c0:W.cell? ⟨gt,0,none⟩=some (.pointer (some ⟨b,0,none⟩)):=(hn.blk ht).cell 0
 have c1:W.cell? ⟨go,0,none⟩=some (.int .i64 o):=(hn.blk ho).cell 0
 have c2:W.cell? ⟨b,1,none⟩=some (.map (some bm)):=hW.blk.cell 1
 have hlk:=fun n=>(hW.new ((New.refl W).drewN n)).look0 hk
 have hlk0:=hlk 0
 show Calls Tryz.prog 213 #[.int .i64 k,.pointer (some ⟨gt,0,none⟩),.pointer (some ⟨go,0,none⟩)] W fun e w'=>e=.returned (.bool (max (ownerP O k) 0 != o))∧New W w'
 clear hW h ht ho hn hk hlk0
 generalize max (ownerP O k) 0=x at *
 go_enter Tryz.func213,Tryz.ntmps213
 go_wp2
 go_quiet (fail)
 go_wp2
 go_ret
 exact ⟨rfl,(New.refl _).drewN _⟩
theorem lheld_any {w:World} {b bm:Nat} {O:List Int} {N:Int} (h:Tab w b bm O N) (o:Int) :
 Calls Tryz.prog 154 #[.pointer (some ⟨b,0,none⟩),.int .i64 o] w fun e w'=>∃ v,e=.returned v∧Own (intE .i64) 3 w.heap.size w' v (heldP O o)∧New w w':=by
 have hmf:∀ (fn:Fn) (first cap:Array Value) (w:World),(Instr.makeFunc fn first cap).run Tryz.prog w=.ok (.func fn first cap) w:=fun _ _ _ _=>rfl
 have hlt:=h.blk.lt
 have hb1:Blk ((w.alloc (.cells #[.pointer (some ⟨b,0,none⟩)] 68)).alloc (.cells #[.int .i64 o] 3)) w.heap.size 68 #[.pointer (some ⟨b,0,none⟩)]:=(Blk.new _ _ _).alloc _
 have hb2:Blk ((w.alloc (.cells #[.pointer (some ⟨b,0,none⟩)] 68)).alloc (.cells #[.int .i64 o] 3)) (w.heap.size + 1) 3 #[.int .i64 o]:=Blk.new1 _ _ _ _
 have hn2:New w ((w.alloc (.cells #[.pointer (some ⟨b,0,none⟩)] 68)).alloc (.cells #[.int .i64 o] 3)):=((New.refl w).alloc _).alloc _
 have c1:w.cell? ⟨b,1,none⟩=some (.map (some bm)):=h.blk.cell 1
 have hn2s:=hn2.size
 have hsz:((w.alloc (.cells #[.pointer (some ⟨b,0,none⟩)] 68)).alloc (.cells #[.int .i64 o] 3)).heap.size=w.heap.size + 2:=by simp
 go_enter Tryz.func154,Tryz.ntmps154
 go_wp2_with fail
 refine (keys_any _ _).mono ?_
 rintro e w1 ⟨rfl,hw1⟩
 rw [hsz]
 clear hn2s
 have hg:Blk w1 (w.heap.size + 2) 113 #[.map (some bm)]:=by rw [hw1,← hsz]; exact Blk.new _ _ _
 have hn3:New w w1:=by rw [hw1]; exact hn2.alloc _
 have hb1':Blk w1 w.heap.size 68 #[.pointer (some ⟨b,0,none⟩)]:=by rw [hw1]; exact hb1.alloc _
 have hb2':Blk w1 (w.heap.size + 1) 3 #[.int .i64 o]:=by rw [hw1]; exact hb2.alloc _
 clear hw1
 have h1:=h.new hn3
 obtain ⟨l,hm,hll,hgt⟩:=h1.map
 have hOl:=h.len
 have hNN:=h.hi
 go_wp2_with fail
 refine (sorted_any hg hm (by omega)).mono ?_
 rintro e w2 ⟨v,s,rfl,hs,hss,hsm,hsl,hn4⟩
 have h2:=h1.new hn4
 have hn5:=hn3.trans hn4
 have hpr:=held1_pred h2 o _ _ (hn4.blk hb1') (hn4.blk hb2')
 have hok:∀ x ∈ s,okI x:=fun x hx=>((hsm x).1 hx).1
 have hres:(s.filter fun x=>!(max (ownerP O x) 0 != o))=heldP O o:=by
  refine sorted_ext (hss.filter _) (heldP_sorted O o) fun x=>?_
  rw [List.mem_filter]
  have hx:∀ x,okI x→((get l x).isSome=true ↔ 0≤ownerP O x):=by
   intro x hx
   rw [hgt x hx]
   unfold cellAt
   by_cases h3:0≤ownerP O x
   · rw [if_pos h3]; simp [h3]
   · rw [if_neg h3]; simp [h3]
  constructor
  · rintro ⟨h3,h4⟩
    obtain ⟨h5,h6⟩:=(hsm x).1 h3
    have h7:=(hx x h5).1 h6
    have h8:ownerP O x=o:=by
     have:max (ownerP O x) 0=o:=by simpa using h4
     omega
    exact (mem_heldP (by omega)).2 h8
  · intro h3
    have h4:=heldP_range h3
    have ho:0≤o:=by
     rcases Int.lt_or_le o 0 with h5 | h5
     · unfold heldP at h3
       rw [if_pos h5] at h3
       cases h3
     · exact h5
    have h5:=(mem_heldP ho).1 h3
    have hxo:okI x:=WalkArith.wf_i64 (by omega)
    refine ⟨(hsm x).2 ⟨hxo,(hx x hxo).2 (by omega)⟩,?_⟩
    have:max (ownerP O x) 0=o:=by omega
    simp [this]
 have HRES:=Lib.hid hres
 have HPR:=Lib.hid hpr
 have HOK:=Lib.hid hok
 have hs2:=hn4.size
 have hs1:=hn3.size
 clear hres hpr hok hsm hgt hss
 obtain ⟨A,N0,C,rfl⟩:=own_shape hs
 have hs':Own (intE .i64) 3 w1.heap.size w2 (.slice A N0 C) s:=hs
 have hpr1:IsPredI w1 213 #[.pointer (some ⟨w.heap.size,0,none⟩),.pointer (some ⟨w.heap.size + 1,0,none⟩)] (fun k=>max (ownerP O k) 0 != o):=held1_pred h1 o _ _ hb1' hb2'
 have HPR1:=Lib.hid hpr1
 clear hpr1
 go_wp2_with fail
 refine (idelete_any 213 #[.pointer (some ⟨w.heap.size,0,none⟩),.pointer (some ⟨w.heap.size + 1,0,none⟩)] _ (enters _ _ _ Tryz.func213 (by kernel_rfl) rfl) _ s w1 _ HPR1.out hn4 hs HOK.out (by omega)).mono ?_
 rintro e w3 ⟨o3,rfl,ho3,hf3⟩
 rw [HRES.out] at ho3
 go_wp2
 go_ret
 exact ⟨_,rfl,ho3.mono hs1,New.two hn5 hf3 fun i hi=>by have:=(hs.block hi).1; omega⟩
end Go.Proofs.YtliimglbbiebiaaGreatDoor
end

section
namespace Go.Proofs.YtliimglbbiebiaaGreatDoor
open Go.RowKit
end Go.Proofs.YtliimglbbiebiaaGreatDoor
end

section
namespace Go.Proofs.YtliimglbbiebiaaGreatDoor
open Go.RowKit
theorem cellAt_relO {O:List Int} (hO:Ows O) (o k:Int):cellAt (relO O o) k=if k ∈ heldP O o then none else cellAt O k:=by
 unfold cellAt
 rw [ownerP_relO]
 by_cases ho:0≤o
 · by_cases h1:ownerP O k=o
   · rw [if_pos ((mem_heldP ho).2 h1),if_pos h1,if_neg (by omega)]
   · rw [if_neg (fun h=>h1 ((mem_heldP ho).1 h)),if_neg h1]
 · have hne:k ∉ heldP O o:=by unfold heldP; rw [if_pos (by omega)]; simp
   rw [if_neg hne]
   have hlo:=ownerP_lo hO k
   by_cases h1:ownerP O k=o
   · rw [if_pos h1,if_neg (by omega),if_neg (by omega)]
   · rw [if_neg h1]
theorem lrelease_any {w:World} {b bm:Nat} {O:List Int} {N:Int} (h:Tab w b bm O N) (o:Int) :
 Calls Tryz.prog 158 #[.pointer (some ⟨b,0,none⟩),.int .i64 o] w fun e w'=>e=.returned (.int .i64 (heldP O o).length)∧Tab w' b bm (relO O o) N∧TFr b bm w w':=by
 have hhl:=heldP_len O o
 have hOl:=h.len
 have hlt:=h.blk.lt
 go_enter Tryz.func158,Tryz.ntmps158
 go_wp2_with fail
 refine (lheld_any h o).mono ?_
 rintro e w1 ⟨v,rfl,hv,hn1⟩
 have h1:=h.new hn1
 obtain ⟨l,hm,hll,hg⟩:=h1.map
 have hokh:∀ x ∈ heldP O o,okI x:=fun x hx=>WalkArith.wf_i64 (by have:=heldP_range hx; omega)
 have HOK:=Lib.hid hokh
 have HRO:=Lib.hid (cellAt_relO h.ows o)
 generalize hH:heldP O o=H at *
 have HV:=Lib.hid hv
 have hs1:=hn1.size
 have hbk:=h1.blk
 have HEQ:=Lib.hid hH
 clear hokh hH
 obtain ⟨A,c,rfl,hc,hA⟩:=hv.rd.ints
 have HA:=Lib.hid hA
 clear hA hv
 go_wp2
 go_loopw [13] (fun vi wr=>∃ (k:Nat) (L:List (Int × Value)),k≤H.length∧vi=.int .i64 k∧HasMap iKeys wr bm L∧(L.length:Int)≤N∧Hid (∀ j,okI j→get L j=if j ∈ H.take k then none else cellAt O j)∧One bm w1 wr) (fun vi _=>H.length - (intOf vi).toNat)
 case atStart=>exact ⟨0,l,Nat.zero_le _,rfl,hm,hll,(fun j hj=>by rw [List.take_zero,if_neg (by simp)]; exact hg j hj),One.refl _ _⟩
 case round =>
  obtain ⟨k,L,hk,rfl,hL,hLl,HG,hO⟩:=hrel
  clear hg hm hll
  have hbr:Blk wr b 120 #[.int .i64 O.length,.map (some bm),.int .i64 N]:=hO.blk hbk h.ne
  by_cases hkl:k < H.length
  · obtain ⟨x,hx⟩:∃ x,H[k]? = some x:=⟨_,List.getElem?_eq_getElem hkl⟩
    obtain ⟨g,off,rfl,hcell⟩:=HA.out (by rintro rfl; simp at hkl)
    have hgb:w.heap.size≤g:=(HV.out.block rfl).1
    have hbml:=h.ltm
    have c0:wr.cell? ⟨g,off + k,none⟩=some (.int .i64 x):=Fr.cell hO (hcell k _ hx) (by show ¬ g=bm; omega)
    have c1:wr.cell? ⟨b,1,none⟩=some (.map (some bm)):=hbr.cell 1
    have hxo:=HOK.out x (List.mem_of_getElem? hx)
    have HX:=Lib.hid hx
    clear hcell hx
    go_wp2_with (at_delete; refine wpList_del (E:=iKeys) rfl _ _ 113 3 rfl Tryz.underlying113 hL x hxo rfl rfl ?_; intro w2 hL2 ho2)
    go_roundw
    case rel =>
     refine ⟨k + 1,del L x,by omega,by go_num,hL2,?_,?_,hO.trans ho2⟩
     · have:=List.length_filter_le (fun p:Int × Value=>decide (p.1≠x)) L
       show ((del L x).length:Int)≤N
       unfold del
       omega
     · intro j hj
       rw [take_snocI HX.out]
       by_cases hjx:j=x
       · subst hjx
         rw [get_del_same,if_pos (by simp)]
       · rw [get_del_other L hjx,HG.out j hj]
         by_cases hm:j ∈ H.take k
         · rw [if_pos hm,if_pos (List.mem_append_left _ hm)]
         · rw [if_neg hm,if_neg (by rw [List.mem_append]; rintro (h1 | h1); exact hm h1; exact hjx (List.mem_singleton.1 h1))]
    case measure=>simp [intOf]; omega
  · obtain rfl:k=H.length:=by omega
    have hfin:Tab wr b bm (relO O o) N:=by
     refine ⟨by rw [relO_len]; exact hbr,⟨L,hL,hLl,fun j hj=>?_⟩,relO_ows h.ows o,?_,by rw [relO_len]; exact h.len,h.hi⟩
     · have:=HG.out j hj
       rw [List.take_length] at this
       rw [HRO.out j]
       exact this
     · intro x hx
       unfold relO at hx
       obtain ⟨y,hy,rfl⟩:=List.mem_map.1 hx
       split
       · decide
       · exact h.ok y hy
    have HF:=Lib.hid hfin
    clear hfin
    go_wp2
    go_ret
    exact ⟨by rw [HEQ.out]; rfl,HF.out,(New.to hn1).trans' hO fun i hi e=>Or.inr e⟩
end Go.Proofs.YtliimglbbiebiaaGreatDoor
end

