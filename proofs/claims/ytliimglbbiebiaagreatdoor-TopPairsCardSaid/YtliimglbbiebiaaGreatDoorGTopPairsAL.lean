/- A part of the proof: Resp2, RspE, StepApp, Exec1, Exec2, Exec3, Exec4, Full1, Full2, Full3. -/
import Derived.Test.YtliimglbbiebiaaGreatDoorGTopPairsAK
import Derived.Test.YtliimglbbiebiaaGreatDoorGTopPairsAA
import Derived.Shelf.Abstract
import Derived.Test.YtliimglbbiebiaaGreatDoorGTopPairsAJ
set_option maxRecDepth 100000
set_option maxHeartbeats 6400000
section
namespace Go.Proofs.YtliimglbbiebiaaGreatDoor
open Go.RowKit Go.Maps
abbrev rV (k n:Int) (t:ByteArray) (st:Int) (x:ByteArray) (it fl uid sz:Int) (b:Value):Value:=.agg #[.int .i64 k,.int .u32 n,.string t,.int .i64 st,.string x,.int .i64 it,.int .u8 fl,.int .u32 uid,.int .u32 sz,b]
abbrev repV (t:ByteArray) (st:Int) (x:ByteArray):Value:=rV 9 0 t st x 0 0 0 0 (.slice none 0 0)
theorem loadR {w:World} {g:Nat} {a0 a1 a2 a3 a4 a5 a6 a7 a8 a9:Value} (h:Blk w g 53 #[a0,a1,a2,a3,a4,a5,a6,a7,a8,a9]):(loadVar 53 ⟨g,0,none⟩).run Tryz.prog w=.ok (.agg #[a0,a1,a2,a3,a4,a5,a6,a7,a8,a9]) w :=
 run_loadVar_row w g _ _ _ _ _ h Tryz.underlying53 rfl (by kernel_rfl)
theorem bequal_nil (w:World):Calls Tryz.prog 403 #[.slice none 0 0,.slice none 0 0] w fun e w'=>e=.returned (.bool true)∧w=w':=by
 go_enter Tryz.func403,Tryz.ntmps403
 go_wp2_with fail
 refine wp_loop_rounds 1 ?_
 rw [rounds_succ]
 go_wp2
 go_ret
 exact ⟨rfl,rfl⟩
theorem rsame_nil (k n:Int) (t:ByteArray) (st:Int) (x:ByteArray) (it fl uid sz:Int) (w:World) :
 Calls Tryz.prog 356 #[rV k n t st x it fl uid sz (.slice none 0 0),rV k n t st x it fl uid sz (.slice none 0 0)] w fun e w'=>e=.returned (.bool true)∧New w w':=by
 go_enter Tryz.func356,Tryz.ntmps356
 go_wp2_with (go_at_call 403; refine (bequal_nil _).mono ?_; rintro e w1 ⟨rfl,rfl⟩)
 go_ret
 exact ⟨rfl,((New.refl _).alloc _).alloc _⟩
theorem tagged2_any (t:ByteArray) (ht:tagS t=true) (hts:t.size≤1000000) (st:Int) (h0:0≤st) (h2:st≤2) (x:ByteArray) (hx:textS x=true) (hxs:x.size≤1000000) (w:World) :
 Calls Tryz.prog 412 #[repV t st x] w fun e w'=>e=.returned (.tuple #[rV 0 0 t st x 0 0 0 0 (.slice none 0 0),.bool true])∧New w w':=by
 have hat:=All_tag t hts
 rw [ht] at hat
 have hax:=All_text x hxs
 rw [hx] at hax
 have b0:Blk ((w.alloc (.cells #[.int .i64 9,.int .u32 0,.string t,.int .i64 st,.string x,.int .i64 0,.int .u8 0,.int .u32 0,.int .u32 0,.slice none 0 0] 53)).alloc (.cells #[.int .i64 0,.int .u32 0,.string ⟨#[]⟩,.int .i64 0,.string ⟨#[]⟩,.int .i64 0,.int .u8 0,.int .u32 0,.int .u32 0,.slice none 0 0] 53)) w.heap.size 53 #[.int .i64 9,.int .u32 0,.string t,.int .i64 st,.string x,.int .i64 0,.int .u8 0,.int .u32 0,.int .u32 0,.slice none 0 0]:=(Blk.new _ _ _).alloc _
 have r0:Blk ((w.alloc (.cells #[.int .i64 9,.int .u32 0,.string t,.int .i64 st,.string x,.int .i64 0,.int .u8 0,.int .u32 0,.int .u32 0,.slice none 0 0] 53)).alloc (.cells #[.int .i64 0,.int .u32 0,.string ⟨#[]⟩,.int .i64 0,.string ⟨#[]⟩,.int .i64 0,.int .u8 0,.int .u32 0,.int .u32 0,.slice none 0 0] 53)) (w.heap.size + 1) 53 #[.int .i64 0,.int .u32 0,.string ⟨#[]⟩,.int .i64 0,.string ⟨#[]⟩,.int .i64 0,.int .u8 0,.int .u32 0,.int .u32 0,.slice none 0 0]:=Blk.new1 _ _ _ _
 have n0:New w ((w.alloc (.cells #[.int .i64 9,.int .u32 0,.string t,.int .i64 st,.string x,.int .i64 0,.int .u8 0,.int .u32 0,.int .u32 0,.slice none 0 0] 53)).alloc (.cells #[.int .i64 0,.int .u32 0,.string ⟨#[]⟩,.int .i64 0,.string ⟨#[]⟩,.int .i64 0,.int .u8 0,.int .u32 0,.int .u32 0,.slice none 0 0] 53)):=((New.refl w).alloc _).alloc _
 go_enter Tryz.func412,Tryz.ntmps412
 go_wp2_with fail
 refine (hat _).mono ?_
 rintro e w1 ⟨rfl,m1⟩
 have b1:=m1.blk b0
 have r1:=m1.blk r0
 have n1:=n0.trans m1
 clear m1 b0 r0 n0
 have c2:w1.cell? ⟨w.heap.size,2,none⟩=some (.string t):=b1.cell 2
 have c3:w1.cell? ⟨w.heap.size,3,none⟩=some (.int .i64 st):=b1.cell 3
 have c4:w1.cell? ⟨w.heap.size,4,none⟩=some (.string x):=b1.cell 4
 go_wp2_with fail
 refine (hax _).mono ?_
 rintro e w2 ⟨rfl,m2⟩
 have b2:=m2.blk b1
 have r2:=m2.blk r1
 have n2:=n1.trans m2
 clear m2 b1 r1 n1 c2 c3 c4
 have c2:w2.cell? ⟨w.heap.size,2,none⟩=some (.string t):=b2.cell 2
 have c3:w2.cell? ⟨w.heap.size,3,none⟩=some (.int .i64 st):=b2.cell 3
 have c4:w2.cell? ⟨w.heap.size,4,none⟩=some (.string x):=b2.cell 4
 have f0:∀ i,w2.frozen? ⟨w.heap.size + 1,i,none⟩=false:=r2.frozen
 have q0:w2.cell? ⟨w.heap.size + 1,0,none⟩=some (.int .i64 0):=r2.cell 0
 have q1:w2.cell? ⟨w.heap.size + 1,1,none⟩=some (.int .u32 0):=r2.cell 1
 have q2:w2.cell? ⟨w.heap.size + 1,2,none⟩=some (.string ⟨#[]⟩):=r2.cell 2
 have q3:w2.cell? ⟨w.heap.size + 1,3,none⟩=some (.int .i64 0):=r2.cell 3
 have q4:w2.cell? ⟨w.heap.size + 1,4,none⟩=some (.string ⟨#[]⟩):=r2.cell 4
 have q5:w2.cell? ⟨w.heap.size + 1,5,none⟩=some (.int .i64 0):=r2.cell 5
 have q6:w2.cell? ⟨w.heap.size + 1,6,none⟩=some (.int .u8 0):=r2.cell 6
 have q7:w2.cell? ⟨w.heap.size + 1,7,none⟩=some (.int .u32 0):=r2.cell 7
 have q8:w2.cell? ⟨w.heap.size + 1,8,none⟩=some (.int .u32 0):=r2.cell 8
 have q9:w2.cell? ⟨w.heap.size + 1,9,none⟩=some (.slice none 0 0):=r2.cell 9
 go_wp2
 have hR:=(((((((((r2.set_ 0 (.int .i64 0)).set_ 1 (.int .u32 0)).set_ 2 (.string t)).set_ 3 (.int .i64 st)).set_ 4 (.string x)).set_ 5 (.int .i64 0)).set_ 6 (.int .u8 0)).set_ 7 (.int .u32 0)).set_ 8 (.int .u32 0)).set_ 9 (.slice none 0 0)
 have hF:=((((((((((One.refl (w.heap.size + 1) w2).set 0 (.int .i64 0)).set 1 (.int .u32 0)).set 2 (.string t)).set 3 (.int .i64 st)).set 4 (.string x)).set 5 (.int .i64 0)).set 6 (.int .u8 0)).set 7 (.int .u32 0)).set 8 (.int .u32 0)).set 9 (.slice none 0 0)
 refine bodyPost_ret (results_cellt rfl _ _ rfl rfl (loadR hR)) rfl ⟨?_,New.one n2 hF (by omega)⟩
 simp
theorem zeroForm (w:World):(zeroValue 428).run Tryz.prog w=.ok (.agg #[.nilFunc,.nilFunc]) w:=by kernel_rfl
theorem okI9:iKeys.ok 9:=by show (Lit.int .i64 9).wf=true; decide
theorem valid_tagged (t:ByteArray) (ht:tagS t=true) (hts:t.size≤1000000) (st:Int) (h0:0≤st) (h2:st≤2) (x:ByteArray) (hx:textS x=true) (hxs:x.size≤1000000) (w:World) :
 Calls Tryz.prog 315 #[repV t st x] w fun e w'=>e=.returned (.bool true)∧New w w':=by
 obtain ⟨w0,hw0⟩:∃ w0,w0=w.alloc (.cells #[.int .i64 9,.int .u32 0,.string t,.int .i64 st,.string x,.int .i64 0,.int .u8 0,.int .u32 0,.int .u32 0,.slice none 0 0] 53):=⟨_,rfl⟩
 have b0:Blk w0 w.heap.size 53 #[.int .i64 9,.int .u32 0,.string t,.int .i64 st,.string x,.int .i64 0,.int .u8 0,.int .u32 0,.int .u32 0,.slice none 0 0]:=hw0 ▸ Blk.new _ _ _
 have n0:New w w0:=hw0 ▸ (New.refl w).alloc _
 have c0:w0.cell? ⟨w.heap.size,0,none⟩=some (.int .i64 9):=b0.cell 0
 have l0:=b0.lt
 go_enter Tryz.func315,Tryz.ntmps315
 go_wp2_with fail
 rw [← hw0]
 clear hw0
 go_region_held3 (fun W=>W.cell? ⟨w.heap.size,0,none⟩=some (.int .i64 9)) (first | go_keep | assumption | exact S0 _ _) ((first
  | (go_at_call 316
     refine (forms_any _).mono ?_
     rintro e w2 ⟨rfl,m2,g1,g2,g3,g6,g7,g8,g10,hB2,hM2⟩
     have hnq:New w0 w2:=Fr.trans (by repeat' first | exact New.refl _ | apply Fr.alloc | apply Fr.drewN | apply Fr.drew) m2
     have c2:w2.cell? ⟨w.heap.size,0,none⟩=some (.int .i64 9):=Fr.cell hnq c0 id
     have s2:=hnq.size
     have S0:∀ u v,((w2.setCell ⟨w0.heap.size,0,none⟩ u).setCell ⟨w0.heap.size,1,none⟩ v).cell? ⟨w.heap.size,0,none⟩=some (.int .i64 9):=fun u v=>Fr.cell (((One.refl w0.heap.size w2).set 0 u).set 1 v) c2 (by show ¬ w.heap.size=w0.heap.size; omega)
     have hl:=hM2.run_look_ok (t:=429) (e:=428) Tryz.underlying429 (zeroForm w2) okI9
     change (Instr.lookup 429 _ (.int .i64 9) true).run Tryz.prog w2=.ok (.tuple #[tagF,.bool true]) w2 at hl
     have hl':∀ o,(Instr.lookup 429 _ (.int .i64 9) true).run Tryz.prog (w2.alloc o)=.ok (.tuple #[tagF,.bool true]) (w2.alloc o):=fun o=>(hM2.alloc o).run_look_ok (t:=429) (e:=428) Tryz.underlying429 (zeroForm _) okI9
     simp only [World.size_alloc,World.size_drew] at hl hl'
     try (have y:=m2.blk (Blk.new w0.drew 428 #[.nilFunc,.nilFunc]); simp only [World.size_drew] at y; have y0:w2.cell? ⟨w0.heap.size,0,none⟩=some .nilFunc:=y.cell 0; have y1:w2.cell? ⟨w0.heap.size,1,none⟩=some .nilFunc:=y.cell 1; have z0:w2.frozen? ⟨w0.heap.size,0,none⟩=false:=y.frozen 0; have z1:w2.frozen? ⟨w0.heap.size,1,none⟩=false:=y.frozen 1))
  | fail))
 all_goals
  first
  | (have n2:New w0 ((w2.setCell ⟨w0.heap.size,0,none⟩ (.func (.func 411) #[] #[])).setCell ⟨w0.heap.size,1,none⟩ (.func (.func 412) #[] #[])):=New.one hnq (((One.refl w0.heap.size w2).set 0 _).set 1 _) (Nat.le_refl _)
     have e1:((w2.setCell ⟨w0.heap.size,0,none⟩ (.func (.func 411) #[] #[])).setCell ⟨w0.heap.size,1,none⟩ (.func (.func 412) #[] #[])).cell? ⟨w0.heap.size,1,none⟩=some (.func (.func 412) #[] #[]):=((y.set_ 0 _).set_ 1 _).cell 1
     have b2:=n2.blk b0
     generalize ((w2.setCell ⟨w0.heap.size,0,none⟩ (.func (.func 411) #[] #[])).setCell ⟨w0.heap.size,1,none⟩ (.func (.func 412) #[] #[]))=w3 at n2 e1 b2 ⊢)
  | (have n2:New w0 (w2.alloc (.cells #[.func (.func 411) #[] #[],.func (.func 412) #[] #[]] 428)):=hnq.alloc _
     have e1:(w2.alloc (.cells #[.func (.func 411) #[] #[],.func (.func 412) #[] #[]] 428)).cell? ⟨w2.heap.size,1,none⟩=some (.func (.func 412) #[] #[]):=(Blk.new _ _ _).cell 1
     have b2:=n2.blk b0
     generalize (w2.alloc (.cells #[.func (.func 411) #[] #[],.func (.func 412) #[] #[]] 428))=w3 at n2 e1 b2 ⊢)
  have n02:=n0.trans n2
  obtain ⟨k0,k1,k2,k3,k4,k5,k6,k7,k8,k9⟩:=b2.all10
  go_wp2_with fail
  refine (tagged2_any t ht hts st h0 h2 x hx hxs _).mono ?_
  rintro e w4 ⟨rfl,m4⟩
  have b4:=m4.blk b2
  have n4:=n02.trans m4
  have l4:=b4.lt
  clear k0 k1 k2 k3 k4 k5 k6 k7 k8 k9
  obtain ⟨k0,k1,k2,k3,k4,k5,k6,k7,k8,k9⟩:=b4.all10
  go_wp2_with (go_at_call 356; refine (rsame_nil 9 0 t st x 0 0 0 0 _).mono ?_; rintro e w5 ⟨rfl,m5⟩)
  go_ret
  exact ⟨rfl,(n4.alloc _).trans m5⟩
end Go.Proofs.YtliimglbbiebiaaGreatDoor
end

section
namespace Go.Proofs.YtliimglbbiebiaaGreatDoor
open Go.RowKit
structure Rsp where
 k:Int
 n:Int
 t:ByteArray
 st:Int
 x:ByteArray
 it:Int
 fl:Int
 uid:Int
 sz:Int
 A:Option Addr
 bn:Nat
 bc:Nat
def Rsp.val (r:Rsp):Value:=.agg #[.int .i64 r.k,.int .u32 r.n,.string r.t,.int .i64 r.st,.string r.x,.int .i64 r.it,.int .u8 r.fl,.int .u32 r.uid,.int .u32 r.sz,.slice r.A r.bn r.bc]
def rspE:Elem Rsp where
 enc r:=[.int .i64 r.k,.int .u32 r.n,.string r.t,.int .i64 r.st,.string r.x,.int .i64 r.it,.int .u8 r.fl,.int .u32 r.uid,.int .u32 r.sz,.slice r.A r.bn r.bc]
 sz:=10
 len _:=rfl
 one x u hu:=by simp at hu; rcases hu with rfl | rfl | rfl | rfl | rfl | rfl | rfl | rfl | rfl | rfl <;> rfl
 pos:=by omega
theorem rsp_info:(Tryz.prog.info? 53).map (fun i=>(i.zero,i.size,i.bytes))=some (some (.agg #[.int .i64 0,.int .u32 0,.string ⟨#[]⟩,.int .i64 0,.string ⟨#[]⟩,.int .i64 0,.int .u8 0,.int .u32 0,.int .u32 0,.slice none 0 0]),10,104):=by kernel_rfl
abbrev repR (t:ByteArray) (st:Int) (x:ByteArray):Rsp:=⟨9,0,t,st,x,0,0,0,0,none,0,0⟩
end Go.Proofs.YtliimglbbiebiaaGreatDoor
end

section
namespace Go.Proofs.YtliimglbbiebiaaGreatDoor
open Go.RowKit
section
variable {P:Program} {α:Type} {E:Elem α} {e:TypeId} {base:Nat} {w:World} {v:Value} {l:List α}
variable {ops:Array Oper} {rest:List Oper} {o:Oper} {a:Act} {Q:Exit→Act→World→Prop} {K:Act→World→Prop}
theorem step_append_list {F:Prop} (hgd:o.guard=none) (s x:Operand) (t:TypeId) (ho:o.op=.call { callee:=.builtin .append,args:=#[s,x],argTypes:=#[t,t] })
 {i:TypeInfo} {z:Value} {bytes:Nat} (ht:P.underlying t=some (.slice e)) (hi:P.info? e=some i) (hz:i.zero=some z)
 (hsize:i.size=E.sz) (hby:i.bytes=bytes) (hzs:z.cells.size=E.sz)
 (hs:a.eval s=v) {u:Value} (hx:a.eval x=u) (m:List α) (h:Own E e base w v l) (hu:Rd E w u m)
 (h63:l.length + m.length≤maxLen) (hbytes:(l.length + m.length) * bytes≤140737488355328) (hbase:base≤w.heap.size)
 (hK:∀ A c w',Own E e base w' (.slice A (l ++ m).length c) (l ++ m)→Fr (fun k=>v.ownBlock=some k) w w'→(Value.ownBlock (.slice A (l ++ m).length c)=v.ownBlock∨Value.ownBlock (.slice A (l ++ m).length c)=some w.heap.size)→K (a.put o.dst (.slice A (l ++ m).length c)) w') :
 if Region.wanted o (yielded ops a.tmps)=true then Oper.wp P o a w K Q else F:=by
 have hw:Region.wanted o (yielded ops a.tmps)=true:=by simp [Region.wanted,hgd]
 rw [if_pos hw]
 obtain ⟨v',w',hr,h1,h2,h3⟩:=run_append_list (P:=P) t o.type ht hi hz hsize hby hzs h hu h63 hbytes hbase
 obtain ⟨A,c,rfl,_⟩:=h1.form
 unfold Oper.wp execOp
 simp only [ho,resolve,invoke,builtin,Sem.run_bind,Sem.run_pure,Result.andThen_ok,List.map_toArray,List.map_cons,List.map_nil,hs,hx,hr]
 exact hK A c w' h1 h2 h3
end
end Go.Proofs.YtliimglbbiebiaaGreatDoor
end

section
namespace Go.Proofs.YtliimglbbiebiaaGreatDoor
open Go.RowKit Go.Maps
abbrev Ses (w:World) (x:Nat) (bx:Value) (id:Int) (pv:Option Addr) (dn:Bool):Prop:=Blk w x 98 #[bx,.int .i64 id,.pointer pv,.bool dn]
theorem xnew_any (s:Addr) (id:Int) (h:0≤id) (w:World):Calls Tryz.prog 16 #[.pointer (some s),.int .i64 id] w fun e w'=>e=.returned (.pointer (some ⟨w.heap.size,0,none⟩))∧w'=w.alloc (.cells #[.pointer (some s),.int .i64 id,.pointer none,.bool false] 98):=by
 have h0:¬ id < 0:=by omega
 go_enter Tryz.func16,Tryz.ntmps16
 go_wp2
 go_ret
 exact ⟨rfl,rfl⟩
theorem xid_any (x:Nat) (bx:Value) (id:Int) (pv:Option Addr) (dn:Bool) (w:World) (h:Ses w x bx id pv dn):Calls Tryz.prog 114 #[.pointer (some ⟨x,0,none⟩)] w fun e w'=>e=.returned (.int .i64 id)∧w'=w:=by
 have c1:w.cell? ⟨x,1,none⟩=some (.int .i64 id):=h.cell 1
 go_enter Tryz.func114,Tryz.ntmps114
 go_wp2
 go_ret
 exact ⟨rfl,rfl⟩
theorem xview_any (x:Nat) (bx:Value) (id:Int) (pv:Option Addr) (dn:Bool) (w:World) (h:Ses w x bx id pv dn):Calls Tryz.prog 18 #[.pointer (some ⟨x,0,none⟩)] w fun e w'=>e=.returned (.pointer pv)∧w'=w:=by
 have c2:w.cell? ⟨x,2,none⟩=some (.pointer pv):=h.cell 2
 go_enter Tryz.func18,Tryz.ntmps18
 go_wp2
 go_ret
 exact ⟨rfl,rfl⟩
theorem xdone_any (x:Nat) (bx:Value) (id:Int) (pv:Option Addr) (dn:Bool) (w:World) (h:Ses w x bx id pv dn):Calls Tryz.prog 108 #[.pointer (some ⟨x,0,none⟩)] w fun e w'=>e=.returned (.bool dn)∧w'=w:=by
 have c3:w.cell? ⟨x,3,none⟩=some (.bool dn):=h.cell 3
 go_enter Tryz.func108,Tryz.ntmps108
 go_wp2
 go_ret
 exact ⟨rfl,rfl⟩
theorem flush_none (x:Nat) (bx:Value) (id:Int) (dn g:Bool) (w:World) (h:Ses w x bx id none dn):Calls Tryz.prog 88 #[.pointer (some ⟨x,0,none⟩),.bool g] w fun e w'=>e=.returned (.slice none 0 0)∧w'=w:=by
 have c2:w.cell? ⟨x,2,none⟩=some (.pointer none):=h.cell 2
 go_enter Tryz.func88,Tryz.ntmps88
 go_wp2
 go_ret
 exact ⟨rfl,rfl⟩
theorem add_rsp (OB base:Nat) (u v:Value) (l m:List Rsp) (w:World) (hb:Blk w OB 50 #[v]) (ho:Own rspE 53 base w v l) (hu:Rd rspE w u m) (hl:l.length + m.length≤1000000000) (hbase:base≤w.heap.size) :
 Calls Tryz.prog 39 #[u,.pointer (some ⟨OB,0,none⟩)] w fun e w'=>e=.returned (.tuple #[])∧∃ v',Blk w' OB 50 #[v']∧Own rspE 53 base w' v' (l ++ m)∧Fr (fun k=>k=OB∨v.ownBlock=some k) w w'∧(v'.ownBlock=v.ownBlock∨∃ g,v'.ownBlock=some g∧w.heap.size≤g):=by
 obtain ⟨i0,hi,hz0,hz1,hz2⟩:=info_parts rsp_info
 obtain ⟨vA,vc,rfl,hvc⟩:=ho.form
 have c0:w.cell? ⟨OB,0,none⟩=some (.slice vA l.length vc):=hb.cell 0
 have hne:∀ g,(Value.slice vA l.length vc).ownBlock=some g→g≠OB:=fun g hg e=>ho.blk_ne hb (by decide) (by rw [← e]; exact hg)
 have HNE:=Lib.hid hne
 clear hne
 go_enter Tryz.func39,Tryz.ntmps39
 go_wp2_with (at_builtin; refine wpList_append (E:=rspE) rfl _ _ _ rfl Tryz.underlying50 hi hz0 hz1 hz2 rfl ho rfl hu rfl (by unfold maxLen; omega) (by omega) hbase ?_; intro v1 w1 hv1 hf1 hl1; have hb1:=Fr.blk hf1 hb (fun hs=>HNE.out _ hs rfl); have c1:w1.cell? ⟨OB,0,none⟩=some (.slice vA l.length vc):=hb1.cell 0; have f1:w1.frozen? ⟨OB,0,none⟩=false:=hb1.frozen 0; have s1:=hf1.size; obtain ⟨A2,C2,rfl,_⟩:=hv1.form)
 go_end0
 rw [List.length_append] at hv1 hl1
 have hg1:Fr (fun k=>k=OB∨(Value.slice vA l.length vc).ownBlock=some k) w w1:=hf1.mono fun k _ hk=>.inr hk
 have hbl:=hb.lt
 refine ⟨rfl,_,hb1.set_ 0 _,hv1.fr ((One.refl OB w1).set 0 _) (fun g hg e=>?_),hg1.setCell (p:=⟨OB,0,none⟩) (fun _=>.inl rfl) _,?_⟩
 · have e:g=OB:=e
   exact hv1.blk_ne hb1 (by decide) (by rw [← e]; exact hg)
 · rcases hl1 with h | h
   · exact .inl h
   · exact .inr ⟨_,h,Nat.le_refl _⟩
theorem reply_any (t:ByteArray) (st:Int) (x:ByteArray) (w:World):Calls Tryz.prog 42 #[.string t,.int .i64 st,.string x] w fun e w'=>e=.returned (repV t st x)∧New w w':=by
 go_enter Tryz.func42,Tryz.ntmps42
 go_wp2
 exact bodyPost_ret (results_cell1 rfl _ _ rfl (loadR (Blk.new _ _ _))) rfl ⟨rfl,(New.refl w).alloc _⟩
def opV (f:Nat) (b:Bool):Value:=.agg #[.func (.func f) #[] #[],.bool b]
def opsL:List (Int × Value):=put (put (put (put (put (put (put (put [] 1 (opV 65 false)) 2 (opV 66 false)) 5 (opV 67 false)) 6 (opV 68 false)) 3 (opV 69 true)) 4 (opV 70 true)) 7 (opV 71 true)) 8 (opV 72 true)
theorem operations_any (w:World):Calls Tryz.prog 40 #[] w fun e w'=>e=.returned (.map (some w.heap.size))∧HasMap iKeys w' w.heap.size opsL∧New w w':=by
 have hmm:=@run_makeMap Tryz.prog
 have h00:=HasMap.made iKeys w
 go_enter Tryz.func40,Tryz.ntmps40
 go_wp2_with (first
  | (refine wpList_ins (E:=iKeys) rfl _ _ _ 104 103 rfl Tryz.underlying104 h00 (Nat.lt_of_le_of_lt (Nat.le_refl 0) (by unfold maxLen; decide)) 1 (by show (Lit.int .i64 1).wf=true; decide) (opV 65 false) rfl rfl rfl ?_; intro zw1 zm1 zo1)
  | (refine wpList_ins (E:=iKeys) rfl _ _ _ 104 103 rfl Tryz.underlying104 zm1 (Nat.lt_of_le_of_lt (ins_len (Nat.le_refl 0)) (by unfold maxLen; decide)) 2 (by show (Lit.int .i64 2).wf=true; decide) (opV 66 false) rfl rfl rfl ?_; intro zw2 zm2 zo2)
  | (refine wpList_ins (E:=iKeys) rfl _ _ _ 104 103 rfl Tryz.underlying104 zm2 (Nat.lt_of_le_of_lt (ins_len (ins_len (Nat.le_refl 0))) (by unfold maxLen; decide)) 5 (by show (Lit.int .i64 5).wf=true; decide) (opV 67 false) rfl rfl rfl ?_; intro zw3 zm3 zo3)
  | (refine wpList_ins (E:=iKeys) rfl _ _ _ 104 103 rfl Tryz.underlying104 zm3 (Nat.lt_of_le_of_lt (ins_len (ins_len (ins_len (Nat.le_refl 0)))) (by unfold maxLen; decide)) 6 (by show (Lit.int .i64 6).wf=true; decide) (opV 68 false) rfl rfl rfl ?_; intro zw4 zm4 zo4)
  | (refine wpList_ins (E:=iKeys) rfl _ _ _ 104 103 rfl Tryz.underlying104 zm4 (Nat.lt_of_le_of_lt (ins_len (ins_len (ins_len (ins_len (Nat.le_refl 0))))) (by unfold maxLen; decide)) 3 (by show (Lit.int .i64 3).wf=true; decide) (opV 69 true) rfl rfl rfl ?_; intro zw5 zm5 zo5)
  | (refine wpList_ins (E:=iKeys) rfl _ _ _ 104 103 rfl Tryz.underlying104 zm5 (Nat.lt_of_le_of_lt (ins_len (ins_len (ins_len (ins_len (ins_len (Nat.le_refl 0)))))) (by unfold maxLen; decide)) 4 (by show (Lit.int .i64 4).wf=true; decide) (opV 70 true) rfl rfl rfl ?_; intro zw6 zm6 zo6)
  | (refine wpList_ins (E:=iKeys) rfl _ _ _ 104 103 rfl Tryz.underlying104 zm6 (Nat.lt_of_le_of_lt (ins_len (ins_len (ins_len (ins_len (ins_len (ins_len (Nat.le_refl 0))))))) (by unfold maxLen; decide)) 7 (by show (Lit.int .i64 7).wf=true; decide) (opV 71 true) rfl rfl rfl ?_; intro zw7 zm7 zo7)
  | (refine wpList_ins (E:=iKeys) rfl _ _ _ 104 103 rfl Tryz.underlying104 zm7 (Nat.lt_of_le_of_lt (ins_len (ins_len (ins_len (ins_len (ins_len (ins_len (ins_len (Nat.le_refl 0)))))))) (by unfold maxLen; decide)) 8 (by show (Lit.int .i64 8).wf=true; decide) (opV 72 true) rfl rfl rfl ?_; intro zw8 zm8 zo8))
 go_ret
 exact ⟨rfl,zm8,New.one ((New.refl w).alloc _) (zo1.trans (zo2.trans (zo3.trans (zo4.trans (zo5.trans (zo6.trans (zo7.trans zo8))))))) (Nat.le_refl _)⟩
end Go.Proofs.YtliimglbbiebiaaGreatDoor
end

section
namespace Go.Proofs.YtliimglbbiebiaaGreatDoor
open Go.RowKit Go.Maps
structure Cmd where
 t:ByteArray
 k:Int
 m:ByteArray
 sA:Option Addr
 sn:Nat
 sc:Nat
 it:Int
 mo:Int
 si:Bool
 fl:Int
 dA:Option Addr
 dn:Nat
 dc:Nat
abbrev Cmd.val (c:Cmd):Value:=.agg #[.string c.t,.int .i64 c.k,.string c.m,.slice c.sA c.sn c.sc,.int .i64 c.it,.int .i64 c.mo,.bool c.si,.int .u8 c.fl,.slice c.dA c.dn c.dc]
theorem loadOut {w:World} {g:Nat} {a b:Value} (h:Blk w g 108 #[a,b]):(loadVar 108 ⟨g,0,none⟩).run Tryz.prog w=.ok (.agg #[a,b]) w :=
 run_loadVar_row w g _ _ _ _ _ h Tryz.underlying108 rfl (by kernel_rfl)
def noopS:ByteArray:=⟨#[78,79,79,80,32,99,111,109,112,108,101,116,101,100]⟩
abbrev addV (OB:Nat):Value:=.func (.func 39) #[] #[.pointer (some ⟨OB,0,none⟩)]
theorem noop_none (x OB base:Nat) (bx:Value) (id:Int) (dn:Bool) (c:Cmd) (w:World) (hx:Ses w x bx id none dn) (hb:Blk w OB 50 #[.slice none 0 0]) (hbase:base≤w.heap.size) :
 Calls Tryz.prog 65 #[.pointer (some ⟨x,0,none⟩),c.val,addV OB] w fun e w'=>e=.returned (.agg #[.int .i64 0,.string noopS])∧∃ v,Blk w' OB 50 #[v]∧Own rspE 53 base w' v []∧Fr (fun k=>k=OB) w w':=by
 obtain ⟨w0,hw0⟩:∃ w0,w0=(w.alloc (.cells #[.string c.t,.int .i64 c.k,.string c.m,.slice c.sA c.sn c.sc,.int .i64 c.it,.int .i64 c.mo,.bool c.si,.int .u8 c.fl,.slice c.dA c.dn c.dc] 47)).alloc (.cells #[.int .i64 0,.string ⟨#[]⟩] 108):=⟨_,rfl⟩
 have n0:New w w0:=hw0 ▸ ((New.refl w).alloc _).alloc _
 have r0:Blk w0 (w.heap.size + 1) 108 #[.int .i64 0,.string ⟨#[]⟩]:=hw0 ▸ Blk.new1 _ _ _ _
 have hx0:=n0.blk hx
 have hb0:=n0.blk hb
 have s0:=n0.size
 have hbl:=hb.lt
 go_enter Tryz.func65,Tryz.ntmps65
 go_wp2_with fail
 rw [← hw0]
 clear hw0
 refine (flush_none x bx id dn true w0 hx0).mono ?_
 rintro e w1 ⟨rfl,rfl⟩
 go_wp2_with fail
 refine (add_rsp OB base (.slice none 0 0) (.slice none 0 0) [] [] w1 hb0 (Own.nil _ _ _ _) (Rd.nil _ _) (by simp) (by omega)).mono ?_
 rintro e w2 ⟨rfl,v,hb2,ho2,hf2,_⟩
 have hf2':Fr (fun k=>k=OB) w1 w2:=hf2.mono fun k _ hk=>by rcases hk with hk | hk; exact hk; cases hk
 have r2:=Fr.blk hf2' r0 (by omega)
 obtain ⟨q0,q1⟩:=r2.all2
 have f2:=r2.froz
 go_wp2
 have hR:=r2.over2 (.int .i64 0) (.string noopS)
 refine bodyPost_ret (results_cell1 rfl _ _ rfl (loadOut hR)) rfl ⟨rfl,v,(hb2.far (p:=⟨w.heap.size + 1,0,none⟩) (by show OB≠w.heap.size + 1; omega) _).far (p:=⟨w.heap.size + 1,1,none⟩) (by show OB≠w.heap.size + 1; omega) _,?_,?_⟩
 · refine ho2.fr (One.over2 w2 (w.heap.size + 1) _ _) fun g hg e=>?_
   have e:g=w.heap.size + 1:=e
   exact ho2.blk_ne r2 (by decide) (by rw [← e]; exact hg)
 · exact Fr.setCell (Fr.setCell (Fr.trans' (n0.mono fun _ _ h=>h.elim) hf2' fun _ _ h=>h) (p:=⟨w.heap.size + 1,0,none⟩) (fun h=>absurd h (by simp)) _) (p:=⟨w.heap.size + 1,1,none⟩) (fun h=>absurd h (by simp)) _
end Go.Proofs.YtliimglbbiebiaaGreatDoor
end

section
namespace Go.Proofs.YtliimglbbiebiaaGreatDoor
open Go.RowKit Go.Maps
theorem zeroOp (w:World):(zeroValue 103).run Tryz.prog w=.ok (.agg #[.nilFunc,.bool false]) w:=by kernel_rfl
theorem rd_one' {α:Type} {E:Elem α} {w:World} {g:Nat} {t:TypeId} {x:α} (h:Blk w g t (E.enc x).toArray):Rd E w (.slice (some ⟨g,0,none⟩) 1 1) [x]:=by
 refine ⟨_,1,rfl,Nat.le_refl _,fun _=>⟨g,0,rfl,fun i y hy j u hu=>?_⟩⟩
 have hi:i=0:=by
  rcases i with _ | i
  · rfl
  · simp at hy
 subst hi
 obtain rfl:x=y:=by simpa using hy
 have:=h.cell j
 rw [Nat.zero_mul,Nat.zero_add,Nat.zero_add]
 rw [this]
 simpa using hu
theorem ops_get (k:Int) (f:Nat) (sel:Bool) (hop:get opsL k=some (opV f sel)) (hok:iKeys.ok k) (W:World):Calls Tryz.prog 40 #[] W fun e w2=>∃ m,e=.returned (.map (some m))∧New W w2 ∧
 (Instr.lookup 104 (.map (some m)) (.int .i64 k) false).run Tryz.prog w2=.ok (.agg #[.func (.func f) #[] #[],.bool sel]) w2∧∀ o,(Instr.lookup 104 (.map (some m)) (.int .i64 k) false).run Tryz.prog (w2.alloc o)=.ok (.agg #[.func (.func f) #[] #[],.bool sel]) (w2.alloc o):=by
 refine (operations_any W).mono ?_
 rintro e w2 ⟨rfl,hM2,m2⟩
 refine ⟨_,rfl,m2,?_,fun o=>?_⟩
 · have hl:=hM2.run_look (t:=104) (e:=103) Tryz.underlying104 (zeroOp w2) hok
   rw [hop] at hl
   exact hl
 · have hl:=(hM2.alloc o).run_look (t:=104) (e:=103) Tryz.underlying104 (zeroOp _) hok
   rw [hop] at hl
   exact hl
theorem xdo_any (x:Nat) (bx:Value) (id:Int) (pv:Option Addr) (c:Cmd) (f:Nat) (sel:Bool) (S:Nat→Prop) (X:Int→ByteArray→List Rsp→World→Prop) (w:World)
 (hE:∀ args w,(callFunc f args).run Tryz.prog w=.ok (.enter f args) w)
 (hx:Ses w x bx id pv false) (hop:get opsL c.k=some (opV f sel)) (hok:iKeys.ok c.k) (hsel:sel=true→pv≠none)
 (hV:∀ W,New w W→Calls Tryz.prog 38 #[c.val] W fun e W'=>e=.returned (.bool true)∧New W W')
 (hf:∀ OB W,New w W→w.heap.size≤OB→Blk W OB 50 #[.slice none 0 0]→Calls Tryz.prog f #[.pointer (some ⟨x,0,none⟩),c.val,addV OB] W fun e W'=>∃ st tx v l,e=.returned (.agg #[.int .i64 st,.string tx])∧Blk W' OB 50 #[v]∧Own rspE 53 w.heap.size W' v l∧l.length≤300000000∧Fr (fun k=>k=OB∨S k) W W'∧X st tx l W')
 (hS:∀ k,S k→k < w.heap.size)
 (hX:∀ st tx l v A B,X st tx l A→Own rspE 53 w.heap.size A v l→Fr (fun k=>v.ownBlock=some k) A B→X st tx l B) :
 Calls Tryz.prog 17 #[.pointer (some ⟨x,0,none⟩),c.val] w fun e w'=>∃ st tx v l,e=.returned v∧Own rspE 53 w.heap.size w' v (l ++ [repR c.t st tx])∧Fr S w w'∧X st tx l w':=by
 obtain ⟨i0,hi,hz0,hz1,hz2⟩:=info_parts rsp_info
 have hmf:∀ (fn:Fn) (first cap:Array Value) (w:World),(Instr.makeFunc fn first cap).run Tryz.prog w=.ok (.func fn first cap) w:=fun _ _ _ _=>rfl
 obtain ⟨w0,hw0⟩:∃ w0,w0=w.alloc (.cells #[.string c.t,.int .i64 c.k,.string c.m,.slice c.sA c.sn c.sc,.int .i64 c.it,.int .i64 c.mo,.bool c.si,.int .u8 c.fl,.slice c.dA c.dn c.dc] 47):=⟨_,rfl⟩
 have n0:New w w0:=hw0 ▸ (New.refl w).alloc _
 have b0:Blk w0 w.heap.size 47 #[.string c.t,.int .i64 c.k,.string c.m,.slice c.sA c.sn c.sc,.int .i64 c.it,.int .i64 c.mo,.bool c.si,.int .u8 c.fl,.slice c.dA c.dn c.dc]:=hw0 ▸ Blk.new _ _ _
 have hx0:=n0.blk hx
 obtain ⟨x0,x1,x2,x3⟩:=hx0.all4
 obtain ⟨k0,k1,k2,k3,k4,k5,k6,k7,k8⟩:=b0.all9
 have HF:=Lib.hid hf
 have HX:=Lib.hid hX
 have HS:=Lib.hid hS
 have HV:=Lib.hid hV
 have HSEL:=Lib.hid hsel
 have HG:=ops_get c.k f sel hop hok
 clear hf hX hS hV hsel hop
 subst hw0
 go_enter Tryz.func17,Tryz.ntmps17
 go_wp2_with fail
 refine (HV.out _ n0).mono ?_
 rintro e w1 ⟨rfl,m1⟩
 have n1:=n0.trans m1
 have b1:=m1.blk b0
 have hx1:=m1.blk hx0
 have l1:=b1.lt
 clear k0 k1 k2 k3 k4 k5 k6 k7 k8 x0 x1 x2 x3 b0 hx0 n0 m1
 go_wp2_with fail
 have nA:=n1.alloc (.cells #[.slice none 0 0] 50)
 have bA:=b1.alloc (.cells #[.slice none 0 0] 50)
 have hxA:=hx1.alloc (.cells #[.slice none 0 0] 50)
 have oA:=Blk.new w1 50 #[.slice none 0 0]
 have sA:(w1.alloc (.cells #[.slice none 0 0] 50)).heap.size=w1.heap.size + 1:=by rw [World.size_alloc]
 generalize (w1.alloc (.cells #[.slice none 0 0] 50))=wA at *
 generalize w1.heap.size=OB at *
 clear b1 hx1 n1 w1
 have kA:wA.cell? ⟨w.heap.size,1,none⟩=some (.int .i64 c.k):=bA.cell 1
 have hlA:w.heap.size < wA.heap.size:=by omega
 have HSA:=Lib.hid sA
 clear sA
 go_region_held3 (fun W=>W.cell? ⟨w.heap.size,1,none⟩=some (.int .i64 c.k)) (first | go_keep | assumption | exact S0 _ _) ((first
  | (go_at_call 40
     refine (HG _).mono ?_
     rintro e w2 ⟨m,rfl,m2,hl,hl'⟩
     have hnq:New wA w2:=Fr.trans (by repeat' first | exact New.refl _ | apply Fr.alloc | apply Fr.drewN | apply Fr.drew) m2
     have c2:w2.cell? ⟨w.heap.size,1,none⟩=some (.int .i64 c.k):=(hnq.blk bA).cell 1
     have s2:=hnq.size
     have S0:∀ u v,((w2.setCell ⟨wA.heap.size,0,none⟩ u).setCell ⟨wA.heap.size,1,none⟩ v).cell? ⟨w.heap.size,1,none⟩=some (.int .i64 c.k):=fun u v=>Fr.cell (((One.refl wA.heap.size w2).set 0 u).set 1 v) c2 (by show ¬ w.heap.size=wA.heap.size; omega)
     try (have y:=m2.blk (Blk.new wA.drew 103 #[.nilFunc,.bool false]); simp only [World.size_drew] at y; have y0:w2.cell? ⟨wA.heap.size,0,none⟩=some .nilFunc:=y.cell 0; have y1:w2.cell? ⟨wA.heap.size,1,none⟩=some (.bool false):=y.cell 1; have z0:w2.frozen? ⟨wA.heap.size,0,none⟩=false:=y.frozen 0; have z1:w2.frozen? ⟨wA.heap.size,1,none⟩=false:=y.frozen 1))
  | fail))
 all_goals
  first
  | (have n2:New wA ((w2.setCell ⟨wA.heap.size,0,none⟩ (.func (.func f) #[] #[])).setCell ⟨wA.heap.size,1,none⟩ (.bool sel)):=New.one hnq (((One.refl wA.heap.size w2).set 0 _).set 1 _) (Nat.le_refl _)
     have e1:Blk ((w2.setCell ⟨wA.heap.size,0,none⟩ (.func (.func f) #[] #[])).setCell ⟨wA.heap.size,1,none⟩ (.bool sel)) wA.heap.size 103 #[.func (.func f) #[] #[],.bool sel]:=y.over2 _ _
     generalize ((w2.setCell ⟨wA.heap.size,0,none⟩ (.func (.func f) #[] #[])).setCell ⟨wA.heap.size,1,none⟩ (.bool sel))=w3 at n2 e1 ⊢
     generalize wA.heap.size=G at e1 ⊢)
  | (have n2:New wA (w2.alloc (.cells #[.func (.func f) #[] #[],.bool sel] 103)):=hnq.alloc _
     have e1:Blk (w2.alloc (.cells #[.func (.func f) #[] #[],.bool sel] 103)) w2.heap.size 103 #[.func (.func f) #[] #[],.bool sel]:=Blk.new _ _ _
     generalize (w2.alloc (.cells #[.func (.func f) #[] #[],.bool sel] 103))=w3 at n2 e1 ⊢
     generalize w2.heap.size=G at e1 ⊢)
  have b3:=n2.blk bA
  have hx3:=n2.blk hxA
  have o3:=n2.blk oA
  have n3:=nA.trans n2
  clear n2
  obtain ⟨x0,x1,x2,x3⟩:=hx3.all4
  obtain ⟨k0,k1,k2,k3,k4,k5,k6,k7,k8⟩:=b3.all9
  obtain ⟨g0,g1⟩:=e1.all2
  have hOB:w.heap.size≤OB:=by omega
  have hcall:=HF.out OB w3 n3 hOB o3
  have HCALL:=Lib.hid hcall
  have HOB:=Lib.hid hOB
  clear hcall hOB hlA
  cases sel
  case' true =>
   obtain ⟨a,rfl⟩:∃ a,pv=some a:=by
    cases pv with
    | none=>exact absurd rfl (HSEL.out rfl)
    | some a=>exact ⟨a,rfl⟩
  all_goals
   go_wp2_with fail
   refine HCALL.out.mono ?_
   rintro e w4 ⟨st,tx,v,l,rfl,hb4,ho4,hl4,hf4,hX4⟩
   have b4:=Fr.blk hf4 b3 (by rintro (h | h); exact absurd h (by omega); exact absurd (HS.out _ h) (by omega))
   obtain ⟨vA,vC,rfl,hvC⟩:=ho4.form
   have s4:=n3.size
   have s4':=hf4.size
   have b5:=b4.alloc (.cells #[.int .i64 st,.string tx] 108)
   have hb5:=hb4.alloc (.cells #[.int .i64 st,.string tx] 108)
   have ho5:=ho4.alloc (.cells #[.int .i64 st,.string tx] 108)
   have g5:=Blk.new w4 108 #[.int .i64 st,.string tx]
   have m45:=(New.refl w4).alloc (.cells #[.int .i64 st,.string tx] 108)
   have F4:=Lib.hid hf4
   have X4:=Lib.hid hX4
   have O4:=Lib.hid ho4
   have N3:=Lib.hid n3
   have S4:=Lib.hid (Nat.le_trans s4 s4')
   clear x0 x1 x2 x3 k0 k1 k2 k3 k4 k5 k6 k7 k8 g0 g1 hf4 hX4 ho4 n3 s4 s4' hx3 b3 o3 e1 hb4 b4
   go_wp2_with fail
   generalize (w4.alloc (.cells #[.int .i64 st,.string tx] 108))=w5 at *
   generalize w4.heap.size=g at g5 ⊢
   obtain ⟨k0,k1,k2,k3,k4,k5,k6,k7,k8⟩:=b5.all9
   obtain ⟨g0,g1⟩:=g5.all2
   have q0:w5.cell? ⟨OB,0,none⟩=some (.slice vA l.length vC):=hb5.cell 0
   have G5:=Lib.hid g5
   clear k1 k2 k3 k4 k5 k6 k7 k8 g5
   go_region_held3 (fun W=>W.cell? ⟨w.heap.size,0,none⟩=some (.string c.t)∧W.cell? ⟨g,0,none⟩=some (.int .i64 st)∧W.cell? ⟨g,1,none⟩=some (.string tx)∧W.cell? ⟨OB,0,none⟩=some (.slice vA l.length vC)) (first | go_keep | (refine ⟨?_,?_,?_,?_⟩ <;> assumption)) ((first
    | (go_at_call 42
       refine (reply_any c.t st tx _).mono ?_
       rintro e w6 ⟨rfl,m6⟩
       have hnq:New w5 w6:=Fr.trans (by repeat' first | exact New.refl _ | apply Fr.alloc | apply Fr.drewN | apply Fr.drew) m6
       have p0:w6.cell? ⟨w.heap.size,0,none⟩=some (.string c.t):=Fr.cell hnq k0 (fun h=>h)
       have p1:w6.cell? ⟨g,0,none⟩=some (.int .i64 st):=Fr.cell hnq g0 (fun h=>h)
       have p2:w6.cell? ⟨g,1,none⟩=some (.string tx):=Fr.cell hnq g1 (fun h=>h)
       have p3:w6.cell? ⟨OB,0,none⟩=some (.slice vA l.length vC):=Fr.cell hnq q0 (fun h=>h)
       have HR:=Lib.hid (rd_one' (E:=rspE) (x:=repR c.t st tx) (t:=53) (Blk.new w6 53 (rspE.enc (repR c.t st tx)).toArray))
       have N6:=Lib.hid (hnq.alloc (.cells (rspE.enc (repR c.t st tx)).toArray 53)))
    | (refine step_append_list (E:=rspE) (l:=l) (v:=.slice vA l.length vC) (by rfl) (.tmp 48) (.tmp 56) 50 (by rfl) Tryz.underlying50 hi hz0 hz1 hz2 rfl (by rfl) (by rfl) [repR c.t st tx] (ho5.new N6.out) HR.out (by unfold maxLen; simp; omega) (by simp; omega) (Nat.le_trans S4.out (Nat.le_trans m45.size N6.out.size)) ?_
       intro A7 C7 w7 ho7 hf7 hl7
       have hz:∀ z,(Value.slice vA l.length vC).ownBlock=some z→z≠w.heap.size∧z≠g∧z≠OB:=fun z hz=>⟨fun e=>ho5.blk_ne b5 (by decide) (by rw [← e]; exact hz),fun e=>ho5.blk_ne G5.out (by decide) (by rw [← e]; exact hz),fun e=>ho5.blk_ne hb5 (by decide) (by rw [← e]; exact hz)⟩
       have t0:w7.cell? ⟨w.heap.size,0,none⟩=some (.string c.t):=Fr.cell hf7 (Fr.cell N6.out k0 (fun h=>h)) (fun h=>(hz _ h).1 rfl)
       have t1:w7.cell? ⟨g,0,none⟩=some (.int .i64 st):=Fr.cell hf7 (Fr.cell N6.out g0 (fun h=>h)) (fun h=>(hz _ h).2.1 rfl)
       have t2:w7.cell? ⟨g,1,none⟩=some (.string tx):=Fr.cell hf7 (Fr.cell N6.out g1 (fun h=>h)) (fun h=>(hz _ h).2.1 rfl)
       have t3:w7.cell? ⟨OB,0,none⟩=some (.slice vA l.length vC):=Fr.cell hf7 (Fr.cell N6.out q0 (fun h=>h)) (fun h=>(hz _ h).2.2 rfl)
       have e8:(l ++ [repR c.t st tx]).length=l.length + 1:=by simp
       rw [e8] at ho7
       have O7:=Lib.hid ho7
       clear e8
       have F7:=Lib.hid hf7
       clear ho7 hf7 hl7 hz)
    | fail))
   all_goals
    go_wp2
    go_ret
    refine ⟨st,tx,_,l,rfl,O7.out,?_,HX.out st tx l _ w4 w7 X4.out O4.out (Fr.trans ((m45.trans N6.out).mono fun _ _ h=>h.elim) F7.out)⟩
    have hs4:=S4.out
    have e4:Fr S w w4:=Fr.trans' (N3.out.mono fun _ _ h=>h.elim) F4.out fun i hi h=>by
     rcases h with h | h
     · have:=HOB.out; omega
     · exact h
    refine Fr.trans' (e4.trans ((m45.trans N6.out).mono fun _ _ h=>h.elim)) F7.out fun i hi h=>?_
    have:=(O4.out.block h).1
    omega
end Go.Proofs.YtliimglbbiebiaaGreatDoor
end

section
namespace Go.Proofs.YtliimglbbiebiaaGreatDoor
open Go.RowKit Go.Maps
theorem do_noop (x:Nat) (bx:Value) (sid:Int) (c:Cmd) (hk:c.k=1) (w:World) (hx:Ses w x bx sid none false)
 (hV:∀ W,New w W→Calls Tryz.prog 38 #[c.val] W fun e W'=>e=.returned (.bool true)∧New W W') :
 Calls Tryz.prog 17 #[.pointer (some ⟨x,0,none⟩),c.val] w fun e w'=>∃ v,e=.returned v∧Own rspE 53 w.heap.size w' v [repR c.t 0 noopS]∧New w w':=by
 refine (xdo_any x bx sid none c 65 false (fun _=>False) (fun st tx l _=>st=0∧tx=noopS∧l=[]) w (enters_of Tryz.func65 (by kernel_rfl) rfl) hx (by rw [hk]; rfl) (by rw [hk]; exact okI1) (by simp) hV ?_ (fun _ h=>h.elim) (fun _ _ _ _ _ _ h _ _=>h)).mono ?_
 · intro OB W hW hOB hb
   refine (noop_none x OB w.heap.size bx sid false c W (hW.blk hx) hb hW.size).mono ?_
   rintro e W' ⟨rfl,v,h1,h2,h3⟩
   exact ⟨0,noopS,v,[],rfl,h1,h2,by simp,h3.mono fun _ _ h=>.inl h,rfl,rfl,rfl⟩
 · rintro e w' ⟨st,tx,v,l,rfl,ho,hf,rfl,rfl,rfl⟩
   exact ⟨v,rfl,ho,hf⟩
end Go.Proofs.YtliimglbbiebiaaGreatDoor
end

section
namespace Go.Proofs.YtliimglbbiebiaaGreatDoor
open Go.RowKit Go.Maps
section
variable {w0 w:World} {base:Nat} {S:Sx} {Q:Qs} {M:List Msg} {n t f:Int}
theorem svalid_any (h:STX w0 base w S Q M n t f):Calls Tryz.prog 97 #[.pointer (some ⟨S.s,0,none⟩)] w fun e w'=>e=.returned (.int .u32 f)∧STX w0 base w' { S with vv:=f,dd:=1 } Q M n t f∧One S.c w w':=by
 have e1:w.cell? ⟨S.s,1,none⟩=some (.pointer (some ⟨S.c,0,none⟩)):=h.hd.cell 1
 have HN:=Lib.hid (UV.validity_any h.ctr h.vd)
 have H:=Lib.hid h
 clear h
 go_enter Tryz.func97,Tryz.ntmps97
 go_wp2_with fail
 refine HN.out.mono ?_
 rintro e w5 ⟨rfl,hc,o5⟩
 go_wp2
 go_ret
 refine ⟨rfl,?_,o5⟩
 have h:=H.out
 obtain ⟨X,hXm,hX⟩:=h.tbl
 exact { h with
  hd:=o5.blk h.hd h.s_ne.1
  tbl:=⟨X,hXm,hX.fr o5 (fun k hk hT=>h.ac ((show k=S.c from hk) ▸ hT)) fun v l ho b hb e=>by subst e; exact (h.body_ne ho hb).2.1 rfl⟩
  ctr:=hc
  vd:=.inr ⟨rfl,rfl⟩
  idx:=h.idx.fr o5 (fun e=>h.c_ne.1 e.symm) fun b hb e=>h.c_ne.2.1 b hb e.symm
  qx:=h.qx.fr o5 (fun e=>h.q_ne.2.1 e) fun k hk e=>by subst e; exact h.c_ne.2.2 hk
  hb:=Nat.le_trans h.hb o5.size
  new:=New.two h.new o5 fun k e=>by subst e; exact h.lo _ (.inr (.inr (.inl rfl))) }
theorem sunsub_none (h:STX w0 base w S Q M n t f) (i:Int) (h0:0≤i) (h1:i≤9223372036854775807) (hi:i ∉ Q.ids) :
 Calls Tryz.prog 125 #[.pointer (some ⟨S.s,0,none⟩),.int .i64 i] w fun e w'=>e=.returned (.bool false)∧w'=w:=by
 have hk:=qokI (by omega) h1
 have hlk:=h.qx.map.run_look (t:=92) (e:=280) Tryz.underlying92 (zeroQ w) hk
 rw [h.get_none hi] at hlk
 simp only [Option.getD_none] at hlk
 change (Instr.lookup 92 (.map (some S.q)) (.int .i64 i) false).run Tryz.prog w=_ at hlk
 have e2:w.cell? ⟨S.s,4,none⟩=some (.map (some S.q)):=h.hd.cell 4
 go_enter Tryz.func125,Tryz.ntmps125
 go_wp2
 go_ret
 exact ⟨rfl,rfl⟩
end
theorem count_rsp (k:Int) (n:Nat) (hn:n < 4294967296) (w:World):Calls Tryz.prog 95 #[.int .i64 k,.int .i64 n] w fun e w'=>e=.returned (Rsp.val ⟨k,n,⟨#[]⟩,0,⟨#[]⟩,0,0,0,0,none,0,0⟩)∧New w w':=by
 have hw:IntKind.u32.wrap (n:Int)=n:=by unfold IntKind.wrap; simp [IntKind.bits,IntKind.signed]; omega
 go_enter Tryz.func95,Tryz.ntmps95
 go_wp2
 exact bodyPost_ret (results_cell1 rfl _ _ rfl (loadR (Blk.new _ _ _))) rfl ⟨rfl,(New.refl w).alloc _⟩
def fullS:ByteArray:=⟨#[109,97,105,108,98,111,120,32,105,115,32,102,117,108,108]⟩
def noidS:ByteArray:=⟨#[110,111,32,105,100,101,110,116,105,102,105,101,114,115,32,108,101,102,116]⟩
theorem status_no (c:Int) (hc:c=5∨c=6) (w:World):Calls Tryz.prog 136 #[.int .i64 c] w fun e w'=>e=.returned (.int .i64 1)∧w'=w:=by
 rcases hc with rfl | rfl
 all_goals
  go_enter Tryz.func136,Tryz.ntmps136
  go_wp2
  go_ret
  exact ⟨rfl,rfl⟩
def codeS (c:Int):ByteArray:=if c=5 then fullS else noidS
theorem text_no (c:Int) (hc:c=5∨c=6) (w:World):Calls Tryz.prog 137 #[.int .i64 c] w fun e w'=>e=.returned (.string (codeS c))∧w'=w:=by
 rcases hc with rfl | rfl
 all_goals
  go_enter Tryz.func137,Tryz.ntmps137
  go_wp2
  go_ret
  exact ⟨rfl,rfl⟩
theorem of_ok (x:ByteArray) (w:World):Calls Tryz.prog 99 #[.int .i64 0,.string x] w fun e w'=>e=.returned (.agg #[.int .i64 0,.string x])∧New w w':=by
 go_enter Tryz.func99,Tryz.ntmps99
 go_wp2
 exact bodyPost_ret (results_cell1 rfl _ _ rfl (loadOut (Blk.new _ _ _))) rfl ⟨rfl,(New.refl w).alloc _⟩
theorem of_no (c:Int) (hc:c=5∨c=6) (x:ByteArray) (w:World):Calls Tryz.prog 99 #[.int .i64 c,.string x] w fun e w'=>e=.returned (.agg #[.int .i64 1,.string (codeS c)])∧New w w':=by
 have hne:(c == 0)=false:=by rcases hc with rfl | rfl <;> rfl
 have HC:=Lib.hid hc
 go_enter Tryz.func99,Tryz.ntmps99
 go_wp2_with (first | (go_at_call 136; refine (status_no c HC.out _).mono ?_; rintro e w1 ⟨rfl,rfl⟩) | (go_at_call 137; refine (text_no c HC.out _).mono ?_; rintro e w2 ⟨rfl,rfl⟩) | fail)
 exact bodyPost_ret (results_cell1 rfl _ _ rfl (loadOut (Blk.new _ _ _))) rfl ⟨rfl,(New.refl w).alloc _⟩
end Go.Proofs.YtliimglbbiebiaaGreatDoor
end

section
namespace Go.Proofs.YtliimglbbiebiaaGreatDoor
open Go.RowKit Go.Maps
abbrev VW (w:World) (v x:Nat) (g:Bool):Prop:=Blk w v 111 #[.pointer (some ⟨x,0,none⟩),.bool g]
section
variable {w:World} {v x:Nat} {g:Bool} {u:Value} {l:List Int} {base:Nat}
theorem vlen_any (hv:VW w v x g) (hi:IdxU base w x u l):Calls Tryz.prog 96 #[.pointer (some ⟨v,0,none⟩)] w fun e w'=>e=.returned (.int .i64 l.length)∧w'=w:=by
 have c0:w.cell? ⟨v,0,none⟩=some (.pointer (some ⟨x,0,none⟩)):=hv.cell 0
 have HL:=Lib.hid (ilen_any hi.at_)
 clear hi
 go_enter Tryz.func96,Tryz.ntmps96
 go_wp2_with fail
 refine HL.out.mono ?_
 rintro e w1 ⟨rfl,rfl⟩
 go_wp2
 go_ret
 exact ⟨rfl,rfl⟩
end
end Go.Proofs.YtliimglbbiebiaaGreatDoor
end

section
namespace Go.Proofs.YtliimglbbiebiaaGreatDoor
open Go.RowKit Go.Maps
abbrev existsR (n:Nat):Rsp:=⟨1,n,⟨#[]⟩,0,⟨#[]⟩,0,0,0,0,none,0,0⟩
section
variable {w:World} {v x OB AB VB:Nat} {g:Bool} {u vo:Value} {l:List Int} {lo:List Rsp} {base:Nat}
theorem add_no (r:Rsp) (w:World):Calls Tryz.prog 174 #[r.val,.bool false,.pointer (some ⟨OB,0,none⟩)] w fun e w'=>e=.returned (.tuple #[])∧New w w':=by
 unfold Rsp.val
 go_enter Tryz.func174,Tryz.ntmps174
 go_wp2
 go_end0
 exact ⟨rfl,(New.refl w).alloc _⟩
theorem add_yes (r:Rsp) (hb:Blk w OB 50 #[vo]) (ho:Own rspE 53 base w vo lo) (hl:lo.length≤1000000000) (hbase:base≤w.heap.size) :
 Calls Tryz.prog 174 #[r.val,.bool true,.pointer (some ⟨OB,0,none⟩)] w fun e w'=>e=.returned (.tuple #[])∧∃ vo',Blk w' OB 50 #[vo']∧Own rspE 53 base w' vo' (lo ++ [r])∧Fr (fun k=>k=OB∨vo.ownBlock=some k) w w'∧(vo'.ownBlock=vo.ownBlock∨∃ g,vo'.ownBlock=some g∧w.heap.size≤g):=by
 obtain ⟨i0,hi,hz0,hz1,hz2⟩:=info_parts rsp_info
 obtain ⟨vA,vc,rfl,hvc⟩:=ho.form
 have n0:New w (w.alloc (.cells #[.int .i64 r.k,.int .u32 r.n,.string r.t,.int .i64 r.st,.string r.x,.int .i64 r.it,.int .u8 r.fl,.int .u32 r.uid,.int .u32 r.sz,.slice r.A r.bn r.bc] 53)):=(New.refl w).alloc _
 have r0:Blk (w.alloc (.cells #[.int .i64 r.k,.int .u32 r.n,.string r.t,.int .i64 r.st,.string r.x,.int .i64 r.it,.int .u8 r.fl,.int .u32 r.uid,.int .u32 r.sz,.slice r.A r.bn r.bc] 53)) w.heap.size 53 #[.int .i64 r.k,.int .u32 r.n,.string r.t,.int .i64 r.st,.string r.x,.int .i64 r.it,.int .u8 r.fl,.int .u32 r.uid,.int .u32 r.sz,.slice r.A r.bn r.bc]:=Blk.new _ _ _
 have hbA:=n0.blk hb
 have hoA:=ho.new n0
 have c0:(w.alloc (.cells #[.int .i64 r.k,.int .u32 r.n,.string r.t,.int .i64 r.st,.string r.x,.int .i64 r.it,.int .u8 r.fl,.int .u32 r.uid,.int .u32 r.sz,.slice r.A r.bn r.bc] 53)).cell? ⟨OB,0,none⟩=some (.slice vA lo.length vc):=hbA.cell 0
 have ee:=r0.all10
 have hs1:(w.alloc (.cells #[.int .i64 r.k,.int .u32 r.n,.string r.t,.int .i64 r.st,.string r.x,.int .i64 r.it,.int .u8 r.fl,.int .u32 r.uid,.int .u32 r.sz,.slice r.A r.bn r.bc] 53)).heap.size=w.heap.size + 1:=World.size_alloc _ _
 have hbB:Blk ((w.alloc (.cells #[.int .i64 r.k,.int .u32 r.n,.string r.t,.int .i64 r.st,.string r.x,.int .i64 r.it,.int .u8 r.fl,.int .u32 r.uid,.int .u32 r.sz,.slice r.A r.bn r.bc] 53)).alloc (.cells #[.int .i64 r.k,.int .u32 r.n,.string r.t,.int .i64 r.st,.string r.x,.int .i64 r.it,.int .u8 r.fl,.int .u32 r.uid,.int .u32 r.sz,.slice r.A r.bn r.bc] 53)) OB 50 #[.slice vA lo.length vc]:=hbA.alloc _
 have hoB:Own rspE 53 base ((w.alloc (.cells #[.int .i64 r.k,.int .u32 r.n,.string r.t,.int .i64 r.st,.string r.x,.int .i64 r.it,.int .u8 r.fl,.int .u32 r.uid,.int .u32 r.sz,.slice r.A r.bn r.bc] 53)).alloc (.cells #[.int .i64 r.k,.int .u32 r.n,.string r.t,.int .i64 r.st,.string r.x,.int .i64 r.it,.int .u8 r.fl,.int .u32 r.uid,.int .u32 r.sz,.slice r.A r.bn r.bc] 53)) (.slice vA lo.length vc) lo:=hoA.alloc _
 have hrd:Rd rspE ((w.alloc (.cells #[.int .i64 r.k,.int .u32 r.n,.string r.t,.int .i64 r.st,.string r.x,.int .i64 r.it,.int .u8 r.fl,.int .u32 r.uid,.int .u32 r.sz,.slice r.A r.bn r.bc] 53)).alloc (.cells #[.int .i64 r.k,.int .u32 r.n,.string r.t,.int .i64 r.st,.string r.x,.int .i64 r.it,.int .u8 r.fl,.int .u32 r.uid,.int .u32 r.sz,.slice r.A r.bn r.bc] 53)) (.slice (some ⟨w.heap.size + 1,0,none⟩) 1 1) [r]:=rd_one' (E:=rspE) (x:=r) (t:=53) (Blk.new1 _ _ _ _)
 have hsz:base≤((w.alloc (.cells #[.int .i64 r.k,.int .u32 r.n,.string r.t,.int .i64 r.st,.string r.x,.int .i64 r.it,.int .u8 r.fl,.int .u32 r.uid,.int .u32 r.sz,.slice r.A r.bn r.bc] 53)).alloc (.cells #[.int .i64 r.k,.int .u32 r.n,.string r.t,.int .i64 r.st,.string r.x,.int .i64 r.it,.int .u8 r.fl,.int .u32 r.uid,.int .u32 r.sz,.slice r.A r.bn r.bc] 53)).heap.size:=by have:=n0.size; rw [World.size_alloc]; omega
 have nB:New w ((w.alloc (.cells #[.int .i64 r.k,.int .u32 r.n,.string r.t,.int .i64 r.st,.string r.x,.int .i64 r.it,.int .u8 r.fl,.int .u32 r.uid,.int .u32 r.sz,.slice r.A r.bn r.bc] 53)).alloc (.cells #[.int .i64 r.k,.int .u32 r.n,.string r.t,.int .i64 r.st,.string r.x,.int .i64 r.it,.int .u8 r.fl,.int .u32 r.uid,.int .u32 r.sz,.slice r.A r.bn r.bc] 53)):=n0.alloc _
 have hne:∀ g,(Value.slice vA lo.length vc).ownBlock=some g→g≠OB:=fun g hg e=>ho.blk_ne hb (by decide) (by rw [← e]; exact hg)
 have HNE:=Lib.hid hne
 obtain ⟨k0,k1,k2,k3,k4,k5,k6,k7,k8,k9⟩:=ee
 have HOB:=Lib.hid hb.lt
 clear hne n0 r0 hbA hoA hb ho
 unfold Rsp.val
 go_enter Tryz.func174,Tryz.ntmps174
 go_wp2_with (at_builtin; refine wpList_append (E:=rspE) rfl _ _ _ rfl Tryz.underlying50 hi hz0 hz1 hz2 rfl hoB rfl hrd rfl (by unfold maxLen; simp; omega) (by simp; omega) hsz ?_; intro v1 w1 hv1 hf1 hl1; have hb1:=Fr.blk hf1 hbB (fun hs=>HNE.out _ hs rfl); have c1:w1.cell? ⟨OB,0,none⟩=some (.slice vA lo.length vc):=hb1.cell 0; have f1:w1.frozen? ⟨OB,0,none⟩=false:=hb1.frozen 0; obtain ⟨A2,C2,rfl,_⟩:=hv1.form; rw [show (lo ++ [r]).length=lo.length + 1 from by simp] at hv1 hl1)
 go_end0
 have hg1:Fr (fun k=>k=OB∨(Value.slice vA lo.length vc).ownBlock=some k) w w1:=Fr.trans (nB.mono fun _ _ h=>h.elim) (hf1.mono fun k _ hk=>.inr hk)
 refine ⟨rfl,_,hb1.set_ 0 _,hv1.fr ((One.refl OB w1).set 0 _) (fun g hg e=>?_),hg1.setCell (p:=⟨OB,0,none⟩) (fun _=>.inl rfl) _,?_⟩
 · have e:g=OB:=e
   exact hv1.blk_ne hb1 (by decide) (by rw [← e]; exact hg)
 · rcases hl1 with h | h
   · exact .inl h
   · exact .inr ⟨_,h,by rw [World.size_alloc]; omega⟩
abbrev addF (OB:Nat):Value:=.func (.func 174) #[] #[.pointer (some ⟨OB,0,none⟩)]
theorem exists_no (hA:w.cell? ⟨AB,0,none⟩=some (addF OB)) (hV:w.cell? ⟨VB,0,none⟩=some (.pointer (some ⟨v,0,none⟩))) (hv:VW w v x false) (hi:IdxU 0 w x u l) (hl:l.length≤100000) :
 Calls Tryz.prog 175 #[.pointer (some ⟨AB,0,none⟩),.pointer (some ⟨VB,0,none⟩)] w fun e w'=>e=.returned (.tuple #[])∧VW w' v x false∧Fr (fun k=>k=v) w w':=by
 have hg:w.cell? ⟨v,1,none⟩=some (.bool false):=hv.cell 1
 have HI:=Lib.hid hi
 clear hi
 go_enter Tryz.func175,Tryz.ntmps175
 go_wp2_with fail
 go_region_held3 (fun W=>W.cell? ⟨AB,0,none⟩=some (addF OB)∧W.cell? ⟨VB,0,none⟩=some (.pointer (some ⟨v,0,none⟩))∧W.cell? ⟨v,1,none⟩=some (.bool false)) (first | go_keep | (refine ⟨?_,?_,?_⟩ <;> assumption)) ((first
  | (go_at_call 96
     refine (vlen_any (Fr.blk (S:=fun _=>False) (by repeat' first | exact New.refl _ | assumption | apply Fr.alloc | apply Fr.drewN | apply Fr.drew) hv id) (HI.out.new (by repeat' first | exact New.refl _ | assumption | apply Fr.alloc | apply Fr.drewN | apply Fr.drew))).mono ?_
     rintro e w1 ⟨rfl,rfl⟩)
  | (go_at_call 95
     refine (count_rsp 1 l.length (by omega) _).mono ?_
     rintro e w2 ⟨rfl,m2⟩
     have n2:New w w2:=Fr.trans (by repeat' first | exact New.refl _ | assumption | apply Fr.alloc | apply Fr.drewN | apply Fr.drew) m2
     have p0:w2.cell? ⟨AB,0,none⟩=some (addF OB):=Fr.cell n2 hA id
     have p1:w2.cell? ⟨VB,0,none⟩=some (.pointer (some ⟨v,0,none⟩)):=Fr.cell n2 hV id
     have p2:w2.cell? ⟨v,1,none⟩=some (.bool false):=Fr.cell n2 hg id)
  | (go_at_call 174
     refine (add_no (existsR l.length) _).mono ?_
     rintro e w3 ⟨rfl,m3⟩
     have n3:New w w3:=Fr.trans (by repeat' first | exact New.refl _ | assumption | apply Fr.alloc | apply Fr.drewN | apply Fr.drew) m3
     have q0:w3.cell? ⟨AB,0,none⟩=some (addF OB):=Fr.cell n3 hA id
     have q1:w3.cell? ⟨VB,0,none⟩=some (.pointer (some ⟨v,0,none⟩)):=Fr.cell n3 hV id
     have hv3:=n3.blk hv
     have q2:w3.cell? ⟨v,1,none⟩=some (.bool false):=hv3.cell 1
     have q3:w3.frozen? ⟨v,1,none⟩=false:=hv3.frozen 1)
  | fail))
 go_wp2
 go_end0
 exact ⟨rfl,hv3.set_ 1 _,Fr.setCell (S:=fun k=>k=v) (n3.mono fun _ _ h=>h.elim) (p:=⟨v,1,none⟩) (fun _=>rfl) _⟩
theorem exists_yes (hA:w.cell? ⟨AB,0,none⟩=some (addF OB)) (hV:w.cell? ⟨VB,0,none⟩=some (.pointer (some ⟨v,0,none⟩))) (hv:VW w v x true) (hi:IdxU 0 w x u l) (hl:l.length≤100000)
 (hb:Blk w OB 50 #[vo]) (ho:Own rspE 53 base w vo lo) (hlo:lo.length≤1000000000) (hbase:base≤w.heap.size) (hAn:AB≠OB) (hVn:VB≠OB) (hAo:vo.ownBlock≠some AB) (hVo:vo.ownBlock≠some VB) :
 Calls Tryz.prog 175 #[.pointer (some ⟨AB,0,none⟩),.pointer (some ⟨VB,0,none⟩)] w fun e w'=>e=.returned (.tuple #[])∧VW w' v x false∧∃ vo',Blk w' OB 50 #[vo']∧Own rspE 53 base w' vo' (lo ++ [existsR l.length])∧Fr (fun k=>k=v∨k=OB∨vo.ownBlock=some k) w w'∧(vo'.ownBlock=vo.ownBlock∨∃ g,vo'.ownBlock=some g∧w.heap.size≤g):=by
 have hg:w.cell? ⟨v,1,none⟩=some (.bool true):=hv.cell 1
 have HI:=Lib.hid hi
 have hvo:v≠OB:=hv.ne_ hb (by decide)
 have hvw:vo.ownBlock≠some v:=ho.blk_ne hv (by decide)
 have HB:=Lib.hid hb
 have HO:=Lib.hid ho
 clear hi hb ho
 go_enter Tryz.func175,Tryz.ntmps175
 go_wp2_with fail
 go_region_held3 (fun W=>W.cell? ⟨AB,0,none⟩=some (addF OB)∧W.cell? ⟨VB,0,none⟩=some (.pointer (some ⟨v,0,none⟩))∧W.cell? ⟨v,1,none⟩=some (.bool true)) (first | go_keep | (refine ⟨?_,?_,?_⟩ <;> assumption)) ((first
  | (go_at_call 96
     refine (vlen_any (Fr.blk (S:=fun _=>False) (by repeat' first | exact New.refl _ | assumption | apply Fr.alloc | apply Fr.drewN | apply Fr.drew) hv id) (HI.out.new (by repeat' first | exact New.refl _ | assumption | apply Fr.alloc | apply Fr.drewN | apply Fr.drew))).mono ?_
     rintro e w1 ⟨rfl,rfl⟩)
  | (go_at_call 95
     refine (count_rsp 1 l.length (by omega) _).mono ?_
     rintro e w2 ⟨rfl,m2⟩
     have n2:New w w2:=Fr.trans (by repeat' first | exact New.refl _ | assumption | apply Fr.alloc | apply Fr.drewN | apply Fr.drew) m2
     have p0:w2.cell? ⟨AB,0,none⟩=some (addF OB):=Fr.cell n2 hA id
     have p1:w2.cell? ⟨VB,0,none⟩=some (.pointer (some ⟨v,0,none⟩)):=Fr.cell n2 hV id
     have p2:w2.cell? ⟨v,1,none⟩=some (.bool true):=Fr.cell n2 hg id)
  | (go_at_call 174
     refine (add_yes (existsR l.length) (HB.out |> fun h=>Fr.blk (S:=fun _=>False) n2 h id) (HO.out.new n2) hlo (Nat.le_trans hbase n2.size)).mono ?_
     rintro e w3 ⟨rfl,vo',hb3,ho3,f3,st3⟩
     have n3:Fr (fun k=>k=OB∨vo.ownBlock=some k) w w3:=Fr.trans (New.to n2) f3
     have q0:w3.cell? ⟨AB,0,none⟩=some (addF OB):=Fr.cell n3 hA (fun h=>by rcases h with h | h; exact hAn h; exact hAo h)
     have q1:w3.cell? ⟨VB,0,none⟩=some (.pointer (some ⟨v,0,none⟩)):=Fr.cell n3 hV (fun h=>by rcases h with h | h; exact hVn h; exact hVo h)
     have hv3:=n3.blk hv (fun h=>by rcases h with h | h; exact hvo h; exact hvw h)
     have q2:w3.cell? ⟨v,1,none⟩=some (.bool true):=hv3.cell 1
     have q3:w3.frozen? ⟨v,1,none⟩=false:=hv3.frozen 1
     have HB3:=Lib.hid hb3
     have HO3:=Lib.hid ho3
     have HS3:=Lib.hid st3
     clear hb3 ho3 f3 st3)
  | fail))
 go_wp2
 go_end0
 refine ⟨rfl,hv3.set_ 1 _,vo',HB3.out.far (p:=⟨v,1,none⟩) (Ne.symm hvo) _,HO3.out.fr ((One.refl v w3).set 1 (.bool false)) (fun k hk e=>?_),Fr.setCell (n3.mono fun _ _ h=>.inr h) (p:=⟨v,1,none⟩) (fun _=>.inl rfl) _,?_⟩
 · have e:k=v:=e
   exact HO3.out.blk_ne hv3 (by decide) (by rw [← e]; exact hk)
 · rcases HS3.out with h | ⟨k,h1,h2⟩
   · exact .inl h
   · exact .inr ⟨k,h1,Nat.le_trans n2.size h2⟩
end
end Go.Proofs.YtliimglbbiebiaaGreatDoor
end

