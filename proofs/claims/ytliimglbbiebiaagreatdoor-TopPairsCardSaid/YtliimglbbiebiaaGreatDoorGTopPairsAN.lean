/- A part of the proof: RMsg. -/
import Derived.Test.YtliimglbbiebiaaGreatDoorGTopPairsAL
import Derived.Test.YtliimglbbiebiaaGreatDoorGTopPairsAA
import Derived.Deep.DeepCutAuto
set_option maxRecDepth 100000
set_option maxHeartbeats 6400000
section
namespace Go.Proofs.YtliimglbbiebiaaGreatDoor
open Go.RowKit
abbrev rC (k n:Int) (t:ByteArray) (st:Int) (x:ByteArray) (it fl uid sz:Int) (b:Value):Array Value:=#[.int .i64 k,.int .u32 n,.string t,.int .i64 st,.string x,.int .i64 it,.int .u8 fl,.int .u32 uid,.int .u32 sz,b]
section
variable {k n:Int} {t:ByteArray} {st:Int} {x:ByteArray} {it fl uid sz:Int} {b:Value} {w:World} {g:Nat}
variable (k' n':Int) (t':ByteArray) (st':Int) (x':ByteArray) (it' fl' uid' sz':Int) (b':Value)
theorem copy1_any (h:Blk w g 53 (rC k n t st x it fl uid sz b)) :
 Calls Tryz.prog 251 #[.pointer (some ⟨g,0,none⟩),rV k' n' t' st' x' it' fl' uid' sz' b'] w fun e w'=>e=.returned (.tuple #[])∧Blk w' g 53 (rC k n t st x it fl' uid sz b)∧One g w w':=by
 have c6:w.cell? ⟨g,6,none⟩=some (.int .u8 fl):=h.cell 6
 have f6:w.frozen? ⟨g,6,none⟩=false:=h.frozen 6
 have hlt:=h.lt
 have c6':∀ o,(w.alloc o).cell? ⟨g,6,none⟩=some (.int .u8 fl):=fun o=>(h.alloc o).cell 6
 have f6':∀ o,(w.alloc o).frozen? ⟨g,6,none⟩=false:=fun o=>(h.alloc o).frozen 6
 go_enter Tryz.func251,Tryz.ntmps251
 go_wp2
 go_end0
 exact ⟨rfl,(h.set_ 6 _).alloc _,Fr.alloc (One.set (One.refl g w) 6 _) _⟩
theorem copy2_any (h:Blk w g 53 (rC k n t st x it fl uid sz b)) :
 Calls Tryz.prog 253 #[.pointer (some ⟨g,0,none⟩),rV k' n' t' st' x' it' fl' uid' sz' b'] w fun e w'=>e=.returned (.tuple #[])∧Blk w' g 53 (rC k n t st x it fl uid' sz b)∧One g w w':=by
 have c6:w.cell? ⟨g,7,none⟩=some (.int .u32 uid):=h.cell 7
 have f6:w.frozen? ⟨g,7,none⟩=false:=h.frozen 7
 have hlt:=h.lt
 have c6':∀ o,(w.alloc o).cell? ⟨g,7,none⟩=some (.int .u32 uid):=fun o=>(h.alloc o).cell 7
 have f6':∀ o,(w.alloc o).frozen? ⟨g,7,none⟩=false:=fun o=>(h.alloc o).frozen 7
 go_enter Tryz.func253,Tryz.ntmps253
 go_wp2
 go_end0
 exact ⟨rfl,(h.set_ 7 _).alloc _,Fr.alloc (One.set (One.refl g w) 7 _) _⟩
theorem copy3_any (h:Blk w g 53 (rC k n t st x it fl uid sz b)) :
 Calls Tryz.prog 255 #[.pointer (some ⟨g,0,none⟩),rV k' n' t' st' x' it' fl' uid' sz' b'] w fun e w'=>e=.returned (.tuple #[])∧Blk w' g 53 (rC k n t st x it fl uid sz' b)∧One g w w':=by
 have c6:w.cell? ⟨g,8,none⟩=some (.int .u32 sz):=h.cell 8
 have f6:w.frozen? ⟨g,8,none⟩=false:=h.frozen 8
 have hlt:=h.lt
 have c6':∀ o,(w.alloc o).cell? ⟨g,8,none⟩=some (.int .u32 sz):=fun o=>(h.alloc o).cell 8
 have f6':∀ o,(w.alloc o).frozen? ⟨g,8,none⟩=false:=fun o=>(h.alloc o).frozen 8
 go_enter Tryz.func255,Tryz.ntmps255
 go_wp2
 go_end0
 exact ⟨rfl,(h.set_ 8 _).alloc _,Fr.alloc (One.set (One.refl g w) 8 _) _⟩
theorem copy4_any (A B:Option Addr) (nn cc mm dd:Nat) (h:Blk w g 53 (rC k n t st x it fl uid sz (.slice A nn cc))) :
 Calls Tryz.prog 258 #[.pointer (some ⟨g,0,none⟩),rV k' n' t' st' x' it' fl' uid' sz' (.slice B mm dd)] w fun e w'=>e=.returned (.tuple #[])∧Blk w' g 53 (rC k n t st x it fl uid sz (.slice B mm dd))∧One g w w':=by
 have c6:w.cell? ⟨g,9,none⟩=some (.slice A nn cc):=h.cell 9
 have f6:w.frozen? ⟨g,9,none⟩=false:=h.frozen 9
 have hlt:=h.lt
 have c6':∀ o,(w.alloc o).cell? ⟨g,9,none⟩=some (.slice A nn cc):=fun o=>(h.alloc o).cell 9
 have f6':∀ o,(w.alloc o).frozen? ⟨g,9,none⟩=false:=fun o=>(h.alloc o).frozen 9
 go_enter Tryz.func258,Tryz.ntmps258
 go_wp2
 go_end0
 exact ⟨rfl,(h.set_ 9 _).alloc _,Fr.alloc (One.set (One.refl g w) 9 _) _⟩
end
abbrev pF (f:Nat):Value:=.func (.func f) #[] #[]
def partCs:Array Value:=#[.int .i64 1,pF 249,pF 251,.int .i64 2,pF 252,pF 253,.int .i64 4,pF 254,pF 255,.int .i64 16,pF 256,pF 258]
theorem parts_any (w:World):Calls Tryz.prog 198 #[] w fun e w'=>e=.returned (.slice (some ⟨w.heap.size,0,none⟩) 4 4)∧w'=w.alloc (.cells partCs 298):=by
 go_enter Tryz.func198,Tryz.ntmps198
 go_wp2
 go_ret
 exact ⟨rfl,rfl⟩
def itB (a1 a2 a3 a4:Bool):Int:=(if a1 then 1 else 0) + (if a2 then 2 else 0) + (if a3 then 4 else 0) + (if a4 then 16 else 0)
theorem itB_or1:bits .or .i64 (itB false false false false) 1=itB true false false false:=by decide
theorem itB_or2 (a:Bool):bits .or .i64 (itB a false false false) 2=itB a true false false:=by cases a <;> decide
theorem itB_or3 (a b:Bool):bits .or .i64 (itB a b false false) 4=itB a b true false:=by cases a <;> cases b <;> decide
theorem itB_or4 (a b c:Bool):bits .or .i64 (itB a b c false) 16=itB a b c true:=by cases a <;> cases b <;> cases c <;> decide
theorem itB_two (a b c d:Bool):bits .and .i64 (itB a b c d) 2≠0→b=true:=by cases a <;> cases b <;> cases c <;> cases d <;> decide
theorem itB_bd (a b c d:Bool):0≤itB a b c d∧itB a b c d≤23:=by cases a <;> cases b <;> cases c <;> cases d <;> decide
theorem cell_far {w:World} {g g' j j':Nat} {u v:Value} (h:w.cell? ⟨g,j,none⟩=some v) (hne:g'≠g):(w.setCell ⟨g',j',none⟩ u).cell? ⟨g,j,none⟩=some v :=
 (World.cell?_setCell_other _ _ _ _ (fun e=>hne (Addr.mk.inj e).1)).trans h
theorem cell_drew {w:World} {a:Addr} {v:Value} (h:w.cell? a=some v):w.drew.cell? a=some v:=h
theorem cell_alloc {w:World} {a:Addr} {v:Value} {o:Obj} (h:w.cell? a=some v):(w.alloc o).cell? a=some v:=by
 have:=World.cell?_of_block (w:=w) (w':=w.alloc o) (a:=a) (Below.heap_alloc w o a.block (World.block_lt_of_cell? w _ h))
 exact this.trans h
theorem cells10 {w:World} {g:Nat} {t:TypeId} {a0 a1 a2 a3 a4 a5 a6 a7 a8 a9:Value} (h:Blk w g t #[a0,a1,a2,a3,a4,a5,a6,a7,a8,a9]) :
 (w.cell? ⟨g,0,none⟩=some a0∧w.frozen? ⟨g,0,none⟩=false)∧(w.cell? ⟨g,1,none⟩=some a1∧w.frozen? ⟨g,1,none⟩=false)∧(w.cell? ⟨g,2,none⟩=some a2∧w.frozen? ⟨g,2,none⟩=false)∧(w.cell? ⟨g,3,none⟩=some a3∧w.frozen? ⟨g,3,none⟩=false)∧(w.cell? ⟨g,4,none⟩=some a4∧w.frozen? ⟨g,4,none⟩=false)∧(w.cell? ⟨g,5,none⟩=some a5∧w.frozen? ⟨g,5,none⟩=false)∧(w.cell? ⟨g,6,none⟩=some a6∧w.frozen? ⟨g,6,none⟩=false)∧(w.cell? ⟨g,7,none⟩=some a7∧w.frozen? ⟨g,7,none⟩=false)∧(w.cell? ⟨g,8,none⟩=some a8∧w.frozen? ⟨g,8,none⟩=false)∧(w.cell? ⟨g,9,none⟩=some a9∧w.frozen? ⟨g,9,none⟩=false) :=
 ⟨⟨h.cell 0,h.frozen 0⟩,⟨h.cell 1,h.frozen 1⟩,⟨h.cell 2,h.frozen 2⟩,⟨h.cell 3,h.frozen 3⟩,⟨h.cell 4,h.frozen 4⟩,⟨h.cell 5,h.frozen 5⟩,⟨h.cell 6,h.frozen 6⟩,⟨h.cell 7,h.frozen 7⟩,⟨h.cell 8,h.frozen 8⟩,⟨h.cell 9,h.frozen 9⟩⟩
structure RspOk (B:Nat) (w:World) (r:Rsp):Prop where
 kk:1≤r.k∧r.k≤10
 n0:0≤r.n∧r.n≤4294967295
 t0:r.t.size≤1000000
 x0:r.x.size≤1000000
 st0:0≤r.st∧r.st≤2
 it0:0≤r.it∧r.it≤31
 fl0:0≤r.fl∧r.fl≤255
 uid0:0≤r.uid∧r.uid≤4294967295
 sz0:0≤r.sz∧r.sz≤4294967295
 body:∃ bl,Own (intE .u8) 5 B w (.slice r.A r.bn r.bc) bl∧bl.length≤65536
theorem one10 {w:World} {g:Nat} (v0 v1 v2 v3 v4 v5 v6 v7 v8 v9:Value):One g w ((((((((((w.setCell ⟨g,0,none⟩ v0).setCell ⟨g,1,none⟩ v1).setCell ⟨g,2,none⟩ v2).setCell ⟨g,3,none⟩ v3).setCell ⟨g,4,none⟩ v4).setCell ⟨g,5,none⟩ v5).setCell ⟨g,6,none⟩ v6).setCell ⟨g,7,none⟩ v7).setCell ⟨g,8,none⟩ v8).setCell ⟨g,9,none⟩ v9):=One.set (One.set (One.set (One.set (One.set (One.set (One.set (One.set (One.set (One.set (One.refl g w) 0 _) 1 _) 2 _) 3 _) 4 _) 5 _) 6 _) 7 _) 8 _) 9 _
theorem blk10 {w:World} {g:Nat} {t:TypeId} {a0 a1 a2 a3 a4 a5 a6 a7 a8 a9:Value} (h:Blk w g t #[a0,a1,a2,a3,a4,a5,a6,a7,a8,a9]) (v0 v1 v2 v3 v4 v5 v6 v7 v8 v9:Value):Blk ((((((((((w.setCell ⟨g,0,none⟩ v0).setCell ⟨g,1,none⟩ v1).setCell ⟨g,2,none⟩ v2).setCell ⟨g,3,none⟩ v3).setCell ⟨g,4,none⟩ v4).setCell ⟨g,5,none⟩ v5).setCell ⟨g,6,none⟩ v6).setCell ⟨g,7,none⟩ v7).setCell ⟨g,8,none⟩ v8).setCell ⟨g,9,none⟩ v9) g t #[v0,v1,v2,v3,v4,v5,v6,v7,v8,v9]:=by
 have h0:Blk (w.setCell ⟨g,0,none⟩ v0) g t #[v0,a1,a2,a3,a4,a5,a6,a7,a8,a9]:=h.set_ 0 _
 have h1:Blk ((w.setCell ⟨g,0,none⟩ v0).setCell ⟨g,1,none⟩ v1) g t #[v0,v1,a2,a3,a4,a5,a6,a7,a8,a9]:=h0.set_ 1 _
 have h2:Blk (((w.setCell ⟨g,0,none⟩ v0).setCell ⟨g,1,none⟩ v1).setCell ⟨g,2,none⟩ v2) g t #[v0,v1,v2,a3,a4,a5,a6,a7,a8,a9]:=h1.set_ 2 _
 have h3:Blk ((((w.setCell ⟨g,0,none⟩ v0).setCell ⟨g,1,none⟩ v1).setCell ⟨g,2,none⟩ v2).setCell ⟨g,3,none⟩ v3) g t #[v0,v1,v2,v3,a4,a5,a6,a7,a8,a9]:=h2.set_ 3 _
 have h4:Blk (((((w.setCell ⟨g,0,none⟩ v0).setCell ⟨g,1,none⟩ v1).setCell ⟨g,2,none⟩ v2).setCell ⟨g,3,none⟩ v3).setCell ⟨g,4,none⟩ v4) g t #[v0,v1,v2,v3,v4,a5,a6,a7,a8,a9]:=h3.set_ 4 _
 have h5:Blk ((((((w.setCell ⟨g,0,none⟩ v0).setCell ⟨g,1,none⟩ v1).setCell ⟨g,2,none⟩ v2).setCell ⟨g,3,none⟩ v3).setCell ⟨g,4,none⟩ v4).setCell ⟨g,5,none⟩ v5) g t #[v0,v1,v2,v3,v4,v5,a6,a7,a8,a9]:=h4.set_ 5 _
 have h6:Blk (((((((w.setCell ⟨g,0,none⟩ v0).setCell ⟨g,1,none⟩ v1).setCell ⟨g,2,none⟩ v2).setCell ⟨g,3,none⟩ v3).setCell ⟨g,4,none⟩ v4).setCell ⟨g,5,none⟩ v5).setCell ⟨g,6,none⟩ v6) g t #[v0,v1,v2,v3,v4,v5,v6,a7,a8,a9]:=h5.set_ 6 _
 have h7:Blk ((((((((w.setCell ⟨g,0,none⟩ v0).setCell ⟨g,1,none⟩ v1).setCell ⟨g,2,none⟩ v2).setCell ⟨g,3,none⟩ v3).setCell ⟨g,4,none⟩ v4).setCell ⟨g,5,none⟩ v5).setCell ⟨g,6,none⟩ v6).setCell ⟨g,7,none⟩ v7) g t #[v0,v1,v2,v3,v4,v5,v6,v7,a8,a9]:=h6.set_ 7 _
 have h8:Blk (((((((((w.setCell ⟨g,0,none⟩ v0).setCell ⟨g,1,none⟩ v1).setCell ⟨g,2,none⟩ v2).setCell ⟨g,3,none⟩ v3).setCell ⟨g,4,none⟩ v4).setCell ⟨g,5,none⟩ v5).setCell ⟨g,6,none⟩ v6).setCell ⟨g,7,none⟩ v7).setCell ⟨g,8,none⟩ v8) g t #[v0,v1,v2,v3,v4,v5,v6,v7,v8,a9]:=h7.set_ 8 _
 have h9:Blk ((((((((((w.setCell ⟨g,0,none⟩ v0).setCell ⟨g,1,none⟩ v1).setCell ⟨g,2,none⟩ v2).setCell ⟨g,3,none⟩ v3).setCell ⟨g,4,none⟩ v4).setCell ⟨g,5,none⟩ v5).setCell ⟨g,6,none⟩ v6).setCell ⟨g,7,none⟩ v7).setCell ⟨g,8,none⟩ v8).setCell ⟨g,9,none⟩ v9) g t #[v0,v1,v2,v3,v4,v5,v6,v7,v8,v9]:=h8.set_ 9 _
 exact h9
structure MsgL (T2:Prop) (w wr:World) (OB RB PB XB:Nat) (k seq:Int) (a1 a2 a3 a4:Bool) (fl uid sz:Int) (B:Option Addr) (m c:Nat) (body:List Int) (fl' uid' sz':Int) (Bq:Option Addr) (mq cq:Nat) (bl:List Int):Prop where
 out:Blk wr OB 53 (rC 4 seq ⟨#[]⟩ 0 ⟨#[]⟩ (itB a1 a2 a3 a4) fl' uid' sz' (.slice Bq mq cq))
 whole:Blk wr RB 53 (rC 0 0 ⟨#[]⟩ 0 ⟨#[]⟩ 0 fl uid sz (.slice B m c))
 parts:Blk wr PB 298 partCs
 res:Blk wr XB 53 (rC 0 0 ⟨#[]⟩ 0 ⟨#[]⟩ 0 0 0 0 (.slice none 0 0))
 own:Own (intE .u8) 5 w.heap.size wr (.slice B m c) body
 ownq:Own (intE .u8) 5 w.heap.size wr (.slice Bq mq cq) bl
 bl:bl.length≤65536
 new:New w wr
 two:a2=true→uid'=uid∧T2
 f:0≤fl'∧fl'≤255
 u:0≤uid'∧uid'≤4294967295
 s:0≤sz'∧sz'≤4294967295
 z1:k < 1→a1=false
 z2:k < 2→a2=false
 z3:k < 3→a3=false
 z4:k < 4→a4=false
 ob:w.heap.size≤OB
 ne1:OB≠RB
 ne2:OB≠XB
 xb:w.heap.size≤XB
theorem MsgL.skip {T2:Prop} {w wr w':World} {OB RB PB XB:Nat} {k seq:Int} {a1 a2 a3 a4:Bool} {fl uid sz:Int} {B:Option Addr} {m c:Nat} {body:List Int} {fl' uid' sz':Int} {Bq:Option Addr} {mq cq:Nat} {bl:List Int}
 (h:MsgL T2 w wr OB RB PB XB k seq a1 a2 a3 a4 fl uid sz B m c body fl' uid' sz' Bq mq cq bl) (n:New wr w'):MsgL T2 w w' OB RB PB XB (k + 1) seq a1 a2 a3 a4 fl uid sz B m c body fl' uid' sz' Bq mq cq bl :=
 ⟨n.blk h.out,n.blk h.whole,n.blk h.parts,n.blk h.res,h.own.new n,h.ownq.new n,h.bl,h.new.trans n,h.two,h.f,h.u,h.s,fun e=>h.z1 (by omega),fun e=>h.z2 (by omega),fun e=>h.z3 (by omega),fun e=>h.z4 (by omega),h.ob,h.ne1,h.ne2,h.xb⟩
theorem MsgL.step {T2:Prop} {w wr w':World} {OB RB PB XB:Nat} {k seq:Int} {a1 a2 a3 a4:Bool} {fl uid sz:Int} {B:Option Addr} {m c:Nat} {body:List Int} {fl' uid' sz':Int} {Bq:Option Addr} {mq cq:Nat} {bl:List Int}
 (h:MsgL T2 w wr OB RB PB XB k seq a1 a2 a3 a4 fl uid sz B m c body fl' uid' sz' Bq mq cq bl) (n:One OB wr w') {b1 b2 b3 b4:Bool} {fl2 uid2 sz2:Int} {B2:Option Addr} {m2 c2:Nat} {bl2:List Int}
 (hb:Blk w' OB 53 (rC 4 seq ⟨#[]⟩ 0 ⟨#[]⟩ (itB b1 b2 b3 b4) fl2 uid2 sz2 (.slice B2 m2 c2))) (ho:Own (intE .u8) 5 w.heap.size wr (.slice B2 m2 c2) bl2) (hl:bl2.length≤65536) (h2:b2=true→uid2=uid∧T2)
 (hf:0≤fl2∧fl2≤255) (hu:0≤uid2∧uid2≤4294967295) (hs:0≤sz2∧sz2≤4294967295) (z1:k + 1 < 1→b1=false) (z2:k + 1 < 2→b2=false) (z3:k + 1 < 3→b3=false) (z4:k + 1 < 4→b4=false) :
 MsgL T2 w w' OB RB PB XB (k + 1) seq b1 b2 b3 b4 fl uid sz B m c body fl2 uid2 sz2 B2 m2 c2 bl2 :=
 have hno:∀ (v:Value) (l:List Int),Own (intE .u8) 5 w.heap.size wr v l→∀ g,v.ownBlock=some g→g≠OB:=fun v l hv g hg e=>hv.blk_ne h.out (by decide) (by rw [hg,e])
 ⟨hb,n.blk h.whole (Ne.symm h.ne1),n.blk h.parts (fun e=>(h.parts.ne_ h.out (by decide)) e),n.blk h.res (Ne.symm h.ne2),h.own.fr n (fun g hg e=>hno _ _ h.own g hg e),ho.fr n (fun g hg e=>hno _ _ ho g hg e),hl,New.one h.new n h.ob,h2,hf,hu,hs,z1,z2,z3,z4,h.ob,h.ne1,h.ne2,h.xb⟩
theorem message_any (seq:Int) (hs0:0≤seq) (hs1:seq≤4294967295) (items:Int) (uid fl:Int) (hu:0≤uid∧uid≤4294967295) (hf:0≤fl∧fl≤255) (A:Option Addr) (n c:Nat) (body:List Int) (w:World) (hb:Rd (intE .u8) w (.slice A n c) body) (hl:body.length≤65536) :
 Calls Tryz.prog 144 #[.int .i64 seq,.int .i64 items,.agg #[.int .u32 uid,.int .u8 fl,.slice A n c]] w fun e w'=>∃ r:Rsp,e=.returned r.val∧RspOk w.heap.size w' r∧r.k=4∧r.n=seq∧(bits .and .i64 r.it 2≠0→r.uid=uid∧(bits .and .i64 items 8=0→bits .and .i64 items 2≠0))∧New w w':=by
 have hbn:n≤65536:=by obtain ⟨_,_,e,_⟩:=hb; cases e; exact hl
 have b1:Blk ((w.alloc (.cells #[.int .u32 uid,.int .u8 fl,.slice A n c] 238)).alloc (.cells (rC 0 0 ⟨#[]⟩ 0 ⟨#[]⟩ 0 0 0 0 (.slice none 0 0)) 53)) w.heap.size 238 #[.int .u32 uid,.int .u8 fl,.slice A n c]:=(Blk.new _ _ _).alloc _
 have b2:Blk ((w.alloc (.cells #[.int .u32 uid,.int .u8 fl,.slice A n c] 238)).alloc (.cells (rC 0 0 ⟨#[]⟩ 0 ⟨#[]⟩ 0 0 0 0 (.slice none 0 0)) 53)) (w.heap.size + 1) 53 (rC 0 0 ⟨#[]⟩ 0 ⟨#[]⟩ 0 0 0 0 (.slice none 0 0)):=Blk.new1 _ _ _ _
 have hn1:New w ((w.alloc (.cells #[.int .u32 uid,.int .u8 fl,.slice A n c] 238)).alloc (.cells (rC 0 0 ⟨#[]⟩ 0 ⟨#[]⟩ 0 0 0 0 (.slice none 0 0)) 53)):=((New.refl w).alloc _).alloc _
 have HV:=Lib.hid (hb.new hn1)
 have HS:=Lib.hid (And.intro hs0 (And.intro hs1 (And.intro hu hf)))
 have HBL:=Lib.hid hl
 clear hb hs0 hs1 hu hf hl
 obtain ⟨wq,hwq⟩:∃ wq,wq=(w.alloc (.cells #[.int .u32 uid,.int .u8 fl,.slice A n c] 238)).alloc (.cells #[.int .i64 0,.int .u32 0,.string ⟨#[]⟩,.int .i64 0,.string ⟨#[]⟩,.int .i64 0,.int .u8 0,.int .u32 0,.int .u32 0,.slice none 0 0] 53):=⟨_,rfl⟩
 have HWQ:Hid (wq.heap.size=w.heap.size + 2):=Lib.hid (by rw [hwq]; simp)
 by_cases hp:bits .and .i64 items 8=0
 · have hp1:(bits .and .i64 items 8 == 0)=true:=beq_iff_eq.2 hp
   have hp2:(bits .and .i64 items 8 != 0)=false:=by rw [bne,hp1]; rfl
   clear hp
   go_enter Tryz.func144,Tryz.ntmps144
   go_upto_region 3 with fail
   rw [← hwq] at b1 b2 hn1 HV ⊢
   have q0:wq.cell? ⟨w.heap.size,0,none⟩=some (.int .u32 uid):=b1.cell 0
   have q1:wq.cell? ⟨w.heap.size,1,none⟩=some (.int .u8 fl):=b1.cell 1
   have q2:wq.cell? ⟨w.heap.size,2,none⟩=some (.slice A n c):=b1.cell 2
   have hwr:IntKind.u32.wrap (n:Int)=(n:Int):=by unfold IntKind.wrap; simp [IntKind.bits,IntKind.signed]; omega
   clear hwq
   have r0:wq.drew.cell? ⟨w.heap.size,0,none⟩=some (.int .u32 uid):=q0
   have r1:wq.drew.cell? ⟨w.heap.size,1,none⟩=some (.int .u8 fl):=q1
   have r2:wq.drew.cell? ⟨w.heap.size,2,none⟩=some (.slice A n c):=q2
   have hneq:wq.heap.size≠w.heap.size:=by have:=HWQ.out; omega
   have HC1:=Lib.hid (bclone_any (.slice A n c) body wq.drew (HV.out.drew) (by have:=HBL.out; omega))
   have HC2:=Lib.hid (bclone_any (.slice A n c) body (wq.alloc (.cells #[.int .i64 0,.int .u32 0,.string ⟨#[]⟩,.int .i64 0,.string ⟨#[]⟩,.int .i64 0,.int .u8 0,.int .u32 0,.int .u32 0,.slice none 0 0] 53)).drew ((HV.out.alloc _).drew) (by have:=HBL.out; omega))
   have HBZ:Hid (∀ w3,New (wq.alloc (.cells #[.int .i64 0,.int .u32 0,.string ⟨#[]⟩,.int .i64 0,.string ⟨#[]⟩,.int .i64 0,.int .u8 0,.int .u32 0,.int .u32 0,.slice none 0 0] 53)).drew w3→Blk w3 wq.heap.size 53 #[.int .i64 0,.int .u32 0,.string ⟨#[]⟩,.int .i64 0,.string ⟨#[]⟩,.int .i64 0,.int .u8 0,.int .u32 0,.int .u32 0,.slice none 0 0]):=Lib.hid fun w3 hn3=>New.blk hn3 (Blk.drew (Blk.new wq 53 #[.int .i64 0,.int .u32 0,.string ⟨#[]⟩,.int .i64 0,.string ⟨#[]⟩,.int .i64 0,.int .u8 0,.int .u32 0,.int .u32 0,.slice none 0 0]))
   rename_i K hK
   have HK:Hid (∀ (RB:Nat) (B:Option Addr) (m' c':Nat) (u16 u17 u18 u19 u20 u21 u22 u23 u24 u25 u26 u27:Value) (wx:World),Blk wx RB 53 (rC 0 0 ⟨#[]⟩ 0 ⟨#[]⟩ 0 fl uid n (.slice B m' c'))→Own (intE .u8) 5 w.heap.size wx (.slice B m' c') body→New w wx→Blk wx (w.heap.size + 1) 53 (rC 0 0 ⟨#[]⟩ 0 ⟨#[]⟩ 0 0 0 0 (.slice none 0 0))→w.heap.size≤RB →
    K { tmps:=#[.int .i64 seq,.int .i64 items,.agg #[.int .u32 uid,.int .u8 fl,.slice A n c],undef,undef,.pointer (some ⟨w.heap.size,0,none⟩),.pointer (some ⟨w.heap.size + 1,0,none⟩),.pointer (some ⟨RB,0,none⟩),undef,undef,undef,.int .i64 items,.int .i64 (bits .and .i64 items 8),.bool false,undef,undef,u16,u17,u18,u19,u20,u21,u22,u23,u24,u25,u26,u27,undef,undef,undef,undef,undef,undef,undef,undef,undef,undef,undef,undef,undef,undef,undef,undef,undef,undef,undef,undef,undef,undef,undef,undef,undef,undef],defers:=[] } wx):=Lib.hid (by
    intro RB B m' c' u16 u17 u18 u19 u20 u21 u22 u23 u24 u25 u26 u27 wx hB hO hN hX hR
    apply hK
    clear hK K HC1 HC2 HBZ r0 r1 r2 q0 q1 q2 b1 b2 hn1 HV hneq hwr
    have hs0:=HS.out.1
    have hs1:=HS.out.2.1
    have hwr:IntKind.u32.wrap seq=seq:=by unfold IntKind.wrap; simp [IntKind.bits,IntKind.signed]; omega
    obtain ⟨OB,hOB⟩:∃ OB,OB=wx.heap.size:=⟨_,rfl⟩
    have hbO:Blk (wx.alloc (.cells (rC 4 seq ⟨#[]⟩ 0 ⟨#[]⟩ 0 0 0 0 (.slice none 0 0)) 53)) OB 53 (rC 4 seq ⟨#[]⟩ 0 ⟨#[]⟩ 0 0 0 0 (.slice none 0 0)):=hOB ▸ Blk.new _ _ _
    have hlt:=hB.lt
    have hNs:=hN.size
    have hltx:=hX.lt
    have HB:=Lib.hid (And.intro hB (And.intro hO (And.intro hN hX)))
    clear hB hO hN hX hs0 hs1
    go_wp2_with fail
    refine (parts_any _).mono ?_
    rintro e w4 ⟨rfl,hw4⟩
    obtain ⟨PB,hPB⟩:∃ PB,PB=(wx.alloc (.cells #[.int .i64 4,.int .u32 seq,.string ⟨#[]⟩,.int .i64 0,.string ⟨#[]⟩,.int .i64 0,.int .u8 0,.int .u32 0,.int .u32 0,.slice none 0 0] 53)).heap.size:=⟨_,rfl⟩
    have hp4:Blk w4 PB 298 partCs:=by rw [hw4,hPB]; exact Blk.new _ _ _
    have n4:New wx w4:=by rw [hw4]; exact ((New.refl wx).alloc _).alloc _
    have o4:Blk w4 OB 53 (rC 4 seq ⟨#[]⟩ 0 ⟨#[]⟩ 0 0 0 0 (.slice none 0 0)):=by rw [hw4]; exact hbO.alloc _
    have L0:Hid (MsgL (bits .and .i64 items 2≠0) w w4 OB RB PB (w.heap.size + 1) 0 seq false false false false fl uid n B m' c' body 0 0 0 none 0 0 []):=Lib.hid
     { out:=o4,whole:=n4.blk HB.out.1,parts:=hp4,res:=n4.blk HB.out.2.2.2,own:=HB.out.2.1.new n4,ownq:=Own.nil _ _ _ _,bl:=by simp,new:=HB.out.2.2.1.trans n4,two:=(fun h=>by cases h),f:=by omega,u:=by omega,s:=by omega,z1:=fun _=>rfl,z2:=fun _=>rfl,z3:=fun _=>rfl,z4:=fun _=>rfl,ob:=by omega,ne1:=by omega,ne2:=by omega,xb:=by omega }
    rw [← hPB,← hOB]
    clear hPB hOB hw4 hbO hlt hNs hltx hp4 n4 o4
    obtain ⟨XB,hXB⟩:∃ XB,XB=w.heap.size + 1:=⟨_,rfl⟩
    rw [← hXB] at L0 ⊢
    clear hXB
    go_wp2_with fail
    go_loopw [33] (fun vi wr=>∃ (k:Int) (a1 a2 a3 a4:Bool) (fl' uid' sz':Int) (Bq:Option Addr) (mq cq:Nat) (bl:List Int),vi=.int .i64 k∧0≤k∧k≤4∧Hid (MsgL (bits .and .i64 items 2≠0) w wr OB RB PB XB k seq a1 a2 a3 a4 fl uid n B m' c' body fl' uid' sz' Bq mq cq bl)) (fun vi _=>4 - (intOf vi).toNat)
    case atStart=>exact ⟨0,_,_,_,_,_,_,_,_,_,_,_,rfl,by omega,by omega,L0⟩
    case round =>
     obtain ⟨k,a1,a2,a3,a4,fl',uid',sz',Bq,mq,cq,bl,rfl,hk0,hk1,HL⟩:=hrel
     clear L0
     obtain ⟨⟨c0,f0⟩,⟨c1,f1⟩,⟨c2,f2⟩,⟨c3,f3⟩,⟨c4,f4⟩,⟨c5,f5⟩,⟨c6,f6⟩,⟨c7,f7⟩,⟨c8,f8⟩,⟨c9,f9⟩⟩:=cells10 HL.out.out
     obtain ⟨⟨d0,g0⟩,⟨d1,g1⟩,⟨d2,g2⟩,⟨d3,g3⟩,⟨d4,g4⟩,⟨d5,g5⟩,⟨d6,g6⟩,⟨d7,g7⟩,⟨d8,g8⟩,⟨d9,g9⟩⟩:=cells10 HL.out.whole
     clear g0 g1 g2 g3 g4 g5 g6 g7 g8 g9 f0 f1 f2 f3 f4 f6 f7 f8 f9
     have hOlt:=HL.out.out.lt
     have hRlt:=HL.out.whole.lt
     have hne1:=HL.out.ne1
     by_cases hk4:k=4
     · subst hk4
       clear d0 d1 d2 d3 d4 d5 d6 d7 d8 d9 f5 hk0 hk1 hOlt hRlt hne1
       obtain ⟨⟨x0,y0⟩,⟨x1,y1⟩,⟨x2,y2⟩,⟨x3,y3⟩,⟨x4,y4⟩,⟨x5,y5⟩,⟨x6,y6⟩,⟨x7,y7⟩,⟨x8,y8⟩,⟨x9,y9⟩⟩:=cells10 HL.out.res
       go_wp2_with fail
       have hfX:=one10 (w:=wr) (g:=XB) (.int .i64 4) (.int .u32 seq) (.string ⟨#[]⟩) (.int .i64 0) (.string ⟨#[]⟩) (.int .i64 (itB a1 a2 a3 a4)) (.int .u8 fl') (.int .u32 uid') (.int .u32 sz') (.slice Bq mq cq)
       have hbX:=blk10 HL.out.res (.int .i64 4) (.int .u32 seq) (.string ⟨#[]⟩) (.int .i64 0) (.string ⟨#[]⟩) (.int .i64 (itB a1 a2 a3 a4)) (.int .u8 fl') (.int .u32 uid') (.int .u32 sz') (.slice Bq mq cq)
       refine bodyPost_ret (results_cell1 rfl _ _ rfl (loadR hbX)) rfl ⟨⟨4,seq,⟨#[]⟩,0,⟨#[]⟩,itB a1 a2 a3 a4,fl',uid',sz',Bq,mq,cq⟩,rfl,?_,rfl,rfl,fun h=>⟨(HL.out.two (itB_two _ _ _ _ h)).1,fun _=>(HL.out.two (itB_two _ _ _ _ h)).2⟩,New.one HL.out.new hfX HL.out.xb⟩
       have hs:=HS.out
       have hit:=itB_bd a1 a2 a3 a4
       exact { kk:=by dsimp only; omega,n0:=⟨hs.1,hs.2.1⟩,t0:=by show (0:Nat)≤1000000; omega,x0:=by show (0:Nat)≤1000000; omega,st0:=by dsimp only; omega,it0:=by dsimp only; omega,fl0:=HL.out.f,uid0:=HL.out.u,sz0:=HL.out.s,body:=⟨bl,HL.out.ownq.fr hfX (fun g hg e=>HL.out.ownq.blk_ne HL.out.res (by decide) (by rw [hg,e])),HL.out.bl⟩ }
     · have hlt4:decide (k < 4)=true:=decide_eq_true (by omega)
       have hPlt:=HL.out.parts.lt
       obtain rfl | rfl | rfl | rfl:k=0∨k=1∨k=2∨k=3:=by omega
       · have p0:wr.cell? ⟨PB,0,none⟩=some (.int .i64 1):=HL.out.parts.cell 0
         have p1:wr.cell? ⟨PB,1,none⟩=some (pF 249):=HL.out.parts.cell 1
         have p2:wr.cell? ⟨PB,2,none⟩=some (pF 251):=HL.out.parts.cell 2
         obtain rfl:a1=false:=HL.out.z1 (by omega)
         obtain rfl:a2=false:=HL.out.z2 (by omega)
         obtain rfl:a3=false:=HL.out.z3 (by omega)
         obtain rfl:a4=false:=HL.out.z4 (by omega)
         have hor:bits .or .i64 (itB false false false false) 1=itB true false false false:=itB_or1
         by_cases hq:bits .and .i64 items 1=0
         · have e1:(bits .and .i64 items 1 == 0)=true:=beq_iff_eq.2 hq
           have e2:(bits .and .i64 items 1 != 0)=false:=by rw [bne,e1]; rfl
           clear hq hor
           go_wp2_with fail
           go_roundw
           · exact ⟨1,_,_,_,_,_,_,_,_,_,_,_,rfl,by omega,by omega,Lib.hid (HL.out.skip ((New.refl _).alloc _))⟩
           · simp [intOf]
         · have e1:(bits .and .i64 items 1 == 0)=false:=beq_eq_false_iff_ne.2 hq
           have e2:(bits .and .i64 items 1 != 0)=true:=by rw [bne,e1]; rfl
           clear hq
           go_wp2_with fail
           refine (copy1_any (k:=4) (n:=seq) (t:=⟨#[]⟩) (st:=0) (x:=⟨#[]⟩) (it:=itB true false false false) (fl:=fl') (uid:=uid') (sz:=sz') (b:=.slice Bq mq cq) 0 0 ⟨#[]⟩ 0 ⟨#[]⟩ 0 fl uid n (.slice B m' c') ?hb0p).mono ?_
           case hb0p=>first | exact (HL.out.out.set_ 5 _).alloc _ | exact (HL.out.out.alloc _).set_ 5 _
           rintro e w5 ⟨rfl,hb5,o5⟩
           have o6:One OB wr w5:=Fr.trans (by first | exact Fr.alloc (One.set (One.refl OB wr) 5 _) _ | exact One.set (Fr.alloc (One.refl OB wr) _) 5 _) o5
           go_wp2_with fail
           go_roundw
           · refine ⟨1,true,false,false,false,_,_,_,_,_,_,_,rfl,by omega,by omega,Lib.hid (HL.out.step o6 hb5 HL.out.ownq HL.out.bl (fun h=>by cases h) HS.out.2.2.2 HL.out.u HL.out.s (fun e=>by omega) (fun e=>by first | rfl | omega) (fun e=>by first | rfl | omega) (fun e=>by first | rfl | omega))⟩
           · simp [intOf]
       · have p0:wr.cell? ⟨PB,3,none⟩=some (.int .i64 2):=HL.out.parts.cell 3
         have p1:wr.cell? ⟨PB,4,none⟩=some (pF 252):=HL.out.parts.cell 4
         have p2:wr.cell? ⟨PB,5,none⟩=some (pF 253):=HL.out.parts.cell 5
         obtain rfl:a2=false:=HL.out.z2 (by omega)
         obtain rfl:a3=false:=HL.out.z3 (by omega)
         obtain rfl:a4=false:=HL.out.z4 (by omega)
         have hor:bits .or .i64 (itB a1 false false false) 2=itB a1 true false false:=itB_or2 a1
         by_cases hq:bits .and .i64 items 2=0
         · have e1:(bits .and .i64 items 2 == 0)=true:=beq_iff_eq.2 hq
           have e2:(bits .and .i64 items 2 != 0)=false:=by rw [bne,e1]; rfl
           clear hq hor
           go_wp2_with fail
           go_roundw
           · exact ⟨2,_,_,_,_,_,_,_,_,_,_,_,rfl,by omega,by omega,Lib.hid (HL.out.skip ((New.refl _).alloc _))⟩
           · simp [intOf]
         · have e1:(bits .and .i64 items 2 == 0)=false:=beq_eq_false_iff_ne.2 hq
           have e2:(bits .and .i64 items 2 != 0)=true:=by rw [bne,e1]; rfl
           clear hq
           go_wp2_with fail
           refine (copy2_any (k:=4) (n:=seq) (t:=⟨#[]⟩) (st:=0) (x:=⟨#[]⟩) (it:=itB a1 true false false) (fl:=fl') (uid:=uid') (sz:=sz') (b:=.slice Bq mq cq) 0 0 ⟨#[]⟩ 0 ⟨#[]⟩ 0 fl uid n (.slice B m' c') ?hb1p).mono ?_
           case hb1p=>first | exact (HL.out.out.set_ 5 _).alloc _ | exact (HL.out.out.alloc _).set_ 5 _
           rintro e w5 ⟨rfl,hb5,o5⟩
           have o6:One OB wr w5:=Fr.trans (by first | exact Fr.alloc (One.set (One.refl OB wr) 5 _) _ | exact One.set (Fr.alloc (One.refl OB wr) _) 5 _) o5
           go_wp2_with fail
           go_roundw
           · refine ⟨2,a1,true,false,false,_,_,_,_,_,_,_,rfl,by omega,by omega,Lib.hid (HL.out.step o6 hb5 HL.out.ownq HL.out.bl (fun _=>⟨rfl,beq_eq_false_iff_ne.1 e1⟩) HL.out.f HS.out.2.2.1 HL.out.s (fun e=>by omega) (fun e=>by first | rfl | omega) (fun e=>by first | rfl | omega) (fun e=>by first | rfl | omega))⟩
           · simp [intOf]
       · have p0:wr.cell? ⟨PB,6,none⟩=some (.int .i64 4):=HL.out.parts.cell 6
         have p1:wr.cell? ⟨PB,7,none⟩=some (pF 254):=HL.out.parts.cell 7
         have p2:wr.cell? ⟨PB,8,none⟩=some (pF 255):=HL.out.parts.cell 8
         obtain rfl:a3=false:=HL.out.z3 (by omega)
         obtain rfl:a4=false:=HL.out.z4 (by omega)
         have hor:bits .or .i64 (itB a1 a2 false false) 4=itB a1 a2 true false:=itB_or3 a1 a2
         by_cases hq:bits .and .i64 items 4=0
         · have e1:(bits .and .i64 items 4 == 0)=true:=beq_iff_eq.2 hq
           have e2:(bits .and .i64 items 4 != 0)=false:=by rw [bne,e1]; rfl
           clear hq hor
           go_wp2_with fail
           go_roundw
           · exact ⟨3,_,_,_,_,_,_,_,_,_,_,_,rfl,by omega,by omega,Lib.hid (HL.out.skip ((New.refl _).alloc _))⟩
           · simp [intOf]
         · have e1:(bits .and .i64 items 4 == 0)=false:=beq_eq_false_iff_ne.2 hq
           have e2:(bits .and .i64 items 4 != 0)=true:=by rw [bne,e1]; rfl
           clear hq
           go_wp2_with fail
           refine (copy3_any (k:=4) (n:=seq) (t:=⟨#[]⟩) (st:=0) (x:=⟨#[]⟩) (it:=itB a1 a2 true false) (fl:=fl') (uid:=uid') (sz:=sz') (b:=.slice Bq mq cq) 0 0 ⟨#[]⟩ 0 ⟨#[]⟩ 0 fl uid n (.slice B m' c') ?hb2p).mono ?_
           case hb2p=>first | exact (HL.out.out.set_ 5 _).alloc _ | exact (HL.out.out.alloc _).set_ 5 _
           rintro e w5 ⟨rfl,hb5,o5⟩
           have o6:One OB wr w5:=Fr.trans (by first | exact Fr.alloc (One.set (One.refl OB wr) 5 _) _ | exact One.set (Fr.alloc (One.refl OB wr) _) 5 _) o5
           go_wp2_with fail
           go_roundw
           · refine ⟨3,a1,a2,true,false,_,_,_,_,_,_,_,rfl,by omega,by omega,Lib.hid (HL.out.step o6 hb5 HL.out.ownq HL.out.bl HL.out.two HL.out.f HL.out.u (by omega) (fun e=>by omega) (fun e=>by first | rfl | omega) (fun e=>by first | rfl | omega) (fun e=>by first | rfl | omega))⟩
           · simp [intOf]
       · have p0:wr.cell? ⟨PB,9,none⟩=some (.int .i64 16):=HL.out.parts.cell 9
         have p1:wr.cell? ⟨PB,10,none⟩=some (pF 256):=HL.out.parts.cell 10
         have p2:wr.cell? ⟨PB,11,none⟩=some (pF 258):=HL.out.parts.cell 11
         obtain rfl:a4=false:=HL.out.z4 (by omega)
         have hor:bits .or .i64 (itB a1 a2 a3 false) 16=itB a1 a2 a3 true:=itB_or4 a1 a2 a3
         by_cases hq:bits .and .i64 items 16=0
         · have e1:(bits .and .i64 items 16 == 0)=true:=beq_iff_eq.2 hq
           have e2:(bits .and .i64 items 16 != 0)=false:=by rw [bne,e1]; rfl
           clear hq hor
           go_wp2_with fail
           go_roundw
           · exact ⟨4,_,_,_,_,_,_,_,_,_,_,_,rfl,by omega,by omega,Lib.hid (HL.out.skip ((New.refl _).alloc _))⟩
           · simp [intOf]
         · have e1:(bits .and .i64 items 16 == 0)=false:=beq_eq_false_iff_ne.2 hq
           have e2:(bits .and .i64 items 16 != 0)=true:=by rw [bne,e1]; rfl
           clear hq
           go_wp2_with fail
           refine (copy4_any (k:=4) (n:=seq) (t:=⟨#[]⟩) (st:=0) (x:=⟨#[]⟩) (it:=itB a1 a2 a3 true) (fl:=fl') (uid:=uid') (sz:=sz') 0 0 ⟨#[]⟩ 0 ⟨#[]⟩ 0 fl uid n Bq B mq cq m' c' ?hb3p).mono ?_
           case hb3p=>first | exact (HL.out.out.set_ 5 _).alloc _ | exact (HL.out.out.alloc _).set_ 5 _
           rintro e w5 ⟨rfl,hb5,o5⟩
           have o6:One OB wr w5:=Fr.trans (by first | exact Fr.alloc (One.set (One.refl OB wr) 5 _) _ | exact One.set (Fr.alloc (One.refl OB wr) _) 5 _) o5
           go_wp2_with fail
           go_roundw
           · refine ⟨4,a1,a2,a3,true,_,_,_,_,_,_,_,rfl,by omega,by omega,Lib.hid (HL.out.step o6 hb5 HL.out.own HBL.out HL.out.two HL.out.f HL.out.u HL.out.s (fun e=>by omega) (fun e=>by first | rfl | omega) (fun e=>by first | rfl | omega) (fun e=>by first | rfl | omega))⟩
           · simp [intOf]
       )
   go_region_held3 (fun w'=>w'.cell? ⟨w.heap.size,0,none⟩=some (.int .u32 uid)∧w'.cell? ⟨w.heap.size,1,none⟩=some (.int .u8 fl)∧w'.cell? ⟨w.heap.size,2,none⟩=some (.slice A n c)) (refine ⟨?_,?_,?_⟩ <;> (repeat' first | with_reducible assumption | exact hneq | with_reducible apply cell_far | with_reducible apply cell_alloc | with_reducible apply cell_drew)) ((first
    | (go_at_call 75
       with_reducible refine HC1.out.mono ?_
       rintro e w3 ⟨o,rfl,ho,hn3⟩
       have hnq:New wq w3:=Fr.trans (Fr.drew (New.refl _)) hn3
       have d0:w3.cell? ⟨w.heap.size,0,none⟩=some (.int .u32 uid):=Fr.cell hnq q0 id
       have d1:w3.cell? ⟨w.heap.size,1,none⟩=some (.int .u8 fl):=Fr.cell hnq q1 id
       have d2:w3.cell? ⟨w.heap.size,2,none⟩=some (.slice A n c):=Fr.cell hnq q2 id
       obtain ⟨B,m',c',rfl⟩:=own_shape ho)
    | (go_at_call 75
       with_reducible refine HC2.out.mono ?_
       rintro e w3 ⟨o,rfl,ho,hn3⟩
       have hnq:New wq w3:=Fr.trans (Fr.drew (Fr.alloc (New.refl _) _)) hn3
       have d0:w3.cell? ⟨w.heap.size,0,none⟩=some (.int .u32 uid):=Fr.cell hnq q0 id
       have d1:w3.cell? ⟨w.heap.size,1,none⟩=some (.int .u8 fl):=Fr.cell hnq q1 id
       have d2:w3.cell? ⟨w.heap.size,2,none⟩=some (.slice A n c):=Fr.cell hnq q2 id
       obtain ⟨B,m',c',rfl⟩:=own_shape ho
       obtain ⟨⟨z0,y0⟩,⟨z1,y1⟩,⟨z2,y2⟩,⟨z3,y3⟩,⟨z4,y4⟩,⟨z5,y5⟩,⟨z6,y6⟩,⟨z7,y7⟩,⟨z8,y8⟩,⟨z9,y9⟩⟩:=cells10 (HBZ.out w3 hn3))
    | fail))
   · have hsz:=HWQ.out
     have hsz3:=hnq.size
     refine HK.out _ B m' c' _ _ _ _ _ _ _ _ _ _ _ _ _ (Blk.new w3 _ _) ((ho.alloc _).mono ?_) ((hn1.trans hnq).alloc _) ((New.blk hnq b2).alloc _) (by omega)
     show w.heap.size≤wq.heap.size
     omega
   · have hsz:=HWQ.out
     have bz:=HBZ.out w3 hn3
     have hf10:Fr (fun k=>k=wq.heap.size) w3 ((((((((((w3.setCell ⟨wq.heap.size,0,none⟩ (.int .i64 0)).setCell ⟨wq.heap.size,1,none⟩ (.int .u32 0)).setCell ⟨wq.heap.size,2,none⟩ (.string ⟨#[]⟩)).setCell ⟨wq.heap.size,3,none⟩ (.int .i64 0)).setCell ⟨wq.heap.size,4,none⟩ (.string ⟨#[]⟩)).setCell ⟨wq.heap.size,5,none⟩ (.int .i64 0)).setCell ⟨wq.heap.size,6,none⟩ (.int .u8 fl)).setCell ⟨wq.heap.size,7,none⟩ (.int .u32 uid)).setCell ⟨wq.heap.size,8,none⟩ (.int .u32 n)).setCell ⟨wq.heap.size,9,none⟩ (.slice B m' c')) :=
      One.set (One.set (One.set (One.set (One.set (One.set (One.set (One.set (One.set (One.set (One.refl wq.heap.size w3) 0 _) 1 _) 2 _) 3 _) 4 _) 5 _) 6 _) 7 _) 8 _) 9 _
     refine HK.out wq.heap.size B m' c' _ _ _ _ _ _ _ _ _ _ _ _ _ ((((((((((bz.set_ 0 _).set_ 1 _).set_ 2 _).set_ 3 _).set_ 4 _).set_ 5 _).set_ 6 _).set_ 7 _).set_ 8 _).set_ 9 _) ((ho.fr hf10 fun b hb e=>?_).mono ?_) (New.one (hn1.trans hnq) hf10 (by omega)) (One.blk hf10 (New.blk hnq b2) (by omega)) (by omega)
     · have h1:=(ho.block hb).1
       have h2:(wq.alloc (.cells #[.int .i64 0,.int .u32 0,.string ⟨#[]⟩,.int .i64 0,.string ⟨#[]⟩,.int .i64 0,.int .u8 0,.int .u32 0,.int .u32 0,.slice none 0 0] 53)).drew.heap.size=wq.heap.size + 1:=World.size_alloc _ _
       omega
     · have h2:(wq.alloc (.cells #[.int .i64 0,.int .u32 0,.string ⟨#[]⟩,.int .i64 0,.string ⟨#[]⟩,.int .i64 0,.int .u8 0,.int .u32 0,.int .u32 0,.slice none 0 0] 53)).drew.heap.size=wq.heap.size + 1:=World.size_alloc _ _
       omega
 · have hp1:(bits .and .i64 items 8 == 0)=false:=beq_eq_false_iff_ne.2 hp
   have hp2:(bits .and .i64 items 8 != 0)=true:=by rw [bne,hp1]; rfl
   obtain ⟨I2,hI2⟩:∃ I2,bits .or .i64 items 16=I2:=⟨_,rfl⟩
   have HI2:=Lib.hid hI2
   clear hp hI2
   go_enter Tryz.func144,Tryz.ntmps144
   go_upto_region 3 with fail
   rw [← hwq] at b1 b2 hn1 HV ⊢
   rw [HI2.out]
   have q0:wq.cell? ⟨w.heap.size,0,none⟩=some (.int .u32 uid):=b1.cell 0
   have q1:wq.cell? ⟨w.heap.size,1,none⟩=some (.int .u8 fl):=b1.cell 1
   have q2:wq.cell? ⟨w.heap.size,2,none⟩=some (.slice A n c):=b1.cell 2
   have hwr:IntKind.u32.wrap (n:Int)=(n:Int):=by unfold IntKind.wrap; simp [IntKind.bits,IntKind.signed]; omega
   clear hwq
   have r0:wq.drew.cell? ⟨w.heap.size,0,none⟩=some (.int .u32 uid):=q0
   have r1:wq.drew.cell? ⟨w.heap.size,1,none⟩=some (.int .u8 fl):=q1
   have r2:wq.drew.cell? ⟨w.heap.size,2,none⟩=some (.slice A n c):=q2
   have hneq:wq.heap.size≠w.heap.size:=by have:=HWQ.out; omega
   have HC1:=Lib.hid (bclone_any (.slice A n c) body wq.drew (HV.out.drew) (by have:=HBL.out; omega))
   have HC2:=Lib.hid (bclone_any (.slice A n c) body (wq.alloc (.cells #[.int .i64 0,.int .u32 0,.string ⟨#[]⟩,.int .i64 0,.string ⟨#[]⟩,.int .i64 0,.int .u8 0,.int .u32 0,.int .u32 0,.slice none 0 0] 53)).drew ((HV.out.alloc _).drew) (by have:=HBL.out; omega))
   have HBZ:Hid (∀ w3,New (wq.alloc (.cells #[.int .i64 0,.int .u32 0,.string ⟨#[]⟩,.int .i64 0,.string ⟨#[]⟩,.int .i64 0,.int .u8 0,.int .u32 0,.int .u32 0,.slice none 0 0] 53)).drew w3→Blk w3 wq.heap.size 53 #[.int .i64 0,.int .u32 0,.string ⟨#[]⟩,.int .i64 0,.string ⟨#[]⟩,.int .i64 0,.int .u8 0,.int .u32 0,.int .u32 0,.slice none 0 0]):=Lib.hid fun w3 hn3=>New.blk hn3 (Blk.drew (Blk.new wq 53 #[.int .i64 0,.int .u32 0,.string ⟨#[]⟩,.int .i64 0,.string ⟨#[]⟩,.int .i64 0,.int .u8 0,.int .u32 0,.int .u32 0,.slice none 0 0]))
   rename_i K hK
   have HK:Hid (∀ (RB:Nat) (B:Option Addr) (m' c':Nat) (u16 u17 u18 u19 u20 u21 u22 u23 u24 u25 u26 u27:Value) (wx:World),Blk wx RB 53 (rC 0 0 ⟨#[]⟩ 0 ⟨#[]⟩ 0 fl uid n (.slice B m' c'))→Own (intE .u8) 5 w.heap.size wx (.slice B m' c') body→New w wx→Blk wx (w.heap.size + 1) 53 (rC 0 0 ⟨#[]⟩ 0 ⟨#[]⟩ 0 0 0 0 (.slice none 0 0))→w.heap.size≤RB →
    K { tmps:=#[.int .i64 seq,.int .i64 I2,.agg #[.int .u32 uid,.int .u8 fl,.slice A n c],undef,undef,.pointer (some ⟨w.heap.size,0,none⟩),.pointer (some ⟨w.heap.size + 1,0,none⟩),.pointer (some ⟨RB,0,none⟩),undef,undef,undef,.int .i64 items,.int .i64 (bits .and .i64 items 8),.bool true,.int .i64 items,.int .i64 I2,u16,u17,u18,u19,u20,u21,u22,u23,u24,u25,u26,u27,undef,undef,undef,undef,undef,undef,undef,undef,undef,undef,undef,undef,undef,undef,undef,undef,undef,undef,undef,undef,undef,undef,undef,undef,undef,undef],defers:=[] } wx):=Lib.hid (by
    intro RB B m' c' u16 u17 u18 u19 u20 u21 u22 u23 u24 u25 u26 u27 wx hB hO hN hX hR
    apply hK
    clear hK K HC1 HC2 HBZ r0 r1 r2 q0 q1 q2 b1 b2 hn1 HV hneq hwr
    have hs0:=HS.out.1
    have hs1:=HS.out.2.1
    have hwr:IntKind.u32.wrap seq=seq:=by unfold IntKind.wrap; simp [IntKind.bits,IntKind.signed]; omega
    obtain ⟨OB,hOB⟩:∃ OB,OB=wx.heap.size:=⟨_,rfl⟩
    have hbO:Blk (wx.alloc (.cells (rC 4 seq ⟨#[]⟩ 0 ⟨#[]⟩ 0 0 0 0 (.slice none 0 0)) 53)) OB 53 (rC 4 seq ⟨#[]⟩ 0 ⟨#[]⟩ 0 0 0 0 (.slice none 0 0)):=hOB ▸ Blk.new _ _ _
    have hlt:=hB.lt
    have hNs:=hN.size
    have hltx:=hX.lt
    have HB:=Lib.hid (And.intro hB (And.intro hO (And.intro hN hX)))
    clear hB hO hN hX hs0 hs1
    go_wp2_with fail
    refine (parts_any _).mono ?_
    rintro e w4 ⟨rfl,hw4⟩
    obtain ⟨PB,hPB⟩:∃ PB,PB=(wx.alloc (.cells #[.int .i64 4,.int .u32 seq,.string ⟨#[]⟩,.int .i64 0,.string ⟨#[]⟩,.int .i64 0,.int .u8 0,.int .u32 0,.int .u32 0,.slice none 0 0] 53)).heap.size:=⟨_,rfl⟩
    have hp4:Blk w4 PB 298 partCs:=by rw [hw4,hPB]; exact Blk.new _ _ _
    have n4:New wx w4:=by rw [hw4]; exact ((New.refl wx).alloc _).alloc _
    have o4:Blk w4 OB 53 (rC 4 seq ⟨#[]⟩ 0 ⟨#[]⟩ 0 0 0 0 (.slice none 0 0)):=by rw [hw4]; exact hbO.alloc _
    have L0:Hid (MsgL True w w4 OB RB PB (w.heap.size + 1) 0 seq false false false false fl uid n B m' c' body 0 0 0 none 0 0 []):=Lib.hid
     { out:=o4,whole:=n4.blk HB.out.1,parts:=hp4,res:=n4.blk HB.out.2.2.2,own:=HB.out.2.1.new n4,ownq:=Own.nil _ _ _ _,bl:=by simp,new:=HB.out.2.2.1.trans n4,two:=(fun h=>by cases h),f:=by omega,u:=by omega,s:=by omega,z1:=fun _=>rfl,z2:=fun _=>rfl,z3:=fun _=>rfl,z4:=fun _=>rfl,ob:=by omega,ne1:=by omega,ne2:=by omega,xb:=by omega }
    rw [← hPB,← hOB]
    clear hPB hOB hw4 hbO hlt hNs hltx hp4 n4 o4
    obtain ⟨XB,hXB⟩:∃ XB,XB=w.heap.size + 1:=⟨_,rfl⟩
    rw [← hXB] at L0 ⊢
    clear hXB
    go_wp2_with fail
    go_loopw [33] (fun vi wr=>∃ (k:Int) (a1 a2 a3 a4:Bool) (fl' uid' sz':Int) (Bq:Option Addr) (mq cq:Nat) (bl:List Int),vi=.int .i64 k∧0≤k∧k≤4∧Hid (MsgL True w wr OB RB PB XB k seq a1 a2 a3 a4 fl uid n B m' c' body fl' uid' sz' Bq mq cq bl)) (fun vi _=>4 - (intOf vi).toNat)
    case atStart=>exact ⟨0,_,_,_,_,_,_,_,_,_,_,_,rfl,by omega,by omega,L0⟩
    case round =>
     obtain ⟨k,a1,a2,a3,a4,fl',uid',sz',Bq,mq,cq,bl,rfl,hk0,hk1,HL⟩:=hrel
     clear L0
     obtain ⟨⟨c0,f0⟩,⟨c1,f1⟩,⟨c2,f2⟩,⟨c3,f3⟩,⟨c4,f4⟩,⟨c5,f5⟩,⟨c6,f6⟩,⟨c7,f7⟩,⟨c8,f8⟩,⟨c9,f9⟩⟩:=cells10 HL.out.out
     obtain ⟨⟨d0,g0⟩,⟨d1,g1⟩,⟨d2,g2⟩,⟨d3,g3⟩,⟨d4,g4⟩,⟨d5,g5⟩,⟨d6,g6⟩,⟨d7,g7⟩,⟨d8,g8⟩,⟨d9,g9⟩⟩:=cells10 HL.out.whole
     clear g0 g1 g2 g3 g4 g5 g6 g7 g8 g9 f0 f1 f2 f3 f4 f6 f7 f8 f9
     have hOlt:=HL.out.out.lt
     have hRlt:=HL.out.whole.lt
     have hne1:=HL.out.ne1
     by_cases hk4:k=4
     · subst hk4
       clear d0 d1 d2 d3 d4 d5 d6 d7 d8 d9 f5 hk0 hk1 hOlt hRlt hne1
       obtain ⟨⟨x0,y0⟩,⟨x1,y1⟩,⟨x2,y2⟩,⟨x3,y3⟩,⟨x4,y4⟩,⟨x5,y5⟩,⟨x6,y6⟩,⟨x7,y7⟩,⟨x8,y8⟩,⟨x9,y9⟩⟩:=cells10 HL.out.res
       go_wp2_with fail
       have hfX:=one10 (w:=wr) (g:=XB) (.int .i64 4) (.int .u32 seq) (.string ⟨#[]⟩) (.int .i64 0) (.string ⟨#[]⟩) (.int .i64 (itB a1 a2 a3 a4)) (.int .u8 fl') (.int .u32 uid') (.int .u32 sz') (.slice Bq mq cq)
       have hbX:=blk10 HL.out.res (.int .i64 4) (.int .u32 seq) (.string ⟨#[]⟩) (.int .i64 0) (.string ⟨#[]⟩) (.int .i64 (itB a1 a2 a3 a4)) (.int .u8 fl') (.int .u32 uid') (.int .u32 sz') (.slice Bq mq cq)
       refine bodyPost_ret (results_cell1 rfl _ _ rfl (loadR hbX)) rfl ⟨⟨4,seq,⟨#[]⟩,0,⟨#[]⟩,itB a1 a2 a3 a4,fl',uid',sz',Bq,mq,cq⟩,rfl,?_,rfl,rfl,fun h=>⟨(HL.out.two (itB_two _ _ _ _ h)).1,fun e=>absurd e (beq_eq_false_iff_ne.1 hp1)⟩,New.one HL.out.new hfX HL.out.xb⟩
       have hs:=HS.out
       have hit:=itB_bd a1 a2 a3 a4
       exact { kk:=by dsimp only; omega,n0:=⟨hs.1,hs.2.1⟩,t0:=by show (0:Nat)≤1000000; omega,x0:=by show (0:Nat)≤1000000; omega,st0:=by dsimp only; omega,it0:=by dsimp only; omega,fl0:=HL.out.f,uid0:=HL.out.u,sz0:=HL.out.s,body:=⟨bl,HL.out.ownq.fr hfX (fun g hg e=>HL.out.ownq.blk_ne HL.out.res (by decide) (by rw [hg,e])),HL.out.bl⟩ }
     · have hlt4:decide (k < 4)=true:=decide_eq_true (by omega)
       have hPlt:=HL.out.parts.lt
       obtain rfl | rfl | rfl | rfl:k=0∨k=1∨k=2∨k=3:=by omega
       · have p0:wr.cell? ⟨PB,0,none⟩=some (.int .i64 1):=HL.out.parts.cell 0
         have p1:wr.cell? ⟨PB,1,none⟩=some (pF 249):=HL.out.parts.cell 1
         have p2:wr.cell? ⟨PB,2,none⟩=some (pF 251):=HL.out.parts.cell 2
         obtain rfl:a1=false:=HL.out.z1 (by omega)
         obtain rfl:a2=false:=HL.out.z2 (by omega)
         obtain rfl:a3=false:=HL.out.z3 (by omega)
         obtain rfl:a4=false:=HL.out.z4 (by omega)
         have hor:bits .or .i64 (itB false false false false) 1=itB true false false false:=itB_or1
         by_cases hq:bits .and .i64 I2 1=0
         · have e1:(bits .and .i64 I2 1 == 0)=true:=beq_iff_eq.2 hq
           have e2:(bits .and .i64 I2 1 != 0)=false:=by rw [bne,e1]; rfl
           clear hq hor
           go_wp2_with fail
           go_roundw
           · exact ⟨1,_,_,_,_,_,_,_,_,_,_,_,rfl,by omega,by omega,Lib.hid (HL.out.skip ((New.refl _).alloc _))⟩
           · simp [intOf]
         · have e1:(bits .and .i64 I2 1 == 0)=false:=beq_eq_false_iff_ne.2 hq
           have e2:(bits .and .i64 I2 1 != 0)=true:=by rw [bne,e1]; rfl
           clear hq
           go_wp2_with fail
           refine (copy1_any (k:=4) (n:=seq) (t:=⟨#[]⟩) (st:=0) (x:=⟨#[]⟩) (it:=itB true false false false) (fl:=fl') (uid:=uid') (sz:=sz') (b:=.slice Bq mq cq) 0 0 ⟨#[]⟩ 0 ⟨#[]⟩ 0 fl uid n (.slice B m' c') ?hb0n).mono ?_
           case hb0n=>first | exact (HL.out.out.set_ 5 _).alloc _ | exact (HL.out.out.alloc _).set_ 5 _
           rintro e w5 ⟨rfl,hb5,o5⟩
           have o6:One OB wr w5:=Fr.trans (by first | exact Fr.alloc (One.set (One.refl OB wr) 5 _) _ | exact One.set (Fr.alloc (One.refl OB wr) _) 5 _) o5
           go_wp2_with fail
           go_roundw
           · refine ⟨1,true,false,false,false,_,_,_,_,_,_,_,rfl,by omega,by omega,Lib.hid (HL.out.step o6 hb5 HL.out.ownq HL.out.bl (fun h=>by cases h) HS.out.2.2.2 HL.out.u HL.out.s (fun e=>by omega) (fun e=>by first | rfl | omega) (fun e=>by first | rfl | omega) (fun e=>by first | rfl | omega))⟩
           · simp [intOf]
       · have p0:wr.cell? ⟨PB,3,none⟩=some (.int .i64 2):=HL.out.parts.cell 3
         have p1:wr.cell? ⟨PB,4,none⟩=some (pF 252):=HL.out.parts.cell 4
         have p2:wr.cell? ⟨PB,5,none⟩=some (pF 253):=HL.out.parts.cell 5
         obtain rfl:a2=false:=HL.out.z2 (by omega)
         obtain rfl:a3=false:=HL.out.z3 (by omega)
         obtain rfl:a4=false:=HL.out.z4 (by omega)
         have hor:bits .or .i64 (itB a1 false false false) 2=itB a1 true false false:=itB_or2 a1
         by_cases hq:bits .and .i64 I2 2=0
         · have e1:(bits .and .i64 I2 2 == 0)=true:=beq_iff_eq.2 hq
           have e2:(bits .and .i64 I2 2 != 0)=false:=by rw [bne,e1]; rfl
           clear hq hor
           go_wp2_with fail
           go_roundw
           · exact ⟨2,_,_,_,_,_,_,_,_,_,_,_,rfl,by omega,by omega,Lib.hid (HL.out.skip ((New.refl _).alloc _))⟩
           · simp [intOf]
         · have e1:(bits .and .i64 I2 2 == 0)=false:=beq_eq_false_iff_ne.2 hq
           have e2:(bits .and .i64 I2 2 != 0)=true:=by rw [bne,e1]; rfl
           clear hq
           go_wp2_with fail
           refine (copy2_any (k:=4) (n:=seq) (t:=⟨#[]⟩) (st:=0) (x:=⟨#[]⟩) (it:=itB a1 true false false) (fl:=fl') (uid:=uid') (sz:=sz') (b:=.slice Bq mq cq) 0 0 ⟨#[]⟩ 0 ⟨#[]⟩ 0 fl uid n (.slice B m' c') ?hb1n).mono ?_
           case hb1n=>first | exact (HL.out.out.set_ 5 _).alloc _ | exact (HL.out.out.alloc _).set_ 5 _
           rintro e w5 ⟨rfl,hb5,o5⟩
           have o6:One OB wr w5:=Fr.trans (by first | exact Fr.alloc (One.set (One.refl OB wr) 5 _) _ | exact One.set (Fr.alloc (One.refl OB wr) _) 5 _) o5
           go_wp2_with fail
           go_roundw
           · refine ⟨2,a1,true,false,false,_,_,_,_,_,_,_,rfl,by omega,by omega,Lib.hid (HL.out.step o6 hb5 HL.out.ownq HL.out.bl (fun _=>⟨rfl,trivial⟩) HL.out.f HS.out.2.2.1 HL.out.s (fun e=>by omega) (fun e=>by first | rfl | omega) (fun e=>by first | rfl | omega) (fun e=>by first | rfl | omega))⟩
           · simp [intOf]
       · have p0:wr.cell? ⟨PB,6,none⟩=some (.int .i64 4):=HL.out.parts.cell 6
         have p1:wr.cell? ⟨PB,7,none⟩=some (pF 254):=HL.out.parts.cell 7
         have p2:wr.cell? ⟨PB,8,none⟩=some (pF 255):=HL.out.parts.cell 8
         obtain rfl:a3=false:=HL.out.z3 (by omega)
         obtain rfl:a4=false:=HL.out.z4 (by omega)
         have hor:bits .or .i64 (itB a1 a2 false false) 4=itB a1 a2 true false:=itB_or3 a1 a2
         by_cases hq:bits .and .i64 I2 4=0
         · have e1:(bits .and .i64 I2 4 == 0)=true:=beq_iff_eq.2 hq
           have e2:(bits .and .i64 I2 4 != 0)=false:=by rw [bne,e1]; rfl
           clear hq hor
           go_wp2_with fail
           go_roundw
           · exact ⟨3,_,_,_,_,_,_,_,_,_,_,_,rfl,by omega,by omega,Lib.hid (HL.out.skip ((New.refl _).alloc _))⟩
           · simp [intOf]
         · have e1:(bits .and .i64 I2 4 == 0)=false:=beq_eq_false_iff_ne.2 hq
           have e2:(bits .and .i64 I2 4 != 0)=true:=by rw [bne,e1]; rfl
           clear hq
           go_wp2_with fail
           refine (copy3_any (k:=4) (n:=seq) (t:=⟨#[]⟩) (st:=0) (x:=⟨#[]⟩) (it:=itB a1 a2 true false) (fl:=fl') (uid:=uid') (sz:=sz') (b:=.slice Bq mq cq) 0 0 ⟨#[]⟩ 0 ⟨#[]⟩ 0 fl uid n (.slice B m' c') ?hb2n).mono ?_
           case hb2n=>first | exact (HL.out.out.set_ 5 _).alloc _ | exact (HL.out.out.alloc _).set_ 5 _
           rintro e w5 ⟨rfl,hb5,o5⟩
           have o6:One OB wr w5:=Fr.trans (by first | exact Fr.alloc (One.set (One.refl OB wr) 5 _) _ | exact One.set (Fr.alloc (One.refl OB wr) _) 5 _) o5
           go_wp2_with fail
           go_roundw
           · refine ⟨3,a1,a2,true,false,_,_,_,_,_,_,_,rfl,by omega,by omega,Lib.hid (HL.out.step o6 hb5 HL.out.ownq HL.out.bl HL.out.two HL.out.f HL.out.u (by omega) (fun e=>by omega) (fun e=>by first | rfl | omega) (fun e=>by first | rfl | omega) (fun e=>by first | rfl | omega))⟩
           · simp [intOf]
       · have p0:wr.cell? ⟨PB,9,none⟩=some (.int .i64 16):=HL.out.parts.cell 9
         have p1:wr.cell? ⟨PB,10,none⟩=some (pF 256):=HL.out.parts.cell 10
         have p2:wr.cell? ⟨PB,11,none⟩=some (pF 258):=HL.out.parts.cell 11
         obtain rfl:a4=false:=HL.out.z4 (by omega)
         have hor:bits .or .i64 (itB a1 a2 a3 false) 16=itB a1 a2 a3 true:=itB_or4 a1 a2 a3
         by_cases hq:bits .and .i64 I2 16=0
         · have e1:(bits .and .i64 I2 16 == 0)=true:=beq_iff_eq.2 hq
           have e2:(bits .and .i64 I2 16 != 0)=false:=by rw [bne,e1]; rfl
           clear hq hor
           go_wp2_with fail
           go_roundw
           · exact ⟨4,_,_,_,_,_,_,_,_,_,_,_,rfl,by omega,by omega,Lib.hid (HL.out.skip ((New.refl _).alloc _))⟩
           · simp [intOf]
         · have e1:(bits .and .i64 I2 16 == 0)=false:=beq_eq_false_iff_ne.2 hq
           have e2:(bits .and .i64 I2 16 != 0)=true:=by rw [bne,e1]; rfl
           clear hq
           go_wp2_with fail
           refine (copy4_any (k:=4) (n:=seq) (t:=⟨#[]⟩) (st:=0) (x:=⟨#[]⟩) (it:=itB a1 a2 a3 true) (fl:=fl') (uid:=uid') (sz:=sz') 0 0 ⟨#[]⟩ 0 ⟨#[]⟩ 0 fl uid n Bq B mq cq m' c' ?hb3n).mono ?_
           case hb3n=>first | exact (HL.out.out.set_ 5 _).alloc _ | exact (HL.out.out.alloc _).set_ 5 _
           rintro e w5 ⟨rfl,hb5,o5⟩
           have o6:One OB wr w5:=Fr.trans (by first | exact Fr.alloc (One.set (One.refl OB wr) 5 _) _ | exact One.set (Fr.alloc (One.refl OB wr) _) 5 _) o5
           go_wp2_with fail
           go_roundw
           · refine ⟨4,a1,a2,a3,true,_,_,_,_,_,_,_,rfl,by omega,by omega,Lib.hid (HL.out.step o6 hb5 HL.out.own HBL.out HL.out.two HL.out.f HL.out.u HL.out.s (fun e=>by omega) (fun e=>by first | rfl | omega) (fun e=>by first | rfl | omega) (fun e=>by first | rfl | omega))⟩
           · simp [intOf]
       )
   go_region_held3 (fun w'=>w'.cell? ⟨w.heap.size,0,none⟩=some (.int .u32 uid)∧w'.cell? ⟨w.heap.size,1,none⟩=some (.int .u8 fl)∧w'.cell? ⟨w.heap.size,2,none⟩=some (.slice A n c)) (refine ⟨?_,?_,?_⟩ <;> (repeat' first | with_reducible assumption | exact hneq | with_reducible apply cell_far | with_reducible apply cell_alloc | with_reducible apply cell_drew)) ((first
    | (go_at_call 75
       with_reducible refine HC1.out.mono ?_
       rintro e w3 ⟨o,rfl,ho,hn3⟩
       have hnq:New wq w3:=Fr.trans (Fr.drew (New.refl _)) hn3
       have d0:w3.cell? ⟨w.heap.size,0,none⟩=some (.int .u32 uid):=Fr.cell hnq q0 id
       have d1:w3.cell? ⟨w.heap.size,1,none⟩=some (.int .u8 fl):=Fr.cell hnq q1 id
       have d2:w3.cell? ⟨w.heap.size,2,none⟩=some (.slice A n c):=Fr.cell hnq q2 id
       obtain ⟨B,m',c',rfl⟩:=own_shape ho)
    | (go_at_call 75
       with_reducible refine HC2.out.mono ?_
       rintro e w3 ⟨o,rfl,ho,hn3⟩
       have hnq:New wq w3:=Fr.trans (Fr.drew (Fr.alloc (New.refl _) _)) hn3
       have d0:w3.cell? ⟨w.heap.size,0,none⟩=some (.int .u32 uid):=Fr.cell hnq q0 id
       have d1:w3.cell? ⟨w.heap.size,1,none⟩=some (.int .u8 fl):=Fr.cell hnq q1 id
       have d2:w3.cell? ⟨w.heap.size,2,none⟩=some (.slice A n c):=Fr.cell hnq q2 id
       obtain ⟨B,m',c',rfl⟩:=own_shape ho
       obtain ⟨⟨z0,y0⟩,⟨z1,y1⟩,⟨z2,y2⟩,⟨z3,y3⟩,⟨z4,y4⟩,⟨z5,y5⟩,⟨z6,y6⟩,⟨z7,y7⟩,⟨z8,y8⟩,⟨z9,y9⟩⟩:=cells10 (HBZ.out w3 hn3))
    | fail))
   · have hsz:=HWQ.out
     have hsz3:=hnq.size
     refine HK.out _ B m' c' _ _ _ _ _ _ _ _ _ _ _ _ _ (Blk.new w3 _ _) ((ho.alloc _).mono ?_) ((hn1.trans hnq).alloc _) ((New.blk hnq b2).alloc _) (by omega)
     show w.heap.size≤wq.heap.size
     omega
   · have hsz:=HWQ.out
     have bz:=HBZ.out w3 hn3
     have hf10:Fr (fun k=>k=wq.heap.size) w3 ((((((((((w3.setCell ⟨wq.heap.size,0,none⟩ (.int .i64 0)).setCell ⟨wq.heap.size,1,none⟩ (.int .u32 0)).setCell ⟨wq.heap.size,2,none⟩ (.string ⟨#[]⟩)).setCell ⟨wq.heap.size,3,none⟩ (.int .i64 0)).setCell ⟨wq.heap.size,4,none⟩ (.string ⟨#[]⟩)).setCell ⟨wq.heap.size,5,none⟩ (.int .i64 0)).setCell ⟨wq.heap.size,6,none⟩ (.int .u8 fl)).setCell ⟨wq.heap.size,7,none⟩ (.int .u32 uid)).setCell ⟨wq.heap.size,8,none⟩ (.int .u32 n)).setCell ⟨wq.heap.size,9,none⟩ (.slice B m' c')) :=
      One.set (One.set (One.set (One.set (One.set (One.set (One.set (One.set (One.set (One.set (One.refl wq.heap.size w3) 0 _) 1 _) 2 _) 3 _) 4 _) 5 _) 6 _) 7 _) 8 _) 9 _
     refine HK.out wq.heap.size B m' c' _ _ _ _ _ _ _ _ _ _ _ _ _ ((((((((((bz.set_ 0 _).set_ 1 _).set_ 2 _).set_ 3 _).set_ 4 _).set_ 5 _).set_ 6 _).set_ 7 _).set_ 8 _).set_ 9 _) ((ho.fr hf10 fun b hb e=>?_).mono ?_) (New.one (hn1.trans hnq) hf10 (by omega)) (One.blk hf10 (New.blk hnq b2) (by omega)) (by omega)
     · have h1:=(ho.block hb).1
       have h2:(wq.alloc (.cells #[.int .i64 0,.int .u32 0,.string ⟨#[]⟩,.int .i64 0,.string ⟨#[]⟩,.int .i64 0,.int .u8 0,.int .u32 0,.int .u32 0,.slice none 0 0] 53)).drew.heap.size=wq.heap.size + 1:=World.size_alloc _ _
       omega
     · have h2:(wq.alloc (.cells #[.int .i64 0,.int .u32 0,.string ⟨#[]⟩,.int .i64 0,.string ⟨#[]⟩,.int .i64 0,.int .u8 0,.int .u32 0,.int .u32 0,.slice none 0 0] 53)).drew.heap.size=wq.heap.size + 1:=World.size_alloc _ _
       omega
end Go.Proofs.YtliimglbbiebiaaGreatDoor
end

