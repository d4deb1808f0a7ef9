/- A part of the proof: Words, MsgP, Rws, RowOps, Ints, More, OwnMore, Msg, Maps. -/
import Derived.WalkKit
import Derived.Below
import Derived.Laws.OwnMore
import Derived.Laws.Rows
import Derived.Deep.AppendLies
import Derived.Deep.Draws
import Derived.Lib.Hide
import Derived.Maps.AppendAt
import Derived.StillTailTactics
import Derived.Laws.BitsAllLaws
import Derived.OwnWalk
import Derived.Laws.CopyRow
import Derived.Lib.SliceRun
import Derived.Lib.AppendZerosOnto
import Derived.Test.YtliimglbbiebiaaGreatDoorRows
import Derived.WalkSpells
import Derived.WalkLawsBesides
import Derived.Deep.QuietTactic
import Derived.BigQuiet
import Derived.Maps.Own
import Derived.Maps.OwnOps
import Derived.Maps.OwnSet
set_option maxRecDepth 100000
set_option maxHeartbeats 6400000
section
namespace Go.Proofs.YtliimglbbiebiaaGreatDoor
open Go.RowKit
def Blk (w:World) (g:Nat) (t:TypeId) (cs:Array Value):Prop:=w.heap[g]? = some (.cells cs t (0,0))
section
variable {w w':World} {g:Nat} {t:TypeId} {cs:Array Value}
theorem Blk.lt (h:Blk w g t cs):g < w.heap.size:=by
 rcases Nat.lt_or_ge g w.heap.size with hlt | hge
 · exact hlt
 · unfold Blk at h; rw [Array.getElem?_eq_none hge] at h; cases h
theorem Blk.cell (h:Blk w g t cs) (i:Nat):w.cell? ⟨g,i,none⟩=cs[i]?:=cell_of_row w g i cs t (0,0) h
theorem Blk.frozen (h:Blk w g t cs) (i:Nat):w.frozen? ⟨g,i,none⟩=false:=by
 unfold Blk at h
 simp [World.frozen?,h]
theorem Blk.new (w:World) (t:TypeId) (cs:Array Value):Blk (w.alloc (.cells cs t)) w.heap.size t cs:=heap_alloc_new w _
theorem Blk.drew (h:Blk w g t cs):Blk w.drew g t cs:=h
theorem Blk.drewN (h:Blk w g t cs) (n:Nat):Blk (w.drewN n) g t cs:=h
theorem Blk.alloc (h:Blk w g t cs) (o:Obj):Blk (w.alloc o) g t cs:=(Below.heap_alloc w o g h.lt).trans h
theorem Blk.set_ (h:Blk w g t cs) (i:Nat) (u:Value):Blk (w.setCell ⟨g,i,none⟩ u) g t (cs.setIfInBounds i u):=by
 unfold Blk at h ⊢
 simp [World.setCell,Array.getElem?_modify,h]
theorem Blk.far (h:Blk w g t cs) {p:Addr} (hp:g≠p.block) (u:Value):Blk (w.setCell p u) g t cs:=(Below.heap_setCell w p u g hp).trans h
theorem Blk.ne_ {g':Nat} {t':TypeId} {cs':Array Value} (h:Blk w g t cs) (h':Blk w g' t' cs') (hne:t≠t'):g≠g':=by
 rintro rfl
 unfold Blk at h h'
 rw [h] at h'
 injection h' with h'
 injection h' with _ ht
 exact hne ht
end
structure Fr (S:Nat→Prop) (w w':World):Prop where
 os:w'.os=w.os
 tape:w'.tape=w.tape
 output:w'.output=w.output
 size:w.heap.size≤w'.heap.size
 block:∀ k,k < w.heap.size→¬ S k→w'.heap[k]? = w.heap[k]?
section
variable {S T:Nat→Prop} {a b c w w':World}
theorem Fr.refl (S:Nat→Prop) (w:World):Fr S w w:=⟨rfl,rfl,rfl,Nat.le_refl _,fun _ _ _=>rfl⟩
theorem Fr.trans (h:Fr S a b) (k:Fr S b c):Fr S a c :=
 ⟨k.os.trans h.os,k.tape.trans h.tape,k.output.trans h.output,Nat.le_trans h.size k.size,fun i hi hn=>(k.block i (Nat.lt_of_lt_of_le hi h.size) hn).trans (h.block i hi hn)⟩
theorem Fr.trans' (h:Fr S a b) (k:Fr T b c) (hT:∀ i,i < a.heap.size→T i→S i):Fr S a c :=
 ⟨k.os.trans h.os,k.tape.trans h.tape,k.output.trans h.output,Nat.le_trans h.size k.size,fun i hi hn=>(k.block i (Nat.lt_of_lt_of_le hi h.size) (fun ht=>hn (hT i hi ht))).trans (h.block i hi hn)⟩
theorem Fr.mono (h:Fr S a b) (hT:∀ i,i < a.heap.size→S i→T i):Fr T a b :=
 ⟨h.os,h.tape,h.output,h.size,fun i hi hn=>h.block i hi (fun hs=>hn (hT i hi hs))⟩
theorem Fr.drew (h:Fr S a w):Fr S a w.drew:=⟨h.os,h.tape,h.output,h.size,h.block⟩
theorem Fr.drewN (h:Fr S a w) (n:Nat):Fr S a (w.drewN n):=⟨h.os,h.tape,h.output,h.size,h.block⟩
theorem Fr.alloc (h:Fr S a w) (o:Obj):Fr S a (w.alloc o) :=
 ⟨h.os,h.tape,h.output,Nat.le_trans h.size (by simp),fun i hi hn=>(Below.heap_alloc w o i (Nat.lt_of_lt_of_le hi h.size)).trans (h.block i hi hn)⟩
theorem Fr.setCell (h:Fr S a w) {p:Addr} (hp:p.block < a.heap.size→S p.block) (u:Value):Fr S a (w.setCell p u) :=
 ⟨h.os,h.tape,h.output,by simpa [World.setCell] using h.size,fun i hi hn=>(Below.heap_setCell w p u i (by rintro rfl; exact hn (hp hi))).trans (h.block i hi hn)⟩
theorem Fr.below (h:Fr S a b) {B:Nat} (hB:∀ i,i < B→i < a.heap.size∧¬ S i):Below B a b :=
 ⟨h.os,h.tape,h.output,h.size,fun i hi=>h.block i (hB i hi).1 (hB i hi).2⟩
theorem Fr.of_below {B:Nat} (h:Below B a b) (hS:∀ i,i < a.heap.size→B≤i→S i):Fr S a b :=
 ⟨h.os,h.tape,h.output,h.size,fun i hi hn=>h.block i (by rcases Nat.lt_or_ge i B with h1 | h1; exact h1; exact absurd (hS i hi h1) hn)⟩
theorem Fr.of_grown {row:Option Nat} (h:a.grownBy b row) (hS:∀ i,row=some i→S i):Fr S a b :=
 ⟨h.os,h.tape,h.output,h.size,fun i hi hn=>h.block i hi (fun e=>hn (hS i e.symm))⟩
theorem Fr.blk {g:Nat} {t:TypeId} {cs:Array Value} (h:Fr S a b) (hb:Blk a g t cs) (hg:¬ S g):Blk b g t cs:=(h.block g hb.lt hg).trans hb
theorem Fr.cell (h:Fr S a b) {p:Addr} {v:Value} (hc:a.cell? p=some v) (hp:¬ S p.block):b.cell? p=some v :=
 (World.cell?_of_block (h.block p.block (World.block_lt_of_cell? a p hc) hp)).trans hc
end
abbrev New (w w':World):Prop:=Fr (fun _=>False) w w'
abbrev One (g:Nat) (w w':World):Prop:=Fr (fun k=>k=g) w w'
theorem One.refl (g:Nat) (w:World):One g w w:=Fr.refl _ _
theorem One.set {g:Nat} {a w:World} (h:One g a w) (i:Nat) (u:Value):One g a (w.setCell ⟨g,i,none⟩ u):=Fr.setCell h (fun _=>rfl) u
theorem One.blk {g k:Nat} {t:TypeId} {cs:Array Value} {a b:World} (h:One g a b) (hb:Blk a k t cs) (hk:k≠g):Blk b k t cs:=Fr.blk h hb hk
theorem New.blk {k:Nat} {t:TypeId} {cs:Array Value} {a b:World} (h:New a b) (hb:Blk a k t cs):Blk b k t cs:=Fr.blk h hb id
theorem New.refl (w:World):New w w:=Fr.refl _ _
theorem New.one {g:Nat} {a b c:World} (h:New a b) (k:One g b c) (hg:a.heap.size≤g):New a c:=Fr.trans' h k (fun _ hi e=>by subst e; omega)
theorem New.toBelow {w w':World} (h:New w w'):Below w.heap.size w w':=h.below fun _ hi=>⟨hi,id⟩
theorem New.of_below {w w':World} (h:Below w.heap.size w w'):New w w':=Fr.of_below h fun _ hi hB=>by omega
theorem wp_tail {P:Program} {id:Nat} {Q:Exit→Act→World→Prop} {a:Act} {w:World} {l:List Oper} (n:Nat) (hm:P.follows .mixedOrders=true) (hB:Region.lexTailB .any l.toArray n=true)
 (h:wpStill P l.toArray w.drew (fun a'=>wpList P l.toArray Q (l.drop n) a' w.drew) (l.take n) a):(Code.region id l.toArray true).wp P Q a w :=
 wp_region_still_tail n hm hB h
end Go.Proofs.YtliimglbbiebiaaGreatDoor
end

section
namespace Go.Proofs.YtliimglbbiebiaaGreatDoor
open Go.RowKit
structure Msg where
 uid:Int
 fl:Int
 body:List Int
 deriving DecidableEq
def Msg.wf (m:Msg):Prop:=(0≤m.uid∧m.uid≤4294967295)∧(0≤m.fl∧m.fl≤255)
def Msg.ok (m:Msg):Prop:=(1≤m.uid∧m.uid≤4294967295)∧(0≤m.fl∧m.fl≤31)
def msg0:Msg:=⟨0,0,[]⟩
def findM (M:List Msg) (k:Int):Option Msg:=M.find? fun m=>decide (m.uid=k)
def putC (M:List Msg) (m:Msg):Int:=if m.uid=0∨31 < m.fl∨65536 < m.body.length then 2 else if (findM M m.uid).isSome then 8 else 0
def putM (M:List Msg) (m:Msg):List Msg:=if putC M m=0 then M ++ [m] else M
def andI (a b:Int):Int:=((a.toNat &&& b.toNat:Nat):Int)
def orI (a b:Int):Int:=((a.toNat ||| b.toNat:Nat):Int)
def andnI (a b:Int):Int:=((a.toNat &&& (255 - b.toNat):Nat):Int)
def chg (old mode f:Int):Option Int:=if 31 < old∨31 < f then none else if mode=0 then some f else if mode=1 then some (orI old f) else if mode=2 then some (andnI old f) else none
def flX (M:List Msg) (k mode f:Int):Int:=match findM M k with | none=>0 | some m=>(chg m.fl mode f).getD 0
def flC (M:List Msg) (k mode f:Int):Int:=match findM M k with | none=>7 | some m=>if (chg m.fl mode f).isSome then 0 else 2
def setF (M:List Msg) (k x:Int):List Msg:=M.map fun m=>if m.uid=k then { m with fl:=x } else m
def flM (M:List Msg) (k mode f:Int):List Msg:=if flC M k mode f=0 then setF M k (flX M k mode f) else M
def remM (M:List Msg) (k:Int):List Msg:=M.filter fun m=>decide (m.uid≠k)
def withL (M:List Msg) (f:Int):List Int:=(M.filter fun m=>decide (andI m.fl f=f)).map Msg.uid
theorem findM_mem {M:List Msg} {k:Int} {m:Msg} (h:findM M k=some m):m ∈ M∧m.uid=k:=by
 unfold findM at h
 refine ⟨List.mem_of_find?_eq_some h,?_⟩
 simpa using List.find?_some h
theorem findM_none {M:List Msg} {k:Int}:findM M k=none ↔ ∀ m ∈ M,m.uid≠k:=by
 unfold findM
 rw [List.find?_eq_none]
 simp
theorem findM_of_mem {M:List Msg} (hnd:(M.map Msg.uid).Nodup) {m:Msg} (h:m ∈ M):findM M m.uid=some m:=by
 induction M with
 | nil=>cases h
 | cons p M ih =>
   rw [List.map_cons,List.nodup_cons] at hnd
   unfold findM at ih ⊢
   rw [List.find?_cons]
   rcases List.mem_cons.1 h with rfl | h'
   · simp
   · have:p.uid≠m.uid:=fun e=>hnd.1 (by rw [e]; exact List.mem_map.2 ⟨m,h',rfl⟩)
     simp [this,ih hnd.2 h']
theorem setF_uid (M:List Msg) (k x:Int):(setF M k x).map Msg.uid=M.map Msg.uid:=by
 unfold setF
 rw [List.map_map]
 refine List.map_congr_left fun m _=>?_
 simp only [Function.comp]
 split <;> rfl
theorem u8_orI {a b:Int} (h1:0≤a) (h2:a≤255) (h3:0≤b) (h4:b≤255):bits .or .u8 a b=orI a b:=u8_or a b h1 (by omega) h3 (by omega)
theorem u8_andI {a b:Int} (h1:0≤a) (h2:a≤255) (h3:0≤b) (h4:b≤255):bits .and .u8 a b=andI a b:=u8_and a b h1 (by omega) h3 (by omega)
theorem u8_andnI {a b:Int} (h1:0≤a) (h2:a≤255) (h3:0≤b) (h4:b≤255):bits .andNot .u8 a b=andnI a b:=u8_andNot a b h1 (by omega) h3 (by omega)
theorem nat31 (a:Nat) (h:a≤31):a < 2 ^ 5:=by omega
theorem orI_le {a b:Int} (h2:a≤31) (h4:b≤31):0≤orI a b∧orI a b≤31:=by
 unfold orI
 have:=Nat.or_lt_two_pow (nat31 a.toNat (by omega)) (nat31 b.toNat (by omega))
 omega
theorem andnI_le {a b:Int} (h2:a≤31):0≤andnI a b∧andnI a b≤31:=by
 unfold andnI
 have:=@Nat.and_le_left a.toNat (255 - b.toNat)
 omega
theorem chg_ok {old mode f x:Int} (h:chg old mode f=some x) (hf0:0≤f):0≤x∧x≤31:=by
 unfold chg at h
 split at h
 · cases h
 · split at h
   · cases h; omega
   · split at h
     · cases h; exact orI_le (by omega) (by omega)
     · split at h
       · cases h; exact andnI_le (by omega)
       · cases h
end Go.Proofs.YtliimglbbiebiaaGreatDoor
end

section
namespace Go.Proofs.YtliimglbbiebiaaGreatDoor
open Go.RowKit
structure Elem (α:Type) where
 enc:α→List Value
 sz:Nat
 len:∀ x,(enc x).length=sz
 one:∀ x,∀ u ∈ enc x,u.oneCell'=true
 pos:0 < sz
def Elem.cells {α:Type} (E:Elem α) (l:List α):List Value:=l.flatMap E.enc
section
variable {α:Type} (E:Elem α)
theorem Elem.cells_length (l:List α):(E.cells l).length=l.length * E.sz:=by
 unfold Elem.cells
 induction l with
 | nil=>simp
 | cons x l ih=>rw [List.flatMap_cons,List.length_append,ih,E.len,List.length_cons,Nat.add_mul]; omega
theorem Elem.cells_append (l m:List α):E.cells (l ++ m)=E.cells l ++ E.cells m:=by simp [Elem.cells]
theorem Elem.cells_one (x:α):E.cells [x]=E.enc x:=by simp [Elem.cells]
theorem Elem.cells_at {l:List α} {i:Nat} {x:α} (hx:l[i]? = some x) {j:Nat} {u:Value} (hu:(E.enc x)[j]? = some u):(E.cells l)[i * E.sz + j]? = some u:=by
 induction l generalizing i with
 | nil=>simp at hx
 | cons y l ih =>
   unfold Elem.cells at ih ⊢
   rw [List.flatMap_cons]
   cases i with
   | zero =>
     simp only [List.getElem?_cons_zero,Option.some.injEq] at hx
     subst hx
     rw [Nat.zero_mul,Nat.zero_add,List.getElem?_append_left (List.getElem?_eq_some_iff.1 hu).1]
     exact hu
   | succ i =>
     rw [List.getElem?_cons_succ] at hx
     rw [List.getElem?_append_right (by rw [E.len,Nat.add_mul]; omega),E.len,show (i + 1) * E.sz + j - E.sz=i * E.sz + j by rw [Nat.add_mul]; omega]
     exact ih hx
theorem Elem.cells_one_cell (l:List α):∀ u ∈ E.cells l,u.oneCell'=true:=by
 intro u hu
 obtain ⟨x,_,hx⟩:=List.mem_flatMap.1 hu
 exact E.one x u hx
end
def Rd {α:Type} (E:Elem α) (w:World) (v:Value) (l:List α):Prop :=
 ∃ A c,v=.slice A l.length c∧l.length≤c∧(l≠[]→∃ b off,A=some ⟨b,off,none⟩∧∀ i x,l[i]? = some x→∀ j u,(E.enc x)[j]? = some u→w.cell? ⟨b,off + (i * E.sz + j),none⟩=some u)
def Own {α:Type} (E:Elem α) (e:TypeId) (base:Nat) (w:World) (v:Value) (l:List α):Prop:=w.ownsRow base e E.sz v l.length (E.cells l)
section
variable {α:Type} {E:Elem α} {e:TypeId} {base:Nat} {w w':World} {v:Value} {l:List α}
theorem Rd.nil (E:Elem α) (w:World):Rd E w (.slice none 0 0) []:=⟨none,0,rfl,Nat.le_refl _,fun h=>absurd rfl h⟩
theorem Rd.cell_lt (h:Rd E w v l) {b:Nat} (hb:v.ownBlock=some b) (hl:l≠[]):b < w.heap.size:=by
 obtain ⟨A,c,rfl,_,h3⟩:=h
 obtain ⟨b',off,rfl,hc⟩:=h3 hl
 simp [Value.ownBlock] at hb
 subst hb
 cases l with
 | nil=>exact absurd rfl hl
 | cons x l =>
   have h0:∃ u,(E.enc x)[0]? = some u:=⟨_,List.getElem?_eq_getElem (by rw [E.len]; exact E.pos)⟩
   obtain ⟨u,hu⟩:=h0
   exact World.block_lt_of_cell? w _ (hc 0 x rfl 0 u hu)
theorem Rd.keep (h:Rd E w v l) (hk:∀ b,v.ownBlock=some b→l≠[]→w'.heap[b]? = w.heap[b]?):Rd E w' v l:=by
 obtain ⟨A,c,rfl,h2,h3⟩:=h
 refine ⟨A,c,rfl,h2,fun hl=>?_⟩
 obtain ⟨b,off,rfl,hc⟩:=h3 hl
 exact ⟨b,off,rfl,fun i x hx j u hu=>(World.cell?_of_block (w:=w) (hk b rfl hl)).trans (hc i x hx j u hu)⟩
theorem Rd.fr {S:Nat→Prop} (h:Rd E w v l) (hf:Fr S w w') (hS:∀ b,v.ownBlock=some b→¬ S b):Rd E w' v l :=
 h.keep fun b hb hl=>hf.block b (h.cell_lt hb hl) (hS b hb)
theorem Rd.new (h:Rd E w v l) (hf:New w w'):Rd E w' v l:=h.fr hf fun _ _=>id
theorem Rd.drew (h:Rd E w v l):Rd E w.drew v l:=h
theorem Rd.alloc (h:Rd E w v l) (o:Obj):Rd E (w.alloc o) v l:=h.new ((New.refl w).alloc o)
theorem Own.nil (E:Elem α) (e:TypeId) (base:Nat) (w:World):Own E e base w (.slice none 0 0) []:=World.ownsRow_nil w base e E.sz
theorem Own.block (h:Own E e base w v l) {b:Nat} (hb:v.ownBlock=some b):base≤b∧b < w.heap.size:=h.lt b hb
theorem Own.keep (h:Own E e base w v l) (hk:∀ b,v.ownBlock=some b→w'.heap[b]? = w.heap[b]?):Own E e base w' v l:=by
 refine ⟨h.1,?_⟩
 rcases h.2 with hn | ⟨g,cap,cur,rfl,hb,hgg,rest⟩
 · exact .inl hn
 · exact .inr ⟨g,cap,cur,rfl,hb,(hk g rfl).trans hgg,rest⟩
theorem Own.fr {S:Nat→Prop} (h:Own E e base w v l) (hf:Fr S w w') (hS:∀ b,v.ownBlock=some b→¬ S b):Own E e base w' v l :=
 h.keep fun b hb=>hf.block b (h.block hb).2 (hS b hb)
theorem Own.new (h:Own E e base w v l) (hf:New w w'):Own E e base w' v l:=h.fr hf fun _ _=>id
theorem Own.drew (h:Own E e base w v l):Own E e base w.drew v l:=h
theorem Own.alloc (h:Own E e base w v l) (o:Obj):Own E e base (w.alloc o) v l:=h.new ((New.refl w).alloc o)
theorem Own.mono (h:Own E e base w v l) {b':Nat} (hb:b'≤base):Own E e b' w v l:=by
 refine ⟨h.1,?_⟩
 rcases h.2 with hn | ⟨g,cap,cur,rfl,hg,rest⟩
 · exact .inl hn
 · exact .inr ⟨g,cap,cur,rfl,Nat.le_trans hb hg,rest⟩
theorem Own.rd (h:Own E e base w v l):Rd E w v l:=by
 have hcells:=fun {g:Nat} (hg:v.ownBlock=some g)=>World.ownsRow.cells h hg
 rcases h.2 with ⟨rfl,hn⟩ | ⟨g,cap,cur,rfl,_,_,hnc,_⟩
 · have:l=[]:=List.eq_nil_of_length_eq_zero hn
   subst this
   exact Rd.nil E w
 · refine ⟨_,cap,rfl,hnc,fun _=>⟨g,0,rfl,fun i x hx j u hu=>?_⟩⟩
   have:=hcells (g:=g) rfl (i * E.sz + j) u (E.cells_at hx hu)
   rw [Addr.add_lit] at this
   exact this
theorem Own.form (h:Own E e base w v l):∃ A c,v=.slice A l.length c∧l.length≤c:=by
 obtain ⟨A,c,h1,h2,_⟩:=h.rd
 exact ⟨A,c,h1,h2⟩
theorem Own.blk_ne {g:Nat} {t:TypeId} {cs:Array Value} (h:Own E e base w v l) (hg:Blk w g t cs) (hne:e≠t):v.ownBlock≠some g:=by
 rcases h.2 with ⟨rfl,_⟩ | ⟨g',cap,cur,rfl,_,hh,_⟩
 · simp [Value.ownBlock]
 · intro he
   have:g'=g:=by simpa [Value.ownBlock] using he
   subst this
   exact Blk.ne_ (t:=e) hh hg hne rfl
end
/-! append at the operation -/
section
variable {P:Program} {α:Type} {E:Elem α} {e:TypeId} {base:Nat} {w:World} {v:Value} {l:List α}
variable {ops:Array Oper} {rest:List Oper} {o:Oper} {a:Act} {Q:Exit→Act→World→Prop}
theorem wpList_push (hgd:o.guard=none) (s x:Operand) (t:TypeId) (ho:o.op=.call { callee:=.builtin .append,args:=#[s,x],argTypes:=#[t,t] })
 {i:TypeInfo} {z:Value} {bytes:Nat} (ht:P.underlying t=some (.slice e)) (hi:P.info? e=some i) (hz:i.zero=some z)
 (hsize:i.size=E.sz) (hby:i.bytes=bytes) (hzs:z.cells.size=E.sz)
 (h:Own E e base w v l) (hs:a.eval s=v) (y:α) (g:Nat) (hg:Blk w g e (E.enc y).toArray) (c:Nat) (hx:a.eval x=.slice (some ⟨g,0,none⟩) 1 c)
 (h63:l.length + 1≤maxLen) (hbytes:(l.length + 1) * bytes≤140737488355328) (hbase:base≤w.heap.size)
 (hK:∀ v' w',Own E e base w' v' (l ++ [y])→Fr (fun k=>v.ownBlock=some k) w w'→(v'.ownBlock=v.ownBlock∨v'.ownBlock=some w.heap.size)→wpList P ops Q rest (a.put o.dst v') w') :
 wpList P ops Q (o :: rest) a w:=by
 refine wpList_append_own_at w hgd s x t ho base e i z E.sz bytes ht hi hz hsize hby hzs E.pos v l.length (E.cells l) hs h ⟨g,0,none⟩ 1 c (E.enc y) hx (by rw [E.len]; omega) (fun j u hu=>?_) (E.one y) h63 hbytes hbase (fun v' w' h1 h2 _ h4=>hK v' w' ?_ (Fr.of_grown h2 fun i hi=>hi) h4)
 · rw [Addr.add_lit,hg.cell]
   simpa using hu
 · unfold Own
   rw [E.cells_append,E.cells_one,List.length_append]
   exact h1
theorem run_append_of_nil (base:Nat) (t ty e:TypeId) (i:TypeInfo) (size:Nat) (ht:P.underlying t=some (.slice e)) (hi:P.info? e=some i)
 (v:Value) (n:Nat) (xs:List Value) (hown:w.ownsRow base e size v n xs) (c:Nat):(Builtin.append_ #[t,t] ty #[v,.slice none 0 c]).run P w=.ok v w:=by
 rcases hown.2 with ⟨rfl,rfl⟩ | ⟨g,cap,cur,rfl,_,_,hnc,_⟩
 · simp [Builtin.append_,run_underlying ht,sizeOf,typeInfo,hi,Builtin.lenOf,Builtin.firstCells]
 · simp [Builtin.append_,run_underlying ht,sizeOf,typeInfo,hi,Builtin.lenOf,Builtin.firstCells,hnc,storeCells]
theorem run_append_list (t ty:TypeId) {i:TypeInfo} {z:Value} {bytes:Nat} (ht:P.underlying t=some (.slice e)) (hi:P.info? e=some i) (hz:i.zero=some z)
 (hsize:i.size=E.sz) (hby:i.bytes=bytes) (hzs:z.cells.size=E.sz)
 (h:Own E e base w v l) {u:Value} {m:List α} (hu:Rd E w u m)
 (h63:l.length + m.length≤maxLen) (hbytes:(l.length + m.length) * bytes≤140737488355328) (hbase:base≤w.heap.size) :
 ∃ v' w',(Builtin.append_ #[t,t] ty #[v,u]).run P w=.ok v' w'∧Own E e base w' v' (l ++ m)∧Fr (fun k=>v.ownBlock=some k) w w'∧(v'.ownBlock=v.ownBlock∨v'.ownBlock=some w.heap.size):=by
 obtain ⟨A,c,rfl,h2,h3⟩:=hu
 rcases A with _ | ad
 · have hm:m=[]:=by
    cases m with
    | nil=>rfl
    | cons x m=>obtain ⟨b,off,hA,_⟩:=h3 (by simp); cases hA
   subst hm
   exact ⟨v,w,run_append_of_nil base t ty e i E.sz ht hi v l.length (E.cells l) h c,by simpa using h,Fr.refl _ _,.inl rfl⟩
 · have hcells:∀ j u,(E.cells m)[j]? = some u→w.cell? (ad.add j)=some u:=by
    intro j u hj
    have hne:m≠[]:=by rintro rfl; simp [Elem.cells] at hj
    obtain ⟨b,off,hA,hc⟩:=h3 hne
    injection hA with hA
    subst hA
    have hjl:j < (E.cells m).length:=(List.getElem?_eq_some_iff.1 hj).1
    rw [E.cells_length] at hjl
    have hp:=E.pos
    have hi:j / E.sz < m.length:=Nat.div_lt_of_lt_mul (by rw [Nat.mul_comm]; exact hjl)
    have hx:m[j / E.sz]? = some m[j / E.sz]:=List.getElem?_eq_getElem hi
    have hu:∃ u',(E.enc m[j / E.sz])[j % E.sz]? = some u':=⟨_,List.getElem?_eq_getElem (by rw [E.len]; exact Nat.mod_lt _ hp)⟩
    obtain ⟨u',hu'⟩:=hu
    have h4:=E.cells_at hx hu'
    rw [Nat.div_add_mod' j E.sz,hj] at h4
    injection h4 with h4
    subst h4
    have h5:=hc _ _ hx _ _ hu'
    rw [Nat.div_add_mod' j E.sz] at h5
    rw [Addr.add_lit]
    exact h5
   obtain ⟨v',w',hr,h4,h5,_,h6⟩:=run_append_own_at (P:=P) w base t ty e i z E.sz bytes ht hi hz hsize hby hzs E.pos v l.length (E.cells l) h ad m.length c (E.cells m) (E.cells_length m) hcells (E.cells_one_cell m) h63 hbytes hbase
   refine ⟨v',w',hr,?_,Fr.of_grown h5 fun i hi=>hi,h6⟩
   unfold Own
   rw [E.cells_append,List.length_append]
   exact h4
theorem wpList_append (hgd:o.guard=none) (s x:Operand) (t:TypeId) (ho:o.op=.call { callee:=.builtin .append,args:=#[s,x],argTypes:=#[t,t] })
 {i:TypeInfo} {z:Value} {bytes:Nat} (ht:P.underlying t=some (.slice e)) (hi:P.info? e=some i) (hz:i.zero=some z)
 (hsize:i.size=E.sz) (hby:i.bytes=bytes) (hzs:z.cells.size=E.sz)
 (h:Own E e base w v l) (hs:a.eval s=v) {u:Value} {m:List α} (hu:Rd E w u m) (hx:a.eval x=u)
 (h63:l.length + m.length≤maxLen) (hbytes:(l.length + m.length) * bytes≤140737488355328) (hbase:base≤w.heap.size)
 (hK:∀ v' w',Own E e base w' v' (l ++ m)→Fr (fun k=>v.ownBlock=some k) w w'→(v'.ownBlock=v.ownBlock∨v'.ownBlock=some w.heap.size)→wpList P ops Q rest (a.put o.dst v') w') :
 wpList P ops Q (o :: rest) a w:=by
 obtain ⟨v',w',hr,h1,h2,h3⟩:=run_append_list (P:=P) t o.type ht hi hz hsize hby hzs h hu h63 hbytes hbase
 refine wpList_plain hgd fun K' hK'=>?_
 unfold Oper.wp execOp
 simp only [ho,resolve,invoke,builtin,Sem.run_bind,Sem.run_pure,Result.andThen_ok,List.map_toArray,List.map_cons,List.map_nil,hs,hx,hr]
 exact hK' _ _ (hK v' w' h1 h2 h3)
end
theorem Own.apart {α β:Type} {E:Elem α} {E':Elem β} {e e':TypeId} {base base':Nat} {w w2:World} {vy vn v2:Value} {l:List α} {m:List β} (hy:Own E e base w vy l) (_hn:Own E' e' base' w vn m)
 (hd:vy.ownBlock=none∨vy.ownBlock≠vn.ownBlock) (hf:Fr (fun k=>vn.ownBlock=some k) w w2) (hl:v2.ownBlock=vn.ownBlock∨v2.ownBlock=some w.heap.size) :
 Own E e base w2 vy l∧(vy.ownBlock=none∨vy.ownBlock≠v2.ownBlock):=by
 refine ⟨hy.fr hf fun b hb hs=>?_,?_⟩
 · rcases hd with hd | hd
   · rw [hd] at hb; cases hb
   · exact hd (hb.trans hs.symm)
 · rcases hd with hd | hd
   · exact .inl hd
   · rcases hl with hl | hl
     · rw [hl]; exact .inr hd
     · rw [hl]
       cases hy':vy.ownBlock with
       | none=>exact .inl rfl
       | some b =>
         refine .inr fun he=>?_
         injection he with he
         have:=(hy.block hy').2
         omega
theorem apart_symm {a b:Option Nat} (h:a=none∨a≠b):b=none∨b≠a:=by
 rcases h with h | h
 · subst h
   cases b with
   | none=>exact .inl rfl
   | some x=>exact .inr (by simp)
 · exact .inr h.symm
theorem New.append {α:Type} {E:Elem α} {e:TypeId} {a b c:World} {v:Value} {l:List α} (h:New a b) (hv:Own E e a.heap.size b v l) (hf:Fr (fun k=>v.ownBlock=some k) b c):New a c :=
 Fr.trans' h hf fun i hi hs=>by have:=(hv.block hs).1; omega
theorem Blk.new1 (w:World) (o:Obj) (t:TypeId) (cs:Array Value):Blk ((w.alloc o).alloc (.cells cs t)) (w.heap.size + 1) t cs:=by
 have h:=Blk.new (w.alloc o) t cs
 rwa [World.size_alloc] at h
theorem Blk.new2 (w:World) (o o':Obj) (t:TypeId) (cs:Array Value):Blk (((w.alloc o).alloc o').alloc (.cells cs t)) (w.heap.size + 2) t cs:=by
 have h:=Blk.new1 (w.alloc o) o' t cs
 rwa [World.size_alloc] at h
def Elem.one1 {α:Type} (enc:α→Value) (h:∀ x,(enc x).oneCell'=true):Elem α where
 enc x:=[enc x]
 sz:=1
 len _:=rfl
 one x u hu:=by rw [List.mem_singleton.1 hu]; exact h x
 pos:=Nat.one_pos
end Go.Proofs.YtliimglbbiebiaaGreatDoor
end

section
namespace Go.Proofs.YtliimglbbiebiaaGreatDoor
open Go.RowKit
theorem Elem.cells_take {α:Type} (E:Elem α) (l:List α) (i:Nat) (hi:i≤l.length):(E.cells l).take (i * E.sz)=E.cells (l.take i):=by
 have h:E.cells l=E.cells (l.take i) ++ E.cells (l.drop i):=by rw [← E.cells_append,List.take_append_drop]
 rw [h,List.take_append_of_le_length (by rw [E.cells_length,List.length_take,Nat.min_eq_left hi]; exact Nat.le_refl _)]
 exact List.take_of_length_le (by rw [E.cells_length,List.length_take,Nat.min_eq_left hi]; exact Nat.le_refl _)
theorem zeroCells_size (z:Array Value) (n:Nat):(Builtin.zeroCells z n).size=n * z.size:=by simp [Builtin.zeroCells]
theorem zeroCells_one (z:Array Value) (n:Nat) (h:∀ u ∈ z.toList,u.oneCell'=true):∀ u ∈ (Builtin.zeroCells z n).toList,u.oneCell'=true:=by
 intro u hu
 simp only [Builtin.zeroCells,Array.toList_map,List.mem_map] at hu
 obtain ⟨i,hi,rfl⟩:=hu
 have hi':i < n * z.size:=by simpa using hi
 have hz:0 < z.size:=by
  rcases Nat.eq_zero_or_pos z.size with h0 | h0
  · rw [h0] at hi'; omega
  · exact h0
 have hlt:=Nat.mod_lt i hz
 rw [getElem!_pos z (i % z.size) hlt]
 exact h _ (Array.mem_toList_iff.2 (Array.getElem_mem hlt))
section
variable {P:Program} {α:Type} {E:Elem α} {e:TypeId} {base:Nat} {w:World} {l:List α}
variable {ops:Array Oper} {rest:List Oper} {o:Oper} {a:Act} {Q:Exit→Act→World→Prop}
theorem run_clear_own {t ty:TypeId} {z:Value} (ht:P.underlying t=some (.slice e)) (hv:∀ w,(zeroValue e).run P w=.ok z w) (hzs:z.cells.size=E.sz) (hz1:∀ u ∈ z.cells.toList,u.oneCell'=true)
 {g n c:Nat} (h:Own E e base w (.slice (some ⟨g,0,none⟩) n c) l) (i d:Nat) (hi:i < n) :
 ∃ w',(Builtin.clear_ #[t] ty #[.slice (some ⟨g,i * E.sz,none⟩) (n - i) d]).run P w=.ok (.tuple #[]) w'∧Own E e base w' (.slice (some ⟨g,0,none⟩) i c) (l.take i)∧Fr (fun k=>k=g) w w':=by
 obtain ⟨A,c0,he,_⟩:=Own.form h
 injection he with h1 h2 h3
 subst h1 h2
 rcases h.2 with ⟨h',_⟩ | ⟨g',cap',cur,h',hb,hg,hnc,hcm,hcs,htake⟩
 · simp at h'
 · simp only [Value.slice.injEq,Option.some.injEq,Addr.mk.injEq,and_true,true_and] at h'
   obtain ⟨rfl,rfl⟩:=h'
   have hvl:(Builtin.zeroCells z.cells (l.length - i)).toList.length=(l.length - i) * E.sz:=by rw [Array.length_toList,zeroCells_size,hzs]
   have hfit:i * E.sz + 0 + (Builtin.zeroCells z.cells (l.length - i)).toList.length≤cur.size:=by
    rw [hvl,hcs,Nat.add_zero,← Nat.add_mul]
    exact Nat.mul_le_mul_right _ (by omega)
   have hst:=run_storeCells_at (P:=P) g (i * E.sz) e (Builtin.zeroCells z.cells (l.length - i)).toList 0 cur w hg hfit (zeroCells_one _ _ hz1)
   obtain ⟨m,hm⟩:∃ m,l.length - i=m + 1:=⟨l.length - i - 1,by omega⟩
   refine ⟨w.setRow g (cur.toList.take (i * E.sz + 0) ++ (Builtin.zeroCells z.cells (l.length - i)).toList ++ cur.toList.drop (i * E.sz + 0 + (Builtin.zeroCells z.cells (l.length - i)).toList.length)).toArray,?_,?_,?_⟩
   · rw [hm] at hst ⊢
     simp only [Builtin.clear_,run_underlying ht,hv,hst,Sem.run_bind,Sem.run_pure,Result.andThen_ok,List.getElem?_toArray,List.getElem?_cons_zero]
   · unfold Own
     have hlt:(l.take i).length=i:=by rw [List.length_take]; omega
     rw [hlt]
     refine ⟨by rw [E.cells_length,hlt],.inr ⟨g,c,_,rfl,hb,setRow_heap w g cur _ e (0,0) hg,by omega,hcm,?_,?_⟩⟩
     · have hcl:cur.toList.length=c * E.sz:=by rw [Array.length_toList,hcs]
       simp only [List.size_toArray,List.length_append,List.length_take,List.length_drop,hcl]
       rw [hcs] at hfit
       omega
     · simp only [Nat.add_zero,List.append_assoc]
       have hle:i * E.sz≤cur.toList.length:=by
        rw [Array.length_toList,hcs]
        exact Nat.mul_le_mul_right _ (by omega)
       rw [List.take_append_of_le_length (by rw [List.length_take]; omega),List.take_of_length_le (by rw [List.length_take]; omega)]
       rw [← E.cells_take l i (by omega),← htake,List.take_take]
       congr 1
       have:i * E.sz≤l.length * E.sz:=Nat.mul_le_mul_right _ (by omega)
       omega
   · exact ⟨rfl,rfl,rfl,by simp,fun k _ hk=>setRow_other w g k _ hk⟩
end
end Go.Proofs.YtliimglbbiebiaaGreatDoor
end

section
namespace Go.Proofs.YtliimglbbiebiaaGreatDoor
open Go.RowKit
def intE (q:IntKind):Elem Int where
 enc x:=[.int q x]
 sz:=1
 len _:=rfl
 one x u hu:=by simp at hu; subst hu; rfl
 pos:=by omega
section
variable {q:IntKind} {w w':World} {v:Value} {l:List Int} {e:TypeId} {base:Nat}
theorem Rd.ints (h:Rd (intE q) w v l):∃ A c,v=.slice A l.length c∧l.length≤c∧(l≠[]→∃ b off,A=some ⟨b,off,none⟩∧∀ i x,l[i]? = some x→w.cell? ⟨b,off + i,none⟩=some (.int q x)):=by
 obtain ⟨A,c,rfl,hc,hcells⟩:=h
 refine ⟨A,c,rfl,hc,fun hl=>?_⟩
 obtain ⟨b,off,rfl,hcell⟩:=hcells hl
 refine ⟨b,off,rfl,fun i x hx=>?_⟩
 have:=hcell i x hx 0 _ rfl
 simpa [intE] using this
theorem Own.some1 {A:Option Addr} {n c:Nat} (h:Own (intE q) e base w (.slice A n c) l) (hl:0 < n):∃ g,A=some ⟨g,0,none⟩:=by
 rcases h.2 with ⟨h1,_⟩ | ⟨g,_,_,h1,_⟩
 · injection h1 with _ h2; omega
 · injection h1 with h2; exact ⟨g,h2⟩
theorem intE_cells (l:List Int):(intE q).cells l=l.map (Value.int q):=by
 unfold Elem.cells
 induction l with
 | nil=>rfl
 | cons x l ih=>rw [List.flatMap_cons,ih,List.map_cons]; rfl
theorem Own.icell {g n c:Nat} (h:Own (intE q) e base w (.slice (some ⟨g,0,none⟩) n c) l) {k:Nat} {x:Int} (hx:l[k]? = some x):w.cell? ⟨g,k,none⟩=some (.int q x):=by
 have:=World.ownsRow.cells h (g:=g) rfl _ _ ((intE q).cells_at hx (j:=0) rfl)
 rw [Addr.add_lit,Nat.zero_add] at this
 simpa [intE] using this
theorem Own.ifrozen {g n c:Nat} (h:Own (intE q) e base w (.slice (some ⟨g,0,none⟩) n c) l) (j:Nat):w.frozen? ⟨g,j,none⟩=false:=by
 obtain ⟨A,c',he,_⟩:=Own.form h
 injection he with h1 h2 h3
 subst h2
 exact World.ownsRow.frozenAt h j
theorem Own.istored {g n c:Nat} (h:Own (intE q) e base w (.slice (some ⟨g,0,none⟩) n c) l) (k:Nat) (y:Int):Own (intE q) e base (w.setCell ⟨g,k,none⟩ (.int q y)) (.slice (some ⟨g,0,none⟩) n c) (l.set k y):=by
 obtain ⟨A,c',he,_⟩:=Own.form h
 injection he with h1 h2 h3
 subst h2
 unfold Own at h ⊢
 have h2:=(h.stored k (.int q y)).1
 rw [List.length_set]
 rw [intE_cells] at h2 ⊢
 rw [List.map_set]
 exact h2
end
theorem Own.iempty (q:IntKind) (e:TypeId) (base:Nat) (w:World) (hb:base≤w.heap.size):Own (intE q) e base (w.alloc (.cells #[] e)) (.slice (some ⟨w.heap.size,0,none⟩) 0 0) []:=by
 unfold Own
 exact World.ownsRow_made w #[] 0 hb (Nat.zero_le _) (by simp)
theorem take_snocI {l:List Int} {k:Nat} {x:Int} (h:l[k]? = some x):l.take (k + 1)=l.take k ++ [x]:=by
 have hk:k < l.length:=(List.getElem?_eq_some_iff.1 h).1
 rw [List.take_succ_eq_append_getElem hk,(List.getElem?_eq_some_iff.1 h).2]
end Go.Proofs.YtliimglbbiebiaaGreatDoor
end

section
namespace Go.Proofs.YtliimglbbiebiaaGreatDoor
open Go.RowKit
theorem own_shape {α:Type} {E:Elem α} {e:TypeId} {base:Nat} {w:World} {v:Value} {l:List α} (h:Own E e base w v l):∃ A n c,v=.slice A n c:=by
 obtain ⟨A,c,h,_⟩:=h.form
 exact ⟨A,_,c,h⟩
theorem fr_or {S T:Nat→Prop} {a b:World} (h:Fr S a b) (hT:∀ i,S i→T i):Fr T a b:=h.mono fun i _=>hT i
theorem New.to {S:Nat→Prop} {a b:World} (h:New a b):Fr S a b:=h.mono fun _ _ h=>h.elim
theorem New.two {S:Nat→Prop} {a b c:World} (h:New a b) (k:Fr S b c) (hS:∀ i,S i→a.heap.size≤i):New a c:=Fr.trans' h k fun i hi hs=>by have:=hS i hs; omega
theorem Own.empty {α:Type} (E:Elem α) (e:TypeId) (base:Nat) (w:World) (hb:base≤w.heap.size):Own E e base (w.alloc (.cells #[] e)) (.slice (some ⟨w.heap.size,0,none⟩) 0 0) []:=by
 unfold Own
 exact World.ownsRow_made w #[] 0 hb (Nat.zero_le _) (by simp)
theorem rd_block {α:Type} (E:Elem α) {w:World} {g:Nat} {t:TypeId} {cs:Array Value} (h:Blk w g t cs) (l:List α) (hcs:cs.toList=E.cells l):Rd E w (.slice (some ⟨g,0,none⟩) l.length l.length) l:=by
 refine ⟨_,_,rfl,Nat.le_refl _,fun _=>⟨g,0,rfl,fun i x hx j u hu=>?_⟩⟩
 rw [h.cell,Nat.zero_add,← Array.getElem?_toList,hcs]
 exact E.cells_at hx hu
theorem enters (f:Nat) (fn:Func) (c:Code) (hf:Tryz.prog.funcs[f]? = some fn) (hn:(fn.name == "runtime.NumGoroutine")=false) (hb:fn.body=some c) (args:Array Value) (w:World):(callFunc f args).run Tryz.prog w=.ok (.enter f args) w:=by
 have h1:fn.name ≠ "runtime.NumGoroutine":=by simpa using hn
 simp [callFunc,hf,h1,hb]
end Go.Proofs.YtliimglbbiebiaaGreatDoor
end

section
namespace Go.Proofs.YtliimglbbiebiaaGreatDoor
open Go.RowKit
theorem take_snoc {α:Type} {l:List α} {k:Nat} {x:α} (h:l[k]? = some x):l.take (k + 1)=l.take k ++ [x]:=by
 have hk:k < l.length:=(List.getElem?_eq_some_iff.1 h).1
 rw [List.take_succ_eq_append_getElem hk,(List.getElem?_eq_some_iff.1 h).2]
theorem Own.some_ {α:Type} {E:Elem α} {e:TypeId} {base:Nat} {w:World} {A:Option Addr} {n c:Nat} {l:List α} (h:Own E e base w (.slice A n c) l) (hl:0 < n):∃ g,A=some ⟨g,0,none⟩:=by
 rcases h.2 with ⟨h1,_⟩ | ⟨g,_,_,h1,_⟩
 · injection h1 with _ h2; omega
 · injection h1 with h2; exact ⟨g,h2⟩
theorem Own.cell_at {α:Type} {E:Elem α} {e:TypeId} {base:Nat} {w:World} {g n c:Nat} {l:List α} (h:Own E e base w (.slice (some ⟨g,0,none⟩) n c) l) {k:Nat} {x:α} (hx:l[k]? = some x) {j:Nat} {u:Value} (hu:(E.enc x)[j]? = some u) :
 w.cell? ⟨g,k * E.sz + j,none⟩=some u:=by
 have:=World.ownsRow.cells h (g:=g) rfl _ _ (E.cells_at hx hu)
 rwa [Addr.add_lit,Nat.zero_add] at this
theorem Own.heap {α:Type} {E:Elem α} {e:TypeId} {base:Nat} {w:World} {v:Value} {l:List α} (h:Own E e base w v l) {g:Nat} (hg:v.ownBlock=some g):∃ cs,Blk w g e cs:=by
 rcases h.2 with ⟨rfl,_⟩ | ⟨g',cap,cur,rfl,_,hh,_⟩
 · cases hg
 · cases hg; exact ⟨cur,hh⟩
theorem results_cells {P:Program} {fn:Func} {p q:Tmp} {t u:TypeId} (h:fn.results=#[.cell p t,.cell q u]) (tmps:Array Value) (w:World) {a b:Addr} {v v':Value}
 (hp:tmps[p]? = some (.pointer (some a))) (hq:tmps[q]? = some (.pointer (some b))) (hv:(loadVar t a).run P w=.ok v w) (hv':(loadVar u b).run P w=.ok v' w) :
 (results fn tmps).run P w=.ok (.tuple #[v,v']) w:=by
 simp [results,h,hp,hq,asAddr,hv,hv']
theorem run_loadVar_one {P:Program} {t:TypeId} {d:TypeDesc} (hu:P.underlying t=some d) (hd:(match d with | .struct _ | .array _ _=>true | _=>false)=false) {w:World} {a:Addr} {v:Value} (hc:w.cell? a=some v):(loadVar t a).run P w=.ok v w:=by
 have hagg:(isAgg t).run P w=.ok false w:=by
  unfold isAgg
  rw [Sem.run_bind,run_underlying hu w]
  cases d <;> simp_all
 simp [loadVar,Sem.run_bind,hagg,hc]
end Go.Proofs.YtliimglbbiebiaaGreatDoor
end

section
namespace Go.Proofs.YtliimglbbiebiaaGreatDoor
open Go.RowKit
structure MB where
 m:Msg
 A:Option Addr
 n:Nat
 c:Nat
def MB.bv (x:MB):Value:=.slice x.A x.n x.c
def MB.val (x:MB):Value:=.agg #[.int .u32 x.m.uid,.int .u8 x.m.fl,.slice x.A x.n x.c]
theorem u8_info:(Tryz.prog.info? 5).map (fun i=>(i.zero,i.size,i.bytes))=some (some (.int .u8 0),1,1):=by kernel_rfl
theorem zeroMsg (w:World):(zeroValue 238).run Tryz.prog w=.ok (.agg #[.int .u32 0,.int .u8 0,.slice none 0 0]) w:=by kernel_rfl
theorem bclone_any (v:Value) (l:List Int) (w:World) (hv:Rd (intE .u8) w v l) (hl:l.length≤100000) :
 Calls Tryz.prog 75 #[v] w fun e w'=>∃ o,e=.returned o∧Own (intE .u8) 5 w.heap.size w' o l∧New w w':=by
 obtain ⟨i0,hi,hz0,hz1,hz2⟩:=info_parts u8_info
 have h0:=Own.iempty .u8 5 w.heap.size w (Nat.le_refl _)
 have HV:=Lib.hid hv
 obtain ⟨A,c,rfl,hc,hcells⟩:=hv
 have hq:=fun n=>Lib.run_eql_slice_nil (P:=Tryz.prog) w 23 _ A n c 0 0 Tryz.underlying23
 cases A with
 | none =>
   have hn:l=[]:=by
    cases l with
    | nil=>rfl
    | cons x l=>obtain ⟨b,off,h,_⟩:=hcells (by simp); cases h
   clear hcells
   subst hn
   simp only [Option.isNone_none] at hq
   go_enter Tryz.func75,Tryz.ntmps75
   go_wp2
   go_ret
   exact ⟨_,rfl,Own.nil _ _ _ _,New.refl _⟩
 | some ad =>
   obtain ⟨b,off,sp⟩:=ad
   clear hcells
   simp only [Option.isNone_some] at hq
   go_enter Tryz.func75,Tryz.ntmps75
   go_wp2_with (at_builtin; refine wpList_append (E:=intE .u8) rfl _ _ _ rfl Tryz.underlying23 hi hz0 hz1 hz2 rfl h0 rfl (HV.out.alloc _) rfl (by unfold maxLen; simp; omega) (by simp; omega) (by simp) ?_; intro v1 w1 hv1 hf1 hl1)
   have hn1:New w w1:=New.append ((New.refl w).alloc _) h0 hf1
   rw [List.nil_append] at hv1
   go_ret
   exact ⟨_,rfl,hv1,hn1⟩
theorem mclone_any (x:MB) (w:World) (hv:Rd (intE .u8) w x.bv x.m.body) (hl:x.m.body.length≤100000) :
 Calls Tryz.prog 240 #[x.val] w fun e w'=>∃ y:MB,e=.returned y.val∧y.m=x.m∧Own (intE .u8) 5 w.heap.size w' y.bv y.m.body∧New w w':=by
 obtain ⟨⟨uid,fl,body⟩,A,n,c⟩:=x
 simp only [MB.bv,MB.val] at hv hl ⊢
 have b1:Blk ((w.alloc (.cells #[.int .u32 uid,.int .u8 fl,.slice A n c] 238)).alloc (.cells #[.int .u32 0,.int .u8 0,.slice none 0 0] 238)) w.heap.size 238 #[.int .u32 uid,.int .u8 fl,.slice A n c]:=(Blk.new _ _ _).alloc _
 have b2:Blk ((w.alloc (.cells #[.int .u32 uid,.int .u8 fl,.slice A n c] 238)).alloc (.cells #[.int .u32 0,.int .u8 0,.slice none 0 0] 238)) (w.heap.size + 1) 238 #[.int .u32 0,.int .u8 0,.slice none 0 0]:=Blk.new1 _ _ _ _
 have hn1:New w ((w.alloc (.cells #[.int .u32 uid,.int .u8 fl,.slice A n c] 238)).alloc (.cells #[.int .u32 0,.int .u8 0,.slice none 0 0] 238)):=((New.refl w).alloc _).alloc _
 have HV:=Lib.hid (hv.new hn1)
 clear hv
 go_enter Tryz.func240,Tryz.ntmps240
 go_wp2_with fail
 refine (bclone_any _ body _ HV.out hl).mono ?_
 rintro e w2 ⟨o,rfl,ho,hn2⟩
 obtain ⟨B,n',c',rfl⟩:=own_shape ho
 have e1:=hn2.blk b1
 have e2:=hn2.blk b2
 have q0:w2.cell? ⟨w.heap.size,0,none⟩=some (.int .u32 uid):=e1.cell 0
 have q1:w2.cell? ⟨w.heap.size,1,none⟩=some (.int .u8 fl):=e1.cell 1
 have q2:w2.cell? ⟨w.heap.size,2,none⟩=some (.slice A n c):=e1.cell 2
 have f2:w2.frozen? ⟨w.heap.size,2,none⟩=false:=e1.frozen 2
 have p0:w2.cell? ⟨w.heap.size + 1,0,none⟩=some (.int .u32 0):=e2.cell 0
 have p1:w2.cell? ⟨w.heap.size + 1,1,none⟩=some (.int .u8 0):=e2.cell 1
 have p2:w2.cell? ⟨w.heap.size + 1,2,none⟩=some (.slice none 0 0):=e2.cell 2
 have g0:w2.frozen? ⟨w.heap.size + 1,0,none⟩=false:=e2.frozen 0
 have g1:w2.frozen? ⟨w.heap.size + 1,1,none⟩=false:=e2.frozen 1
 have g2:w2.frozen? ⟨w.heap.size + 1,2,none⟩=false:=e2.frozen 2
 go_wp2
 have e3:Blk ((((w2.setCell ⟨w.heap.size,2,none⟩ (.slice B n' c')).setCell ⟨w.heap.size + 1,0,none⟩ (.int .u32 uid)).setCell ⟨w.heap.size + 1,1,none⟩ (.int .u8 fl)).setCell ⟨w.heap.size + 1,2,none⟩ (.slice B n' c')) (w.heap.size + 1) 238 #[.int .u32 uid,.int .u8 fl,.slice B n' c'] :=
  (((e2.far (by simp) _).set_ 0 _).set_ 1 _).set_ 2 _
 have hn3:Fr (fun k=>k=w.heap.size∨k=w.heap.size + 1) w2 ((((w2.setCell ⟨w.heap.size,2,none⟩ (.slice B n' c')).setCell ⟨w.heap.size + 1,0,none⟩ (.int .u32 uid)).setCell ⟨w.heap.size + 1,1,none⟩ (.int .u8 fl)).setCell ⟨w.heap.size + 1,2,none⟩ (.slice B n' c')) :=
  ((((Fr.refl _ _).setCell (fun _=>.inl rfl) _).setCell (fun _=>.inr rfl) _).setCell (fun _=>.inr rfl) _).setCell (fun _=>.inr rfl) _
 refine bodyPost_ret (results_cell_row rfl _ _ _ _ _ _ _ rfl e3 Tryz.underlying238 rfl (by kernel_rfl)) rfl ?_
 refine ⟨⟨⟨uid,fl,body⟩,B,n',c'⟩,rfl,rfl,?_,New.two (hn1.trans hn2) hn3 fun i hi=>by rcases hi with rfl | rfl <;> omega⟩
 have hlo:=fun b hb=>(ho.block (b:=b) hb).1
 refine (ho.fr hn3 fun b hb hs=>?_).mono (by simp; omega)
 have:=hlo b hb
 simp at this
 rcases hs with rfl | rfl <;> omega
end Go.Proofs.YtliimglbbiebiaaGreatDoor
end

section
namespace Go.Proofs.YtliimglbbiebiaaGreatDoor
open Go.RowKit Go.Maps
structure KeyEnc (P:Program) (K:TypeId) (α:Type) where
 law:Keyed P K
 kv:α→Value
 kl:α→Lit
 ok:α→Prop
 key:∀ a,ok a→keyOf P K (kv a)=some (kl a)
 inj:∀ a b,kv a=kv b→a=b
section
variable {P:Program} {K:TypeId} {α:Type} (E:KeyEnc P K α)
theorem KeyEnc.isKey {a:α} (h:E.ok a):WideAt.IsKeyLit (E.kl a):=E.law.key (E.key a h)
theorem KeyEnc.ne {a b:α} (ha:E.ok a) (hb:E.ok b) (h:a≠b):E.kl a≠E.kl b:=fun e=>h (E.inj a b (E.law.inj (E.key a ha) (by rw [e]; exact E.key b hb)))
end
def R0 (v:Value):Option (DataW Value × List MemPlace):=some (.held v,[])
section
variable {α:Type} [DecidableEq α]
def get (l:List (α × Value)) (a:α):Option Value:=(l.find? fun p=>decide (p.1=a)).map Prod.snd
def del (l:List (α × Value)) (a:α):List (α × Value):=l.filter fun p=>decide (p.1≠a)
def put (l:List (α × Value)) (a:α) (v:Value):List (α × Value):=(a,v) :: del l a
theorem get_nil (a:α):get [] a=none:=rfl
theorem get_cons (p:α × Value) (l:List (α × Value)) (a:α):get (p :: l) a=if p.1=a then some p.2 else get l a:=by
 unfold get
 rw [List.find?_cons]
 by_cases h:p.1=a <;> simp [h]
theorem get_del_same (l:List (α × Value)) (a:α):get (del l a) a=none:=by
 unfold get del
 rw [Option.map_eq_none_iff,List.find?_eq_none]
 intro p hp
 have:=(List.mem_filter.1 hp).2
 simpa using this
theorem get_del_other (l:List (α × Value)) {a b:α} (h:b≠a):get (del l a) b=get l b:=by
 induction l with
 | nil=>rfl
 | cons p l ih =>
   unfold del at ih ⊢
   rw [List.filter_cons]
   by_cases hp:p.1=a
   · rw [if_neg (by simpa using hp),ih,get_cons,if_neg (by rw [hp]; exact fun e=>h e.symm)]
   · rw [if_pos (by simpa using hp),get_cons,get_cons,ih]
theorem get_put_same (l:List (α × Value)) (a:α) (v:Value):get (put l a v) a=some v:=by unfold put; rw [get_cons,if_pos rfl]
theorem get_put_other (l:List (α × Value)) {a b:α} (v:Value) (h:b≠a):get (put l a v) b=get l b:=by
 unfold put
 rw [get_cons,if_neg (fun e=>h e.symm),get_del_other l h]
theorem mem_of_get {l:List (α × Value)} {a:α} {v:Value} (h:get l a=some v):(a,v) ∈ l:=by
 unfold get at h
 obtain ⟨p,hp,rfl⟩:=Option.map_eq_some_iff.1 h
 have h1:=List.find?_some hp
 have h2:=List.mem_of_find?_eq_some hp
 obtain rfl:p.1=a:=by simpa using h1
 exact h2
theorem get_of_mem {l:List (α × Value)} (hnd:(l.map Prod.fst).Nodup) {a:α} {v:Value} (h:(a,v) ∈ l):get l a=some v:=by
 induction l with
 | nil=>cases h
 | cons p l ih =>
   rw [List.map_cons,List.nodup_cons] at hnd
   rw [get_cons]
   rcases List.mem_cons.1 h with rfl | h'
   · rw [if_pos rfl]
   · rw [if_neg (fun e=>hnd.1 (by rw [e]; exact List.mem_map.2 ⟨(a,v),h',rfl⟩)),ih hnd.2 h']
theorem get_none_iff {l:List (α × Value)} {a:α}:get l a=none ↔ a ∉ l.map Prod.fst:=by
 unfold get
 rw [Option.map_eq_none_iff,List.find?_eq_none]
 constructor
 · intro h hm
   obtain ⟨p,hp,rfl⟩:=List.mem_map.1 hm
   exact h p hp (by simp)
 · intro h p hp e
   exact h (List.mem_map.2 ⟨p,hp,by simpa using e⟩)
theorem del_nodup {l:List (α × Value)} (hnd:(l.map Prod.fst).Nodup) (a:α):((del l a).map Prod.fst).Nodup :=
 hnd.sublist (List.Sublist.map _ List.filter_sublist)
theorem put_nodup {l:List (α × Value)} (hnd:(l.map Prod.fst).Nodup) (a:α) (v:Value):((put l a v).map Prod.fst).Nodup:=by
 unfold put
 rw [List.map_cons,List.nodup_cons]
 exact ⟨get_none_iff.1 (get_del_same l a),del_nodup hnd a⟩
theorem del_length {l:List (α × Value)} (hnd:(l.map Prod.fst).Nodup) (a:α):(del l a).length + (if (get l a).isSome then 1 else 0)=l.length:=by
 induction l with
 | nil=>rfl
 | cons p l ih =>
   rw [List.map_cons,List.nodup_cons] at hnd
   have ih:=ih hnd.2
   rw [get_cons]
   unfold del at ih ⊢
   rw [List.filter_cons]
   by_cases hp:p.1=a
   · have hn:get l a=none:=get_none_iff.2 (by rw [← hp]; exact hnd.1)
     rw [if_neg (by simpa using hp),if_pos hp]
     rw [hn] at ih
     simp at ih ⊢
     omega
   · rw [if_pos (by simpa using hp),if_neg hp]
     simp only [List.length_cons]
     omega
end
structure HasMap {P:Program} {K:TypeId} {α:Type} [DecidableEq α] (E:KeyEnc P K α) (w:World) (b:Nat) (l:List (α × Value)):Prop where
 nd:(l.map Prod.fst).Nodup
 oks:∀ p ∈ l,E.ok p.1
 own:∃ D:DataW Value,w.ownsMap P K R0 b l.length D∧Maps.size D=l.length∧∀ a,E.ok a→∀ z,D.atKey (E.kl a) z=match get l a with | some v=>.held v | none=>z
section
variable {P:Program} {K:TypeId} {α:Type} [DecidableEq α] {E:KeyEnc P K α} {w w':World} {b:Nat} {l:List (α × Value)}
theorem HasMap.lt (h:HasMap E w b l):b < w.heap.size:=by
 obtain ⟨D,h1,_⟩:=h.own
 exact h1.lt
theorem HasMap.made (E:KeyEnc P K α) (w:World):HasMap E (w.alloc (.map #[] 0)) w.heap.size [] :=
 ⟨by simp,by simp,.map [],World.ownsMap_made w P K R0,rfl,fun _ _ _=>rfl⟩
theorem HasMap.of_block (h:HasMap E w b l) (hb:w'.heap[b]? = w.heap[b]?):HasMap E w' b l:=by
 obtain ⟨D,⟨es,clock,h1,h2⟩,h3⟩:=h.own
 exact ⟨h.nd,h.oks,D,⟨es,clock,hb.trans h1,h2⟩,h3⟩
theorem HasMap.fr {S:Nat→Prop} (h:HasMap E w b l) (hf:Fr S w w') (hb:¬ S b):HasMap E w' b l:=h.of_block (hf.block b h.lt hb)
theorem HasMap.drew (h:HasMap E w b l):HasMap E w.drew b l:=h.of_block rfl
theorem HasMap.alloc (h:HasMap E w b l) (o:Obj):HasMap E (w.alloc o) b l:=h.of_block (Below.heap_alloc w o b h.lt)
theorem HasMap.setCell (h:HasMap E w b l) {a:Addr} (ha:b≠a.block) (u:Value):HasMap E (w.setCell a u) b l:=h.of_block (Below.heap_setCell w a u b ha)
theorem ownsMap_size {R:Value→Option (DataW Value × List MemPlace)} {n:Nat} {D:DataW Value} (h:w.ownsMap P K R b n D):w.ownsMap P K R b (Maps.size D) D:=by
 obtain ⟨es,clock,h1,h2,_,h4⟩:=h
 refine ⟨es,clock,h1,h2,?_,h4⟩
 rw [h4]
 simp [Maps.size,length_sorted]
theorem has_of {D:DataW Value} {o:Option Value} {kl:Lit} (h:∀ z,D.atKey kl z=match o with | some v=>.held v | none=>z):Maps.has D kl=o.isSome:=by
 cases o with
 | none=>exact Maps.has_false_of_atKey h
 | some v=>exact Maps.has_true_of_atKey h
theorem HasMap.run_look {t e:TypeId} (h:HasMap E w b l) (ht:P.underlying t=some (.map K e)) {z:Value} (hz:(zeroValue e).run P w=.ok z w) {k:α} (hk:E.ok k) :
 (Instr.lookup t (.map (some b)) (E.kv k) false).run P w=.ok ((get l k).getD z) w:=by
 obtain ⟨D,h1,_,h3⟩:=h.own
 obtain ⟨v,ps,hr,hv⟩:=h1.lookup E.law ht hz (zd:=.held z) (zp:=[]) rfl (E.key k hk)
 rw [hr]
 simp only [R0,Option.some.injEq,Prod.mk.injEq] at hv
 have h4:=hv.1
 rw [h3 k hk] at h4
 cases hg:get l k with
 | none=>rw [hg] at h4; injection h4 with h4; rw [h4]; rfl
 | some u=>rw [hg] at h4; injection h4 with h4; rw [h4]; rfl
theorem HasMap.run_look_ok {t e:TypeId} (h:HasMap E w b l) (ht:P.underlying t=some (.map K e)) {z:Value} (hz:(zeroValue e).run P w=.ok z w) {k:α} (hk:E.ok k) :
 (Instr.lookup t (.map (some b)) (E.kv k) true).run P w=.ok (.tuple #[(get l k).getD z,.bool (get l k).isSome]) w:=by
 obtain ⟨D,h1,_,h3⟩:=h.own
 obtain ⟨v,ps,hr,hv⟩:=h1.look_ok E.law ht hz (zd:=.held z) (zp:=[]) rfl (E.key k hk)
 rw [hr,has_of (h3 k hk)]
 simp only [R0,Option.some.injEq,Prod.mk.injEq] at hv
 have h4:=hv.1
 rw [h3 k hk] at h4
 cases hg:get l k with
 | none=>rw [hg] at h4; injection h4 with h4; rw [h4]; rfl
 | some u=>rw [hg] at h4; injection h4 with h4; rw [h4]; rfl
theorem HasMap.run_put {t e:TypeId} (h:HasMap E w b l) (ht:P.underlying t=some (.map K e)) (hn:l.length < maxLen) {k:α} (hk:E.ok k) (v:Value) :
 ∃ w',(Instr.mapUpdate t (.map (some b)) (E.kv k) v).run P w=.ok () w'∧HasMap E w' b (put l k v)∧One b w w':=by
 obtain ⟨D,h1,h2,h3⟩:=h.own
 obtain ⟨w',hr,h4,h5⟩:=h1.update E.law ht hn (E.key k hk) (val:=v) (d:=.held v) (ps:=[]) rfl
 have hsz:Maps.size (D.put (E.kl k) (.held v))=(put l k v).length:=by
  rw [Maps.size_put (h1.tidy E.law),has_of (h3 k hk),h2]
  have:=del_length h.nd k
  unfold put
  rw [List.length_cons]
  split at this <;> rename_i hh
  · rw [if_pos hh]; omega
  · rw [if_neg hh]; omega
 have h6:=ownsMap_size h4
 rw [hsz] at h6
 refine ⟨w',hr,⟨put_nodup h.nd k v,fun p hp=>?_,_,h6,hsz,fun a ha z=>?_⟩,Fr.of_grown h5 fun i hi=>by cases hi; rfl⟩
 · rcases List.mem_cons.1 hp with rfl | hp
   · exact hk
   · exact h.oks p (List.mem_filter.1 hp).1
 · by_cases hak:a=k
   · subst hak
     rw [get_put_same,Maps.atKey_put_same h1.isMap (E.isKey hk)]
   · rw [get_put_other l v hak,Maps.atKey_put_other (E.ne ha hk hak),h3 a ha]
theorem HasMap.run_del {t e:TypeId} (h:HasMap E w b l) (ht:P.underlying t=some (.map K e)) {k:α} (hk:E.ok k) (ty:TypeId) :
 ∃ w',(Builtin.delete_ #[t,K] ty #[.map (some b),E.kv k]).run P w=.ok (.tuple #[]) w'∧HasMap E w' b (del l k)∧One b w w':=by
 obtain ⟨D,h1,h2,h3⟩:=h.own
 obtain ⟨w',hr,h4,h5⟩:=h1.drop E.law ht (E.key k hk) ty
 have hsz:Maps.size (D.del (E.kl k))=(del l k).length:=by
  have h7:=Maps.size_del (k:=E.kl k) (h1.tidy E.law)
  rw [has_of (h3 k hk),h2] at h7
  have:=del_length h.nd k
  split at this <;> rename_i hh
  · rw [if_pos hh] at h7; omega
  · rw [if_neg hh] at h7; omega
 have h6:=ownsMap_size h4
 rw [hsz] at h6
 refine ⟨w',hr,⟨del_nodup h.nd k,fun p hp=>h.oks p (List.mem_filter.1 hp).1,_,h6,hsz,fun a ha z=>?_⟩,Fr.of_grown h5.grown fun i hi=>by cases hi; rfl⟩
 by_cases hak:a=k
 · subst hak
   rw [get_del_same,Maps.atKey_del_same]
 · rw [get_del_other l hak,Maps.atKey_del_other (E.ne ha hk hak),h3 a ha]
end
/-! at the operation, for the walk -/
section
variable {P:Program} {K:TypeId} {α:Type} [DecidableEq α] {E:KeyEnc P K α} {w:World} {b:Nat} {l:List (α × Value)}
variable {ops:Array Oper} {rest:List Oper} {o:Oper} {a:Act} {Q:Exit→Act→World→Prop}
theorem wpList_put (hg:o.guard=none) (m x v:Operand) (t e:TypeId) (hop:o.op=Op.mapUpdate t m x v) (ht:P.underlying t=some (.map K e))
 (h:HasMap E w b l) (hn:l.length < maxLen) (k:α) (hk:E.ok k) (u:Value) (hm:a.eval m=.map (some b)) (hx:a.eval x=E.kv k) (hv:a.eval v=u)
 (hK:∀ w',HasMap E w' b (put l k u)→One b w w'→wpList P ops Q rest (a.put o.dst undef) w'):wpList P ops Q (o :: rest) a w:=by
 refine wpList_plain hg fun K' hK'=>?_
 obtain ⟨w',hr,h1,h2⟩:=h.run_put ht hn hk u
 unfold Oper.wp
 simp [execOp,hop,hm,hx,hv,hr,Result.andThen]
 exact hK' _ _ (hK w' h1 h2)
theorem wpList_del (hg:o.guard=none) (m x:Operand) (t e:TypeId) (hop:o.op=Op.call { callee:=Callee.builtin Builtin.delete,args:=#[m,x],argTypes:=#[t,K] }) (ht:P.underlying t=some (.map K e))
 (h:HasMap E w b l) (k:α) (hk:E.ok k) (hm:a.eval m=.map (some b)) (hx:a.eval x=E.kv k)
 (hK:∀ w',HasMap E w' b (del l k)→One b w w'→wpList P ops Q rest (a.put o.dst (.tuple #[])) w'):wpList P ops Q (o :: rest) a w:=by
 refine wpList_plain hg fun K' hK'=>?_
 obtain ⟨w',hr,h1,h2⟩:=h.run_del ht hk o.type
 unfold Oper.wp
 simp [execOp,hop,resolve,invoke,builtin,hm,hx,hr,Result.andThen]
 exact hK' _ _ (hK w' h1 h2)
end
def intKeys {P:Program} {K:TypeId} {q:IntKind} (hk:P.underlying K=some (.int q)):KeyEnc P K Int where
 law:=int_keyed hk
 kv:=Value.int q
 kl:=Lit.int q
 ok:=fun n=>(Lit.int q n).wf=true
 key:=fun _ h=>keyOf_int_mk hk h
 inj:=fun _ _ h=>by injection h
end Go.Proofs.YtliimglbbiebiaaGreatDoor
end

