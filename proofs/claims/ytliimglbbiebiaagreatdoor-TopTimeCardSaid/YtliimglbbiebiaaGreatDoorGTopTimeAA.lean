import Derived.Test.YtliimglbbiebiaaGreatDoorGTopTime0
set_option maxRecDepth 100000
set_option maxHeartbeats 6400000
set_option linter.all false
namespace Go.Proofs.YtliimglbbiebiaaGreatDoor
open Go.Proofs.Tryz Go.RowKit Go.Maps
def af(w:World) (g:Nat) (t:TypeId) (cs:Array Value):Prop:=w.heap[g]? =some (.cells cs t (0,0))
section
variable{w w':World}{g:Nat}{t:TypeId}{cs:Array Value}
theorem af.lt (h:af w g t cs):g<w.heap.size:=by
 rcases GA g w.heap.size with bJ|Gr
 ·exact bJ
 ·unfold af at h;rw [ab2 Gr]at h;cases h
theorem af.cell (h:af w g t cs) (i:Nat):w.cell? (C_ g i)=cs[i]? :=cell_of_row w g i cs t (0,0) h
section
variable{a x0 x1 x2 x3 x4 x5 x6 x7 x8 x9 We Yc x12 x13 x14 x15 x16 x17:Value}{l:List Value}
theorem af.k0 (h:af w g t ⟨a::l⟩):L_ w g 0 a:=h.cell 0
theorem af.k1 (h:af w g t ⟨x0::a::l⟩):L_ w g 1 a:=h.cell 1
theorem af.k2 (h:af w g t ⟨x0::x1::a::l⟩):L_ w g 2 a:=h.cell 2
theorem af.k3 (h:af w g t ⟨x0::x1::x2::a::l⟩):L_ w g 3 a:=h.cell 3
theorem af.k4 (h:af w g t ⟨x0::x1::x2::x3::a::l⟩):L_ w g 4 a:=h.cell 4
theorem af.k5 (h:af w g t ⟨x0::x1::x2::x3::x4::a::l⟩):L_ w g 5 a:=h.cell 5
theorem af.k6 (h:af w g t ⟨x0::x1::x2::x3::x4::x5::a::l⟩):L_ w g 6 a:=h.cell 6
theorem af.k7 (h:af w g t ⟨x0::x1::x2::x3::x4::x5::x6::a::l⟩):L_ w g 7 a:=h.cell 7
theorem af.k8 (h:af w g t ⟨x0::x1::x2::x3::x4::x5::x6::x7::a::l⟩):L_ w g 8 a:=h.cell 8
theorem af.k9 (h:af w g t ⟨x0::x1::x2::x3::x4::x5::x6::x7::x8::a::l⟩):L_ w g 9 a:=h.cell 9
theorem af.xQ (h:af w g t ⟨x0::x1::x2::x3::x4::x5::x6::x7::x8::x9::a::l⟩):L_ w g 10 a:=h.cell 10
theorem af.va (h:af w g t ⟨x0::x1::x2::x3::x4::x5::x6::x7::x8::x9::We::a::l⟩):L_ w g 11 a:=h.cell 11
theorem af.tZ (h:af w g t ⟨x0::x1::x2::x3::x4::x5::x6::x7::x8::x9::We::Yc::a::l⟩):L_ w g 12 a:=h.cell 12
theorem af.oH (h:af w g t ⟨x0::x1::x2::x3::x4::x5::x6::x7::x8::x9::We::Yc::x12::a::l⟩):L_ w g 13 a:=h.cell 13
theorem af.t_ (h:af w g t ⟨x0::x1::x2::x3::x4::x5::x6::x7::x8::x9::We::Yc::x12::x13::a::l⟩):L_ w g 14 a:=h.cell 14
theorem af.xY (h:af w g t ⟨x0::x1::x2::x3::x4::x5::x6::x7::x8::x9::We::Yc::x12::x13::x14::a::l⟩):L_ w g 15 a:=h.cell 15
theorem af.xZ (h:af w g t ⟨x0::x1::x2::x3::x4::x5::x6::x7::x8::x9::We::Yc::x12::x13::x14::x15::a::l⟩):L_ w g 16 a:=h.cell 16
theorem af.kH (h:af w g t ⟨x0::x1::x2::x3::x4::x5::x6::x7::x8::x9::We::Yc::x12::x13::x14::x15::x16::a::l⟩):L_ w g 17 a:=h.cell 17
theorem af.rF (h:af w g t ⟨x0::x1::x2::x3::x4::x5::x6::x7::x8::x9::We::Yc::x12::x13::x14::x15::x16::x17::a::l⟩):L_ w g 18 a:=h.cell 18
end
theorem af.frozen (h:af w g t cs) (i:Nat):w.frozen? (C_ g i)=false:=by
 unfold af at h;simp [World.frozen?,h]
theorem af.new (w:World) (t:TypeId) (cs:Array Value):af (W_ w cs t) w t cs:=heap_alloc_new w _
theorem af.drew (h:af w g t cs):af w.drew g t cs:=h
theorem af.drewN (h:af w g t cs) (n:Nat):af (w.drewN n) g t cs:=h
theorem af.alloc (h:af w g t cs) (o:Obj):af (w.alloc o) g t cs:=(JA w o g h.lt).trans h
theorem af.al (h:af w g t cs) (i:Nat) (u:Value):af (w.setCell (C_ g i) u) g t (cs.setIfInBounds i u):=by
 unfold af at h⊢;simp [World.setCell,Yd,h]
theorem af.bL (h:af w g t cs) {p:Addr}(hp:g≠p.block) (u:Value):af (w.setCell p u) g t cs:=(Wf w p u g hp).trans h
theorem af.aU {g':Nat}{t':TypeId}{kL:Array Value}(h:af w g t cs) (h':af w g' t' kL) (bV:t≠t'):g≠g':=by
 rintro rfl;unfold af at h h';rw [h]at h';injection h' with h';injection h' with _ ht;exact bV ht
end
structure Fr(S:Nat->Prop) (w w':World):Prop where
 os:w'.os=w.os
 tape:w'.tape=w.tape
 output:w'.output=w.output
 size:w.heap.size<=w'.heap.size
 block:∀k,k<w.heap.size->¬S k->w'.heap[k]? =w.heap[k]?
section
variable{S T:Nat->Prop}{a b c w w':World}
theorem Fr.refl (S:Nat->Prop) (w:World):Fr S w w:=⟨rfl,rfl,rfl,aA _,fun _ _ _=>rfl⟩
theorem Fr.trans (h:Fr S a b) (k:Fr S b c):Fr S a c:=
 ⟨k.os.trans h.os,k.tape.trans h.tape,k.output.trans h.output,gy h.size k.size,fun i hi hn=>(k.block i (fw hi h.size) hn).trans (h.block i hi hn)⟩
theorem Fr.trans' (h:Fr S a b) (k:Fr T b c) (hT:∀i,i<a.heap.size->T i->S i):Fr S a c:=
 ⟨k.os.trans h.os,k.tape.trans h.tape,k.output.trans h.output,gy h.size k.size,fun i hi hn=>(k.block i (fw hi h.size) (fun ht=>hn (hT i hi ht))).trans (h.block i hi hn)⟩
theorem Fr.mono (h:Fr S a b) (hT:∀i,i<a.heap.size->S i->T i):Fr T a b:=
 ⟨h.os,h.tape,h.output,h.size,fun i hi hn=>h.block i hi (fun hs=>hn (hT i hi hs))⟩
theorem Fr.drew (h:Fr S a w):Fr S a w.drew:=⟨h.os,h.tape,h.output,h.size,h.block⟩
theorem Fr.drewN (h:Fr S a w) (n:Nat):Fr S a (w.drewN n):=⟨h.os,h.tape,h.output,h.size,h.block⟩
theorem Fr.alloc (h:Fr S a w) (o:Obj):Fr S a (w.alloc o):=
 ⟨h.os,h.tape,h.output,gy h.size S_,fun i hi hn=>(JA w o i (fw hi h.size)).trans (h.block i hi hn)⟩
theorem Fr.setCell (h:Fr S a w) {p:Addr}(hp:p.block<a.heap.size->S p.block) (u:Value):Fr S a (w.setCell p u):=
 ⟨h.os,h.tape,h.output,by simpa [World.setCell]using h.size,fun i hi hn=>(Wf w p u i (by rintro rfl;exact hn (hp hi))).trans (h.block i hi hn)⟩
theorem Fr.below (h:Fr S a b) {B:Nat}(hB:∀i,i<B->i<a.heap.size/\¬S i):Below B a b:=
 ⟨h.os,h.tape,h.output,h.size,fun i hi=>h.block i (hB i hi).1 (hB i hi).2⟩
theorem Fr.eF {B:Nat}(h:Below B a b) (hS:∀i,i<a.heap.size->B<=i->S i):Fr S a b:=
 ⟨h.os,h.tape,h.output,h.size,fun i hi hn=>h.block i (by rcases GA i B with h1|h1;exact h1;exact absurd (hS i hi h1) hn)⟩
theorem Fr.dW {row:Option Nat}(h:a.grownBy b row) (hS:∀i,row=some i->S i):Fr S a b:=
 ⟨h.os,h.tape,h.output,h.size,fun i hi hn=>h.block i hi (fun e=>hn (hS i e.symm))⟩
theorem Fr.ai {g:Nat}{t:TypeId}{cs:Array Value}(h:Fr S a b) (hb:af a g t cs) (hg:¬S g):af b g t cs:=(h.block g hb.lt hg).trans hb
theorem Fr.cell (h:Fr S a b) {p:Addr}{v:Value}(hc:a.cell? p=some v) (hp:¬S p.block):b.cell? p=some v:=
 (jG (h.block p.block (jH a p hc) hp)).trans hc
end
abbrev ae(w w':World):Prop:=Fr (fun _=>False) w w'
abbrev One(g:Nat) (w w':World):Prop:=Fr (fun k=>k=g) w w'
theorem One.refl (g:Nat) (w:World):One g w w:=Fr.refl _ _
theorem One.set {g:Nat}{a w:World}(h:One g a w) (i:Nat) (u:Value):One g a (w.setCell (C_ g i) u):=Fr.setCell h (fun _=>rfl) u
theorem One.ai {g k:Nat}{t:TypeId}{cs:Array Value}{a b:World}(h:One g a b) (hb:af a k t cs) (hk:k≠g):af b k t cs:=Fr.ai h hb hk
theorem ae.ai {k:Nat}{t:TypeId}{cs:Array Value}{a b:World}(h:ae a b) (hb:af a k t cs):af b k t cs:=Fr.ai h hb id
theorem ae.refl (w:World):ae w w:=Fr.refl _ _
theorem ae.one {g:Nat}{a b c:World}(h:ae a b) (k:One g b c) (hg:a.heap.size<=g):ae a c:=Fr.trans' h k (fun _ hi e=>by subst e;omega)
theorem ae.toBelow {w w':World}(h:ae w w'):Below w.heap.size w w':=h.below fun _ hi=>⟨hi,id⟩
theorem ae.eF {w w':World}(h:Below w.heap.size w w'):ae w w':=Fr.eF h fun _ hi hB=>O_
theorem uE{P:Program}{id:Nat}{Q:Exit->Act->World->Prop}{a:Act}{w:World}{l:List Oper}(n:Nat) (hm:P.follows .mixedOrders=true) (hB:Region.lexTailB .any l.toArray n=true)
 (h:wpStill P l.toArray w.drew (fun a'=>wpList P l.toArray Q (l.drop n) a' w.drew) (l.take n) a):(Code.region id l.toArray true).wp P Q a w:=
 wp_region_still_tail n hm hB h
theorem N_{p:Prop}(h:p:=by repeat' first|exact Fr.refl _ _|apply Fr.alloc|apply Fr.drewN|apply Fr.drew):p:=h

theorem A_{p:Prop}(h:p:=by repeat' first|exact Fr.refl _ _|assumption|apply Fr.alloc|apply Fr.drewN|apply Fr.drew):p:=h
structure bU where
 uid:Int
 fl:Int
 body:List Int
 deriving DecidableEq
def bU.wf (m:bU):Prop:=(0<=m.uid/\m.uid<=4294967295)/\(0<=m.fl/\m.fl<=255)
def bU.ok (m:bU):Prop:=(1<=m.uid/\m.uid<=4294967295)/\(0<=m.fl/\m.fl<=31)
def rK:bU:=⟨0,0,[]⟩
def dY(M:List bU) (k:Int):Option bU:=M.find? fun m=>decide (m.uid=k)
def x_(M:List bU) (m:bU):Int:=if m.uid=0\/31<m.fl\/65536<m.body.length then 2 else if(dY M m.uid).isSome then 8 else 0
def Lf(M:List bU) (m:bU):List bU:=if x_ M m=0 then M++[m]else M
def Gs(a b:Int):Int:=((a.toNat&&&b.toNat:Nat):Int)
def Ye(a b:Int):Int:=((a.toNat|||b.toNat:Nat):Int)
def vf(a b:Int):Int:=((a.toNat&&&(255-b.toNat):Nat):Int)
def JB(kM mode f:Int):Option Int:=if 31<kM\/31<f then none else if mode=0 then some f else if mode=1 then some (Ye kM f)else if mode=2 then some (vf kM f)else none
def flX(M:List bU) (k mode f:Int):Int:=match dY M k with|none=>0|some m=>(JB m.fl mode f).getD 0
def JC(M:List bU) (k mode f:Int):Int:=match dY M k with|none=>7|some m=>if(JB m.fl mode f).isSome then 0 else 2
def Gt(M:List bU) (k x:Int):List bU:=M.map fun m=>if m.uid=k then{m with fl:=x}else m
def JD(M:List bU) (k mode f:Int):List bU:=if JC M k mode f=0 then Gt M k (flX M k mode f)else M
def CL(M:List bU) (k:Int):List bU:=M.filter fun m=>decide (m.uid≠k)
def fR(M:List bU) (f:Int):List Int:=(M.filter fun m=>decide (Gs m.fl f=f)).map bU.uid
theorem rL{M:List bU}{k:Int}{m:bU}(h:dY M k=some m):m∈M/\m.uid=k:=by
 unfold dY at h;refine⟨bK h,?_⟩;simpa using JF h
theorem Gu{M:List bU}{k:Int}:dY M k=none<->∀m∈M,m.uid≠k:=by
 unfold dY;rw [Wg];simp
theorem pW{M:List bU}(gT:(M.map bU.uid).Nodup) {m:bU}(h:m∈M):dY M m.uid=some m:=by
 induction M with
 |nil=>cases h
 |cons p M ih=>
  rw [nR,BY]at gT;unfold dY at ih⊢;rw [Wh];rcases List.mem_cons.1 h with rfl|h'
  ·simp
  ·have:p.uid≠m.uid:=fun e=>gT.1 (by rw [e];exact List.mem_map.2 ⟨m,h',rfl⟩);simp [this,ih gT.2 h']
theorem Ol(M:List bU) (k x:Int):(Gt M k x).map bU.uid=M.map bU.uid:=by
 unfold Gt;rw [JJ];refine eR fun m _=>?_;simp only [Function.comp]
 split<;>rfl
theorem Om{a b:Int}(h1:0<=a) (h2:a<=255) (h3:0<=b) (h4:b<=255):bits .or .u8 a b=Ye a b:=u8_or a b h1 O_ h3 O_
theorem JE{a b:Int}(h1:0<=a) (h2:a<=255) (h3:0<=b) (h4:b<=255):bits .and .u8 a b=Gs a b:=u8_and a b h1 O_ h3 O_
theorem On{a b:Int}(h1:0<=a) (h2:a<=255) (h3:0<=b) (h4:b<=255):bits .andNot .u8 a b=vf a b:=u8_andNot a b h1 O_ h3 O_
theorem Wj(a:Nat) (h:a<=31):a<2^5:=O_
theorem Oo{a b:Int}(h2:a<=31) (h4:b<=31):0<=Ye a b/\Ye a b<=31:=by
 unfold Ye;have:=Nat.or_lt_two_pow (Wj a.toNat O_) (Wj b.toNat O_);omega
theorem Oq{a b:Int}(h2:a<=31):0<=vf a b/\vf a b<=31:=by
 unfold vf;have:= @Nat.and_le_left a.toNat (255-b.toNat);omega
theorem Ot{kM mode f x:Int}(h:JB kM mode f=some x) (F9:0<=f):0<=x/\x<=31:=by
 unfold JB at h
 split at h
 ·cases h
 ·split at h
  ·cases h;omega
  ·split at h
   ·cases h;exact Oo O_ O_
   ·split at h
    ·cases h;exact Oq O_
    ·cases h
structure el(P:Program) (K:TypeId) (α:Type) where
 law:Keyed P K
 kv:α->Value
 kl:α->Lit
 ok:α->Prop
 key:∀a,ok a->keyOf P K (kv a)=some (kl a)
 inj:∀a b,kv a=kv b->a=b
section
variable{P:Program}{K:TypeId}{α:Type}(E:el P K α)
theorem el.isKey {a:α}(h:E.ok a):WideAt.IsKeyLit (E.kl a):=E.law.key (E.key a h)
theorem el.ne {a b:α}(ha:E.ok a) (hb:E.ok b) (h:a≠b):E.kl a≠E.kl b:=fun e=>h (E.inj a b (E.law.inj (E.key a ha) (by rw [e];exact E.key b hb)))
end
def R0(v:Value):Option (DataW Value×List MemPlace):=some (.held v,[])
section
variable{α:Type}[DecidableEq α]
def get(l:List (α×Value)) (a:α):Option Value:=(l.find? fun p=>decide (p.1=a)).map Prod.snd
def del(l:List (α×Value)) (a:α):List (α×Value):=l.filter fun p=>decide (p.1≠a)
def put(l:List (α×Value)) (a:α) (v:Value):List (α×Value):=(a,v)::del l a
theorem get_nil(a:α):get [] a=none:=rfl
theorem gx(p:α×Value) (l:List (α×Value)) (a:α):get (p::l) a=if p.1=a then some p.2 else get l a:=by
 unfold get;rw [Wh];by_cases h:p.1=a<;>simp [h]
theorem kO(l:List (α×Value)) (a:α):get (del l a) a=none:=by
 unfold get del;rw [AS,Wg];intro p hp;have:=(List.mem_filter.1 hp).2;simpa using this
theorem jB(l:List (α×Value)) {a b:α}(h:b≠a):get (del l a) b=get l b:=by
 induction l with
 |nil=>rfl
 |cons p l ih=>
  unfold del at ih⊢;rw [ku];by_cases hp:p.1=a
  ·rw [if_neg (by simpa using hp),ih,gx,if_neg (by rw [hp];exact fun e=>h e.symm)]
  ·rw [if_pos (by simpa using hp),gx,gx,ih]
theorem bW(l:List (α×Value)) (a:α) (v:Value):get (put l a v) a=some v:=by unfold put;rw [gx,if_pos rfl]
theorem aE(l:List (α×Value)) {a b:α}(v:Value) (h:b≠a):get (put l a v) b=get l b:=by
 unfold put;rw [gx,if_neg (fun e=>h e.symm),jB l h]
theorem kP{l:List (α×Value)}{a:α}{v:Value}(h:get l a=some v):(a,v)∈l:=by
 unfold get at h;obtain⟨p,hp,rfl⟩:=Option.map_eq_some_iff.1 h;have h1:=JF hp;have h2:=bK hp;obtain rfl:p.1=a:=by simpa using h1
 exact h2
theorem get_of_mem{l:List (α×Value)}(gT:(l.map Prod.fst).Nodup) {a:α}{v:Value}(h:(a,v)∈l):get l a=some v:=by
 induction l with
 |nil=>cases h
 |cons p l ih=>
  rw [nR,BY]at gT;rw [gx];rcases List.mem_cons.1 h with rfl|h'
  ·rw [if_pos rfl]
  ·rw [if_neg (fun e=>gT.1 (by rw [e];exact List.mem_map.2 ⟨(a,v),h',rfl⟩)),ih gT.2 h']
theorem dZ{l:List (α×Value)}{a:α}:get l a=none<->a∉l.map Prod.fst:=by
 unfold get;rw [AS,Wg]
 constructor
 ·intro h hm;obtain⟨p,hp,rfl⟩:=List.mem_map.1 hm;exact h p hp S_
 ·intro h p hp e;exact h (List.mem_map.2 ⟨p,hp,by simpa using e⟩)
theorem yV{l:List (α×Value)}(gT:(l.map Prod.fst).Nodup) (a:α):((del l a).map Prod.fst).Nodup:=
 gT.sublist (J8 _ Wi)
theorem Lg{l:List (α×Value)}(gT:(l.map Prod.fst).Nodup) (a:α) (v:Value):((put l a v).map Prod.fst).Nodup:=by
 unfold put;rw [nR,BY];exact⟨dZ.1 (kO l a),yV gT a⟩
theorem oI{l:List (α×Value)}(gT:(l.map Prod.fst).Nodup) (a:α):(del l a).length+(if(get l a).isSome then 1 else 0)=l.length:=by
 induction l with
 |nil=>rfl
 |cons p l ih=>
  rw [nR,BY]at gT;have ih:=ih gT.2;rw [gx];unfold del at ih⊢;rw [ku];by_cases hp:p.1=a
  ·have hn:get l a=none:=dZ.2 (by rw [<-hp];exact gT.1);rw [if_neg (by simpa using hp),if_pos hp];rw [hn]at ih;simp at ih⊢;omega
  ·rw [if_pos (by simpa using hp),if_neg hp];simp only [iU];omega
end
structure HasMap{P:Program}{K:TypeId}{α:Type} [DecidableEq α] (E:el P K α) (w:World) (b:Nat) (l:List (α×Value)):Prop where
 nd:(l.map Prod.fst).Nodup
 oks:∀p∈l,E.ok p.1
 own:∃D:DataW Value,w.ownsMap P K R0 b l.length D/\Maps.size D=l.length/\∀a,E.ok a->∀z,D.atKey (E.kl a) z=match get l a with|some v=>.held v|none=>z
section
variable{P:Program}{K:TypeId}{α:Type}[DecidableEq α]{E:el P K α}{w w':World}{b:Nat}{l:List (α×Value)}
theorem HasMap.lt (h:HasMap E w b l):b<w.heap.size:=by
 obtain⟨D,h1,_⟩:=h.own;exact h1.lt
theorem HasMap.made (E:el P K α) (w:World):HasMap E (w.alloc (.map #[] 0)) w.heap.size []:=
 ⟨S_,S_,.map [],World.ownsMap_made w P K R0,rfl,fun _ _ _=>rfl⟩
theorem HasMap.of_block (h:HasMap E w b l) (hb:w'.heap[b]? =w.heap[b]?):HasMap E w' b l:=by
 obtain⟨D,⟨es,clock,h1,h2⟩,h3⟩:=h.own;exact⟨h.nd,h.oks,D,⟨es,clock,hb.trans h1,h2⟩,h3⟩
theorem HasMap.fr {S:Nat->Prop}(h:HasMap E w b l) (hf:Fr S w w') (hb:¬S b):HasMap E w' b l:=h.of_block (hf.block b h.lt hb)
theorem HasMap.drew (h:HasMap E w b l):HasMap E w.drew b l:=h.of_block rfl
theorem HasMap.alloc (h:HasMap E w b l) (o:Obj):HasMap E (w.alloc o) b l:=h.of_block (JA w o b h.lt)
theorem HasMap.setCell (h:HasMap E w b l) {a:Addr}(ha:b≠a.block) (u:Value):HasMap E (w.setCell a u) b l:=h.of_block (Wf w a u b ha)
theorem pX{R:Value->Option (DataW Value×List MemPlace)}{n:Nat}{D:DataW Value}(h:w.ownsMap P K R b n D):w.ownsMap P K R b (Maps.size D) D:=by
 obtain⟨es,clock,h1,h2,_,h4⟩:=h;refine⟨es,clock,h1,h2,?_,h4⟩;rw [h4];simp [Maps.size,length_sorted]
theorem oJ{D:DataW Value}{o:Option Value}{kl:Lit}(h:∀z,D.atKey kl z=match o with|some v=>.held v|none=>z):Maps.has D kl=o.isSome:=by
 cases o with
 |none=>exact Maps.has_false_of_atKey h
 |some v=>exact Maps.has_true_of_atKey h
theorem HasMap.eG {t e:TypeId}(h:HasMap E w b l) (ht:P.underlying t=some (.map K e)) {z:Value}(hz:(zeroValue e).run P w=.ok z w) {k:α}(hk:E.ok k):
 (Instr.lookup t (.map (some b)) (E.kv k) false).run P w=.ok ((get l k).getD z) w:=by
 obtain⟨D,h1,_,h3⟩:=h.own;obtain⟨v,ps,hr,hv⟩:=h1.lookup E.law ht hz (zd:=.held z) (zp:=[]) rfl (E.key k hk);rw [hr];simp only [R0,rM,vt]at hv;have h4:=hv.1;rw [h3 k hk]at h4
 cases hg:get l k with
 |none=>rw [hg]at h4;injection h4 with h4;rw [h4];rfl
 |some u=>rw [hg]at h4;injection h4 with h4;rw [h4];rfl
theorem HasMap.bD {t e:TypeId}(h:HasMap E w b l) (ht:P.underlying t=some (.map K e)) {z:Value}(hz:(zeroValue e).run P w=.ok z w) {k:α}(hk:E.ok k):
 (Instr.lookup t (.map (some b)) (E.kv k) true).run P w=.ok (.tuple #[(get l k).getD z,R_ (get l k).isSome]) w:=by
 obtain⟨D,h1,_,h3⟩:=h.own;obtain⟨v,ps,hr,hv⟩:=h1.look_ok E.law ht hz (zd:=.held z) (zp:=[]) rfl (E.key k hk);rw [hr,oJ (h3 k hk)];simp only [R0,rM,vt]at hv;have h4:=hv.1;rw [h3 k hk]at h4
 cases hg:get l k with
 |none=>rw [hg]at h4;injection h4 with h4;rw [h4];rfl
 |some u=>rw [hg]at h4;injection h4 with h4;rw [h4];rfl
theorem HasMap.mP {t e:TypeId}(h:HasMap E w b l) (ht:P.underlying t=some (.map K e)) (hn:l.length<maxLen) {k:α}(hk:E.ok k) (v:Value):
 ∃w',(Instr.mapUpdate t (.map (some b)) (E.kv k) v).run P w=.ok () w'/\HasMap E w' b (put l k v)/\One b w w':=by
 obtain⟨D,h1,h2,h3⟩:=h.own;obtain⟨w',hr,h4,h5⟩:=h1.update E.law ht hn (E.key k hk) (val:=v) (d:=.held v) (ps:=[]) rfl
 have eE:Maps.size (D.put (E.kl k) (.held v))=(put l k v).length:=by
  rw [Maps.size_put (h1.tidy E.law),oJ (h3 k hk),h2];have:=oI h.nd k;unfold put;rw [iU]
  split at this<;>rename_i hh
  ·rw [if_pos hh];omega
  ·rw [if_neg hh];omega
 have h6:=pX h4;rw [eE]at h6;refine⟨w',hr,⟨Lg h.nd k v,fun p hp=>?_,_,h6,eE,fun a ha z=>?_⟩,Fr.dW h5 fun i hi=>by cases hi;rfl⟩
 ·rcases List.mem_cons.1 hp with rfl|hp
  ·exact hk
  ·exact h.oks p (List.mem_filter.1 hp).1
 ·by_cases Wk:a=k
  ·subst Wk;rw [bW,Maps.atKey_put_same h1.isMap (E.isKey hk)]
  ·rw [aE l v Wk,Maps.atKey_put_other (E.ne ha hk Wk),h3 a ha]
theorem HasMap.TE {t e:TypeId}(h:HasMap E w b l) (ht:P.underlying t=some (.map K e)) {k:α}(hk:E.ok k) (ty:TypeId):
 ∃w',(Builtin.delete_ #[t,K] ty #[.map (some b),E.kv k]).run P w=.ok (.tuple #[]) w'/\HasMap E w' b (del l k)/\One b w w':=by
 obtain⟨D,h1,h2,h3⟩:=h.own;obtain⟨w',hr,h4,h5⟩:=h1.drop E.law ht (E.key k hk) ty
 have eE:Maps.size (D.del (E.kl k))=(del l k).length:=by
  have h7:=Maps.size_del (k:=E.kl k) (h1.tidy E.law);rw [oJ (h3 k hk),h2]at h7;have:=oI h.nd k
  split at this<;>rename_i hh
  ·rw [if_pos hh]at h7;omega
  ·rw [if_neg hh]at h7;omega
 have h6:=pX h4;rw [eE]at h6;refine⟨w',hr,⟨yV h.nd k,fun p hp=>h.oks p (List.mem_filter.1 hp).1,_,h6,eE,fun a ha z=>?_⟩,Fr.dW h5.grown fun i hi=>by cases hi;rfl⟩;by_cases Wk:a=k
 ·subst Wk;rw [kO,Maps.atKey_del_same]
 ·rw [jB l Wk,Maps.atKey_del_other (E.ne ha hk Wk),h3 a ha]
end
section
variable{P:Program}{K:TypeId}{α:Type}[DecidableEq α]{E:el P K α}{w:World}{b:Nat}{l:List (α×Value)}
variable{ops:Array Oper}{rest:List Oper}{o:Oper}{a:Act}{Q:Exit->Act->World->Prop}
theorem oK(hg:o.guard=none) (m x v:Operand) (t e:TypeId) (Cw:o.op=Op.mapUpdate t m x v) (ht:P.underlying t=some (.map K e))
 (h:HasMap E w b l) (hn:l.length<maxLen) (k:α) (hk:E.ok k) (u:Value) (hm:a.eval m=.map (some b)) (hx:a.eval x=E.kv k) (hv:a.eval v=u)
 (hK:∀w',HasMap E w' b (put l k u)->One b w w'->wpList P ops Q rest (a.put o.dst undef) w'):wpList P ops Q (o::rest) a w:=by
 refine vg hg fun K' Ow=>?_;obtain⟨w',hr,h1,h2⟩:=h.mP ht hn hk u;unfold Oper.wp;simp [execOp,Cw,hm,hx,hv,hr,Result.andThen];exact Ow _ _ (hK w' h1 h2)
theorem oL(hg:o.guard=none) (m x:Operand) (t e:TypeId) (Cw:o.op=Op.call {callee:=Callee.builtin Builtin.delete,args:= #[m,x],argTypes:= #[t,K]}) (ht:P.underlying t=some (.map K e))
 (h:HasMap E w b l) (k:α) (hk:E.ok k) (hm:a.eval m=.map (some b)) (hx:a.eval x=E.kv k)
 (hK:∀w',HasMap E w' b (del l k)->One b w w'->wpList P ops Q rest (a.put o.dst (.tuple #[])) w'):wpList P ops Q (o::rest) a w:=by
 refine vg hg fun K' Ow=>?_;obtain⟨w',hr,h1,h2⟩:=h.TE ht hk o.type;unfold Oper.wp;simp [execOp,Cw,resolve,invoke,builtin,hm,hx,hr,Result.andThen];exact Ow _ _ (hK w' h1 h2)
end
def intKeys{P:Program}{K:TypeId}{q:IntKind}(hk:P.underlying K=some (.int q)):el P K Int where
 law:=int_keyed hk
 kv:=Value.int q
 kl:=Lit.int q
 ok:=fun n=>(Lit.int q n).wf=true
 key:=fun _ h=>keyOf_int_mk hk h
 inj:=fun _ _ h=>by injection h
structure cr(α:Type) where
 enc:α->List Value
 sz:Nat
 len:∀x,(enc x).length=sz
 one:∀x,∀u∈enc x,u.oneCell'=true
 pos:0<sz
def cr.cells {α:Type}(E:cr α) (l:List α):List Value:=l.flatMap E.enc
section
variable{α:Type}(E:cr α)
theorem cr.fD (l:List α):(E.cells l).length=l.length*E.sz:=by
 unfold cr.cells
 induction l with
 |nil=>simp
 |cons x l ih=>rw [wj,dr,ih,E.len,iU,rT];omega
theorem cr.kQ (l m:List α):E.cells (l++m)=E.cells l++E.cells m:=by simp [cr.cells]
theorem cr.cells_one (x:α):E.cells [x]=E.enc x:=by simp [cr.cells]
theorem cr.jU {l:List α}{i:Nat}{x:α}(hx:l[i]? =some x) {j:Nat}{u:Value}(hu:(E.enc x)[j]? =some u):(E.cells l)[i*E.sz+j]? =some u:=by
 induction l generalizing i with
 |nil=>simp at hx
 |cons y l ih=>
  unfold cr.cells at ih⊢;rw [wj]
  cases i with
  |zero=>
   simp only [Dd,rM]at hx;subst hx;rw [aT,aH,Ox (List.getElem?_eq_some_iff.1 hu).1];exact hu
  |succ i=>
   rw [List.getElem?_cons_succ]at hx;rw [ab4 (by rw [E.len,rT];omega),E.len,show(i+1)*E.sz+j-E.sz=i*E.sz+j by rw [rT];omega];exact ih hx
theorem cr.vk (l:List α):∀u∈E.cells l,u.oneCell'=true:=by
 intro u hu;obtain⟨x,_,hx⟩:=List.mem_flatMap.1 hu;exact E.one x u hx
end
def Rd{α:Type}(E:cr α) (w:World) (v:Value) (l:List α):Prop:=
 ∃A c,v=X_ A l.length c/\l.length<=c/\(l≠[]->∃b off,A=some ⟨b,off,none⟩/\∀i x,l[i]? =some x->∀j u,(E.enc x)[j]? =some u->L_ w b (off+(i*E.sz+j)) u)
def Own{α:Type}(E:cr α) (e:TypeId) (base:Nat) (w:World) (v:Value) (l:List α):Prop:=w.ownsRow base e E.sz v l.length (E.cells l)
section
variable{α:Type}{E:cr α}{e:TypeId}{base:Nat}{w w':World}{v:Value}{l:List α}
theorem Rd.nil (E:cr α) (w:World):Rd E w Z_ []:=⟨none,0,rfl,aA _,fun h=>absurd rfl h⟩
theorem Rd.As (h:Rd E w v l) {b:Nat}(hb:v.ownBlock=some b) (hl:l≠[]):b<w.heap.size:=by
 obtain⟨A,c,rfl,_,h3⟩:=h;obtain⟨b',off,rfl,hc⟩:=h3 hl;simp [Value.ownBlock]at hb;subst hb
 cases l with
 |nil=>exact absurd rfl hl
 |cons x l=>
  have h0:∃u,(E.enc x)[0]? =some u:=⟨_,DW (by rw [E.len];exact E.pos)⟩;obtain⟨u,hu⟩:=h0;exact jH w _ (hc 0 x rfl 0 u hu)
theorem Rd.du (h:Rd E w v l) (hk:∀b,v.ownBlock=some b->l≠[]->w'.heap[b]? =w.heap[b]?):Rd E w' v l:=by
 obtain⟨A,c,rfl,h2,h3⟩:=h;refine⟨A,c,rfl,h2,fun hl=>?_⟩;obtain⟨b,off,rfl,hc⟩:=h3 hl;exact⟨b,off,rfl,fun i x hx j u hu=>(jG (w:=w) (hk b rfl hl)).trans (hc i x hx j u hu)⟩
theorem Rd.fr {S:Nat->Prop}(h:Rd E w v l) (hf:Fr S w w') (hS:∀b,v.ownBlock=some b->¬S b):Rd E w' v l:=
 h.du fun b hb hl=>hf.block b (h.As hb hl) (hS b hb)
theorem Rd.new (h:Rd E w v l) (hf:ae w w'):Rd E w' v l:=h.fr hf fun _ _=>id
theorem Rd.drew (h:Rd E w v l):Rd E w.drew v l:=h
theorem Rd.alloc (h:Rd E w v l) (o:Obj):Rd E (w.alloc o) v l:=h.new ((ae.refl w).alloc o)
theorem Own.nil (E:cr α) (e:TypeId) (base:Nat) (w:World):Own E e base w Z_ []:=World.ownsRow_nil w base e E.sz
theorem Own.block (h:Own E e base w v l) {b:Nat}(hb:v.ownBlock=some b):base<=b/\b<w.heap.size:=h.lt b hb
theorem Own.du (h:Own E e base w v l) (hk:∀b,v.ownBlock=some b->w'.heap[b]? =w.heap[b]?):Own E e base w' v l:=by
 refine⟨h.1,?_⟩;rcases h.2 with hn|⟨g,cap,cur,rfl,hb,vm,rest⟩
 ·exact .inl hn
 ·exact .inr ⟨g,cap,cur,rfl,hb,(hk g rfl).trans vm,rest⟩
theorem Own.fr {S:Nat->Prop}(h:Own E e base w v l) (hf:Fr S w w') (hS:∀b,v.ownBlock=some b->¬S b):Own E e base w' v l:=
 h.du fun b hb=>hf.block b (h.block hb).2 (hS b hb)
theorem Own.new (h:Own E e base w v l) (hf:ae w w'):Own E e base w' v l:=h.fr hf fun _ _=>id
theorem Own.drew (h:Own E e base w v l):Own E e base w.drew v l:=h
theorem Own.alloc (h:Own E e base w v l) (o:Obj):Own E e base (w.alloc o) v l:=h.new ((ae.refl w).alloc o)
theorem Own.mono (h:Own E e base w v l) {b':Nat}(hb:b'<=base):Own E e b' w v l:=by
 refine⟨h.1,?_⟩;rcases h.2 with hn|⟨g,cap,cur,rfl,hg,rest⟩
 ·exact .inl hn
 ·exact .inr ⟨g,cap,cur,rfl,gy hb hg,rest⟩
theorem Own.rd (h:Own E e base w v l):Rd E w v l:=by
 have az:=fun{g:Nat}(hg:v.ownBlock=some g)=>Pe h hg;rcases h.2 with⟨rfl,hn⟩|⟨g,cap,cur,rfl,_,_,ya,_⟩
 ·have:l=[]:=wk hn;subst this;exact Rd.nil E w
 ·refine⟨_,cap,rfl,ya,fun _=>⟨g,0,rfl,fun i x hx j u hu=>?_⟩⟩;have:=az (g:=g) rfl (i*E.sz+j) u (E.jU hx hu);rw [kR]at this;exact this
theorem Own.form (h:Own E e base w v l):∃A c,v=X_ A l.length c/\l.length<=c:=by
 obtain⟨A,c,h1,h2,_⟩:=h.rd;exact⟨A,c,h1,h2⟩
theorem Own.ar {g:Nat}{t:TypeId}{cs:Array Value}(h:Own E e base w v l) (hg:af w g t cs) (bV:e≠t):v.ownBlock≠some g:=by
 rcases h.2 with⟨rfl,_⟩|⟨g',cap,cur,rfl,_,hh,_⟩
 ·simp [Value.ownBlock]
 ·intro he;have:g'=g:=by simpa [Value.ownBlock]using he
  subst this;exact af.aU (t:=e) hh hg bV rfl
end
section
variable{P:Program}{α:Type}{E:cr α}{e:TypeId}{base:Nat}{w:World}{v:Value}{l:List α}
variable{ops:Array Oper}{rest:List Oper}{o:Oper}{a:Act}{Q:Exit->Act->World->Prop}
theorem bC(Lh:o.guard=none) (s x:Operand) (t:TypeId) (ho:o.op=.call {callee:=.builtin .append,args:= #[s,x],argTypes:= #[t,t]})
 {i:TypeInfo}{z:Value}{bytes:Nat}(ht:P.underlying t=some (.slice e)) (hi:P.info? e=some i) (hz:i.zero=some z)
 (ik:i.size=E.sz) (Gw:i.bytes=bytes) (Oz:z.cells.size=E.sz)
 (h:Own E e base w v l) (hs:a.eval s=v) (y:α) (g:Nat) (hg:af w g e (E.enc y).toArray) (c:Nat) (hx:a.eval x=X_ (M_ g) 1 c)
 (TF:l.length+1<=maxLen) (kS:(l.length+1)*bytes<=140737488355328) (dH:base<=w.heap.size)
 (hK:∀v' w',Own E e base w' v' (l++[y])->Fr (fun k=>v.ownBlock=some k) w w'->(v'.ownBlock=v.ownBlock\/v'.ownBlock=some w.heap.size)->wpList P ops Q rest (a.put o.dst v') w'):
 wpList P ops Q (o::rest) a w:=by
 refine wpList_append_own_at w Lh s x t ho base e i z E.sz bytes ht hi hz ik Gw Oz E.pos v l.length (E.cells l) hs h (C_ g 0) 1 c (E.enc y) hx (by rw [E.len];omega) (fun j u hu=>?_) (E.one y) TF kS dH (fun v' w' h1 h2 _ h4=>hK v' w' ?_ (Fr.dW h2 fun i hi=>hi) h4)
 ·rw [kR,hg.cell];simpa using hu
 ·unfold Own;rw [E.kQ,E.cells_one,dr];exact h1
theorem pY(base:Nat) (t ty e:TypeId) (i:TypeInfo) (size:Nat) (ht:P.underlying t=some (.slice e)) (hi:P.info? e=some i)
 (v:Value) (n:Nat) (xs:List Value) (cl:w.ownsRow base e size v n xs) (c:Nat):(Builtin.append_ #[t,t] ty #[v,X_ none 0 c]).run P w=.ok v w:=by
 rcases cl.2 with⟨rfl,rfl⟩|⟨g,cap,cur,rfl,_,_,ya,_⟩
 ·simp [Builtin.append_,BG ht,sizeOf,typeInfo,hi,Builtin.lenOf,Builtin.firstCells]
 ·simp [Builtin.append_,BG ht,sizeOf,typeInfo,hi,Builtin.lenOf,Builtin.firstCells,ya,storeCells]
theorem iC(t ty:TypeId) {i:TypeInfo}{z:Value}{bytes:Nat}(ht:P.underlying t=some (.slice e)) (hi:P.info? e=some i) (hz:i.zero=some z)
 (ik:i.size=E.sz) (Gw:i.bytes=bytes) (Oz:z.cells.size=E.sz)
 (h:Own E e base w v l) {u:Value}{m:List α}(hu:Rd E w u m)
 (TF:l.length+m.length<=maxLen) (kS:(l.length+m.length)*bytes<=140737488355328) (dH:base<=w.heap.size):
 ∃v' w',(Builtin.append_ #[t,t] ty #[v,u]).run P w=.ok v' w'/\Own E e base w' v' (l++m)/\Fr (fun k=>v.ownBlock=some k) w w'/\(v'.ownBlock=v.ownBlock\/v'.ownBlock=some w.heap.size):=by
 obtain⟨A,c,rfl,h2,h3⟩:=hu;rcases A with _|ad
 ·have hm:m=[]:=by
   cases m with
   |nil=>rfl
   |cons x m=>obtain⟨b,off,hA,_⟩:=h3 S_;cases hA
  subst hm;exact⟨v,w,pY base t ty e i E.sz ht hi v l.length (E.cells l) h c,by simpa using h,Fr.refl _ _,.inl rfl⟩
 ·have az:∀j u,(E.cells m)[j]? =some u->w.cell? (ad.add j)=some u:=by
   intro j u hj;have bV:m≠[]:=by rintro rfl;simp [cr.cells]at hj
   obtain⟨b,off,hA,hc⟩:=h3 bV;injection hA with hA;subst hA;have NK:=(List.getElem?_eq_some_iff.1 hj).1;rw [E.fD]at NK;have hp:=E.pos;have hi:=Nat.div_lt_of_lt_mul (by rw [Nat.mul_comm];exact NK);have hx:=DW hi;have hu:∃u',(E.enc m[j/E.sz])[j %E.sz]? =some u':=⟨_,DW (by rw [E.len];exact Nat.mod_lt _ hp)⟩;obtain⟨u',JH⟩:=hu;have h4:=E.jU hx JH;rw [Nat.div_add_mod' j E.sz,hj]at h4;injection h4 with h4;subst h4;have h5:=hc _ _ hx _ _ JH;rw [Nat.div_add_mod' j E.sz]at h5;rw [kR];exact h5
  obtain⟨v',w',hr,h4,h5,_,h6⟩:=run_append_own_at (P:=P) w base t ty e i z E.sz bytes ht hi hz ik Gw Oz E.pos v l.length (E.cells l) h ad m.length c (E.cells m) (E.fD m) az (E.vk m) TF kS dH;refine⟨v',w',hr,?_,Fr.dW h5 fun i hi=>hi,h6⟩;unfold Own;rw [E.kQ,dr];exact h4
theorem aZ(Lh:o.guard=none) (s x:Operand) (t:TypeId) (ho:o.op=.call {callee:=.builtin .append,args:= #[s,x],argTypes:= #[t,t]})
 {i:TypeInfo}{z:Value}{bytes:Nat}(ht:P.underlying t=some (.slice e)) (hi:P.info? e=some i) (hz:i.zero=some z)
 (ik:i.size=E.sz) (Gw:i.bytes=bytes) (Oz:z.cells.size=E.sz)
 (h:Own E e base w v l) (hs:a.eval s=v) {u:Value}{m:List α}(hu:Rd E w u m) (hx:a.eval x=u)
 (TF:l.length+m.length<=maxLen) (kS:(l.length+m.length)*bytes<=140737488355328) (dH:base<=w.heap.size)
 (hK:∀v' w',Own E e base w' v' (l++m)->Fr (fun k=>v.ownBlock=some k) w w'->(v'.ownBlock=v.ownBlock\/v'.ownBlock=some w.heap.size)->wpList P ops Q rest (a.put o.dst v') w'):
 wpList P ops Q (o::rest) a w:=by
 obtain⟨v',w',hr,h1,h2,h3⟩:=iC (P:=P) t o.type ht hi hz ik Gw Oz h hu TF kS dH;refine vg Lh fun K' Ow=>?_;unfold Oper.wp execOp;simp only [ho,resolve,invoke,builtin,rN,jK,oM,Hx,nR,Kf,hs,hx,hr];exact Ow _ _ (hK v' w' h1 h2 h3)
end
theorem Own.apart {α β:Type}{E:cr α}{E':cr β}{e e':TypeId}{base CM:Nat}{w w2:World}{vy vn v2:Value}{l:List α}{m:List β}(hy:Own E e base w vy l) (_hn:Own E' e' CM w vn m)
 (hd:vy.ownBlock=none\/vy.ownBlock≠vn.ownBlock) (hf:Fr (fun k=>vn.ownBlock=some k) w w2) (hl:v2.ownBlock=vn.ownBlock\/v2.ownBlock=some w.heap.size):
 Own E e base w2 vy l/\(vy.ownBlock=none\/vy.ownBlock≠v2.ownBlock):=by
 refine⟨hy.fr hf fun b hb hs=>?_,?_⟩
 ·rcases hd with hd|hd
  ·rw [hd]at hb;cases hb
  ·exact hd (hb.trans hs.symm)
 ·rcases hd with hd|hd
  ·exact .inl hd
  ·rcases hl with hl|hl
   ·rw [hl];exact .inr hd
   ·rw [hl]
    cases hy':vy.ownBlock with
    |none=>exact .inl rfl
    |some b=>
     refine .inr fun he=>?_;injection he with he;have:=(hy.block hy').2;omega
theorem vu{a b:Option Nat}(h:a=none\/a≠b):b=none\/b≠a:=by
 rcases h with h|h
 ·subst h
  cases b with
  |none=>exact .inl rfl
  |some x=>exact .inr S_
 ·exact .inr h.symm
theorem ae.append {α:Type}{E:cr α}{e:TypeId}{a b c:World}{v:Value}{l:List α}(h:ae a b) (hv:Own E e a.heap.size b v l) (hf:Fr (fun k=>v.ownBlock=some k) b c):ae a c:=
 Fr.trans' h hf fun i hi hs=>by have:=(hv.block hs).1;omega
theorem af.cD (w:World) (o:Obj) (t:TypeId) (cs:Array Value):af ((w.alloc o).alloc (G_ cs t)) (w.heap.size+1) t cs:=by
 have h:=af.new (w.alloc o) t cs
 rwa [gz]at h
theorem af.OA (w:World) (o o':Obj) (t:TypeId) (cs:Array Value):af (((w.alloc o).alloc o').alloc (G_ cs t)) (w.heap.size+2) t cs:=by
 have h:=af.cD (w.alloc o) o' t cs
 rwa [gz]at h
def cr.Li {α:Type}(enc:α->Value) (h:∀x,(enc x).oneCell'=true):cr α where
 enc x:=[enc x]
 sz:=1
 len _:=rfl
 one x u hu:=by rw [List.mem_singleton.1 hu];exact h x
 pos:=Nat.one_pos
theorem cr.Gy {α:Type}(E:cr α) (l:List α) (i:Nat) (hi:i<=l.length):(E.cells l).take (i*E.sz)=E.cells (l.take i):=by
 have h:E.cells l=E.cells (l.take i)++E.cells (l.drop i):=by rw [<-E.kQ,Yg]
 rw [h,jL (by rw [E.fD,jo,oN hi];exact aA _)];exact Hv (by rw [E.fD,jo,oN hi];exact aA _)
theorem vz(z:Array Value) (n:Nat):(Builtin.zeroCells z n).size=n*z.size:=by simp [Builtin.zeroCells]
theorem yd(z:Array Value) (n:Nat) (h:∀u∈z.toList,u.oneCell'=true):∀u∈(Builtin.zeroCells z n).toList,u.oneCell'=true:=by
 intro u hu;simp only [Builtin.zeroCells,Array.toList_map,SE]at hu;obtain⟨i,hi,rfl⟩:=hu;have hi':i<n*z.size:=by simpa using hi
 have hz:0<z.size:=by
  rcases Pl z.size with h0|h0
  ·rw [h0]at hi';omega
  ·exact h0
 have bJ:=Nat.mod_lt i hz;rw [oU z (i %z.size) bJ];exact h _ (Array.mem_toList_iff.2 (Array.getElem_mem bJ))
section
variable{P:Program}{α:Type}{E:cr α}{e:TypeId}{base:Nat}{w:World}{l:List α}
variable{ops:Array Oper}{rest:List Oper}{o:Oper}{a:Act}{Q:Exit->Act->World->Prop}
theorem nU{t ty:TypeId}{z:Value}(ht:P.underlying t=some (.slice e)) (hv:∀w,(zeroValue e).run P w=.ok z w) (Oz:z.cells.size=E.sz) (cE:∀u∈z.cells.toList,u.oneCell'=true)
 {g n c:Nat}(h:Own E e base w (X_ (M_ g) n c) l) (i d:Nat) (hi:i<n):
 ∃w',(Builtin.clear_ #[t] ty #[X_ (some ⟨g,i*E.sz,none⟩) (n-i) d]).run P w=.ok (.tuple #[]) w'/\Own E e base w' (X_ (M_ g) i c) (l.take i)/\Fr (fun k=>k=g) w w':=by
 obtain⟨A,c0,he,_⟩:=Own.form h;injection he with h1 h2 h3;subst h1 h2;rcases h.2 with⟨h',_⟩|⟨g',ahC,cur,h',hb,hg,ya,Wl,cK,ab6⟩
 ·simp at h'
 ·simp only [Value.slice.injEq,rM,Addr.mk.injEq,and_true,true_and]at h';obtain⟨rfl,rfl⟩:=h';have hvl:(Builtin.zeroCells z.cells (l.length-i)).toList.length=(l.length-i)*E.sz:=by rw [Yh,vz,Oz]
  have TG:i*E.sz+0+(Builtin.zeroCells z.cells (l.length-i)).toList.length<=cur.size:=by
   rw [hvl,cK,Au,<-rT];exact eW _ O_
  have bT:=run_storeCells_at (P:=P) g (i*E.sz) e (Builtin.zeroCells z.cells (l.length-i)).toList 0 cur w hg TG (yd _ _ cE);obtain⟨m,hm⟩:∃m,l.length-i=m+1:=⟨l.length-i-1,O_⟩;refine⟨w.setRow g (cur.toList.take (i*E.sz+0)++(Builtin.zeroCells z.cells (l.length-i)).toList++cur.toList.drop (i*E.sz+0+(Builtin.zeroCells z.cells (l.length-i)).toList.length)).toArray,?_,?_,?_⟩
  ·rw [hm]at bT⊢;simp only [Builtin.clear_,BG ht,hv,bT,rN,jK,oM,XG,Dd]
  ·unfold Own;have bJ:(l.take i).length=i:=by rw [jo];omega
   rw [bJ];refine⟨by rw [E.fD,bJ],.inr ⟨g,c,_,rfl,hb,setRow_heap w g cur _ e (0,0) hg,O_,Wl,?_,?_⟩⟩
   ·have ua:cur.toList.length=c*E.sz:=by rw [Yh,cK]
    simp only [PA,dr,jo,gj,ua];rw [cK]at TG;omega
   ·simp only [Au,zi]
    have hle:i*E.sz<=cur.toList.length:=by
     rw [Yh,cK];exact eW _ O_
    rw [jL (by rw [jo];omega),Hv (by rw [jo];omega)];rw [<-E.Gy l i O_,<-ab6,List.take_take]
    congr 1
    have:i*E.sz<=l.length*E.sz:=eW _ O_;omega
  ·exact⟨rfl,rfl,rfl,S_,fun k _ hk=>setRow_other w g k _ hk⟩
end
def ak(q:IntKind):cr Int where
 enc x:=[.int q x]
 sz:=1
 len _:=rfl
 one x u hu:=by simp at hu;subst hu;rfl
 pos:=O_
section
variable{q:IntKind}{w w':World}{v:Value}{l:List Int}{e:TypeId}{base:Nat}
theorem Rd.ints (h:Rd (ak q) w v l):∃A c,v=X_ A l.length c/\l.length<=c/\(l≠[]->∃b off,A=some ⟨b,off,none⟩/\∀i x,l[i]? =some x->L_ w b (off+i) (.int q x)):=by
 obtain⟨A,c,rfl,hc,az⟩:=h;refine⟨A,c,rfl,hc,fun hl=>?_⟩;obtain⟨b,off,rfl,aF⟩:=az hl;refine⟨b,off,rfl,fun i x hx=>?_⟩;have:=aF i x hx 0 _ rfl;simpa [ak]using this
theorem Own.OC {A:Option Addr}{n c:Nat}(h:Own (ak q) e base w (X_ A n c) l) (hl:0<n):∃g,A=some ⟨g,0,none⟩:=by
 rcases h.2 with⟨h1,_⟩|⟨g,_,_,h1,_⟩
 ·injection h1 with _ h2;omega
 ·injection h1 with h2;exact⟨g,h2⟩
theorem kT(l:List Int):(ak q).cells l=l.map (Value.int q):=by
 unfold cr.cells
 induction l with
 |nil=>rfl
 |cons x l ih=>rw [wj,ih,nR];rfl
theorem Own.pZ {g n c:Nat}(h:Own (ak q) e base w (X_ (M_ g) n c) l) {k:Nat}{x:Int}(hx:l[k]? =some x):L_ w g k (.int q x):=by
 have:=Pe h (g:=g) rfl _ _ ((ak q).jU hx (j:=0) rfl);rw [kR,aH]at this;simpa [ak]using this
theorem Own.uF {g n c:Nat}(h:Own (ak q) e base w (X_ (M_ g) n c) l) (j:Nat):w.frozen? (C_ g j)=false:=by
 obtain⟨A,c',he,_⟩:=Own.form h;injection he with h1 h2 h3;subst h2;exact World.ownsRow.frozenAt h j
theorem Own.p_ {g n c:Nat}(h:Own (ak q) e base w (X_ (M_ g) n c) l) (k:Nat) (y:Int):Own (ak q) e base (w.setCell (C_ g k) (.int q y)) (X_ (M_ g) n c) (l.set k y):=by
 obtain⟨A,c',he,_⟩:=Own.form h;injection he with h1 h2 h3;subst h2;unfold Own at h⊢;have h2:=(h.stored k (.int q y)).1;rw [xj];rw [kT]at h2⊢;rw [List.map_set];exact h2
end
theorem Own.OE (q:IntKind) (e:TypeId) (base:Nat) (w:World) (hb:base<=w.heap.size):Own (ak q) e base (W_ w #[] e) (X_ (M_ w) 0 0) []:=by
 unfold Own;exact World.ownsRow_made w #[] 0 hb (Gv _) S_
theorem fZ{l:List Int}{k:Nat}{x:Int}(h:l[k]? =some x):l.take (k+1)=l.take k++[x]:=by
 have hk:=(List.getElem?_eq_some_iff.1 h).1;rw [wt hk,(List.getElem?_eq_some_iff.1 h).2]
theorem bY{α:Type}{E:cr α}{e:TypeId}{base:Nat}{w:World}{v:Value}{l:List α}(h:Own E e base w v l):∃A n c,v=X_ A n c:=by
 obtain⟨A,c,h,_⟩:=h.form;exact⟨A,_,c,h⟩
theorem cz{S T:Nat->Prop}{a b:World}(h:Fr S a b) (hT:∀i,S i->T i):Fr T a b:=h.mono fun i _=>hT i
theorem ae.to {S:Nat->Prop}{a b:World}(h:ae a b):Fr S a b:=h.mono fun _ _ h=>h.elim
theorem ae.two {S:Nat->Prop}{a b c:World}(h:ae a b) (k:Fr S b c) (hS:∀i,S i->a.heap.size<=i):ae a c:=Fr.trans' h k fun i hi hs=>by have:=hS i hs;omega
theorem Own.empty {α:Type}(E:cr α) (e:TypeId) (base:Nat) (w:World) (hb:base<=w.heap.size):Own E e base (W_ w #[] e) (X_ (M_ w) 0 0) []:=by
 unfold Own;exact World.ownsRow_made w #[] 0 hb (Gv _) S_
theorem OF{α:Type}(E:cr α) {w:World}{g:Nat}{t:TypeId}{cs:Array Value}(h:af w g t cs) (l:List α) (cK:cs.toList=E.cells l):Rd E w (X_ (M_ g) l.length l.length) l:=by
 refine⟨_,_,rfl,aA _,fun _=>⟨g,0,rfl,fun i x hx j u hu=>?_⟩⟩;rw [h.cell,aH,<-ab8,cK];exact E.jU hx hu
theorem enters(f:Nat) (fn:Func) (c:Code) (hf:prog.funcs[f]? =some fn) (hn:(fn.name== "runtime.NumGoroutine")=false) (hb:fn.body=some c) (args:Array Value) (w:World):(callFunc f args).run prog w=.ok (.enter f args) w:=by
 have h1:fn.name≠ "runtime.NumGoroutine" :=by simpa using hn
 simp [callFunc,hf,h1,hb]
section
variable{P:Program}{K:TypeId}{α:Type}[DecidableEq α]{E:el P K α}{w:World}{b:Nat}{l:List (α×Value)}
variable{ops:Array Oper}{rest:List Oper}{o:Oper}{a:Act}{Q:Exit->Act->World->Prop}
theorem aw(hg:o.guard=none) (m x v:Operand) (t e:TypeId) (Cw:o.op=Op.insert t m x v) (ht:P.underlying t=some (.map K e))
 (h:HasMap E w b l) (hn:l.length<maxLen) (k:α) (hk:E.ok k) (u:Value) (hm:a.eval m=.map (some b)) (hx:a.eval x=E.kv k) (hv:a.eval v=u)
 (hK:∀w',HasMap E w' b (put l k u)->One b w w'->wpList P ops Q rest (a.put o.dst undef) w'):wpList P ops Q (o::rest) a w:=by
 refine vg hg fun K' Ow=>?_;obtain⟨w',hr,h1,h2⟩:=h.mP ht hn hk u;unfold Oper.wp;simp [execOp,Cw,hm,hx,hv,hr,Result.andThen];exact Ow _ _ (hK w' h1 h2)
end
abbrev aL:el prog 3 Int:=intKeys underlying3
theorem uG{α:Type} [DecidableEq α] (l:List (α×Value)) (k:α) (v:Value):(put l k v).length<=l.length+1:=by
 unfold put del;rw [iU];have:=cR (fun p:α×Value=>decide (p.1≠k)) l;omega
theorem aj{α:Type} [DecidableEq α] {l:List (α×Value)}{n:Nat}{k:α}{v:Value}(h:l.length<=n):(put l k v).length<=n+1:=by
 have:=uG l k v;omega
theorem mQ{α:Type} [DecidableEq α] {l:List (α×Value)}{k:α}{v:Value}(h:l.length<=1000000):(put l k v).length<maxLen:=by
 have:=uG l k v;unfold maxLen;omega
theorem ab9:aL.ok 0:=by show(Lit.int .i64 0).wf=true;decide
theorem OG:aL.ok 1:=by show(Lit.int .i64 1).wf=true;decide
theorem ab_:aL.ok 2:=by show(Lit.int .i64 2).wf=true;decide
theorem OH(w:World):(zeroValue 409).run prog w=.ok .nilFunc w:=K_
theorem CO(a b:Int) (w:World):H_ 302 #[B_ a,B_ b] w fun e w'=>e=.returned (B_ b)/\w=w':=by
 go_enter func302,ntmps302
 go_wp2;go_ret;exact⟨rfl,rfl⟩
theorem TH(a b:Int) (w:World):H_ 303 #[B_ a,B_ b] w fun e w'=>e=.returned (B_ (bits .or .u8 a b))/\w=w':=by
 go_enter func303,ntmps303
 go_wp2;go_ret;exact⟨rfl,rfl⟩
theorem GB(a b:Int) (w:World):H_ 304 #[B_ a,B_ b] w fun e w'=>e=.returned (B_ (bits .andNot .u8 a b))/\w=w':=by
 go_enter func304,ntmps304
 go_wp2;go_ret;exact⟨rfl,rfl⟩
def fnL:List (Int×Value):=put (put (put [] 0 (.func (.func 302) #[] #[])) 1 (.func (.func 303) #[] #[])) 2 (.func (.func 304) #[] #[])
theorem TI(mode:Int):get fnL mode=if mode=0 then some (.func (.func 302) #[] #[])else if mode=1 then some (.func (.func 303) #[] #[])else if mode=2 then some (.func (.func 304) #[] #[])else none:=by
 unfold fnL;by_cases h2:mode=2
 ·subst h2;rw [bW];rfl
 ·rw [aE _ _ h2];by_cases h1:mode=1
  ·subst h1;rw [bW];rfl
  ·rw [aE _ _ h1];by_cases h0:mode=0
   ·subst h0;rw [bW];rfl
   ·rw [aE _ _ h0,if_neg h0,if_neg h1,if_neg h2];rfl
theorem rO(g:Nat) (x kM mode f:Int) (h1:kM<=31) (h2:f<=31) (hm:(Lit.int .i64 mode).wf=true) (hE:∀args w,(callFunc g args).run prog w=.ok (.enter g args) w)
 (TJ:∀w,H_ g #[B_ kM,B_ f] w fun e w'=>e=.returned (B_ x)/\w=w') (hg:get fnL mode=some (.func (.func g) #[] #[])) (w:World):
 H_ 248 #[B_ kM,I_ mode,B_ f] w fun e w'=>e=.returned (.tuple #[B_ x,R_ true])/\ae w w':=by
 have HM:=ac5 hm;have HG:=ac5 hg;have vD:=HasMap.made aL w;have uH:= @run_makeMap prog;have d1:decide (31<kM)=false:=aP O_;have d2:decide (31<f)=false:=aP O_;clear hm hg
 go_enter func248,ntmps248
 go_wp2_with (first
  |(refine aw (E:=aL) rfl _ _ _ 413 409 rfl underlying413 vD (by unfold maxLen;simp) 0 ab9 _ rfl rfl rfl ?_;intro w1 lU fV)
  |(refine aw (E:=aL) rfl _ _ _ 413 409 rfl underlying413 lU (mQ S_) 1 OG _ rfl rfl rfl ?_;intro w2 NL eY)
  |(refine aw (E:=aL) rfl _ _ _ 413 409 rfl underlying413 NL (mQ (gy (uG _ _ _) S_)) 2 ab_ _ rfl rfl rfl ?_;intro w3 JK fg
    have eN:(Instr.lookup 413 (.map (some w.heap.size)) (I_ mode) true).run prog w3=.ok (.tuple #[.func (.func g) #[] #[],R_ true]) w3:=by
     have Yi:HasMap aL w3 w.heap.size fnL:=JK;have h:=Yi.bD (t:=413) (e:=409) underlying413 (OH w3) HM.out;rw [HG.out]at h;exact h))
 refine(TJ _).mono ?_;rintro e w4 ⟨rfl,rfl⟩;go_wp2;go_ret2;have iP:ae w (w.alloc (.map #[] 0)):=(ae.refl w).alloc _;exact⟨rfl,ae.one (ae.one (ae.one iP fV (aA _)) eY (aA _)) fg (aA _)⟩
theorem Az(kM mode f:Int) (h1:kM<=31) (h2:f<=31) (hm:(Lit.int .i64 mode).wf=true) (hg:get fnL mode=none) (w:World):
 H_ 248 #[B_ kM,I_ mode,B_ f] w fun e w'=>e=.returned (.tuple #[B_ 0,R_ false])/\ae w w':=by
 have HM:=ac5 hm;have HG:=ac5 hg;have vD:=HasMap.made aL w;have uH:= @run_makeMap prog;have d1:decide (31<kM)=false:=aP O_;have d2:decide (31<f)=false:=aP O_;clear hm hg
 go_enter func248,ntmps248
 go_wp2_with (first
  |(refine aw (E:=aL) rfl _ _ _ 413 409 rfl underlying413 vD (by unfold maxLen;simp) 0 ab9 _ rfl rfl rfl ?_;intro w1 lU fV)
  |(refine aw (E:=aL) rfl _ _ _ 413 409 rfl underlying413 lU (mQ S_) 1 OG _ rfl rfl rfl ?_;intro w2 NL eY)
  |(refine aw (E:=aL) rfl _ _ _ 413 409 rfl underlying413 NL (mQ (gy (uG _ _ _) S_)) 2 ab_ _ rfl rfl rfl ?_;intro w3 JK fg
    have eN:(Instr.lookup 413 (.map (some w.heap.size)) (I_ mode) true).run prog w3=.ok (.tuple #[.nilFunc,R_ false]) w3:=by
     have Yi:HasMap aL w3 w.heap.size fnL:=JK;have h:=Yi.bD (t:=413) (e:=409) underlying413 (OH w3) HM.out;rw [HG.out]at h;exact h))
 go_ret2;have iP:ae w (w.alloc (.map #[] 0)):=(ae.refl w).alloc _;exact⟨rfl,ae.one (ae.one (ae.one iP fV (aA _)) eY (aA _)) fg (aA _)⟩
theorem GC(kM mode f:Int) (h:31<kM\/31<f) (w:World):
 H_ 248 #[B_ kM,I_ mode,B_ f] w fun e w'=>e=.returned (.tuple #[B_ 0,R_ false])/\ae w w':=by
 by_cases h1:31<kM
 ·clear h
  go_enter func248,ntmps248
  go_wp2;go_ret2;exact⟨rfl,ae.refl _⟩
 ·have h2:=h.resolve_left h1;clear h
  go_enter func248,ntmps248
  go_wp2;go_ret2;exact⟨rfl,ae.refl _⟩
theorem vE(kM mode f:Int) (ho:0<=kM/\kM<=255) (hf:0<=f/\f<=255) (hm:(Lit.int .i64 mode).wf=true) (w:World):
 H_ 248 #[B_ kM,I_ mode,B_ f] w fun e w'=>e=.returned (.tuple #[B_ ((JB kM mode f).getD 0),R_ (JB kM mode f).isSome])/\ae w w':=by
 by_cases h1:31<kM\/31<f
 ·rw [show JB kM mode f=none from if_pos h1];exact GC kM mode f h1 w
 ·have hg:=TI mode;have hc:JB kM mode f=if mode=0 then some f else if mode=1 then some (Ye kM f)else if mode=2 then some (vf kM f)else none:=if_neg h1;rw [hc];by_cases e0:mode=0
  ·rw [if_pos e0]at hg⊢;exact rO 302 f kM mode f O_ O_ hm (enters _ _ _ func302 K_ rfl) (CO kM f) hg w
  ·rw [if_neg e0]at hg⊢;by_cases e1:mode=1
   ·rw [if_pos e1]at hg⊢;exact rO 303 (Ye kM f) kM mode f O_ O_ hm (enters _ _ _ func303 K_ rfl) (by rw [<-Om ho.1 ho.2 hf.1 hf.2];exact TH kM f) hg w
   ·rw [if_neg e1]at hg⊢;by_cases e2:mode=2
    ·rw [if_pos e2]at hg⊢;exact rO 304 (vf kM f) kM mode f O_ O_ hm (enters _ _ _ func304 K_ rfl) (by rw [<-On ho.1 ho.2 hf.1 hf.2];exact GB kM f) hg w
    ·rw [if_neg e2]at hg⊢;exact Az kM mode f O_ O_ hm hg w
theorem gk{α:Type}{l:List α}{k:Nat}{x:α}(h:l[k]? =some x):l.take (k+1)=l.take k++[x]:=by
 have hk:=(List.getElem?_eq_some_iff.1 h).1;rw [wt hk,(List.getElem?_eq_some_iff.1 h).2]
theorem Own.some_ {α:Type}{E:cr α}{e:TypeId}{base:Nat}{w:World}{A:Option Addr}{n c:Nat}{l:List α}(h:Own E e base w (X_ A n c) l) (hl:0<n):∃g,A=some ⟨g,0,none⟩:=by
 rcases h.2 with⟨h1,_⟩|⟨g,_,_,h1,_⟩
 ·injection h1 with _ h2;omega
 ·injection h1 with h2;exact⟨g,h2⟩
theorem Own.dG {α:Type}{E:cr α}{e:TypeId}{base:Nat}{w:World}{g n c:Nat}{l:List α}(h:Own E e base w (X_ (M_ g) n c) l) {k:Nat}{x:α}(hx:l[k]? =some x) {j:Nat}{u:Value}(hu:(E.enc x)[j]? =some u):
 L_ w g (k*E.sz+j) u:=by
 have:=Pe h (g:=g) rfl _ _ (E.jU hx hu)
 rwa [kR,aH]at this
theorem Own.heap {α:Type}{E:cr α}{e:TypeId}{base:Nat}{w:World}{v:Value}{l:List α}(h:Own E e base w v l) {g:Nat}(hg:v.ownBlock=some g):∃cs,af w g e cs:=by
 rcases h.2 with⟨rfl,_⟩|⟨g',cap,cur,rfl,_,hh,_⟩
 ·cases hg
 ·cases hg;exact⟨cur,hh⟩
theorem jC{P:Program}{fn:Func}{p q:Tmp}{t u:TypeId}(h:fn.results= #[.cell p t,.cell q u]) (tmps:Array Value) (w:World) {a b:Addr}{v v':Value}
 (hp:tmps[p]? =some (.pointer (some a))) (hq:tmps[q]? =some (.pointer (some b))) (hv:(loadVar t a).run P w=.ok v w) (xR:(loadVar u b).run P w=.ok v' w):
 (results fn tmps).run P w=.ok (.tuple #[v,v']) w:=by
 simp [results,h,hp,hq,asAddr,hv,xR]
theorem cJ{P:Program}{t:TypeId}{d:TypeDesc}(hu:P.underlying t=some d) (hd:(match d with| .struct _| .array _ _=>true|_=>false)=false) {w:World}{a:Addr}{v:Value}(hc:w.cell? a=some v):(loadVar t a).run P w=.ok v w:=by
 have ahD:(isAgg t).run P w=.ok false w:=by
  unfold isAgg;rw [rN,BG hu w]
  cases d<;>simp_all
 simp [loadVar,rN,ahD,hc]
def ye(a b:Int):Array Value:= #[.int .u64 a,.int .u64 b,.int .u64 0,.int .u64 0]
def qc:List Int:=[40,41,123,37,42,34,92,93]
def vF(x:Int):Bool:=decide (32<x)&&decide (x<=126)&& !qc.contains x
def TK(x:Int):Bool:=x==93||(x !=43&&vF x)
def vG(x:Int):Bool:=x !=0&&decide (x<128)&&x !=13&&x !=10
theorem jV(x a b m:Int) (hx:x/64=0) (hm:IntKind.u64.wrap ((2:Int)^(x %64).toNat)=m) {w:World}{g:Nat}(hg:af w g 216 (ye a b)):
 H_ 119 #[Q_ g,B_ x] w fun e w'=>e=.returned (.tuple #[])/\af w' g 216 (ye (bits .or .u64 a m) b)/\One g w w':=by
 have c0:=hg.k0;have f0:=hg.frozen 0
 go_enter func119,ntmps119
 go_region;go_end0;exact⟨rfl,(hg.al 0 _).drew,((One.refl g w).set 0 _).drew⟩
theorem rP(x a b m:Int) (hx:x/64=1) (hm:IntKind.u64.wrap ((2:Int)^(x %64).toNat)=m) {w:World}{g:Nat}(hg:af w g 216 (ye a b)):
 H_ 119 #[Q_ g,B_ x] w fun e w'=>e=.returned (.tuple #[])/\af w' g 216 (ye a (bits .or .u64 b m))/\One g w w':=by
 have c1:=hg.k1;have f1:=hg.frozen 1
 go_enter func119,ntmps119
 go_region;go_end0;exact⟨rfl,(hg.al 1 _).drew,((One.refl g w).set 1 _).drew⟩
def Ys:Int:=1099511627776+2199023255552+137438953472+4398046511104+17179869184
def Yt:Int:=576460752303423488+268435456+536870912
def hasB(x:Int):Bool:=bits .and .u64 ((if x<64 then Ys else Yt)/2^(x %64).toNat) 1==1
theorem OL:∀n:Fin 128,hasB (n.val:Int)=qc.contains (n.val:Int):=by decide +kernel
theorem TM{x:Int}(h0:0<=x) (h1:x<128):hasB x=qc.contains x:=by
 have h:=OL ⟨x.toNat,O_⟩;have e:((x.toNat:Nat):Int)=x:=O_
 simpa only [e]using h
theorem TN(x:Int) (h0:0<=x) (h1:x<128) (w:World):H_ 120 #[.agg (ye Ys Yt),B_ x] w fun e w'=>e=.returned (R_ (qc.contains x))/\ae w w':=by
 rw [<-TM h0 h1];unfold ye hasB;by_cases h2:x<64
 ·have h:x/64=0:=O_
  rw [if_pos h2]
  go_enter func120,ntmps120
  go_wp2;go_ret;exact⟨rfl,(ae.refl w).alloc _⟩
 ·have h:x/64=1:=O_
  rw [if_neg h2]
  go_enter func120,ntmps120
  go_wp2;go_ret;exact⟨rfl,(ae.refl w).alloc _⟩
theorem vH(x:Int) (h0:0<=x) (w:World):H_ 85 #[B_ x] w fun e w'=>e=.returned (R_ (vF x))/\ae w w':=by
 have b0:af (W_ w (ye 0 0) 216) w 216 (ye 0 0):=af.new _ _ _;have n0:ae w (W_ w (ye 0 0) 216):=(ae.refl w).alloc _;obtain⟨r,hr⟩:∃r,r=vF x:=⟨_,rfl⟩;rw [<-hr];unfold vF at hr;have HR:=ac5 hr;clear hr
 go_enter func85,ntmps85
 go_wp2_with fail
 refine jD 9 ?_;rw [O0];go_wp2_with (go_at_call 119;refine(jV 40 _ _ 1099511627776 D_ D_ b0).mono ?_;rintro e w1 ⟨rfl,b1,o1⟩)
 rw [O0];go_wp2_with (go_at_call 119;refine(jV 41 _ _ 2199023255552 D_ D_ b1).mono ?_;rintro e w2 ⟨rfl,b2,o2⟩)
 rw [O0];go_wp2_with (go_at_call 119;refine(rP 123 _ _ 576460752303423488 D_ D_ b2).mono ?_;rintro e w3 ⟨rfl,b3,o3⟩)
 rw [O0];go_wp2_with (go_at_call 119;refine(jV 37 _ _ 137438953472 D_ D_ b3).mono ?_;rintro e w4 ⟨rfl,b4,o4⟩)
 rw [O0];go_wp2_with (go_at_call 119;refine(jV 42 _ _ 4398046511104 D_ D_ b4).mono ?_;rintro e w5 ⟨rfl,b5,o5⟩)
 rw [O0];go_wp2_with (go_at_call 119;refine(jV 34 _ _ 17179869184 D_ D_ b5).mono ?_;rintro e w6 ⟨rfl,b6,o6⟩)
 rw [O0];go_wp2_with (go_at_call 119;refine(rP 92 _ _ 268435456 D_ D_ b6).mono ?_;rintro e w7 ⟨rfl,b7,o7⟩)
 rw [O0];go_wp2_with (go_at_call 119;refine(rP 93 _ _ 536870912 D_ D_ b7).mono ?_;rintro e w8 ⟨rfl,b8,o8⟩)
 rw [O0];have n8:=((((((((n0.one o1 (aA _)).one o2 (aA _)).one o3 (aA _)).one o4 (aA _)).one o5 (aA _)).one o6 (aA _)).one o7 (aA _)).one o8 (aA _));have b9:af w8 w 216 (ye Ys Yt):=b8;clear b8 b7 b6 b5 b4 b3 b2 b1 b0 n0 o1 o2 o3 o4 o5 o6 o7 o8;have q0:=b9.k0;have q1:=b9.k1;have q2:=b9.k2;have q3:=b9.k3;by_cases h1:32<x
 ·by_cases h2:x<=126
  ·have hr:=HR.out;rw [k_ h1,k_ h2,tc,tc]at hr;subst hr;go_wp2_with (go_at_call 120;refine(TN x h0 O_ w8).mono ?_;rintro e w9 ⟨rfl,n9⟩)
   go_ret;exact⟨S_,n8.trans n9⟩
  ·have hr:=HR.out;rw [aP h2,JL,yW]at hr;subst hr;go_wp2;go_ret;exact⟨rfl,n8⟩
 ·have hr:=HR.out;rw [aP h1,yW,yW]at hr;subst hr;go_wp2;go_ret;exact⟨rfl,n8⟩
theorem TO(x:Int) (h0:0<=x) (w:World):H_ 62 #[B_ x] w fun e w'=>e=.returned (R_ (TK x))/\ae w w':=by
 unfold TK;by_cases h1:x=93
 ·subst h1
  go_enter func62,ntmps62
  go_wp2;go_ret;exact⟨rfl,ae.refl _⟩
 ·have e1:(x==93)=false:=by simp [h1]
  rw [e1,Bool.false_or];by_cases h2:x=43
  ·subst h2
   go_enter func62,ntmps62
   go_wp2;go_ret;exact⟨rfl,ae.refl _⟩
  ·have e2:(x !=43)=true:=by simp [h2]
   rw [e2,tc]
   go_enter func62,ntmps62
   go_wp2_with (go_at_call 85;refine(vH x h0 _).mono ?_;rintro e w1 ⟨rfl,n1⟩)
   go_ret;exact⟨rfl,n1⟩
theorem CW(x:Int) (w:World):H_ 410 #[B_ x] w fun e w'=>e=.returned (R_ (vG x))/\ae w w':=by
 unfold vG;by_cases h1:x=0
 ·subst h1
  go_enter func410,ntmps410
  go_wp2;go_ret;exact⟨rfl,ae.refl _⟩
 ·have e1:(x !=0)=true:=by simp [h1]
  by_cases h2:x<128
  ·by_cases h3:x=13
   ·subst h3
    go_enter func410,ntmps410
    go_wp2;go_ret;exact⟨rfl,ae.refl _⟩
   ·have e3:(x !=13)=true:=by simp [h3]
    rw [e1,e3,k_ h2,tc,tc,tc]
    go_enter func410,ntmps410
    go_wp2;go_ret;exact⟨rfl,ae.refl _⟩
  ·rw [e1,aP h2,tc,yW,yW]
   go_enter func410,ntmps410
   go_wp2;go_ret;exact⟨rfl,ae.refl _⟩
theorem af.bP {w:World}{g:Nat}{t:TypeId}{a0 a1:Value}(h:af w g t #[a0,a1]) (b0 b1:Value):af ((w.setCell (C_ g 0) b0).setCell (C_ g 1) b1) g t #[b0,b1]:=by
 have q:=((h.al 0 b0).al 1 b1);simpa using q
theorem One.bP (w:World) (g:Nat) (b0 b1:Value):One g w ((w.setCell (C_ g 0) b0).setCell (C_ g 1) b1):=(((One.refl g w).set 0 b0).set 1 b1)
theorem af.dQ {w:World}{g:Nat}{t:TypeId}{a0 a1:Value}(h:af w g t #[a0,a1]):L_ w g 0 a0/\L_ w g 1 a1:=
 ⟨h.cell 0,h.cell 1⟩
theorem af.rQ {w:World}{g:Nat}{t:TypeId}{a0 a1 a2 a3:Value}(h:af w g t #[a0,a1,a2,a3]):L_ w g 0 a0/\L_ w g 1 a1/\L_ w g 2 a2/\L_ w g 3 a3:=
 ⟨h.cell 0,h.cell 1,h.cell 2,h.cell 3⟩
theorem af.qe {w:World}{g:Nat}{t:TypeId}{a0 a1 a2 a3 a4 a5 a6 a7 a8:Value}(h:af w g t #[a0,a1,a2,a3,a4,a5,a6,a7,a8]) (b0 b1 b2 b3 b4 b5 b6 b7 b8:Value):af (((((((((w.setCell (C_ g 0) b0).setCell (C_ g 1) b1).setCell (C_ g 2) b2).setCell (C_ g 3) b3).setCell (C_ g 4) b4).setCell (C_ g 5) b5).setCell (C_ g 6) b6).setCell (C_ g 7) b7).setCell (C_ g 8) b8) g t #[b0,b1,b2,b3,b4,b5,b6,b7,b8]:=by
 have q:=(((((((((h.al 0 b0).al 1 b1).al 2 b2).al 3 b3).al 4 b4).al 5 b5).al 6 b6).al 7 b7).al 8 b8);simpa using q
theorem One.qe (w:World) (g:Nat) (b0 b1 b2 b3 b4 b5 b6 b7 b8:Value):One g w (((((((((w.setCell (C_ g 0) b0).setCell (C_ g 1) b1).setCell (C_ g 2) b2).setCell (C_ g 3) b3).setCell (C_ g 4) b4).setCell (C_ g 5) b5).setCell (C_ g 6) b6).setCell (C_ g 7) b7).setCell (C_ g 8) b8):=((((((((((One.refl g w).set 0 b0).set 1 b1).set 2 b2).set 3 b3).set 4 b4).set 5 b5).set 6 b6).set 7 b7).set 8 b8)
theorem af.nG {w:World}{g:Nat}{t:TypeId}{a0 a1 a2 a3 a4 a5 a6 a7 a8:Value}(h:af w g t #[a0,a1,a2,a3,a4,a5,a6,a7,a8]):L_ w g 0 a0/\L_ w g 1 a1/\L_ w g 2 a2/\L_ w g 3 a3/\L_ w g 4 a4/\L_ w g 5 a5/\L_ w g 6 a6/\L_ w g 7 a7/\L_ w g 8 a8:=
 ⟨h.cell 0,h.cell 1,h.cell 2,h.cell 3,h.cell 4,h.cell 5,h.cell 6,h.cell 7,h.cell 8⟩
theorem af.oP {w:World}{g:Nat}{t:TypeId}{a0 a1 a2 a3 a4 a5 a6 a7 a8 a9:Value}(h:af w g t #[a0,a1,a2,a3,a4,a5,a6,a7,a8,a9]) (b0 b1 b2 b3 b4 b5 b6 b7 b8 b9:Value):af ((((((((((w.setCell (C_ g 0) b0).setCell (C_ g 1) b1).setCell (C_ g 2) b2).setCell (C_ g 3) b3).setCell (C_ g 4) b4).setCell (C_ g 5) b5).setCell (C_ g 6) b6).setCell (C_ g 7) b7).setCell (C_ g 8) b8).setCell (C_ g 9) b9) g t #[b0,b1,b2,b3,b4,b5,b6,b7,b8,b9]:=by
 have q:=((((((((((h.al 0 b0).al 1 b1).al 2 b2).al 3 b3).al 4 b4).al 5 b5).al 6 b6).al 7 b7).al 8 b8).al 9 b9);simpa using q
theorem One.oP (w:World) (g:Nat) (b0 b1 b2 b3 b4 b5 b6 b7 b8 b9:Value):One g w ((((((((((w.setCell (C_ g 0) b0).setCell (C_ g 1) b1).setCell (C_ g 2) b2).setCell (C_ g 3) b3).setCell (C_ g 4) b4).setCell (C_ g 5) b5).setCell (C_ g 6) b6).setCell (C_ g 7) b7).setCell (C_ g 8) b8).setCell (C_ g 9) b9):=(((((((((((One.refl g w).set 0 b0).set 1 b1).set 2 b2).set 3 b3).set 4 b4).set 5 b5).set 6 b6).set 7 b7).set 8 b8).set 9 b9)
theorem af.d_ {w:World}{g:Nat}{t:TypeId}{a0 a1 a2 a3 a4 a5 a6 a7 a8 a9:Value}(h:af w g t #[a0,a1,a2,a3,a4,a5,a6,a7,a8,a9]):L_ w g 0 a0/\L_ w g 1 a1/\L_ w g 2 a2/\L_ w g 3 a3/\L_ w g 4 a4/\L_ w g 5 a5/\L_ w g 6 a6/\L_ w g 7 a7/\L_ w g 8 a8/\L_ w g 9 a9:=
 ⟨h.cell 0,h.cell 1,h.cell 2,h.cell 3,h.cell 4,h.cell 5,h.cell 6,h.cell 7,h.cell 8,h.cell 9⟩
theorem af.fh {w:World}{g:Nat}{t:TypeId}{a0 a1 a2 a3 a4 a5 a6 a7 a8 a9 GL SP a12 a13 a14 a15 a16 a17 a18:Value}(h:af w g t #[a0,a1,a2,a3,a4,a5,a6,a7,a8,a9,GL,SP,a12,a13,a14,a15,a16,a17,a18]):L_ w g 0 a0/\L_ w g 1 a1/\L_ w g 2 a2/\L_ w g 3 a3/\L_ w g 4 a4/\L_ w g 5 a5/\L_ w g 6 a6/\L_ w g 7 a7/\L_ w g 8 a8/\L_ w g 9 a9/\L_ w g 10 GL/\L_ w g 11 SP/\L_ w g 12 a12/\L_ w g 13 a13/\L_ w g 14 a14/\L_ w g 15 a15/\L_ w g 16 a16/\L_ w g 17 a17/\L_ w g 18 a18:=
 ⟨h.cell 0,h.cell 1,h.cell 2,h.cell 3,h.cell 4,h.cell 5,h.cell 6,h.cell 7,h.cell 8,h.cell 9,h.cell 10,h.cell 11,h.cell 12,h.cell 13,h.cell 14,h.cell 15,h.cell 16,h.cell 17,h.cell 18⟩
theorem af.dq {w:World}{g:Nat}{t:TypeId}{cs:Array Value}(h:af w g t cs):∀i,w.frozen? (C_ g i)=false:=h.frozen
structure MB where
 m:bU
 A:Option Addr
 n:Nat
 c:Nat
def MB.bv (x:MB):Value:=X_ x.A x.n x.c
def MB.val (x:MB):Value:=.agg #[U_ x.m.uid,B_ x.m.fl,X_ x.A x.n x.c]
theorem jl:(prog.info? 5).map (fun i=>(i.zero,i.size,i.bytes))=some (some (.int .u8 0),1,1):=K_
theorem mU(w:World):(zeroValue 238).run prog w=.ok (.agg #[U_ 0,B_ 0,Z_]) w:=K_
theorem eT(v:Value) (l:List Int) (w:World) (hv:Rd (ak .u8) w v l) (hl:l.length<=100000):
 H_ 75 #[v] w fun e w'=>∃o,e=.returned o/\Own (ak .u8) 5 w.heap.size w' o l/\ae w w':=by
 obtain⟨i0,hi,dw,cE,dy⟩:=wF jl;have h0:=Own.OE .u8 5 w.heap.size w (aA _);have HV:=ac5 hv;obtain⟨A,c,rfl,hc,az⟩:=hv;have hq:=fun n=>JZ (P:=prog) w 23 _ A n c 0 0 underlying23
 cases A with
 |none=>
  have hn:l=[]:=by
   cases l with
   |nil=>rfl
   |cons x l=>obtain⟨b,off,h,_⟩:=az S_;cases h
  clear az;subst hn;simp only [OO]at hq
  go_enter func75,ntmps75
  go_wp2;go_ret;exact⟨_,rfl,Own.nil _ _ _ _,ae.refl _⟩
 |some ad=>
  obtain⟨b,off,sp⟩:=ad;clear az;simp only [Ir]at hq
  go_enter func75,ntmps75
  go_wp2_with (at_builtin;refine aZ (E:=ak .u8) rfl _ _ _ rfl underlying23 hi dw cE dy rfl h0 rfl (HV.out.alloc _) rfl (by unfold maxLen;simp;omega) P_ S_ ?_;intro v1 w1 fE iE pM)
  have br:=ae.append ((ae.refl w).alloc _) h0 iE;rw [Qv]at fE;go_ret;exact⟨_,rfl,fE,br⟩
theorem vL(x:MB) (w:World) (hv:Rd (ak .u8) w x.bv x.m.body) (hl:x.m.body.length<=100000):
 H_ 240 #[x.val] w fun e w'=>∃y:MB,e=.returned y.val/\y.m=x.m/\Own (ak .u8) 5 w.heap.size w' y.bv y.m.body/\ae w w':=by
 obtain⟨⟨uid,fl,body⟩,A,n,c⟩:=x;simp only [MB.bv,MB.val]at hv hl⊢;have b1:af (W_ (W_ w #[U_ uid,B_ fl,X_ A n c] 238) #[U_ 0,B_ 0,Z_] 238) w 238 #[U_ uid,B_ fl,X_ A n c]:=(af.new _ _ _).alloc _;have b2:af (W_ (W_ w #[U_ uid,B_ fl,X_ A n c] 238) #[U_ 0,B_ 0,Z_] 238) (w.heap.size+1) 238 #[U_ 0,B_ 0,Z_]:=af.cD _ _ _ _;have br:ae w (W_ (W_ w #[U_ uid,B_ fl,X_ A n c] 238) #[U_ 0,B_ 0,Z_] 238):=((ae.refl w).alloc _).alloc _;have HV:=ac5 (hv.new br);clear hv
 go_enter func240,ntmps240
 go_wp2_with fail
 refine(eT _ body _ HV.out hl).mono ?_;rintro e w2 ⟨o,rfl,ho,iQ⟩;obtain⟨B,n',c',rfl⟩:=bY ho;have e1:=iQ.ai b1;have e2:=iQ.ai b2;have q0:=e1.k0;have q1:=e1.k1;have q2:=e1.k2;have f2:=e1.frozen 2;have p0:=e2.k0;have p1:=e2.k1;have p2:=e2.k2;have g0:=e2.frozen 0;have g1:=e2.frozen 1;have g2:=e2.frozen 2;go_wp2
 have e3:af ((((w2.setCell (C_ w 2) (X_ B n' c')).setCell (C_ (w.heap.size+1) 0) (U_ uid)).setCell (C_ (w.heap.size+1) 1) (B_ fl)).setCell (C_ (w.heap.size+1) 2) (X_ B n' c')) (w.heap.size+1) 238 #[U_ uid,B_ fl,X_ B n' c']:=
  (((e2.bL S_ _).al 0 _).al 1 _).al 2 _
 have fu:Fr (fun k=>k=w.heap.size\/k=w.heap.size+1) w2 ((((w2.setCell (C_ w 2) (X_ B n' c')).setCell (C_ (w.heap.size+1) 0) (U_ uid)).setCell (C_ (w.heap.size+1) 1) (B_ fl)).setCell (C_ (w.heap.size+1) 2) (X_ B n' c')):=
  ((((Fr.refl _ _).setCell (fun _=>.inl rfl) _).setCell (fun _=>.inr rfl) _).setCell (fun _=>.inr rfl) _).setCell (fun _=>.inr rfl) _
 refine r_ (results_cell_row rfl _ _ _ _ _ _ _ rfl e3 underlying238 rfl K_) rfl ?_;refine⟨⟨⟨uid,fl,body⟩,B,n',c'⟩,rfl,rfl,?_,ae.two (br.trans iQ) fu fun i hi=>by rcases hi with rfl|rfl<;>omega⟩;have fi:=fun b hb=>(ho.block (b:=b) hb).1;refine(ho.fr fu fun b hb hs=>?_).mono P_;have:=fi b hb;simp at this;rcases hs with rfl|rfl<;>omega
theorem aC{P:Program}{fn:Func}{p q:Tmp}{t:TypeId}(h:fn.results= #[.cell p t,.tmp q]) (tmps:Array Value) (w:World) {a:Addr}{v v':Value}
 (hp:tmps[p]? =some (.pointer (some a))) (hq:tmps[q]? =some v') (hv:(loadVar t a).run P w=.ok v w):(results fn tmps).run P w=.ok (.tuple #[v,v']) w:=by
 simp [results,h,hp,hq,asAddr,hv]
theorem fJ{w:World}{g:Nat}{a b:Value}(h:af w g 174 #[a,b]):(loadVar 174 (C_ g 0)).run prog w=.ok (.agg #[a,b]) w:=
 kV w g _ _ _ _ _ h underlying174 rfl K_
theorem vM(w:World):H_ 52 #[] w fun e w'=>e=.returned (Q_ w)/\w'=w.alloc (G_ #[Z_,I_ 0,I_ 0,I_ 0] 176):=by
 go_enter func52,ntmps52
 go_wp2;go_ret;exact⟨rfl,rfl⟩
theorem vN(p:Nat) (u:Value) (l:List Int) (w:World) (h:af w p 176 #[Z_,I_ 0,I_ 0,I_ 0]) (hu:Rd (ak .u8) w u l) (hl:l.length<=100000):
 H_ 53 #[Q_ p,u] w fun e w'=>e=.returned (.tuple #[])/\One p w w'/\∃v,af w' p 176 #[v,I_ 0,I_ 0,I_ 0]/\Own (ak .u8) 5 w.heap.size w' v l:=by
 obtain⟨i0,hi,dw,cE,dy⟩:=wF jl;have h0:=Own.nil (ak .u8) 5 w.heap.size w;have c0:=h.k0
 go_enter func53,ntmps53
 go_wp2_with (at_builtin;refine aZ (E:=ak .u8) rfl _ _ _ rfl underlying23 hi dw cE dy rfl h0 rfl hu rfl (by unfold maxLen;simp;omega) P_ O_ ?_;intro v1 w1 fE iE pM;have br:=ae.append (ae.refl w) h0 iE;have gN:=br.ai h;have c1:=gN.k0;have g1:=gN.frozen 0;obtain⟨A2,N2,C2,Yu⟩:=bY fE;subst Yu)
 rw [Qv]at fE;go_end0;refine⟨rfl,((ae.to br).trans ((One.refl p w1).set 0 _)),_,gN.al 0 _,fE.fr ((One.refl p w1).set 0 _) fun g hg e=>?_⟩;subst e;exact fE.ar gN D_ hg
theorem CZ(p:Nat) (A:Option Addr) (n c:Nat) (x y z:Value) (w:World) (h:af w p 176 #[X_ A n c,x,y,z]):H_ 77 #[Q_ p] w fun e w'=>e=.returned (I_ n)/\w'=w:=by
 have c0:=h.k0
 go_enter func77,ntmps77
 go_wp2;go_ret;exact⟨rfl,rfl⟩
theorem qf(p:Nat) (A:Option Addr) (n c:Nat) (hn:n<=100000) (w:World) (h:af w p 176 #[X_ A n c,I_ 0,I_ 0,I_ 0]):
 H_ 147 #[Q_ p] w fun e w'=>e=.returned (R_ true)/\One p w w'/\w'.heap.size=w.heap.size/\af w' p 176 #[X_ A n c,I_ 0,I_ 0,I_ 0]:=by
 have c0:=h.k0;have c1:=h.k1;have c2:=h.k2;have c3:=h.k3;have f1:=h.frozen 1;have f2:=h.frozen 2;have f3:=h.frozen 3;have pN:IntKind.i64.wrap ((n:Int)-0)=n:=by rw [aM _ O_];omega
 have cU:¬(n:Int)<0:=O_
 go_enter func147,ntmps147
 go_wp2_with (first|go_region|fail)
 go_ret;exact⟨rfl,((((One.refl p w).set 1 _).set 2 _).set 3 _).drew.drew,by simp [World.setCell,World.drew],((h.al 1 _).al 2 _).al 3 _⟩
def Gb(v:Value):Prop:=∃A c,v=X_ A 0 c
theorem Gb.rd {v:Value}(h:Gb v) (w:World):Rd (ak .u8) w v []:=by
 obtain⟨A,c,rfl⟩:=h;exact⟨A,c,rfl,Gv _,fun h=>absurd rfl h⟩
theorem GM(p:Nat) (k:Int) (u:Value) (l:List Int) (b off n c:Nat) (_hn:n<=100000) (ya:n<=c) (x y z:Value) (w:World) (h:af w p 176 #[X_ (some ⟨b,off,none⟩) n c,x,y,z]) (hu:Rd (ak .u8) w u l) (hl:l.length<=100000) (apt:u.ownBlock≠some p):
 H_ 150 #[Q_ p,I_ k,u,I_ n] w fun e w'=>∃d v,e=.returned (.tuple #[.agg #[I_ k,d],R_ true])/\One p w w'/\Own (ak .u8) 5 w.heap.size w' d l/\
  Gb v/\af w' p 176 #[v,I_ 0,I_ 0,I_ 0]:=by
 have bJ:=h.lt;have n0:=(ae.refl w).alloc (G_ #[I_ 0,Z_] 174)
 go_enter func150,ntmps150
 go_wp2_with fail
 refine(eT u l _ (hu.new n0) hl).mono ?_;rintro e w1 ⟨d,rfl,hd,m1⟩;have n1:=n0.trans m1;have h1:=ae.ai n1 h;have c0:=h1.k0;have r0:=m1.ai (af.new _ _ _);obtain⟨A1,C1,rfl,hC1⟩:=hd.form;have l1:=h1.lt;have hB:af (W_ w1 #[I_ k,X_ A1 l.length C1] 174) p 176 #[X_ (some ⟨b,off,none⟩) n c,x,y,z]:=h1.alloc _;have rB:af (W_ w1 #[I_ k,X_ A1 l.length C1] 174) w 174 #[I_ 0,Z_]:=r0.alloc _;have gB:af (W_ w1 #[I_ k,X_ A1 l.length C1] 174) w1 174 #[I_ k,X_ A1 l.length C1]:=af.new _ _ _;have nB:ae w (W_ w1 #[I_ k,X_ A1 l.length C1] 174):=n1.alloc _;have dB:=hd.alloc (G_ #[I_ k,X_ A1 l.length C1] 174);have sB:(w1.alloc (G_ #[I_ k,X_ A1 l.length C1] 174)).heap.size=w1.heap.size+1:=by rw [gz]
 have HN:=ac5 ya;clear ya
 obtain⟨A2,jE⟩:∃A2,∀W,(Instr.sliceAt 23 (X_ (some ⟨b,off,none⟩) n c) (some (I_ (n:Int))) none none).run prog W=.ok (X_ A2 0 (c-n)) W:=by
  rcases Nat.eq_or_lt_of_le HN.out with h|h
  ·subst h
   exact⟨some ⟨b,off,none⟩,fun W=>by
    rw [rZ (P:=prog) W _ _ _ _ _ underlying23]
    go_simp⟩
  ·exact⟨some ⟨b,off+n,none⟩,fun W=>by
    rw [rZ (P:=prog) W _ _ _ _ _ underlying23]
    go_simp
    omega⟩
 go_wp2_with fail
 refine(eT _ [] _ (Gb.rd ⟨_,_,rfl⟩ _) S_).mono ?_;rintro e w2 ⟨v,rfl,hv,m2⟩;obtain⟨A3,C3,rfl,hC3⟩:=hv.form;have n2:=nB.trans m2;have h2:=m2.ai hB;have r2:=m2.ai rB;have g2:=m2.ai gB;have d2:=dB.new m2;have c20:=h2.k0;have c21:=h2.k1;have c22:=h2.k2;have c23:=h2.k3;have f20:=h2.frozen 0;have f21:=h2.frozen 1;have f22:=h2.frozen 2;have f23:=h2.frozen 3;have g20:=g2.k0;have g21:=g2.k1;have r20:=r2.k0;have r21:=r2.k1;have z20:=r2.frozen 0;have z21:=r2.frozen 1;go_wp2_with fail
 have bV:p≠w.heap.size:=O_
 have hR:=(((((r2.bL (p:=⟨p,0,none⟩) (iX bV) (X_ A3 0 C3)).bL (p:=⟨p,1,none⟩) (iX bV) (I_ 0)).bL (p:=⟨p,2,none⟩) (iX bV) (I_ 0)).bL (p:=⟨p,3,none⟩) (iX bV) (I_ 0)).al 0 (I_ k)).al 1 (X_ A1 l.length C1);have hP:=(((((h2.al 0 (X_ A3 0 C3)).al 1 (I_ 0)).al 2 (I_ 0)).al 3 (I_ 0)).bL (p:=⟨w.heap.size,0,none⟩) bV (I_ k)).bL (p:=⟨w.heap.size,1,none⟩) bV (X_ A1 l.length C1);have hF:=((((((One.refl p w2).set 0 (X_ A3 0 C3)).set 1 (I_ 0)).set 2 (I_ 0)).set 3 (I_ 0)));have hO:One p w _:=Fr.setCell (Fr.setCell ((ae.to n2).trans hF) (p:=⟨w.heap.size,0,none⟩) (fun h=>absurd h (bh _)) (I_ k)) (p:=⟨w.heap.size,1,none⟩) (fun h=>absurd h (bh _)) (X_ A1 l.length C1);refine r_ (aC rfl _ _ rfl rfl (fJ hR)) rfl ⟨_,_,rfl,hO,?_,⟨_,_,rfl⟩,hP⟩;have hQ:Fr (fun k=>k=p\/k=w.heap.size) w2 _:=Fr.setCell (Fr.setCell (cz hF fun _ h=>.inl h) (p:=⟨w.heap.size,0,none⟩) (fun _=>.inr rfl) (I_ k)) (p:=⟨w.heap.size,1,none⟩) (fun _=>.inr rfl) (X_ A1 l.length C1);refine(d2.mono (b':=w.heap.size) (by rw [gz];omega)).fr hQ fun g hg hh=>?_;have:=(d2.block hg).1;rw [gz]at this;omega
structure cV where
 k:Int
 n:Int
 t:ByteArray
 st:Int
 x:ByteArray
 it:Int
 fl:Int
 uid:Int
 sz:Int
 A:Option Addr
 bn:Nat
 bc:Nat
def cV.val (r:cV):Value:=.agg #[I_ r.k,U_ r.n,T_ r.t,I_ r.st,T_ r.x,I_ r.it,B_ r.fl,U_ r.uid,U_ r.sz,X_ r.A r.bn r.bc]
def cG:cr cV where
 enc r:=[I_ r.k,U_ r.n,T_ r.t,I_ r.st,T_ r.x,I_ r.it,B_ r.fl,U_ r.uid,U_ r.sz,X_ r.A r.bn r.bc]
 sz:=10
 len _:=rfl
 one x u hu:=by simp at hu;rcases hu with rfl|rfl|rfl|rfl|rfl|rfl|rfl|rfl|rfl|rfl<;>rfl
 pos:=O_
theorem qk:(prog.info? 53).map (fun i=>(i.zero,i.size,i.bytes))=some (some (.agg #[.int .i64 0,.int .u32 0,.string ⟨#[]⟩,.int .i64 0,.string ⟨#[]⟩,.int .i64 0,.int .u8 0,.int .u32 0,.int .u32 0,.slice none 0 0]),10,104):=K_
abbrev l_(t:ByteArray) (st:Int) (x:ByteArray):cV:=⟨9,0,t,st,x,0,0,0,0,none,0,0⟩
section
variable{P:Program}{α:Type}{E:cr α}{e:TypeId}{base:Nat}{w:World}{v:Value}{l:List α}
variable{ops:Array Oper}{rest:List Oper}{o:Oper}{a:Act}{Q:Exit->Act->World->Prop}{K:Act->World->Prop}
theorem eI{F:Prop}(Lh:o.guard=none) (s x:Operand) (t:TypeId) (ho:o.op=.call {callee:=.builtin .append,args:= #[s,x],argTypes:= #[t,t]})
 {i:TypeInfo}{z:Value}{bytes:Nat}(ht:P.underlying t=some (.slice e)) (hi:P.info? e=some i) (hz:i.zero=some z)
 (ik:i.size=E.sz) (Gw:i.bytes=bytes) (Oz:z.cells.size=E.sz)
 (hs:a.eval s=v) {u:Value}(hx:a.eval x=u) (m:List α) (h:Own E e base w v l) (hu:Rd E w u m)
 (TF:l.length+m.length<=maxLen) (kS:(l.length+m.length)*bytes<=140737488355328) (dH:base<=w.heap.size)
 (hK:∀A c w',Own E e base w' (X_ A (l++m).length c) (l++m)->Fr (fun k=>v.ownBlock=some k) w w'->(Value.ownBlock (X_ A (l++m).length c)=v.ownBlock\/Value.ownBlock (X_ A (l++m).length c)=some w.heap.size)->K (a.put o.dst (X_ A (l++m).length c)) w'):
 if Region.wanted o (yielded ops a.tmps)=true then Oper.wp P o a w K Q else F:=by
 have hw:Region.wanted o (yielded ops a.tmps)=true:=by simp [Region.wanted,Lh]
 rw [if_pos hw];obtain⟨v',w',hr,h1,h2,h3⟩:=iC (P:=P) t o.type ht hi hz ik Gw Oz h hu TF kS dH;obtain⟨A,c,rfl,_⟩:=h1.form;unfold Oper.wp execOp;simp only [ho,resolve,invoke,builtin,rN,jK,oM,Hx,nR,Kf,hs,hx,hr];exact hK A c w' h1 h2 h3
end
theorem Rd.take {α:Type}{E:cr α}{w:World}{A:Option Addr}{n c:Nat}{l:List α}(h:Rd E w (X_ A n c) l) {k:Nat}(hk:k<=l.length):Rd E w (X_ A k c) (l.take k):=by
 obtain⟨A',c',he,hc,az⟩:=h
 cases he
 have hl:(l.take k).length=k:=by rw [jo];omega
 refine⟨A,c,by rw [hl],O_,fun bV=>?_⟩;obtain⟨b,off,rfl,aF⟩:=az (by rintro rfl;simp at bV);refine⟨b,off,rfl,fun i x hx j u hu=>aF i x ?_ j u hu⟩;have hi:i<k:=by have:=(List.getElem?_eq_some_iff.1 hx).1;omega
 rwa [ab7 hi]at hx
theorem Rd.drop {α:Type}{E:cr α}{w:World}{b off n c:Nat}{l:List α}(h:Rd E w (X_ (some ⟨b,off,none⟩) n c) l) {k:Nat}(hk:k<=l.length) (c':Nat) (rH:l.length-k<=c'):Rd E w (X_ (some ⟨b,off+k*E.sz,none⟩) (n-k) c') (l.drop k):=by
 obtain⟨A',c0,he,hc,az⟩:=h
 cases he
 have hl:(l.drop k).length=l.length-k:=gj;refine⟨_,c',by rw [hl],O_,fun bV=>?_⟩;obtain⟨b',ug,he,aF⟩:=az (by rintro rfl;simp at bV)
 cases he
 refine⟨_,_,rfl,fun i x hx j u hu=>?_⟩;rw [aR]at hx;have:=aF (k+i) x hx j u hu;rw [rT]at this
 rwa [show off+k*E.sz+(i*E.sz+j)=off+(k*E.sz+i*E.sz+j) by omega]
section
open Go.RowKit Go.Sort
def bj(te:TypeId) (base:Nat) (w:World) (g c:Nat) (d:Array Int):Prop:=Own (ak .u32) te base w (X_ (M_ g) d.size c) d.toList
section
variable{te:TypeId}{base g c:Nat}{w w':World}{d:Array Int}
theorem bj.cell (h:bj te base w g c d) {t:Nat}(ht:t<d.size):L_ w g t (.int .u32 d[t]!):=by
 refine Own.pZ h ?_;rw [ab8,adV ht,oU d t ht]
theorem bj.frozen (h:bj te base w g c d) (t:Nat):w.frozen? (C_ g t)=false:=Own.uF h t
theorem bj.fr {S:Nat->Prop}(h:bj te base w g c d) (hf:Fr S w w') (hS:¬S g):bj te base w' g c d:=Own.fr h hf fun b hb=>by cases hb;exact hS
theorem bj.drewN (h:bj te base w g c d) (n:Nat):bj te base (w.drewN n) g c d:=h
theorem bj.new (h:bj te base w g c d) (hf:ae w w'):bj te base w' g c d:=h.fr hf id
theorem bj.lt (h:bj te base w g c d):g<w.heap.size:=(Own.block h rfl).2
theorem bj.swap (h:bj te base w g c d) (i j:Nat):
 bj te base ((w.setCell (C_ g i) (.int .u32 d[j]!)).setCell (C_ g j) (.int .u32 d[i]!)) g c (swp d i j):=by
 have h1:=(Own.p_ (Own.p_ h i d[j]!) j d[i]!);unfold bj swp;have:((d.setIfInBounds i d[j]!).setIfInBounds j d[i]!).toList=(d.toList.set i d[j]!).set j d[i]! :=S_
 rw [this];simpa using h1
end
theorem bj.one {te:TypeId}{base g c:Nat}{w:World}{d:Array Int}(h:bj te base w g c d) (i:Nat) (v:Int):bj te base (w.setCell (C_ g i) (U_ v)) g c (d.setIfInBounds i v):=by
 have h1:=Own.p_ h i v;unfold bj;rw [adW,adX];exact h1
theorem bj.iJ {te:TypeId}{base g c:Nat}{w:World}{d:Array Int}(h:bj te base w g c d) (i j:Nat):bj te base ((w.setCell (C_ g i) (.int .u32 d[j]!)).setCell (C_ g j) (.int .u32 d[i]!)).drew g c (swp d i j):=h.swap i j
theorem One.iJ {g:Nat}{a w:World}(h:One g a w) (i j:Nat) (u v:Value):One g a ((w.setCell (C_ g i) u).setCell (C_ g j) v).drew:=Fr.drew (One.set (One.set h i u) j v)
theorem bj.again {te:TypeId}{base g c:Nat}{w:World}{d:Array Int}(h:bj te base w g c d) (i j:Nat) (v:Int) (hj:j<d.size):∃z,L_ (w.setCell (C_ g i) (U_ v)) g j z:=
 ⟨_,(h.one i v).cell (by rw [adX];exact hj)⟩
theorem One.two {g:Nat}{a w:World}(h:One g a w) (n i j:Nat) (u v:Value):One g a (((w.drewN n).setCell (C_ g i) u).setCell (C_ g j) v):=One.set (One.set (Fr.drewN h n) i u) j v
theorem bj.two {te:TypeId}{base g c:Nat}{w:World}{d:Array Int}(h:bj te base w g c d) (n i j:Nat):bj te base (((w.drewN n).setCell (C_ g i) (.int .u32 d[j]!)).setCell (C_ g j) (.int .u32 d[i]!)) g c (swp d i j):=by
 have h1:=(h.drewN n).swap i j;exact h1
theorem swp_size(d:Array Int) (i j:Nat):(swp d i j).size=d.size:=by simp [swp]
section
variable{lt:Int->Int->Bool}
theorem BD(a j:Nat) (d:Array Int) (hj:a<j) (hl:lt d[j]! d[j-1]! =true):insInner lt a j d=insInner lt a (j-1) (swp d j (j-1)):=by
 obtain⟨k,rfl⟩:∃k,j=k+1:=⟨j-1,O_⟩
 conv=>lhs;unfold insInner
 simp only [aaH]at hl⊢;rw [hl,k_ (by omega:k+1>a)];rfl
theorem mE(a j:Nat) (d:Array Int) (h:j<=a\/lt d[j]! d[j-1]! =false):insInner lt a j d=d:=by
 cases j with
 |zero=>rfl
 |succ k=>
  unfold insInner;simp only [aaH]at h;rcases h with h|h
  ·rw [aP O_];rfl
  ·rw [h,JL];rfl
theorem BE(a b i:Nat) (d:Array Int) (h:i<b):insOuter lt a b i d=insOuter lt a b (i+1) (insInner lt a i d):=by rw [insOuter,if_pos h]
theorem wW(a b i:Nat) (d:Array Int) (h:¬i<b):insOuter lt a b i d=d:=by rw [insOuter,if_neg h]
end
end
end Go.Proofs.YtliimglbbiebiaaGreatDoor
