import Derived.Test.YtliimglbbiebiaaGreatDoorGTopTimeAF
set_option maxRecDepth 100000
set_option maxHeartbeats 6400000
set_option linter.all false
namespace Go.Proofs.YtliimglbbiebiaaGreatDoor
open Go.Proofs.Tryz Go.RowKit Go.Maps
abbrev rC(k n:Int) (t:ByteArray) (st:Int) (x:ByteArray) (it fl uid sz:Int) (b:Value):Array Value:= #[I_ k,U_ n,T_ t,I_ st,T_ x,I_ it,B_ fl,U_ uid,U_ sz,b]
section
variable{k n:Int}{t:ByteArray}{st:Int}{x:ByteArray}{it fl uid sz:Int}{b:Value}{w:World}{g:Nat}
variable(k' n':Int)(t':ByteArray)(DG:Int)(x':ByteArray)(DH km eB mY:Int)(b':Value)
theorem zy(h:af w g 53 (rC k n t st x it fl uid sz b)):
 H_ 251 #[Q_ g,rV k' n' t' DG x' DH km eB mY b'] w fun e w'=>e=.returned (.tuple #[])/\af w' g 53 (rC k n t st x it km uid sz b)/\One g w w':=by
 have c6:=h.k6;have f6:=h.frozen 6;have bJ:=h.lt;have c6':∀o,L_ (w.alloc o) g 6 (B_ fl):=fun o=>(h.alloc o).cell 6;have f6':∀o,(w.alloc o).frozen? (C_ g 6)=false:=fun o=>(h.alloc o).frozen 6
 go_enter func251,ntmps251
 go_wp2;go_end0;exact⟨rfl,(h.al 6 _).alloc _,Fr.alloc (One.set (One.refl g w) 6 _) _⟩
theorem zA(h:af w g 53 (rC k n t st x it fl uid sz b)):
 H_ 253 #[Q_ g,rV k' n' t' DG x' DH km eB mY b'] w fun e w'=>e=.returned (.tuple #[])/\af w' g 53 (rC k n t st x it fl eB sz b)/\One g w w':=by
 have c6:=h.k7;have f6:=h.frozen 7;have bJ:=h.lt;have c6':∀o,L_ (w.alloc o) g 7 (U_ uid):=fun o=>(h.alloc o).cell 7;have f6':∀o,(w.alloc o).frozen? (C_ g 7)=false:=fun o=>(h.alloc o).frozen 7
 go_enter func253,ntmps253
 go_wp2;go_end0;exact⟨rfl,(h.al 7 _).alloc _,Fr.alloc (One.set (One.refl g w) 7 _) _⟩
theorem zB(h:af w g 53 (rC k n t st x it fl uid sz b)):
 H_ 255 #[Q_ g,rV k' n' t' DG x' DH km eB mY b'] w fun e w'=>e=.returned (.tuple #[])/\af w' g 53 (rC k n t st x it fl uid mY b)/\One g w w':=by
 have c6:=h.k8;have f6:=h.frozen 8;have bJ:=h.lt;have c6':∀o,L_ (w.alloc o) g 8 (U_ sz):=fun o=>(h.alloc o).cell 8;have f6':∀o,(w.alloc o).frozen? (C_ g 8)=false:=fun o=>(h.alloc o).frozen 8
 go_enter func255,ntmps255
 go_wp2;go_end0;exact⟨rfl,(h.al 8 _).alloc _,Fr.alloc (One.set (One.refl g w) 8 _) _⟩
theorem zC(A B:Option Addr) (nn cc mm dd:Nat) (h:af w g 53 (rC k n t st x it fl uid sz (X_ A nn cc))):
 H_ 258 #[Q_ g,rV k' n' t' DG x' DH km eB mY (X_ B mm dd)] w fun e w'=>e=.returned (.tuple #[])/\af w' g 53 (rC k n t st x it fl uid sz (X_ B mm dd))/\One g w w':=by
 have c6:=h.k9;have f6:=h.frozen 9;have bJ:=h.lt;have c6':∀o,L_ (w.alloc o) g 9 (X_ A nn cc):=fun o=>(h.alloc o).cell 9;have f6':∀o,(w.alloc o).frozen? (C_ g 9)=false:=fun o=>(h.alloc o).frozen 9
 go_enter func258,ntmps258
 go_wp2;go_end0;exact⟨rfl,(h.al 9 _).alloc _,Fr.alloc (One.set (One.refl g w) 9 _) _⟩
end
abbrev pF(f:Nat):Value:=.func (.func f) #[] #[]
def pd:Array Value:= #[I_ 1,pF 249,pF 251,I_ 2,pF 252,pF 253,I_ 4,pF 254,pF 255,I_ 16,pF 256,pF 258]
theorem sh(w:World):H_ 198 #[] w fun e w'=>e=.returned (X_ (M_ w) 4 4)/\w'=w.alloc (G_ pd 298):=by
 go_enter func198,ntmps198
 go_wp2;go_ret;exact⟨rfl,rfl⟩
def zD(a1 a2 a3 a4:Bool):Int:=(if a1 then 1 else 0)+(if a2 then 2 else 0)+(if a3 then 4 else 0)+(if a4 then 16 else 0)
theorem Uj:bits .or .i64 (zD false false false false) 1=zD true false false false:=D_
theorem Uk(a:Bool):bits .or .i64 (zD a false false false) 2=zD a true false false:=by cases a<;>decide
theorem Ul(a b:Bool):bits .or .i64 (zD a b false false) 4=zD a b true false:=by cases a<;>cases b<;>decide
theorem Um(a b c:Bool):bits .or .i64 (zD a b c false) 16=zD a b c true:=by cases a<;>cases b<;>cases c<;>decide
theorem J0(a b c d:Bool):bits .and .i64 (zD a b c d) 2≠0->b=true:=by cases a<;>cases b<;>cases c<;>cases d<;>decide
theorem YI(a b c d:Bool):0<=zD a b c d/\zD a b c d<=23:=by cases a<;>cases b<;>cases c<;>cases d<;>decide
theorem cell_far{w:World}{g g' j j':Nat}{u v:Value}(h:L_ w g j v) (bV:g'≠g):L_ (w.setCell (C_ g' j') u) g j v:=
 (OW _ _ _ _ (fun e=>bV (Addr.mk.inj e).1)).trans h
theorem LK{w:World}{a:Addr}{v:Value}(h:w.cell? a=some v):w.drew.cell? a=some v:=h
theorem Hc{w:World}{a:Addr}{v:Value}{o:Obj}(h:w.cell? a=some v):(w.alloc o).cell? a=some v:=by
 have:=jG (w:=w) (w':=w.alloc o) (a:=a) (JA w o a.block (jH w _ h));exact this.trans h
theorem fH{w:World}{g:Nat}{t:TypeId}{a0 a1 a2 a3 a4 a5 a6 a7 a8 a9:Value}(h:af w g t #[a0,a1,a2,a3,a4,a5,a6,a7,a8,a9]):
 (L_ w g 0 a0/\w.frozen? (C_ g 0)=false)/\(L_ w g 1 a1/\w.frozen? (C_ g 1)=false)/\(L_ w g 2 a2/\w.frozen? (C_ g 2)=false)/\(L_ w g 3 a3/\w.frozen? (C_ g 3)=false)/\(L_ w g 4 a4/\w.frozen? (C_ g 4)=false)/\(L_ w g 5 a5/\w.frozen? (C_ g 5)=false)/\(L_ w g 6 a6/\w.frozen? (C_ g 6)=false)/\(L_ w g 7 a7/\w.frozen? (C_ g 7)=false)/\(L_ w g 8 a8/\w.frozen? (C_ g 8)=false)/\(L_ w g 9 a9/\w.frozen? (C_ g 9)=false):=
 ⟨⟨h.cell 0,h.frozen 0⟩,⟨h.cell 1,h.frozen 1⟩,⟨h.cell 2,h.frozen 2⟩,⟨h.cell 3,h.frozen 3⟩,⟨h.cell 4,h.frozen 4⟩,⟨h.cell 5,h.frozen 5⟩,⟨h.cell 6,h.frozen 6⟩,⟨h.cell 7,h.frozen 7⟩,⟨h.cell 8,h.frozen 8⟩,⟨h.cell 9,h.frozen 9⟩⟩
structure bF(B:Nat) (w:World) (r:cV):Prop where
 kk:1<=r.k/\r.k<=10
 n0:0<=r.n/\r.n<=4294967295
 t0:r.t.size<=10000
 x0:r.x.size<=10000
 WJ:0<=r.st/\r.st<=2
 it0:0<=r.it/\r.it<=31
 fl0:0<=r.fl/\r.fl<=255
 LL:0<=r.uid/\r.uid<=4294967295
 sz0:0<=r.sz/\r.sz<=4294967295
 body:∃bl,Own (ak .u8) 5 B w (X_ r.A r.bn r.bc) bl/\bl.length<=65536
theorem lJ{w:World}{g:Nat}(v0 v1 v2 v3 v4 v5 v6 v7 v8 v9:Value):One g w ((((((((((w.setCell (C_ g 0) v0).setCell (C_ g 1) v1).setCell (C_ g 2) v2).setCell (C_ g 3) v3).setCell (C_ g 4) v4).setCell (C_ g 5) v5).setCell (C_ g 6) v6).setCell (C_ g 7) v7).setCell (C_ g 8) v8).setCell (C_ g 9) v9):=One.set (One.set (One.set (One.set (One.set (One.set (One.set (One.set (One.set (One.set (One.refl g w) 0 _) 1 _) 2 _) 3 _) 4 _) 5 _) 6 _) 7 _) 8 _) 9 _
theorem kn{w:World}{g:Nat}{t:TypeId}{a0 a1 a2 a3 a4 a5 a6 a7 a8 a9:Value}(h:af w g t #[a0,a1,a2,a3,a4,a5,a6,a7,a8,a9]) (v0 v1 v2 v3 v4 v5 v6 v7 v8 v9:Value):af ((((((((((w.setCell (C_ g 0) v0).setCell (C_ g 1) v1).setCell (C_ g 2) v2).setCell (C_ g 3) v3).setCell (C_ g 4) v4).setCell (C_ g 5) v5).setCell (C_ g 6) v6).setCell (C_ g 7) v7).setCell (C_ g 8) v8).setCell (C_ g 9) v9) g t #[v0,v1,v2,v3,v4,v5,v6,v7,v8,v9]:=by
 have h0:af (w.setCell (C_ g 0) v0) g t #[v0,a1,a2,a3,a4,a5,a6,a7,a8,a9]:=h.al 0 _;have h1:af ((w.setCell (C_ g 0) v0).setCell (C_ g 1) v1) g t #[v0,v1,a2,a3,a4,a5,a6,a7,a8,a9]:=h0.al 1 _;have h2:af (((w.setCell (C_ g 0) v0).setCell (C_ g 1) v1).setCell (C_ g 2) v2) g t #[v0,v1,v2,a3,a4,a5,a6,a7,a8,a9]:=h1.al 2 _;have h3:af ((((w.setCell (C_ g 0) v0).setCell (C_ g 1) v1).setCell (C_ g 2) v2).setCell (C_ g 3) v3) g t #[v0,v1,v2,v3,a4,a5,a6,a7,a8,a9]:=h2.al 3 _;have h4:af (((((w.setCell (C_ g 0) v0).setCell (C_ g 1) v1).setCell (C_ g 2) v2).setCell (C_ g 3) v3).setCell (C_ g 4) v4) g t #[v0,v1,v2,v3,v4,a5,a6,a7,a8,a9]:=h3.al 4 _;have h5:af ((((((w.setCell (C_ g 0) v0).setCell (C_ g 1) v1).setCell (C_ g 2) v2).setCell (C_ g 3) v3).setCell (C_ g 4) v4).setCell (C_ g 5) v5) g t #[v0,v1,v2,v3,v4,v5,a6,a7,a8,a9]:=h4.al 5 _;have h6:af (((((((w.setCell (C_ g 0) v0).setCell (C_ g 1) v1).setCell (C_ g 2) v2).setCell (C_ g 3) v3).setCell (C_ g 4) v4).setCell (C_ g 5) v5).setCell (C_ g 6) v6) g t #[v0,v1,v2,v3,v4,v5,v6,a7,a8,a9]:=h5.al 6 _;have h7:af ((((((((w.setCell (C_ g 0) v0).setCell (C_ g 1) v1).setCell (C_ g 2) v2).setCell (C_ g 3) v3).setCell (C_ g 4) v4).setCell (C_ g 5) v5).setCell (C_ g 6) v6).setCell (C_ g 7) v7) g t #[v0,v1,v2,v3,v4,v5,v6,v7,a8,a9]:=h6.al 7 _;have h8:af (((((((((w.setCell (C_ g 0) v0).setCell (C_ g 1) v1).setCell (C_ g 2) v2).setCell (C_ g 3) v3).setCell (C_ g 4) v4).setCell (C_ g 5) v5).setCell (C_ g 6) v6).setCell (C_ g 7) v7).setCell (C_ g 8) v8) g t #[v0,v1,v2,v3,v4,v5,v6,v7,v8,a9]:=h7.al 8 _;have h9:af ((((((((((w.setCell (C_ g 0) v0).setCell (C_ g 1) v1).setCell (C_ g 2) v2).setCell (C_ g 3) v3).setCell (C_ g 4) v4).setCell (C_ g 5) v5).setCell (C_ g 6) v6).setCell (C_ g 7) v7).setCell (C_ g 8) v8).setCell (C_ g 9) v9) g t #[v0,v1,v2,v3,v4,v5,v6,v7,v8,v9]:=h8.al 9 _;exact h9
structure DI(T2:Prop) (w wr:World) (OB RB PB XB:Nat) (k seq:Int) (a1 a2 a3 a4:Bool) (fl uid sz:Int) (B:Option Addr) (m c:Nat) (body:List Int) (km eB mY:Int) (Bq:Option Addr) (mq cq:Nat) (bl:List Int):Prop where
 out:af wr OB 53 (rC 4 seq ⟨#[]⟩ 0 ⟨#[]⟩ (zD a1 a2 a3 a4) km eB mY (X_ Bq mq cq))
 whole:af wr RB 53 (rC 0 0 ⟨#[]⟩ 0 ⟨#[]⟩ 0 fl uid sz (X_ B m c))
 parts:af wr PB 298 pd
 res:af wr XB 53 (rC 0 0 ⟨#[]⟩ 0 ⟨#[]⟩ 0 0 0 0 Z_)
 own:Own (ak .u8) 5 w.heap.size wr (X_ B m c) body
 Hd:Own (ak .u8) 5 w.heap.size wr (X_ Bq mq cq) bl
 bl:bl.length<=65536
 new:ae w wr
 two:a2=true->eB=uid/\T2
 f:0<=km/\km<=255
 u:0<=eB/\eB<=4294967295
 s:0<=mY/\mY<=4294967295
 z1:k<1->a1=false
 z2:k<2->a2=false
 z3:k<3->a3=false
 z4:k<4->a4=false
 ob:w.heap.size<=OB
 ne1:OB≠RB
 ne2:OB≠XB
 xb:w.heap.size<=XB
theorem DI.skip {T2:Prop}{w wr w':World}{OB RB PB XB:Nat}{k seq:Int}{a1 a2 a3 a4:Bool}{fl uid sz:Int}{B:Option Addr}{m c:Nat}{body:List Int}{km eB mY:Int}{Bq:Option Addr}{mq cq:Nat}{bl:List Int}
 (h:DI T2 w wr OB RB PB XB k seq a1 a2 a3 a4 fl uid sz B m c body km eB mY Bq mq cq bl) (n:ae wr w'):DI T2 w w' OB RB PB XB (k+1) seq a1 a2 a3 a4 fl uid sz B m c body km eB mY Bq mq cq bl:=
 ⟨n.ai h.out,n.ai h.whole,n.ai h.parts,n.ai h.res,h.own.new n,h.Hd.new n,h.bl,h.new.trans n,h.two,h.f,h.u,h.s,fun e=>h.z1 O_,fun e=>h.z2 O_,fun e=>h.z3 O_,fun e=>h.z4 O_,h.ob,h.ne1,h.ne2,h.xb⟩
theorem DI.step {T2:Prop}{w wr w':World}{OB RB PB XB:Nat}{k seq:Int}{a1 a2 a3 a4:Bool}{fl uid sz:Int}{B:Option Addr}{m c:Nat}{body:List Int}{km eB mY:Int}{Bq:Option Addr}{mq cq:Nat}{bl:List Int}
 (h:DI T2 w wr OB RB PB XB k seq a1 a2 a3 a4 fl uid sz B m c body km eB mY Bq mq cq bl) (n:One OB wr w') {b1 b2 b3 b4:Bool}{WK AX Pz:Int}{B2:Option Addr}{m2 c2:Nat}{bl2:List Int}
 (hb:af w' OB 53 (rC 4 seq ⟨#[]⟩ 0 ⟨#[]⟩ (zD b1 b2 b3 b4) WK AX Pz (X_ B2 m2 c2))) (ho:Own (ak .u8) 5 w.heap.size wr (X_ B2 m2 c2) bl2) (hl:bl2.length<=65536) (h2:b2=true->AX=uid/\T2)
 (hf:0<=WK/\WK<=255) (hu:0<=AX/\AX<=4294967295) (hs:0<=Pz/\Pz<=4294967295) (z1:k+1<1->b1=false) (z2:k+1<2->b2=false) (z3:k+1<3->b3=false) (z4:k+1<4->b4=false):
 DI T2 w w' OB RB PB XB (k+1) seq b1 b2 b3 b4 fl uid sz B m c body WK AX Pz B2 m2 c2 bl2:=
 have db:∀(v:Value) (l:List Int),Own (ak .u8) 5 w.heap.size wr v l->∀g,v.ownBlock=some g->g≠OB:=fun v l hv g hg e=>hv.ar h.out D_ (by rw [hg,e])
 ⟨hb,n.ai h.whole (iX h.ne1),n.ai h.parts (fun e=>(h.parts.aU h.out D_) e),n.ai h.res (iX h.ne2),h.own.fr n (fun g hg e=>db _ _ h.own g hg e),ho.fr n (fun g hg e=>db _ _ ho g hg e),hl,ae.one h.new n h.ob,h2,hf,hu,hs,z1,z2,z3,z4,h.ob,h.ne1,h.ne2,h.xb⟩
theorem iq(seq:Int) (oW:0<=seq) (fB:seq<=4294967295) (items:Int) (uid fl:Int) (hu:0<=uid/\uid<=4294967295) (hf:0<=fl/\fl<=255) (A:Option Addr) (n c:Nat) (body:List Int) (w:World) (hb:Rd (ak .u8) w (X_ A n c) body) (hl:body.length<=65536):
 H_ 144 #[I_ seq,I_ items,.agg #[U_ uid,B_ fl,X_ A n c]] w fun e w'=>∃r:cV,e=.returned r.val/\bF w.heap.size w' r/\r.k=4/\r.n=seq/\(bits .and .i64 r.it 2≠0->r.uid=uid/\(bits .and .i64 items 8=0->bits .and .i64 items 2≠0))/\ae w w':=by
 have hbn:n<=65536:=by obtain⟨_,_,e,_⟩:=hb;cases e;exact hl
 have b1:af (W_ (W_ w #[U_ uid,B_ fl,X_ A n c] 238) (rC 0 0 ⟨#[]⟩ 0 ⟨#[]⟩ 0 0 0 0 Z_) 53) w 238 #[U_ uid,B_ fl,X_ A n c]:=(af.new _ _ _).alloc _;have b2:af (W_ (W_ w #[U_ uid,B_ fl,X_ A n c] 238) (rC 0 0 ⟨#[]⟩ 0 ⟨#[]⟩ 0 0 0 0 Z_) 53) (w.heap.size+1) 53 (rC 0 0 ⟨#[]⟩ 0 ⟨#[]⟩ 0 0 0 0 Z_):=af.cD _ _ _ _;have br:ae w (W_ (W_ w #[U_ uid,B_ fl,X_ A n c] 238) (rC 0 0 ⟨#[]⟩ 0 ⟨#[]⟩ 0 0 0 0 Z_) 53):=((ae.refl w).alloc _).alloc _;have HV:=ac5 (hb.new br);have HS:=ac5 (And.intro oW (And.intro fB (And.intro hu hf)));have HBL:=ac5 hl;clear hb oW fB hu hf hl;obtain⟨wq,ir⟩:∃wq,wq=(w.alloc (G_ #[U_ uid,B_ fl,X_ A n c] 238)).alloc (G_ #[I_ 0,U_ 0,E_,I_ 0,E_,I_ 0,B_ 0,U_ 0,U_ 0,Z_] 53):=⟨_,rfl⟩;have Cz:Hid (wq.heap.size=w.heap.size+2):=ac5 (by rw [ir];simp);by_cases hp:bits .and .i64 items 8=0
 case' pos=>
  have lK:=beq_iff_eq.2 hp;have pP:(bits .and .i64 items 8 !=0)=false:=by rw [bne,lK];rfl
  have HT:=ac5 (fun(h:bits .and .i64 items 2≠0) (_:bits .and .i64 items 8=0)=>h)
 case' neg=>
  have lK:=beq_eq_false_iff_ne.2 hp;have pP:(bits .and .i64 items 8 !=0)=true:=by rw [bne,lK];rfl
  have HT:=ac5 (fun(_:bits .and .i64 (bits .or .i64 items 16) 2≠0) (h:bits .and .i64 items 8=0)=>absurd (b:=bits .and .i64 items 2≠0) h hp)
 all_goals
  clear hp
  go_enter func144,ntmps144
  go_upto_region 3 with fail
  rw [<-ir]at b1 b2 br HV⊢;have q0:=b1.k0;have q1:=b1.k1;have q2:=b1.k2;have hwr:IntKind.u32.wrap (n:Int)=(n:Int):=by unfold IntKind.wrap;simp [IntKind.bits,IntKind.signed];omega
  clear ir;have r0:L_ wq.drew w 0 (U_ uid):=q0;have r1:L_ wq.drew w 1 (B_ fl):=q1;have r2:L_ wq.drew w 2 (X_ A n c):=q2;have adg:wq.heap.size≠w.heap.size:=by have:=Cz.out;omega
  have HC1:=ac5 (eT (X_ A n c) body wq.drew (HV.out.drew) (by have:=HBL.out;omega));have HC2:=ac5 (eT (X_ A n c) body (wq.alloc (G_ #[I_ 0,U_ 0,E_,I_ 0,E_,I_ 0,B_ 0,U_ 0,U_ 0,Z_] 53)).drew ((HV.out.alloc _).drew) (by have:=HBL.out;omega));have HBZ:Hid (∀w3,ae (wq.alloc (G_ #[I_ 0,U_ 0,E_,I_ 0,E_,I_ 0,B_ 0,U_ 0,U_ 0,Z_] 53)).drew w3->af w3 wq 53 #[I_ 0,U_ 0,E_,I_ 0,E_,I_ 0,B_ 0,U_ 0,U_ 0,Z_]):=ac5 fun w3 fu=>ae.ai fu (af.drew (af.new wq 53 #[I_ 0,U_ 0,E_,I_ 0,E_,I_ 0,B_ 0,U_ 0,U_ 0,Z_]))
  rename_i K hK
  have HK:Hid (∀(I2:Int) (q1 q2 q3:Value),Hid (bits .and .i64 I2 2≠0->bits .and .i64 items 8=0->bits .and .i64 items 2≠0)->∀(RB:Nat) (B:Option Addr) (m' c':Nat) (u16 u17 u18 u19 u20 u21 u22 u23 u24 u25 u26 u27:Value) (wx:World),af wx RB 53 (rC 0 0 ⟨#[]⟩ 0 ⟨#[]⟩ 0 fl uid n (X_ B m' c'))->Own (ak .u8) 5 w.heap.size wx (X_ B m' c') body->ae w wx->af wx (w.heap.size+1) 53 (rC 0 0 ⟨#[]⟩ 0 ⟨#[]⟩ 0 0 0 0 Z_)->w.heap.size<=RB->
   K {tmps:= #[.int .i64 seq,.int .i64 I2,.agg #[.int .u32 uid,.int .u8 fl,.slice A n c],undef,undef,.pointer (M_ w),.pointer (M_ (w.heap.size+1)),.pointer (M_ RB),undef,undef,undef,.int .i64 items,.int .i64 (bits .and .i64 items 8),q1,q2,q3,u16,u17,u18,u19,u20,u21,u22,u23,u24,u25,u26,u27,undef,undef,undef,undef,undef,undef,undef,undef,undef,undef,undef,undef,undef,undef,undef,undef,undef,undef,undef,undef,undef,undef,undef,undef,undef,undef],defers:=[]} wx):=ac5 (by
   intro I2 q4 q5 q6 HT RB B m' c' u16 u17 u18 u19 u20 u21 u22 u23 u24 u25 u26 u27 wx hB hO hN hX hR
   apply hK
   clear hK K HC1 HC2 HBZ r0 r1 r2 q0 q1 q2 b1 b2 br HV adg hwr;have oW:=HS.out.1;have fB:=HS.out.2.1;have hwr:IntKind.u32.wrap seq=seq:=by unfold IntKind.wrap;simp [IntKind.bits,IntKind.signed];omega
   obtain⟨OB,gU⟩:∃OB,OB=wx.heap.size:=⟨_,rfl⟩;have hbO:af (wx.alloc (G_ (rC 4 seq ⟨#[]⟩ 0 ⟨#[]⟩ 0 0 0 0 Z_) 53)) OB 53 (rC 4 seq ⟨#[]⟩ 0 ⟨#[]⟩ 0 0 0 0 Z_):=gU▸af.new _ _ _;have bJ:=hB.lt;have hNs:=hN.size;have aiD:=hX.lt;have HB:=ac5 (And.intro hB (And.intro hO (And.intro hN hX)));clear hB hO hN hX oW fB;go_wp2_with fail
   refine(sh _).mono ?_;rintro e w4 ⟨rfl,Gg⟩;obtain⟨PB,hPB⟩:∃PB,PB=(wx.alloc (G_ #[I_ 4,U_ seq,E_,I_ 0,E_,I_ 0,B_ 0,U_ 0,U_ 0,Z_] 53)).heap.size:=⟨_,rfl⟩;have YJ:af w4 PB 298 pd:=by rw [Gg,hPB];exact af.new _ _ _
   have n4:ae wx w4:=by rw [Gg];exact((ae.refl wx).alloc _).alloc _
   have o4:af w4 OB 53 (rC 4 seq ⟨#[]⟩ 0 ⟨#[]⟩ 0 0 0 0 Z_):=by rw [Gg];exact hbO.alloc _
   have L0:Hid (DI (bits .and .i64 items 8=0->bits .and .i64 items 2≠0) w w4 OB RB PB (w.heap.size+1) 0 seq false false false false fl uid n B m' c' body 0 0 0 none 0 0 []):=ac5
    {out:=o4,whole:=n4.ai HB.out.1,parts:=YJ,res:=n4.ai HB.out.2.2.2,own:=HB.out.2.1.new n4,Hd:=Own.nil _ _ _ _,bl:=S_,new:=HB.out.2.2.1.trans n4,two:=(fun h=>by cases h),f:=O_,u:=O_,s:=O_,z1:=fun _=>rfl,z2:=fun _=>rfl,z3:=fun _=>rfl,z4:=fun _=>rfl,ob:=O_,ne1:=O_,ne2:=O_,xb:=by omega}
   rw [<-hPB,<-gU];clear hPB gU Gg hbO bJ hNs aiD YJ n4 o4;obtain⟨XB,hXB⟩:∃XB,XB=w.heap.size+1:=⟨_,rfl⟩;rw [<-hXB]at L0⊢;clear hXB;go_wp2_with fail
   go_loopw [33] (fun vi wr=>∃(k:Int) (a1 a2 a3 a4:Bool) (km eB mY:Int) (Bq:Option Addr) (mq cq:Nat) (bl:List Int),vi=I_ k/\0<=k/\k<=4/\Hid (DI (bits .and .i64 items 8=0->bits .and .i64 items 2≠0) w wr OB RB PB XB k seq a1 a2 a3 a4 fl uid n B m' c' body km eB mY Bq mq cq bl)) (fun vi _=>4-(intOf vi).toNat)
   case atStart=>exact⟨0,_,_,_,_,_,_,_,_,_,_,_,rfl,O_,O_,L0⟩
   case round=>
    obtain⟨k,a1,a2,a3,a4,km,eB,mY,Bq,mq,cq,bl,rfl,lV,eA,HL⟩:=hrel;clear L0;obtain⟨⟨c0,f0⟩,⟨c1,f1⟩,⟨c2,f2⟩,⟨c3,f3⟩,⟨c4,f4⟩,⟨c5,f5⟩,⟨c6,f6⟩,⟨c7,f7⟩,⟨c8,f8⟩,⟨c9,f9⟩⟩:=fH HL.out.out;obtain⟨⟨d0,g0⟩,⟨d1,g1⟩,⟨d2,g2⟩,⟨d3,g3⟩,⟨d4,g4⟩,⟨d5,g5⟩,⟨d6,g6⟩,⟨d7,g7⟩,⟨d8,g8⟩,⟨d9,g9⟩⟩:=fH HL.out.whole;clear g0 g1 g2 g3 g4 g5 g6 g7 g8 g9 f0 f1 f2 f3 f4 f6 f7 f8 f9;have aiF:=HL.out.out.lt;have aiG:=HL.out.whole.lt;have aiH:=HL.out.ne1;by_cases pR:k=4
    ·subst pR;clear d0 d1 d2 d3 d4 d5 d6 d7 d8 d9 f5 lV eA aiF aiG aiH;obtain⟨⟨x0,y0⟩,⟨x1,y1⟩,⟨x2,y2⟩,⟨x3,y3⟩,⟨x4,y4⟩,⟨x5,y5⟩,⟨x6,y6⟩,⟨x7,y7⟩,⟨x8,y8⟩,⟨x9,y9⟩⟩:=fH HL.out.res;go_wp2_with fail
     have hfX:=lJ (w:=wr) (g:=XB) (I_ 4) (U_ seq) E_ (I_ 0) E_ (I_ (zD a1 a2 a3 a4)) (B_ km) (U_ eB) (U_ mY) (X_ Bq mq cq);have hbX:=kn HL.out.res (I_ 4) (U_ seq) E_ (I_ 0) E_ (I_ (zD a1 a2 a3 a4)) (B_ km) (U_ eB) (U_ mY) (X_ Bq mq cq);refine r_ (aI rfl _ _ rfl (fS hbX)) rfl ⟨⟨4,seq,⟨#[]⟩,0,⟨#[]⟩,zD a1 a2 a3 a4,km,eB,mY,Bq,mq,cq⟩,rfl,?_,rfl,rfl,fun h=>⟨(HL.out.two (J0 _ _ _ _ h)).1,(HL.out.two (J0 _ _ _ _ h)).2⟩,ae.one HL.out.new hfX HL.out.xb⟩;have hs:=HS.out;have hit:=YI a1 a2 a3 a4;exact{kk:=by dsimp only;omega,n0:=⟨hs.1,hs.2.1⟩,t0:=by show(0:Nat)<=10000;omega,x0:=by show(0:Nat)<=10000;omega,WJ:=by dsimp only;omega,it0:=by dsimp only;omega,fl0:=HL.out.f,LL:=HL.out.u,sz0:=HL.out.s,body:=⟨bl,HL.out.Hd.fr hfX (fun g hg e=>HL.out.Hd.ar HL.out.res D_ (by rw [hg,e])),HL.out.bl⟩}
    ·have NJ:decide (k<4)=true:=k_ O_;have apS:=HL.out.parts.lt;obtain rfl|rfl|rfl|rfl:k=0\/k=1\/k=2\/k=3:=O_
     ·have p0:=HL.out.parts.k0;have p1:=HL.out.parts.k1;have p2:=HL.out.parts.k2;obtain rfl:a1=false:=HL.out.z1 O_;obtain rfl:a2=false:=HL.out.z2 O_;obtain rfl:a3=false:=HL.out.z3 O_;obtain rfl:a4=false:=HL.out.z4 O_;have YK:=Uj;by_cases hq:bits .and .i64 I2 1=0
      ·have e1:=beq_iff_eq.2 hq;have e2:(bits .and .i64 I2 1 !=0)=false:=by rw [bne,e1];rfl
       clear hq YK;go_wp2_with fail
       go_roundw
       ·exact⟨1,_,_,_,_,_,_,_,_,_,_,_,rfl,O_,O_,ac5 (HL.out.skip ((ae.refl _).alloc _))⟩
       ·simp [intOf]
      ·have e1:=beq_eq_false_iff_ne.2 hq;have e2:(bits .and .i64 I2 1 !=0)=true:=by rw [bne,e1];rfl
       clear hq;go_wp2_with fail
       refine(zy (k:=4) (n:=seq) (t:=⟨#[]⟩) (st:=0) (x:=⟨#[]⟩) (it:=zD true false false false) (fl:=km) (uid:=eB) (sz:=mY) (b:=X_ Bq mq cq) 0 0 ⟨#[]⟩ 0 ⟨#[]⟩ 0 fl uid n (X_ B m' c') ?hb0n).mono ?_
       case hb0n=>first|exact(HL.out.out.al 5 _).alloc _|exact(HL.out.out.alloc _).al 5 _
       rintro e w5 ⟨rfl,ud,o5⟩;have o6:One OB wr w5:=Fr.trans (by first|exact Fr.alloc (One.set (One.refl OB wr) 5 _) _|exact One.set (Fr.alloc (One.refl OB wr) _) 5 _) o5;go_wp2_with fail
       go_roundw
       ·refine⟨1,true,false,false,false,_,_,_,_,_,_,_,rfl,O_,O_,ac5 (HL.out.step o6 ud HL.out.Hd HL.out.bl (fun h=>by cases h) HS.out.2.2.2 HL.out.u HL.out.s (fun e=>O_) (fun e=>by first|rfl|omega) (fun e=>by first|rfl|omega) (fun e=>by first|rfl|omega))⟩
       ·simp [intOf]
     ·have p0:=HL.out.parts.k3;have p1:=HL.out.parts.k4;have p2:=HL.out.parts.k5;obtain rfl:a2=false:=HL.out.z2 O_;obtain rfl:a3=false:=HL.out.z3 O_;obtain rfl:a4=false:=HL.out.z4 O_;have YK:=Uk a1;by_cases hq:bits .and .i64 I2 2=0
      ·have e1:=beq_iff_eq.2 hq;have e2:(bits .and .i64 I2 2 !=0)=false:=by rw [bne,e1];rfl
       clear hq YK;go_wp2_with fail
       go_roundw
       ·exact⟨2,_,_,_,_,_,_,_,_,_,_,_,rfl,O_,O_,ac5 (HL.out.skip ((ae.refl _).alloc _))⟩
       ·simp [intOf]
      ·have e1:=beq_eq_false_iff_ne.2 hq;have e2:(bits .and .i64 I2 2 !=0)=true:=by rw [bne,e1];rfl
       clear hq;go_wp2_with fail
       refine(zA (k:=4) (n:=seq) (t:=⟨#[]⟩) (st:=0) (x:=⟨#[]⟩) (it:=zD a1 true false false) (fl:=km) (uid:=eB) (sz:=mY) (b:=X_ Bq mq cq) 0 0 ⟨#[]⟩ 0 ⟨#[]⟩ 0 fl uid n (X_ B m' c') ?hb1n).mono ?_
       case hb1n=>first|exact(HL.out.out.al 5 _).alloc _|exact(HL.out.out.alloc _).al 5 _
       rintro e w5 ⟨rfl,ud,o5⟩;have o6:One OB wr w5:=Fr.trans (by first|exact Fr.alloc (One.set (One.refl OB wr) 5 _) _|exact One.set (Fr.alloc (One.refl OB wr) _) 5 _) o5;go_wp2_with fail
       go_roundw
       ·refine⟨2,a1,true,false,false,_,_,_,_,_,_,_,rfl,O_,O_,ac5 (HL.out.step o6 ud HL.out.Hd HL.out.bl (fun _=>⟨rfl,HT.out (beq_eq_false_iff_ne.1 e1)⟩) HL.out.f HS.out.2.2.1 HL.out.s (fun e=>O_) (fun e=>by first|rfl|omega) (fun e=>by first|rfl|omega) (fun e=>by first|rfl|omega))⟩
       ·simp [intOf]
     ·have p0:=HL.out.parts.k6;have p1:=HL.out.parts.k7;have p2:=HL.out.parts.k8;obtain rfl:a3=false:=HL.out.z3 O_;obtain rfl:a4=false:=HL.out.z4 O_;have YK:=Ul a1 a2;by_cases hq:bits .and .i64 I2 4=0
      ·have e1:=beq_iff_eq.2 hq;have e2:(bits .and .i64 I2 4 !=0)=false:=by rw [bne,e1];rfl
       clear hq YK;go_wp2_with fail
       go_roundw
       ·exact⟨3,_,_,_,_,_,_,_,_,_,_,_,rfl,O_,O_,ac5 (HL.out.skip ((ae.refl _).alloc _))⟩
       ·simp [intOf]
      ·have e1:=beq_eq_false_iff_ne.2 hq;have e2:(bits .and .i64 I2 4 !=0)=true:=by rw [bne,e1];rfl
       clear hq;go_wp2_with fail
       refine(zB (k:=4) (n:=seq) (t:=⟨#[]⟩) (st:=0) (x:=⟨#[]⟩) (it:=zD a1 a2 true false) (fl:=km) (uid:=eB) (sz:=mY) (b:=X_ Bq mq cq) 0 0 ⟨#[]⟩ 0 ⟨#[]⟩ 0 fl uid n (X_ B m' c') ?hb2n).mono ?_
       case hb2n=>first|exact(HL.out.out.al 5 _).alloc _|exact(HL.out.out.alloc _).al 5 _
       rintro e w5 ⟨rfl,ud,o5⟩;have o6:One OB wr w5:=Fr.trans (by first|exact Fr.alloc (One.set (One.refl OB wr) 5 _) _|exact One.set (Fr.alloc (One.refl OB wr) _) 5 _) o5;go_wp2_with fail
       go_roundw
       ·refine⟨3,a1,a2,true,false,_,_,_,_,_,_,_,rfl,O_,O_,ac5 (HL.out.step o6 ud HL.out.Hd HL.out.bl HL.out.two HL.out.f HL.out.u O_ (fun e=>O_) (fun e=>by first|rfl|omega) (fun e=>by first|rfl|omega) (fun e=>by first|rfl|omega))⟩
       ·simp [intOf]
     ·have p0:=HL.out.parts.k9;have p1:=HL.out.parts.xQ;have p2:=HL.out.parts.va;obtain rfl:a4=false:=HL.out.z4 O_;have YK:=Um a1 a2 a3;by_cases hq:bits .and .i64 I2 16=0
      ·have e1:=beq_iff_eq.2 hq;have e2:(bits .and .i64 I2 16 !=0)=false:=by rw [bne,e1];rfl
       clear hq YK;go_wp2_with fail
       go_roundw
       ·exact⟨4,_,_,_,_,_,_,_,_,_,_,_,rfl,O_,O_,ac5 (HL.out.skip ((ae.refl _).alloc _))⟩
       ·simp [intOf]
      ·have e1:=beq_eq_false_iff_ne.2 hq;have e2:(bits .and .i64 I2 16 !=0)=true:=by rw [bne,e1];rfl
       clear hq;go_wp2_with fail
       refine(zC (k:=4) (n:=seq) (t:=⟨#[]⟩) (st:=0) (x:=⟨#[]⟩) (it:=zD a1 a2 a3 true) (fl:=km) (uid:=eB) (sz:=mY) 0 0 ⟨#[]⟩ 0 ⟨#[]⟩ 0 fl uid n Bq B mq cq m' c' ?hb3n).mono ?_
       case hb3n=>first|exact(HL.out.out.al 5 _).alloc _|exact(HL.out.out.alloc _).al 5 _
       rintro e w5 ⟨rfl,ud,o5⟩;have o6:One OB wr w5:=Fr.trans (by first|exact Fr.alloc (One.set (One.refl OB wr) 5 _) _|exact One.set (Fr.alloc (One.refl OB wr) _) 5 _) o5;go_wp2_with fail
       go_roundw
       ·refine⟨4,a1,a2,a3,true,_,_,_,_,_,_,_,rfl,O_,O_,ac5 (HL.out.step o6 ud HL.out.own HBL.out HL.out.two HL.out.f HL.out.u HL.out.s (fun e=>O_) (fun e=>by first|rfl|omega) (fun e=>by first|rfl|omega) (fun e=>by first|rfl|omega))⟩
       ·simp [intOf]
     )
  go_region_held3 (fun w'=>L_ w' w 0 (U_ uid)/\L_ w' w 1 (B_ fl)/\L_ w' w 2 (X_ A n c)) (refine⟨?_,?_,?_⟩<;>(repeat' first|with_reducible assumption|exact adg|with_reducible apply cell_far|with_reducible apply Hc|with_reducible apply LK)) ((first
   |(go_at_call 75
     with_reducible refine HC1.out.mono ?_
     rintro e w3 ⟨o,rfl,ho,fu⟩;have da:ae wq w3:=Fr.trans (Fr.drew (ae.refl _)) fu;have d0:=Fr.cell da q0 id;have d1:=Fr.cell da q1 id;have d2:=Fr.cell da q2 id;obtain⟨B,m',c',rfl⟩:=bY ho)
   |(go_at_call 75
     with_reducible refine HC2.out.mono ?_
     rintro e w3 ⟨o,rfl,ho,fu⟩;have da:ae wq w3:=Fr.trans (Fr.drew (Fr.alloc (ae.refl _) _)) fu;have d0:=Fr.cell da q0 id;have d1:=Fr.cell da q1 id;have d2:=Fr.cell da q2 id;obtain⟨B,m',c',rfl⟩:=bY ho;obtain⟨⟨z0,y0⟩,⟨z1,y1⟩,⟨z2,y2⟩,⟨z3,y3⟩,⟨z4,y4⟩,⟨z5,y5⟩,⟨z6,y6⟩,⟨z7,y7⟩,⟨z8,y8⟩,⟨z9,y9⟩⟩:=fH (HBZ.out w3 fu))
   |fail))
  ·have eE:=Cz.out;have Un:=da.size;refine HK.out _ _ _ _ HT _ B m' c' _ _ _ _ _ _ _ _ _ _ _ _ _ (af.new w3 _ _) ((ho.alloc _).mono ?_) ((br.trans da).alloc _) ((ae.ai da b2).alloc _) O_
   show w.heap.size<=wq.heap.size
   omega
  ·have eE:=Cz.out;have bz:=HBZ.out w3 fu
   have YL:Fr (fun k=>k=wq.heap.size) w3 ((((((((((w3.setCell (C_ wq 0) (I_ 0)).setCell (C_ wq 1) (U_ 0)).setCell (C_ wq 2) E_).setCell (C_ wq 3) (I_ 0)).setCell (C_ wq 4) E_).setCell (C_ wq 5) (I_ 0)).setCell (C_ wq 6) (B_ fl)).setCell (C_ wq 7) (U_ uid)).setCell (C_ wq 8) (U_ n)).setCell (C_ wq 9) (X_ B m' c')):=
    One.set (One.set (One.set (One.set (One.set (One.set (One.set (One.set (One.set (One.set (One.refl wq.heap.size w3) 0 _) 1 _) 2 _) 3 _) 4 _) 5 _) 6 _) 7 _) 8 _) 9 _
   refine HK.out _ _ _ _ HT wq.heap.size B m' c' _ _ _ _ _ _ _ _ _ _ _ _ _ ((((((((((bz.al 0 _).al 1 _).al 2 _).al 3 _).al 4 _).al 5 _).al 6 _).al 7 _).al 8 _).al 9 _) ((ho.fr YL fun b hb e=>?_).mono ?_) (ae.one (br.trans da) YL O_) (One.ai YL (ae.ai da b2) O_) O_
   ·have h1:=(ho.block hb).1;have h2:(wq.alloc (G_ #[I_ 0,U_ 0,E_,I_ 0,E_,I_ 0,B_ 0,U_ 0,U_ 0,Z_] 53)).drew.heap.size=wq.heap.size+1:=gz _ _;omega
   ·have h2:(wq.alloc (G_ #[I_ 0,U_ 0,E_,I_ 0,E_,I_ 0,B_ 0,U_ 0,U_ 0,Z_] 53)).drew.heap.size=wq.heap.size+1:=gz _ _;omega
end Go.Proofs.YtliimglbbiebiaaGreatDoor
