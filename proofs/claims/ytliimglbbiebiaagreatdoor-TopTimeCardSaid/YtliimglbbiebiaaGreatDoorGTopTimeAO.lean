import Derived.Test.YtliimglbbiebiaaGreatDoorGTopTimeAF
import Derived.Test.YtliimglbbiebiaaGreatDoorGTopTimeAJ
set_option maxRecDepth 100000
set_option maxHeartbeats 6400000
set_option linter.all false
namespace Go.Proofs.YtliimglbbiebiaaGreatDoor
open Go.Proofs.Tryz Go.RowKit Go.Maps
theorem cH{P:Program}{fn:Func}{p q:Tmp}{t:TypeId}(h:fn.results= #[.cell p t,.tmp q]) (tmps:Array Value) (w:World) {a:Addr}{v v':Value}
 (hp:tmps[p]? =some (.pointer (some a))) (hq:tmps[q]? =some v') (hv:(loadVar t a).run P w=.ok v w):(results fn tmps).run P w=.ok (.tuple #[v,v']) w:=by
 simp [results,h,hp,hq,asAddr,hv]
theorem fj{w:World}{g:Nat}{a b c:Value}(h:af w g 435 #[a,b,c]):(loadVar 435 (C_ g 0)).run prog w=.ok (.agg #[a,b,c]) w:=
 kV w g _ _ _ _ _ h underlying435 rfl K_
def jh(w:World) (b off:Nat) (l:List UInt8):Prop:=∀i x,l[i]? =some x->L_ w b (off+i) (B_ (x.toNat:Int))
theorem jh.fr {S:Nat->Prop}{w w':World}{b off:Nat}{l:List UInt8}(h:jh w b off l) (hf:Fr S w w') (hS:¬S b):jh w' b off l:=fun i x hx=>Fr.cell hf (h i x hx) hS
theorem jh.new {w w':World}{b off:Nat}{l:List UInt8}(h:jh w b off l) (hf:ae w w'):jh w' b off l:=h.fr hf id
theorem jh.drop {w:World}{b off:Nat}{l:List UInt8}(h:jh w b off l) (k:Nat):jh w b (off+k) (l.drop k):=fun i x hx=>by
 rw [aR]at hx;have:=h (k+i) x hx
 rwa [<-vh]at this
theorem jh.take {w:World}{b off:Nat}{l:List UInt8}(h:jh w b off l) (k:Nat):jh w b off (l.take k):=fun i x hx=>by
 rw [List.getElem?_take]at hx
 split at hx
 ·exact h i x hx
 ·cases hx
theorem jh.conv {w:World}{b off:Nat}{l:List UInt8}(h:jh w b off l) (c:Nat):(convert 23 9 (X_ (some ⟨b,off,none⟩) l.length c)).run prog w=.ok (T_ ⟨l.toArray⟩) w:=
 l7 (P:=prog) w 23 9 5 (C_ b off) c l underlying23 underlying5 underlying9 fun j hj=>by
  rw [kR];exact h j _ (DW hj)
def nums(l:List UInt8):List Int:=l.map fun x=>(x.toNat:Int)
theorem aW(l:List UInt8):(nums l).length=l.length:=D9 ..
theorem j_(l:List UInt8):Lib.bytesOf (nums l)=l:=by
 unfold Lib.bytesOf nums;rw [JJ]
 conv=>rhs;rw [<-List.map_id l]
 apply eR
 intro x _;simp
theorem jh.cells {w:World}{b off:Nat}{l:List UInt8}(h:jh w b off l):∀i,i<l.length->L_ w b (off+i) (B_ ((nums l).getD i 0)):=fun i hi=>by
 rw [h i _ (DW hi)];simp [nums,List.getD,hi]
def fo(x:UInt8):List UInt8:=[x,32,78,79,79,80]
theorem Pb(x:UInt8) (hx:x=97\/x=98) (b off c:Nat) (hc:6<=c) (w:World) (hb:jh w b off (fo x)):
 H_ 208 #[X_ (some ⟨b,off,none⟩) 6 c] w fun e w'=>e=.returned (.tuple #[T_ ⟨#[x]⟩,I_ 2,R_ true])/\ae w w':=by
 have oR:=Tryz.bytes_IndexByte b off 6 c (nums (fo x)) 32 w (aW _) hb.cells;rw [j_]at oR;have kY:∀W,ae w W->(convert 23 9 (X_ (some ⟨b,off,none⟩) 1 c)).run prog W=.ok (T_ ⟨#[x]⟩) W:=fun W hW=>(jh.take (hb.new hW) 1).conv c;have iK:=kU ⟨#[x]⟩ (by show 1<=1000000;decide) w;have e1:Lib.indexByte (fo x) ((32:Int).toNat.toUInt8)=1:=by rcases hx with rfl|rfl<;>decide
 have e2:oO ⟨#[x]⟩=true:=by rcases hx with rfl|rfl<;>decide +kernel
 rw [e1]at oR;rw [e2]at iK;have aik:=kY w (ae.refl w);clear hb hx e1 e2
 go_enter func208,ntmps208
 go_wp2_with (go_at_call 264;refine oR.mono ?_;rintro e w' ⟨rfl,rfl⟩)
 refine iK.mono ?_;rintro e w1 ⟨rfl,n1⟩;go_wp2
 go_ret3
 exact⟨rfl,n1⟩
theorem G0(x:Int) (h1:32<x) (h2:x<=126) (hi:Lib.indexByte [40,41,34,123] x.toNat.toUInt8= -1) (w:World):H_ 417 #[B_ x] w fun e w'=>e=.returned (R_ true)/\w'=w:=by
 have h:=Tryz.strings_IndexByte ⟨#[40,41,34,123]⟩ x w;have e:Lib.indexByte (⟨#[40,41,34,123]⟩:ByteArray).data.toList x.toNat.toUInt8= -1:=hi;rw [e]at h
 go_enter func417,ntmps417
 go_wp2_with (go_at_call 444;refine h.mono ?_;rintro e w' ⟨rfl,rfl⟩)
 go_ret;exact⟨rfl,rfl⟩
def vS(x:Int):Bool:=decide (32<x)&&decide (x<=126)&&decide (Lib.indexByte [40,41,34,123] x.toNat.toUInt8= -1)
theorem Lx(x:Int) (h:vS x=true) (w:World):H_ 417 #[B_ x] w fun e w'=>e=.returned (R_ true)/\w'=w:=by
 unfold vS at h;simp only [JU,aJ]at h;exact G0 x h.1.1 h.1.2 h.2 w
theorem Pc(r b off c:Nat) (l:List UInt8) (hl:l.length<=1000000) (hc:l.length<=c) (hw:∀x∈l,vS (x.toNat:Int)=true) (h0:0<l.length) (w:World) (hr:af w r 433 #[X_ (some ⟨b,off,none⟩) l.length c,I_ 0]) (hb:jh w b off l) (SQ:b≠r):
 H_ 368 #[Q_ r] w fun e w'=>e=.returned (.tuple #[.agg #[I_ 4,T_ ⟨l.toArray⟩,I_ 0],R_ true])/\af w' r 433 #[X_ (some ⟨b,off,none⟩) l.length c,I_ l.length]/\One r w w':=by
 have bJ:=hr.lt;have c1:=hr.k1
 go_enter func368,ntmps368
 go_wp2_with fail
 go_loopw [31] (fun _ wr=>∃k:Nat,k<=l.length/\af wr r 433 #[X_ (some ⟨b,off,none⟩) l.length c,I_ k]/\af wr w 435 #[I_ 0,E_,I_ 0]/\One r w wr) (fun _ wr=>l.length-(intOf ((wr.cell? (C_ r 1)).getD undef)).toNat)
 case atStart=>exact⟨0,Gv _,hr.alloc _,af.new _ _ _,(One.refl r w).alloc _⟩
 case round=>
  obtain⟨k,hk,Ly,G1,a_⟩:=hrel;have d0:=Ly.k0;have d1:=Ly.k1;have f1:=Ly.frozen 1;by_cases dL:k<l.length
  ·have yX:=(hb.fr a_ SQ) k _ (DW dL);have y0:=Lx _ (hw l[k] (List.getElem_mem dL));generalize(l[k].toNat:Int)=x at*;go_wp2_with fail
   go_quiet ((go_at_call 417;exact lG (y0 _)))
   go_wp2;go_roundw
   case rel=>exact⟨k+1,O_,(Ly.drewN nq).al 1 _,(G1.drewN nq).bL P_ _,Fr.setCell (a_.drewN nq) (fun _=>rfl) _⟩
   case measure=>
    have e1:L_ ((wr.drewN nq).setCell (C_ r 1) (I_ ((k:Int)+1))) r 1 (I_ ((k:Int)+1)):=((Ly.drewN nq).al 1 _).cell 1;rw [e1,d1];simp [intOf];omega
  ·obtain rfl:k=l.length:=O_
   go_wp2_with fail
   go_quiet (fail)
   go_wp2_with fail
   have g0:=G1.k0;have g1:=G1.k1;have g2:=G1.k2;have k0:=G1.frozen 0;have k1:=G1.frozen 1;have k2:=G1.frozen 2;have kY:=fun n=>jh.conv (w:=wr.drewN n) (hb.fr (Fr.drewN a_ n) SQ) c;go_region;go_wp2;have q:=((((G1.drewN (nq+1)).al 0 (I_ 4)).al 1 (T_ ⟨l.toArray⟩)).al 2 (I_ 0));refine r_ (cH rfl _ _ rfl rfl (fj q)) rfl ?_;have bV:r≠w.heap.size:=O_
   refine⟨rfl,((((Ly.drewN (nq+1)).bL (by simpa using bV) _).bL (by simpa using bV) _).bL (by simpa using bV) _),?_⟩;exact Fr.setCell (Fr.setCell (Fr.setCell (Fr.drewN a_ _) S_ _) S_ _) S_ _
def eV(x:UInt8):List UInt8:=[x,32,78,79,79,80,13,10]
theorem Dv(x:UInt8) (hx:x=97\/x=98):Lib.index (eV x) [13,10]=6:=by rcases hx with rfl|rfl<;>decide
theorem JV(l:List UInt8):∀x∈nums l,0<=x/\x<256:=by
 intro x hx;obtain⟨y,_,rfl⟩:=List.mem_map.1 hx;have:=y.toNat_lt;omega
theorem jr(w:World) (C:Array Value) (n:Nat):∃w1,(convert 23 23 (X_ (M_ w) n n)).run prog (W_ w C 5)=.ok (X_ (M_ w) n n) w1/\ae w w1/\
 ∀i v,C[i]? =some v->L_ w1 w i v:=by
 refine⟨_,JT (P:=prog) w 23 5 C n n underlying23 underlying5,(ae.refl w).alloc _,fun i v hv=>?_⟩;simp [World.cell?,World.alloc, -World.alloc_eq,hv]
theorem oT(w:World) (C:Array Value) (n:Nat):∃w1,(convert 23 23 (X_ (M_ w) n n)).run prog (F_ (W_ w C 5))=.ok (X_ (M_ w) n n) w1/\ae w w1/\
 ∀i v,C[i]? =some v->L_ w1 w i v:=by
 refine⟨_,JT (P:=prog) w.drew 23 5 C n n underlying23 underlying5,((ae.refl w).drew).alloc _,fun i v hv=>?_⟩
 show(w.alloc (.cells C 5 (C.size,C.size+1))).cell? (C_ w i)=_
 simp [World.cell?,World.alloc, -World.alloc_eq,hv]
theorem T4(p b off c:Nat) (x:UInt8) (hx:x=97\/x=98) (hc:8<=c) (w:World) (hT:b_ w) (h:af w p 176 #[X_ (some ⟨b,off,none⟩) 8 c,I_ 0,I_ 0,I_ 0]) (hb:jh w b off (eV x)):
 H_ 148 #[Q_ p] w fun e w'=>e=.returned (.tuple #[I_ 6,R_ true])/\ae w w':=by
 have c0:=h.k0;have c3:=h.k3;have HI:=ac5 (Dv x hx)
 have jE:∀W,(Instr.sliceAt 23 (X_ (some ⟨b,off,none⟩) 8 c) (some (I_ 0)) none none).run prog W=.ok (X_ (some ⟨b,off,none⟩) 8 c) W:=fun W=>by
  rw [rZ (P:=prog) W _ _ _ _ _ underlying23]
  go_simp
 go_enter func148,ntmps148
 go_wp2_with fail
 obtain⟨w1,kY,n1,hC⟩:=oT w #[B_ 13,B_ 10] 2
 have YB:∀i,i<2->w1.cell? ((⟨w.heap.size,0,none⟩:Addr).add i)=some (.int .u8 (([13,10]:List Int).getD i 0)):=by
  intro i hi;rw [kR,aH];have:i=0\/i=1:=O_
  rcases this with rfl|rfl
  ·exact hC 0 _ rfl
  ·exact hC 1 _ rfl
 have YC:=hT.new n1;obtain⟨mm,uH⟩:=YC.ml;have gN:=hb.new n1;have jd:=Tryz.bytes_Index_at (C_ b off) (C_ w 0) 8 c 2 2 (nums (eV x)) [13,10] mm w1 (aW _) rfl (JV _) D_ (fun i hi=>by rw [kR];exact gN.cells i hi) YB hc D_ D_ uH;rw [j_]at jd
 change H_ 201 _ w1 fun e w'=>e=.returned (I_ (Lib.index (eV x) [13,10]))/\_ at jd
 rw [Dv x hx]at jd;have k0:=Fr.cell n1 c0 id;have k3:=Fr.cell n1 c3 id;have kb0:∀o,L_ (w.alloc o) p 0 (X_ (some ⟨b,off,none⟩) 8 c):=fun o=>(h.alloc o).cell 0;have kb3:∀o,L_ (w.alloc o) p 3 (I_ 0):=fun o=>(h.alloc o).cell 3;have kd0:∀o,L_ (w.drew.alloc o) p 0 (X_ (some ⟨b,off,none⟩) 8 c):=fun o=>(h.drew.alloc o).cell 0;have kd3:∀o,L_ (w.drew.alloc o) p 3 (I_ 0):=fun o=>(h.drew.alloc o).cell 3
 go_region_law ((first
  |(go_simp
    go_at_call 201
    refine jd.mono ?_;rintro e w2 ⟨rfl,q,rfl⟩;have g0:L_ (w1.drewN q) p 0 (X_ (some ⟨b,off,none⟩) 8 c):=k0;have g3:L_ (w1.drewN q) p 3 (I_ 0):=k3;go_wp2_with fail)
  |fail))
 all_goals
  go_wp2;go_ret2;exact⟨rfl,n1.drewN q⟩
theorem G2(p:Nat) (A:Option Addr) (c:Nat) (w:World) (h:af w p 176 #[X_ A 0 c,I_ 0,I_ 0,I_ 0]):
 H_ 148 #[Q_ p] w fun e w'=>e=.returned (.tuple #[I_ 0,R_ false])/\One p w w'/\af w' p 176 #[X_ A 0 c,I_ 0,I_ 0,I_ 0]:=by
 have c0:=h.k0;have c3:=h.k3
 obtain⟨A2,jE⟩:∃A2,∀W,(Instr.sliceAt 23 (X_ A 0 c) (some (I_ 0)) none none).run prog W=.ok (X_ A2 0 c) W:=by
  rcases A with _|A
  ·exact⟨none,fun W=>by
    rw [rZ (P:=prog) W _ _ _ _ _ underlying23]
    go_simp⟩
  ·exact⟨some A,fun W=>by
    rw [rZ (P:=prog) W _ _ _ _ _ underlying23]
    go_simp⟩
 go_enter func148,ntmps148
 go_wp2_with fail
 obtain⟨w1,kY,n1,hC⟩:=oT w #[B_ 13,B_ 10] 2;have jd:=Tryz.bytes_Index_longer A2 (M_ w) 0 c 2 2 w1 D_ D_ D_;have h1:=n1.ai h;have k0:=h1.k0;have k3:=h1.k3;have hp:=h1.lt;have hf:=h1.frozen 3;have kb0:∀o,L_ (w.alloc o) p 0 (X_ A 0 c):=fun o=>(h.alloc o).cell 0;have kb3:∀o,L_ (w.alloc o) p 3 (I_ 0):=fun o=>(h.alloc o).cell 3;have kd0:∀o,L_ (w.drew.alloc o) p 0 (X_ A 0 c):=fun o=>(h.drew.alloc o).cell 0;have kd3:∀o,L_ (w.drew.alloc o) p 3 (I_ 0):=fun o=>(h.drew.alloc o).cell 3
 go_region_law ((first
  |(go_simp
    go_at_call 201
    refine jd.mono ?_;rintro e w2 ⟨rfl,rfl⟩;go_wp2_with fail)
  |fail))
 all_goals
  clear kY jd c0 c3 kb0 kb3 kd0 kd3;go_wp2_with (first|go_region|fail)
  go_ret2;have hm:max (0:Int) (-1)=0:=rfl;rw [hm]
  first
  |exact⟨rfl,((ae.to n1).trans ((One.refl p w2).set 3 _)),h1.al 3 _⟩
  |exact⟨rfl,((ae.to n1).trans ((One.refl p w2).set 3 _)).drew,h1.al 3 _⟩
  |exact⟨rfl,(((ae.to n1).drew).trans ((One.refl p w2.drew).set 3 _)),h1.drew.al 3 _⟩
theorem ue(b off c:Nat) (x:UInt8) (hx:x=97\/x=98) (hc:6<=c) (w:World) (hb:jh w b off (fo x)):
 H_ 149 #[X_ (some ⟨b,off,none⟩) 6 c] w fun e w'=>e=.returned (.tuple #[I_ 0,R_ false])/\ae w w':=by
 have hsf:Lib.hasSuffix (fo x) [125]=false:=by rcases hx with rfl|rfl<;>decide
 obtain⟨w1,kY,n1,hC⟩:=jr w #[B_ 125] 1;have gN:=hb.new n1;have cK:=Tryz.bytes_CutSuffix_all (some ⟨b,off,none⟩) (M_ w) 6 c 1 1 (nums (fo x)) [125] w1 (aW _) rfl hc D_ ?_ ?_
 ·rw [j_]at cK
  change H_ 202 _ w1 fun e w'=>e=.returned (.tuple #[_,R_ (Lib.hasSuffix (fo x) [125])])/\_ at cK
  rw [hsf]at cK
  go_enter func149,ntmps149
  go_wp2_with fail
  refine cK.mono ?_;rintro e w2 ⟨rfl,rfl⟩;go_wp2;go_ret2;exact⟨rfl,n1⟩
 ·exact fun _=>⟨b,off,rfl,gN.cells⟩
 ·refine fun _=>⟨w.heap.size,0,rfl,fun i hi=>?_⟩;obtain rfl:i=0:=O_
  exact hC 0 _ rfl
theorem vT(p:Nat) (v:Value) (hv:Gb v) (w:World) (h:af w p 176 #[v,I_ 0,I_ 0,I_ 0]):
 H_ 106 #[Q_ p] w fun e w'=>e=.returned (.tuple #[.agg #[I_ 0,Z_],R_ false])/\One p w w'/\af w' p 176 #[v,I_ 0,I_ 0,I_ 0]:=by
 obtain⟨A,c,rfl⟩:=hv;have hmf:=atQ;have n0:ae w (W_ w #[I_ 0,Z_] 174):=(ae.refl w).alloc _;have h0:=n0.ai h;have r0:af (W_ w #[I_ 0,Z_] 174) w 174 #[I_ 0,Z_]:=af.new _ _ _;have bJ:=h.lt
 go_enter func106,ntmps106
 go_wp2_with fail
 refine(qf p A 0 c O_ _ h0).mono ?_;rintro e w1 ⟨rfl,o1,s1,h1⟩;have r1:=o1.ai r0 O_;go_wp2_with fail
 refine(G2 p A c _ h1).mono ?_;rintro e w2 ⟨rfl,o2,h2⟩;have r2:=o2.ai r1 O_;obtain⟨k0,k1⟩:=r2.dQ;have f0:=r2.dq;go_wp2_with fail
 have hR:=r2.bP (I_ 0) Z_;refine r_ (aC rfl _ _ rfl rfl (fJ hR)) rfl ⟨rfl,Fr.setCell (Fr.setCell ((ae.to n0).trans (o1.trans o2)) (p:=⟨w.heap.size,0,none⟩) (fun h=>absurd h (bh _)) (I_ 0)) (p:=⟨w.heap.size,1,none⟩) (fun h=>absurd h (bh _)) Z_,?_⟩;exact(h2.bL (p:=⟨w.heap.size,0,none⟩) (by show p≠w.heap.size;omega) _).bL (p:=⟨w.heap.size,1,none⟩) (by show p≠w.heap.size;omega) _
theorem jh.rd {w:World}{b off:Nat}{l:List UInt8}(h:jh w b off l) (c:Nat) (hc:l.length<=c):Rd (ak .u8) w (X_ (some ⟨b,off,none⟩) l.length c) (nums l):=by
 refine⟨_,_,by rw [aW],by rw [aW];exact hc,fun _=>⟨_,_,rfl,fun i x hx j u hu=>?_⟩⟩
 have hj:j=0:=by
  rcases j with _|j
  ·rfl
  ·simp [ak]at hu
 subst hj;obtain rfl:u=B_ x:=by simp [ak]at hu;exact hu.symm
 unfold nums at hx;rw [OX]at hx
 cases hl:l[i]? with
 |none=>rw [hl]at hx;cases hx
 |some y=>
  rw [hl]at hx;obtain rfl:(y.toNat:Int)=x:=by simpa using hx
  have:=h i y hl
  show w.cell? (C_ b (off+(i*1+0)))=_
  rw [RZ,Au];exact this
theorem mX(x:UInt8):(fo x).length=6:=rfl
theorem zk(p b off c:Nat) (x:UInt8) (hx:x=97\/x=98) (hc:8<=c) (hbp:b≠p) (w:World) (_hT:b_ w) (h:af w p 176 #[X_ (some ⟨b,off,none⟩) 8 c,I_ 0,I_ 0,I_ 0]) (hb:jh w b off (eV x)) (amb:b<w.heap.size) (AN:∀w',One p w w'->b_ w'):
 H_ 106 #[Q_ p] w fun e w'=>∃d v,e=.returned (.tuple #[.agg #[I_ 1,d],R_ true])/\One p w w'/\Own (ak .u8) 5 w.heap.size w' d (nums (fo x))/\
  Gb v/\af w' p 176 #[v,I_ 0,I_ 0,I_ 0]:=by
 have hmf:=atQ;have n0:ae w (W_ w #[I_ 0,Z_] 174):=(ae.refl w).alloc _;have h0:=n0.ai h;have r0:af (W_ w #[I_ 0,Z_] 174) w 174 #[I_ 0,Z_]:=af.new _ _ _;have bJ:=h.lt;have ti:=hb.new n0;have s0:(w.alloc (G_ #[I_ 0,Z_] 174)).heap.size=w.heap.size+1:=by rw [gz]
 have HPT:=ac5 AN;have hc6:¬(c:Int)<6:=O_
 have jE:∀W,(Instr.sliceAt 23 (X_ (some ⟨b,off,none⟩) 8 c) (some (I_ 0)) (some (I_ 6)) none).run prog W=.ok (X_ (some ⟨b,off,none⟩) 6 c) W:=fun W=>by
  rw [rZ (P:=prog) W _ _ _ _ _ underlying23]
  go_simp
 have T5:∀W,(Instr.sliceAt 23 (X_ (some ⟨b,off,none⟩) 8 c) none (some (I_ 6)) none).run prog W=.ok (X_ (some ⟨b,off,none⟩) 6 c) W:=fun W=>by
  rw [rZ (P:=prog) W _ _ _ _ _ underlying23]
  go_simp
 clear AN
 go_enter func106,ntmps106
 go_wp2_with fail
 refine(qf p (some ⟨b,off,none⟩) 8 c O_ _ h0).mono ?_;rintro e w1 ⟨rfl,o1,s1,h1⟩;have r1:=o1.ai r0 O_;have gN:=ti.fr o1 hbp;have Pd:=(ae.to n0).trans o1;go_wp2_with fail
 refine(T4 p b off c x hx hc _ (HPT.out _ Pd) h1 gN).mono ?_;rintro e w2 ⟨rfl,m2⟩;have r2:=m2.ai r1;have h2:=m2.ai h1;have eP:=gN.new m2;have T7:=Pd.trans (ae.to m2);obtain⟨k0,k1,k2,k3⟩:=h2.rQ;clear r0 r1 h0 h1 ti gN Pd o1;go_wp2_with (first|go_region|fail)
 have qp:jh w2.drew b off (fo x):=jh.take eP 6;refine(ue b off c x hx O_ _ qp).mono ?_;rintro e w3 ⟨rfl,m3⟩;have m23:ae w2 w3:=Fr.trans (ae.refl w2).drew m3;have r3:=m23.ai r2;have h3:=m23.ai h2;have ez:Rd (ak .u8) w3 (X_ (some ⟨b,off,none⟩) 6 c) (nums (fo x)):=(qp.new m3).rd c (by rw [mX];omega);have T8:=T7.trans (ae.to m23);have s3:=T8.size;have l3:=r3.lt;clear k0 k1 k2 k3 r2 h2 eP qp T7 m2 m3;obtain⟨k0,k1,k2,k3⟩:=h3.rQ;go_wp2_with (first|go_region|fail)
 refine(GM p 1 _ (nums (fo x)) b off 8 c O_ hc _ _ _ _ h3 ez (by rw [aW,mX];decide) (by simpa [Value.ownBlock]using hbp)).mono ?_;rintro e w4 ⟨d,v,rfl,o4,hd,hv,h4⟩;have r4:=o4.ai r3 O_;obtain⟨q0,q1⟩:=r4.dQ;have f4:=r4.dq;obtain⟨dA,dC,rfl,_⟩:=hd.form;go_wp2;have hR:=r4.bP (I_ 1) (X_ dA (nums (fo x)).length dC);refine r_ (aC rfl _ _ rfl rfl (fJ hR)) rfl ⟨_,v,rfl,Fr.setCell (Fr.setCell (T8.trans o4) (p:=⟨w.heap.size,0,none⟩) (fun h=>absurd h (bh _)) (I_ 1)) (p:=⟨w.heap.size,1,none⟩) (fun h=>absurd h (bh _)) (X_ dA (nums (fo x)).length dC),?_,hv,?_⟩
 ·refine(hd.mono s3).fr (One.bP w4 w.heap.size _ _) fun g hg e=>?_;have:=(hd.block hg).1;have e:=e;omega
 ·exact(h4.bL (p:=⟨w.heap.size,0,none⟩) (by show p≠w.heap.size;omega) _).bL (p:=⟨w.heap.size,1,none⟩) (by show p≠w.heap.size;omega) _
section
attribute [local go_sem] wT
structure uK where
 k:Int
 A:Option Addr
 n:Nat
 c:Nat
def uK.val (x:uK):Value:=.agg #[I_ x.k,X_ x.A x.n x.c]
def im:cr uK where
 enc x:=[I_ x.k,X_ x.A x.n x.c]
 sz:=2
 len _:=rfl
 one x u hu:=by simp at hu;rcases hu with rfl|rfl<;>rfl
 pos:=O_
theorem qt:(prog.info? 174).map (fun i=>(i.zero,i.size,i.bytes))=some (some (.agg #[.int .i64 0,.slice none 0 0]),2,32):=K_
theorem qu{base:Nat}{w:World}{v:Value}{l:List UInt8}(h:Own (ak .u8) 5 base w v (nums l)) (hl:l≠[]):
 ∃b off c,v=X_ (some ⟨b,off,none⟩) l.length c/\l.length<=c/\jh w b off l/\v.ownBlock=some b/\base<=b/\b<w.heap.size:=by
 obtain⟨A,c,rfl,hc,h3⟩:=h.rd;rw [aW]at hc;obtain⟨b,off,rfl,aF⟩:=h3 (by cases l<;>simp [nums]at hl⊢);refine⟨b,off,c,by rw [aW],hc,fun i x hx=>?_,rfl,h.block rfl⟩;have:=aF i (x.toNat:Int) (by unfold nums;rw [OX,hx];rfl) 0 _ rfl;have e:(ak .u8).sz=1:=rfl;rw [e,RZ,Au]at this;exact this
theorem jI{α:Type}{E:cr α}{w:World}{g:Nat}{t:TypeId}{x:α}(h:af w g t (E.enc x).toArray):Rd E w (X_ (M_ g) 1 1) [x]:=by
 refine⟨_,1,rfl,aA _,fun _=>⟨g,0,rfl,fun i y hy j u hu=>?_⟩⟩
 have hi:i=0:=by
  rcases i with _|i
  ·rfl
  ·simp at hy
 subst hi;obtain rfl:x=y:=by simpa using hy
 have:=h.cell j;rw [aT,aH,aH];rw [this];simpa using hu
theorem Dw(p:Nat) (w:World):H_ 76 #[Q_ p] w fun e w'=>e=.returned (.func (.func 105) #[] #[Q_ w])/\w'=w.alloc (G_ #[Q_ p] 126):=by
 have hmf:=atQ
 go_enter func76,ntmps76
 go_wp2;go_ret;exact⟨rfl,rfl⟩
theorem vV(b off c:Nat) (x:UInt8) (hx:x=97\/x=98) (hc:8<=c) (w:World) (hT:b_ w) (hb:jh w b off (eV x)):
 H_ 48 #[X_ (some ⟨b,off,none⟩) 8 c] w fun e w'=>(∃A C,e=.returned (.tuple #[X_ A 1 C,I_ 0]))/\ae w w':=by
 obtain⟨i0,hi,dw,cE,dy⟩:=wF qt;have ez:Rd (ak .u8) w (X_ (some ⟨b,off,none⟩) 8 c) (nums (eV x)):=hb.rd c hc;have HT:=ac5 hT;clear hT;refine(ay (n:=6)).1 ?_;refine jJ func48 rfl trivial ?_ rfl;simp only [ntmps48,PA,iU,WL,Nat.reduceAdd,Nat.reduceSub,rX,rY,eL,iY,Qv,OZ]
 gi_wp2_with (first
  |(refine⟨trivial,?_⟩;gi_at_call 52
    refine(callsIn_wide.2 (vM _)).mono ?_;rintro e w1 ⟨rfl,rfl⟩;have b1:=af.new w 176 #[Z_,I_ 0,I_ 0,I_ 0];have n1:ae w (W_ w #[Z_,I_ 0,I_ 0,I_ 0] 176):=(ae.refl w).alloc _;have Pg:=ez.alloc (G_ #[Z_,I_ 0,I_ 0,I_ 0] 176))
  |(refine⟨trivial,?_⟩;gi_at_call 53
    refine(callsIn_wide.2 (vN w.heap.size _ _ _ b1 Pg (by rw [aW];show 8<=100000;omega))).mono ?_;rintro e w2 ⟨rfl,o2,v2,b2,dR⟩;have n2:=ae.one n1 o2 (aA _))
  |(refine⟨trivial,?_⟩;gi_at_call 76
    refine(callsIn_wide.2 (Dw w.heap.size _)).mono ?_;rintro e w3 ⟨rfl,rfl⟩)
  |fail)
 have bO:af (W_ (W_ w2 #[Z_] 121) #[Q_ w] 126) w2 121 #[Z_]:=(af.new _ _ _).alloc _;have bA:af (W_ (W_ w2 #[Z_] 121) #[Q_ w] 126) (w2.heap.size+1) 126 #[Q_ w]:=af.cD _ _ _ _;have bS:=(b2.alloc (G_ #[Z_] 121)).alloc (G_ #[Q_ w] 126);have hvL:=(dR.alloc (G_ #[Z_] 121)).alloc (G_ #[Q_ w] 126);have nL:=(n2.alloc (G_ #[Z_] 121)).alloc (G_ #[Q_ w] 126);have pP:=b2.lt;generalize((w2.alloc (G_ #[Z_] 121)).alloc (G_ #[Q_ w] 126))=wL at*;have hlA:=bA.lt;obtain⟨g,o,c',rfl,rH,G1,AQ,hg0,NO⟩:=qu hvL (by simp [eV]);have hgp:g≠w.heap.size:=fun e=>hvL.ar bS D_ (by rw [<-e];exact AQ);clear b1 n1 Pg o2 b2 n2 dR;generalize w2.heap.size=OB at*
 refine fp (α:=uK) rfl D_ (gf:=105) (lb:= #[Q_ (OB+1)]) rfl trivial (Aw func105 K_ rfl) (encs:=fun x=> #[x.val]) (fun _=>rfl) (S:=fun xs=>xs.length=1) (Sp:=fun _=>False)
  (fun pre W=>pre≠[]->(∃A C,af W OB 121 #[X_ A pre.length C])/\ae w W/\(∃v,Gb v/\af W w 176 #[v,I_ 0,I_ 0,I_ 0])/\af W (OB+1) 126 #[Q_ w])
  (fun pre _ W=>pre=[]/\af W OB 121 #[Z_]/\ae w W/\(∃v,Gb v/\af W w 176 #[v,I_ 0,I_ 0,I_ 0])/\af W (OB+1) 126 #[Q_ w])
  (fun _ _ _=>False)
  (bN fun s W W' h t hs=>by
    obtain⟨⟨A,C,h1⟩,h2,⟨v,hv,h3⟩,h4⟩:=h hs;exact⟨⟨A,C,t.ai h1⟩,t.lI h2 nL.size,⟨v,hv,t.ai h3⟩,t.ai h4⟩)
  (fun pre x=>bN fun _ W W' h t=>by
    obtain⟨h0,h1,h2,⟨v,hv,h3⟩,h4⟩:=h;exact⟨h0,t.ai h1,t.lI h2 nL.size,⟨v,hv,t.ai h3⟩,t.ai h4⟩)
  (fun _=>bN fun _ _ _ h _=>h) (fun h=>absurd rfl h) ?hseq
  (fun x a' W=>∃Bx,af W Bx 174 #[I_ x.k,X_ x.A x.n x.c]/\a'={tmps:= #[X_ (some ⟨b,off,none⟩) 8 c,undef,Z_,I_ 0,Q_ w,Q_ OB,Q_ Bx,Q_ w,Q_ w,X_ (some ⟨b,off,none⟩) 8 c,.tuple #[],Q_ w,.func (.func 105) #[] #[Q_ (OB+1)],x.val,undef,undef,undef,undef,undef,undef,undef],defers:=[]})
  (fun x a'=>bN fun _ W W' h t=>by
    obtain⟨Bx,h1,h2⟩:=h;exact⟨Bx,t.ai h1,h2⟩)
  ?hassign ?hbody ?hdone (fun _ _ _ _ _ h=>h.elim)
 case hassign=>
  intro l pre x W K hJ hK;obtain⟨h0,h1,h2,⟨v,hv,h3⟩,h4⟩:=hJ;unfold uK.val at hK⊢
  gi_wp2
  exact hK _ _ ((KeepsOthers.alloc _ _).from _) ⟨h0,h1.alloc _,h2.alloc _,⟨v,hv,h3.alloc _⟩,h4.alloc _⟩ ⟨W.heap.size,af.new _ _ _,rfl⟩
 case hbody=>
  rintro l pre ⟨xk,xA,xn,xc⟩ a' W hl hr ⟨rfl,h1,h2,⟨v,hv,h3⟩,h4⟩ ⟨Bx,bX,rfl⟩;have c0:=h1.cell 0;have c1:L_ W OB 0 Z_:=c0;obtain⟨x0,x1⟩:=bX.dQ;have br:=Own.nil im 174 w.heap.size (W_ W #[I_ xk,X_ xA xn xc] 174);have pO:Rd im (W_ W #[I_ xk,X_ xA xn xc] 174) (X_ (M_ W) 1 1) [⟨xk,xA,xn,xc⟩]:=jI (E:=im) (x:=⟨xk,xA,xn,xc⟩) (t:=174) (af.new _ _ _)
  gi_wp2_with (gi_at_builtin;refine dV (E:=im) rfl _ _ _ rfl underlying121 hi dw cE dy rfl br rfl pO rfl (by unfold maxLen;simp) S_ (by have:=h2.size;rw [gz];omega) ?_;intro v1 w1 fE iE pM;have m1:ae W w1:=Fr.trans ((ae.refl W).alloc _) (iE.mono fun i _ e=>by cases e);have e1:=m1.ai h1;have c2:=e1.k0;have f2:=e1.frozen 0;obtain⟨A1,C1,rfl,_⟩:=fE.form)
  refine⟨gp ((ae.to m1).trans ((One.refl OB w1).set 0 _)) (fun k hk=>by have hk:=hk;omega),fun _=>⟨⟨A1,C1,e1.al 0 _⟩,ae.one (h2.trans m1) ((One.refl OB w1).set 0 _) O_,⟨v,hv,(m1.ai h3).bL (p:=⟨OB,0,none⟩) (by show w.heap.size≠OB;omega) _⟩,(m1.ai h4).bL (p:=⟨OB,0,none⟩) (by show OB+1≠OB;omega) _⟩⟩
 case hdone=>
  intro D xs W hD hS hI hK;obtain⟨⟨A,C,h1⟩,h2,⟨v,hv,h3⟩,h4⟩:=hI (by rintro rfl;cases hS);rw [hS]at h1;obtain⟨sA,sc,rfl⟩:=hv;have c0:=h1.k0;have Lz:W.drew.heap[D]? =some (.deferred (some [])):=hK
  gi_wp2_with fail
  refine wpIn_wide.2 ?_
  go_region_held3 (fun W'=>L_ W' OB 0 (X_ A 1 C)) (first|go_keep|assumption) ((first
   |(go_at_call 77
     refine(CZ w.heap.size sA 0 sc _ _ _ _ h3.drew).mono ?_;rintro e w4 ⟨rfl,rfl⟩;have c4:L_ W.drew OB 0 (X_ A 1 C):=c0)
   |fail))
  gi_wp2
  refine⟨S_,.inl ⟨_,_,rfl,Gx Lz,?_⟩⟩;refine⟨_,cF rfl _ _ _,⟨A,C,rfl⟩,?_⟩;exact Fr.trans' h2.drew (Fr.dW (S:=fun k=>D=k) (bH _ D _) fun i hi=>by injection hi) fun i hi hk=>by have:=nL.size;omega
 case hseq=>
  intro l K Kx W1 hB hKm YE k1 i1 gA;have m1:ae wL W1:=Fr.eF hB fun i h1 h2=>absurd h1 O_;have s1:=m1.ai bS;have a1:=m1.ai bA;have o1:=m1.ai bO;have t1:=G1.new m1;have ca:=a1.k0;have nW:=nL.trans m1;refine rW func105 rfl trivial ?_ rfl;simp only [ntmps105,PA,iU,WL,Nat.reduceAdd,Nat.reduceSub,rX,rY,eL,iY,Qv,OZ]
  gi_wp2_with fail
  refine wpIn_loop_rounds 2 ?_;rw [roundsIn_succ]
  gi_wp2_with fail
  refine⟨trivial,?_⟩;refine(callsIn_wide.2 (zk w.heap.size g o c' x hx rH hgp W1 (HT.out.new nW) s1 t1 (fw NO m1.size) fun w' o'=>HT.out.new (ae.one nW o' (aA _)))).mono ?_;rintro e w3 ⟨d,v,rfl,o3,hd,hv,s3⟩;obtain⟨dA,dC,rfl,_⟩:=hd.form
  obtain⟨fn,tmps,assign,body,hy,hR⟩:=gA [] ⟨1,dA,(nums (fo x)).length,dC⟩ (W_ w3 #[I_ 1,X_ dA (nums (fo x)).length dC] 174)
   ⟨rfl,(o3.ai o1 O_).alloc _,(ae.one nW o3 (aA _)).alloc _,⟨v,hv,s3.alloc _⟩,(o3.ai a1 O_).alloc _⟩
   (hKm _ _ k1 (gp (o3.alloc _) fun k hk=>by have hk:=hk;omega))
  dsimp only [uK.val]at hy
  gi_wp2_with fail
  refine hR.mono ?_;rintro e W5 (⟨rfl,SR,k5⟩|⟨rfl,c0,hf,_⟩)
  ·obtain⟨⟨A5,C5,q1⟩,q2,⟨v5,oV,q3⟩,q4⟩:=SR S_;have ca5:=q4.k0;clear hR hy gA hd o3 hv s3 s1 a1 o1 t1 ca nW
   gi_wp2_with fail
   rw [roundsIn_succ]
   gi_wp2_with fail
   refine⟨trivial,?_⟩;refine(callsIn_wide.2 (vT w.heap.size v5 oV W5 q3)).mono ?_;rintro e w6 ⟨rfl,o6,s6⟩
   gi_wp2
   all_goals
    refine⟨fun _ h=>(by cases h),?_⟩
    gi_wp2
   all_goals
    refine r_ (G6 rfl _ _ _) rfl ?_
    exact⟨⟨_,rfl⟩,.inl ⟨[⟨1,dA,(nums (fo x)).length,dC⟩],rfl,fun _=>⟨⟨A5,C5,(o6.ai q1 O_).alloc _⟩,(ae.one q2 o6 (aA _)).alloc _,⟨v5,oV,s6.alloc _⟩,(o6.ai q4 O_).alloc _⟩,
     hKm _ _ k5 (gp (o6.alloc _) fun k hk=>by have hk:=hk;omega)⟩⟩
  ·exact hf.elim
end
structure SB(w:World) (A:Option Addr) (c:Nat) (l:List UInt8):Prop where
 hc:l.length<=c
 f:(A=none/\c=0)\/∃b off,A=some ⟨b,off,none⟩
 b:l≠[]->∃b off,A=some ⟨b,off,none⟩/\jh w b off l
def kh(A:Option Addr) (c i:Nat):Option Addr:=if c=i then A else A.map (·.add (i*1))
section
variable{w w':World}{A:Option Addr}{c:Nat}{l:List UInt8}
theorem SB.rd (h:SB w A c l):Rd (ak .u8) w (X_ A l.length c) (nums l):=by
 refine⟨A,c,by rw [aW],by rw [aW];exact h.hc,fun bV=>?_⟩;obtain⟨b,off,rfl,hb⟩:=h.b (fun e=>bV (by rw [e];rfl));obtain⟨A',c',he,rH,h3⟩:=hb.rd c h.hc;injection he with e1 e2 e3;subst e1;exact h3 bV
theorem SB.fr {S:Nat->Prop}(h:SB w A c l) (hf:Fr S w w') (hS:∀b off,A=some ⟨b,off,none⟩->l≠[]->¬S b):SB w' A c l:=
 ⟨h.hc,h.f,fun hl=>by obtain⟨b,off,e,hb⟩:=h.b hl;exact⟨b,off,e,hb.fr hf (hS b off e hl)⟩⟩
theorem SB.new (h:SB w A c l) (hn:ae w w'):SB w' A c l:=h.fr hn fun _ _ _ _=>id
theorem SB.nil (w:World):SB w none 0 []:=⟨aA _,.inl ⟨rfl,rfl⟩,fun h=>absurd rfl h⟩
theorem SB.vX {base:Nat}{v:Value}(h:Own (ak .u8) 5 base w v (nums l)):∃A c,v=X_ A l.length c/\SB w A c l/\∀b off,A=some ⟨b,off,none⟩->base<=b/\b<w.heap.size:=by
 have h0:=h.2;rcases h0 with hh|⟨g,k,cs,hh,hb⟩
 ·obtain⟨hv,e2⟩:=hh;subst hv;rw [aW]at e2;have hl:=wk e2;subst hl;exact⟨none,0,rfl,SB.nil _,fun b off e=>by cases e⟩
 ·obtain⟨A,c,he,hc⟩:=h.form;rw [aW]at he hc;subst hh;injection he with e1 e2 e3;subst e1;rw [e2,e3]at h⊢;refine⟨_,c,rfl,⟨hc,.inr ⟨_,_,rfl⟩,fun hl=>?_⟩,fun b' ug e=>?_⟩
  ·obtain⟨b,off,c',he,hc,hb,ho,h1,h2⟩:=qu h hl;injection he with e1 e2 e3;exact⟨b,off,e1,hb⟩
  ·injection e with e;injection e with e1;subst e1;exact h.block rfl
theorem SB.cutAt (h:SB w A c l) (i j:Nat) (hj:j<=l.length):SB w (kh A c i) (c-i) ((l.drop i).take (j-i)):=by
 have hc:=h.hc;refine⟨by rw [jo,gj];omega,?_,fun hl=>?_⟩
 ·unfold kh
  split
  ·rename_i hci
   rcases h.f with⟨e,e2⟩|e
   ·exact .inl ⟨e,O_⟩
   ·exact .inr e
  ·rcases h.f with⟨e,e2⟩|⟨b,off,e⟩
   ·exact .inl ⟨by rw [e];rfl,O_⟩
   ·exact .inr ⟨b,off+i*1,by rw [e,Pk,kR]⟩
 ·have pQ:l≠[]:=by
   rintro rfl;exact hl S_
  have NR:i<l.length:=by
   rcases GA i l.length with h1|h1
   ·exact h1
   ·exact absurd (by rw [PU h1];simp) hl
  obtain⟨b,off,e,hb⟩:=h.b pQ;refine⟨b,off+i,?_,(hb.drop i).take (j-i)⟩;unfold kh;rw [if_neg O_,e,RZ,Pk,kR]
theorem SB.cut (h:SB w A c l) (i j:Nat) (G9:i<=j) (hj:j<=l.length) (W:World):
 (Instr.sliceAt 23 (X_ A l.length c) (some (I_ i)) (some (I_ j)) none).run prog W=.ok (X_ (kh A c i) (j-i) (c-i)) W:=by
 have hc:=h.hc;have h1:(j:Int)<=c:=O_
 have h2:(i:Int)<=j:=O_
 rw [rZ (P:=prog) W _ _ _ _ _ underlying23];unfold kh
 go_simp
theorem SB.AT (h:SB w A c l) (j:Nat) (hj:j<=l.length) (W:World):
 (Instr.sliceAt 23 (X_ A l.length c) none (some (I_ j)) none).run prog W=.ok (X_ A j c) W:=by
 have hc:=h.hc;have h1:(j:Int)<=c:=O_
 rw [rZ (P:=prog) W _ _ _ _ _ underlying23]
 go_simp
theorem SB.me (h:SB w A c l) (i:Nat) (hi:i<=l.length) (W:World):
 (Instr.sliceAt 23 (X_ A l.length c) (some (I_ i)) none none).run prog W=.ok (X_ (kh A c i) (l.length-i) (c-i)) W:=by
 have hc:=h.hc;have h1:(i:Int)<=l.length:=O_
 rw [rZ (P:=prog) W _ _ _ _ _ underlying23];unfold kh
 go_simp
theorem SB.conv (h:SB w A c l) (W:World) (hW:SB W A c l):(convert 23 9 (X_ A l.length c)).run prog W=.ok (T_ ⟨l.toArray⟩) W:=by
 rcases h.f with⟨e,_⟩|⟨b,off,e⟩
 ·subst e
  have:l=[]:=by
   by_cases hl:l=[]
   ·exact hl
   ·obtain⟨b,off,e,_⟩:=h.b hl;cases e
  subst this;exact Wy (P:=prog) W 23 9 5 c underlying23 underlying5 underlying9
 ·subst e;by_cases hl:l=[]
  ·subst hl;have hb:jh W b off []:=fun i x hx=>by simp at hx
   exact hb.conv c
  ·obtain⟨b',ug,e,hb⟩:=hW.b hl;injection e with e;injection e with e1 e2;subst e1 e2;exact hb.conv c
end
theorem LG(A:Option Addr) (c:Nat) (l:List UInt8) (hl:l.length<=1000000) (x:Int) (w:World) (h:SB w A c l):
 H_ 270 #[X_ A l.length c,B_ x] w fun e w'=>(∃i:Int,e=.returned (I_ i)/\ -1<=i/\i<l.length)/\ae w w':=by
 have H:=ac5 h;clear h;have cU:IntKind.i64.wrap ((l.length:Int)-1)=l.length-1:=aM _ O_
 go_enter func270,ntmps270
 go_wp2_with fail
 go_loopw [5] (fun vi wr=>∃k:Nat,k<=l.length/\vi=I_ ((k:Int)-1)/\ae w wr) (fun vi _=>(intOf vi+1).toNat)
 case atStart=>exact⟨l.length,aA _,rfl,ae.refl _⟩
 case round=>
  obtain⟨k,hk,rfl,hn⟩:=hrel;rcases k with _|k
  ·go_wp2;go_ret;exact⟨⟨-1,rfl,O_,O_⟩,hn⟩
  ·obtain⟨b,off,rfl,hb⟩:=H.out.b (by rintro rfl;simp at hk);have hx:l[k]? =some l[k]:=DW O_;obtain⟨y,hy⟩:∃y,y=l[k]:=⟨_,rfl⟩;rw [<-hy]at hx;have e0:(((k+1:Nat):Int)-1)=k:=O_
   rw [e0];have c0:=Fr.cell hn (hb k y hx) id;have hw:IntKind.i64.wrap ((k:Int)-1)=k-1:=aM _ O_;clear hy hx;go_wp2
   all_goals
    first
    |(go_ret
      exact⟨⟨k,rfl,O_,O_⟩,hn⟩)
    |skip
   go_roundw
   case rel=>exact⟨k,O_,rfl,hn⟩
   case measure=>simp [intOf]
theorem Pp(A:Option Addr) (c:Nat) (l:List UInt8) (hl:l.length<=1000000) (x:Int) (w:World) (h:SB w A c l):
 H_ 203 #[X_ A l.length c,B_ x] w fun e w'=>(∃i:Int,e=.returned (I_ i)/\ -1<=i/\i<l.length)/\ae w w':=by
 have H:=ac5 (LG A c l hl x w h);clear h
 go_enter func203,ntmps203
 go_wp2_with fail
 refine H.out.mono ?_;rintro e w1 ⟨⟨i,rfl,h1,h2⟩,n1⟩;go_wp2;go_ret;exact⟨⟨i,rfl,h1,h2⟩,n1⟩
theorem SB.Ug {w:World}{A:Option Addr}{c:Nat}{l:List UInt8}(h:SB w A c l):Lib.BytesIn w A l.length (nums l):=fun hn=>by
 obtain⟨b,off,e,hb⟩:=h.b (by rintro rfl;simp at hn);exact⟨b,off,e,hb.cells⟩
theorem SB.trim {w:World}{A:Option Addr}{c:Nat}{l:List UInt8}(h:SB w A c l):∃l',Lib.trimSuffixV A l.length c (nums l) [125]=X_ A l'.length c/\SB w A c l'/\l'.length<=l.length:=by
 unfold Lib.trimSuffixV
 split
 ·rename_i b o ys y heq _
  unfold Lib.bytesTrimSuffix
  split
  ·have hlen:(l.take (l.length-1)).length=l.length-1:=by rw [jo];omega
   refine⟨l.take (l.length-1),?_,?_,O_⟩
   ·rw [hlen];rfl
   ·exact⟨by have:=h.hc;omega,h.f,fun hl=>by
     obtain⟨b',off,e,hb⟩:=h.b (by rintro rfl;exact hl rfl);exact⟨b',off,e,hb.take _⟩⟩
  ·exact⟨l,rfl,h,aA _⟩
 ·exact⟨l,rfl,h,aA _⟩
theorem yj(A:Option Addr) (c:Nat) (l:List UInt8) (hl:l.length<=1000000) (w:World) (hT:fG w) (h:SB w A c l):
 H_ 149 #[X_ A l.length c] w fun e w'=>(∃(n:Nat) (q:Bool),e=.returned (.tuple #[I_ n,R_ q])/\n<4294967296)/\ae w w':=by
 obtain⟨w1,kY,n1,hC⟩:=jr w #[B_ 125] 1;have h1:=h.new n1
 have HC:=ac5 (Tryz.bytes_CutSuffix_all A (M_ w) l.length c 1 1 (nums l) [125] w1 (aW _) rfl h.hc O_ h1.Ug fun _=>⟨w.heap.size,0,rfl,fun i hi=>by
  obtain rfl:i=0:=O_
  exact hC 0 _ rfl⟩)
 obtain⟨l',hv,h2,sg⟩:=h1.trim;rw [hv]at HC;generalize Lib.hasSuffix (Lib.bytesOf (nums l)) (Lib.bytesOf [125])=q at HC;have HL:=ac5 (fun W (hW:ae w1 W)=>Pp A c l' O_ 123 W (h2.new hW));have HN:=ac5 (fun(s:ByteArray) (hs:s.size<=1000000) W (hW:ae w1 W)=>oY s hs W ((hT.new n1).new hW));have H:=ac5 (And.intro h2 n1);clear h h1 h2 n1 hT hC hv
 go_enter func149,ntmps149
 go_wp2_with fail
 refine HC.out.mono ?_;rintro e w2 ⟨rfl,rfl⟩
 cases q
 ·go_wp2;go_ret2;exact⟨⟨0,false,rfl,O_⟩,H.out.2⟩
 ·go_wp2_with fail
  refine(HL.out _ (ae.refl _)).mono ?_;rintro e w3 ⟨⟨i,rfl,iF,yk⟩,n3⟩;by_cases hi:i<0
  ·go_wp2;go_ret2;exact⟨⟨0,false,rfl,O_⟩,H.out.2.trans n3⟩
  ·obtain⟨k,rfl⟩:∃k:Nat,i=k:=⟨i.toNat,O_⟩;have hw:IntKind.i64.wrap ((k:Int)+1)=(k:Int)+1:=aM _ O_;have jE:∀W,(Instr.sliceAt 23 (X_ A l'.length c) (some (I_ ((k:Int)+1))) none none).run prog W=.ok (X_ (kh A c (k+1)) (l'.length-(k+1)) (c-(k+1))) W:=fun W=>H.out.1.me (k+1) O_ W;have je:=H.out.1.cutAt (k+1) l'.length (aA _);have hlen:((l'.drop (k+1)).take (l'.length-(k+1))).length=l'.length-(k+1):=by rw [jo,gj];omega
   obtain⟨lc,NT⟩:∃lc,lc=(l'.drop (k+1)).take (l'.length-(k+1)):=⟨_,rfl⟩;rw [<-NT]at je hlen;have G':=(je.new n3).conv w3 (je.new n3);rw [hlen]at G';have Gc:=ac5 (HN.out ⟨lc.toArray⟩ (by show lc.length<=1000000;omega) w3 n3);clear je NT;go_wp2_with fail
   refine Gc.out.mono ?_;rintro e w4 ⟨n4,u,q,rfl,hu⟩;have AU:IntKind.i64.wrap (u:Int)=u:=aM _ O_;go_wp2;go_ret2;exact⟨⟨u,q,rfl,hu⟩,(H.out.2.trans n3).trans n4⟩
abbrev i7:el prog 5 Int:=intKeys underlying5
theorem J9(w:World):(zeroValue 437).run prog w=.ok .nilFunc w:=K_
theorem H8(p q r s t:Value) (x:Int) (h0:x≠32) (h1:x≠40) (h2:x≠41) (h3:x≠34) (h4:x≠123):get (put (put (put (put (put [] 32 p) 40 q) 41 r) 34 s) 123 t) x=none:=by
 rw [aE _ _ h4,aE _ _ h3,aE _ _ h2,aE _ _ h1,aE _ _ h0,get_nil]
theorem P0{x:Int}(h:vS x=true):x≠32/\x≠40/\x≠41/\x≠34/\x≠123:=by
 refine⟨?_,?_,?_,?_,?_⟩<;>(rintro rfl;revert h;decide)
theorem L6(r b off c:Nat) (l:List UInt8) (hl:l.length<=1000000) (hc:l.length<=c) (hw:∀x∈l,vS (x.toNat:Int)=true) (h0:0<l.length) (w:World) (hr:af w r 433 #[X_ (some ⟨b,off,none⟩) l.length c,I_ 0]) (hb:jh w b off l) (SQ:b≠r):
 H_ 317 #[Q_ r] w fun e w'=>e=.returned (.tuple #[.agg #[I_ 4,T_ ⟨l.toArray⟩,I_ 0],R_ true])/\af w' r 433 #[X_ (some ⟨b,off,none⟩) l.length c,I_ l.length]/\One r w w':=by
 have bJ:=hr.lt;obtain⟨x0,xS⟩:∃x0,l[0]? =some x0:=⟨_,DW h0⟩;have hwx:=hw x0 (YX xS);have nf:=hb 0 x0 xS;rw [Au]at nf
 have dx:i7.ok (x0.toNat:Int):=by
  have:=x0.toNat_lt;have h2:IntKind.u8.min<=(x0.toNat:Int):=by rw [show IntKind.u8.min=0 from rfl];omega
  have h3:(x0.toNat:Int)<=IntKind.u8.max:=by rw [show IntKind.u8.max=255 from rfl];omega
  show(Lit.int .u8 _).wf=true
  simp [Lit.wf,h2,h3]
 have N0:=ac5 (P0 hwx);have P3:b<w.heap.size:=jH _ _ nf;generalize(x0.toNat:Int)=x at*;have uj:=ac5 dx;clear dx;have uH:= @run_makeMap prog;have hmf:=atQ;have vD:=HasMap.made i7 (W_ w #[I_ 0,E_,I_ 0] 435);rw [gz]at vD;have c0:=hr.k0;have c1:=hr.k1;have e0:L_ ((w.alloc (G_ #[I_ 0,E_,I_ 0] 435)).alloc (.map #[] 0)) r 0 (X_ (some ⟨b,off,none⟩) l.length c):=((hr.alloc _).alloc _).cell 0
 have e2:L_ ((w.alloc (G_ #[I_ 0,E_,I_ 0] 435)).alloc (.map #[] 0)) b off (B_ x):=by
  rw [Aq _ _ _ P_,Aq _ _ _ P3];exact nf
 go_enter func317,ntmps317
 go_wp2_with (first
  |(refine aw (E:=i7) rfl _ _ _ 470 437 rfl underlying470 vD (iB (aA 0) (by unfold maxLen;decide)) 32 (by show(Lit.int .u8 32).wf=true;decide) _ rfl rfl rfl ?_;intro zw1 GH CQ)
  |(refine aw (E:=i7) rfl _ _ _ 470 437 rfl underlying470 GH (iB (aj (aA 0)) (by unfold maxLen;decide)) 40 (by show(Lit.int .u8 40).wf=true;decide) _ rfl rfl rfl ?_;intro zw2 GJ AE)
  |(refine aw (E:=i7) rfl _ _ _ 470 437 rfl underlying470 GJ (iB (aj (aj (aA 0))) (by unfold maxLen;decide)) 41 (by show(Lit.int .u8 41).wf=true;decide) _ rfl rfl rfl ?_;intro zw3 GK AF)
  |(refine aw (E:=i7) rfl _ _ _ 470 437 rfl underlying470 GK (iB (aj (aj (aj (aA 0)))) (by unfold maxLen;decide)) 34 (by show(Lit.int .u8 34).wf=true;decide) _ rfl rfl rfl ?_;intro zw4 Ga CR)
  |(refine aw (E:=i7) rfl _ _ _ 470 437 rfl underlying470 Ga (iB (aj (aj (aj (aj (aA 0))))) (by unfold maxLen;decide)) 123 (by show(Lit.int .u8 123).wf=true;decide) _ rfl rfl rfl ?_;intro ub Lj CS
    have eN:(Instr.lookup 470 (.map (some (w.heap.size+1))) (B_ x) true).run prog ub=.ok (.tuple #[.nilFunc,R_ false]) ub:=by
     have h:=Lj.bD (t:=470) (e:=437) underlying470 (J9 ub) uj.out;rw [H8 _ _ _ _ _ x N0.out.1 N0.out.2.1 N0.out.2.2.1 N0.out.2.2.2.1 N0.out.2.2.2.2]at h;exact h
    have NW:Fr (fun k=>k=w.heap.size+1) (((w.alloc (G_ #[I_ 0,E_,I_ 0] 435)).alloc (.map #[] 0))) ub:=CQ.trans (AE.trans (AF.trans (CR.trans CS)));have d0:=Fr.cell NW e0 P_;have d2:=Fr.cell NW e2 P_))
 have hz:=CQ.trans (AE.trans (AF.trans (CR.trans CS)));have t0:af ((w.alloc (G_ #[I_ 0,E_,I_ 0] 435)).alloc (.map #[] 0)) w 435 #[I_ 0,E_,I_ 0]:=(af.new _ _ _).alloc _;have t5:=Fr.ai hz t0 O_;have r5:=Fr.ai hz ((hr.alloc _).alloc _) O_;have b5:=(hb.new (((ae.refl w).alloc _).alloc _)).fr hz O_;have s5:=hz.size;rw [gz,gz]at s5;have n5:=ae.one (((ae.refl w).alloc _).alloc _) hz O_;clear GH GJ GK Ga Lj CQ AE AF CR CS vD hz t0;refine(Pc r b off c l hl hc hw h0 ub r5 b5 SQ).mono ?_;rintro e w6 ⟨rfl,r6,o6⟩;have t6:=o6.ai t5 O_;have s6:=o6.size;have n6:One r w w6:=Fr.trans' (cz n5 fun _ h=>h.elim) o6 fun i _ h=>h;have g0:=t6.k0;have g1:=t6.k1;have g2:=t6.k2;have k0:=t6.frozen 0;have k1:=t6.frozen 1;have k2:=t6.frozen 2;have ai3:w.heap.size<w6.heap.size:=O_
 clear t5 r5 b5 n5 o6 s5 s6;go_wp2;have bV:r≠w.heap.size:=O_
 have q:=(((t6.al 0 (I_ 4)).al 1 (T_ ⟨l.toArray⟩)).al 2 (I_ 0)).alloc (G_ #[I_ 4,T_ ⟨l.toArray⟩,I_ 0] 435);refine r_ (cH rfl _ _ rfl rfl (fj q)) rfl ?_;exact⟨rfl,(((r6.bL (by simpa using bV) _).bL (by simpa using bV) _).bL (by simpa using bV) _).alloc _,(Fr.setCell (Fr.setCell (Fr.setCell n6 S_ _) S_ _) S_ _).alloc _⟩
theorem Ed(r:Nat) (A:Option Addr) (n c:Nat) (w:World) (hr:af w r 433 #[X_ A n c,I_ n]):
 H_ 317 #[Q_ r] w fun e w'=>e=.returned (.tuple #[.agg #[I_ 0,E_,I_ n],R_ true])/\ae w w':=by
 have bJ:=hr.lt;have c0:=hr.k0;have c1:=hr.k1;have t0:af (W_ w #[I_ 0,E_,I_ n] 435) w 435 #[I_ 0,E_,I_ n]:=af.new _ _ _
 go_enter func317,ntmps317
 go_wp2;refine r_ (cH rfl _ _ rfl rfl (fj t0)) rfl ?_;exact⟨rfl,(ae.refl w).alloc _⟩
structure Tk where
 k:Int
 s:ByteArray
 at_:Int
def yt:cr Tk where
 enc x:=[I_ x.k,T_ x.s,I_ x.at_]
 sz:=3
 len _:=rfl
 one x u hu:=by simp at hu;rcases hu with rfl|rfl|rfl<;>rfl
 pos:=O_
theorem Ee:(prog.info? 435).map (fun i=>(i.zero,i.size,i.bytes))=some (some (.agg #[.int .i64 0,.string ⟨#[]⟩,.int .i64 0]),3,32):=K_
theorem Ef(b off c:Nat) (l:List UInt8) (hl:l.length<=1000000) (hc:l.length<=c) (hw:∀x∈l,vS (x.toNat:Int)=true) (h0:0<l.length) (w:World) (hb:jh w b off l) (P3:b<w.heap.size):
 H_ 275 #[X_ (some ⟨b,off,none⟩) l.length c] w fun e w'=>∃o,e=.returned (.tuple #[o,I_ (-1)])/\Own yt 435 w.heap.size w' o [⟨4,⟨l.toArray⟩,0⟩,⟨0,⟨#[]⟩,l.length⟩]/\ae w w':=by
 obtain⟨i0,hi,dw,cE,dy⟩:=wF Ee;have hr0:af (W_ w #[X_ (some ⟨b,off,none⟩) l.length c,I_ 0] 433) w 433 #[X_ (some ⟨b,off,none⟩) l.length c,I_ 0]:=af.new _ _ _
 go_enter func275,ntmps275
 go_wp2_with fail
 refine jD 2 ?_;rw [O0];go_wp2_with fail
 refine(L6 w.heap.size b off c l hl hc hw h0 _ hr0 (hb.new ((ae.refl w).alloc _)) O_).mono ?_;rintro e w1 ⟨rfl,r1,o1⟩;have n1:=ae.one ((ae.refl w).alloc _) o1 (aA _);have s1:=o1.size;rw [gz]at s1;go_wp2_with (at_builtin;refine bC (E:=yt) rfl _ _ _ rfl underlying376 hi dw cE dy rfl (Own.nil yt 435 w.heap.size _) rfl ⟨4,⟨l.toArray⟩,0⟩ (w1.heap.size+1) (af.cD _ _ _ _) 1 rfl (by unfold maxLen;simp) S_ P_ ?_;intro v2 w2 dR dU sg;have tv2:L_ w2 w1 0 (I_ 4):=(Fr.ai dU ((af.new w1 435 #[I_ 4,T_ ⟨l.toArray⟩,I_ 0]).alloc _) (by simp [Value.ownBlock])).cell 0)
 have r2:=Fr.ai dU ((r1.alloc _).alloc _) (by simp [Value.ownBlock]);have n2:ae w w2:=n1.trans (((ae.refl w1).alloc _).alloc _ |>.trans (dU.mono fun _ _ h=>by simp [Value.ownBlock]at h));rw [Qv]at dR;clear r1 n1 hr0 s1;have s2:=n2.size;have Gj:=r2.k1;rw [O0];go_wp2_with fail
 refine(Ed w.heap.size _ l.length c w2 r2).mono ?_;rintro e w3 ⟨rfl,n3⟩;have iL:=dR.new n3;have n03:=n2.trans n3;have s3:=n3.size;clear dR dU tv2 r2 n2 n3;go_wp2_with (at_builtin;refine bC (E:=yt) rfl _ _ _ rfl underlying376 hi dw cE dy rfl ((iL.alloc _).alloc _) rfl ⟨0,⟨#[]⟩,l.length⟩ (w3.heap.size+1) (af.cD _ _ _ _) 1 rfl (by unfold maxLen;simp) S_ P_ ?_;intro v4 w4 lq fL Db;have tv4:L_ w4 w3 0 (I_ 0):=(Fr.ai fL ((af.new w3 435 #[I_ 0,E_,I_ l.length]).alloc _) (fun e=>by have:=(iL.block e).2;omega)).cell 0)
 go_ret2;refine⟨_,rfl,lq,?_⟩;exact ae.append ((n03.alloc _).alloc _) ((iL.alloc _).alloc _) fL
theorem tD(a b c:Value) (w:World):
 CallsD prog 273 #[a,b,c] .returning w fun e u' w'=>e=.returned (.tuple #[])/\u'=.returning/\w'=w:=by
 refine callsD_of_wpS func273 rfl fun c₀ cs hu=>?_
 apply wpS_seq
 apply wpS_region
 simp [wpOpsS,go_sem,recoverD,hu,ntmps273,Exit.thenS];refine wpS_of_wp ?_;go_wp2
 cases c₀
 simp_all [bodyPostS,results,Tryz.results273]
theorem dt(w:World):H_ 274 #[R_ true] w fun e w'=>e=.returned (.tuple #[])/\w'=w:=by
 go_enter func274,ntmps274
 go_wp2;go_end0;exact⟨rfl,rfl⟩
theorem Eg(p g off n c kb kc:Nat) (k:Int) (s:ByteArray) (a:Int) (x0 x1 x2 x3 x4 x5 x6 x7 x8:Value) (aqc:n+1<=c) (w:World) (hk:L_ w kb 0 (I_ k))
 (hp:af w p 381 #[X_ (some ⟨g,off,none⟩) (n+1) c,x0,x1,x2,x3,x4,x5,x6,x7,x8])
 (t0:L_ w g off (I_ k)) (t1:L_ w g (off+1) (T_ s)) (t2:L_ w g (off+2) (I_ a)):
 H_ 277 #[Q_ p,X_ (M_ kb) 1 kc] w fun e w'=>e=.returned (T_ s)/\One p w w'/\
  ∃v,af w' p 381 #[v,x0,x1,x2,x3,x4,x5,x6,x7,x8]/\(1<c->v=X_ (some ⟨g,off+3,none⟩) n (c-1)):=by
 have c0:=hp.k0;have ai4:=hp.lt;have Bb:=jH _ _ hk
 have yv:=Tryz.slices_Contains_int kb 0 1 kc [k] k (W_ w #[I_ k,T_ s,I_ a] 435) (aA _) D_ (fun j hj=>by
  obtain rfl:j=0:=by simpa using hj
  rw [Aq _ _ _ Bb];exact hk)
 have f0:=hp.frozen 0
 go_enter func277,ntmps277
 go_wp2_with (go_at_call 157;refine yv.mono ?_;rintro e w1 ⟨rfl,rfl⟩)
 refine(dt _).mono ?_;rintro e w2 ⟨rfl,rfl⟩;go_wp2
 all_goals
  go_ret
  first
   |exact⟨rfl,((One.refl p w).set 0 _).alloc _,_,(hp.al 0 _).alloc _,fun h=>by first|rfl|omega⟩
   |exact⟨rfl,((One.refl p w).set 0 _).alloc _,(hp.al 0 _).alloc _⟩
   |exact⟨rfl,((One.refl p w).set 0 _).alloc _,_,(hp.al 0 _).alloc _⟩
theorem wv(v:Value) (w:World):H_ 319 #[v] w fun e w'=>e=.returned (.tuple #[])/\w'=w:=by
 go_enter func319,ntmps319
 go_wp2;go_end0;exact⟨rfl,rfl⟩
def Eh:List (Int×Value):=put (put (put (put (put (put (put (put [] 1 (.func (.func 319) #[] #[])) 2 (.func (.func 319) #[] #[])) 3 (.func (.func 319) #[] #[])) 4 (.func (.func 319) #[] #[])) 5 (.func (.func 320) #[] #[])) 6 (.func (.func 321) #[] #[])) 7 (.func (.func 322) #[] #[])) 8 (.func (.func 323) #[] #[])
theorem tE(w:World):H_ 278 #[] w fun e w'=>e=.returned (.map (some w.heap.size))/\HasMap aL w' w.heap.size Eh/\ae w w':=by
 have uH:= @run_makeMap prog;have vD:=HasMap.made aL w
 go_enter func278,ntmps278
 go_wp2_with (first
  |(refine aw (E:=aL) rfl _ _ _ 385 384 rfl underlying385 vD (iB (aA 0) (by unfold maxLen;decide)) 1 (by show(Lit.int .i64 1).wf=true;decide) _ rfl rfl rfl ?_;intro zw1 GH CQ)
  |(refine aw (E:=aL) rfl _ _ _ 385 384 rfl underlying385 GH (iB (aj (aA 0)) (by unfold maxLen;decide)) 2 (by show(Lit.int .i64 2).wf=true;decide) _ rfl rfl rfl ?_;intro zw2 GJ AE)
  |(refine aw (E:=aL) rfl _ _ _ 385 384 rfl underlying385 GJ (iB (aj (aj (aA 0))) (by unfold maxLen;decide)) 3 (by show(Lit.int .i64 3).wf=true;decide) _ rfl rfl rfl ?_;intro zw3 GK AF)
  |(refine aw (E:=aL) rfl _ _ _ 385 384 rfl underlying385 GK (iB (aj (aj (aj (aA 0)))) (by unfold maxLen;decide)) 4 (by show(Lit.int .i64 4).wf=true;decide) _ rfl rfl rfl ?_;intro zw4 Ga CR)
  |(refine aw (E:=aL) rfl _ _ _ 385 384 rfl underlying385 Ga (iB (aj (aj (aj (aj (aA 0))))) (by unfold maxLen;decide)) 5 (by show(Lit.int .i64 5).wf=true;decide) _ rfl rfl rfl ?_;intro ub Lj CS)
  |(refine aw (E:=aL) rfl _ _ _ 385 384 rfl underlying385 Lj (iB (aj (aj (aj (aj (aj (aA 0)))))) (by unfold maxLen;decide)) 6 (by show(Lit.int .i64 6).wf=true;decide) _ rfl rfl rfl ?_;intro zw6 Yk OK)
  |(refine aw (E:=aL) rfl _ _ _ 385 384 rfl underlying385 Yk (iB (aj (aj (aj (aj (aj (aj (aA 0))))))) (by unfold maxLen;decide)) 7 (by show(Lit.int .i64 7).wf=true;decide) _ rfl rfl rfl ?_;intro zw7 Yl NM)
  |(refine aw (E:=aL) rfl _ _ _ 385 384 rfl underlying385 Yl (iB (aj (aj (aj (aj (aj (aj (aj (aA 0)))))))) (by unfold maxLen;decide)) 8 (by show(Lit.int .i64 8).wf=true;decide) _ rfl rfl rfl ?_;intro zw8 Yo Lk))
 go_ret;exact⟨rfl,Yo,ae.one ((ae.refl w).alloc _) (CQ.trans (AE.trans (AF.trans (CR.trans (CS.trans (OK.trans (NM.trans Lk))))))) (aA _)⟩
theorem RY(l:List UInt8) (x:UInt8): -1<=Lib.indexByte l x/\Lib.indexByte l x<l.length:=by
 have Gr:=Lib.indexByte_ge l x;refine⟨Gr,?_⟩;rcases zJ (Lib.indexByte l x) 0 with h1|h1
 ·omega
 ·obtain⟨o,ho⟩:∃o:Nat,Lib.indexByte l x=o:=⟨(Lib.indexByte l x).toNat,O_⟩;have h2:=(Lib.indexByte_some ho).1;have h3:=(List.getElem?_eq_some_iff.1 h2).1;omega
theorem KW(A:Option Addr) (c:Nat) (l:List UInt8) (x:Int) (w:World) (h:SB w A c l):H_ 264 #[X_ A l.length c,B_ x] w fun e w'=>e=.returned (I_ (Lib.indexByte l x.toNat.toUInt8))/\w'=w:=by
 have key:∀b off,A=some ⟨b,off,none⟩->jh w b off l->H_ 264 #[X_ A l.length c,B_ x] w fun e w'=>e=.returned (I_ (Lib.indexByte l x.toNat.toUInt8))/\w'=w:=by
  rintro b off rfl hb;refine(Tryz.bytes_IndexByte b off l.length c (nums l) x w (aW _) hb.cells).mono ?_;rintro e w' ⟨rfl,rfl⟩;rw [j_];exact⟨rfl,rfl⟩
 rcases h.f with⟨e,ec⟩|⟨b,off,e⟩
 ·subst e ec;have hl:l=[]:=wk (by have:=h.hc;omega);subst hl;refine(Tryz.bytes_IndexByte_nil x w).mono ?_;rintro e w' ⟨rfl,rfl⟩;exact⟨rfl,rfl⟩
 ·by_cases hl:l=[]
  ·exact key b off e (by subst hl;exact fun i x hx=>by simp at hx)
  ·obtain⟨b',ug,e',hb⟩:=h.b hl;exact key b' ug e' hb
def akV(w w':World) (l:List UInt8) (e:Ending):Prop:=∃(t:ByteArray) (n:Nat) (q:Bool),e=.returned (.tuple #[T_ t,I_ n,R_ q])/\t.size<=l.length/\n<=l.length/\ae w w'
theorem Fy(A:Option Addr) (c:Nat) (l:List UInt8) (hl:l.length<=100000) (w:World) (h:SB w A c l):
 H_ 208 #[X_ A l.length c] w fun e w'=>akV w w' l e:=by
 have HB:=ac5 (KW A c l 32 w h);have jd:=RY l ((32:Int).toNat.toUInt8);generalize Lib.indexByte l ((32:Int).toNat.toUInt8)=i at HB jd;by_cases h1:i<1
 ·clear h
  go_enter func208,ntmps208
  go_wp2_with fail
  refine HB.out.mono ?_;rintro e w1 ⟨rfl,rfl⟩;go_wp2
  go_ret3
  exact⟨⟨#[]⟩,0,false,rfl,Gv _,Gv _,ae.refl _⟩
 ·obtain⟨iN,rfl⟩:∃iN:Nat,i=iN:=⟨i.toNat,O_⟩;have NR:iN<l.length:=O_
  have jE:=fun W=>h.AT iN O_ W;have hlen:(l.take iN).length=iN:=by rw [jo];omega
  have ht:SB w A c (l.take iN):=⟨by have:=h.hc;omega,h.f,fun hl=>by
   obtain⟨b,off,e,hb⟩:=h.b (by rintro rfl;exact hl S_);exact⟨b,off,e,hb.take iN⟩⟩
  have kY:=fun W (hW:ae w W)=>(ht.new hW).conv W (ht.new hW);rw [hlen]at kY;obtain⟨s,hs⟩:∃s:ByteArray,s=⟨(l.take iN).toArray⟩:=⟨_,rfl⟩;rw [<-hs]at kY;have LJ:s.size<=iN:=by rw [hs];exact Nat.le_of_eq hlen
  have HA:=ac5 (fun W=>kU s O_ W);have pN:IntKind.i64.wrap ((iN:Int)+1)=(iN:Int)+1:=aM _ O_;have HC:=ac5 kY;have aik:=kY w (ae.refl w);clear hs hlen ht kY h
  go_enter func208,ntmps208
  go_wp2_with fail
  refine HB.out.mono ?_;rintro e w1 ⟨rfl,rfl⟩;go_wp2_with fail
  refine(HA.out _).mono ?_;rintro e w2 ⟨rfl,n2⟩;have G':=HC.out w2 n2
  cases XK:oO s
  ·go_wp2
   go_ret3
   exact⟨⟨#[]⟩,0,false,rfl,Gv _,Gv _,n2⟩
  ·go_wp2
   go_ret3
   exact⟨s,iN+1,true,rfl,O_,O_,n2⟩
structure uY(w:World) (r:Nat) (A:Option Addr) (c:Nat) (l:List UInt8) (k:Nat):Prop where
 b:af w r 433 #[X_ A l.length c,I_ k]
 s:SB w A c l
 n:∀b off,A=some ⟨b,off,none⟩->b<r
 hk:k<=l.length
def yQ(w w':World) (r:Nat) (A:Option Addr) (c:Nat) (l:List UInt8) (k:Nat) (e:Ending):Prop:=
 ∃(t:Int) (s:ByteArray) (a:Int) (q:Bool) (k':Nat),e=.returned (.tuple #[.agg #[I_ t,T_ s,I_ a],R_ q])/\1<=t/\t<=6/\s.size<=l.length/\uY w' r A c l k'/\(q=true->k<k')/\One r w w'
theorem uY.new {w w':World}{r:Nat}{A:Option Addr}{c:Nat}{l:List UInt8}{k:Nat}(h:uY w r A c l k) (hn:ae w w'):uY w' r A c l k:=⟨hn.ai h.b,h.s.new hn,h.n,h.hk⟩
section
variable{w:World}{r:Nat}{A:Option Addr}{c:Nat}{l:List UInt8}{k:Nat}
theorem xH(h:uY w r A c l k) (hl:l.length<=100000) (hk:k<l.length) (t:Int) (ht:1<=t/\t<=6):
 H_ 413 #[Q_ r,I_ t] w fun e w'=>yQ w w' r A c l k e:=by
 have c1:=h.b.k1;have f1:=h.b.frozen 1;have bJ:=h.b.lt;have d1:∀o,L_ (w.alloc o) r 1 (I_ k):=fun o=>(h.b.alloc o).cell 1;have d2:∀o,(w.alloc o).frozen? (C_ r 1)=false:=fun o=>(h.b.alloc o).frozen 1;have pN:IntKind.i64.wrap ((k:Int)+1)=(k:Int)+1:=aM _ O_;have t0:af (W_ w #[I_ 0,E_,I_ 0] 435) w 435 #[I_ 0,E_,I_ 0]:=af.new _ _ _;have H:=ac5 h;clear h
 go_enter func413,ntmps413
 go_wp2_with fail
 have one:One r w (w.setCell (C_ r 1) (I_ ((k:Int)+1))):=(One.refl r w).set 1 _
 have hT:af ((w.setCell (C_ r 1) (I_ ((k:Int)+1))).alloc (G_ #[I_ t,E_,I_ 0] 435)) w 435 #[I_ t,E_,I_ 0]:=by
  have:=af.new (w.setCell (C_ r 1) (I_ ((k:Int)+1))) 435 #[I_ t,E_,I_ 0]
  rwa [ao]at this
 refine r_ (cH rfl _ _ rfl rfl (fj hT)) rfl ⟨t,⟨#[]⟩,0,true,k+1,rfl,ht.1,ht.2,Gv _,⟨(H.out.b.al 1 _).alloc _,H.out.s.fr (one.alloc _) fun b off e _=>cZ (H.out.n b off e),H.out.n,hk⟩,fun _=>Nat.lt_succ_self k,one.alloc _⟩
theorem ij{w4:World}{x y z:Value}{t:Int}{sx:ByteArray}{a:Int}{q:Bool}{k':Nat}(_r4:af w4 w 435 #[x,y,z]) (h1:1<=t) (h2:t<=6) (h3:sx.size<=l.length) (h4:uY w4 r A c l k') (h5:q=true->k<k') (h6:One r w w4) (hr:r<w.heap.size):
 yQ w (((w4.setCell (C_ w 0) (I_ t)).setCell (C_ w 1) (T_ sx)).setCell (C_ w 2) (I_ a)) r A c l k (.returned (.tuple #[.agg #[I_ t,T_ sx,I_ a],R_ q])):=by
 have hQ:One w.heap.size w4 (((w4.setCell (C_ w 0) (I_ t)).setCell (C_ w 1) (T_ sx)).setCell (C_ w 2) (I_ a)):=(((One.refl _ w4).set 0 _).set 1 _).set 2 _;have hO:One r w (((w4.setCell (C_ w 0) (I_ t)).setCell (C_ w 1) (T_ sx)).setCell (C_ w 2) (I_ a)):=Fr.trans' h6 hQ fun i hi (e:i=w.heap.size)=>O_
 refine⟨t,sx,a,q,k',rfl,h1,h2,h3,⟨hQ.ai h4.b O_,h4.s.fr hQ fun b off e hl e2=>?_,h4.n,h4.hk⟩,h5,hO⟩;have e2:=e2;have:=h4.n b off e;omega
theorem aaC(h:uY w r A c l k) (hl:l.length<=100000) (hk:k<l.length):H_ 363 #[Q_ r] w fun e w'=>yQ w w' r A c l k e:=by
 have n0:ae w (W_ w #[I_ 0,E_,I_ 0] 435):=(ae.refl w).alloc _;have KY:af (W_ w #[I_ 0,E_,I_ 0] 435) w 435 #[I_ 0,E_,I_ 0]:=af.new _ _ _;have hr:=h.b.lt;have HS:=ac5 (fun t ht=>xH (h.new n0) hl hk t ht);clear h
 go_enter func363,ntmps363
 go_wp2_with fail
 refine(HS.out 1 O_).mono ?_;rintro e w1 ⟨t,sx,a,q,k',rfl,h1,h2,h3,h4,h5,h6⟩;have tk:=h6.ai KY O_;have c0:=tk.k0;have c1:=tk.k1;have c2:=tk.k2;have ff:=tk.dq;have fB:=h6.size;go_wp2;exact r_ (cH rfl _ _ rfl rfl (fj (((tk.al 0 (I_ t)).al 1 (T_ sx)).al 2 (I_ a)))) rfl (ij tk h1 h2 h3 h4 h5 ((ae.to n0).trans h6) hr)
theorem aaD(h:uY w r A c l k) (hl:l.length<=100000) (hk:k<l.length):H_ 364 #[Q_ r] w fun e w'=>yQ w w' r A c l k e:=by
 have n0:ae w (W_ w #[I_ 0,E_,I_ 0] 435):=(ae.refl w).alloc _;have KY:af (W_ w #[I_ 0,E_,I_ 0] 435) w 435 #[I_ 0,E_,I_ 0]:=af.new _ _ _;have hr:=h.b.lt;have HS:=ac5 (fun t ht=>xH (h.new n0) hl hk t ht);clear h
 go_enter func364,ntmps364
 go_wp2_with fail
 refine(HS.out 2 O_).mono ?_;rintro e w1 ⟨t,sx,a,q,k',rfl,h1,h2,h3,h4,h5,h6⟩;have tk:=h6.ai KY O_;have c0:=tk.k0;have c1:=tk.k1;have c2:=tk.k2;have ff:=tk.dq;have fB:=h6.size;go_wp2;exact r_ (cH rfl _ _ rfl rfl (fj (((tk.al 0 (I_ t)).al 1 (T_ sx)).al 2 (I_ a)))) rfl (ij tk h1 h2 h3 h4 h5 ((ae.to n0).trans h6) hr)
theorem aaE(h:uY w r A c l k) (hl:l.length<=100000) (hk:k<l.length):H_ 365 #[Q_ r] w fun e w'=>yQ w w' r A c l k e:=by
 have n0:ae w (W_ w #[I_ 0,E_,I_ 0] 435):=(ae.refl w).alloc _;have KY:af (W_ w #[I_ 0,E_,I_ 0] 435) w 435 #[I_ 0,E_,I_ 0]:=af.new _ _ _;have hr:=h.b.lt;have HS:=ac5 (fun t ht=>xH (h.new n0) hl hk t ht);clear h
 go_enter func365,ntmps365
 go_wp2_with fail
 refine(HS.out 3 O_).mono ?_;rintro e w1 ⟨t,sx,a,q,k',rfl,h1,h2,h3,h4,h5,h6⟩;have tk:=h6.ai KY O_;have c0:=tk.k0;have c1:=tk.k1;have c2:=tk.k2;have ff:=tk.dq;have fB:=h6.size;go_wp2;exact r_ (cH rfl _ _ rfl rfl (fj (((tk.al 0 (I_ t)).al 1 (T_ sx)).al 2 (I_ a)))) rfl (ij tk h1 h2 h3 h4 h5 ((ae.to n0).trans h6) hr)
end
structure Sc(B:Nat) (w:World) (s:Nat) (A:Option Addr) (c:Nat) (l:List UInt8) (k:Nat) (out:Value):Prop where
 b:af w s 534 #[X_ A l.length c,I_ k,out]
 r:SB w A c l
 n:∀b off,A=some ⟨b,off,none⟩->b≠s
 hk:k<=l.length
 o:∃lo,Own (ak .u8) 5 B w out (nums lo)/\lo.length<=k
def afm(B:Nat) (w w':World) (s:Nat) (A:Option Addr) (c:Nat) (l:List UInt8) (k:Nat) (out:Value) (e:Ending):Prop:=
 One s w w'/\w'.heap.size=w.heap.size/\((∃x:UInt8,e=.returned (.tuple #[B_ (x.toNat:Int),R_ true])/\(k<l.length/\l[k]? =some x)/\Sc B w' s A c l (k+1) out)\/(e=.returned (.tuple #[B_ 0,R_ false])/\l[k]? =none/\Sc B w' s A c l k out))
theorem Sb{w:World}{g g' j j':Nat}{u v:Value}(h:L_ w g j v) (bV:g'≠g):L_ (w.setCell (C_ g' j') u) g j v:=
 (OW _ _ _ _ (fun e=>bV (Addr.mk.inj e).1)).trans h
section
variable{B:Nat}{w:World}{s:Nat}{A:Option Addr}{c:Nat}{l:List UInt8}{k:Nat}{out:Value}
theorem Fz(h:Sc B w s A c l k out) (hl:l.length<=1000000):
 H_ 458 #[Q_ s] w fun e w'=>afm B w w' s A c l k out e:=by
 have c0:=h.b.k0;have c1:=h.b.k1;have f1:=h.b.frozen 1;have bJ:=h.b.lt;have hk:=h.hk;have pN:IntKind.i64.wrap ((k:Int)+1)=(k:Int)+1:=aM _ O_;have AU:IntKind.i64.wrap ((k:Int)+1-1)=(k:Int):=by rw [aM _ O_];omega
 have H:=ac5 h;by_cases dL:k<l.length
 ·obtain⟨b,off,rfl,hb⟩:=h.r.b (by rintro rfl;simp at dL);have hx:=DW dL;obtain⟨y,hy⟩:∃y,y=l[k]:=⟨_,rfl⟩;rw [<-hy]at hx;have c2:=hb k y hx;have bV:=h.n b off rfl;have nV:b<w.heap.size:=jH _ _ c2;have HX:=ac5 hx;clear hx hy hb h;have g0:∀v,L_ (w.setCell (C_ s 1) v) b (off+k) (B_ (y.toNat:Int)):=fun v=>Sb c2 (by simpa using iX bV);have g0':∀v,L_ (w.drew.setCell (C_ s 1) v) b (off+k) (B_ (y.toNat:Int)):=fun v=>Sb c2 (by simpa using iX bV);have d1:¬(k:Int)<0:=O_
  have d2:¬(l.length:Int)<=(k:Int):=O_
  have d3:¬l.length<=k:=O_
  have d4:0<=(k:Int):=O_
  go_enter func458,ntmps458
  go_wp2_with (first|go_region|fail)
  go_ret2;have one:One s w (w.setCell (C_ s 1) (I_ ((k:Int)+1))):=(One.refl s w).set 1 _;obtain⟨lo,ho,fi⟩:=H.out.o;refine⟨one.drew.drew,by simp [World.setCell,World.drew],.inl ⟨y,rfl,⟨dL,HX.out⟩,⟨H.out.b.al 1 _,H.out.r.fr one.drew.drew fun b off e _=>H.out.n b off e,H.out.n,O_,lo,ho.fr one.drew.drew fun g hg e=>?_,O_⟩⟩⟩;have e:=e;subst e;exact ho.ar H.out.b D_ hg
 ·clear h;have d1:¬(k:Int)<0:=O_
  have d2:(l.length:Int)<=(k:Int):=O_
  have d3:l.length<=k:=O_
  have d4:0<=(k:Int):=O_
  go_enter func458,ntmps458
  go_wp2_with (first|go_region|fail)
  go_ret2;exact⟨(One.refl s w).drew,rfl,.inr ⟨rfl,aeA d3,H.out.b.drew,H.out.r.new (ae.refl w).drew,H.out.n,hk,H.out.o⟩⟩
def IsR(B:Nat) (w w':World) (s:Nat) (A:Option Addr) (c:Nat) (l:List UInt8) (k:Nat) (out:Value) (y:Int) (e:Ending):Prop:=
 One s w w'/\w'.heap.size=w.heap.size/\((e=.returned (R_ true)/\k<l.length/\Sc B w' s A c l (k+1) out/\∃x:UInt8,l[k]? =some x/\(x.toNat:Int)=y)\/(e=.returned (R_ false)/\(∀x:UInt8,l[k]? =some x->(x.toNat:Int)≠y)/\∃k',Sc B w' s A c l k' out/\k<=k'))
theorem Cj(h:Sc B w s A c l k out) (hl:l.length<=1000000) (y:Int):H_ 457 #[Q_ s,B_ y] w fun e w'=>IsR B w w' s A c l k out y e:=by
 have HT:=ac5 (Fz h hl);clear h
 go_enter func457,ntmps457
 go_wp2_with fail
 refine HT.out.mono ?_;rintro e w1 ⟨o1,s1,⟨x,rfl,⟨hk,hx⟩,h1⟩|⟨rfl,hx,h1⟩⟩
 ·obtain⟨z,dw⟩:∃z,z=(x.toNat:Int):=⟨_,rfl⟩;rw [<-dw];have HX:=ac5 (And.intro hx dw);clear hx dw;by_cases hz:z=y
  ·subst hz;go_wp2;go_ret;exact⟨o1,s1,.inl ⟨rfl,hk,h1,x,HX.out.1,HX.out.2.symm⟩⟩
  ·have dy:=beq_eq_false_iff_ne.2 hz;go_wp2;go_ret
   exact⟨o1,s1,.inr ⟨rfl,(fun x' NY=>by
    have e:x=x':=by have:=HX.out.1.symm.trans NY;injection this
    rw [<-e,<-HX.out.2];exact hz),k+1,h1,O_⟩⟩
 ·go_wp2;go_ret;exact⟨o1,s1,.inr ⟨rfl,(fun x' NY=>by rw [hx]at NY;cases NY),k,h1,O_⟩⟩
end
def ScQ(B:Nat) (w w':World) (s:Nat) (A:Option Addr) (c:Nat) (l:List UInt8) (k:Nat) (e:Ending):Prop:=∃q k' eh,e=.returned (R_ q)/\Sc B w' s A c l k' eh/\k<=k'/\(q=true->k<k')/\Fr (fun g=>g=s\/B<=g) w w'
section
variable{B:Nat}{w:World}{s:Nat}{A:Option Addr}{c:Nat}{l:List UInt8}{k:Nat}{out:Value}
theorem Sc.new {w':World}(h:Sc B w s A c l k out) (hn:ae w w'):Sc B w' s A c l k out:=by
 obtain⟨lo,ho,fi⟩:=h.o;exact⟨hn.ai h.b,h.r.new hn,h.n,h.hk,lo,ho.new hn,fi⟩
theorem Sc.off (h:Sc B w s A c l k out):(w.cell? (C_ s 1)).getD undef=I_ k:=by rw [h.b.cell 1];rfl
theorem Sc.push {w':World}{v':Value}{lo:List UInt8}{x:UInt8}(h:Sc B w s A c l k out) (bJ:∀b off,A=some ⟨b,off,none⟩->b<B) (ho:Own (ak .u8) 5 B w out (nums lo)) (fi:lo.length+1<=k) (hv:Own (ak .u8) 5 B w' v' (nums lo++[(x.toNat:Int)])) (hf:Fr (fun g=>out.ownBlock=some g) w w'):
 Sc B (w'.setCell (C_ s 2) v') s A c l k v':=by
 have hb:=hf.ai h.b (fun e=>ho.ar h.b D_ e);have one:=(One.refl s w').set 2 v';refine⟨hb.al 2 v',(h.r.fr hf fun b off e _ hh=>?_).fr one fun b off e _=>h.n b off e,h.n,h.hk,lo++[x],?_,by rw [dr];simpa using fi⟩
 ·have:=(ho.block hh).1;have:=bJ b off e;omega
 ·have e:nums (lo++[x])=nums lo++[(x.toNat:Int)]:=by unfold nums;simp
  rw [e];refine hv.fr one fun g hg e=>?_;have e:=e;subst e;exact hv.ar hb D_ hg
theorem Ji(h:Sc B w s A c l k out) (hl:l.length<=1000000) (bJ:∀b off,A=some ⟨b,off,none⟩->b<B) (hB:B<=w.heap.size):
 H_ 442 #[Q_ s] w fun e w'=>ScQ B w w' s A c l k e:=by
 obtain⟨i0,hi,dw,cE,dy⟩:=wF jl;have HI:=ac5 (Cj h hl 34);have HT:=ac5 (fun W k' eh (h':Sc B W s A c l k' eh)=>Fz h' hl);have hs:=h.b.lt;clear h
 go_enter func442,ntmps442
 go_wp2_with fail
 refine HI.out.mono ?_;rintro e w1 ⟨o1,s1,⟨rfl,eA,h1,_⟩|⟨rfl,_,k',h1,eA⟩⟩
 ·go_wp2_with fail
  go_loopw [3,4] (fun _ _ wr=>∃k' eh,Sc B wr s A c l k' eh/\k<k'/\Fr (fun g=>g=s\/B<=g) w wr) (fun _ _ wr=>l.length-(intOf ((wr.cell? (C_ s 1)).getD undef)).toNat)
  case atStart=>exact⟨k+1,out,h1,O_,o1.mono fun _ _ e=>.inl e⟩
  case round=>
   obtain⟨k',eh,Jj,hkk,jx⟩:=hrel;have Xf:=Jj.off;have eE:=jx.size;go_wp2_with fail
   refine(HT.out _ _ _ Jj).mono ?_;rintro e w2 ⟨o2,s2,⟨x,rfl,⟨kI,_⟩,h2⟩|⟨rfl,_,h2⟩⟩
   ·have Sd:=jx.trans (o2.mono fun _ _ e=>.inl e);have Od:=fun W (y:UInt8)=>CW (y.toNat:Int) W;by_cases jF:(x.toNat:Int)=34
    ·go_wp2;go_ret;exact⟨true,k'+1,eh,rfl,h2,O_,fun _=>O_,Sd⟩
    ·have e1:=beq_eq_false_iff_ne.2 jF;by_cases UN:(x.toNat:Int)=92
     ·go_wp2_with fail
      refine(HT.out _ _ _ h2).mono ?_;rintro e wB ⟨oB,sB,⟨y,rfl,⟨hkB,_⟩,qh⟩|⟨rfl,_,qh⟩⟩
      ·have Se:=Sd.trans (oB.mono fun _ _ e=>.inl e);by_cases hy:(y.toNat:Int)≠34/\(y.toNat:Int)≠92
       ·have e3:=bne_iff_ne.2 hy.1;have e4:=bne_iff_ne.2 hy.2;go_wp2;go_ret;exact⟨false,k'+1+1,eh,rfl,qh,O_,fun _=>O_,Se⟩
       ·have sj:(y.toNat:Int)=34\/(y.toNat:Int)=92:=O_
        rcases sj with hy3|hy3
        ·have e3:((y.toNat:Int) !=34)=false:=by rw [hy3];rfl
         clear hy3 hy;go_wp2_with fail
         refine(Od _ y).mono ?_;rintro e w3 ⟨rfl,n3⟩
         cases htb:vG (y.toNat:Int)
         ·go_wp2;go_ret;exact⟨false,k'+1+1,eh,rfl,qh.new n3,O_,fun _=>O_,Se.trans (ae.to n3)⟩
         ·have h3:=qh.new n3;have FA:=Se.trans (ae.to n3);obtain⟨lo,cl,fi⟩:=Jj.o;have fT:=(cl.fr (o2.trans oB) fun g hg e=>cl.ar Jj.b D_ ((show g=s from e)▸hg)).new n3;clear cl;have uL:(nums lo).length<=1000000:=by rw [aW];have:=h3.hk;omega
          obtain⟨oA,oc,rfl,hoc⟩:=fT.form;have Sf:=h3.new ((ae.refl w3).alloc (G_ #[B_ (y.toNat:Int)] 5));have jy:B<=w3.heap.size:=by have:=FA.size;omega
          have c32:=h3.b.k2;have g32:∀o,L_ (w3.alloc o) s 2 (X_ oA (nums lo).length oc):=fun o=>(h3.b.alloc o).cell 2;have hs3l:=h3.b.lt;go_wp2_with (at_builtin;refine bC (E:=ak .u8) rfl _ _ _ rfl underlying23 hi dw cE dy rfl (fT.alloc _) rfl (y.toNat:Int) w3.heap.size (af.new _ _ _) 1 rfl (by unfold maxLen;omega) O_ (by rw [gz];omega) ?_;intro v4 w4 lq fL Db;have uc:=Fr.ai fL Sf.b (fun e=>(fT.alloc (G_ #[B_ (y.toNat:Int)] 5)).ar Sf.b D_ e);have c42:=uc.k2;have f42:=uc.frozen 2;have hs4l:=uc.lt;obtain⟨A4,N4,C4,Ip⟩:=bY lq;subst Ip)
          have FB:=Sf.push (x:=y) bJ (fT.alloc _) O_ lq fL;have Sg:Fr (fun g=>g=s\/B<=g) w _:=((FA.alloc (G_ #[B_ (y.toNat:Int)] 5)).trans (fL.mono fun g _ hg=>.inr (fT.block hg).1)).trans (((One.refl s w4).set 2 (X_ A4 N4 C4)).mono fun _ _ e=>.inl e);have lU:=FB.off;go_roundw
          case rel=>exact⟨k'+1+1,_,FB,O_,Sg⟩
          case measure=>
           rw [Xf,lU];have:=h3.hk;simp [intOf];omega
        ·have e3:((y.toNat:Int) !=34)=true:=by rw [hy3];rfl
         have e4:((y.toNat:Int) !=92)=false:=by rw [hy3];rfl
         clear hy3 hy;go_wp2_with fail
         refine(Od _ y).mono ?_;rintro e w3 ⟨rfl,n3⟩
         cases htb:vG (y.toNat:Int)
         ·go_wp2;go_ret;exact⟨false,k'+1+1,eh,rfl,qh.new n3,O_,fun _=>O_,Se.trans (ae.to n3)⟩
         ·have h3:=qh.new n3;have FA:=Se.trans (ae.to n3);obtain⟨lo,cl,fi⟩:=Jj.o;have fT:=(cl.fr (o2.trans oB) fun g hg e=>cl.ar Jj.b D_ ((show g=s from e)▸hg)).new n3;clear cl;have uL:(nums lo).length<=1000000:=by rw [aW];have:=h3.hk;omega
          obtain⟨oA,oc,rfl,hoc⟩:=fT.form;have Sf:=h3.new ((ae.refl w3).alloc (G_ #[B_ (y.toNat:Int)] 5));have jy:B<=w3.heap.size:=by have:=FA.size;omega
          have c32:=h3.b.k2;have g32:∀o,L_ (w3.alloc o) s 2 (X_ oA (nums lo).length oc):=fun o=>(h3.b.alloc o).cell 2;have hs3l:=h3.b.lt;go_wp2_with (at_builtin;refine bC (E:=ak .u8) rfl _ _ _ rfl underlying23 hi dw cE dy rfl (fT.alloc _) rfl (y.toNat:Int) w3.heap.size (af.new _ _ _) 1 rfl (by unfold maxLen;omega) O_ (by rw [gz];omega) ?_;intro v4 w4 lq fL Db;have uc:=Fr.ai fL Sf.b (fun e=>(fT.alloc (G_ #[B_ (y.toNat:Int)] 5)).ar Sf.b D_ e);have c42:=uc.k2;have f42:=uc.frozen 2;have hs4l:=uc.lt;obtain⟨A4,N4,C4,Ip⟩:=bY lq;subst Ip)
          have FB:=Sf.push (x:=y) bJ (fT.alloc _) O_ lq fL;have Sg:Fr (fun g=>g=s\/B<=g) w _:=((FA.alloc (G_ #[B_ (y.toNat:Int)] 5)).trans (fL.mono fun g _ hg=>.inr (fT.block hg).1)).trans (((One.refl s w4).set 2 (X_ A4 N4 C4)).mono fun _ _ e=>.inl e);have lU:=FB.off;go_roundw
          case rel=>exact⟨k'+1+1,_,FB,O_,Sg⟩
          case measure=>
           rw [Xf,lU];have:=h3.hk;simp [intOf];omega
      ·go_wp2;go_ret;exact⟨false,k'+1,eh,rfl,qh,O_,fun _=>O_,Sd.trans (oB.mono fun _ _ e=>.inl e)⟩
     ·have e2:=beq_eq_false_iff_ne.2 UN;go_wp2_with fail
      refine(Od _ x).mono ?_;rintro e w3 ⟨rfl,n3⟩
      cases htb:vG (x.toNat:Int)
      ·go_wp2;go_ret;exact⟨false,k'+1,eh,rfl,h2.new n3,O_,fun _=>O_,Sd.trans (ae.to n3)⟩
      ·have h3:=h2.new n3;have FA:=Sd.trans (ae.to n3);obtain⟨lo,cl,fi⟩:=Jj.o;have fT:=(cl.fr o2 fun g hg e=>cl.ar Jj.b D_ ((show g=s from e)▸hg)).new n3;clear cl;have uL:(nums lo).length<=1000000:=by rw [aW];have:=h3.hk;omega
       obtain⟨oA,oc,rfl,hoc⟩:=fT.form;have Sf:=h3.new ((ae.refl w3).alloc (G_ #[B_ (x.toNat:Int)] 5));have jy:B<=w3.heap.size:=by have:=FA.size;omega
       have c32:=h3.b.k2;have g32:∀o,L_ (w3.alloc o) s 2 (X_ oA (nums lo).length oc):=fun o=>(h3.b.alloc o).cell 2;have hs3l:=h3.b.lt;go_wp2_with (at_builtin;refine bC (E:=ak .u8) rfl _ _ _ rfl underlying23 hi dw cE dy rfl (fT.alloc _) rfl (x.toNat:Int) w3.heap.size (af.new _ _ _) 1 rfl (by unfold maxLen;omega) O_ (by rw [gz];omega) ?_;intro v4 w4 lq fL Db;have uc:=Fr.ai fL Sf.b (fun e=>(fT.alloc (G_ #[B_ (x.toNat:Int)] 5)).ar Sf.b D_ e);have c42:=uc.k2;have f42:=uc.frozen 2;have hs4l:=uc.lt;obtain⟨A4,N4,C4,Ip⟩:=bY lq;subst Ip)
       have FB:=Sf.push (x:=x) bJ (fT.alloc _) O_ lq fL;have Sg:Fr (fun g=>g=s\/B<=g) w _:=((FA.alloc (G_ #[B_ (x.toNat:Int)] 5)).trans (fL.mono fun g _ hg=>.inr (fT.block hg).1)).trans (((One.refl s w4).set 2 (X_ A4 N4 C4)).mono fun _ _ e=>.inl e);have lU:=FB.off;go_roundw
       case rel=>exact⟨k'+1,_,FB,O_,Sg⟩
       case measure=>
        rw [Xf,lU];have:=h3.hk;simp [intOf];omega
   ·go_wp2;go_ret;exact⟨false,k',eh,rfl,h2,O_,fun _=>O_,jx.trans (o2.mono fun _ _ e=>.inl e)⟩
 ·go_wp2;go_ret;exact⟨false,k',out,rfl,h1,eA,(fun h=>by cases h),o1.mono fun _ _ e=>.inl e⟩
end
def KZ(w w':World) (l:List UInt8) (k:Nat) (e:Ending):Prop:=
 ∃(v:Value) (n:Nat) (q:Bool) (lo:List UInt8),e=.returned (.tuple #[v,I_ n,R_ q])/\Own (ak .u8) 5 w.heap.size w' v (nums lo)/\lo.length<=l.length/\(q=true->k<n/\n<=l.length)/\ae w w'
theorem Ai(fn:Nat) (hE:∀args w,(callFunc fn args).run prog w=.ok (.enter fn args) w) (A:Option Addr) (c:Nat) (l:List UInt8) (k:Nat) (hk:k<=l.length) (w:World) (h:SB w A c l) (hA:∀b off,A=some ⟨b,off,none⟩->b<w.heap.size)
 (HF:∀W,ae w W->Sc (w.heap.size+1) W w.heap.size A c l k Z_->w.heap.size+1<=W.heap.size->H_ fn #[Q_ w] W fun e w'=>ScQ (w.heap.size+1) W w' w.heap.size A c l k e):
 H_ 441 #[X_ A l.length c,I_ k,.func (.func fn) #[] #[]] w fun e w'=>KZ w w' l k e:=by
 have n1:ae w (W_ w #[X_ A l.length c,I_ k,Z_] 534):=(ae.refl w).alloc _
 have Jj:Sc (w.heap.size+1) (W_ w #[X_ A l.length c,I_ k,Z_] 534) w.heap.size A c l k Z_:=
  ⟨af.new _ _ _,h.new n1,fun b off e=>by have:=hA b off e;omega,hk,[],Own.nil _ _ _ _,Gv _⟩
 have HQ:=ac5 (HF _ n1 Jj (by rw [gz];omega));have N1:=ac5 n1;clear Jj n1 h HF
 go_enter func441,ntmps441
 go_wp2_with fail
 refine HQ.out.mono ?_;rintro e w1 ⟨q,k',eh,rfl,h1,eA,kI,f1⟩
 have n2:ae w w1:=Fr.trans' N1.out f1 fun i hi h=>by
  rcases h with h|h<;>omega
 obtain⟨⟨c0,c1,c2⟩,g⟩:(L_ w1 w 0 (X_ A l.length c)/\L_ w1 w 1 (I_ k')/\L_ w1 w 2 eh)/\w.heap.size<w1.heap.size:=⟨⟨h1.b.cell 0,h1.b.cell 1,h1.b.cell 2⟩,h1.b.lt⟩;have Bh:=h1.hk;obtain⟨lo,ho,fi⟩:=h1.o;clear HQ f1
 cases q
 ·go_wp2
  go_ret3
  exact⟨Z_,0,false,[],rfl,Own.nil _ _ _ _,Gv _,(fun h=>by cases h),n2⟩
 ·go_wp2_with (first|go_region|fail)
  go_ret3
  exact⟨eh,k',true,lo,rfl,(ho.mono O_).new N_,O_,(fun _=>⟨kI trivial,Bh⟩),n2.trans N_⟩
theorem xI(A:Option Addr) (c:Nat) (l:List UInt8) (hl:l.length<=100000) (k:Nat) (hk:k<=l.length) (w:World) (h:SB w A c l) (hA:∀b off,A=some ⟨b,off,none⟩->b<w.heap.size):
 H_ 415 #[X_ A l.length c,I_ k] w fun e w'=>KZ w w' l k e:=by
 have HS:=ac5 (Ai 442 (Aw func442 K_ rfl) A c l k hk w h hA (fun W _ Jj hs=>Ji Jj O_ (fun b off e=>by have:=hA b off e;omega) hs));clear h hA
 go_enter func415,ntmps415
 go_wp2_with fail
 refine HS.out.mono ?_;rintro e w1 ⟨v,n,q,lo,rfl,h1,h2,h3,h4⟩;go_wp2
 go_ret3
 exact⟨v,n,q,lo,rfl,h1,h2,h3,h4⟩
section
variable{P:Program}{ops:Array Oper}{Q:Exit->Act->World->Prop}{md:Region.Mode}{S:World->Prop}{oi:Oper}{v:Value}{fuel:Nat}{listed:Array Bool}{a:Act}{w:World}
theorem Of{d:Nat}(hi:ops[ops.size-(fuel+1)]? =some oi) (hd:oi.dst=some d) (hs:Region.noSelect ops=true) (hf:Region.free md ops listed (ops.size-(fuel+1))=true) (hr:(Region.ready md ops listed).contains (ops.size-(fuel+1))=true) (hQ:∀c a w,Q (.panic c) (a.put (some d) v) w->Q (.panic c) a w) (hw:Region.wanted oi (yielded ops a.tmps)=true) (hv:∀w,S w->(execOp a.eval oi).run P w=.ok (.value v) w) (hS:S w)
 (h:wpAnyH P md ops Q S fuel (listed.setIfInBounds (ops.size-(fuel+1)) true) (a.put (some d) v) w):wpAnyH P md ops Q S (fuel+1) listed a w:=
 wpAnyH_take hi hs hf hr (hd▸hQ) (.inl ⟨hw,hv⟩) hS (hd▸h)
theorem tkU{d:Nat}(hi:ops[ops.size-(fuel+1)]? =some oi) (hd:oi.dst=some d) (hs:Region.noSelect ops=true) (hf:Region.free md ops listed (ops.size-(fuel+1))=true) (hr:(Region.ready md ops listed).contains (ops.size-(fuel+1))=true) (hQ:∀c a w,Q (.panic c) (a.put (some d) undef) w->Q (.panic c) a w) (hw:Region.wanted oi (yielded ops a.tmps)=false) (hS:S w)
 (h:wpAnyH P md ops Q S fuel (listed.setIfInBounds (ops.size-(fuel+1)) true) (a.put (some d) undef) w):wpAnyH P md ops Q S (fuel+1) listed a w:=
 wpAnyH_take hi hs hf hr (hd▸hQ) (.inr ⟨hw,rfl⟩) hS (hd▸h)
theorem tkC(d:Nat) (hi:ops[ops.size-(fuel+1)]? =some oi) (hr:Region.ready md ops listed=[(ops.size-(fuel+1))]) (hw:Region.wanted oi (yielded ops a.tmps)=true)
 (h:∀K:Act->World->Prop,Shut (∀v w,S w->(S w->wpAnyH P md ops Q S fuel (listed.setIfInBounds (ops.size-(fuel+1)) true) (a.put (some d) v) w)->K (a.put (some d) v) w)->Oper.wp P oi a w K Q):wpAnyH P md ops Q S (fuel+1) listed a w:=
 wpAnyH_ready (rs:=[(ops.size-(fuel+1))]) hr S_ (AllReadyH.cons hi (fun K hK=>by
  rw [if_pos hw];exact h K fun v w h1 h2=>hK _ w h1 h2) AllReadyH.nil)
end
section
variable{B:Nat}{w:World}{s:Nat}{A:Option Addr}{c:Nat}{l:List UInt8}{k:Nat}{out:Value}
theorem Sc.all (h:Sc B w s A c l k out):(L_ w s 0 (X_ A l.length c)/\L_ w s 1 (I_ k)/\L_ w s 2 out)/\w.frozen? (C_ s 1)=false/\w.frozen? (C_ s 2)=false/\s<w.heap.size:=
 ⟨⟨h.b.cell 0,h.b.cell 1,h.b.cell 2⟩,h.b.frozen 1,h.b.frozen 2,h.b.lt⟩
theorem Sc.at_ (h:Sc B w s A c l k out) (k':Nat) (hk:k<=k') (kI:k'<=l.length):Sc B (w.setCell (C_ s 1) (I_ k')) s A c l k' out:=by
 have one:One s w (w.setCell (C_ s 1) (I_ k')):=(One.refl s w).set 1 _;obtain⟨lo,ho,fi⟩:=h.o;refine⟨h.b.al 1 _,h.r.fr one fun b off e _=>h.n b off e,h.n,kI,lo,ho.fr one fun g hg e=>?_,O_⟩;have e:=e;subst e;exact ho.ar h.b D_ hg
def Ck(l:List UInt8) (k:Nat) (y:Int):Prop:=∃x:UInt8,l[k]? =some x/\(x.toNat:Int)=y
theorem Jk(h:Sc B w s A c l k out) (hl:l.length<=1000000) (y:Int) (hy:Ck l k y):H_ 457 #[Q_ s,B_ y] w fun e w'=>e=.returned (R_ true)/\One s w w'/\k<l.length/\Sc B w' s A c l (k+1) out:=by
 refine(Cj h hl y).mono ?_;rintro e w' ⟨o,_,⟨rfl,h1,h2,_⟩|⟨rfl,h1,_⟩⟩
 ·exact⟨rfl,o,h1,h2⟩
 ·obtain⟨x,hx,UN⟩:=hy;exact absurd UN (h1 x hx)
theorem XZ(h:Sc B w s A c l k out) (hl:l.length<=1000000) (y:Int) (hy:¬Ck l k y):H_ 457 #[Q_ s,B_ y] w fun e w'=>e=.returned (R_ false)/\One s w w'/\∃k',Sc B w' s A c l k' out/\k<=k':=by
 refine(Cj h hl y).mono ?_;rintro e w' ⟨o,_,⟨rfl,_,_,h1⟩|⟨rfl,_,h2⟩⟩
 ·exact absurd h1 hy
 ·exact⟨rfl,o,h2⟩
theorem Cl(h:Sc B w s A c l k out) (hl:l.length<=100000) (asX:∀b off,A=some ⟨b,off,none⟩->b<B) (hB:B<=w.heap.size) {w0:World}(hE:fG w0) (iP:ae w0 w) (oW:w0.heap.size<=s):
 H_ 443 #[Q_ s] w fun e w'=>ScQ B w w' s A c l k e:=by
 have HI:=ac5 (Cj h O_ 123);have HIs:=ac5 (fun W k' eh (h':Sc B W s A c l k' eh) y=>Cj h' O_ y);have HE:=ac5 (fun W (hf:One s w W)=>hE.new (ae.one iP hf oW));clear h
 go_enter func443,ntmps443
 go_wp2_with fail
 refine HI.out.mono ?_;rintro e w1 ⟨o1,s1,⟨rfl,eA,h1,_⟩|⟨rfl,_,k',h1,eA⟩⟩
 ·obtain⟨⟨c0,c1,c2⟩,f1,f2,l1⟩:=h1.all;have je:=h1.r.cutAt (k+1) l.length (aA _);have jE:∀W,(Instr.sliceAt 23 (X_ A l.length c) (some (I_ ((k:Int)+1))) none none).run prog W=.ok (X_ (kh A c (k+1)) (l.length-(k+1)) (c-(k+1))) W:=fun W=>h1.r.me (k+1) h1.hk W;have hlen:((l.drop (k+1)).take (l.length-(k+1))).length=l.length-(k+1):=by rw [jo,gj];omega
  obtain⟨lr,hlr⟩:∃lr,lr=(l.drop (k+1)).take (l.length-(k+1)):=⟨_,rfl⟩;rw [<-hlr]at je hlen;have hbi:=fun W (hW:SB W (kh A c (k+1)) (c-(k+1)) lr)=>KW _ _ lr 125 W hW;rw [hlen]at hbi;have jd:=RY lr ((125:Int).toNat.toUInt8);generalize Lib.indexByte lr ((125:Int).toNat.toUInt8)=i at hbi jd;have hir:i<(l.length:Int)-(k+1):=O_
  have gn:=jd.1;clear hlr hlen jd;go_wp2_with fail
  go_quiet ((go_at_call 264;exact lG (hbi _ (je.new N_))))
  have hq:ae w1 (w1.drewN nq):=Fr.drewN (ae.refl _) nq;have nJ:One s w (w1.drewN nq):=o1.trans (ae.to hq);have h2:=h1.new hq;generalize w1.drewN nq=w2 at*;by_cases hi:i<0
  ·go_wp2;go_ret;exact⟨false,k+1,out,rfl,h2,O_,(fun h=>by cases h),nJ.mono fun _ _ e=>.inl e⟩
  ·obtain⟨iN,rfl⟩:∃iN:Nat,i=iN:=⟨i.toNat,O_⟩;clear hbi jE je c0 c1 c2 f1 f2 l1 h1 hq o1 s1;obtain⟨⟨c0,c1,c2⟩,f1,f2,l1⟩:=h2.all;have pN:IntKind.i64.wrap ((k:Int)+1+iN)=(k:Int)+1+iN:=aM _ O_;have AU:IntKind.i64.wrap ((iN:Int)+1)=(iN:Int)+1:=aM _ O_;have J1:IntKind.i64.wrap ((k:Int)+1+((iN:Int)+1))=(k:Int)+1+((iN:Int)+1):=aM _ O_
   have jE:∀W,(Instr.sliceAt 23 (X_ A l.length c) (some (I_ ((k:Int)+1))) (some (I_ ((k:Int)+1+iN))) none).run prog W=.ok (X_ (kh A c (k+1)) iN (c-(k+1))) W:=fun W=>by
    have h:=h2.r.cut (k+1) (k+1+iN) O_ O_ W;rw [eS]at h;exact h
   have je:=h2.r.cutAt (k+1) (k+1+iN) O_;have hlen:((l.drop (k+1)).take ((k+1+iN)-(k+1))).length=iN:=by rw [jo,gj];omega
   obtain⟨lp,hlp⟩:∃lp,lp=(l.drop (k+1)).take ((k+1+iN)-(k+1)):=⟨_,rfl⟩;rw [<-hlp]at je hlen;have kY:=fun W (hW:ae w2 W)=>(je.new hW).conv W (je.new hW);rw [hlen]at kY;have HC:=ac5 kY;have HN:=ac5 (fun W (hW:ae w2 W)=>oY ⟨lp.toArray⟩ (by show lp.length<=1000000;omega) W ((HE.out _ nJ).new hW));have aik:=kY w2 (ae.refl _);have aaI:=kY w2.drew (ae.refl _).drew;clear hlp hlen je kY;have H2:=ac5 h2;go_wp2_with fail
   go_region_held3 (fun W=>L_ W s 0 (X_ A l.length c)/\L_ W s 1 (I_ ((k+1:Nat):Int))/\(convert 23 9 (X_ (kh A c (k+1)) iN (c-(k+1)))).run prog W=.ok (T_ ⟨lp.toArray⟩) W) (first|go_keep|(refine⟨?_,?_,?_⟩<;>first|assumption|exact HC.out _ A_)) ((first
    |(go_at_call 204
      refine(HN.out _ N_).mono ?_;rintro e w3 ⟨n3,u,q,rfl,hu⟩;have m3:ae w2 w3:=Fr.trans N_ n3;have h3:=H2.out.new m3;obtain⟨⟨p0,p1,p2⟩,g1,g2,l3⟩:=h3.all;have pc:=HC.out w3 m3;have H3:=ac5 h3;clear h3 n3)
    |fail))
   have e7:((k:Int)+1+((iN:Int)+1))=((k+iN+2:Nat):Int):=O_
   have h4:Sc B (w3.setCell (C_ s 1) (I_ ((k:Int)+1+((iN:Int)+1)))) s A c l (k+iN+2) out:=by
    rw [e7];exact H3.out.at_ (k+iN+2) O_ O_
   have o4:One s w (w3.setCell (C_ s 1) (I_ ((k:Int)+1+((iN:Int)+1)))):=(nJ.trans (ae.to m3)).trans ((One.refl s w3).set 1 _);clear e7 c0 c1 c2 f1 f2 l1 jE aik aaI HC HN H2 h2 pN pc;go_wp2_with fail
   generalize Gg:(w3.setCell (C_ s 1) (I_ ((k:Int)+1+((iN:Int)+1))))=w4 at h4 o4⊢;clear Gg p0 p1 p2 g1 g2 l3 H3 m3 AU J1;have pR:k+iN+2<=l.length:=O_
   obtain⟨k4,afo⟩:∃k4,k4=k+iN+2:=⟨_,rfl⟩;have VI:k<=k4:=O_
   rw [<-afo]at h4 pR;clear afo hir gn eA
   cases q
   ·go_wp2_with (first|go_region|fail)
    go_ret;exact⟨false,k4,out,rfl,h4.new N_,VI,(fun h=>by cases h),(o4.trans (ae.to N_)).mono fun _ _ e=>.inl e⟩
   ·have e8:(65536<(u:Int))\/¬(65536<(u:Int)):=O_
    rcases e8 with e8|e8
    ·go_wp2_with (first|go_region|fail)
     go_ret;exact⟨false,k4,out,rfl,h4.new N_,VI,(fun h=>by cases h),(o4.trans (ae.to N_)).mono fun _ _ e=>.inl e⟩
    ·have e9:=aP e8;by_cases hA:Ck l k4 13
     ·by_cases qh:Ck l (k4+1) 10
      ·have hI4:=ac5 (fun W (hW:ae w4 W)=>Jk (h4.new hW) O_ 13 hA);have H4:=ac5 (And.intro h4 o4);clear h4 o4 hA;have q4:L_ w4 s 0 (X_ A l.length c):=H4.out.1.b.cell 0;have HB2:=ac5 qh;clear qh;go_wp2_with fail
       refine QQ210_ (S:=fun W=>L_ W s 0 (X_ A l.length c)) K_ q4 (fun hH=>?_)
       iterate 11
        refine Of (v:=?_) rfl rfl K_ K_ K_ (fun _ _ _ h=>h) (by rfl) (fun w hw=>?_) hH ?_
        rotate_left
        ·(go_simp;try with_reducible rfl)
        simp only [Act.put,ey,fY,eo]
       refine tkC 70 rfl K_ (by rfl) fun K hK=>?_
       go_simp
       go_at_call 457
       rw [show(((⟨#[13,10]⟩:ByteArray)[0]).toNat:Int)=13 from rfl];refine(hI4.out _ N_).mono ?_;rintro e w5 ⟨rfl,o5,gX,h5⟩;have SR:=ac5 (fun W (hW:ae w5 W)=>Jk (h5.new hW) O_ 10 HB2.out);refine hK.out _ _ (h5.b.cell 0) (fun hH=>?_);clear hK K;simp only [Act.put,ey,fY,eo]
       iterate 7
        refine Of (v:=?_) rfl rfl K_ K_ K_ (fun _ _ _ h=>h) (by rfl) (fun w hw=>?_) hH ?_
        rotate_left
        ·(go_simp;try with_reducible rfl)
        simp only [Act.put,ey,fY,eo]
       refine tkC 78 rfl K_ (by rfl) fun K hK=>?_
       go_simp
       go_at_call 457
       rw [show(((⟨#[13,10]⟩:ByteArray)[1]).toNat:Int)=10 from rfl];refine(SR.out _ N_).mono ?_;rintro e w6 ⟨rfl,o6,rv,h6⟩;refine hK.out _ _ (h6.b.cell 0) (fun hH=>?_);clear hK K;simp only [Act.put,ey,fY,eo]
       iterate 15
        refine Of (v:=?_) rfl rfl K_ K_ K_ (fun _ _ _ h=>h) (by rfl) (fun w hw=>?_) hH ?_
        rotate_left
        ·(go_simp;try with_reducible rfl)
        simp only [Act.put,ey,fY,eo]
       have q61:=h6.b.k1;refine tkC 94 rfl K_ (by rfl) fun K hK=>?_
       go_simp
       refine hK.out _ _ (h6.b.cell 0) (fun hH=>?_);clear hK K;simp only [Act.put,ey,fY,eo]
       iterate 3
        refine Of (v:=?_) rfl rfl K_ K_ K_ (fun _ _ _ h=>h) (by rfl) (fun w hw=>?_) hH ?_
        rotate_left
        ·(go_simp;try with_reducible rfl)
        simp only [Act.put,ey,fY,eo]
       refine wpAnyH_done K_ ?_ _;have o46:One s w w6:=((H4.out.2.trans (ae.to (ae.refl w4).drew)).trans o5).trans o6;have hwu:IntKind.i64.wrap (u:Int)=u:=aM _ O_;have Xj:IntKind.i64.wrap ((l.length:Int)-((k4:Int)+1+1))=(l.length:Int)-((k4:Int)+1+1):=aM _ O_;rw [hwu,Xj];clear H4 o5 h5 SR o6 hI4 q4 HB2;by_cases hD:(l.length:Int)-((k4:Int)+1+1)<u
       ·rw [k_ hD];go_wp2;go_ret;exact⟨false,k4+1+1,out,rfl,h6,O_,(fun h=>by cases h),o46.mono fun _ _ e=>.inl e⟩
       ·rw [aP hD];obtain⟨⟨c0,c1,c2⟩,f1,f2,l1⟩:=h6.all;have hw7:IntKind.i64.wrap ((k4:Int)+1+1+u)=(k4:Int)+1+1+u:=aM _ O_
        have jE:∀W,(Instr.sliceAt 23 (X_ A l.length c) (some (I_ ((k4:Int)+1+1))) (some (I_ ((k4:Int)+1+1+u))) none).run prog W=.ok (X_ (kh A c (k4+1+1)) u (c-(k4+1+1))) W:=fun W=>by
         have h:=h6.r.cut (k4+1+1) (k4+1+1+u) O_ O_ W;rw [eS]at h;exact h
        have je:=h6.r.cutAt (k4+1+1) (k4+1+1+u) O_;have hlen:((l.drop (k4+1+1)).take ((k4+1+1+u)-(k4+1+1))).length=u:=by rw [jo,gj];omega
        obtain⟨lc,NT⟩:∃lc,lc=(l.drop (k4+1+1)).take ((k4+1+1+u)-(k4+1+1)):=⟨_,rfl⟩;rw [<-NT]at je hlen;have ez:=je.rd;rw [hlen]at ez;have U9:=ac5 (fun W (hW:ae w6 W)=>eT _ _ W (ez.new hW) (by rw [aW];omega));have hkn:k4+1+1+u<=l.length/\k<=k4:=⟨O_,VI⟩;have H6:=ac5 (And.intro h6 (And.intro o46 hlen));have HKN:=ac5 hkn;clear hkn NT je ez h6 o46 hlen hD Xj rv gX VI hH q61;go_wp2_with fail
        go_region_held3 (fun W=>L_ W s 0 (X_ A l.length c)/\L_ W s 1 (I_ ((k4+1+1:Nat):Int))) (first|go_keep|(refine⟨?_,?_⟩<;>assumption)|exact⟨s70 _,s71 _⟩) ((first
         |(go_simp
           go_at_call 75
           refine(U9.out _ N_).mono ?_;rintro e w7 ⟨_,rfl,nH,n7⟩;obtain⟨A7,C7,rfl,_⟩:=nH.form;have m7:ae w6 w7:=Fr.trans N_ n7;have h7:=H6.out.1.new m7;obtain⟨⟨p0,p1,p2⟩,g1,g2,l3⟩:=h7.all;have s70:∀v,L_ (w7.setCell (C_ s 2) v) s 0 (X_ A l.length c):=fun v=>(h7.b.al 2 v).cell 0;have s71:∀v,L_ (w7.setCell (C_ s 2) v) s 1 (I_ ((k4+1+1:Nat):Int)):=fun v=>(h7.b.al 2 v).cell 1;have s72:∀v,(w7.setCell (C_ s 2) v).frozen? (C_ s 1)=false:=fun v=>(h7.b.al 2 v).frozen 1;have H7:=ac5 (And.intro h7 (And.intro nH m7));clear h7 nH n7 m7;go_wp2_with fail)
         |fail))
        have t1:=s71 (X_ A7 (nums lc).length C7);have t2:=s72 (X_ A7 (nums lc).length C7);clear p0 p1 p2 g1 g2 l3 c0 c1 c2 f1 f2 l1 s70 s71 s72 U9 jE;go_wp2;go_ret;obtain⟨h7,nH,m7⟩:=H7.out;have hkn:=HKN.out;clear hwu hw7;have o2:One s w7 (w7.setCell (C_ s 2) (X_ A7 (nums lc).length C7)):=(One.refl s w7).set 2 _;have o9:=o2.set 1 (I_ ((k4:Int)+1+1+u));have hB7:B<=w6.heap.size:=by have:=H6.out.2.1.size;omega
        refine⟨true,k4+1+1+u,_,rfl,⟨?_,h7.r.fr o9 fun b off e _=>h7.n b off e,h7.n,O_,lc,(nH.mono hB7).fr o9 fun g hg e=>?_,by rw [H6.out.2.2];omega⟩,O_,fun _=>O_,((H6.out.2.1.trans (ae.to m7)).trans o9).mono fun _ _ e=>.inl e⟩
        ·have:=(h7.b.al 2 (X_ A7 (nums lc).length C7)).al 1 (I_ ((k4:Int)+1+1+u));have e:((k4+1+1+u:Nat):Int)=(k4:Int)+1+1+u:=O_
         rw [e];exact this
        ·have e:=e;subst e;exact nH.ar h7.b D_ hg
      ·have hI4:=ac5 (fun W (hW:ae w4 W)=>Jk (h4.new hW) O_ 13 hA);have H4:=ac5 (And.intro h4 o4);clear h4 o4 hA;have HB2:=ac5 qh;clear qh;go_wp2_with fail
       refine QQ210_ (S:=fun _=>True) K_ trivial (fun hH=>?_)
       iterate 11
        refine Of (v:=?_) rfl rfl K_ K_ K_ (fun _ _ _ h=>h) (by rfl) (fun w hw=>?_) hH ?_
        rotate_left
        ·(go_simp;try with_reducible rfl)
        simp only [Act.put,ey,fY,eo]
       refine tkC 70 rfl K_ (by rfl) fun K hK=>?_
       go_simp
       go_at_call 457
       rw [show(((⟨#[13,10]⟩:ByteArray)[0]).toNat:Int)=13 from rfl];refine(hI4.out _ N_).mono ?_;rintro e w5 ⟨rfl,o5,gX,h5⟩;have SR:=ac5 (fun W (hW:ae w5 W)=>XZ (h5.new hW) O_ 10 HB2.out);refine hK.out _ _ trivial (fun hH=>?_);clear hK K;simp only [Act.put,ey,fY,eo]
       iterate 7
        refine Of (v:=?_) rfl rfl K_ K_ K_ (fun _ _ _ h=>h) (by rfl) (fun w hw=>?_) hH ?_
        rotate_left
        ·(go_simp;try with_reducible rfl)
        simp only [Act.put,ey,fY,eo]
       refine tkC 78 rfl K_ (by rfl) fun K hK=>?_
       go_simp
       go_at_call 457
       rw [show(((⟨#[13,10]⟩:ByteArray)[1]).toNat:Int)=10 from rfl];refine(SR.out _ N_).mono ?_;rintro e w6 ⟨rfl,o6,k6,h6,rv⟩;refine hK.out _ _ trivial (fun hH=>?_);clear hK K;simp only [Act.put,ey,fY,eo]
       iterate 3
        refine Of (v:=?_) rfl rfl K_ K_ K_ (fun _ _ _ h=>h) (by rfl) (fun w hw=>?_) hH ?_
        rotate_left
        ·(go_simp;try with_reducible rfl)
        simp only [Act.put,ey,fY,eo]
       iterate 15
        refine tkU rfl rfl K_ K_ K_ (fun _ _ _ h=>h) (by rfl) hH ?_;simp only [Act.put,ey,fY,eo]
       iterate 1
        refine Of (v:=?_) rfl rfl K_ K_ K_ (fun _ _ _ h=>h) (by rfl) (fun w hw=>?_) hH ?_
        rotate_left
        ·(go_simp;try with_reducible rfl)
        simp only [Act.put,ey,fY,eo]
       refine wpAnyH_done K_ ?_ _;go_wp2;go_ret;exact⟨false,k6,out,rfl,h6,O_,(fun h=>by cases h),(((H4.out.2.trans (ae.to (ae.refl w4).drew)).trans o5).trans o6).mono fun _ _ e=>.inl e⟩
     ·have hI4:=ac5 (fun W (hW:ae w4 W)=>XZ (h4.new hW) O_ 13 hA);have H4:=ac5 (And.intro h4 o4);clear h4 o4 hA;go_wp2_with fail
      refine QQ210_ (S:=fun _=>True) K_ trivial (fun hH=>?_)
      iterate 11
       refine Of (v:=?_) rfl rfl K_ K_ K_ (fun _ _ _ h=>h) (by rfl) (fun w hw=>?_) hH ?_
       rotate_left
       ·(go_simp;try with_reducible rfl)
       simp only [Act.put,ey,fY,eo]
      refine tkC 70 rfl K_ (by rfl) fun K hK=>?_
      go_simp
      go_at_call 457
      rw [show(((⟨#[13,10]⟩:ByteArray)[0]).toNat:Int)=13 from rfl];refine(hI4.out _ N_).mono ?_;rintro e w5 ⟨rfl,o5,k5,h5,gX⟩;refine hK.out _ _ trivial (fun hH=>?_);clear hK K;simp only [Act.put,ey,fY,eo]
      iterate 3
       refine Of (v:=?_) rfl rfl K_ K_ K_ (fun _ _ _ h=>h) (by rfl) (fun w hw=>?_) hH ?_
       rotate_left
       ·(go_simp;try with_reducible rfl)
       simp only [Act.put,ey,fY,eo]
      iterate 6
       refine tkU rfl rfl K_ K_ K_ (fun _ _ _ h=>h) (by rfl) hH ?_;simp only [Act.put,ey,fY,eo]
      iterate 2
       refine Of (v:=?_) rfl rfl K_ K_ K_ (fun _ _ _ h=>h) (by rfl) (fun w hw=>?_) hH ?_
       rotate_left
       ·(go_simp;try with_reducible rfl)
       simp only [Act.put,ey,fY,eo]
      iterate 15
       refine tkU rfl rfl K_ K_ K_ (fun _ _ _ h=>h) (by rfl) hH ?_;simp only [Act.put,ey,fY,eo]
      iterate 1
       refine Of (v:=?_) rfl rfl K_ K_ K_ (fun _ _ _ h=>h) (by rfl) (fun w hw=>?_) hH ?_
       rotate_left
       ·(go_simp;try with_reducible rfl)
       simp only [Act.put,ey,fY,eo]
      refine wpAnyH_done K_ ?_ _;go_wp2;go_ret;exact⟨false,k5,out,rfl,h5,O_,(fun h=>by cases h),((H4.out.2.trans (ae.to (ae.refl w4).drew)).trans o5).mono fun _ _ e=>.inl e⟩
 ·go_wp2;go_ret;exact⟨false,k',out,rfl,h1,eA,(fun h=>by cases h),o1.mono fun _ _ e=>.inl e⟩
end
end Go.Proofs.YtliimglbbiebiaaGreatDoor
