import Derived.Test.YtliimglbbiebiaaGreatDoorGTopTimeAF
import Derived.Test.YtliimglbbiebiaaGreatDoorGTopTimeAI
import Derived.Test.YtliimglbbiebiaaGreatDoorGTopTimeAJ
set_option maxRecDepth 100000
set_option maxHeartbeats 6400000
set_option linter.all false
namespace Go.Proofs.YtliimglbbiebiaaGreatDoor
open Go.Proofs.Tryz Go.RowKit Go.Maps
structure fK where
 t:ByteArray
 k:Int
 m:ByteArray
 sA:Option Addr
 sn:Nat
 sc:Nat
 it:Int
 mo:Int
 si:Bool
 fl:Int
 dA:Option Addr
 dn:Nat
 dc:Nat
abbrev fK.val (c:fK):Value:=.agg #[T_ c.t,I_ c.k,T_ c.m,X_ c.sA c.sn c.sc,I_ c.it,I_ c.mo,R_ c.si,B_ c.fl,X_ c.dA c.dn c.dc]
theorem dN{w:World}{g:Nat}{a b:Value}(h:af w g 108 #[a,b]):(loadVar 108 (C_ g 0)).run prog w=.ok (.agg #[a,b]) w:=
 kV w g _ _ _ _ _ h underlying108 rfl K_
def iV:ByteArray:=⟨#[78,79,79,80,32,99,111,109,112,108,101,116,101,100]⟩
abbrev rR(OB:Nat):Value:=.func (.func 39) #[] #[Q_ OB]
theorem Lp(x OB base:Nat) (bx:Value) (id:Int) (dn:Bool) (c:fK) (w:World) (hx:mV w x bx id none dn) (hb:af w OB 50 #[Z_]) (dH:base<=w.heap.size):
 H_ 65 #[Q_ x,c.val,rR OB] w fun e w'=>e=.returned (.agg #[I_ 0,T_ iV])/\∃v,af w' OB 50 #[v]/\Own cG 53 base w' v []/\Fr (fun k=>k=OB) w w':=by
 obtain⟨w0,cU⟩:∃w0,w0=(w.alloc (G_ #[T_ c.t,I_ c.k,T_ c.m,X_ c.sA c.sn c.sc,I_ c.it,I_ c.mo,R_ c.si,B_ c.fl,X_ c.dA c.dn c.dc] 47)).alloc (G_ #[I_ 0,E_] 108):=⟨_,rfl⟩;have n0:ae w w0:=cU▸((ae.refl w).alloc _).alloc _;have r0:=cU▸af.cD _ _ _ _;have xS:=n0.ai hx;have ti:=n0.ai hb;have s0:=n0.size;have nV:=hb.lt
 go_enter func65,ntmps65
 go_wp2_with fail
 rw [<-cU];clear cU;refine(vO x bx id dn true w0 xS).mono ?_;rintro e w1 ⟨rfl,rfl⟩;go_wp2_with fail
 refine(uI OB base Z_ Z_ [] [] w1 ti (Own.nil _ _ _ _) (Rd.nil _ _) S_ O_).mono ?_;rintro e w2 ⟨rfl,v,eP,eY,dU,_⟩;have acX:=dU.mono fun k _ hk=>by rcases hk with hk|hk;exact hk;cases hk
 have r2:=Fr.ai acX r0 O_;obtain⟨q0,q1⟩:=r2.dQ;have f2:=r2.dq;go_wp2;have hR:=r2.bP (I_ 0) (T_ iV);refine r_ (aI rfl _ _ rfl (dN hR)) rfl ⟨rfl,v,(eP.bL (p:=⟨w.heap.size+1,0,none⟩) (by show OB≠w.heap.size+1;omega) _).bL (p:=⟨w.heap.size+1,1,none⟩) (by show OB≠w.heap.size+1;omega) _,?_,?_⟩
 ·refine eY.fr (One.bP w2 (w.heap.size+1) _ _) fun g hg e=>?_;have e:=e;exact eY.ar r2 D_ (by rw [<-e];exact hg)
 ·exact Fr.setCell (Fr.setCell (Fr.trans' (n0.mono fun _ _ h=>h.elim) acX fun _ _ h=>h) (p:=⟨w.heap.size+1,0,none⟩) (fun h=>absurd h S_) _) (p:=⟨w.heap.size+1,1,none⟩) (fun h=>absurd h S_) _
theorem OQ(w:World):(zeroValue 103).run prog w=.ok (.agg #[.nilFunc,R_ false]) w:=K_
theorem jn{α:Type}{E:cr α}{w:World}{g:Nat}{t:TypeId}{x:α}(h:af w g t (E.enc x).toArray):Rd E w (X_ (M_ g) 1 1) [x]:=by
 refine⟨_,1,rfl,aA _,fun _=>⟨g,0,rfl,fun i y hy j u hu=>?_⟩⟩
 have hi:i=0:=by
  rcases i with _|i
  ·rfl
  ·simp at hy
 subst hi;obtain rfl:x=y:=by simpa using hy
 have:=h.cell j;rw [aT,aH,aH];rw [this];simpa using hu
theorem JM(k:Int) (f:Nat) (za:Bool) (Cw:get opsL k=some (y_ f za)) (dx:aL.ok k) (W:World):H_ 40 #[] W fun e w2=>∃m,e=.returned (.map (some m))/\ae W w2/\
 (Instr.lookup 104 (.map (some m)) (I_ k) false).run prog w2=.ok (.agg #[.func (.func f) #[] #[],R_ za]) w2/\∀o,(Instr.lookup 104 (.map (some m)) (I_ k) false).run prog (w2.alloc o)=.ok (.agg #[.func (.func f) #[] #[],R_ za]) (w2.alloc o):=by
 refine(vP W).mono ?_;rintro e w2 ⟨rfl,th,m2⟩;refine⟨_,rfl,m2,?_,fun o=>?_⟩
 ·have hl:=th.eG (t:=104) (e:=103) underlying104 (OQ w2) dx;rw [Cw]at hl;exact hl
 ·have hl:=(th.alloc o).eG (t:=104) (e:=103) underlying104 (OQ _) dx;rw [Cw]at hl;exact hl
theorem JN(x:Nat) (bx:Value) (id:Int) (pv:Option Addr) (c:fK) (f:Nat) (za:Bool) (S:Nat->Prop) (X:Int->ByteArray->List cV->World->Prop) (w:World)
 (hE:∀args w,(callFunc f args).run prog w=.ok (.enter f args) w)
 (hx:mV w x bx id pv false) (Cw:get opsL c.k=some (y_ f za)) (dx:aL.ok c.k) (AI:za=true->pv≠none)
 (hV:∀W,ae w W->H_ 38 #[c.val] W fun e W'=>e=.returned (R_ true)/\ae W W')
 (hf:∀OB W,ae w W->w.heap.size<=OB->af W OB 50 #[Z_]->H_ f #[Q_ x,c.val,rR OB] W fun e W'=>∃st tx v l,e=.returned (.agg #[I_ st,T_ tx])/\af W' OB 50 #[v]/\Own cG 53 w.heap.size W' v l/\l.length<=300000000/\Fr (fun k=>k=OB\/S k) W W'/\X st tx l W')
 (hS:∀k,S k->k<w.heap.size)
 (hX:∀st tx l v A B,X st tx l A->Own cG 53 w.heap.size A v l->Fr (fun k=>v.ownBlock=some k) A B->X st tx l B):
 H_ 17 #[Q_ x,c.val] w fun e w'=>∃st tx v l,e=.returned v/\Own cG 53 w.heap.size w' v (l++[l_ c.t st tx])/\Fr S w w'/\X st tx l w':=by
 obtain⟨i0,hi,dw,cE,dy⟩:=wF qk;obtain⟨w0,cU⟩:∃w0,w0=w.alloc (G_ #[T_ c.t,I_ c.k,T_ c.m,X_ c.sA c.sn c.sc,I_ c.it,I_ c.mo,R_ c.si,B_ c.fl,X_ c.dA c.dn c.dc] 47):=⟨_,rfl⟩;have n0:ae w w0:=cU▸(ae.refl w).alloc _;have b0:=cU▸af.new _ _ _;have xS:=n0.ai hx;obtain⟨x0,x1,x2,x3⟩:=xS.rQ;obtain⟨k0,k1,k2,k3,k4,k5,k6,k7,k8⟩:=b0.nG;have HF:=ac5 hf;have HX:=ac5 hX;have HS:=ac5 hS;have HV:=ac5 hV;have aic:=ac5 AI;have HG:=JM c.k f za Cw dx;clear hf hX hS hV AI Cw;subst cU
 go_enter func17,ntmps17
 go_wp2_with fail
 refine(HV.out _ n0).mono ?_;rintro e w1 ⟨rfl,m1⟩;have n1:=n0.trans m1;have b1:=m1.ai b0;have jF:=m1.ai xS;have l1:=b1.lt;clear k0 k1 k2 k3 k4 k5 k6 k7 k8 x0 x1 x2 x3 b0 xS n0 m1;go_wp2_with fail
 have nA:=n1.alloc (G_ #[Z_] 50);have bA:=b1.alloc (G_ #[Z_] 50);have hxA:=jF.alloc (G_ #[Z_] 50);have oA:=af.new w1 50 #[Z_];have sA:(w1.alloc (G_ #[Z_] 50)).heap.size=w1.heap.size+1:=by rw [gz]
 generalize(w1.alloc (G_ #[Z_] 50))=wA at*;generalize w1.heap.size=OB at*;clear b1 jF n1 w1;have kA:=bA.k1;have hlA:w.heap.size<wA.heap.size:=O_
 clear sA
 go_region_held3 (fun W=>L_ W w 1 (I_ c.k)) (first|go_keep|assumption|exact S0 _ _) ((first
  |(go_at_call 40
    refine(HG _).mono ?_;rintro e w2 ⟨m,rfl,m2,hl,Ln⟩;have da:ae wA w2:=Fr.trans N_ m2;have c2:L_ w2 w 1 (I_ c.k):=(da.ai bA).cell 1;have S0:∀u v,L_ ((w2.setCell (C_ wA 0) u).setCell (C_ wA 1) v) w 1 (I_ c.k):=fun u v=>Fr.cell (((One.refl wA.heap.size w2).set 0 u).set 1 v) c2 (by show¬w.heap.size=wA.heap.size;omega)
    try(have y:=m2.ai (af.new wA.drew 103 #[.nilFunc,R_ false]);simp only [IN]at y;have y0:=y.k0;have y1:=y.k1;have z0:=y.frozen 0;have z1:=y.frozen 1))
  |fail))
 all_goals
  first
  |(have n2:ae wA ((w2.setCell ⟨wA.heap.size,0,none⟩ (.func (.func f) #[] #[])).setCell ⟨wA.heap.size,1,none⟩ (.bool za)):=ae.one da (((One.refl wA.heap.size w2).set 0 _).set 1 _) (aA _)
    have e1:af ((w2.setCell (C_ wA 0) (.func (.func f) #[] #[])).setCell (C_ wA 1) (R_ za)) wA 103 #[.func (.func f) #[] #[],R_ za]:=y.bP _ _;generalize((w2.setCell (C_ wA 0) (.func (.func f) #[] #[])).setCell (C_ wA 1) (R_ za))=w3 at n2 e1⊢;generalize wA.heap.size=G at e1⊢)
  |(have n2:ae wA (w2.alloc (.cells #[.func (.func f) #[] #[],.bool za] 103)):=da.alloc _
    have e1:af (W_ w2 #[.func (.func f) #[] #[],R_ za] 103) w2 103 #[.func (.func f) #[] #[],R_ za]:=af.new _ _ _;generalize(w2.alloc (G_ #[.func (.func f) #[] #[],R_ za] 103))=w3 at n2 e1⊢;generalize w2.heap.size=G at e1⊢)
  have b3:=n2.ai bA;have hx3:=n2.ai hxA;have o3:=n2.ai oA;have n3:=nA.trans n2;clear n2;obtain⟨x0,x1,x2,x3⟩:=hx3.rQ;obtain⟨k0,k1,k2,k3,k4,k5,k6,k7,k8⟩:=b3.nG;obtain⟨g0,g1⟩:=e1.dQ;have gU:w.heap.size<=OB:=O_
  have bZ:=HF.out OB w3 n3 gU o3;have eH:=ac5 bZ;have HOB:=ac5 gU;clear bZ gU hlA
  cases za
  case' true=>
   obtain⟨a,rfl⟩:∃a,pv=some a:=by
    cases pv with
    |none=>exact absurd rfl (aic.out rfl)
    |some a=>exact⟨a,rfl⟩
  all_goals
   go_wp2_with fail
   refine eH.out.mono ?_;rintro e w4 ⟨st,tx,v,l,rfl,uc,tj,Db,fL,hX4⟩;have b4:=Fr.ai fL b3 (by rintro(h|h);exact absurd h O_;exact absurd (HS.out _ h) O_);obtain⟨vA,vC,rfl,hvC⟩:=tj.form;have s4:=n3.size;have s4':=fL.size;have b5:=b4.alloc (G_ #[I_ st,T_ tx] 108);have ud:=uc.alloc (G_ #[I_ st,T_ tx] 108);have kW:=tj.alloc (G_ #[I_ st,T_ tx] 108);have g5:=af.new w4 108 #[I_ st,T_ tx];have m45:=(ae.refl w4).alloc (G_ #[I_ st,T_ tx] 108);have F4:=ac5 fL;have X4:=ac5 hX4;have O4:=ac5 tj;have N3:=ac5 n3;have S4:=ac5 (gy s4 s4');clear x0 x1 x2 x3 k0 k1 k2 k3 k4 k5 k6 k7 k8 g0 g1 fL hX4 tj n3 s4 s4' hx3 b3 o3 e1 uc b4;go_wp2_with fail
   generalize(w4.alloc (G_ #[I_ st,T_ tx] 108))=w5 at*;generalize w4.heap.size=g at g5⊢;obtain⟨k0,k1,k2,k3,k4,k5,k6,k7,k8⟩:=b5.nG;obtain⟨g0,g1⟩:=g5.dQ;have q0:=ud.k0;have G5:=ac5 g5;clear k1 k2 k3 k4 k5 k6 k7 k8 g5
   go_region_held3 (fun W=>L_ W w 0 (T_ c.t)/\L_ W g 0 (I_ st)/\L_ W g 1 (T_ tx)/\L_ W OB 0 (X_ vA l.length vC)) (first|go_keep|(refine⟨?_,?_,?_,?_⟩<;>assumption)) ((first
    |(go_at_call 42
      refine(yZ c.t st tx _).mono ?_;rintro e w6 ⟨rfl,m6⟩;have da:ae w5 w6:=Fr.trans N_ m6;have p0:=Fr.cell da k0 (fun h=>h);have p1:=Fr.cell da g0 (fun h=>h);have p2:=Fr.cell da g1 (fun h=>h);have p3:=Fr.cell da q0 (fun h=>h);have HR:=ac5 (jn (E:=cG) (x:=l_ c.t st tx) (t:=53) (af.new w6 53 (cG.enc (l_ c.t st tx)).toArray));have N6:=ac5 (da.alloc (G_ (cG.enc (l_ c.t st tx)).toArray 53)))
    |(refine eI (E:=cG) (l:=l) (v:=.slice vA l.length vC) (by rfl) (.tmp 48) (.tmp 56) 50 (by rfl) underlying50 hi dw cE dy rfl (by rfl) (by rfl) [l_ c.t st tx] (kW.new N6.out) HR.out (by unfold maxLen;simp;omega) P_ (gy S4.out (gy m45.size N6.out.size)) ?_
      intro A7 C7 w7 nH vQ GO;have hz:∀z,(Value.slice vA l.length vC).ownBlock=some z->z≠w.heap.size/\z≠g/\z≠OB:=fun z hz=>⟨fun e=>kW.ar b5 D_ (by rw [<-e];exact hz),fun e=>kW.ar G5.out D_ (by rw [<-e];exact hz),fun e=>kW.ar ud D_ (by rw [<-e];exact hz)⟩;have t0:=Fr.cell vQ (Fr.cell N6.out k0 (fun h=>h)) (fun h=>(hz _ h).1 rfl);have t1:=Fr.cell vQ (Fr.cell N6.out g0 (fun h=>h)) (fun h=>(hz _ h).2.1 rfl);have t2:=Fr.cell vQ (Fr.cell N6.out g1 (fun h=>h)) (fun h=>(hz _ h).2.1 rfl);have t3:=Fr.cell vQ (Fr.cell N6.out q0 (fun h=>h)) (fun h=>(hz _ h).2.2 rfl);have e8:(l++[l_ c.t st tx]).length=l.length+1:=S_
      rw [e8]at nH;have O7:=ac5 nH;clear e8;have F7:=ac5 vQ;clear nH vQ GO hz)
    |fail))
   all_goals
    go_wp2;go_ret;refine⟨st,tx,_,l,rfl,O7.out,?_,HX.out st tx l _ w4 w7 X4.out O4.out (Fr.trans ((m45.trans N6.out).mono fun _ _ h=>h.elim) F7.out)⟩
    have e4:Fr S w w4:=Fr.trans' (N3.out.mono fun _ _ h=>h.elim) F4.out fun i hi h=>by
     rcases h with h|h
     ·have:=HOB.out;omega
     ·exact h
    refine Fr.trans' (e4.trans ((m45.trans N6.out).mono fun _ _ h=>h.elim)) F7.out fun i hi h=>?_;have:=(O4.out.block h).1;omega
theorem TQ(x:Nat) (bx:Value) (dI:Int) (c:fK) (hk:c.k=1) (w:World) (hx:mV w x bx dI none false)
 (hV:∀W,ae w W->H_ 38 #[c.val] W fun e W'=>e=.returned (R_ true)/\ae W W'):
 H_ 17 #[Q_ x,c.val] w fun e w'=>∃v,e=.returned v/\Own cG 53 w.heap.size w' v [l_ c.t 0 iV]/\ae w w':=by
 refine(JN x bx dI none c 65 false (fun _=>False) (fun st tx l _=>st=0/\tx=iV/\l=[]) w (Aw func65 K_ rfl) hx (by rw [hk];rfl) (by rw [hk];exact OG) S_ hV ?_ (fun _ h=>h.elim) (fun _ _ _ _ _ _ h _ _=>h)).mono ?_
 ·intro OB W hW gU hb;refine(Lp x OB w.heap.size bx dI false c W (hW.ai hx) hb hW.size).mono ?_;rintro e W' ⟨rfl,v,h1,h2,h3⟩;exact⟨0,iV,v,[],rfl,h1,h2,S_,h3.mono fun _ _ h=>.inl h,rfl,rfl,rfl⟩
 ·rintro e w' ⟨st,tx,v,l,rfl,ho,hf,rfl,rfl,rfl⟩;exact⟨v,rfl,ho,hf⟩
abbrev OR(a b:Int):Value:=.agg #[I_ a,I_ b]
theorem kX(a b:Int) (h0:0<=a) (h1:a<=1000) (w:World):H_ 47 #[OR a b] w fun e w'=>e=.returned (I_ (1+a))/\ae w w':=by
 have hw:IntKind.i64.wrap (1+a)=1+a:=aM _ O_
 go_enter func47,ntmps47
 go_wp2;go_ret;exact⟨rfl,(ae.refl w).alloc _⟩
theorem gm(a b:Int) (h0:0<=a) (h1:a<=1000) (h2:0<=b) (h3:b<=1000) (w:World):H_ 27 #[OR a b] w fun e w'=>e=.returned (I_ (1+a+b))/\ae w w':=by
 obtain⟨w0,cU⟩:∃w0,w0=w.alloc (G_ #[I_ a,I_ b] 65):=⟨_,rfl⟩;have n0:ae w w0:=cU▸(ae.refl w).alloc _;have b0:=cU▸af.new _ _ _;obtain⟨k0,k1⟩:=b0.dQ;have hw:IntKind.i64.wrap (1+a+b)=1+a+b:=aM _ O_
 go_enter func27,ntmps27
 go_wp2_with fail
 rw [<-cU];clear cU
 go_region_held3 (fun W=>L_ W w 0 (I_ a)/\L_ W w 1 (I_ b)) (first|go_keep|(refine⟨?_,?_⟩<;>assumption)) ((first
  |(go_at_call 47
    refine(kX a b h0 h1 _).mono ?_;rintro e w2 ⟨rfl,m2⟩;have da:ae w0 w2:=Fr.trans N_ m2;have p0:=Fr.cell da k0 id;have p1:=Fr.cell da k1 id)
  |fail))
 all_goals
  go_wp2;go_ret;exact⟨rfl,n0.trans da⟩
theorem rS(a b i:Int) (h0:0<=a) (h1:a<=1000) (h3:b<=1000) (gn:0<=i) (iF:i<b) (w:World):H_ 51 #[OR a b,I_ i] w fun e w'=>e=.returned (.tuple #[I_ (1+a+i),R_ true])/\ae w w':=by
 have n0:ae w (W_ w #[I_ a,I_ b] 65):=(ae.refl w).alloc _;have hw:IntKind.i64.wrap (1+a+i)=1+a+i:=aM _ O_;have d0:¬i<0:=O_
 have d1:¬b<=i:=O_
 go_enter func51,ntmps51
 go_wp2_with fail
 refine(kX a b h0 h1 _).mono ?_;rintro e w2 ⟨rfl,m2⟩;go_wp2;go_ret2;exact⟨rfl,n0.trans m2⟩
abbrev ze(f:Nat):Value:=.func (.func f) #[] #[]
def GP:List (Int×Value):=(put (put (put (put (put (put (put (put [] 1 (ze 279)) 2 (ze 279)) 3 (ze 280)) 4 (ze 280)) 5 (ze 281)) 6 (ze 282)) 7 (ze 283)) 8 (ze 284))
theorem zg(w:World):H_ 209 #[] w fun e w'=>e=.returned (.map (some w.heap.size))/\HasMap aL w' w.heap.size GP/\ae w w':=by
 have uH:= @run_makeMap prog;have vD:=HasMap.made aL w
 go_enter func209,ntmps209
 go_wp2_with (first
  |(refine aw (E:=aL) rfl _ _ _ 321 319 rfl underlying321 vD (iB (aA 0) (by unfold maxLen;decide)) 1 (by show(Lit.int .i64 1).wf=true;decide) (ze 279) rfl rfl rfl ?_;intro zw1 GH CQ)
  |(refine aw (E:=aL) rfl _ _ _ 321 319 rfl underlying321 GH (iB (aj (aA 0)) (by unfold maxLen;decide)) 2 (by show(Lit.int .i64 2).wf=true;decide) (ze 279) rfl rfl rfl ?_;intro zw2 GJ AE)
  |(refine aw (E:=aL) rfl _ _ _ 321 319 rfl underlying321 GJ (iB (aj (aj (aA 0))) (by unfold maxLen;decide)) 3 (by show(Lit.int .i64 3).wf=true;decide) (ze 280) rfl rfl rfl ?_;intro zw3 GK AF)
  |(refine aw (E:=aL) rfl _ _ _ 321 319 rfl underlying321 GK (iB (aj (aj (aj (aA 0)))) (by unfold maxLen;decide)) 4 (by show(Lit.int .i64 4).wf=true;decide) (ze 280) rfl rfl rfl ?_;intro zw4 Ga CR)
  |(refine aw (E:=aL) rfl _ _ _ 321 319 rfl underlying321 Ga (iB (aj (aj (aj (aj (aA 0))))) (by unfold maxLen;decide)) 5 (by show(Lit.int .i64 5).wf=true;decide) (ze 281) rfl rfl rfl ?_;intro ub Lj CS)
  |(refine aw (E:=aL) rfl _ _ _ 321 319 rfl underlying321 Lj (iB (aj (aj (aj (aj (aj (aA 0)))))) (by unfold maxLen;decide)) 6 (by show(Lit.int .i64 6).wf=true;decide) (ze 282) rfl rfl rfl ?_;intro zw6 Yk OK)
  |(refine aw (E:=aL) rfl _ _ _ 321 319 rfl underlying321 Yk (iB (aj (aj (aj (aj (aj (aj (aA 0))))))) (by unfold maxLen;decide)) 7 (by show(Lit.int .i64 7).wf=true;decide) (ze 283) rfl rfl rfl ?_;intro zw7 Yl NM)
  |(refine aw (E:=aL) rfl _ _ _ 321 319 rfl underlying321 Yl (iB (aj (aj (aj (aj (aj (aj (aj (aA 0)))))))) (by unfold maxLen;decide)) 8 (by show(Lit.int .i64 8).wf=true;decide) (ze 284) rfl rfl rfl ?_;intro zw8 Yo Lk))
 go_ret;exact⟨rfl,Yo,ae.one ((ae.refl w).alloc _) (CQ.trans (AE.trans (AF.trans (CR.trans (CS.trans (OK.trans (NM.trans Lk))))))) (aA _)⟩
theorem OS(w:World):(zeroValue 319).run prog w=.ok .nilFunc w:=K_
theorem zh(k:Int) (f:Nat) (Cw:get GP k=some (ze f)) (dx:aL.ok k) (W:World):H_ 209 #[] W fun e w2=>∃m,e=.returned (.map (some m))/\ae W w2/\
 (Instr.lookup 321 (.map (some m)) (I_ k) true).run prog w2=.ok (.tuple #[ze f,R_ true]) w2:=by
 refine(zg W).mono ?_;rintro e w2 ⟨rfl,th,m2⟩;refine⟨_,rfl,m2,?_⟩;have hl:=th.bD (t:=321) (e:=319) underlying321 (OS w2) dx;rw [Cw]at hl;exact hl
theorem Lq(q:Nat) (w:World) (h:L_ w q 3 (.pointer none)):H_ 279 #[Q_ q] w fun e w'=>e=.returned (.tuple #[])/\w'=w:=by
 go_enter func279,ntmps279
 go_wp2;go_end0;exact⟨rfl,rfl⟩
theorem OT(a b i:Int) (h0:0<=a) (_ha:a≠0) (h1:a<=1000) (h3:b<=1000) (gn:0<=i) (iF:i<b) (c:fK) (hk:c.k=1) (w:World):
 H_ 153 #[OR a b,I_ i,.pointer none,c.val] w fun e w'=>e=.returned Z_/\ae w w':=by
 obtain⟨w0,cU⟩:∃w0,w0=(w.alloc (G_ #[I_ a,I_ b] 65)).alloc (G_ #[T_ c.t,I_ c.k,T_ c.m,X_ c.sA c.sn c.sc,I_ c.it,I_ c.mo,R_ c.si,B_ c.fl,X_ c.dA c.dn c.dc] 47):=⟨_,rfl⟩;have n0:ae w w0:=cU▸((ae.refl w).alloc _).alloc _;have a0:=cU▸(af.new _ _ _).alloc _;have b0:=cU▸af.cD _ _ _ _;obtain⟨p0,p1⟩:=a0.dQ;have HG:=zh c.k 279 (by rw [hk];rfl) (by rw [hk];exact OG);clear hk;subst cU
 go_enter func153,ntmps153
 go_wp2_with fail
 refine(rS a b i h0 h1 h3 gn iF _).mono ?_;rintro e w1 ⟨rfl,m1⟩;have a1:=m1.ai a0;have b1:=m1.ai b0;have n1:=n0.trans m1;clear a0 b0 p0 p1 m1 n0;obtain⟨p0,p1⟩:=a1.dQ;obtain⟨k0,k1,k2,k3,k4,k5,k6,k7,k8⟩:=b1.nG;go_wp2_with fail
 go_region_held3 (fun W=>L_ W (w.heap.size+1) 1 (I_ c.k)) (first|go_keep|assumption) ((first
  |(go_at_call 209
    refine(HG _).mono ?_;rintro e w2 ⟨m,rfl,m2,hl⟩;have da:ae w1 w2:=Fr.trans N_ m2;have q1:=Fr.cell da k1 id)
  |fail))
 all_goals
  have a2:=da.ai a1;have b2:=da.ai b1;have n2:=n1.trans da;clear p0 p1 k0 k1 k2 k3 k4 k5 k6 k7 k8 hl m2 n1 da a1 b1 q1;obtain⟨p0,p1⟩:=a2.dQ;obtain⟨k0,k1,k2,k3,k4,k5,k6,k7,k8⟩:=b2.nG;have r2:=af.new w2 325 #[I_ a,I_ b,I_ i,.pointer none,T_ c.t,I_ c.k,T_ c.m,X_ c.sA c.sn c.sc,I_ c.it,I_ c.mo,R_ c.si,B_ c.fl,X_ c.dA c.dn c.dc,Z_];have r3:=r2.k3;have r13:=r2.oH;have n3:=n2.alloc (G_ #[I_ a,I_ b,I_ i,.pointer none,T_ c.t,I_ c.k,T_ c.m,X_ c.sA c.sn c.sc,I_ c.it,I_ c.mo,R_ c.si,B_ c.fl,X_ c.dA c.dn c.dc,Z_] 325);go_wp2_with (go_at_call 279;refine(Lq w2.heap.size _ r3).mono ?_;rintro e w4 ⟨rfl,rfl⟩)
  go_ret;exact⟨rfl,n3⟩
section
open Go.RowKit Go.Shelf Go.Proofs
attribute [local go_sem] wT
def eK(lo hi:Int):List Int:=(List.range (hi+1-lo).toNat).map fun(i:Nat)=>lo+(i:Int)
theorem wK(lo hi:Int):(eK lo hi).length=(hi+1-lo).toNat:=by simp [eK]
theorem wM{lo hi y:Int}:y∈eK lo hi<->lo<=y/\y<=hi:=by
 unfold eK;rw [SE]
 constructor
 ·rintro⟨i,hi',rfl⟩;have:=List.mem_range.1 hi';omega
 ·rintro⟨h1,h2⟩;exact⟨(y-lo).toNat,List.mem_range.2 O_,O_⟩
theorem Ik(lo hi:Int):gF (eK lo hi):=by
 unfold eK gF;rw [List.pairwise_map];exact List.pairwise_lt_range.imp fun h=>O_
theorem En{lo hi:Int}(h:lo<=hi+1):eK lo (hi+1)=eK lo hi++[hi+1]:=by
 unfold eK;have e:(hi+1+1-lo).toNat=(hi+1-lo).toNat+1:=O_
 rw [e,List.range_succ,ta];simp;omega
theorem Eo{lo hi:Int}(h:hi<lo):eK lo hi=[]:=by
 unfold eK;have e:(hi+1-lo).toNat=0:=O_
 rw [e];rfl
def ig(top:Int):Int->List Rg->Prop
 |_,[]=>True
 |nx,r::t=>nx<=r.lo/\r.lo<=r.hi/\r.hi<=top/\ig top (r.hi+1) t
def wN:Int->List Rg->Int
 |nx,[]=>nx
 |_,r::t=>wN (r.hi+1) t
theorem qJ{top:Int}:∀{nx:Int}{l:List Rg}{r:Rg},ig top nx l->wN nx l<=r.lo->r.lo<=r.hi->r.hi<=top->ig top nx (l++[r])
 |_,[],_,_,h1,h2,h3=>⟨h1,h2,h3,trivial⟩
 |_,_::_,_,h,h1,h2,h3=>⟨h.1,h.2.1,h.2.2.1,qJ h.2.2.2 h1 h2 h3⟩
theorem wO:∀(nx:Int) (l:List Rg) (r:Rg),wN nx (l++[r])=r.hi+1
 |_,[],_=>rfl
 |_,x::l,r=>wO (x.hi+1) l r
theorem Ep{top:Int}:∀{nx:Int}{l:List Rg},ig top nx l->1<=nx->nx<=top+1->1<=wN nx l/\wN nx l<=top+1
 |_,[],_,h1,h2=>⟨h1,h2⟩
 |_,r::t,h,h1,_=>Ep (nx:=r.hi+1) (l:=t) h.2.2.2 (by have:=h.1;have:=h.2.1;omega) (by have:=h.2.2.1;omega)
def numsOf(l:List Rg):List Int:=l.flatMap fun r=>eK r.lo r.hi
theorem Er(l:List Rg) (r:Rg):numsOf (l++[r])=numsOf l++eK r.lo r.hi:=by simp [numsOf]
theorem mw{top:Int}:∀{nx:Int}{l:List Rg},ig top nx l->∀y∈numsOf l,nx<=y/\y<=top
 |_,[],_,y,hy=>by simp [numsOf]at hy
 |nx,r::l,h,y,hy=>by
  simp only [numsOf,wj,xg]at hy;rcases hy with hy|hy
  ·have h1:=wM.1 hy;have h2:=h.1;have h3:=h.2.2.1;omega
  ·have h1:=mw h.2.2.2 y hy;have h2:=h.1;have h3:=h.2.1;omega
theorem tG{top:Int}:∀{nx:Int}{l:List Rg},ig top nx l->gF (numsOf l)
 |_,[],_=>List.Pairwise.nil
 |_,r::l,h=>by
  have e:numsOf (r::l)=eK r.lo r.hi++numsOf l:=by simp [numsOf]
  rw [e];refine List.pairwise_append.2 ⟨Ik _ _,tG h.2.2.2,fun a ha b hb=>?_⟩;have h1:=wM.1 ha;have h2:=mw h.2.2.2 b hb;omega
theorem uS{l:List Int}{lo hi:Int}(ha:gF l) (h:∀y∈l,lo<=y/\y<=hi) (hlh:lo<=hi+1):(l.length:Int)<=hi+1-lo:=by
 induction l generalizing lo with
 |nil=>simp;omega
 |cons x l ih=>
  have h1:=h x S_;have h2:=ih (lo:=x+1) ha.tail (fun y hy=>⟨by have:=ha.head hy;omega,(h y (by simp [hy])).2⟩) O_;simp only [iU,Int.natCast_add,Int.natCast_one];omega
theorem zS{top:Int}{r:Rg}(h0:0<top) (hr:r.wf) (ho:tF top r=false):1<=(eJ top r).lo/\(eJ top r).hi<=top:=by
 have h1:=wI ho;obtain⟨a,b,c,d⟩:=hr;unfold eJ;dsimp only
 split<;>split<;>omega
theorem Kc:(prog.info? 191).map (fun i=>(i.zero,i.size,i.bytes))=some (some (.agg #[.int .u32 0,.int .u32 0]),2,8):=K_
abbrev Tf(top:Int):Type:={r:Rg // 1<=r.lo/\r.lo<=r.hi/\r.hi<=top}
def KR(W W':World):Prop:=W.heap.size<=W'.heap.size/\∀k cs,af W k 191 cs->af W' k 191 cs
theorem KR.trans {A B C:World}(h:KR A B) (k:KR B C):KR A C:=⟨gy h.1 k.1,fun g cs hb=>k.2 g cs (h.2 g cs hb)⟩
theorem KR.refl (W:World):KR W W:=⟨aA _,fun _ _ h=>h⟩
theorem qK{α:Type}{E:cr α}{w:World}{g:Nat}{t:TypeId}{x:α}(h:af w g t (E.enc x).toArray):Rd E w (X_ (M_ g) 1 1) [x]:=jn h
theorem sE{β:Type}{B:Nat}{J:β->World->Prop}(hJ:AbidesFrom B J) {s:β}{W W':World}(h:J s W) (n:ae W W'):J s W':=
 hJ s W W' none h ⟨n.os,n.tape,n.output,n.size,fun i hi _=>n.block i hi id⟩ (fun _ e=>by cases e)
theorem Il(n:Nat) (hn:1<=n) (CC Bl Bt:Nat) (top:Int) (h0:0<top) (h1:top<=100000) (A:Option Addr) (c:Nat) (l:List Rg) (gQ:∀r∈l,r.wf) (dx:∀r∈l,tF top r=false) (hl:l.length<=100000) (pQ:l≠[])
 (J Jx:List (Tf top)->World->Prop) (W:World) (hJ:AbidesFrom W.heap.size J)
 (hY:∀pre x W1,J pre W1->pre.length<l.length->YieldAt Fence.wide (n-1) prog CC #[x.1.val] W1 fun e W'=>
   (e=.returned (R_ true)/\J (pre++[x]) W'/\KR W1 W')\/(e=.returned (R_ false)/\Jx (pre++[x]) W'))
 (hBl:L_ W Bl 0 (X_ A l.length c)) (hBt:L_ W Bt 0 (U_ top)) (hv:Rd lP W (X_ A l.length c) l) (UO:J [] W):
 CallsIn Fence.wide n prog 346 #[.func (.yield CC) #[] #[],Q_ Bl,Q_ Bt] W fun e W'=>(∃v,e=.returned v)/\((∃xs:List (Tf top),ig top 1 (xs.map (·.1))/\J xs W')\/∃pre,Jx pre W'):=by
 obtain⟨i0,hi,dw,cE,dy⟩:=wF Kc;have HY:=ac5 hY;have HJ:=ac5 hJ;have HJ0:Hid (J [] W):=UO;have HWF:=ac5 gQ;have uj:=ac5 dx;have HV:=ac5 hv;have W7:=ac5 pQ;have H01:=ac5 (And.intro h0 h1);clear hY hJ UO gQ dx hv pQ h0 h1;refine rW func346 rfl trivial ?_ rfl;simp only [ntmps346,PA,iU,WL,Nat.reduceAdd,Nat.reduceSub,rX,rY,eL,iY,Qv,OZ]
 gi_wp2_with fail
 gi_loopw [4,12] (fun pv iv wr=>∃k:Nat,k<=l.length/\iv=I_ k/\Hid (Own lP 191 W.heap.size wr pv ((l.take k).map (eJ top))/\ae W wr)) (fun _ iv _=>l.length-(intOf iv).toNat)
 case atStart=>exact⟨0,Gv _,rfl,Own.nil _ _ _ _,ae.refl _⟩
 case round=>
  obtain⟨k,hk,rfl,HR⟩:=hrel;have br:=HR.out.2;have e1:=Fr.cell br hBl id;have e2:=Fr.cell br hBt id;have e3:∀o,L_ (wr.alloc o) Bt 0 (U_ top):=fun o=>Fr.cell ((ae.refl wr).alloc o) e2 id;obtain⟨pA,pC,rfl,_⟩:=HR.out.1.form;have UP:((l.take k).map (eJ top)).length=k:=by rw [D9,jo];omega
  rw [UP]at HR⊢;have HPL:=ac5 UP;clear UP;by_cases dL:k<l.length
  ·obtain⟨x,hx⟩:∃x,l[k]? =some x:=⟨_,DW dL⟩;obtain⟨_,_,he,_,az⟩:=HV.out
   cases he
   obtain⟨b,off,rfl,aF⟩:=az W7.out;obtain⟨xl,xh⟩:=x;have c0:L_ wr b (off+k*2) (U_ xl):=Fr.cell br (aF k _ hx 0 _ rfl) id;have c1:L_ wr b (off+k*2+1) (U_ xh):=Fr.cell br (aF k _ hx 1 _ rfl) id;have nI:(l.take (k+1)).map (eJ top)=(l.take k).map (eJ top)++[eJ top ⟨xl,xh⟩]:=by rw [gk hx,ta];rfl
   have Im:=fun W=>Md top ⟨xl,xh⟩ W;obtain⟨pr,xT⟩:∃pr,eJ top ⟨xl,xh⟩=pr:=⟨_,rfl⟩;rw [xT]at nI Im;obtain⟨pl,ph⟩:=pr;have Gk:=ac5 nI;have HPN:=ac5 Im;have Qf:=ac5 br;clear nI Im xT aF az hx br
   gi_wp2_with fail
   refine⟨trivial,?_⟩;refine(callsIn_wide.2 (HPN.out _)).mono ?_;rintro e w2 ⟨rfl,n2⟩;have n3:ae wr w2:=((ae.refl wr).alloc _).trans n2;have eY:=HR.out.1.new n3;have ic:Rd lP (W_ w2 #[U_ pl,U_ ph] 191) (X_ (M_ w2) 1 1) [⟨pl,ph⟩]:=qK (af.new _ _ _);have eE:=Qf.out.size;have Zd:=n3.size;have Bu:=ac5 (eY.alloc (G_ #[U_ pl,U_ ph] 191));have yg:=ac5 ic;clear eY ic
   gi_wp2_with (gi_at_builtin;refine dV (E:=lP) rfl _ _ _ rfl underlying44 hi dw cE dy rfl Bu.out rfl yg.out rfl (by rw [HPL.out];unfold maxLen;simp;omega) (by rw [HPL.out];simp;omega) (by rw [gz];omega) ?_;intro v3 w3 iL gP o_)
   go_roundw
   ·refine⟨k+1,O_,rfl,ac5 ⟨by rw [Gk.out];exact iL,ae.append (Qf.out.trans (n3.alloc _)) (Bu.out) gP⟩⟩
   ·simp [intOf];omega
  ·obtain rfl:k=l.length:=O_
   have UQ:Hid (Own lP 191 W.heap.size wr (X_ pA l.length pC) (l.map (eJ top))/\ae W wr):=by
    have h:=HR.out;rw [iD]at h;exact h
   have bV:l.map (eJ top)≠[]:=fun e=>W7.out (List.map_eq_nil_iff.1 e)
   have UR:∀r∈l.map (eJ top),r.wf:=fun r hr=>by
    obtain⟨x,hx,rfl⟩:=List.mem_map.1 hr;have h1:=zS H01.out.1 (HWF.out x hx) (uj.out x hx);have h2:(eJ top x).lo<=(eJ top x).hi:=by unfold eJ;dsimp only;omega
    have h3:=H01.out.2;unfold Rg.wf;omega
   have Xb:=Mg UQ.out.1 UR (by rw [D9];omega) bV;have HS:=ac5 Xb;clear Xb UR bV HR e1 e2 e3 br dL hk
   gi_wp2_with fail
   refine⟨trivial,?_⟩;refine(callsIn_wide.2 HS.out).mono ?_;rintro e w2 ⟨rfl,l',ez,gK,nK,jx,pg,pcs,hpg,Kd⟩;have n2:=ae.append UQ.out.2 UQ.out.1 jx;have HJ2:Hid (J [] w2):=sE HJ.out HJ0.out n2;rw [D9]at gK;have HLL:=ac5 gK;have Qg:=ac5 nK;have Qh:Hid (ig top 1 (([]:List (Tf top)).map (·.1))/\J [] w2/\Rd lP w2 (X_ pA l.length pC) l'/\∃cs,af w2 pg 191 cs):=ac5 ⟨trivial,HJ2.out,ez,_,Kd⟩;have HPG:Hid (Value.ownBlock (X_ pA l.length pC)=some pg):=hpg;clear gK nK ez jx Kd hpg n2 HS UQ HPL HJ0 HJ2
   gi_wp2_with fail
   gi_loopw [7,27] (fun nv jv wr=>∃(pre:List (Tf top)) (j:Nat),nv=U_ (wN 1 (pre.map (·.1)))/\jv=I_ j/\pre.length<=j/\j<=l.length/\Hid (ig top 1 (pre.map (·.1))/\J pre wr/\Rd lP wr (X_ pA l.length pC) l'/\∃cs,af wr pg 191 cs)) (fun _ jv _=>l.length-(intOf jv).toNat)
   case atStart=>exact⟨[],0,rfl,rfl,aA _,Gv _,Qh⟩
   case round=>
    obtain⟨pre,j,rfl,rfl,hpj,NK,yg⟩:=hrel;clear Qh;by_cases hj:j<l.length
    ·obtain⟨x,hx⟩:∃x,l'[j]? =some x:=⟨_,DW (by have:=HLL.out;omega)⟩;obtain⟨A',c',he,_,az⟩:=yg.out.2.2.1;injection he with e1 e2 e3;subst e1;clear e2 e3;obtain⟨b,off,rfl,aF⟩:=az (by rintro rfl;simp at hx);obtain⟨y,hy,hyx⟩:=List.mem_map.1 (Qg.out x (YX hx));have Ke:=zS H01.out.1 (HWF.out y hy) (uj.out y hy);have hle:(eJ top y).lo<=(eJ top y).hi:=by unfold eJ;dsimp only;omega
     rw [hyx]at Ke hle;obtain⟨xl,xh⟩:=x;have c0:L_ wr b (off+j*2) (U_ xl):=aF j _ hx 0 _ rfl;have c1:L_ wr b (off+j*2+1) (U_ xh):=aF j _ hx 1 _ rfl;have hnb:=Ep yg.out.1 O_ (by have:=H01.out.1;omega);obtain⟨nx,hnx⟩:∃nx,wN 1 (pre.map (·.1))=nx:=⟨_,rfl⟩;rw [hnx]at hnb⊢;have HNX:=ac5 hnx;have HBD:=ac5 (And.intro Ke (And.intro hle hnb));have Mh:=H01.out.2;dsimp only at Ke hle;clear az aF hx hy hyx hnx;by_cases iu:xh<max xl nx
     ·have d1:=k_ iu;clear iu Ke hle hnb Mh
      gi_wp2
      go_roundw
      ·refine⟨pre,j+1,by rw [HNX.out],rfl,O_,O_,ac5 ⟨yg.out.1,sE HJ.out yg.out.2.1 ((ae.refl _).alloc _),yg.out.2.2.1.alloc _,?_⟩⟩;obtain⟨cs,cK⟩:=yg.out.2.2.2;exact⟨cs,cK.alloc _⟩
      ·simp [intOf];omega
     ·have d1:=aP iu;have d2:(max xl nx==0)=false:=beq_eq_false_iff_ne.2 O_;have d3:(xh==4294967295)=false:=beq_eq_false_iff_ne.2 O_;have d4:IntKind.u32.wrap (xh+1)=xh+1:=by unfold IntKind.wrap;simp [IntKind.bits,IntKind.signed];omega
      obtain⟨z,hz⟩:∃z:Tf top,z.1=⟨max xl nx,xh⟩:=⟨⟨⟨max xl nx,xh⟩,by dsimp only;omega⟩,rfl⟩;have n1:ae wr (wr.alloc (G_ #[U_ (max xl nx),U_ xh] 191)):=(ae.refl wr).alloc _;obtain⟨fn,tmps,assign,body,hyy,hR⟩:=HY.out pre z (wr.alloc (G_ #[U_ (max xl nx),U_ xh] 191)) (sE HJ.out yg.out.2.1 n1) O_;have hbB:af (wr.alloc (G_ #[U_ (max xl nx),U_ xh] 191)) wr 191 #[U_ (max xl nx),U_ xh]:=af.new _ _ _;rw [hz]at hyy;have HZ:=ac5 hz;have uT:=ac5 iu;have HB:=ac5 hbB;have N1:=ac5 n1;clear iu Ke hle hnb Mh hz hbB n1
      gi_wp2
      refine hR.mono ?_;rintro e W3 (⟨rfl,hJ3,uO⟩|⟨rfl,Qi⟩)
      ·have q1:L_ W3 wr 1 (U_ xh):=(uO.2 _ _ HB.out).cell 1;have HK3:=ac5 uO;have HJ3:Hid (J (pre++[z]) W3):=hJ3;clear uO hJ3
       gi_wp2
       go_roundw
       ·refine⟨pre++[z],j+1,?_,rfl,by simp;omega,O_,ac5 ⟨?_,HJ3.out,?_,?_⟩⟩
        ·rw [ta,JI,wO,HZ.out]
        ·rw [ta,JI,HZ.out];have h:=HBD.out;have h':=uT.out;exact qJ yg.out.1 (by rw [HNX.out];dsimp only;omega) (by dsimp only;omega) (by dsimp only;omega)
        ·obtain⟨cs,cK⟩:=yg.out.2.2.2;refine(yg.out.2.2.1.new N1.out).du fun b' ng _=>?_;have e:=lZ (ng.symm.trans HPG.out);subst e;exact(HK3.out.2 _ _ (N1.out.ai cK)).trans (N1.out.ai cK).symm
        ·obtain⟨cs,cK⟩:=yg.out.2.2.2;exact⟨cs,HK3.out.2 _ _ (N1.out.ai cK)⟩
       ·simp [intOf];omega
      ·gi_wp2
       refine r_ (G6 rfl _ _ _) rfl ?_;exact⟨⟨_,rfl⟩,.inr ⟨_,Qi⟩⟩
    ·gi_wp2
     go_end0;exact⟨⟨_,rfl⟩,.inl ⟨pre,yg.out.1,yg.out.2.1⟩⟩
end
section
open Go.RowKit Go.Shelf Go.Proofs
attribute [local go_sem] wT
theorem IK(top:Int) (A:Option Addr) (n c:Nat) (w:World):H_ 310 #[U_ top,X_ A n c] w fun e w'=>e=.returned (.func (.func 346) #[] #[Q_ (w.heap.size+1),Q_ w])/\
 w'=(w.alloc (G_ #[U_ top] 28)).alloc (G_ #[X_ A n c] 44):=by
 have hmf:=atQ
 go_enter func310,ntmps310
 go_wp2;go_ret;exact⟨rfl,rfl⟩
def ZN(top:Int) (l:List Rg) (N:List Int):Prop:=gF N/\(∀y∈N,1<=y/\y<=top)/\(n_ top l=false->N=[])
structure Vf(w W:World) (OB:Nat) (v:Value) (N:List Int):Prop where
 b:af W OB 58 #[v]
 o:Own (ak .u32) 28 w.heap.size W v N
 n:ae w W
theorem Vf.turn {w W W':World}{OB B:Nat}{v:Value}{N:List Int}(h:Vf w W OB v N) (t:iH B W W') (hB:w.heap.size<=B):Vf w W' OB v N:=⟨t.ai h.b,t.own h.o,t.lI h.n hB⟩
theorem Vf.new {w W W':World}{OB:Nat}{v:Value}{N:List Int}(h:Vf w W OB v N) (n:ae W W'):Vf w W' OB v N:=⟨n.ai h.b,h.o.new n,h.n.trans n⟩
theorem IL{top:Int}(h1:top<=100000) (pre:List (Tf top)):(numsOf (pre.map (·.1))).length<=pre.length*100000:=by
 induction pre with
 |nil=>simp [numsOf]
 |cons x l ih=>
  have e:numsOf ((x::l).map (·.1))=eK x.1.lo x.1.hi++numsOf (l.map (·.1)):=by simp [numsOf]
  have:=x.2;rw [e,dr,wK,iU];omega
theorem Own.aD {α:Type}{E:cr α}{e t:TypeId}{base:Nat}{w:World}{v:Value}{l:List α}{g:Nat}{cs:Array Value}(h:Own E e base w v l) (hb:af w g t cs) (bV:e≠t):v.ownBlock≠some g:=fun hg=>by
 rcases h.2 with⟨h2,_⟩|⟨g',cap,cur,h2,_,h3,_⟩
 ·rw [h2]at hg;cases hg
 ·rw [h2]at hg
  cases hg
  unfold af at hb;rw [h3]at hb
  cases hb
  exact bV rfl
theorem KR.ZO {W W':World}(n:ae W W'):KR W W':=⟨n.size,fun _ _ h=>n.ai h⟩
def qY{top:Int}(pre:List (Tf top)):List Int:=numsOf (pre.map (·.1))
theorem IM{top:Int}(pre:List (Tf top)) (x:Tf top):qY (pre++[x])=qY pre++eK x.1.lo x.1.hi:=by
 unfold qY;rw [ta,JI,Er]
theorem KR.put {w:World}(W:World) (l:Nat) (o o':Obj) (_:w.heap.size<=l) (h:W.heap[l]? =some o) (hc:o.isCells=false) (_:o.isWalk=false):KR W (W.putObj l o'):=
 have hg:=bH W l o'
 ⟨hg.size,fun k cs hb=>hg.block k (af.lt hb) (fun e=>by
   cases e
   unfold af at hb;rw [hb]at h
   cases h
   cases hc) |>.trans hb⟩
theorem E5(top:Int) (h0:0<=top) (h1:top<=100000) (A:Option Addr) (c:Nat) (l:List Rg) (w:World) (hv:Rd lP w (X_ A l.length c) l) (gQ:∀r∈l,r.wf) (hl:l.length<=100000):
 H_ 261 #[U_ top,X_ A l.length c] w fun e w'=>∃v N,e=.returned v/\Own (ak .u32) 28 w.heap.size w' v N/\ZN top l N/\ae w w':=by
 have hV:=ac5 (pw top (X_ A l.length c) l w hv O_)
 cases hk:n_ top l
 ·rw [hk]at hV;have HK:=ac5 hk;clear hk
  go_enter func261,ntmps261
  go_wp2_with fail
  refine hV.out.mono ?_;rintro e w1 ⟨rfl,n1⟩;go_wp2;go_ret;exact⟨_,[],rfl,Own.nil _ _ _ _,⟨List.Pairwise.nil,S_,fun _=>rfl⟩,n1⟩
 ·rw [hk]at hV;have Bh:=hk;unfold n_ at Bh;simp only [JU,aJ,Bool.not_eq_true']at Bh;obtain⟨⟨ht,uL⟩,hov⟩:=Bh
  have dx:∀r∈l,tF top r=false:=fun r hr=>by
   cases h:tF top r
   ·rfl
   ·have:=List.any_eq_true.2 ⟨r,hr,h⟩;rw [hov]at this
    cases this
  have pQ:l≠[]:=by rintro rfl;simp at uL
  have HK:=ac5 hk;have uj:=ac5 dx;have W7:=ac5 pQ;have HW:=ac5 gQ;have HR:=ac5 hv;have HT:Hid (0<top):=ac5 O_;clear hk dx pQ hov uL gQ hv;obtain⟨i0,hi,dw,cE,dy⟩:=wF qR;refine(ay (n:=6)).1 ?_;refine jJ func261 rfl trivial ?_ rfl;simp only [ntmps261,PA,iU,WL,Nat.reduceAdd,Nat.reduceSub,rX,rY,eL,iY,Qv,OZ]
  gi_wp2_with (first
   |(refine⟨trivial,?_⟩;gi_at_call 259
     refine(callsIn_wide.2 hV.out).mono ?_;rintro e w1 ⟨rfl,n1⟩)
   |(refine⟨trivial,?_⟩;gi_at_call 310
     refine(callsIn_wide.2 (IK top A l.length c _)).mono ?_;rintro e w2 ⟨rfl,AU⟩)
   |fail)
  have hS:SeqStopsK Fence.wide (6-1) prog 346 #[Q_ (w1.heap.size+1+1),Q_ (w1.heap.size+1)] (fun x:Tf top=> #[x.1.val]) KR (fun xs=>ig top 1 (xs.map (·.1))) (fun _=>True) l.length
   (((w1.alloc (G_ #[Z_] 58)).alloc (G_ #[U_ top] 28)).alloc (G_ #[X_ A l.length c] 44)):=by
   intro CC J Jx W hb hJ _ hY UO;have hn:=ae.eF hb
   have b1:af (W_ (W_ (W_ w1 #[Z_] 58) #[U_ top] 28) #[X_ A l.length c] 44) (w1.heap.size+1+1) 44 #[X_ A l.length c]:=by
    have:=af.new (W_ (W_ w1 #[Z_] 58) #[U_ top] 28) 44 #[X_ A l.length c]
    rwa [gz,gz]at this
   have b2:af (W_ (W_ (W_ w1 #[Z_] 58) #[U_ top] 28) #[X_ A l.length c] 44) (w1.heap.size+1) 28 #[U_ top]:=by
    have:=af.new (W_ w1 #[Z_] 58) 28 #[U_ top];rw [gz]at this;exact this.alloc _
   refine(Il (6-1) O_ CC (w1.heap.size+1+1) (w1.heap.size+1) top HT.out h1 A c l HW.out uj.out hl W7.out J Jx W hJ hY ((hn.ai b1).cell 0) ((hn.ai b2).cell 0) ((((HR.out.new n1).alloc _).alloc _).alloc _ |>.new hn) UO).mono ?_;rintro e w' ⟨he,h⟩;exact⟨he,h.imp id fun⟨pre,hp⟩=>⟨pre,trivial,hp⟩⟩
  refine wpIn_rangeFunc_ownH rfl O_ (gf:=346) (lb:= #[Q_ (w1.heap.size+1+1),Q_ (w1.heap.size+1)]) rfl trivial (Aw func346 K_ rfl)
   hS KR.trans KR.put (zm _ _) (fun _=>rfl)
   (fun pre W=>∃v,Vf w W w1.heap.size v (qY pre))
   (fun _ _ _=>False)
   (bN fun s W W' hs t=>?_)
   (fun _ _ _ _ _ hs _ _=>hs)
   ⟨_,⟨?_,Own.nil _ _ _ _,?_⟩⟩
   (fun x a' W=>∃Bx,af W Bx 191 #[U_ x.1.lo,U_ x.1.hi]/\a'={tmps:= #[U_ top,X_ A l.length c,undef,undef,Z_,Q_ w1,Q_ Bx,undef,U_ top,X_ A l.length c,R_ true,R_ false,U_ top,X_ A l.length c,.func (.func 346) #[] #[Q_ (w1.heap.size+1+1),Q_ (w1.heap.size+1)],x.1.val,undef,undef,undef,undef,undef,undef,undef,undef,undef,undef,undef,undef,undef],defers:=[]})
   (fun x a'=>bN fun s W W' hs t=>?_) ?assign ?body ?done ?stop
  ·obtain⟨v,hv⟩:=hs;exact⟨v,hv.turn t (by have:=n1.size;simp;omega)⟩
  ·exact((af.new _ _ _).alloc _).alloc _
  ·exact((n1.alloc _).alloc _).alloc _
  ·obtain⟨Bx,hB,he⟩:=hs;exact⟨Bx,t.ai hB,he⟩
  case assign=>
   rintro CC pre ⟨⟨xl,xh⟩,hx⟩ W K ⟨v,hv⟩ hK;dsimp only [Rg.val]
   gi_wp2
   have n:=(ae.refl W).alloc (G_ #[U_ xl,U_ xh] 191);exact hK _ _ (fy n fun _ _ h=>h.elim) (KR.ZO n) ⟨v,hv.new n⟩ ⟨W.heap.size,af.new _ _ _,rfl⟩
  case body=>
   rintro CC pre ⟨⟨xl,xh⟩,hx⟩ a' W aeF hlr ⟨v,hv⟩ ⟨Bx,hBx,rfl⟩ bJ;have q0:L_ W Bx 0 (U_ xl):=hBx.cell 0;have HX:Hid (1<=xl/\xl<=xh/\xh<=top):=hx;dsimp only [Rg.val];have HS0:Hid (Vf w W w1.heap.size v (qY pre++eK xl (xl-1))/\af W Bx 191 #[U_ xl,U_ xh]/\KR W W/\KeepsFrom (((w1.alloc (G_ #[Z_] 58)).alloc (G_ #[U_ top] 28)).alloc (G_ #[X_ A l.length c] 44)).heap.size W W):=ac5 ⟨by rw [Eo O_,kg];exact hv,hBx,KR.refl _,KeepsFrom.refl _ _⟩
   gi_wp2
   gi_loopw [7] (fun iv wr=>∃(y:Int) (v:Value),xl<=y/\y<=xh+1/\iv=U_ y/\Hid (Vf w wr w1.heap.size v (qY pre++eK xl (y-1))/\af wr Bx 191 #[U_ xl,U_ xh]/\KR W wr/\KeepsFrom (((w1.alloc (G_ #[Z_] 58)).alloc (G_ #[U_ top] 28)).alloc (G_ #[X_ A l.length c] 44)).heap.size W wr)) (fun iv _=>(xh+1-intOf iv).toNat)
   case atStart=>exact⟨xl,v,O_,by have:=HX.out;omega,rfl,HS0⟩
   case round=>
    obtain⟨y,v2,gM,sj,rfl,jO⟩:=hrel;have q1:L_ wr Bx 1 (U_ xh):=jO.out.2.1.cell 1;have q2:L_ wr w1 0 v2:=jO.out.1.b.cell 0;have hx:=HX.out;by_cases hyx:y<=xh
    ·have d1:=k_ hyx;have d4:IntKind.u32.wrap (y+1)=y+1:=by unfold IntKind.wrap;simp [IntKind.bits,IntKind.signed];omega
     have hlen:(qY pre++eK xl (y-1)).length+1<=20000000000:=by
      have WW:(qY pre).length<=pre.length*100000:=IL h1 pre;rw [dr,wK];omega
     have ic:Rd (ak .u32) (wr.alloc (G_ #[U_ y] 28)) (X_ (M_ wr) 1 1) [y]:=qK (af.new _ _ _);have yg:=ac5 ic;have HOO:=jO.out.1.o;obtain⟨L,hL⟩:∃L,qY pre++eK xl (y-1)=L:=⟨_,rfl⟩;rw [hL]at hlen HOO;have HL:=ac5 hL;have Bu:=ac5 (HOO.alloc (G_ #[U_ y] 28));clear ic HOO hL
     gi_wp2_with (gi_at_builtin;refine dV (E:=ak .u32) rfl _ _ _ rfl underlying58 hi dw cE dy rfl Bu.out rfl yg.out rfl (gy hlen D_) (gy (eW 4 hlen) D_) (by rw [gz];have:=jO.out.1.n.size;omega) ?_;intro v3 w3 iL gP o_;have AQ:=(Bu.out.aD (jO.out.1.b.alloc _) D_);have q3:L_ w3 w1 0 v2:=Fr.cell gP ((jO.out.1.b.alloc _).cell 0) AQ;have q4:=(Fr.ai gP (jO.out.1.b.alloc (G_ #[U_ y] 28)) AQ).dq;obtain⟨A3,C3,XH,_⟩:=iL.form;have rJ:=ac5 (And.intro iL (And.intro gP o_));clear iL gP o_;generalize(L++[y]).length=m at XH;subst XH)
     have AQ:=(Bu.out.aD (jO.out.1.b.alloc _) D_);have F9:Fr (fun k=>k=w1.heap.size\/v2.ownBlock=some k) wr w3:=Fr.trans' ((Fr.refl _ wr).alloc (G_ #[U_ y] 28)) rJ.out.2.1 fun _ _ h=>.inr h;have hs:=Fr.setCell F9 (p:=⟨w1.heap.size,0,none⟩) (fun _=>.inl rfl) (X_ A3 m C3)
     have az:∀k,(k=w1.heap.size\/v2.ownBlock=some k)->∀o:Obj,wr.heap[k]? =some o->o.isCells=true:=by
      rintro k (rfl|hk)
      ·exact jO.out.1.b.isCells
      ·exact jO.out.1.o.isCells hk
     have aeH:∀k cs,af wr k 191 cs->¬(k=w1.heap.size\/v2.ownBlock=some k):=by
      rintro k cs hb (rfl|hk)
      ·have h1:=jO.out.1.b;unfold af at hb h1;rw [hb]at h1
       cases h1
      ·exact jO.out.1.o.aD hb D_ hk
     have qp:=Fr.ai rJ.out.2.1 (jO.out.1.b.alloc (G_ #[U_ y] 28)) AQ;go_roundw
     ·refine⟨y+1,_,O_,O_,rfl,ac5 ⟨⟨qp.al 0 _,?_,?_⟩,hs.ai jO.out.2.1 (aeH _ _ jO.out.2.1),jO.out.2.2.1.trans ⟨hs.size,fun k cs hb=>hs.ai hb (aeH _ _ hb)⟩,jO.out.2.2.2.trans (fy hs fun k _=>az k)⟩⟩
      ·rw [show y+1-1=y-1+1 by omega,En O_,<-zi,HL.out,show y-1+1=y by omega];exact rJ.out.1.fr ((One.refl w1.heap.size w3).set 0 _) fun b hb e=>rJ.out.1.aD qp D_ (by rw [hb,e])
      ·exact Fr.trans' jO.out.1.n hs fun i hi h=>by
        rcases h with h|h
        ·have:=n1.size;omega
        ·have:=(jO.out.1.o.block h).1;omega
     ·simp [intOf];omega
    ·have d1:=aP hyx;obtain rfl:y=xh+1:=O_
     have hP:=jO.out;rw [show xh+1-1=xh by omega]at hP;have HP:=ac5 hP;clear hP jO HS0
     gi_wp2
     refine⟨?_,HP.out.2.2.1,v2,?_⟩
     ·have:=HP.out.2.2.2;simpa only [gz]using this
     ·rw [IM];exact HP.out.1
  case done=>
   rintro D ys W hD hS ⟨v,hv⟩ hK;have q0:=hv.b.k0
   gi_wp2
   have t:iH w.heap.size W (W.putObj D (.deferred none)):=⟨some D,bH W D _,fun r e=>by cases e;exact⟨by have:=n1.size;simp at hD;omega,_,hK,rfl⟩⟩;have h2:=hv.turn t (aA _);refine⟨S_,.inl ⟨_,_,rfl,Gx hK,?_⟩⟩;exact⟨_,results_tmp rfl _ _ _,v,_,rfl,h2.o,⟨tG hS,mw hS,fun e=>by have:=HK.out;rw [e]at this;cases this⟩,h2.n⟩
  case stop=>
   rintro D c pre W _ _ h _;exact h.elim
end
theorem tT(s:ByteArray) (hs:s.size<=1000000) (w:World) (hE:fG w):H_ 447 #[T_ s] w fun e w'=>∃(u:Nat) (q:Bool),e=.returned (.tuple #[U_ u,R_ q])/\u<4294967296/\ae w w':=by
 have HN:=ac5 (oY s hs w hE);rcases hb:(s.toList==[42])with _|_
 rotate_left
 ·go_enter func447,ntmps447
  go_wp2;go_ret2;exact⟨0,true,rfl,D_,ae.refl _⟩
 ·go_enter func447,ntmps447
  go_wp2_with fail
  refine HN.out.mono ?_;rintro e w1 ⟨n1,u,q,rfl,hu⟩
  cases q
  ·go_wp2;go_ret2;exact⟨u,false,rfl,O_,n1⟩
  ·by_cases h0:(u:Int)=0
   ·have h1:((u:Int) !=0)=false:=by rw [h0];rfl
    clear h0;go_wp2;go_ret2;exact⟨u,false,rfl,O_,n1⟩
   ·have h1:=bne_iff_ne.2 h0;clear h0;go_wp2;go_ret2;exact⟨u,true,rfl,O_,n1⟩
def akS(w w':World) (s:ByteArray) (e:Ending):Prop:=
 ∃(v:Value) (l:List Rg) (q:Bool),e=.returned (.tuple #[v,R_ q])/\Own lP 191 w.heap.size w' v l/\(∀r∈l,r.wf)/\l.length<=s.size+1/\ae w w'
theorem Jd(s:ByteArray) (hs:s.size<=1000000) (w:World) (hE:fG w):H_ 418 #[T_ s] w fun e w'=>akS w w' s e:=by
 obtain⟨i0,hi,dw,cE,dy⟩:=wF Kc;have HS:=ac5 (v_ s ⟨#[44]⟩ hs D_ w hE.t);have HE:=ac5 hE;clear hE
 go_enter func418,ntmps418
 go_wp2_with fail
 refine HS.out.mono ?_;rintro e w1 ⟨xs,rfl,pN,eE,hlen⟩;have n1:ae w w1:=pN▸(ae.refl w).alloc _;have HW:=ac5 (And.intro pN (And.intro eE n1));clear pN eE n1;go_wp2_with fail
 go_loopw [4,17] (fun ov iv wr=>∃(k:Nat) (l:List Rg),k<=xs.length/\l.length<=k/\iv=I_ k/\Hid (Own lP 191 w1.heap.size wr ov l/\(∀r∈l,r.wf)/\ae w1 wr)) (fun _ iv _=>xs.length-(intOf iv).toNat)
 case atStart=>exact⟨0,[],Gv _,aA _,rfl,Own.nil _ _ _ _,S_,ae.refl _⟩
 case round=>
  obtain⟨k,l,hk,hl,rfl,HR⟩:=hrel;have br:=HW.out.2.2.trans HR.out.2.2;have eE:=HR.out.2.2.size;obtain⟨oA,oC,rfl,_⟩:=HR.out.1.form;by_cases dL:k<xs.length
  ·obtain⟨x,hx⟩:∃x,xs[k]? =some x:=⟨_,DW dL⟩;have c0:=zr w xs hx (HW.out.1▸HR.out.2.2);have Da:=gy (HW.out.2.1 x (YX hx)) hs;have HC:=ac5 (Ps x ⟨#[58]⟩ Da wr (HE.out.t.new br));have Qf:=ac5 br;clear hx br;go_wp2_with fail
   refine HC.out.mono ?_;rintro e w2 ⟨a,b,q,rfl,ha,hb,n2⟩;obtain⟨b',ng⟩:∃b',b'=if q then b else a:=⟨_,rfl⟩;have eP:b'.size<=1000000:=by rw [ng];split<;>omega
   have HA:=ac5 (tT a O_ w2 (HE.out.new (Qf.out.trans n2)))
   cases q
   all_goals
    simp only [if_true,if_false,Xn]at ng;subst ng;go_wp2_with fail
    refine HA.out.mono ?_;rintro e w3 ⟨u1,q1,rfl,GX,n3⟩;go_wp2_with fail
    refine(tT _ eP w3 (HE.out.new ((Qf.out.trans n2).trans n3))).mono ?_;rintro e w4 ⟨u2,q2,rfl,Ut,n4⟩;have n5:=((Qf.out.trans n2).trans n3).trans n4
    cases q1
    ·go_wp2;go_ret2;exact⟨_,[],false,rfl,Own.nil _ _ _ _,S_,Gv _,n5⟩
    ·cases q2
     ·go_wp2;go_ret2;exact⟨_,[],false,rfl,Own.nil _ _ _ _,S_,Gv _,n5⟩
     ·have ho:=HR.out.1.new ((n2.trans n3).trans n4);have qC:=((n2.trans n3).trans n4).size;have H5:=ac5 (And.intro ho n5);have HN4:=ac5 ((HR.out.2.2.trans n2).trans (n3.trans n4));clear ho n5 n4 n3 n2;go_wp2_with (at_builtin;refine bC (E:=lP) rfl _ _ _ rfl underlying44 hi dw cE dy rfl (H5.out.1.alloc _) rfl ⟨u1,u2⟩ w4.heap.size (af.new _ _ _) 1 rfl (by unfold maxLen;omega) O_ (by rw [gz];omega) ?_;intro v6 w6 Ob KJ Vi)
      go_roundw
      case rel=>exact⟨k+1,_,O_,by rw [dr];simp;omega,by go_num,ac5 ⟨Ob,fun r hr=>(List.mem_append.1 hr).elim (HR.out.2.1 r) (fun hr=>by rw [List.mem_singleton.1 hr];exact⟨by dsimp only;omega,by dsimp only;omega,by dsimp only;omega,by dsimp only;omega⟩),ae.append (HN4.out.alloc _) (H5.out.1.alloc _) KJ⟩⟩
      case measure=>simp [intOf];omega
  ·obtain rfl:k=xs.length:=O_
   go_wp2;go_ret2;exact⟨_,l,true,rfl,HR.out.1.mono HW.out.2.2.size,HR.out.2.1,O_,br⟩
section
open Go.ChangeShapes Go.WideShapes Go.ChangeAt Go.RowKit
section
variable{H:Type}{enc:TypeId×Value->H}
theorem returns_and_shaped{a:Assume}{C:Checked}{os:Os}{f:FuncId}{fn:Func}{s:ChangeSpec}{conds:List PathCond}{apart fresh handsOn again:Bool}{X:World->Array Value->Prop}
 (hX:∀(w w':World) (args:Array Value),w.heap=w'.heap->X w args->X w' args)
 (own:ownKnob C.prog.godebug=none) (started:os.Started) (noInit:C.prog.inits.idxOf? f=none) (TJ:C.prog.funcs[f]? =some fn)
 (witness:∃(w:World) (tape:Tape) (i:Input),w.os=os/\(w.forCall tape i).Shaped C.prog/\i.vars=[]/\Input.okWide C.prog (w.forCall tape i) .any w.heap.size f i/\
   ((s.pre enc C.prog fn conds apart (w.forCall tape i).memory i.args/\X (w.forCall tape i).memory i.args)/\sizedMet enc C.prog fn (OpenSpec.ofChange s) apart (w.forCall tape i).memory i.args)/\a.holds C.prog (lone (Frame.enter C.prog f i.args .normal) [] (w.forCall tape i)))
 (contract:∀(W:World) (base:Nat) (args:Array Value) (ds gs:List (DataW H)) (before:List MemPlace),
   (∀(j:Nat) t v,fn.params[j]? =some t->args[j]? =some v->Value.okWide C.prog W .any base t v)->
   DataW.Whole enc C.prog fn.params.toList s.vars apart W args.toList ds gs before->
   X W args->W.ShapedOpen C.prog->
   Calls C.prog f args W fun e W'=>∃v,e=.returned v/\s.post enc C.prog fn apart fresh handsOn again W args v W'):
 ReturnsInHanded a C os f .any (fun w args=>(s.pre enc C.prog fn conds apart w args/\X w args)/\sizedMet enc C.prog fn (OpenSpec.ofChange s) apart w args) (s.post enc C.prog fn apart fresh handsOn again):=by
 refine returnsInHanded_of_calls own started noInit witness ?_;intro w tape i _ hsh _ dx yN _;obtain⟨_,_,_,fn',hfn',_,_,_,_,hval⟩:=dx;have e:fn'=fn:=lZ (hfn'.symm.trans TJ);subst e;obtain⟨⟨⟨ds,gs,before,hw,_⟩,hx⟩,_⟩:=yN;have hw':=DataW.Whole.of_heap (w':=w.forCall tape i) (by rfl) hw;refine(contract (w.forCall tape i) w.heap.size i.args ds gs before hval hw' (hX _ _ _ (by rfl) hx) hsh).mono fun e W' ⟨v,he,hp⟩=>?_;subst he;exact ChangeSpec.post_blind hp
end
theorem tabIs_of_reads{P:Program}{W:World}{name:String}{k:IntKind}{zs:List Int}{g:Nat}{t e:TypeId}{n:Nat}
 (hg:P.globalNamed name=some g) (E7:(P.globals[g]?).map (·.type)=some t) (ht:P.underlying t=some (.array n e)) (he:P.underlying e=some (.int k)) (Cy:P.cellsOf e=1) (je:P.cellsOf t=n)
 (h:Lib.VarReads P W name (Lib.tabData k zs)):Lib.TabIs P W name k zs:=by
 obtain⟨g',t',cs,fuel,p,hg',Jr,hvar,hd⟩:=h;obtain rfl:=lZ (hg.symm.trans hg');obtain rfl:=lZ (E7.symm.trans Jr);unfold Lib.TabIs;rw [hvar,<-Lib.cells_of_tab ht he Cy je hd]
theorem sp_data:(Rows.laid_strings_asciiSpace:DataW Unit)=Lib.tabData .u8 Lib.asciiSpaceTab:=K_
theorem pow_data:(Rows.laid_internal_strconv_uint64pow10:DataW Unit)=Lib.tabData .u64 Lib.pow10Tab:=K_
def laid9:List (String×DataW Unit):=[("strconv.ErrSyntax",Rows.laid_strconv_ErrSyntax),("strconv.ErrRange",Rows.laid_strconv_ErrRange),("internal/strconv.uint64pow10",Rows.laid_internal_strconv_uint64pow10),("math/bits.deBruijn32tab",Rows.laid_math_bits_deBruijn32tab),("math/bits.deBruijn64tab",Rows.laid_math_bits_deBruijn64tab),("strings.asciiSpace",Rows.laid_strings_asciiSpace),("unicode.White_Space",Rows.laid_unicode_White_Space),("unicode/utf8.first",Rows.laid_unicode_utf8_first),("unicode/utf8.acceptRanges",Rows.laid_unicode_utf8_acceptRanges)]
theorem tabs_of{W:World}(hL:laidMetH prog laid9 W) (hS:W.ShapedOpen prog):b_ W:=by
 rw [MakeChecks.laidMetH_plain _ _ _ K_]at hL;refine⟨?_,?_,?_⟩
 ·exact tabIs_of_reads (g:=0) K_ K_ underlying218 underlying5 K_ K_ (sp_data▸Lib.laidMet.reads hL (by simp [laid9]))
 ·exact tabIs_of_reads (g:=3) K_ K_ underlying400 underlying146 K_ K_ (pow_data▸Lib.laidMet.reads hL (by simp [laid9]))
 ·exact cell_of_shapedOpen_int (zero:= #[I_ 0]) hS (cj K_) K_ rfl K_ K_ underlying3
theorem row_own:ownKnob prog.godebug=none:=K_
theorem row_laidOut:laidOutB prog=true:=K_
end
end Go.Proofs.YtliimglbbiebiaaGreatDoor
