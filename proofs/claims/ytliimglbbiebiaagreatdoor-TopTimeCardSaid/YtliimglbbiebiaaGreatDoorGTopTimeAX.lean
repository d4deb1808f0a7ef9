import Derived.Test.YtliimglbbiebiaaGreatDoorGTopTimeAS
import Derived.Test.YtliimglbbiebiaaGreatDoorGTopTimeAR
import Derived.Test.YtliimglbbiebiaaGreatDoorGTopTimeAT
set_option maxRecDepth 100000
set_option maxHeartbeats 6400000
set_option linter.all false
namespace Go.Proofs.YtliimglbbiebiaaGreatDoor
open Go.Proofs.Tryz Go.RowKit Go.Maps
def okC:List PanicEntry:=[{v:=.iface 374 (.agg #[]),recovered:=true}]
theorem Ci(G C O:Nat) (tg:ByteArray) {x0 x1 x2 x3 x4 x5 x6 x7 x8 b0:Value}(w:World) (hG:af w G 9 #[T_ tg]) (hC:af w C 47 #[x0,x1,x2,x3,x4,x5,x6,x7,x8]) (hO:af w O 4 #[b0]):
 CallsD prog 273 #[Q_ G,Q_ C,Q_ O] (.panicking wP) w fun e u' w'=>e=.returned (.tuple #[])/\u'=.panicking okC/\
  af w' C 47 #[T_ tg,I_ 0,E_,Z_,I_ 0,I_ 0,R_ false,B_ 0,Z_]/\af w' O 4 #[R_ false]/\Fr (fun k=>k=C\/k=O) w w':=by
 have q0:=hC.k0;have q1:=hC.k1;have q2:=hC.k2;have q3:=hC.k3;have q4:=hC.k4;have q5:=hC.k5;have q6:=hC.k6;have q7:=hC.k7;have q8:=hC.k8;have qo:=hO.k0;have qg:=hG.k0;have fC:=hC.dq;have fO:=hO.dq;have hGl:=hG.lt;have hCl:=hC.lt;have hOl:=hO.lt;have hCO:=hC.aU hO D_;have hta:∀w:World,(Instr.typeAssert (.iface 374 (.agg #[])) 20 374 true).run prog w=.ok (.tuple #[.agg #[],R_ true]) w:=fun w=>K_
 refine callsD_of_wpS func273 rfl fun c₀ cs hu=>?_
 apply wpS_seq
 apply wpS_region
 simp [wpOpsS,go_sem,recoverD,hu,ntmps273,Exit.thenS,wP];refine wpS_of_wp ?_;go_wp2;have hA:=hC.qe (T_ tg) (I_ 0) E_ Z_ (I_ 0) (I_ 0) (R_ false) (B_ 0) Z_;have hF:=One.qe w C (T_ tg) (I_ 0) E_ Z_ (I_ 0) (I_ 0) (R_ false) (B_ 0) Z_;generalize(((((((((w.setCell (C_ C 0) (T_ tg)).setCell (C_ C 1) (I_ 0)).setCell (C_ C 2) E_).setCell (C_ C 3) Z_).setCell (C_ C 4) (I_ 0)).setCell (C_ C 5) (I_ 0)).setCell (C_ C 6) (R_ false)).setCell (C_ C 7) (B_ 0)).setCell (C_ C 8) Z_)=w9 at*;refine⟨rfl,.panicking okC,rfl,.tuple #[],by simp [results,Tryz.results273],rfl,rfl,?_,?_,?_⟩
 ·exact(hA.bL (p:=⟨O,0,none⟩) hCO (R_ false)).alloc _
 ·exact((hF.ai hO (iX hCO)).al 0 (R_ false)).alloc _
 ·exact(Fr.setCell (hF.mono fun _ _ e=>.inl e) (p:=⟨O,0,none⟩) (fun _=>.inr rfl) _).alloc _
def X0(fn r:Nat):Value:=.func (.func fn) #[Q_ r] #[]
def Si(w w':World) (r:Nat) (A:Option Addr) (c:Nat) (l:List UInt8) (k:Nat) (e:Ending):Prop:=
 ∃(t:Int) (s:ByteArray) (q:Bool) (k':Nat),e=.returned (.tuple #[.agg #[I_ t,T_ s,I_ k],R_ q])/\0<=t/\t<=6/\s.size<=l.length/\uY w' r A c l k'/\(q=true->t≠0->k<k')/\One r w w'
def FE(r:Nat):List (Int×Value):=put (put (put (put (put [] 32 (X0 363 r)) 40 (X0 364 r)) 41 (X0 365 r)) 34 (X0 366 r)) 123 (X0 367 r)
theorem FG(r:Nat) (x:Int):get (FE r) x=none\/∃fn,(fn=363\/fn=364\/fn=365\/fn=366\/fn=367)/\get (FE r) x=some (X0 fn r):=by
 unfold FE;by_cases h4:x=123
 ·exact .inr ⟨_,iO rfl,by rw [h4,bW]⟩
 by_cases h3:x=34
 ·exact .inr ⟨_,dS (.inl rfl),by rw [aE _ _ h4,h3,bW]⟩
 by_cases h2:x=41
 ·exact .inr ⟨_,cu (.inl rfl),by rw [aE _ _ h4,aE _ _ h3,h2,bW]⟩
 by_cases h1:x=40
 ·exact .inr ⟨_,.inr (.inl rfl),by rw [aE _ _ h4,aE _ _ h3,aE _ _ h2,h1,bW]⟩
 by_cases h0:x=32
 ·exact .inr ⟨_,.inl rfl,by rw [aE _ _ h4,aE _ _ h3,aE _ _ h2,aE _ _ h1,h0,bW]⟩
 ·exact .inl (by rw [aE _ _ h4,aE _ _ h3,aE _ _ h2,aE _ _ h1,aE _ _ h0,get_nil])
section
variable{w:World}{r:Nat}{A:Option Addr}{c:Nat}{l:List UInt8}{k:Nat}
theorem iT(fn:Nat) (hE:∀args w,(callFunc fn args).run prog w=.ok (.enter fn args) w) (h:uY w r A c l k) (hl:l.length<=100000) (y:UInt8) (hy:l[k]? =some y)
 (o:Option Value) (hg:get (FE r) (y.toNat:Int)=o) (ho:o=some (X0 fn r)\/(o=none/\fn=368))
 (HF:∀W,ae w W->H_ fn #[Q_ r] W fun e w'=>yQ W w' r A c l k e):
 H_ 317 #[Q_ r] w fun e w'=>Si w w' r A c l k e:=by
 have dL:k<l.length:=by
  rcases GA k l.length with h1|h1
  ·exact h1
  ·rw [aeA h1]at hy;cases hy
 obtain⟨b,off,rfl,hb⟩:=h.s.b (by rintro rfl;simp at dL);have nf:=hb k y hy;have SQ:=h.n b off rfl;have bJ:=h.b.lt;have P3:b<w.heap.size:=O_
 have dx:i7.ok (y.toNat:Int):=by
  have:=y.toNat_lt;have h2:IntKind.u8.min<=(y.toNat:Int):=by rw [show IntKind.u8.min=0 from rfl];omega
  have h3:(y.toNat:Int)<=IntKind.u8.max:=by rw [show IntKind.u8.max=255 from rfl];omega
  show(Lit.int .u8 _).wf=true
  simp [Lit.wf,h2,h3]
 generalize(y.toNat:Int)=x at*;have uj:=ac5 dx;have HG:=ac5 hg;have HFF:=ac5 HF;have uH:= @run_makeMap prog;have hmf:=atQ;have vD:=HasMap.made i7 (W_ w #[I_ 0,E_,I_ 0] 435);rw [gz]at vD;have c0:=h.b.k0;have c1:=h.b.k1;have nA:ae w ((w.alloc (G_ #[I_ 0,E_,I_ 0] 435)).alloc (.map #[] 0)):=((ae.refl w).alloc _).alloc _;have d1:¬(k:Int)=(l.length:Int):=O_
 have d2:=beq_eq_false_iff_ne.2 d1;have d3:(k:Int)<(l.length:Int):=O_
 have d4:(0:Int)<=(k:Int):=O_
 have NA:=ac5 nA;have H:=ac5 h;clear dx hg HF hy hb h nA;rcases ho with ho|⟨ho,rfl⟩
 all_goals
  have AFT:Hid (∀ub,HasMap i7 ub (w.heap.size+1) (FE r)->Fr (fun k=>k=w.heap.size+1) (((w.alloc (G_ #[I_ 0,E_,I_ 0] 435)).alloc (.map #[] 0))) ub->
   (Instr.lookup 470 (.map (some (w.heap.size+1))) (B_ x) true).run prog ub=.ok (.tuple #[o.getD .nilFunc,R_ o.isSome]) ub/\L_ ub r 0 (X_ (some ⟨b,off,none⟩) l.length c)/\L_ ub b (off+k) (B_ x)/\
   Hid (uY ub r (some ⟨b,off,none⟩) c l k/\af ub w 435 #[I_ 0,E_,I_ 0]/\ae w ub)):=ac5 fun ub hm NW=>by
   have h:=hm.bD (t:=470) (e:=437) underlying470 (J9 ub) uj.out;rw [HG.out]at h;have h5:uY ub r (some ⟨b,off,none⟩) c l k:=⟨NW.ai (NA.out.ai H.out.b) O_,(H.out.s.new NA.out).fr NW (fun b' ug e _=>by injection e with e;injection e with e;omega),H.out.n,H.out.hk⟩;exact⟨h,h5.b.cell 0,Fr.cell NW (Fr.cell NA.out nf id) P_,ac5 ⟨h5,NW.ai ((af.new _ _ _).alloc _) O_,ae.one NA.out NW O_⟩⟩
  simp only [ho,X0,ON,Yf,ly,Bz]at AFT
  go_enter func317,ntmps317
  go_wp2_with (first
   |(refine aw (E:=i7) rfl _ _ _ 470 437 rfl underlying470 vD (iB (aA 0) (by unfold maxLen;decide)) 32 (by show(Lit.int .u8 32).wf=true;decide) _ rfl rfl rfl ?_;intro zw1 GH CQ)
   |(refine aw (E:=i7) rfl _ _ _ 470 437 rfl underlying470 GH (iB (aj (aA 0)) (by unfold maxLen;decide)) 40 (by show(Lit.int .u8 40).wf=true;decide) _ rfl rfl rfl ?_;intro zw2 GJ AE)
   |(refine aw (E:=i7) rfl _ _ _ 470 437 rfl underlying470 GJ (iB (aj (aj (aA 0))) (by unfold maxLen;decide)) 41 (by show(Lit.int .u8 41).wf=true;decide) _ rfl rfl rfl ?_;intro zw3 GK AF)
   |(refine aw (E:=i7) rfl _ _ _ 470 437 rfl underlying470 GK (iB (aj (aj (aj (aA 0)))) (by unfold maxLen;decide)) 34 (by show(Lit.int .u8 34).wf=true;decide) _ rfl rfl rfl ?_;intro zw4 Ga CR)
   |(refine aw (E:=i7) rfl _ _ _ 470 437 rfl underlying470 Ga (iB (aj (aj (aj (aj (aA 0))))) (by unfold maxLen;decide)) 123 (by show(Lit.int .u8 123).wf=true;decide) _ rfl rfl rfl ?_;intro ub Lj CS
     have NW:=CQ.trans (AE.trans (AF.trans (CR.trans CS)));obtain⟨eN,d0,d2,H5⟩:=AFT.out ub Lj NW;have s5:=NW.size;clear NW GH GJ GK Ga Lj CQ AE AF CR CS))
  obtain⟨h5,t5,n5⟩:=H5.out;refine(HFF.out ub n5).mono ?_;rintro e w6 ⟨t,sx,a,q,k',rfl,q1,q2,q3,q4,q5,q6⟩;have tk:=q6.ai t5 O_;have g0:=tk.k0;have g1:=tk.k1;have g2:=tk.k2;have ff:=tk.dq;have ai3:=tk.lt;have T6:=ac5 (And.intro tk (And.intro ((ae.to n5).trans q6) q4));clear h5 t5 n5 q6 q4 tk H5;go_wp2;obtain⟨tk,o6,q4⟩:=T6.out;have hX:=((((tk.al 0 (I_ t)).al 1 (T_ sx)).al 2 (I_ k)).alloc (G_ #[I_ t,T_ sx,I_ k] 435));refine r_ (cH rfl _ _ rfl rfl (fj hX)) rfl ?_;obtain⟨t',s',a',q',k'',e1,e2,e3,e4,e5,e6,e7⟩:=ij (a:=(k:Int)) tk q1 q2 q3 q4 q5 o6 bJ;injection e1 with e1
  cases e1
  exact⟨t,sx,q,k'',rfl,O_,q2,q3,e5.new ((ae.refl _).alloc _),fun h _=>e6 h,e7.alloc _⟩
theorem Nj(h:uY w r A c l k) (hl:l.length<=100000) (hE:fG w):H_ 317 #[Q_ r] w fun e w'=>Si w w' r A c l k e:=by
 rcases GA k l.length with hk|hk
 ·have hx:=DW hk;rcases FG r ((l[k]).toNat:Int)with hg|⟨fn,hf,hg⟩
  ·exact iT 368 (Aw func368 K_ rfl) h hl _ hx none hg (.inr ⟨rfl,rfl⟩) fun W hW=>R6 (h.new hW) hl
  ·rcases hf with rfl|rfl|rfl|rfl|rfl
   ·exact iT _ (Aw func363 K_ rfl) h hl _ hx _ hg (.inl rfl) fun W hW=>aaC (h.new hW) hl hk
   ·exact iT _ (Aw func364 K_ rfl) h hl _ hx _ hg (.inl rfl) fun W hW=>aaD (h.new hW) hl hk
   ·exact iT _ (Aw func365 K_ rfl) h hl _ hx _ hg (.inl rfl) fun W hW=>aaE (h.new hW) hl hk
   ·exact iT _ (Aw func366 K_ rfl) h hl _ hx _ hg (.inl rfl) fun W hW=>aaG (h.new hW) hl
   ·exact iT _ (Aw func367 K_ rfl) h hl _ hx _ hg (.inl rfl) fun W hW=>aaJ (h.new hW) hl (hE.new hW)
 ·obtain rfl:k=l.length:=by have:=h.hk;omega
  refine(Ed r A l.length c w h.b).mono ?_;rintro e w' ⟨rfl,hn⟩;exact⟨0,⟨#[]⟩,true,l.length,rfl,D_,D_,Gv _,h.new hn,fun _ h=>absurd rfl h,ae.to hn⟩
end
def afp(L:Nat) (w w':World) (e:Ending):Prop:=
 ae w w'/\((∃v ts,e=.returned (.tuple #[v,I_ (-1)])/\Own yt 435 w.heap.size w' v ts/\TS L ts/\ts.length<=L+1)\/∃x:Nat,e=.returned (.tuple #[Z_,I_ x])/\x<=L)
theorem Jl(A:Option Addr) (c:Nat) (l:List UInt8) (hl:l.length<=100000) (w:World) (h:SB w A c l) (hA:∀b off,A=some ⟨b,off,none⟩->b<w.heap.size) (hE:fG w):
 H_ 275 #[X_ A l.length c] w fun e w'=>afp l.length w w' e:=by
 obtain⟨i0,hi,dw,cE,dy⟩:=wF Ee;have hr0:uY (W_ w #[X_ A l.length c,I_ 0] 433) w.heap.size A c l 0:=⟨af.new _ _ _,h.new ((ae.refl w).alloc _),hA,Gv _⟩;have HE:=ac5 hE;clear h hA hE
 go_enter func275,ntmps275
 go_wp2_with fail
 go_loopw [4] (fun ov wr=>∃(k:Nat) (ts:List Tk),Hid (Own yt 435 w.heap.size wr ov ts/\(∀x∈ts,x.k≠0/\x.s.size<=l.length)/\uY wr w.heap.size A c l k/\ae w wr)/\ts.length<=k) (fun _ wr=>l.length-(intOf ((wr.cell? (C_ w 1)).getD undef)).toNat)
 case atStart=>exact⟨0,[],ac5 ⟨Own.nil _ _ _ _,S_,hr0,(ae.refl w).alloc _⟩,aA _⟩
 case round=>
  obtain⟨k,ts,HR,hlen⟩:=hrel;have hN:=ac5 (Nj HR.out.2.2.1 hl (HE.out.new HR.out.2.2.2));have c1:L_ wr w 1 (I_ k):=HR.out.2.2.1.b.cell 1;have dL:=HR.out.2.2.1.hk;have bJ:=HR.out.2.2.1.b.lt;go_wp2_with fail
  refine hN.out.mono ?_;rintro e w1 ⟨t,s,q,k',rfl,q1,q2,q3,h1,hq,o1⟩;have n1:=ae.one HR.out.2.2.2 o1 (aA _);have fV:=HR.out.1.fr o1 fun g hg e=>HR.out.1.ar HR.out.2.2.1.b D_ (by rw [<-e];exact hg);have e_:=HR.out.2.1
  cases q
  ·go_wp2;go_ret2;exact⟨n1.alloc _,.inr ⟨k,rfl,dL⟩⟩
  ·obtain⟨oA,oC,rfl,_⟩:=fV.form;have fB:=n1.size;have H1:=ac5 (And.intro fV (And.intro n1 h1));have hTS:=ac5 e_;have pM:=h1.b.lt;clear fV n1 h1 e_ o1;by_cases ht:t=0
   ·subst ht;go_wp2_with (at_builtin;refine bC (E:=yt) rfl _ _ _ rfl underlying376 hi dw cE dy rfl ((H1.out.1.alloc _).alloc _) rfl ⟨0,s,k⟩ (w1.heap.size+1) (af.cD _ _ _ _) 1 rfl (by unfold maxLen;omega) O_ (by rw [gz,gz];omega) ?_;intro v4 w4 lq fL Db;have tv4:L_ w4 w1 0 (I_ 0):=(Fr.ai fL ((af.new w1 435 #[I_ 0,T_ s,I_ k]).alloc _) (fun e=>by have:=(H1.out.1.block e).2;omega)).cell 0)
    go_ret2;exact⟨ae.append ((H1.out.2.1.alloc _).alloc _) ((H1.out.1.alloc _).alloc _) fL,.inl ⟨_,_,rfl,lq,⟨ts,⟨0,s,k⟩,rfl,rfl,q3,hTS.out⟩,by rw [dr];simp;omega⟩⟩
   ·have ht2:=beq_eq_false_iff_ne.2 ht;have hkk:=hq rfl ht;go_wp2_with (at_builtin;refine bC (E:=yt) rfl _ _ _ rfl underlying376 hi dw cE dy rfl ((H1.out.1.alloc _).alloc _) rfl ⟨t,s,k⟩ (w1.heap.size+1) (af.cD _ _ _ _) 1 rfl (by unfold maxLen;omega) O_ (by rw [gz,gz];omega) ?_;intro v4 w4 lq fL Db;have tv4:L_ w4 w1 0 (I_ t):=(Fr.ai fL ((af.new w1 435 #[I_ t,T_ s,I_ k]).alloc _) (fun e=>by have:=(H1.out.1.block e).2;omega)).cell 0)
    have h1:=H1.out.2.2;have o3:=(H1.out.1.alloc (G_ #[I_ t,T_ s,I_ k] 435)).alloc (G_ #[I_ t,T_ s,I_ k] 435);have h3:=h1.new (((ae.refl w1).alloc (G_ #[I_ t,T_ s,I_ k] 435)).alloc (G_ #[I_ t,T_ s,I_ k] 435));have QC:uY w4 w.heap.size A c l k':=⟨fL.ai h3.b (fun e=>o3.ar h3.b D_ e),h3.s.fr fL fun b off e _ hb=>by have:=(o3.block hb).1;have:=h3.n b off e;omega,h3.n,h3.hk⟩;have hm:=QC.b.k1;go_roundw
    case rel=>exact⟨k',_,ac5 ⟨lq,fun x hx=>(List.mem_append.1 hx).elim (hTS.out x) (fun hx=>by rw [List.mem_singleton.1 hx];exact⟨ht,q3⟩),QC,ae.append ((H1.out.2.1.alloc _).alloc _) ((H1.out.1.alloc _).alloc _) fL⟩,by rw [dr];simp;omega⟩
    case measure=>
     rw [c1,hm];have:=QC.hk;simp [intOf];omega
def Jm(L:Nat) (w w':World) (e:Ending):Prop:=∃(c:fK) (q:Bool),e=.returned (.tuple #[c.val,R_ q])/\PC w.heap.size L w' c/\ae w w'
abbrev Nk(tg:ByteArray):fK:=⟨tg,0,⟨#[]⟩,none,0,0,0,0,false,0,none,0,0⟩
theorem PC.zero (B:Nat) (w:World) {tg:ByteArray}(ht:tg.size<=5000):PC B 5000 w (Nk tg) where
 t:=ht
 m:=Gv _
 fl:=⟨gq 0,(by decide:(0:Int)<=31)⟩
 k:=⟨gq 0,(by decide:(0:Int)<=8)⟩
 set:=⟨[],Own.nil _ _ _ _,S_,S_⟩
 yz:=⟨[],Rd.nil _ _,S_,fun g h=>by cases h⟩
theorem Nl{w W:World}{tmps:Array Value}{G C O:Nat}{tg:ByteArray}{x0 x1 x2 x3 x4 x5 x6 x7 x8 b0:Value}(h2:tmps[2]? =some (.pointer (M_ C))) (h3:tmps[3]? =some (.pointer (M_ O)))
 (hG:af W G 9 #[T_ tg]) (hC:af W C 47 #[x0,x1,x2,x3,x4,x5,x6,x7,x8]) (hO:af W O 4 #[b0]) (ht:tg.size<=5000) (hn:ae w W) (hC0:w.heap.size<=C) (hO0:w.heap.size<=O):
 Leaves prog Tryz.f206 tmps (fun e w'=>Jm 5000 w w' e) [{target:=.fn (.func 273) #[Q_ G,Q_ C,Q_ O],args:= #[]}] (.panicking wP) W:=by
 refine Qd (f:=273) (args:= #[Q_ G,Q_ C,Q_ O]) S_ (by simp [go_sem]) ?_;refine(Ci G C O tg W hG hC hO).mono ?_;rintro e u' w' ⟨rfl,rfl,hC',hO',hf⟩;exact⟨_,pq rfl _ _ h2 h3 (qH hC') (cJ underlying4 rfl (hO'.cell 0)),Nk tg,false,rfl,PC.zero _ _ ht,Fr.trans' hn hf fun k hk e=>by rcases e with e|e<;>omega⟩
theorem TS.mono {L L':Nat}{ts:List Tk}(h:TS L ts) (hL:L<=L'):TS L' ts:=by
 obtain⟨i,e,h1,h2,h3,h4⟩:=h;exact⟨i,e,h1,h2,O_,fun x hx=>⟨(h4 x hx).1,by have:=(h4 x hx).2;omega⟩⟩
theorem Nn(k:Int) (h1:1<=k) (h8:k<=8):∃fn,get Eh k=some (.func (.func fn) #[] #[])/\(∀args w,(callFunc fn args).run prog w=.ok (.enter fn args) w)/\
 ∀(B p:Nat) (w:World) (ts:List Tk) (c:fK),EA p w->PB B 5000 w p ts c->TS 5000 ts->H_ fn #[Q_ p] w fun e w'=>mz B 5000 w w' p ts.length e:=by
 have hp:∀(B p:Nat) (w:World) (ts:List Tk) (c:fK),EA p w->PB B 5000 w p ts c->TS 5000 ts->H_ 319 #[Q_ p] w fun e w'=>mz B 5000 w w' p ts.length e:=fun B p w ts c _ h e_=>by
  refine(wv _ w).mono ?_;rintro e w' ⟨rfl,rfl⟩;exact⟨One.refl _ _,.inr ⟨rfl,ts,c,h,e_,aA _⟩⟩
 have:k=1\/k=2\/k=3\/k=4\/k=5\/k=6\/k=7\/k=8:=O_
 rcases this with rfl|rfl|rfl|rfl|rfl|rfl|rfl|rfl
 ·exact⟨319,rfl,Aw func319 K_ rfl,hp⟩
 ·exact⟨319,rfl,Aw func319 K_ rfl,hp⟩
 ·exact⟨319,rfl,Aw func319 K_ rfl,hp⟩
 ·exact⟨319,rfl,Aw func319 K_ rfl,hp⟩
 ·exact⟨320,rfl,Aw func320 K_ rfl,fun B p w ts c _ h e_=>ru O_ h e_⟩
 ·exact⟨321,rfl,Aw func321 K_ rfl,fun B p w ts c hT h e_=>Fx O_ hT h e_⟩
 ·exact⟨322,rfl,Aw func322 K_ rfl,fun B p w ts c hT h e_=>Jf O_ hT h e_⟩
 ·exact⟨323,rfl,Aw func323 K_ rfl,fun B p w ts c hT h e_=>Jg O_ hT h e_⟩
theorem Sk(s:ByteArray): -1<=qn s/\qn s<8:=by
 have h:=jq (zj s) kZ 0;have hz:kZ.length=8:=rfl;rw [hz]at h;unfold qn Lib.idxOfS;omega
theorem No(A:Option Addr) (c:Nat) (l:List UInt8) (hl:l.length<=5000) (w:World) (h:SB w A c l) (hA:∀b off,A=some ⟨b,off,none⟩->b<w.heap.size) (hE:fG w):
 H_ 206 #[X_ A l.length c] w fun e w'=>Jm 5000 w w' e:=by
 have hmf:=atQ;have n0:ae w (W_ (W_ w #[E_,I_ 0,E_,Z_,I_ 0,I_ 0,R_ false,B_ 0,Z_] 47) #[R_ false] 4):=((ae.refl w).alloc _).alloc _;have NX:af (W_ (W_ w #[E_,I_ 0,E_,Z_,I_ 0,I_ 0,R_ false,B_ 0,Z_] 47) #[R_ false] 4) w 47 #[E_,I_ 0,E_,Z_,I_ 0,I_ 0,R_ false,B_ 0,Z_]:=(af.new _ _ _).alloc _;have ro0:af (W_ (W_ w #[E_,I_ 0,E_,Z_,I_ 0,I_ 0,R_ false,B_ 0,Z_] 47) #[R_ false] 4) (w.heap.size+1) 4 #[R_ false]:=af.cD _ _ _ _;have HTG:=ac5 (Fy A c l O_ _ (h.new n0));have HH:=ac5 (And.intro h (And.intro hA hE));clear h hA hE
 go_enter_defers func206,ntmps206
 go_wp2_with fail
 refine HTG.out.mono ?_;rintro e w1 ⟨tg,n,q,rfl,ht,hn,m1⟩;have n2:=(n0.trans m1).alloc (G_ #[T_ tg] 9);have P5:=(m1.ai NX).alloc (G_ #[T_ tg] 9);have ro2:=(m1.ai ro0).alloc (G_ #[T_ tg] 9);have rt2:af (W_ w1 #[T_ tg] 9) w1 9 #[T_ tg]:=af.new _ _ _;have ht5:tg.size<=5000:=O_
 have c1:=ro2.lt;have c2:=rt2.lt;have c3:=(n0.trans m1).size
 have PAN:Hid (∀W (tmps:Array Value),ae (W_ w1 #[T_ tg] 9) W->tmps[2]? =some (.pointer (M_ w))->tmps[3]? =some (.pointer (M_ (w.heap.size+1)))->
  Leaves prog Tryz.f206 tmps (fun e w'=>Jm 5000 w w' e) [{target:=.fn (.func 273) #[Q_ w1,Q_ w,Q_ (w.heap.size+1)],args:= #[]}] (.panicking wP) W):=
  ac5 fun W tmps hW h2 h3=>Nl h2 h3 (hW.ai rt2) (hW.ai P5) (hW.ai ro2) ht5 (n2.trans hW) (aA _) O_
 have H2:=ac5 (And.intro n2 (And.intro P5 (And.intro ro2 rt2)));clear NX ro0 m1 n0 P5 ro2 rt2
 cases q
 ·go_wp2_with fail
  refine(ew _).mono ?_;rintro e w2 ⟨rfl,rfl⟩;exact PAN.out _ _ (ae.refl _) rfl rfl
 generalize AU:(w1.alloc (G_ #[T_ tg] 9))=w2 at*;have jE:∀W,(Instr.sliceAt 23 (X_ A l.length c) (some (I_ (n:Int))) none none).run prog W=.ok (X_ (kh A c n) (l.length-n) (c-n)) W:=fun W=>HH.out.1.me n hn W;have je:=(HH.out.1.new n2).cutAt n l.length (aA _);have hlen:((l.drop n).take (l.length-n)).length=l.length-n:=by rw [jo,gj];omega
 have Gk:=ac5 (Jl _ _ _ (by rw [hlen];omega) w2 je (fun b off e=>by
  unfold kh at e;have hAA:=HH.out.2.1
  split at e
  ·have:=hAA b off e;omega
  ·cases A with
   |none=>cases e
   |some a=>
    have:=HH.out.1.f;rcases this with⟨h,_⟩|⟨b',ug,h⟩
    ·cases h
    ·rw [h,Pk,kR]at e;injection e with e;injection e with e1;have:=hAA b' ug h;omega) (HH.out.2.2.new n2))
 rw [hlen]at Gk;clear je hlen n2;go_wp2_with fail
 refine(dt _).mono ?_;rintro e w3 ⟨rfl,rfl⟩;go_wp2_with fail
 refine Gk.out.mono ?_;rintro e w4 ⟨n4,⟨v,ts,rfl,hv,e_,uf⟩|⟨x,rfl,hx⟩⟩
 rotate_left
 ·have d:decide ((x:Int)<0)=false:=aP O_;go_wp2_with fail
  refine(ew _).mono ?_;rintro e w5 ⟨rfl,rfl⟩;exact PAN.out _ _ n4 rfl rfl
 have aax:=e_.mono (show l.length-n<=5000 by omega);obtain⟨vA,vC,rfl,_⟩:=hv.form;have afq:TL w.heap.size w4 (X_ vA ts.length vC) ts:=⟨hv.rd,fun g hg=>⟨by have:=(hv.block hg).1;omega,hv.heap hg⟩⟩;obtain⟨w6,hw6⟩:∃w6,w6=(w4.alloc (G_ #[X_ vA ts.length vC,E_,I_ 0,E_,Z_,I_ 0,I_ 0,R_ false,B_ 0,Z_] 381)):=⟨_,rfl⟩;have n5:ae w4 w6:=hw6▸(ae.refl w4).alloc _;have s4:=n4.size;have s6:w6.heap.size=w4.heap.size+1:=by rw [hw6,gz]
 have Kd:PB w.heap.size 5000 w6 w4.heap.size ts (Nk ⟨#[]⟩):=⟨⟨_,hw6▸af.new _ _ _,afq.new n5⟩,PC.zero _ _ D_,O_⟩;have HP:=ac5 (And.intro Kd (n4.trans n5));clear hv e_ uf afq Kd;go_wp2_with fail
 refine(dt _).mono ?_;rintro e w5 ⟨rfl,rfl⟩;have Pq:w.heap.size<=w5.heap.size:=O_
 have pP:=n4.size;clear n5 n4 s4;have HN:Hid (∀W,One w5.heap.size w6 W->ae w3 W):=ac5 fun W hW=>ae.one HP.out.2 hW pP;have hEA:EA w5.heap.size w6:=fun W hW=>HH.out.2.2.new (H2.out.1.trans (HN.out W hW));have HEA:=ac5 hEA;have HT:=ac5 (take_one HP.out.1 aax 4 D_);rw [s6]at HT;clear hEA;go_wp2_with fail
 rw [<-hw6];clear hw6 s6;refine HT.out.mono ?_;rintro e w7 ⟨o7,rfl|⟨t,ts7,rfl,P6,rfl,h7,aaz⟩⟩
 ·exact PAN.out _ _ (HN.out _ o7) rfl rfl
 have hk:=Du t.s O_ w7 (HEA.out w7 o7).t;have Bb:=Sk t.s;generalize qn t.s=ki at hk Bb;have HK:=ac5 hk;have H7:=ac5 h7;clear hk h7;go_wp2_with fail
 refine HK.out.mono ?_;rintro e w8 ⟨rfl,n8⟩;have o8:=o7.trans (ae.to n8);by_cases lV:0<=ki
 rotate_left
 ·have d:=aP lV;go_wp2_with fail
  refine(ew _).mono ?_;rintro e w9 ⟨rfl,rfl⟩;exact PAN.out _ _ (HN.out _ o8) rfl rfl
 have d:=k_ lV;have h8:=H7.out.new n8;obtain⟨q1,q2,_⟩:=h8.cells;obtain⟨_,_,ff⟩:=h8.cell;have hp8:=h8.lt;have hG8:=(HN.out _ o8).ai H2.out.2.2.2;have qG:=hG8.k0;obtain⟨fn,fP,hE,TJ⟩:=Nn (ki+1) O_ O_;have h9:PB w.heap.size 5000 (w8.setCell (C_ w5 1) (T_ tg)) w5.heap.size ts7 {Nk ⟨#[]⟩with t:=tg}:=h8.set _ 1 _ D_ rfl {PC.at h8 1 _ with t:=ht5};have sH:PB w.heap.size 5000 ((w8.setCell (C_ w5 1) (T_ tg)).setCell (C_ w5 2) (I_ (ki+1))) w5.heap.size ts7 {Nk ⟨#[]⟩with t:=tg,k:=ki+1}:=h9.set _ 2 _ D_ rfl {PC.at h9 2 _ with k:=⟨(by omega:0<=ki+1),(by omega:ki+1<=8)⟩};have VG:=o8.trans (((One.refl w5.heap.size w8).set 1 (T_ tg)).set 2 (I_ (ki+1)))
 have dx:aL.ok (ki+1):=by
  have:ki+1=1\/ki+1=2\/ki+1=3\/ki+1=4\/ki+1=5\/ki+1=6\/ki+1=7\/ki+1=8:=O_
  rcases this with e|e|e|e|e|e|e|e<;>(rw [e];show(Lit.int .i64 _).wf=true;decide)
 have H10:=ac5 (And.intro sH (And.intro VG (And.intro dx (And.intro fP TJ))))
 have hGp:w1.heap.size≠w5.heap.size:=by
  have:=(H2.out.2.2.2).lt;omega
 clear h8 h9 sH VG hG8 dx fP TJ n8;go_wp2_with fail
 refine(dt _).mono ?_;rintro e w9 ⟨rfl,rfl⟩;generalize ki+1=kk at hE H10⊢;clear Bb lV d;go_wp2_with fail
 generalize((w9.setCell (C_ w5 1) (T_ tg)).setCell (C_ w5 2) (I_ kk))=J' at*;clear q1 q2 ff qG;refine(tE J').mono ?_;rintro e Ka ⟨rfl,afs,n11⟩
 have eN:(Instr.lookup 385 (.map (some J'.heap.size)) (I_ kk) false).run prog Ka=.ok (.func (.func fn) #[] #[]) Ka:=by
  have h:=afs.eG (t:=385) (e:=384) underlying385 (J_ Ka) H10.out.2.2.1;rw [H10.out.2.2.2.1]at h;exact h
 have Tc:=H10.out.2.1.trans (ae.to n11);have HF:=ac5 (H10.out.2.2.2.2 w.heap.size w5.heap.size Ka ts7 _ (HEA.out.one Tc) (H10.out.1.new n11) aaz);clear afs n11;go_wp2_with fail
 refine HF.out.mono ?_;rintro e w12 ⟨Gp,rfl|⟨rfl,as6,jM,IA,aft,_⟩⟩
 ·exact PAN.out _ _ (HN.out _ (Tc.trans Gp)) rfl rfl
 have Tv:=Tc.trans Gp;have n13:ae w12 (W_ w12 #[I_ 0] 3):=(ae.refl w12).alloc _;have Hg:=ac5 (sG (IA.new n13) aft.ne w12.heap.size 1 [0] (zU w12 0) S_ S_);clear IA;go_wp2_with fail
 refine Hg.out.mono ?_;rintro e w14 ⟨VH,rfl|⟨t14,as7,_,_,rfl,h14⟩⟩
 ·exact PAN.out _ _ (HN.out _ ((Tv.trans (ae.to n13)).trans VH)) rfl rfl
 have n14:=HN.out _ ((Tv.trans (ae.to n13)).trans VH);obtain⟨v14,ak1,_⟩:=h14.b;obtain⟨q1,q2,q3,q4,q5,q6,q7,q8,q9⟩:=h14.cells;have rc:=n14.ai H2.out.2.1;have ro:=n14.ai H2.out.2.2.1;have HC:=ac5 h14.c;have n0:=H2.out.1.trans n14;have y0:=rc.frozen;have y1:=ro.frozen;obtain⟨z0,z1,z2,z3,z4,z5,z6,z7,z8⟩:=rc.nG;have z9:=ro.k0;have ua:=rc.lt;have Te:=ro.lt;clear h14 VH Tv Gp n13 ak1;go_wp2;have hA:=rc.qe (T_ jM.t) (I_ jM.k) (T_ jM.m) (X_ jM.sA jM.sn jM.sc) (I_ jM.it) (I_ jM.mo) (R_ jM.si) (B_ jM.fl) (X_ jM.dA jM.dn jM.dc);have hF:=One.qe w14 w.heap.size (T_ jM.t) (I_ jM.k) (T_ jM.m) (X_ jM.sA jM.sn jM.sc) (I_ jM.it) (I_ jM.mo) (R_ jM.si) (B_ jM.fl) (X_ jM.dA jM.dn jM.dc);generalize(((((((((w14.setCell (C_ w 0) (T_ jM.t)).setCell (C_ w 1) (I_ jM.k)).setCell (C_ w 2) (T_ jM.m)).setCell (C_ w 3) (X_ jM.sA jM.sn jM.sc)).setCell (C_ w 4) (I_ jM.it)).setCell (C_ w 5) (I_ jM.mo)).setCell (C_ w 6) (R_ jM.si)).setCell (C_ w 7) (B_ jM.fl)).setCell (C_ w 8) (X_ jM.dA jM.dn jM.dc))=w15 at*;refine Qd (f:=273) (args:= #[Q_ w1,Q_ w,Q_ (w.heap.size+1)]) S_ (by simp [go_sem]) ?_;refine(tD _ _ _ _).mono ?_;rintro e u' w16 ⟨rfl,rfl,rfl⟩;have hO:=(hF.ai ro O_).al 0 (R_ true);have Pn:=hA.bL (p:=⟨w.heap.size+1,0,none⟩) S_ (R_ true);have hF2:Fr (fun k=>k=w.heap.size\/k=w.heap.size+1) w14 (w15.setCell (C_ (w.heap.size+1) 0) (R_ true)):=Fr.setCell (hF.mono fun _ _ e=>.inl e) (p:=⟨w.heap.size+1,0,none⟩) (fun _=>.inr rfl) _;refine⟨_,pq rfl _ _ rfl rfl (qH Pn) (cJ underlying4 rfl (hO.cell 0)),jM,true,rfl,HC.out.fr hF2 fun g hg=>?_,Fr.trans' n0 hF2 fun k hk e=>by rcases e with e|e<;>omega⟩;rcases hg with rfl|rfl
 ·exact⟨_,_,rc,D_⟩
 ·exact⟨_,_,ro,D_⟩
def X1:ByteArray:=⟨#[115,121,110,116,97,120,32,101,114,114,111,114]⟩
def X2:ByteArray:=⟨#[108,105,110,101,32,116,111,111,32,108,111,110,103]⟩
def X3:ByteArray:=⟨#[108,105,116,101,114,97,108,32,116,111,111,32,108,111,110,103]⟩
def X5:List (Int×Value):=put (put (put [] 1 (T_ X1)) 3 (T_ X2)) 4 (T_ X3)
theorem Cm(w:World):H_ 207 #[] w fun e w'=>e=.returned (.map (some w.heap.size))/\HasMap aL w' w.heap.size X5/\ae w w':=by
 have uH:= @run_makeMap prog;have vD:=HasMap.made aL w
 go_enter func207,ntmps207
 go_wp2_with (first
  |(refine aw (E:=aL) rfl _ _ _ 315 9 rfl underlying315 vD (iB (aA 0) (by unfold maxLen;decide)) 1 (by show(Lit.int .i64 1).wf=true;decide) _ rfl rfl rfl ?_;intro zw1 GH CQ)
  |(refine aw (E:=aL) rfl _ _ _ 315 9 rfl underlying315 GH (iB (aj (aA 0)) (by unfold maxLen;decide)) 3 (by show(Lit.int .i64 3).wf=true;decide) _ rfl rfl rfl ?_;intro zw2 GJ AE)
  |(refine aw (E:=aL) rfl _ _ _ 315 9 rfl underlying315 GJ (iB (aj (aj (aA 0))) (by unfold maxLen;decide)) 4 (by show(Lit.int .i64 4).wf=true;decide) _ rfl rfl rfl ?_;intro zw3 GK AF))
 go_ret;exact⟨rfl,GK,ae.one ((ae.refl w).alloc _) (CQ.trans (AE.trans AF)) (aA _)⟩
theorem VJ(w:World):(zeroValue 9).run prog w=.ok E_ w:=K_
def X6(w w':World) (e:Ending):Prop:=∃(c:fK) (ms:ByteArray),e=.returned (.tuple #[c.val,T_ ms])/\PC w.heap.size 5000 w' c/\ms.size<=100/\ae w w'
theorem Sl(fk:Int) (hk:fk=1\/fk=3\/fk=4) (A:Option Addr) (c:Nat) (l:List UInt8) (hl:l.length<=5000) (w:World) (h:SB w A c l) (hA:∀b off,A=some ⟨b,off,none⟩->b<w.heap.size) (hE:fG w):
 H_ 152 #[.agg #[I_ fk,X_ A l.length c]] w fun e w'=>X6 w w' e:=by
 have n0:ae w (W_ (W_ w #[I_ fk,X_ A l.length c] 174) #[E_,I_ 0,E_,Z_,I_ 0,I_ 0,R_ false,B_ 0,Z_] 47):=((ae.refl w).alloc _).alloc _;have bf0:af (W_ (W_ w #[I_ fk,X_ A l.length c] 174) #[E_,I_ 0,E_,Z_,I_ 0,I_ 0,R_ false,B_ 0,Z_] 47) w 174 #[I_ fk,X_ A l.length c]:=(af.new _ _ _).alloc _;have NX:af (W_ (W_ w #[I_ fk,X_ A l.length c] 174) #[E_,I_ 0,E_,Z_,I_ 0,I_ 0,R_ false,B_ 0,Z_] 47) (w.heap.size+1) 47 #[E_,I_ 0,E_,Z_,I_ 0,I_ 0,R_ false,B_ 0,Z_]:=af.cD _ _ _ _;have s0:((w.alloc (G_ #[I_ fk,X_ A l.length c] 174)).alloc (G_ #[E_,I_ 0,E_,Z_,I_ 0,I_ 0,R_ false,B_ 0,Z_] 47)).heap.size=w.heap.size+2:=by rw [gz,gz]
 have HH:=ac5 (And.intro h (And.intro hA hE))
 have fin:∀(wz:World) (cc:fK) (ms:ByteArray),ae w wz->af wz (w.heap.size+1) 47 #[E_,I_ 0,E_,Z_,I_ 0,I_ 0,R_ false,B_ 0,Z_]->PC w.heap.size 5000 wz cc->ms.size<=100->
  Hid (∀W tmps,ae (((((((((wz.setCell (C_ (w.heap.size+1) 0) (T_ cc.t)).setCell (C_ (w.heap.size+1) 1) (I_ cc.k)).setCell (C_ (w.heap.size+1) 2) (T_ cc.m)).setCell (C_ (w.heap.size+1) 3) (X_ cc.sA cc.sn cc.sc)).setCell (C_ (w.heap.size+1) 4) (I_ cc.it)).setCell (C_ (w.heap.size+1) 5) (I_ cc.mo)).setCell (C_ (w.heap.size+1) 6) (R_ cc.si)).setCell (C_ (w.heap.size+1) 7) (B_ cc.fl)).setCell (C_ (w.heap.size+1) 8) (X_ cc.dA cc.dn cc.dc)) W->tmps[2]? =some (.pointer (M_ (w.heap.size+1)))->tmps[3]? =some (.string ms)->bodyPost prog Tryz.f152 (fun e w'=>X6 w w' e) .ret {tmps:=tmps,defers:=[]} W):=fun wz cc ms hn hb hp Gd=>ac5 fun W tmps hW h2 h3=>by
  have hA:=hb.qe (T_ cc.t) (I_ cc.k) (T_ cc.m) (X_ cc.sA cc.sn cc.sc) (I_ cc.it) (I_ cc.mo) (R_ cc.si) (B_ cc.fl) (X_ cc.dA cc.dn cc.dc);have hF:=One.qe wz (w.heap.size+1) (T_ cc.t) (I_ cc.k) (T_ cc.m) (X_ cc.sA cc.sn cc.sc) (I_ cc.it) (I_ cc.mo) (R_ cc.si) (B_ cc.fl) (X_ cc.dA cc.dn cc.dc);refine r_ (aC rfl _ _ h2 h3 (qH (hW.ai hA))) rfl ⟨cc,ms,rfl,(hp.fr hF fun g hg=>⟨_,_,(show g=w.heap.size+1 from hg)▸hb,D_⟩).new hW,Gd,(ae.one hn hF O_).trans hW⟩
 have Gi:=ac5 fin;clear h hA hE fin
 obtain⟨mt,hmt,Gd⟩:∃mt:ByteArray,get X5 fk=some (.string mt)/\mt.size<=100:=by
  rcases hk with rfl|rfl|rfl
  ·exact⟨X1,rfl,D_⟩
  ·exact⟨X2,rfl,D_⟩
  ·exact⟨X3,rfl,D_⟩
 have dx:aL.ok fk:=by
  rcases hk with rfl|rfl|rfl<;>(show(Lit.int .i64 _).wf=true;decide)
 have HM:=ac5 (And.intro hmt (And.intro Gd dx));clear hmt Gd dx;by_cases h1:fk=1
 case' pos=>
  have d:=beq_iff_eq.2 h1;have HP:=ac5 (No A c l hl _ (HH.out.1.new n0) (fun b off e=>by have:=HH.out.2.1 b off e;rw [s0];omega) (HH.out.2.2.new n0));clear h1 hk
  go_enter func152,ntmps152
  go_wp2_with fail
  refine HP.out.mono ?_;rintro e w1 ⟨cc,q,rfl,hp,m1⟩;have nr:=n0.trans m1;have rc:=m1.ai NX;have bf:=m1.ai bf0
  have lK:PC w.heap.size 5000 w1 cc:={hp with
   set:=by obtain⟨s,h1,h2⟩:=hp.set;exact⟨s,h1.mono (by rw [s0];omega),h2⟩
   yz:=by obtain⟨l,h1,h2,h3⟩:=hp.yz;exact⟨l,h1,h2,fun g hg=>⟨by have:=(h3 g hg).1;rw [s0]at this;omega,(h3 g hg).2⟩⟩}
  clear n0 NX bf0 hp
  cases q
  case' false=>
   have nr2:=nr.alloc (G_ #[T_ cc.t,I_ cc.k,T_ cc.m,X_ cc.sA cc.sn cc.sc,I_ cc.it,I_ cc.mo,R_ cc.si,B_ cc.fl,X_ cc.dA cc.dn cc.dc] 47);have P5:=rc.alloc (G_ #[T_ cc.t,I_ cc.k,T_ cc.m,X_ cc.sA cc.sn cc.sc,I_ cc.it,I_ cc.mo,R_ cc.si,B_ cc.fl,X_ cc.dA cc.dn cc.dc] 47);have bf2:=bf.alloc (G_ #[T_ cc.t,I_ cc.k,T_ cc.m,X_ cc.sA cc.sn cc.sc,I_ cc.it,I_ cc.mo,R_ cc.si,B_ cc.fl,X_ cc.dA cc.dn cc.dc] 47);clear nr rc bf lK;go_wp2_with fail
   generalize(w1.alloc (G_ #[T_ cc.t,I_ cc.k,T_ cc.m,X_ cc.sA cc.sn cc.sc,I_ cc.it,I_ cc.mo,R_ cc.si,B_ cc.fl,X_ cc.dA cc.dn cc.dc] 47))=W at nr2 P5 bf2⊢
  case true=>
   obtain⟨c0,c1,c2,c3,c4,c5,c6,c7,c8⟩:=rc.nG;have ff:=rc.dq;have pM:=rc.lt;have FN:=Gi.out w1 cc ⟨#[]⟩ nr rc lK D_;clear rc nr lK bf;go_wp2;exact FN.out _ _ ((ae.refl _).alloc _) rfl rfl
 case' neg=>
  have d:=beq_eq_false_iff_ne.2 h1;clear h1 hk
  go_enter func152,ntmps152
  go_wp2_with fail
  generalize((w.alloc (G_ #[I_ fk,X_ A l.length c] 174)).alloc (G_ #[E_,I_ 0,E_,Z_,I_ 0,I_ 0,R_ false,B_ 0,Z_] 47))=W at n0 NX bf0⊢;have nr2:=n0;have P5:=NX;have bf2:=bf0
 all_goals
  have q0:=bf2.k0
  go_region_held3 (fun W'=>L_ W' w 0 (I_ fk)) (first|go_keep|assumption) ((first
   |(go_at_call 207
     refine(Cm _).mono ?_;rintro e w5 ⟨rfl,S8,m5⟩;have n5:ae W w5:=Fr.trans N_ m5;have q5:L_ w5 w 0 (I_ fk):=(n5.ai bf2).cell 0;have hl:=S8.bD (t:=315) (e:=9) underlying315 (VJ w5) HM.out.2.2;rw [HM.out.1]at hl
     change (Instr.lookup 315 _ (I_ fk) true).run prog w5=.ok (.tuple #[T_ mt,R_ true]) w5 at hl
     simp only [IN]at hl;have N5:=ac5 n5;clear S8 m5 n5)
   |fail))
  have nr5:=nr2.trans N5.out;have rc5:=N5.out.ai P5;have bf5:=N5.out.ai bf2;have qd:=bf5.k1;have HT:=ac5 (Fy A c l O_ w5 (HH.out.1.new nr5));clear nr2 P5 bf2;go_wp2_with fail
  refine HT.out.mono ?_;rintro e w6 ⟨tg,n,q,rfl,ht,hn,n6⟩;have nr6:=nr5.trans n6;have rc6:=n6.ai rc5;obtain⟨c0,c1,c2,c3,c4,c5,c6,c7,c8⟩:=rc6.nG;have ff:=rc6.dq;have pM:=rc6.lt;have FN:=Gi.out w6 (Nk tg) mt nr6 rc6 (PC.zero _ _ O_) HM.out.2.1;clear rc6 nr6 nr5 rc5 bf5 n6;go_wp2;exact FN.out _ _ (ae.refl _) rfl rfl
end Go.Proofs.YtliimglbbiebiaaGreatDoor
