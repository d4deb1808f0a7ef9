import Derived.Test.YtliimglbbiebiaaGreatDoorGTopTimeAN
import Derived.Test.YtliimglbbiebiaaGreatDoorGTopTimeAO
import Derived.Test.YtliimglbbiebiaaGreatDoorGTopTimeAL
set_option maxRecDepth 100000
set_option maxHeartbeats 6400000
set_option linter.all false
namespace Go.Proofs.YtliimglbbiebiaaGreatDoor
open Go.Proofs.Tryz Go.RowKit Go.Maps
abbrev gO(w:World) (t:Nat) (bz:Bool) (c:fK) (ms:ByteArray) (nd:Value) (x sp lk:Nat) (a b:Int) (ah out:Value):Prop:=
 af w t 131 #[R_ bz,T_ c.t,I_ c.k,T_ c.m,X_ c.sA c.sn c.sc,I_ c.it,I_ c.mo,R_ c.si,B_ c.fl,X_ c.dA c.dn c.dc,T_ ms,nd,Q_ x,Q_ sp,Q_ lk,I_ a,I_ b,ah,out]
def vW:fK:=⟨⟨#[]⟩,0,⟨#[]⟩,none,0,0,0,0,false,0,none,0,0⟩
abbrev yi(w:World) (sp:Nat) (v:Value):Prop:=af w sp 176 #[v,I_ 0,I_ 0,I_ 0]
section
variable{w:World}{t:Nat}{bz:Bool}{c:fK}{ms:ByteArray}{nd:Value}{x sp lk:Nat}{a b:Int}{ah out:Value}
theorem sd(h:gO w t bz c ms nd x sp lk a b ah out) (hs:yi w sp Z_) (u:Value) (l:List Int) (hu:Rd (ak .u8) w u l) (hl:l.length<=100000):
 H_ 30 #[Q_ t,u] w fun e w'=>e=.returned (.tuple #[])/\One sp w w'/\∃v,yi w' sp v/\Own (ak .u8) 5 w.heap.size w' v l:=by
 have YF:=h.oH;have bZ:=vN sp u l w hs hu hl
 go_enter func30,ntmps30
 go_wp2_with (go_at_call 53;refine bZ.mono ?_;rintro e w1 ⟨rfl,o1,v,h1,hv⟩)
 go_end0;exact⟨rfl,o1,v,h1,hv⟩
theorem Dx(l:List Int) (h:gO w t bz c ms nd x sp lk a b ah out) (ho:Rd (ak .u8) w out l) (hl:l.length<=100000):
 H_ 46 #[Q_ t] w fun e w'=>∃v,e=.returned v/\Own (ak .u8) 5 w.heap.size w' v l/\ae w w':=by
 have c18:=h.rF;have bZ:=eT out l w ho hl
 go_enter func46,ntmps46
 go_wp2_with (go_at_call 75;refine bZ.mono ?_;rintro e w1 ⟨v,rfl,hv,n1⟩)
 go_ret;exact⟨v,rfl,hv,n1⟩
theorem G7(h:gO w t bz c ms nd x sp lk a b Z_ out) (v:Value) (hv:Gb v) (hs:yi w sp v):
 H_ 109 #[Q_ t] w fun e w'=>e=.returned (.tuple #[.agg #[I_ 0,Z_],R_ false])/\One sp w w'/\yi w' sp v:=by
 have n0:ae w (W_ w #[I_ 0,Z_] 174):=(ae.refl w).alloc _;have r0:af (W_ w #[I_ 0,Z_] 174) w 174 #[I_ 0,Z_]:=af.new _ _ _;have h0:=n0.ai h;have oW:=n0.ai hs;have bJ:=hs.lt;have YF:=h0.oH;have Ph:=h0.kH
 go_enter func109,ntmps109
 go_wp2_with fail
 refine(vT sp v hv _ oW).mono ?_;rintro e w1 ⟨rfl,o1,s1⟩;have r1:=o1.ai r0 O_;have r2:=r1.alloc (G_ #[I_ 0,Z_] 174);have s2:=s1.alloc (G_ #[I_ 0,Z_] 174);have o2:=((ae.to n0).trans o1).alloc (G_ #[I_ 0,Z_] 174);have g2:=af.new w1 174 #[I_ 0,Z_];have LJ:=s1.lt;clear YF Ph r0 h0 oW n0 o1;obtain⟨p0,p1⟩:=r2.dQ;have f2:=r2.dq;obtain⟨g0,g1⟩:=g2.dQ;go_wp2;have hR:=r2.bP (I_ 0) Z_;refine r_ (aC rfl _ _ rfl rfl (fJ hR)) rfl ⟨rfl,Fr.setCell (Fr.setCell o2 (p:=⟨w.heap.size,0,none⟩) (fun h=>absurd h (bh _)) (I_ 0)) (p:=⟨w.heap.size,1,none⟩) (fun h=>absurd h (bh _)) Z_,?_⟩;exact(s2.bL (p:=⟨w.heap.size,0,none⟩) (by show sp≠w.heap.size;omega) _).bL (p:=⟨w.heap.size,1,none⟩) (by show sp≠w.heap.size;omega) _
end
section
variable{w:World}{t:Nat}{bz:Bool}{c:fK}{ms:ByteArray}{nd:Value}{x sp lk:Nat}{a b:Int}{ah out:Value}
theorem lf(f:uK) (base:Nat) (h:gO w t bz c ms nd x sp lk a b ah out) (ho:Own im 174 base w ah [f]):
 H_ 109 #[Q_ t] w fun e w'=>e=.returned (.tuple #[f.val,R_ true])/\ae w w':=by
 have n0:ae w (W_ w #[I_ 0,Z_] 174):=(ae.refl w).alloc _;have r0:af (W_ w #[I_ 0,Z_] 174) w 174 #[I_ 0,Z_]:=af.new _ _ _;have h0:=n0.ai h;have Pj:=(ho.new n0).rd;obtain⟨A,C,rfl,hC,aF⟩:=Pj;obtain⟨bb,off,rfl,AR⟩:=aF S_;obtain⟨fk,fA,fn,fc⟩:=f;have d0:L_ (W_ w #[I_ 0,Z_] 174) bb off (I_ fk):=AR 0 _ rfl 0 _ rfl;have d1:L_ (W_ w #[I_ 0,Z_] 174) bb (off+1) (X_ fA fn fc):=AR 0 _ rfl 1 _ rfl;have Ph:L_ (W_ w #[I_ 0,Z_] 174) t 17 (X_ (some ⟨bb,off,none⟩) 1 C):=h0.cell 17;have hC':1<=C:=hC;clear aF AR hC;unfold uK.val
 go_enter func109,ntmps109
 go_wp2;have hR:=r0.bP (I_ fk) (X_ fA fn fc)
 first
 |exact r_ (aC rfl _ _ rfl rfl (fJ hR)) rfl ⟨rfl,Fr.setCell (Fr.setCell n0 (p:=⟨w.heap.size,0,none⟩) (fun h=>absurd h (bh _)) (.int .i64 fk)) (p:=⟨w.heap.size,1,none⟩) (fun h=>absurd h (bh _)) (.slice fA fn fc)⟩
 |exact r_ (aC rfl _ _ rfl rfl (fJ (af.new w 174 #[.int .i64 fk,.slice fA fn fc]))) rfl ⟨rfl,(ae.refl w).alloc _⟩
theorem LA(h:gO w t bz c ms nd x sp lk a b Z_ out) (g off c':Nat) (y:UInt8) (hy:y=97\/y=98) (hc:8<=c') (se:g≠sp) (LB:g<w.heap.size) (hs:yi w sp (X_ (some ⟨g,off,none⟩) 8 c')) (hb:jh w g off (eV y)) (e_:t≠sp) (hT:b_ w) (NP:∀w',One sp w w'->b_ w'):
 H_ 109 #[Q_ t] w fun e w'=>∃d ah v,e=.returned (.tuple #[.agg #[I_ 1,d],R_ true])/\Fr (fun k=>k=t\/k=sp) w w'/\gO w' t bz c ms nd x sp lk a b ah out/\yi w' sp v/\Gb v/\
  ∃dA dC,d=X_ dA 6 dC/\Own im 174 w.heap.size w' ah [⟨1,dA,6,dC⟩]/\Own (ak .u8) 5 w.heap.size w' d (nums (fo y)):=by
 obtain⟨i0,hi,dw,cE,dy⟩:=wF qt;have n0:ae w (W_ w #[I_ 0,Z_] 174):=(ae.refl w).alloc _;have r0:af (W_ w #[I_ 0,Z_] 174) w 174 #[I_ 0,Z_]:=af.new _ _ _;have h0:=n0.ai h;have oW:=n0.ai hs;have bJ:=hs.lt;have uf:=h.lt;have YF:=h0.oH;have Ph:=h0.kH;have bZ:=zk sp g off c' y hy hc se _ (hT.new n0) oW (hb.new n0) (by rw [gz];omega) (fun w' o=>NP w' ((ae.to n0).trans o));have eH:=ac5 bZ;clear bZ NP
 go_enter func109,ntmps109
 go_wp2_with fail
 refine eH.out.mono ?_;rintro e w1 ⟨d,v,rfl,o1,hd,hv,s1⟩;obtain⟨dA,dC,rfl,hdC⟩:=hd.form;have uL:(nums (fo y)).length=6:=by rw [aW,mX]
 rw [uL]at hd⊢;have r1:=o1.ai r0 O_;have t1:=o1.ai h0 e_;have m1:=(ae.to n0).trans o1;have WC:=o1.size;rw [gz]at WC;have T':w.heap.size+1<=(w.alloc (G_ #[I_ 0,Z_] 174)).heap.size:=by rw [gz];omega
 have r2:=r1.alloc (G_ #[I_ 1,X_ dA 6 dC] 174);have t2:=t1.alloc (G_ #[I_ 1,X_ dA 6 dC] 174);have s2:=s1.alloc (G_ #[I_ 1,X_ dA 6 dC] 174);have d2:=hd.alloc (G_ #[I_ 1,X_ dA 6 dC] 174);have m2:=m1.alloc (G_ #[I_ 1,X_ dA 6 dC] 174);have g2:=af.new w1 174 #[I_ 1,X_ dA 6 dC];have Pz:(w1.alloc (G_ #[I_ 1,X_ dA 6 dC] 174)).heap.size=w1.heap.size+1:=by rw [gz]
 have HLN:=ac5 uL;clear hd YF Ph r0 h0 oW n0 o1 r1 t1 s1 m1 uL;go_wp2_with fail
 generalize(w1.alloc (G_ #[I_ 1,X_ dA 6 dC] 174))=wA at*;generalize w1.heap.size=F at*;have SZ2:=ac5 Pz;have nY:=m2.size;have hFl:=WC;clear WC Pz w1;obtain⟨g0,g1⟩:=g2.dQ;have Ph:=t2.kH;have htA:=t2.lt;have hrA:Rd im (wA.alloc (G_ #[I_ 1,X_ dA 6 dC] 174)).drew (X_ (M_ wA) 1 1) [⟨1,dA,6,dC⟩]:=jn (E:=im) (x:=⟨1,dA,6,dC⟩) (t:=174) (af.new wA.drew 174 #[I_ 1,X_ dA 6 dC])
 have NQ:w.heap.size<=(wA.alloc (G_ #[I_ 1,X_ dA 6 dC] 174)).drew.heap.size:=by
  show w.heap.size<=(wA.alloc (G_ #[I_ 1,X_ dA 6 dC] 174)).heap.size
  rw [gz];omega
 have nA:ae wA (wA.alloc (G_ #[I_ 1,X_ dA 6 dC] 174)).drew:=((ae.refl wA).alloc _).drew;have HRA:=ac5 hrA;have HBA:=ac5 NQ;clear hrA NQ
 go_region_law ((first
  |(refine eI (E:=im) (l:=[]) (v:=.slice none 0 0) (by rfl) (.tmp 27) (.tmp 29) 121 (by rfl) underlying121 hi dw cE dy rfl (by rfl) (by rfl) [⟨1,dA,6,dC⟩] (Own.nil _ _ w.heap.size _) HRA.out (by unfold maxLen;simp) S_ HBA.out ?_
    intro A7 C7 w7 nH vQ GO;have n7:ae wA w7:=Fr.trans nA (vQ.mono fun _ _ h=>by cases h);have t7:=n7.ai t2;have g7:=n7.ai g2;obtain⟨q0,q1⟩:=g7.dQ;have z17:=t7.kH;have y17:=t7.frozen 17;have S0:∀u,L_ (w7.setCell (C_ t 17) u) F 0 (I_ 1)/\L_ (w7.setCell (C_ t 17) u) F 1 (X_ dA 6 dC):=fun u=>⟨Fr.cell ((One.refl t w7).set 17 u) q0 (by show¬F=t;omega),Fr.cell ((One.refl t w7).set 17 u) q1 (by show¬F=t;omega)⟩)
  |fail))
 all_goals
  have e8:([]++[(⟨1,dA,6,dC⟩:uK)]).length=1:=rfl;rw [e8]at nH
  have t8:gO (w7.setCell (C_ t 17) (X_ A7 1 C7)) t bz c ms nd x sp lk a b (X_ A7 1 C7) out:=by
   have q:=t7.al 17 (X_ A7 1 C7);simpa using q
  have YG:=nH.fr ((One.refl t w7).set 17 (X_ A7 1 C7)) fun z hz e=>nH.ar t7 D_ (by have e:=e;rw [<-e];exact hz);have r7:=n7.ai r2;have s7:=n7.ai s2;have d7:=d2.new n7;have r8:=r7.bL (p:=⟨t,17,none⟩) (by show w.heap.size≠t;omega) (X_ A7 1 C7);have s8:=s7.bL (p:=⟨t,17,none⟩) (by show sp≠t;exact iX e_) (X_ A7 1 C7);have d8:=d7.fr ((One.refl t w7).set 17 (X_ A7 1 C7)) fun z hz e=>d7.ar t7 D_ (by have e:=e;rw [<-e];exact hz);have m8:Fr (fun k=>k=t\/k=sp) w (w7.setCell (C_ t 17) (X_ A7 1 C7)):=Fr.trans (Fr.trans (m2.mono fun k _ h=>.inr h) (n7.mono fun _ _ h=>h.elim)) ((Fr.refl _ w7).setCell (p:=⟨t,17,none⟩) (fun _=>.inl rfl) _);have l8:=r8.lt;have nodup:(Value.slice A7 1 C7).ownBlock≠some w.heap.size/\(Value.slice dA 6 dC).ownBlock≠some w.heap.size:=⟨fun e=>?x1,fun e=>?x2⟩
  case x2=>exact d8.ar r8 D_ e
  case x1=>
   have e':(Value.slice A7 ([]++[(⟨1,dA,6,dC⟩:uK)]).length C7).ownBlock=some w.heap.size:=e;have ic:=r2.lt;rw [e']at GO;rcases GO with h1|h1
   ·cases h1
   ·have h1:=lZ h1;have h2:(wA.alloc (G_ #[I_ 1,X_ dA 6 dC] 174)).drew.heap.size=wA.heap.size+1:=gz _ _;omega
  have HN:=ac5 nodup;have M8:=ac5 m8;have D8:=ac5 d8;have O8:=ac5 YG;clear Ph g0 g1 htA t2 s2 d2 m2 g2 r2 n7 t7 g7 q0 q1 z17 y17 S0 nH vQ GO r7 s7 d7 nodup m8 d8 nA;generalize(w7.setCell (C_ t 17) (X_ A7 1 C7))=w8 at*;have ho9:=O8.out.rd;obtain⟨A9,C9,he9,hC9,AR⟩:=ho9
  cases he9
  obtain⟨bb,G8,rfl,Cy⟩:=AR S_;have kH:=t8.kH;have k0:L_ w8 bb G8 (I_ 1):=Cy 0 _ rfl 0 _ rfl;have k1:L_ w8 bb (G8+1) (X_ dA 6 dC):=Cy 0 _ rfl 1 _ rfl;have hC1:1<=C7:=hC9;obtain⟨p0,p1⟩:=r8.dQ;have f8:=r8.dq;clear AR Cy hC9;go_wp2;have hR:=r8.bP (I_ 1) (X_ dA 6 dC);have hF:=One.bP w8 w.heap.size (I_ 1) (X_ dA 6 dC);have AN:t≠w.heap.size:=O_
  have hps:sp≠w.heap.size:=O_
  refine r_ (aC rfl _ _ rfl rfl (fJ hR)) rfl ⟨_,X_ (some ⟨bb,G8,none⟩) 1 C7,v,rfl,Fr.trans' M8.out hF (fun i hi e=>by have e:=e;omega),(t8.bL (p:=⟨w.heap.size,0,none⟩) AN _).bL (p:=⟨w.heap.size,1,none⟩) AN _,(s8.bL (p:=⟨w.heap.size,0,none⟩) hps _).bL (p:=⟨w.heap.size,1,none⟩) hps _,hv,dA,dC,rfl,?_,?_⟩
  ·exact O8.out.fr hF fun z hz e=>HN.out.1 (by have e:=e;rw [<-e];exact hz)
  ·exact(D8.out.mono (ag T')).fr hF fun z hz e=>HN.out.2 (by have e:=e;rw [<-e];exact hz)
end
theorem mr:(prog.info? 3).map (fun i=>(i.zero,i.size,i.bytes))=some (some (.int .i64 0),1,8):=K_
theorem po(v:Value) (l:List Int) (w:World) (hv:Rd (ak .i64) w v l) (hl:l.length<=100000):
 H_ 32 #[v] w fun e w'=>∃o,e=.returned o/\Own (ak .i64) 3 w.heap.size w' o l/\ae w w':=by
 obtain⟨i0,hi,dw,cE,dy⟩:=wF mr;have h0:=Own.OE .i64 3 w.heap.size w (aA _);have HV:=ac5 hv;obtain⟨A,c,rfl,hc,az⟩:=hv;have hq:=fun n=>JZ (P:=prog) w 31 _ A n c 0 0 underlying31
 cases A with
 |none=>
  have hn:l=[]:=by
   cases l with
   |nil=>rfl
   |cons x l=>obtain⟨b,off,h,_⟩:=az S_;cases h
  clear az;subst hn;simp only [OO]at hq
  go_enter func32,ntmps32
  go_wp2;go_ret;exact⟨_,rfl,Own.nil _ _ _ _,ae.refl _⟩
 |some ad=>
  obtain⟨b,off,sp⟩:=ad;clear az;simp only [Ir]at hq
  go_enter func32,ntmps32
  go_wp2_with (at_builtin;refine aZ (E:=ak .i64) rfl _ _ _ rfl underlying31 hi dw cE dy rfl h0 rfl (HV.out.alloc _) rfl (by unfold maxLen;simp;omega) P_ S_ ?_;intro v1 w1 fE iE pM)
  have br:=ae.append ((ae.refl w).alloc _) h0 iE;rw [Qv]at fE;go_ret;exact⟨_,rfl,fE,br⟩
theorem Hy(G:Nat) (u:Value) (l:List Int) (k:Int) (w:World) (hG:af w G 31 #[u]) (hu:Rd (ak .i64) w u l) (hl:l.length<=100000):
 H_ 156 #[I_ k,Q_ G] w fun e w'=>e=.returned (R_ (l.contains k))/\w'=w:=by
 have c0:=hG.k0
 have bZ:H_ 157 #[u,I_ k] w fun e w'=>e=.returned (R_ (l.contains k))/\w'=w:=by
  obtain⟨A,c,rfl,hc,aF⟩:=hu.ints;by_cases bV:l=[]
  ·subst bV;exact Tryz.slices_Contains_int_empty A c k w
  ·obtain⟨b,off,rfl,ua⟩:=aF bV
   have h:=Tryz.slices_Contains_int b off l.length c l k w (aA _) O_ (fun j hj=>by
    have:=ua j l[j] (DW hj);rw [this];simp [List.getD,hj])
   rw [iD]at h;exact h
 obtain⟨A,c,rfl,_⟩:=hu
 go_enter func156,ntmps156
 go_wp2_with (go_at_call 157;refine bZ.mono ?_;rintro e w1 ⟨rfl,rfl⟩)
 go_ret;exact⟨S_,rfl⟩
section
variable{w:World}{t:Nat}{bz:Bool}{c:fK}{ms:ByteArray}{nd:Value}{x sp lk:Nat}{a b:Int}{ah out:Value}
theorem sr{bm:Nat}{O:List Int}{N:Int}(h:gO w t bz c ms nd x sp lk a b ah out) (bx:Value) (dI:Int) (pv:Option Addr) (dn:Bool) (hs:mV w x bx dI pv dn) (hT:gu w lk bm O N) (l:List Int) (gT:Rd (ak .i64) w nd l) (dx:∀k∈l,jf k) (hl:l.length<=100000):
 H_ 111 #[Q_ t] w fun e w'=>∃v,e=.returned v/\Own (ak .i64) 3 w.heap.size w' v (l.filter fun k=> !(bQ O dI).contains k)/\ae w w':=by
 have hhl:(bQ O dI).length<=100000:=gy (m_ O dI) (gy hT.len D_);have c14:=h.t_;have jM:=h.tZ;have uf:=h.lt;have CB:=ac5 hT;have uj:=ac5 dx;clear hT dx
 go_enter func111,ntmps111
 go_wp2_with fail
 go_region_held3 (fun W=>L_ W t 14 (Q_ lk)/\L_ W t 12 (Q_ x)) (first|go_keep|(refine⟨?_,?_⟩<;>assumption)|exact S0 _) ((first
  |(go_at_call 114
    refine(jm x bx dI pv dn _ (Fr.ai (S:=fun _=>False) N_ hs (fun h=>h))).mono ?_;rintro e w1 ⟨rfl,rfl⟩)
  |(go_at_call 154
    refine(nb (CB.out.new N_) dI).mono ?_;rintro e w2 ⟨v2,rfl,dR,m2⟩;have n2:ae w w2:=Fr.trans N_ m2;have h2:=n2.ai h;have q14:=h2.t_;have q12:=h2.tZ;have O2:=ac5 (dR.mono (b':=w.heap.size) (by first|(rw [IN];exact aA _)|(show w.heap.size<=(w.alloc _).heap.size;rw [gz];omega)|exact aA _));obtain⟨vA,vC,rfl,_⟩:=dR.form;have S0:∀u,L_ (w2.setCell (C_ w 0) u) t 14 (Q_ lk)/\L_ (w2.setCell (C_ w 0) u) t 12 (Q_ x):=fun u=>⟨Fr.cell ((One.refl w.heap.size w2).set 0 u) q14 (by show¬t=w.heap.size;omega),Fr.cell ((One.refl w.heap.size w2).set 0 u) q12 (by show¬t=w.heap.size;omega)⟩
    try(have y:=m2.ai (af.new w.drew 31 #[Z_]);simp only [IN]at y;have y0:=y.k0;have z0:=y.frozen 0))
  |fail))
 all_goals
  first
  |(have bG:af (w2.setCell ⟨w.heap.size,0,none⟩ (.slice vA (bQ O dI).length vC)) w.heap.size 31 #[.slice vA (bQ O dI).length vC]:=y.al 0 _
    have n3:ae w (w2.setCell (C_ w 0) (X_ vA (bQ O dI).length vC)):=ae.one n2 ((One.refl w.heap.size w2).set 0 _) (aA _);have O3:=ac5 (O2.out.fr ((One.refl w.heap.size w2).set 0 (X_ vA (bQ O dI).length vC)) fun z hz e=>O2.out.ar y D_ (by have e:=e;rw [<-e];exact hz));generalize(w2.setCell (C_ w 0) (X_ vA (bQ O dI).length vC))=w3 at bG n3 O3⊢;generalize w.heap.size=G at bG⊢)
  |(have bG:af (w2.alloc (.cells #[.slice vA (bQ O dI).length vC] 31)) w2.heap.size 31 #[.slice vA (bQ O dI).length vC]:=af.new _ _ _
    have n3:ae w (W_ w2 #[X_ vA (bQ O dI).length vC] 31):=n2.alloc _;have O3:=ac5 (O2.out.alloc (G_ #[X_ vA (bQ O dI).length vC] 31));generalize(w2.alloc (G_ #[X_ vA (bQ O dI).length vC] 31))=w3 at bG n3 O3⊢;generalize w2.heap.size=G at bG⊢)
  have h3:=n3.ai h;have c11:=h3.va;have HND:=ac5 (gT.new n3);have hp:jw w3 156 #[Q_ G] (fun k=>(bQ O dI).contains k):=fun W k _ hW=>(Hy G _ (bQ O dI) k W (hW.ai bG) (O3.out.rd.new hW) hhl).mono fun e w' hw=>⟨hw.1,hw.2▸ae.refl _⟩;have HP:=ac5 hp;clear hp h3 c14 jM S0 q14 q12;go_wp2_with fail
  refine(po nd l w3 HND.out hl).mono ?_;rintro e w4 ⟨v4,rfl,lq,m4⟩;have bZ:=tw 156 #[Q_ G] (fun k=>(bQ O dI).contains k) (Aw func156 K_ rfl) v4 l w3 w4 HP.out m4 lq uj.out hl;have hmf:=atQ;go_wp2_with fail
  refine bZ.mono ?_;rintro e w5 ⟨v5,rfl,oV,Ec⟩;go_wp2;go_ret;exact⟨v5,rfl,oV.mono n3.size,Fr.trans' (n3.trans m4) Ec fun i hi hh=>by have:=(lq.block hh).1;have:=n3.size;omega⟩
end
section
variable{w:World}{t:Nat}{bz:Bool}{c:fK}{ms:ByteArray}{nd:Value}{x sp lk:Nat}{a b:Int}{ah out:Value}
theorem L5(base:Nat) (u:Value) (lo m:List Int) (h:gO w t bz c ms nd x sp lk a b ah out) (ho:Own (ak .u8) 5 base w out lo) (hl:lo.length+m.length<=1000000000000) (dH:base<=w.heap.size)
 (hA:∀W,ae w W->H_ 205 #[u] W fun e W'=>∃v,e=.returned v/\Own (ak .u8) 5 W.heap.size W' v m/\ae W W'):
 H_ 151 #[Q_ t,u] w fun e w'=>e=.returned (.tuple #[])/\∃eh,gO w' t bz c ms nd x sp lk a b ah eh/\Own (ak .u8) 5 base w' eh (lo++m)/\Fr (fun k=>k=t\/out.ownBlock=some k) w w':=by
 obtain⟨i0,hi,dw,cE,dy⟩:=wF jl;obtain⟨oA,oC,rfl,hoC⟩:=ho.form;have c18:=h.rF;have uf:=h.lt;have HO:=ac5 ho;have HA:=ac5 hA;clear ho hA
 go_enter func151,ntmps151
 go_wp2_with fail
 go_region_law ((first
  |(go_simp
    go_at_call 205
    refine(HA.out _ N_).mono ?_;rintro e w2 ⟨v2,rfl,dR,m2⟩;have n2:ae w w2:=Fr.trans N_ m2;have h2:=n2.ai h;have q18:=h2.rF;have O2:=ac5 (HO.out.new n2);have R2:=ac5 dR.rd;have N2:=ac5 (gy dH n2.size);obtain⟨vA,vC,rfl,_⟩:=dR.form;go_wp2_with fail)
  |(refine eI (E:=ak .u8) (l:=lo) (v:=.slice oA lo.length oC) (by rfl) (.tmp 8) (.tmp 10) 23 (by rfl) underlying23 hi dw cE dy rfl (by rfl) (by rfl) m O2.out R2.out (by unfold maxLen;omega) O_ N2.out ?_
    intro A7 C7 w7 nH vQ GO;rw [dr]at nH;have t7:=Fr.ai vQ h2 (fun e=>O2.out.ar h2 D_ e);have z18:=t7.rF;have y18:=t7.frozen 18;have O7:=ac5 nH;have F7:=ac5 vQ;clear nH vQ GO)
  |fail))
 all_goals
  go_end0
  have t8:gO (w7.setCell (C_ t 18) (X_ A7 (lo.length+m.length) C7)) t bz c ms nd x sp lk a b ah (X_ A7 (lo.length+m.length) C7):=by
   have q:=t7.al 18 (X_ A7 (lo.length+m.length) C7);simpa using q
  refine⟨rfl,_,t8,O7.out.fr ((One.refl t w7).set 18 _) fun z hz e=>O7.out.ar t7 D_ (by have e:=e;rw [<-e];exact hz),?_⟩;exact Fr.trans (Fr.trans (n2.mono fun _ _ h=>h.elim) (F7.out.mono fun k _ hk=>.inr hk)) ((Fr.refl _ w7).setCell (p:=⟨t,18,none⟩) (fun _=>.inl rfl) _)
end
def wP:List PanicEntry:=[{v:=.iface 374 (.agg #[]),recovered:=false}]
def my:Ending:=.panicked wP
def TL(B:Nat) (w:World) (v:Value) (ts:List Tk):Prop:=Rd yt w v ts/\∀g,v.ownBlock=some g->B<=g/\∃cs,af w g 435 cs
def TS(L:Nat) (ts:List Tk):Prop:=∃i e,ts=i++[e]/\e.k=0/\e.s.size<=L/\∀x∈i,x.k≠0/\x.s.size<=L
def Qk(w:World) (g:Nat):Prop:=∃cs t fz,w.heap[g]? =some (.cells cs t fz)/\fz≠((0,0):Nat×Nat)
theorem Qk.ne {w:World}{g g':Nat}{t:TypeId}{cs:Array Value}(h:Qk w g) (hb:af w g' t cs):g≠g':=by
 rintro rfl;obtain⟨kL,t',fz,h1,h2⟩:=h;unfold af at hb;rw [hb]at h1;injection h1 with h1;injection h1 with _ _ h1;exact h2 h1.symm
theorem Qk.lt {w:World}{g:Nat}(h:Qk w g):g<w.heap.size:=by
 obtain⟨cs,t,fz,h1,_⟩:=h;rcases GA g w.heap.size with h2|h2
 ·exact h2
 ·rw [ab2 h2]at h1;cases h1
theorem Qk.fr {S:Nat->Prop}{w w':World}{g:Nat}(h:Qk w g) (hf:Fr S w w') (hg:¬S g):Qk w' g:=by
 have hl:=h.lt;obtain⟨cs,t,fz,h1,h2⟩:=h;exact⟨cs,t,fz,by rw [hf.block g hl hg];exact h1,h2⟩
structure PC(B L:Nat) (w:World) (c:fK):Prop where
 t:c.t.size<=5000
 m:c.m.size<=L
 fl:0<=c.fl/\c.fl<=31
 k:0<=c.k/\c.k<=8
 set:∃s,Own lP 191 B w (X_ c.sA c.sn c.sc) s/\(∀r∈s,r.wf)/\s.length<=100000
 yz:∃l,Rd (ak .u8) w (X_ c.dA c.dn c.dc) (nums l)/\l.length<=L/\∀g,Value.ownBlock (X_ c.dA c.dn c.dc)=some g->B<=g/\Qk w g
structure PB(B L:Nat) (w:World) (p:Nat) (ts:List Tk) (c:fK):Prop where
 b:∃v,af w p 381 #[v,T_ c.t,I_ c.k,T_ c.m,X_ c.sA c.sn c.sc,I_ c.it,I_ c.mo,R_ c.si,B_ c.fl,X_ c.dA c.dn c.dc]/\TL B w v ts
 c:PC B L w c
 bp:B<=p
section
variable{B L:Nat}{w w':World}{p:Nat}{ts:List Tk}{c:fK}{S:Nat->Prop}{v:Value}
theorem TL.fr (h:TL B w v ts) (hf:Fr S w w') (hS:∀g cs,S g->¬af w g 435 cs):TL B w' v ts:=
 ⟨h.1.fr hf fun b hb hs=>by obtain⟨_,cs,hc⟩:=h.2 b hb;exact hS b cs hs hc,fun g hg=>by obtain⟨hb,cs,hc⟩:=h.2 g hg;exact⟨hb,cs,hf.ai hc (fun hs=>hS g cs hs hc)⟩⟩
theorem TL.new (h:TL B w v ts) (hf:ae w w'):TL B w' v ts:=h.fr hf fun _ _ h=>h.elim
theorem PC.fr (h:PC B L w c) (hf:Fr S w w') (hS:∀g,S g->∃t cs,af w g t cs/\t≠191):PC B L w' c where
 t:=h.t
 m:=h.m
 fl:=h.fl
 k:=h.k
 set:=by
  obtain⟨s,h1,h2⟩:=h.set
  exact⟨s,h1.fr hf fun g hg hs=>by
   obtain⟨t,cs,hb,ht⟩:=hS g hs;exact h1.ar hb (iX ht) hg,h2⟩
 yz:=by
  obtain⟨l,h1,h2,h3⟩:=h.yz
  have db:∀g,Value.ownBlock (X_ c.dA c.dn c.dc)=some g->¬S g:=fun g hg hs=>by
   obtain⟨t,cs,hb,_⟩:=hS g hs;exact(h3 g hg).2.ne hb rfl
  exact⟨l,h1.fr hf db,h2,fun g hg=>⟨(h3 g hg).1,(h3 g hg).2.fr hf (db g hg)⟩⟩
theorem PC.new (h:PC B L w c) (hf:ae w w'):PC B L w' c:=h.fr hf fun _ h=>h.elim
theorem PC.one (h:PC B L w c) {cs:Array Value}(hb:af w p 381 cs) (hf:One p w w'):PC B L w' c:=h.fr hf fun g e=>⟨_,cs,(show g=p from e)▸hb,D_⟩
theorem TL.one (h:TL B w v ts) {cs:Array Value}(hb:af w p 381 cs) (hf:One p w w'):TL B w' v ts:=h.fr hf fun g kL e hc=>by
 have e:=e;subst e;exact hc.aU hb D_ rfl
theorem PB.new (h:PB B L w p ts c) (hf:ae w w'):PB B L w' p ts c:=by
 obtain⟨v,h1,h2⟩:=h.b;exact⟨⟨v,hf.ai h1,h2.new hf⟩,h.c.new hf,h.bp⟩
theorem PB.lt (h:PB B L w p ts c):p<w.heap.size:=by
 obtain⟨v,h1,_⟩:=h.b;exact h1.lt
theorem TS.ne (h:TS L ts):ts≠[]:=by
 obtain⟨i,e,rfl,_⟩:=h;simp
theorem TS.tail {t:Tk}(h:TS L (t::ts)) (ht:t.k≠0):TS L ts:=by
 obtain⟨i,e,h1,h2,h3,h4⟩:=h
 cases i with
 |nil=>
  simp at h1;exact absurd (h1.1▸h2) ht
 |cons x i=>
  simp at h1;exact⟨i,e,h1.2,h2,h3,fun y hy=>h4 y (su _ hy)⟩
theorem TS.head {t:Tk}(h:TS L (t::ts)):t.s.size<=L:=by
 obtain⟨i,e,h1,h2,h3,h4⟩:=h
 cases i with
 |nil=>
  simp at h1;exact h1.1▸h3
 |cons x i=>
  simp at h1;exact h1.1▸(h4 x (vB ..)).2
theorem TL.cells {t:Tk}(h:TL B w v (t::ts)):∃g off c,v=X_ (some ⟨g,off,none⟩) (ts.length+1) c/\ts.length+1<=c/\L_ w g off (I_ t.k)/\L_ w g (off+1) (T_ t.s)/\L_ w g (off+2) (I_ t.at_)/\g<w.heap.size:=by
 obtain⟨A,c,rfl,hc,h3⟩:=h.1;obtain⟨g,off,rfl,ua⟩:=h3 S_;have h0:=ua 0 t rfl 0 _ rfl;have h1:=ua 0 t rfl 1 _ rfl;have h2:=ua 0 t rfl 2 _ rfl;rw [aT,aH]at h0;exact⟨g,off,c,rfl,hc,h0,h1,h2,jH _ _ h0⟩
theorem TL.tail {t:Tk}{g off c:Nat}(h:TL B w (X_ (some ⟨g,off,none⟩) (ts.length+1) c) (t::ts)) (hc:ts.length+1<=c) (GW:c≠1):TL B w (X_ (some ⟨g,off+3,none⟩) ts.length (c-1)) ts:=by
 refine⟨⟨_,_,rfl,O_,fun _=>⟨g,off+3,rfl,fun i x hx j u hu=>?_⟩⟩,fun g' hg=>h.2 g' hg⟩;obtain⟨A,c',he,rH,h3⟩:=h.1;obtain⟨b,ug,e,ua⟩:=h3 S_;injection he with e1 _ _;rw [e]at e1;injection e1 with e1;injection e1 with e1 e2;subst e1 e2;have:=ua (i+1) x (by simpa using hx) j u hu;have e3:yt.sz=3:=rfl;rw [e3]at this⊢;rw [show off+3+(i*3+j)=off+((i+1)*3+j) by omega];exact this
theorem TL.last {t:Tk}{g off:Nat}(h:TL B w (X_ (some ⟨g,off,none⟩) (ts.length+1) 1) (t::ts)) (hc:ts.length+1<=1):ts=[]/\TL B w (X_ (some ⟨g,off,none⟩) 0 0) []:=by
 have:ts=[]:=wk O_;subst this;exact⟨rfl,⟨⟨_,_,rfl,aA _,fun h=>absurd rfl h⟩,h.2⟩⟩
theorem ew(w:World):H_ 274 #[R_ false] w fun e w'=>e=my/\w'=w:=by
 go_enter func274,ntmps274
 go_wp2;exact⟨rfl,rfl,rfl⟩
def adM(B L:Nat) (w w':World) (p:Nat) (ts:List Tk) (c:fK) (ks:List Int) (e:Ending):Prop:=
 One p w w'/\(e=my\/∃t nh,ts=t::nh/\t.k∈ks/\e=.returned (T_ t.s)/\PB B L w' p nh c)
theorem sG(h:PB B L w p ts c) (bV:ts≠[]) (kb kc:Nat) (ks:List Int) (hk:Rd (ak .i64) w (X_ (M_ kb) ks.length kc) ks) (dL:ks.length<=10) (lV:ks≠[]):
 H_ 277 #[Q_ p,X_ (M_ kb) ks.length kc] w fun e w'=>adM B L w w' p ts c ks e:=by
 obtain⟨v,hb,uf⟩:=h.b
 cases ts with
 |nil=>exact absurd rfl bV
 |cons t ts=>
 obtain⟨g,off,cc,rfl,J3,t0,t1,t2,hg⟩:=uf.cells;have ai4:=hb.lt;have c0:=hb.k0;have f0:=hb.frozen 0
 have yv:H_ 157 #[X_ (M_ kb) ks.length kc,I_ t.k] (W_ w #[I_ t.k,T_ t.s,I_ t.at_] 435) fun e w'=>e=.returned (R_ (ks.contains t.k))/\w'=w.alloc (G_ #[I_ t.k,T_ t.s,I_ t.at_] 435):=by
  obtain⟨A,c',he,rH,aF⟩:=(hk.alloc (G_ #[I_ t.k,T_ t.s,I_ t.at_] 435)).ints;obtain⟨b,ug,rfl,ua⟩:=aF lV;injection he with e1 e2 e3;injection e1 with e1;injection e1 with e1 e2;subst e1 e2 e3
  have h:=Tryz.slices_Contains_int kb 0 ks.length kc ks t.k (W_ w #[I_ t.k,T_ t.s,I_ t.at_] 435) (aA _) O_ (fun j hj=>by
   have:=ua j ks[j] (DW hj);rw [this];simp [List.getD,hj])
  rw [iD]at h;exact h
 have HH:=ac5 (And.intro h.c (And.intro hb (And.intro uf (And.intro J3 h.bp))));have aqs:(1:Int)<=(ts.length:Int)+1:=O_
 have hcc2:1<=cc:=O_
 clear uf h hb hk
 cases hcb:ks.contains t.k
 ·rw [hcb]at yv
  go_enter func277,ntmps277
  go_wp2_with (go_at_call 157;refine yv.mono ?_;rintro e w1 ⟨rfl,rfl⟩)
  refine(ew _).mono ?_;rintro e w2 ⟨rfl,rfl⟩;exact⟨rfl,(ae.to (ae.refl w)).alloc _,.inl rfl⟩
 ·rw [hcb]at yv;have nK:t.k∈ks:=by simpa using hcb
  clear hcb
  go_enter func277,ntmps277
  go_wp2_with (go_at_call 157;refine yv.mono ?_;rintro e w1 ⟨rfl,rfl⟩)
  refine(dt _).mono ?_;rintro e w2 ⟨rfl,rfl⟩;by_cases GW:cc=1
  ·subst GW;go_wp2;go_ret;obtain⟨k1,k2,k3,k4,k5⟩:=HH.out;obtain⟨rfl,k6⟩:=k3.last k4;have o:=((One.refl p w).set 0 (X_ (some ⟨g,off,none⟩) 0 0)).alloc (G_ #[I_ t.k,T_ t.s,I_ t.at_] 435);exact⟨o,.inr ⟨t,[],rfl,nK,rfl,⟨_,(k2.al 0 _).alloc _,k6.one k2 o⟩,k1.one k2 o,k5⟩⟩
  ·go_wp2;go_ret;obtain⟨k1,k2,k3,k4,k5⟩:=HH.out;have o:=((One.refl p w).set 0 (X_ (some ⟨g,off+3,none⟩) ts.length (cc-1))).alloc (G_ #[I_ t.k,T_ t.s,I_ t.at_] 435);exact⟨o,.inr ⟨t,ts,rfl,nK,rfl,⟨_,(k2.al 0 _).alloc _,(k3.tail k4 GW).one k2 o⟩,k1.one k2 o,k5⟩⟩
theorem kr(h:PB B L w p ts c) {t:Tk}{nh:List Tk}(e_:ts=t::nh):H_ 370 #[Q_ p] w fun e w'=>e=.returned (I_ t.k)/\w'=w:=by
 subst e_;obtain⟨v,hb,uf⟩:=h.b;obtain⟨g,off,cc,rfl,J3,t0,t1,t2,hg⟩:=uf.cells;have c0:=hb.k0;have aqs:(1:Int)<=(nh.length:Int)+1:=O_
 clear uf h hb
 go_enter func370,ntmps370
 go_wp2;go_ret;exact⟨rfl,rfl⟩
def mz(B L:Nat) (w w':World) (p:Nat) (n:Nat) (e:Ending):Prop:=
 One p w w'/\(e=my\/e=.returned (.tuple #[])/\∃ts c,PB B L w' p ts c/\TS L ts/\ts.length<=n)
theorem zU(w:World) (k:Int):Rd (ak .i64) (W_ w #[I_ k] 3) (X_ (M_ w) [k].length 1) [k]:=jn (E:=ak .i64) (x:=k) (t:=3) (af.new w 3 #[I_ k])
theorem take_one(h:PB B L w p ts c) (e_:TS L ts) (k:Int) (hk:k≠0):H_ 277 #[Q_ p,X_ (M_ w) 1 1] (W_ w #[I_ k] 3) fun e w'=>
 One p w w'/\(e=my\/∃t nh,ts=t::nh/\t.s.size<=L/\e=.returned (T_ t.s)/\PB B L w' p nh c/\TS L nh):=by
 have n0:ae w (W_ w #[I_ k] 3):=(ae.refl w).alloc _;refine(sG (h.new n0) e_.ne w.heap.size 1 [k] (zU w k) S_ S_).mono ?_;rintro e w' ⟨o,rfl|⟨t,nh,rfl,Bh,rfl,h1⟩⟩
 ·exact⟨(ae.to n0).trans o,.inl rfl⟩
 ·exact⟨(ae.to n0).trans o,.inr ⟨t,nh,rfl,e_.head,rfl,h1,e_.tail (by simp at Bh;omega)⟩⟩
theorem gZ(h:PB B L w p ts c) (e_:TS L ts):H_ 369 #[Q_ p] w fun e w'=>One p w w'/\(e=my\/e=.returned (.tuple #[])/\∃t nh,ts=t::nh/\PB B L w' p nh c/\TS L nh):=by
 have HT:=ac5 (take_one h e_ 1 D_);clear h
 go_enter func369,ntmps369
 go_wp2_with fail
 refine HT.out.mono ?_;rintro e w1 ⟨o,rfl|⟨t,nh,rfl,_,rfl,h1,h2⟩⟩
 ·exact⟨rfl,o,.inl rfl⟩
 ·go_wp2;go_end0;exact⟨o,.inr ⟨rfl,t,nh,rfl,h1,h2⟩⟩
end
structure uk(B:Nat) (w:World) (q:Nat) (a b i:Int) (pv:Option Addr) (c:fK) (l:List Int):Prop where
 b:∃v,af w q 325 #[I_ a,I_ b,I_ i,.pointer pv,T_ c.t,I_ c.k,T_ c.m,X_ c.sA c.sn c.sc,I_ c.it,I_ c.mo,R_ c.si,B_ c.fl,X_ c.dA c.dn c.dc,v]/\Own (ak .i64) 3 B w v l
 ok:∀x∈l,jf x
 bq:B<=q
 bw:B<=w.heap.size
def jj(B:Nat) (w w':World) (q:Nat) (a b i:Int) (pv:Option Addr) (c:fK) (l:List Int) (n:Nat) (e:Ending):Prop:=
 e=.returned (.tuple #[])/\∃l',uk B w' q a b i pv c l'/\l'.length<=l.length+n/\Fr (fun k=>B<=k) w w'
section
variable{B q:Nat}{w w':World}{a b i:Int}{pv:Option Addr}{c:fK}{l:List Int}
theorem uk.new (h:uk B w q a b i pv c l) (hn:ae w w'):uk B w' q a b i pv c l:=by
 obtain⟨v,h1,h2⟩:=h.b;exact⟨⟨v,hn.ai h1,h2.new hn⟩,h.ok,h.bq,gy h.bw hn.size⟩
theorem uk.cells (h:uk B w q a b i pv c l):L_ w q 0 (I_ a)/\L_ w q 1 (I_ b)/\L_ w q 2 (I_ i)/\L_ w q 3 (.pointer pv):=by
 obtain⟨v,h1,_⟩:=h.b;exact⟨h1.cell 0,h1.cell 1,h1.cell 2,h1.cell 3⟩
theorem uk.Io (h:uk B w q a b i pv c l):L_ w q 6 (T_ c.m)/\L_ w q 7 (X_ c.sA c.sn c.sc)/\L_ w q 8 (I_ c.it):=by
 obtain⟨v,h1,_⟩:=h.b;exact⟨h1.cell 6,h1.cell 7,h1.cell 8⟩
theorem uk.lt (h:uk B w q a b i pv c l):q<w.heap.size:=by
 obtain⟨v,h1,_⟩:=h.b;exact h1.lt
theorem jj.refl (h:uk B w q a b i pv c l) (n:Nat):jj B w w q a b i pv c l n (.returned (.tuple #[])):=⟨rfl,l,h,O_,Fr.refl _ _⟩
abbrev Ql(a b i:Int) (pv:Option Addr) (c:fK) (v:Value):Array Value:= #[I_ a,I_ b,I_ i,.pointer pv,T_ c.t,I_ c.k,T_ c.m,X_ c.sA c.sn c.sc,I_ c.it,I_ c.mo,R_ c.si,B_ c.fl,X_ c.dA c.dn c.dc,v]
def Qm(B:Nat) (w:World) (q:Nat) (a b i:Int) (pv:Option Addr) (c:fK) (v:Value) (l:List Int):Prop:=af w q 325 (Ql a b i pv c v)/\Own (ak .i64) 3 B w v l/\(∀x∈l,jf x)/\B<=w.heap.size
def Xc(w w':World) (q:Nat) (v v':Value):Prop:=Fr (fun k=>k=q\/v.ownBlock=some k) w w'/\∀g,v'.ownBlock=some g->v.ownBlock=some g\/w.heap.size<=g
theorem Xc.trans {w w1 w2:World}{q:Nat}{v v1 v2:Value}(h:Xc w w1 q v v1) (h2:Xc w1 w2 q v1 v2):Xc w w2 q v v2:=
 ⟨Fr.trans' h.1 h2.1 fun i hi hs=>hs.elim .inl fun e=>(h.2 i e).elim .inr fun Gr=>absurd hi O_,fun g hg=>(h2.2 g hg).elim (h.2 g) fun Gr=>.inr (gy h.1.size Gr)⟩
theorem Kg{v0:Value}(h:Qm B w q a b i pv c v0 l) (hl:l.length<=1000000) (u v:Nat) (hv:v<=5000):
 H_ 326 #[Q_ q,I_ u,I_ v] w fun e w'=>e=.returned (.tuple #[])/\∃v' l',Qm B w' q a b i pv c v' l'/\l'.length<=l.length+(v-u)/\Xc w w' q v0 v':=by
 obtain⟨i0,hi,dw,cE,dy⟩:=wF mr;have H:=ac5 h;clear h
 go_enter func326,ntmps326
 go_wp2
 go_loopw [6] (fun kv wr=>∃(k:Nat) (vv:Value) (l':List Int),kv=I_ k/\u<=k/\k<=max u v/\l'.length<=l.length+(k-u)/\Hid (Qm B wr q a b i pv c vv l'/\Xc w wr q v0 vv)) (fun kv _=>v-(intOf kv).toNat)
 case atStart=>exact⟨u,v0,l,rfl,aA _,Nat.le_max_left _ _,O_,ac5 ⟨H.out,Fr.refl _ _,fun _ hg=>.inl hg⟩⟩
 case round=>
  obtain⟨k,vv,l',rfl,huk,hkm,eN,HR⟩:=hrel;by_cases hkv:k<v
  ·obtain⟨hb,ho,_,CD⟩:=HR.out.1;obtain⟨oA,oC,rfl,_⟩:=ho.form;have hqw:=hb.lt;have YF:∀o,L_ (wr.alloc o) q 13 (X_ oA l'.length oC):=fun o=>(hb.alloc o).cell 13;have aqt:=hb.oH;have d1:(k:Int)<v:=O_
   have HX:=ac5 (And.intro hb ho);clear hb ho;go_wp2_with (at_builtin;refine bC (E:=ak .i64) rfl _ _ _ rfl underlying31 hi dw cE dy rfl (HX.out.2.alloc _) rfl (k:Int) wr.heap.size (af.new _ _ _) 1 rfl (by unfold maxLen;omega) O_ (by rw [gz];omega) ?_;intro v4 w4 lq fL Db;have uc:=fL.ai (HX.out.1.alloc (G_ #[I_ (k:Int)] 3)) (fun e=>(HX.out.2.alloc (G_ #[I_ (k:Int)] 3)).ar (HX.out.1.alloc (G_ #[I_ (k:Int)] 3)) D_ e);have z13:=uc.oH;have zf:=uc.frozen 13;have zl:=uc.lt;have HL4:=ac5 Db;clear Db;obtain⟨A4,N4,C4,Ip⟩:=bY lq;subst Ip)
   have ud:=uc.al 13 (X_ A4 N4 C4);have oV:=lq.fr ((One.refl q w4).set 13 (X_ A4 N4 C4)) fun g hg e=>lq.ar uc D_ (by have e:=e;rw [<-e];exact hg)
   have jx:Xc wr (w4.setCell (C_ q 13) (X_ A4 N4 C4)) q (X_ oA l'.length oC) (X_ A4 N4 C4):=
    ⟨((((Fr.refl (fun k=>k=q\/(Value.slice oA l'.length oC).ownBlock=some k) wr).alloc (G_ #[I_ (k:Int)] 3)).trans (fL.mono fun g _ hg=>.inr hg))).trans (((One.refl q w4).set 13 (X_ A4 N4 C4)).mono fun g _ (e:g=q)=>.inl e),fun g hg=>by
      rcases HL4.out with e|e
      ·rw [e]at hg;exact .inl hg
      ·rw [e]at hg;cases hg;rw [gz];exact .inr O_⟩
   have dx:jf (k:Int):=ve O_;go_roundw
   case rel=>exact⟨k+1,_,_,by go_num,O_,O_,by rw [dr];simp;omega,ac5 ⟨⟨ud,oV,fun x hx=>(List.mem_append.1 hx).elim (HR.out.1.2.2.1 x) (fun hx=>by rw [List.mem_singleton.1 hx];exact dx),gy CD jx.1.size⟩,HR.out.2.trans jx⟩⟩
   case measure=>simp [intOf];omega
  ·have d1:¬(k:Int)<v:=O_
   go_wp2;go_end0;exact⟨rfl,vv,l',HR.out.1,O_,HR.out.2⟩
theorem Mi(h:uk B w q a b i pv c l) (hl:l.length<=1000000) (u v:Nat) (hv:v<=5000):
 H_ 326 #[Q_ q,I_ u,I_ v] w fun e w'=>jj B w w' q a b i pv c l (v-u) e:=by
 obtain⟨vv,h1,h2⟩:=h.b;refine(Kg (v0:=vv) ⟨h1,h2,h.ok,h.bw⟩ hl u v hv).mono ?_;rintro e w' ⟨rfl,v',l',r,r2,r3⟩;exact⟨rfl,l',⟨⟨v',r.1,r.2.1⟩,r.2.2.1,h.bq,r.2.2.2⟩,r2,r3.1.mono fun g _ hg=>hg.elim (fun e=>e▸h.bq) fun e=>(h2.block e).1⟩
theorem nj(h:uk B w q a b i pv c l) (hl:l.length<=1000000) (u v:Int) (hu:0<=u) (UT:0<=v) (hv:v<=5000) (n:Nat) (hn:v-u<=n):
 H_ 326 #[Q_ q,I_ u,I_ v] w fun e w'=>jj B w w' q a b i pv c l n e:=by
 obtain⟨u,rfl⟩:=tu hu;obtain⟨v,rfl⟩:=tu UT;refine(Mi h hl u v O_).mono ?_;rintro e w' ⟨rfl,l',h1,h2,h3⟩;exact⟨rfl,l',h1,O_,h3⟩
theorem wQ(h:uk B w q a b i pv c l) (hl:l.length<=1000000) (h0:0<=a) (h1:a<=1000) (gn:0<=i) (iF:i<=1000):
 H_ 324 #[Q_ q] w fun e w'=>jj B w w' q a b i pv c l 1 e:=by
 have d1:IntKind.i64.wrap (1+a+i)=1+a+i:=aM _ O_;have d2:IntKind.i64.wrap (1+a+i+1)=1+a+i+1:=aM _ O_;obtain⟨k0,k1,k2,_⟩:=h.cells;have H:=ac5 h;clear h
 go_enter func324,ntmps324
 go_wp2_with fail
 go_region_held3 (fun W=>L_ W q 0 (I_ a)/\L_ W q 1 (I_ b)/\L_ W q 2 (I_ i)) (first|go_keep|(refine⟨?_,?_,?_⟩<;>assumption)) ((first
  |(go_at_call 47
    refine(kX a b h0 h1 _).mono ?_;rintro e w2 ⟨rfl,m2⟩;have da:ae w w2:=Fr.trans A_ m2;have p0:=Fr.cell da k0 id;have p1:=Fr.cell da k1 id;have p2:=Fr.cell da k2 id)
  |(go_at_call 326
    refine(nj (H.out.new A_) hl _ _ O_ O_ O_ 1 O_).mono ?_;rintro e w4 ⟨rfl,l',r1,r2,r3⟩;have hf:Fr (fun k=>B<=k) w w4:=Fr.trans (Fr.mono A_ (by intro _ _ h;exact h.elim)) r3;have R:=ac5 (And.intro r1 hf);obtain⟨p0,p1,p2,_⟩:=r1.cells)
  |fail))
 all_goals
  go_wp2;go_end0;exact⟨rfl,l',R.out.1,O_,R.out.2⟩
theorem jj.mono {n m:Nat}{e:Ending}(h:jj B w w' q a b i pv c l n e) (hm:n<=m):jj B w w' q a b i pv c l m e:=by
 obtain⟨h1,l',h2,h3,h4⟩:=h;exact⟨h1,l',h2,O_,h4⟩
theorem Iq(h:uk B w q a b i pv c l) (hl:l.length<=1000000) (h0:0<=a) (h1:a<=1000) (h2:0<=b) (h3:b<=1000):
 H_ 327 #[Q_ q] w fun e w'=>jj B w w' q a b i pv c l 1000 e:=by
 obtain⟨k0,k1,k2,_⟩:=h.cells;have H:=ac5 h;clear h
 go_enter func327,ntmps327
 go_wp2_with fail
 go_region_held3 (fun W=>L_ W q 0 (I_ a)/\L_ W q 1 (I_ b)) (first|go_keep|(refine⟨?_,?_⟩<;>assumption)) ((first
  |(go_at_call 47
    refine(kX a b h0 h1 _).mono ?_;rintro e w2 ⟨rfl,m2⟩;have da:ae w w2:=Fr.trans A_ m2;have p0:=Fr.cell da k0 id;have p1:=Fr.cell da k1 id)
  |(go_at_call 27
    refine(gm a b h0 h1 h2 h3 _).mono ?_;rintro e w2 ⟨rfl,m2⟩;have da:ae w w2:=Fr.trans A_ m2;have p0:=Fr.cell da k0 id;have p1:=Fr.cell da k1 id)
  |(go_at_call 326
    refine(nj (H.out.new A_) hl _ _ O_ O_ O_ 1000 O_).mono ?_;rintro e w4 ⟨rfl,l',r1,r2,r3⟩;have hf:Fr (fun k=>B<=k) w w4:=Fr.trans (Fr.mono A_ (by intro _ _ h;exact h.elim)) r3;have R:=ac5 (And.intro r1 hf);obtain⟨p0,p1,p2,_⟩:=r1.cells)
  |fail))
 all_goals
  go_wp2;go_end0;exact⟨rfl,l',R.out.1,O_,R.out.2⟩
theorem lQ(h:uk B w q a b i pv c l) (hl:l.length<=1000000) (h0:0<=a) (h1:a<=1000) (h2:0<=b) (h3:b<=1000):
 H_ 325 #[Q_ q] w fun e w'=>jj B w w' q a b i pv c l 2001 e:=by
 obtain⟨k0,k1,k2,_⟩:=h.cells;have H:=ac5 h;clear h
 go_enter func325,ntmps325
 go_wp2_with (first
  |(go_at_call 27
    refine(gm a b h0 h1 h2 h3 _).mono ?_;rintro e w2 ⟨rfl,m2⟩)
  |(go_at_call 326
    refine(nj (H.out.new m2) hl _ _ O_ O_ O_ 2001 O_).mono ?_;rintro e w4 ⟨rfl,l',r1,r2,r3⟩;have R:=ac5 (And.intro r1 (Fr.trans (m2.mono fun _ _ h=>h.elim) r3));clear r1 r3))
 go_end0;exact⟨rfl,l',R.out.1,O_,R.out.2⟩
theorem zV(h:uk B w q a b i pv c l) (hl:l.length<=1000000) (h0:0<=a) (h1:a<=1000) (gn:0<=i) (iF:i<=1000):
 H_ 279 #[Q_ q] w fun e w'=>jj B w w' q a b i pv c l 1 e:=by
 obtain⟨k0,k1,k2,k3⟩:=h.cells;have H:=ac5 h;clear h
 go_enter func279,ntmps279
 rcases pv with _|ad
 ·go_wp2;go_end0;exact jj.refl H.out 1
 ·go_wp2_with (go_at_call 324;refine(wQ H.out hl h0 h1 gn iF).mono ?_;rintro e w2 ⟨rfl,R⟩)
  go_end0;exact⟨rfl,R⟩
theorem Bw(h:uk B w q a b i pv c l) (hl:l.length<=1000000) (h0:0<=a) (h1:a<=1000) (h2:0<=b) (h3:b<=1000):
 H_ 280 #[Q_ q] w fun e w'=>jj B w w' q a b i pv c l 2001 e:=by
 obtain⟨k0,k1,k2,k3⟩:=h.cells;have H:=ac5 h;clear h
 go_enter func280,ntmps280
 rcases pv with _|ad
 ·go_wp2;go_end0;exact jj.refl H.out _
 ·go_wp2_with (go_at_call 325;refine(lQ H.out hl h0 h1 h2 h3).mono ?_;rintro e w2 ⟨rfl,R⟩)
  go_end0;exact⟨rfl,R⟩
theorem yB(h:uk B w q a b i pv c l) (hl:l.length<=900000) (h0:0<=a) (h1:a<=1000) (gn:0<=i) (iF:i<=1000):
 H_ 281 #[Q_ q] w fun e w'=>jj B w w' q a b i pv c l 2 e:=by
 have H:=ac5 h;clear h
 go_enter func281,ntmps281
 go_wp2_with (first
  |(go_at_call 326
    refine(nj H.out O_ 0 1 O_ O_ O_ 1 O_).mono ?_;rintro e w2 ⟨rfl,l1,r1,r2,r3⟩;have R:=ac5 (And.intro r1 r3);clear r1 r3)
  |(go_at_call 324
    refine(wQ R.out.1 O_ h0 h1 gn iF).mono ?_;rintro e w3 ⟨rfl,l2,s1,s2,s3⟩;have R2:=ac5 (And.intro s1 (R.out.2.trans s3));clear s1 s3))
 go_end0;exact⟨rfl,l2,R2.out.1,O_,R2.out.2⟩
theorem yC(h:uk B w q a b i pv c l) (hm:c.m.size<=1000000) (hl:l.length<=900000) (h0:0<=a) (h1:a<=1000) (h2:0<=b) (h3:b<=1000) (gn:0<=i) (iF:i<=1000):
 H_ 282 #[Q_ q] w fun e w'=>jj B w w' q a b i pv c l 2001 e:=by
 obtain⟨k0,k1,k2⟩:=h.Io;have H:=ac5 h;clear h;have HM:=ac5 (vR c.m ⟨#[73,78,66,79,88]⟩ hm D_)
 go_enter func282,ntmps282
 go_wp2_with fail
 refine(HM.out _).mono ?_;rintro e w2 ⟨rfl,n2⟩;have H2:=ac5 (And.intro (H.out.new n2) (Fr.mono (T:=fun k=>B<=k) n2 fun _ _ h=>h.elim));clear n2;rcases hs:JP c.m ⟨#[73,78,66,79,88]⟩with _|_
 ·go_wp2_with (go_at_call 279;refine(zV H2.out.1 O_ h0 h1 gn iF).mono ?_;rintro e w3 ⟨rfl,l2,s1,s2,s3⟩;have R2:=ac5 (And.intro s1 (H2.out.2.trans s3));clear s1 s3)
  go_end0;exact⟨rfl,l2,R2.out.1,O_,R2.out.2⟩
 ·go_wp2_with (go_at_call 325;refine(lQ H2.out.1 O_ h0 h1 h2 h3).mono ?_;rintro e w3 ⟨rfl,l2,s1,s2,s3⟩;have R2:=ac5 (And.intro s1 (H2.out.2.trans s3));clear s1 s3)
  refine r_ (G6 rfl _ _ _) rfl ?_;exact⟨rfl,l2,R2.out.1,O_,R2.out.2⟩
end
def afh:Value->Nat
 | .slice _ n _=>n
 |_=>0
def RT(B L:Nat) (w w':World) (p:Nat) (ts:List Tk) (e:Ending):Prop:=One p w w'/\(e=my\/e=.returned (.tuple #[])/\∃c,PB B L w' p ts c)
section
variable{B L:Nat}{w w':World}{p:Nat}{ts:List Tk}{c:fK}
theorem PB.len (h:PB B L w p ts c):afh ((w.cell? (C_ p 0)).getD undef)=ts.length:=by
 obtain⟨v,hb,uf⟩:=h.b;obtain⟨A,cc,rfl,_⟩:=uf.1;have:L_ w p 0 (X_ A ts.length cc):=hb.cell 0;rw [this];rfl
theorem TS.cons (h:TS L ts):∃t nh,ts=t::nh:=by
 cases ts with
 |nil=>exact absurd rfl h.ne
 |cons t nh=>exact⟨t,nh,rfl⟩
theorem sZ(fn:Nat) (hE:∀args w,(callFunc fn args).run prog w=.ok (.enter fn args) w) (hw:∀W ts c s,One p w W->PB B L W p ts c->s.size<=L->H_ fn #[Q_ p,T_ s] W fun e W'=>RT B L W W' p ts e)
 (h:PB B L w p ts c) (e_:TS L ts) (ek:Int):H_ 376 #[Q_ p,I_ ek,.func (.func fn) #[Q_ p] #[]] w fun e w'=>mz B L w w' p ts.length e:=by
 have HW:=ac5 hw;have H:=ac5 (And.intro h e_);clear h e_ hw
 go_enter func376,ntmps376
 go_wp2_with fail
 go_loopw [] (fun wr=>∃nh c',Hid (PB B L wr p nh c'/\TS L nh/\One p w wr)/\nh.length<=ts.length) (fun wr=>afh ((wr.cell? (C_ p 0)).getD undef))
 case atStart=>exact⟨ts,c,ac5 ⟨H.out.1,H.out.2,One.refl p w⟩,aA _⟩
 case round=>
  obtain⟨t1,c1,HR,hl⟩:=hrel;have Xf:=HR.out.1.len;have HT:=ac5 (take_one HR.out.1 HR.out.2.1 4 D_);go_wp2_with fail
  refine HT.out.mono ?_;rintro e wA ⟨oA,rfl|⟨t,t2,rfl,hs,rfl,hA,Pn⟩⟩
  ·exact⟨rfl,HR.out.2.2.trans oA,.inl rfl⟩
  ·have HWd:=ac5 (HW.out wA t2 c1 t.s (HR.out.2.2.trans oA) hA hs);clear hA;go_wp2_with fail
   refine HWd.out.mono ?_;rintro e wB ⟨oB,rfl|⟨rfl,c2,hB⟩⟩
   ·exact⟨rfl,(HR.out.2.2.trans oA).trans oB,.inl rfl⟩
   ·obtain⟨t3,ts3,rfl⟩:=Pn.cons;have HS:=ac5 (gZ hB Pn);have HB:=ac5 hB;have HO:=ac5 ((HR.out.2.2.trans oA).trans oB);have hp:=kr hB rfl;clear hB oA oB;generalize hk:t3.k=k at hp;clear hk;by_cases he:k=ek
    ·have d1:=beq_iff_eq.2 he;clear he;go_wp2_with fail
     refine hp.mono ?_;rintro e wC ⟨rfl,rfl⟩;go_wp2;refine r_ (G6 rfl _ _ _) rfl ?_;exact⟨HO.out,.inr ⟨rfl,_,c2,HB.out,Pn,by simp at hl⊢;omega⟩⟩
    ·have d1:=beq_eq_false_iff_ne.2 he;clear he;go_wp2_with fail
     refine hp.mono ?_;rintro e wC ⟨rfl,rfl⟩;go_wp2_with fail
     refine HS.out.mono ?_;rintro e wD ⟨oD,rfl|⟨rfl,t4,t5,h4,hD,Lz⟩⟩
     ·exact⟨rfl,HO.out.trans oD,.inl rfl⟩
     ·have lU:=hD.len;injection h4 with _ h4;subst h4;go_wp2;go_roundw
      case rel=>exact⟨_,c2,ac5 ⟨hD,Lz,HO.out.trans oD⟩,by simp at hl⊢;omega⟩
      case measure=>
       rw [Xf,lU];simp;omega
theorem PB.set (h:PB B L w p ts c) (c':fK) (j:Nat) (u:Value) (hj:0<j) (hc:(#[Value.string c'.t,I_ c'.k,T_ c'.m,X_ c'.sA c'.sn c'.sc,I_ c'.it,I_ c'.mo,R_ c'.si,B_ c'.fl,X_ c'.dA c'.dn c'.dc]:Array Value)=(#[Value.string c.t,I_ c.k,T_ c.m,X_ c.sA c.sn c.sc,I_ c.it,I_ c.mo,R_ c.si,B_ c.fl,X_ c.dA c.dn c.dc]:Array Value).setIfInBounds (j-1) u)
 (hp:PC B L (w.setCell (C_ p j) u) c'):PB B L (w.setCell (C_ p j) u) p ts c':=by
 obtain⟨v,hb,uf⟩:=h.b;refine⟨⟨v,?_,uf.one hb ((One.refl p w).set j u)⟩,hp,h.bp⟩;have ng:=hb.al j u;obtain⟨i,rfl⟩:∃i,j=i+1:=⟨j-1,O_⟩
 have e:(#[v,T_ c'.t,I_ c'.k,T_ c'.m,X_ c'.sA c'.sn c'.sc,I_ c'.it,I_ c'.mo,R_ c'.si,B_ c'.fl,X_ c'.dA c'.dn c'.dc]:Array Value)=(#[v,T_ c.t,I_ c.k,T_ c.m,X_ c.sA c.sn c.sc,I_ c.it,I_ c.mo,R_ c.si,B_ c.fl,X_ c.dA c.dn c.dc]:Array Value).setIfInBounds (i+1) u:=by
  apply Array.ext'
  have h2:=congrArg Array.toList hc;simp only [aaH,adW]at h2⊢;rw [eo,<-h2]
 rw [e];exact ng
theorem PC.at (h:PB B L w p ts c) (j:Nat) (u:Value):PC B L (w.setCell (C_ p j) u) c:=by
 obtain⟨v,hb,_⟩:=h.b;exact h.c.one hb ((One.refl p w).set j u)
theorem PB.cells (h:PB B L w p ts c):L_ w p 1 (T_ c.t)/\L_ w p 2 (I_ c.k)/\L_ w p 3 (T_ c.m)/\L_ w p 4 (X_ c.sA c.sn c.sc)/\L_ w p 5 (I_ c.it)/\L_ w p 6 (I_ c.mo)/\L_ w p 7 (R_ c.si)/\L_ w p 8 (B_ c.fl)/\L_ w p 9 (X_ c.dA c.dn c.dc):=by
 obtain⟨v,hb,_⟩:=h.b;exact⟨hb.cell 1,hb.cell 2,hb.cell 3,hb.cell 4,hb.cell 5,hb.cell 6,hb.cell 7,hb.cell 8,hb.cell 9⟩
theorem PB.cell (h:PB B L w p ts c):L_ w p 5 (I_ c.it)/\L_ w p 8 (B_ c.fl)/\∀i,w.frozen? (C_ p i)=false:=by
 obtain⟨v,hb,_⟩:=h.b;exact⟨hb.cell 5,hb.cell 8,hb.dq⟩
theorem Ag(hL:L<=100000) (hT:b_ w) (h:PB B L w p ts c) (s:ByteArray) (hs:s.size<=L):H_ 378 #[Q_ p,T_ s] w fun e w'=>RT B L w w' p ts e:=by
 have eE:(⟨#[40]⟩++s++⟨#[41]⟩:ByteArray).size=s.size+2:=by rw [cI,cI];show 1+s.size+1=_;omega
 have HF:=ac5 (Hb (⟨#[40]⟩++s++⟨#[41]⟩) O_ w hT);have a1:¬9223372036854775807<1+s.size:=O_
 have a2:¬9223372036854775807<1+s.size+1:=O_
 have H:=ac5 h;have hp:=h.lt;clear h hT eE
 go_enter func378,ntmps378
 go_wp2_with fail
 refine HF.out.mono ?_;rintro e w1 ⟨f,q,rfl,hf,n1⟩;have H1:=ac5 (H.out.new n1);obtain⟨_,c8,ff⟩:=H1.out.cell;have HFL:=ac5 (Pt H1.out.c.fl hf)
 cases q
 ·go_wp2_with fail
  refine(ew _).mono ?_;rintro e w2 ⟨rfl,rfl⟩;exact⟨rfl,ae.to n1,.inl rfl⟩
 ·rcases h0:s.toList.isEmpty with _|_
  rotate_left
  ·go_wp2_with fail
   refine(ew _).mono ?_;rintro e w2 ⟨rfl,rfl⟩;exact⟨rfl,ae.to n1,.inl rfl⟩
  ·go_wp2_with fail
   refine(dt _).mono ?_;rintro e w2 ⟨rfl,rfl⟩;go_wp2;go_end0;exact⟨(ae.to n1).trans ((One.refl p _).set 8 _),.inr ⟨rfl,{c with fl:=bits .or .u8 c.fl f},H1.out.set _ 8 _ D_ rfl {PC.at H1.out 8 _ with fl:=HFL.out}⟩⟩
theorem Ah(hL:L<=100000) (hT:b_ w) (h:PB B L w p ts c) (s:ByteArray) (hs:s.size<=L):H_ 375 #[Q_ p,T_ s] w fun e w'=>RT B L w w' p ts e:=by
 have HF:=ac5 (RS s O_ w hT);have H:=ac5 h;have hp:=h.lt;clear h hT
 go_enter func375,ntmps375
 go_wp2_with fail
 refine HF.out.mono ?_;rintro e w1 ⟨n,q,rfl,n1⟩;have H1:=ac5 (H.out.new n1);obtain⟨c5,_,ff⟩:=H1.out.cell
 cases q
 ·go_wp2_with fail
  refine(ew _).mono ?_;rintro e w2 ⟨rfl,rfl⟩;exact⟨rfl,ae.to n1,.inl rfl⟩
 ·go_wp2_with fail
  refine(dt _).mono ?_;rintro e w2 ⟨rfl,rfl⟩;go_wp2;go_end0;exact⟨(ae.to n1).trans ((One.refl p _).set 5 _),.inr ⟨rfl,{c with it:=bits .or .i64 c.it n},H1.out.set _ 5 _ D_ rfl (PC.at H1.out 5 _ |> fun h=>{h with})⟩⟩
def EA(p:Nat) (w:World):Prop:=∀W,One p w W->fG W
theorem EA.one (h:EA p w) (ho:One p w w'):EA p w':=fun W hW=>h W (ho.trans hW)
theorem EA.self (h:EA p w):fG w:=h w (One.refl p w)
theorem xG(hL:L<=100000) (hT:EA p w) (h:PB B L w p ts c) (e_:TS L ts):H_ 373 #[Q_ p] w fun e w'=>mz B L w w' p ts.length e:=by
 have hmf:=atQ;have HT:=ac5 (take_one h e_ 2 D_);have CB:=ac5 hT;clear h hT
 go_enter func373,ntmps373
 go_wp2_with fail
 refine HT.out.mono ?_;rintro e w1 ⟨o1,rfl|⟨t,t1,rfl,_,rfl,h1,kG⟩⟩
 ·exact⟨rfl,o1,.inl rfl⟩
 ·obtain⟨t2,t3,rfl⟩:=kG.cons;have hp:=kr h1 rfl;have HL:=ac5 (sZ 378 (Aw func378 K_ rfl) (fun W ts c s ho h hs=>Ag hL (CB.out.one o1 |>.one ho).self.t h s hs) h1 kG 3);generalize hk:t2.k=k at hp;clear hk;by_cases he:k=3
  ·have d1:(k !=3)=false:=by rw [he];rfl
   clear he HL;have Hg:=ac5 (take_one h1 kG 3 D_);clear h1;go_wp2_with fail
   refine hp.mono ?_;rintro e w2 ⟨rfl,rfl⟩;go_wp2_with fail
   refine Hg.out.mono ?_;rintro e w3 ⟨o3,rfl|⟨t4,t5,h5,_,rfl,h3,pJ⟩⟩
   ·exact⟨rfl,o1.trans o3,.inl rfl⟩
   ·go_wp2;go_end0;injection h5 with _ h5;subst h5;exact⟨o1.trans o3,.inr ⟨rfl,_,_,h3,pJ,by simp;omega⟩⟩
  ·have d1:=bne_iff_ne.2 he;clear he h1;go_wp2_with fail
   refine hp.mono ?_;rintro e w2 ⟨rfl,rfl⟩;go_wp2_with fail
   refine HL.out.mono ?_;rintro e w3 ⟨o3,rfl|⟨rfl,t4,c4,h3,pJ,o_⟩⟩
   ·exact⟨rfl,o1.trans o3,.inl rfl⟩
   ·have Hg:=ac5 (take_one h3 pJ 3 D_);clear h3;go_wp2_with fail
    refine Hg.out.mono ?_;rintro e w5 ⟨o5,rfl|⟨t6,t7,rfl,_,rfl,h5,aax⟩⟩
    ·exact⟨rfl,(o1.trans o3).trans o5,.inl rfl⟩
    ·go_wp2;go_end0;exact⟨(o1.trans o3).trans o5,.inr ⟨rfl,_,_,h5,aax,by simp at o_⊢;omega⟩⟩
end
def KU(x:Int):Bool:=vF x||x==93
theorem Cg(x:Int) (h0:0<=x) (w:World):H_ 371 #[B_ x] w fun e w'=>e=.returned (R_ (KU x))/\ae w w':=by
 have HA:Hid (H_ 372 #[B_ x] w fun e w'=>e=.returned (R_ (vF x))/\ae w w'):=ac5 (by
  have HI:=ac5 (vH x h0 w)
  go_enter func372,ntmps372
  go_wp2_with fail
  refine HI.out.mono ?_;rintro e w1 ⟨rfl,n1⟩;go_wp2;go_ret;exact⟨rfl,n1⟩)
 unfold KU;rcases ha:vF x with _|_
 all_goals
  rw [ha]at HA
  go_enter func371,ntmps371
  go_wp2_with fail
  refine HA.out.mono ?_;rintro e w1 ⟨rfl,n1⟩;go_wp2;go_ret;exact⟨S_,n1⟩
section
variable{B L:Nat}{w w':World}{p:Nat}{ts:List Tk}{c:fK}
theorem Nh(w:World):Rd (ak .i64) (W_ w #[I_ 4,I_ 5,I_ 6] 3) (X_ (M_ w) [(4:Int),5,6].length 3) [(4:Int),5,6]:=by
 refine⟨_,3,rfl,aA _,fun _=>⟨_,0,rfl,fun i x hx j u hu=>?_⟩⟩
 have hj:j=0:=by
  rcases j with _|j
  ·rfl
  ·simp [ak]at hu
 subst hj;have JH:u=I_ x:=by simp [ak]at hu;exact hu.symm
 subst JH;have e1:(ak .i64).sz=1:=rfl;rw [e1,aH,RZ,Au,GS]
 have:i=0\/i=1\/i=2:=by
  have:=(List.getElem?_eq_some_iff.1 hx).1;simp at this;omega
 rcases this with rfl|rfl|rfl<;>(simp at hx;subst hx;rfl)
theorem Je(h:PB B L w p ts c) (e_:TS L ts):H_ 277 #[Q_ p,X_ (M_ w) 3 3] (W_ w #[I_ 4,I_ 5,I_ 6] 3) fun e w'=>
 One p w w'/\(e=my\/∃t nh,ts=t::nh/\t.s.size<=L/\e=.returned (T_ t.s)/\PB B L w' p nh c/\TS L nh):=by
 have n0:ae w (W_ w #[I_ 4,I_ 5,I_ 6] 3):=(ae.refl w).alloc _;refine(sG (h.new n0) e_.ne w.heap.size 3 [4,5,6] (Nh w) S_ S_).mono ?_;rintro e w' ⟨o,rfl|⟨t,nh,rfl,Bh,rfl,h1⟩⟩
 ·exact⟨(ae.to n0).trans o,.inl rfl⟩
 ·exact⟨(ae.to n0).trans o,.inr ⟨t,nh,rfl,e_.head,rfl,h1,e_.tail (by simp at Bh;omega)⟩⟩
theorem ru(hL:L<=100000) (h:PB B L w p ts c) (e_:TS L ts):H_ 320 #[Q_ p] w fun e w'=>mz B L w w' p ts.length e:=by
 have HS:=ac5 (gZ h e_);have UP:=h.lt;clear h
 go_enter func320,ntmps320
 go_wp2_with fail
 refine HS.out.mono ?_;rintro e w1 ⟨o1,rfl|⟨rfl,t,t1,rfl,h1,kG⟩⟩
 ·exact⟨rfl,o1,.inl rfl⟩
 ·obtain⟨t2,t3,rfl⟩:=kG.cons;have hp:=kr h1 rfl;have HT:=ac5 (Je h1 kG);generalize hk:t2.k=k at hp;clear hk h1;go_wp2_with fail
  refine hp.mono ?_;rintro e w2 ⟨rfl,rfl⟩;go_wp2_with fail
  refine HT.out.mono ?_;rintro e w3 ⟨o3,rfl|⟨t4,t5,h5,qC,rfl,h3,pJ⟩⟩
  ·exact⟨rfl,o1.trans o3,.inl rfl⟩
  ·injection h5 with _ h5;subst h5;have Tv:=o1.trans o3;have HA:=ac5 (AG 371 KU (Aw func371 K_ rfl) t4.s O_ w3 fun W x h0 _ _=>Cg x h0 W);generalize xW:t4.s=sv at*;clear xW;have H3:=ac5 (And.intro h3 pJ)
   have fin:∀W,ae w3 W->mz B L w (W.setCell (C_ p 3) (T_ sv)) p (t::t2::t3).length (.returned (.tuple #[])):=fun W hW=>
    ⟨(Tv.trans (ae.to hW)).trans ((One.refl p W).set 3 _),.inr ⟨rfl,_,{c with m:=sv},(H3.out.1.new hW).set _ 3 _ D_ rfl {PC.at (H3.out.1.new hW) 3 _ with m:=qC},H3.out.2,by simp;omega⟩⟩
   have Gi:=ac5 fin;obtain⟨_,_,ff⟩:=h3.cell;obtain⟨_,_,q3,_⟩:=h3.cells;have mh:=h3.lt;clear h3 pJ fin;by_cases he:k=4
   ·have d1:(k !=4)=false:=by rw [he];rfl
    clear he;go_wp2_with fail
    refine HA.out.mono ?_;rintro e w4 ⟨rfl,n4⟩;obtain⟨_,_,ff4⟩:=(H3.out.1.new n4).cell;obtain⟨_,_,q3,_⟩:=(H3.out.1.new n4).cells;have YJ:=(H3.out.1.new n4).lt
    cases OM sv KU
    ·go_wp2_with fail
     refine(ew _).mono ?_;rintro e w5 ⟨rfl,rfl⟩;exact⟨rfl,Tv.trans (ae.to n4),.inl rfl⟩
    ·go_wp2_with fail
     refine(dt _).mono ?_;rintro e w5 ⟨rfl,rfl⟩;go_wp2;go_end0;exact Gi.out _ n4
   ·have d1:=bne_iff_ne.2 he;clear he;go_wp2_with fail
    refine(dt _).mono ?_;rintro e w5 ⟨rfl,rfl⟩;go_wp2;go_end0;exact Gi.out _ (ae.refl _)
theorem Fw(hL:L<=90000) (hT:EA p w) (h:PB B L w p ts c) (e_:TS L ts):H_ 374 #[Q_ p] w fun e w'=>mz B L w w' p ts.length e:=by
 have HS:=ac5 (gZ h e_);have CB:=ac5 hT;have hB:=h.bp;have UP:=h.lt;clear h hT
 go_enter func374,ntmps374
 go_wp2_with fail
 refine HS.out.mono ?_;rintro e w1 ⟨o1,rfl|⟨rfl,t,t1,rfl,h1,kG⟩⟩
 ·exact⟨rfl,o1,.inl rfl⟩
 ·have HT:=ac5 (take_one h1 kG 4 D_);clear h1;go_wp2_with fail
  refine HT.out.mono ?_;rintro e w3 ⟨o3,rfl|⟨t4,t5,rfl,qC,rfl,h3,pJ⟩⟩
  ·exact⟨rfl,o1.trans o3,.inl rfl⟩
  ·have Tv:=o1.trans o3;have HP:=ac5 (Jd t4.s O_ w3 (CB.out w3 Tv));have H3:=ac5 (And.intro h3 pJ);have WY:=h3.lt;have eE:=Tv.size;clear h3;go_wp2_with fail
   refine HP.out.mono ?_;rintro e w4 ⟨v,l,q,rfl,hv,gQ,gK,n4⟩;have h4:=H3.out.1.new n4;obtain⟨vA,vC,rfl,hvC⟩:=hv.form
   cases q
   ·go_wp2_with fail
    refine(ew _).mono ?_;rintro e w5 ⟨rfl,rfl⟩;exact⟨rfl,Tv.trans (ae.to n4),.inl rfl⟩
   ·obtain⟨_,_,ff4⟩:=h4.cell;obtain⟨_,_,_,q4,_⟩:=h4.cells;have YJ:=h4.lt
    have dR:Own lP 191 B (w4.setCell (C_ p 4) (X_ vA l.length vC)) (X_ vA l.length vC) l:=by
     obtain⟨v0,ti,_⟩:=h4.b;exact(hv.mono O_).fr ((One.refl p w4).set 4 _) fun g hg e=>hv.ar ti D_ (by have e:=e;rw [<-e];exact hg)
    have h5:PB B L (w4.setCell (C_ p 4) (X_ vA l.length vC)) p t5 {c with sA:=vA,sn:=l.length,sc:=vC}:=
     h4.set _ 4 _ D_ rfl {PC.at h4 4 _ with set:=⟨l,dR,gQ,O_⟩}
    have H5:=ac5 (And.intro h5 ((Tv.trans (ae.to n4)).trans ((One.refl p w4).set 4 (X_ vA l.length vC))));clear h4 h5 dR n4;clear hv;go_wp2_with fail
    refine(dt _).mono ?_;rintro e w5 ⟨rfl,rfl⟩;have jO:=ac5 (gZ H5.out.1 pJ);go_wp2_with fail
    refine jO.out.mono ?_;rintro e w6 ⟨o6,rfl|⟨rfl,t6,t7,h7,h6,aay⟩⟩
    ·exact⟨rfl,H5.out.2.trans o6,.inl rfl⟩
    ·go_wp2;go_end0;subst h7;exact⟨H5.out.2.trans o6,.inr ⟨rfl,_,_,h6,aay,by simp;omega⟩⟩
end
theorem Ni(w:World) (s:ByteArray):∃cap w',(convert 9 23 (T_ s)).run prog w=.ok (X_ (M_ w) s.size cap) w'/\Rd (ak .u8) w' (X_ (M_ w) s.size cap) (nums s.data.toList)/\ae w w'/\Qk w' w.heap.size:=by
 obtain⟨cap,w',h1,h2,h3⟩:=pf w s;refine⟨cap,w',h1,h2,h3,?_⟩;have h4:=GU (P:=prog) w 9 23 5 s underlying9 underlying23 underlying5;rw [h4]at h1;injection h1 with h1 h5;subst h5
 have h6:∀cs z,(w.drew.alloc (.cells cs 5 z)).heap[w.heap.size]? =some (.cells cs 5 z):=fun cs z=>by
  show(w.heap.push _)[w.heap.size]? =_
  simp
 exact⟨_,_,_,h6 _ _,S_⟩
section
variable{B L:Nat}{w w':World}{p:Nat}{ts:List Tk}{c:fK}
theorem Fx(hL:L<=90000) (hT:EA p w) (h:PB B L w p ts c) (e_:TS L ts):H_ 321 #[Q_ p] w fun e w'=>mz B L w w' p ts.length e:=by
 have HM:=ac5 (ru O_ h e_);have CB:=ac5 hT;have hB:=h.bp;clear h hT
 have tail:∀W Tw c1 n,PB B L W p Tw c1->TS L Tw->Tw.length<=n->One p w W->Hid (H_ 277 #[Q_ p,X_ (M_ W) 1 1] (W_ W #[I_ 6] 3) fun e w'=>One p w w'/\(e=my\/∃s nh,e=.returned (T_ s)/\s.size<=L/\PB B L w' p nh c1/\TS L nh/\nh.length<=n)):=fun W Tw c1 n h1 kG hn ho=>ac5 (by
  refine(take_one h1 kG 6 D_).mono ?_;rintro e w' ⟨o,rfl|⟨t,t',rfl,hs,rfl,h2,RU⟩⟩
  ·exact⟨ho.trans o,.inl rfl⟩
  ·exact⟨ho.trans o,.inr ⟨_,_,rfl,hs,h2,RU,by simp at hn;omega⟩⟩)
 have fin:∀W s Tw c1,PB B L W p Tw c1->TS L Tw->Tw.length<=ts.length->One p w W->s.size<=L->∃cap W2,(convert 9 23 (T_ s)).run prog W=.ok (X_ (M_ W) s.size cap) W2/\(∀i,W2.frozen? (C_ p i)=false)/\(∃u,L_ W2 p 9 u)/\p<W2.heap.size/\mz B L w (W2.setCell (C_ p 9) (X_ (M_ W) s.size cap)) p ts.length (.returned (.tuple #[])):=fun W s Tw c1 h1 kG hl ho hs=>by
  obtain⟨cap,W2,e1,e2,e3,e4⟩:=Ni W s;have h2:=h1.new e3;have hlen:(nums s.data.toList).length=s.size:=by rw [aW];exact(Ou s).symm
  obtain⟨v0,ti,_⟩:=h2.b;have one:=(One.refl p W2).set 9 (X_ (M_ W) s.size cap);have hpW:=h1.lt;have hBW:=h1.bp;refine⟨cap,W2,e1,h2.cell.2.2,⟨_,h2.cells.2.2.2.2.2.2.2.2⟩,h2.lt,(ho.trans (ae.to e3)).trans one,.inr ⟨rfl,Tw,{c1 with dA:=some ⟨W.heap.size,0,none⟩,dn:=s.size,dc:=cap},h2.set _ 9 _ D_ rfl {PC.at h2 9 _ with yz:=⟨s.data.toList,e2.fr one fun b hb e=>?_,by rw [<-aW];omega,fun g hg=>⟨?_,?_⟩⟩},kG,hl⟩⟩
  ·have e:=e;have hb:W.heap.size=b:=by simpa [Value.ownBlock]using hb
   omega
  ·have hg:W.heap.size=g:=by simpa [Value.ownBlock]using hg
   omega
  ·have hg:W.heap.size=g:=by simpa [Value.ownBlock]using hg
   subst hg;exact e4.fr one fun(e:W.heap.size=p)=>O_
 have afi:=ac5 tail;have Gi:=ac5 fin;clear tail fin
 go_enter func321,ntmps321
 go_wp2_with fail
 refine HM.out.mono ?_;rintro e w1 ⟨o1,rfl|⟨rfl,t1,c1,h1,kG,pM⟩⟩
 ·exact⟨rfl,o1,.inl rfl⟩
 ·have HS:=ac5 (gZ h1 kG);clear h1;go_wp2_with fail
  refine HS.out.mono ?_;rintro e w2 ⟨o2,rfl|⟨rfl,t2,t3,rfl,h2,RU⟩⟩
  ·exact⟨rfl,o1.trans o2,.inl rfl⟩
  ·obtain⟨t4,t5,rfl⟩:=RU.cons;have hp:=kr h2 rfl;have Gp:=o1.trans o2;generalize hk:t4.k=k at hp;clear hk;by_cases he:k=2
   ·have d1:(k==2)=true:=by rw [he];rfl
    clear he;have HF:=ac5 (xG O_ (CB.out.one Gp) h2 RU);clear h2;go_wp2_with fail
    refine hp.mono ?_;rintro e w3 ⟨rfl,rfl⟩;go_wp2_with fail
    refine HF.out.mono ?_;rintro e w4 ⟨o4,rfl|⟨rfl,t6,c6,h6,aay,Vi⟩⟩
    ·exact⟨rfl,Gp.trans o4,.inl rfl⟩
    ·have jO:=ac5 (gZ h6 aay);clear h6;go_wp2_with fail
     refine jO.out.mono ?_;rintro e w7 ⟨o7,rfl|⟨rfl,t8,t9,rfl,h7,aaz⟩⟩
     ·exact⟨rfl,(Gp.trans o4).trans o7,.inl rfl⟩
     ·have HT:=afi.out w7 t9 c6 ts.length h7 aaz (by simp at Vi pM;omega) ((Gp.trans o4).trans o7);clear h7;go_wp2_with fail
      refine HT.out.mono ?_;rintro e w8 ⟨o8,rfl|⟨sv,t10,rfl,xW,h8,RV,hl8⟩⟩
      ·exact⟨rfl,o8,.inl rfl⟩
      ·obtain⟨cap,W2,kY,ff,⟨u9,q9⟩,UP,i6⟩:=Gi.out w8 sv t10 c6 h8 RV hl8 o8 xW;have HFN:=ac5 i6;clear h8 i6;go_wp2;go_end0;exact HFN.out
   ·have d1:=beq_eq_false_iff_ne.2 he;clear he;have HT:=afi.out w2 _ c1 ts.length h2 RU (by simp at pM⊢;omega) Gp;clear h2;go_wp2_with fail
    refine hp.mono ?_;rintro e w3 ⟨rfl,rfl⟩;go_wp2_with fail
    refine HT.out.mono ?_;rintro e w8 ⟨o8,rfl|⟨sv,t10,rfl,xW,h8,RV,hl8⟩⟩
    ·exact⟨rfl,o8,.inl rfl⟩
    ·obtain⟨cap,W2,kY,ff,⟨u9,q9⟩,UP,i6⟩:=Gi.out w8 sv t10 c1 h8 RV hl8 o8 xW;have HFN:=ac5 i6;clear h8 i6;go_wp2;go_end0;exact HFN.out
theorem Jf(hL:L<=90000) (hT:EA p w) (h:PB B L w p ts c) (e_:TS L ts):H_ 322 #[Q_ p] w fun e w'=>mz B L w w' p ts.length e:=by
 have hmf:=atQ;have HM:=ac5 (Fw hL hT h e_);have CB:=ac5 hT;clear h hT
 go_enter func322,ntmps322
 go_wp2_with fail
 refine HM.out.mono ?_;rintro e w1 ⟨o1,rfl|⟨rfl,t1,c1,h1,kG,pM⟩⟩
 ·exact⟨rfl,o1,.inl rfl⟩
 ·obtain⟨t4,t5,rfl⟩:=kG.cons;have hp:=kr h1 rfl;generalize hk:t4.k=k at hp;clear hk;by_cases he:k=2
  ·have d1:(k !=2)=false:=by rw [he];rfl
   clear he;have HT:=ac5 (take_one h1 kG 2 D_);clear h1;go_wp2_with fail
   refine hp.mono ?_;rintro e w2 ⟨rfl,rfl⟩;go_wp2_with fail
   refine HT.out.mono ?_;rintro e w3 ⟨o3,rfl|⟨t6,t7,h7,_,rfl,h3,pJ⟩⟩
   ·exact⟨rfl,o1.trans o3,.inl rfl⟩
   ·injection h7 with _ h7;subst h7;have HL:=ac5 (sZ 375 (Aw func375 K_ rfl) (fun W ts c s ho h hs=>Ah O_ ((CB.out.one (o1.trans o3)).one ho).self.t h s hs) h3 pJ 3);clear h3;go_wp2_with fail
    refine HL.out.mono ?_;rintro e w4 ⟨o4,rfl|⟨rfl,t8,c8,h8,RV,hl8⟩⟩
    ·exact⟨rfl,(o1.trans o3).trans o4,.inl rfl⟩
    ·have Hg:=ac5 (take_one h8 RV 3 D_);clear h8;go_wp2_with fail
     refine Hg.out.mono ?_;rintro e w9 ⟨o9,rfl|⟨t10,t11,rfl,_,rfl,h9,akT⟩⟩
     ·exact⟨rfl,((o1.trans o3).trans o4).trans o9,.inl rfl⟩
     ·go_wp2;go_end0;exact⟨((o1.trans o3).trans o4).trans o9,.inr ⟨rfl,_,_,h9,akT,by simp at hl8 pM;omega⟩⟩
  ·have d1:=bne_iff_ne.2 he;clear he;have HT:=ac5 (take_one h1 kG 4 D_);clear h1;go_wp2_with fail
   refine hp.mono ?_;rintro e w2 ⟨rfl,rfl⟩;go_wp2_with fail
   refine HT.out.mono ?_;rintro e w3 ⟨o3,rfl|⟨t6,t7,h7,hs6,rfl,h3,pJ⟩⟩
   ·exact⟨rfl,o1.trans o3,.inl rfl⟩
   ·injection h7 with _ h7;subst h7;have HI:=ac5 (Ah O_ (CB.out.one (o1.trans o3)).self.t h3 t6.s hs6);clear h3;go_wp2_with fail
    refine HI.out.mono ?_;rintro e w4 ⟨o4,rfl|⟨rfl,c8,h8⟩⟩
    ·exact⟨rfl,(o1.trans o3).trans o4,.inl rfl⟩
    ·go_wp2;refine r_ (G6 rfl _ _ _) rfl ?_;exact⟨(o1.trans o3).trans o4,.inr ⟨rfl,_,_,h8,pJ,by simp at pM;omega⟩⟩
end
def Ch:List ByteArray:=[⟨#[70,76,65,71,83]⟩,⟨#[43,70,76,65,71,83]⟩,⟨#[45,70,76,65,71,83]⟩]
section
variable{B L:Nat}{w w':World}{p:Nat}{ts:List Tk}{c:fK}
theorem Jg(hL:L<=90000) (hT:EA p w) (h:PB B L w p ts c) (e_:TS L ts):H_ 323 #[Q_ p] w fun e w'=>mz B L w w' p ts.length e:=by
 have hmf:=atQ;have HM:=ac5 (Fw hL hT h e_);have CB:=ac5 hT;clear h hT
 go_enter func323,ntmps323
 go_wp2_with fail
 refine HM.out.mono ?_;rintro e w1 ⟨o1,rfl|⟨rfl,t1,c1,h1,kG,pM⟩⟩
 ·exact⟨rfl,o1,.inl rfl⟩
 ·have HT:=ac5 (take_one h1 kG 4 D_);clear h1;go_wp2_with fail
  refine HT.out.mono ?_;rintro e w3 ⟨o3,rfl|⟨t6,t7,rfl,hs6,rfl,h3,pJ⟩⟩
  ·exact⟨rfl,o1.trans o3,.inl rfl⟩
  ·have HU:=ac5 (gV t6.s O_ w3);have H3:=ac5 h3;have hus:(zj t6.s).size<=1000000:=by rw [wa];omega
   generalize zj t6.s=us at*;clear h3;go_wp2_with fail
   refine HU.out.mono ?_;rintro e w4 ⟨rfl,n4⟩;have HC:=fun w=>Tryz.strings_CutSuffix us ⟨#[46,83,73,76,69,78,84]⟩ w O_;generalize(⟨(Lib.trimSuffix us.data.toList (⟨#[46,83,73,76,69,78,84]⟩:ByteArray).data.toList).toArray⟩:ByteArray)=us2 at HC;generalize Lib.hasSuffix us.data.toList (⟨#[46,83,73,76,69,78,84]⟩:ByteArray).data.toList=rh at HC;go_wp2_with fail
   refine(HC w4).mono ?_;rintro e w5 ⟨rfl,rfl⟩;have n6:ae w3 (W_ w5 #[T_ ⟨#[70,76,65,71,83]⟩,T_ ⟨#[43,70,76,65,71,83]⟩,T_ ⟨#[45,70,76,65,71,83]⟩] 9):=n4.alloc _
   have hc6:∀j,j<Ch.length->L_ (W_ w5 #[T_ ⟨#[70,76,65,71,83]⟩,T_ ⟨#[43,70,76,65,71,83]⟩,T_ ⟨#[45,70,76,65,71,83]⟩] 9) w5 (0+j) (T_ (Ch.getD j ByteArray.empty)):=by
    intro j hj;have hj:j<3:=hj;rw [aH,GS];have:j=0\/j=1\/j=2:=O_
    rcases this with rfl|rfl|rfl<;>rfl
   have HI:=ac5 (Tryz.slices_Index_string w5.heap.size 0 3 3 Ch us2 _ (aA _) D_ hc6);have H6:=ac5 (H3.out.new n6);clear hc6 HC;go_wp2_with fail
   refine HI.out.mono ?_;rintro e w7 ⟨rfl,rfl⟩;have hb:=jq us2 Ch 0;obtain⟨i,hi⟩:∃i,i=Lib.idxOfS (Ch.take 3) us2:=⟨_,rfl⟩
   have eP: -1<=i/\i<3:=by
    rw [hi];have e3:Ch.length=3:=rfl;rw [e3]at hb
    show -1<=Lib.idxOfS Ch us2/\Lib.idxOfS Ch us2<3
    unfold Lib.idxOfS;omega
   rw [<-hi];clear hi hb HI HU;have o6:=(o1.trans o3).trans (ae.to n6);generalize(w5.alloc (G_ #[T_ ⟨#[70,76,65,71,83]⟩,T_ ⟨#[43,70,76,65,71,83]⟩,T_ ⟨#[45,70,76,65,71,83]⟩] 9))=w8 at*;clear n6 n4 H3;by_cases h0:0<=i
   ·have d0:=k_ h0;obtain⟨_,_,ff⟩:=H6.out.cell;obtain⟨_,_,_,_,_,q6,q7,_⟩:=H6.out.cells;have hp8:=H6.out.lt;go_wp2_with fail
    refine(dt _).mono ?_;rintro e w9 ⟨rfl,rfl⟩;have h9:PB B L (w9.setCell (C_ p 6) (I_ i)) p t7 {c1 with mo:=i}:=H6.out.set _ 6 _ D_ rfl {PC.at H6.out 6 _ with};have sH:PB B L ((w9.setCell (C_ p 6) (I_ i)).setCell (C_ p 7) (R_ rh)) p t7 {c1 with mo:=i,si:=rh}:=h9.set _ 7 _ D_ rfl {PC.at h9 7 _ with};have VG:=o6.trans (((One.refl p w9).set 6 (I_ i)).set 7 (R_ rh));have HS:=ac5 (gZ sH pJ);have HO:=ac5 VG;clear h9 sH VG;go_wp2_with fail
    refine HS.out.mono ?_;rintro e Ka ⟨Tc,rfl|⟨rfl,t12,t13,rfl,Mn,RW⟩⟩
    ·exact⟨rfl,HO.out.trans Tc,.inl rfl⟩
    ·obtain⟨t14,t15,rfl⟩:=RW.cons;have hp:=kr Mn rfl;have Gp:=HO.out.trans Tc;generalize hk:t14.k=k at hp;clear hk;by_cases he:k=2
     ·have d1:(k==2)=true:=by rw [he];rfl
      clear he;have HF:=ac5 (xG O_ (CB.out.one Gp) Mn RW);clear Mn;go_wp2_with fail
      refine hp.mono ?_;rintro e w13 ⟨rfl,rfl⟩;go_wp2_with fail
      refine HF.out.mono ?_;rintro e w14 ⟨VH,rfl|⟨rfl,t16,c16,h16,RX,aaB⟩⟩
      ·exact⟨rfl,Gp.trans VH,.inl rfl⟩
      ·go_wp2;refine r_ (G6 rfl _ _ _) rfl ?_;exact⟨Gp.trans VH,.inr ⟨rfl,_,_,h16,RX,by simp at aaB pM;omega⟩⟩
     ·have d1:=beq_eq_false_iff_ne.2 he;clear he;have HL:=ac5 (sZ 378 (Aw func378 K_ rfl) (fun W ts c s ho h hs=>Ag O_ ((CB.out.one Gp).one ho).self.t h s hs) Mn RW 0);clear Mn;go_wp2_with fail
      refine hp.mono ?_;rintro e w13 ⟨rfl,rfl⟩;go_wp2_with fail
      refine HL.out.mono ?_;rintro e w14 ⟨VH,rfl|⟨rfl,t16,c16,h16,RX,aaB⟩⟩
      ·exact⟨rfl,Gp.trans VH,.inl rfl⟩
      ·go_wp2;go_end0;exact⟨Gp.trans VH,.inr ⟨rfl,_,_,h16,RX,by simp at aaB pM;omega⟩⟩
   ·have d0:=aP h0;go_wp2_with fail
    refine(ew _).mono ?_;rintro e w9 ⟨rfl,rfl⟩;exact⟨rfl,o6,.inl rfl⟩
end
section
variable{w:World}{r:Nat}{A:Option Addr}{c:Nat}{l:List UInt8}{k:Nat}
theorem FC(fn:Nat) (hE:∀args w,(callFunc fn args).run prog w=.ok (.enter fn args) w) (h:uY w r A c l k) (t:Int) (ht:1<=t/\t<=6)
 (HF:∀W,ae w W->H_ fn #[X_ A l.length c,I_ k] W fun e w'=>KZ W w' l k e):
 H_ 414 #[Q_ r,I_ t,.func (.func fn) #[] #[]] w fun e w'=>yQ w w' r A c l k e:=by
 have n0:ae w (W_ w #[I_ 0,E_,I_ 0] 435):=(ae.refl w).alloc _;have KY:af (W_ w #[I_ 0,E_,I_ 0] 435) w 435 #[I_ 0,E_,I_ 0]:=af.new _ _ _;obtain⟨w0,cU⟩:∃w0,w0=w.alloc (G_ #[I_ 0,E_,I_ 0] 435):=⟨_,rfl⟩;rw [<-cU]at n0 KY;have h0:=h.new n0;have c0:=h0.b.k0;have c1:=h0.b.k1;have hr:=h.b.lt;have hr0:=h0.b.lt;have HS:=ac5 (fun W (hW:ae w0 W)=>HF W (n0.trans hW));have H0:=ac5 h0;clear h h0 HF
 go_enter func414,ntmps414
 go_wp2_with fail
 rw [<-cU];clear cU
 go_region_held3 (fun W=>L_ W r 0 (X_ A l.length c)/\L_ W r 1 (I_ k)) (first|go_keep|(refine⟨?_,?_⟩<;>assumption)) ((first
  |(refine(HS.out _ N_).mono ?_
    rintro e w2 ⟨v,n,q,lo,rfl,hv,fi,hq,n2⟩;have m2:ae w0 w2:=Fr.trans N_ n2;have h2:=H0.out.new m2;have p0:=h2.b.k0;have p1:=h2.b.k1;have H2:=ac5 h2;have HV:=ac5 hv;clear h2 n2 hv)
  |fail))
 obtain⟨Av,cv,rfl,xW,Qz⟩:=SB.vX HV.out;have tk2:=m2.ai KY;have g0:=tk2.k0;have g1:=tk2.k1;have g2:=tk2.k2;have ff:=tk2.dq;have fW:=m2.size;have oW:=n0.size;have f1:=H2.out.b.frozen 1
 cases q
 ·have kY:=xW.conv w2 xW;go_wp2;exact r_ (cH rfl _ _ rfl rfl (fj (((tk2.al 0 (I_ t)).al 1 (T_ ⟨lo.toArray⟩)).al 2 (I_ 0)))) rfl (ij tk2 ht.1 ht.2 fi H2.out (fun h=>by cases h) (ae.to (n0.trans m2)) hr)
 ·obtain⟨oZ,pa⟩:=hq rfl;have one:One r w2 (w2.setCell (C_ r 1) (I_ n)):=(One.refl r w2).set 1 _;have bV:w.heap.size≠r:=O_
  have tk3:=tk2.bL (p:=⟨r,1,none⟩) bV (I_ n)
  have afn:=xW.fr one fun b off e _ e2=>by
   have:=Qz b off e;have e2:=e2;simp only [IN]at this;omega
  have kY:=afn.conv _ afn;have q0:=tk3.k0;have q1:=tk3.k1;have q2:=tk3.k2;have ff3:=tk3.dq;have h3:uY (w2.setCell (C_ r 1) (I_ n)) r A c l n:=⟨H2.out.b.al 1 _,H2.out.s.fr one fun b off e _=>cZ (H2.out.n b off e),H2.out.n,pa⟩;go_wp2;exact r_ (cH rfl _ _ rfl rfl (fj (((tk3.al 0 (I_ t)).al 1 (T_ ⟨lo.toArray⟩)).al 2 (I_ 0)))) rfl (ij tk3 ht.1 ht.2 fi h3 (fun _=>oZ) ((ae.to (n0.trans m2)).trans one) hr)
theorem aaG(h:uY w r A c l k) (hl:l.length<=100000):H_ 366 #[Q_ r] w fun e w'=>yQ w w' r A c l k e:=by
 have n0:ae w (W_ w #[I_ 0,E_,I_ 0] 435):=(ae.refl w).alloc _;have KY:af (W_ w #[I_ 0,E_,I_ 0] 435) w 435 #[I_ 0,E_,I_ 0]:=af.new _ _ _;have hr:=h.b.lt;have HS:=ac5 (fun t ht=>FC 415 (Aw func415 K_ rfl) (h.new n0) t ht (fun W hW=>xI A c l hl k h.hk W (h.s.new (n0.trans hW)) (fun b off e=>by have:=h.n b off e;have:=(n0.trans hW).size;omega)));clear h
 go_enter func366,ntmps366
 go_wp2_with fail
 refine(HS.out 5 O_).mono ?_;rintro e w1 ⟨t,sx,a,q,k',rfl,h1,h2,h3,h4,h5,h6⟩;have tk:=h6.ai KY O_;have c0:=tk.k0;have c1:=tk.k1;have c2:=tk.k2;have ff:=tk.dq;have fB:=h6.size;go_wp2;exact r_ (cH rfl _ _ rfl rfl (fj (((tk.al 0 (I_ t)).al 1 (T_ sx)).al 2 (I_ a)))) rfl (ij tk h1 h2 h3 h4 h5 ((ae.to n0).trans h6) hr)
end
theorem uz(A:Option Addr) (c:Nat) (l:List UInt8) (hl:l.length<=100000) (k:Nat) (hk:k<=l.length) (w:World) (h:SB w A c l) (hA:∀b off,A=some ⟨b,off,none⟩->b<w.heap.size) (hE:fG w):
 H_ 416 #[X_ A l.length c,I_ k] w fun e w'=>KZ w w' l k e:=by
 have HS:=ac5 (Ai 443 (Aw func443 K_ rfl) A c l k hk w h hA (fun W hW Jj hs=>Cl Jj hl (fun b off e=>by have:=hA b off e;omega) hs hE hW (aA _)));clear h hA hE
 go_enter func416,ntmps416
 go_wp2_with fail
 refine HS.out.mono ?_;rintro e w1 ⟨v,n,q,lo,rfl,h1,h2,h3,h4⟩;go_wp2
 go_ret3
 exact⟨v,n,q,lo,rfl,h1,h2,h3,h4⟩
section
variable{w:World}{r:Nat}{A:Option Addr}{c:Nat}{l:List UInt8}{k:Nat}
theorem aaJ(h:uY w r A c l k) (hl:l.length<=100000) (hE:fG w):H_ 367 #[Q_ r] w fun e w'=>yQ w w' r A c l k e:=by
 have n0:ae w (W_ w #[I_ 0,E_,I_ 0] 435):=(ae.refl w).alloc _;have KY:af (W_ w #[I_ 0,E_,I_ 0] 435) w 435 #[I_ 0,E_,I_ 0]:=af.new _ _ _;have hr:=h.b.lt;have HS:=ac5 (fun t ht=>FC 416 (Aw func416 K_ rfl) (h.new n0) t ht (fun W hW=>uz A c l hl k h.hk W (h.s.new (n0.trans hW)) (fun b off e=>by have:=h.n b off e;have:=(n0.trans hW).size;omega) (hE.new (n0.trans hW))));clear h hE
 go_enter func367,ntmps367
 go_wp2_with fail
 refine(HS.out 6 O_).mono ?_;rintro e w1 ⟨t,sx,a,q,k',rfl,h1,h2,h3,h4,h5,h6⟩;have tk:=h6.ai KY O_;have c0:=tk.k0;have c1:=tk.k1;have c2:=tk.k2;have ff:=tk.dq;have fB:=h6.size;go_wp2;exact r_ (cH rfl _ _ rfl rfl (fj (((tk.al 0 (I_ t)).al 1 (T_ sx)).al 2 (I_ a)))) rfl (ij tk h1 h2 h3 h4 h5 ((ae.to n0).trans h6) hr)
end
end Go.Proofs.YtliimglbbiebiaaGreatDoor
