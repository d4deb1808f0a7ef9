import Derived.Test.YtliimglbbiebiaaGreatDoorGTopTimeAS
import Derived.Test.YtliimglbbiebiaaGreatDoorGTopTimeAT
import Derived.Test.YtliimglbbiebiaaGreatDoorGTopTimeAQ
set_option maxRecDepth 100000
set_option maxHeartbeats 6400000
set_option linter.all false
namespace Go.Proofs.YtliimglbbiebiaaGreatDoor
open Go.Proofs.Tryz Go.RowKit Go.Maps
section
variable{w:World}{t:Nat}{bz:Bool}{c:fK}{ms:ByteArray}{nd:Value}{x sp lk:Nat}{a b:Int}{ah out:Value}
theorem lg.alloc {w:World}{p B:Nat}{v:Value}{l:List UInt8}{a k:Int}(h:lg w p B v l a k) (o:Obj):lg (w.alloc o) p B v l a k:=h.new ((ae.refl w).alloc o)
def ada(w w':World) (t:Nat) (bz:Bool) (c:fK) (ms:ByteArray) (nd:Value) (x sp lk:Nat) (a b:Int) (out:Value) (B:Nat) (sv:Value) (l:List UInt8) (sa:Int) (e:Ending):Prop:=
 Fr (fun k=>k=t\/k=sp) w w'/\∃(v':Value) (l':List UInt8) (a' k':Int),lg w' sp B v' l' a' k'/\l'.length<=l.length/\(v'=sv\/∀g,v'.ownBlock=some g->w.heap.size<=g)/\
  ((e=.returned (.tuple #[.agg #[I_ 0,Z_],R_ false])/\gO w' t bz c ms nd x sp lk a b Z_ out/\(l'.length:Int)-a'<=(l.length:Int)-sa)\/
   ∃(kd:Int) (dA:Option Addr) (dC:Nat) (ld:List UInt8) (ah:Value),e=.returned (.tuple #[.agg #[I_ kd,X_ dA ld.length dC],R_ true])/\1<=kd/\kd<=4/\((l'.length:Int)-a')+2<=(l.length:Int)-sa/\ld.length<=l.length/\
    gO w' t bz c ms nd x sp lk a b ah out/\Own im 174 w.heap.size w' ah [⟨kd,dA,ld.length,dC⟩]/\Own (ak .u8) 5 w.heap.size w' (X_ dA ld.length dC) (nums ld))
theorem Pr{w0:World}(hE:fG w0) (iP:ae w0 w) (Pq:w0.heap.size<=sp) {B:Nat}(hB:B<=w.heap.size) {sv:Value}{l:List UInt8}(hl:l.length<=100000) {sa sk:Int}
 (h:gO w t bz c ms nd x sp lk a b Z_ out) (hs:lg w sp B sv l sa sk) (e_:t≠sp):
 H_ 109 #[Q_ t] w fun e w'=>ada w w' t bz c ms nd x sp lk a b out B sv l sa e:=by
 obtain⟨i0,hi,dw,cE,dy⟩:=wF qt;have n0:ae w (W_ w #[I_ 0,Z_] 174):=(ae.refl w).alloc _;have r0:af (W_ w #[I_ 0,Z_] 174) w 174 #[I_ 0,Z_]:=af.new _ _ _;have h0:=n0.ai h;have oW:=hs.new n0;obtain⟨_,Uh⟩:=hs.b;have bJ:=Uh.lt;have uf:=h.lt;have YF:=h0.oH;have Ph:=h0.kH;have bZ:=zq hE (iP.trans n0) Pq (B:=B) (by rw [gz];omega) hl oW;have eH:=ac5 bZ;clear bZ
 go_enter func109,ntmps109
 go_wp2_with fail
 refine eH.out.mono ?_;rintro e w1 ⟨kd,d,q,v',l',a',k',rfl,o1,s1,gK,DD,oZ,LI⟩;rcases q with _|_
 ·obtain⟨⟨rfl,rfl⟩,hle⟩:=LI rfl;have r1:=o1.ai r0 O_;have t1:=o1.ai h0 e_;have m1:Fr (fun k=>k=t\/k=sp) w w1:=(ae.to n0).trans (o1.mono fun _ _ h=>.inr h);have WC:=o1.size;rw [gz]at WC;have r2:=r1.alloc (G_ #[I_ 0,Z_] 174);have t2:=t1.alloc (G_ #[I_ 0,Z_] 174);have s2:=s1.alloc (G_ #[I_ 0,Z_] 174);have o2:=m1.alloc (G_ #[I_ 0,Z_] 174);have g2:=af.new w1 174 #[I_ 0,Z_];have M2:=ac5 (And.intro t2 (And.intro s2 o2));clear YF Ph r0 h0 oW n0 o1 m1 t1 s1 r1 oZ LI t2 s2 o2;obtain⟨p0,p1⟩:=r2.dQ;have f2:=r2.dq;obtain⟨g0,g1⟩:=g2.dQ;go_wp2;have hR:=r2.bP (I_ 0) Z_;have hF:=One.bP (W_ w1 #[I_ 0,Z_] 174) w.heap.size (I_ 0) Z_;refine r_ (aC rfl _ _ rfl rfl (fJ hR)) rfl ⟨Fr.trans' M2.out.2.2 hF (fun i hi e=>by have e:=e;omega),v',l',a',k',M2.out.2.1.fr hF (fun e=>by have e:=e;omega) (fun z hz e=>?_),gK,DD.imp id fun hg g vm=>by have:=hg g vm;rw [gz]at this;omega,.inl ⟨rfl,(M2.out.1.bL (p:=⟨w.heap.size,0,none⟩) (by show t≠w.heap.size;omega) _).bL (p:=⟨w.heap.size,1,none⟩) (by show t≠w.heap.size;omega) _,hle⟩⟩;have e:=e;subst e;exact M2.out.2.1.o.ar r2 D_ hz
 obtain⟨eA,pR,Gd,ld,hd,LD⟩:=oZ rfl;clear oZ LI;obtain⟨dA,dC,rfl,hdC⟩:=hd.form;have uL:(nums ld).length=ld.length:=aW _;rw [uL]at hd⊢;have r1:=o1.ai r0 O_;have t1:=o1.ai h0 e_;have m1:=(ae.to n0).trans o1;have WC:=o1.size;rw [gz]at WC;have T':w.heap.size+1<=(w.alloc (G_ #[I_ 0,Z_] 174)).heap.size:=by rw [gz];omega
 have r2:=r1.alloc (G_ #[I_ kd,X_ dA ld.length dC] 174);have t2:=t1.alloc (G_ #[I_ kd,X_ dA ld.length dC] 174);have s2:=s1.alloc (G_ #[I_ kd,X_ dA ld.length dC] 174);have d2:=hd.alloc (G_ #[I_ kd,X_ dA ld.length dC] 174);have m2:=m1.alloc (G_ #[I_ kd,X_ dA ld.length dC] 174);have g2:=af.new w1 174 #[I_ kd,X_ dA ld.length dC];have Pz:(w1.alloc (G_ #[I_ kd,X_ dA ld.length dC] 174)).heap.size=w1.heap.size+1:=by rw [gz]
 have HLN:=ac5 uL;clear hd YF Ph r0 h0 oW n0 o1 r1 t1 s1 m1 uL;go_wp2_with fail
 generalize(w1.alloc (G_ #[I_ kd,X_ dA ld.length dC] 174))=wA at*;generalize w1.heap.size=F at*;have SZ2:=ac5 Pz;have nY:=m2.size;have hFl:=WC;clear WC Pz w1;obtain⟨g0,g1⟩:=g2.dQ;have Ph:=t2.kH;have htA:=t2.lt;have hrA:Rd im (wA.alloc (G_ #[I_ kd,X_ dA ld.length dC] 174)).drew (X_ (M_ wA) 1 1) [⟨kd,dA,ld.length,dC⟩]:=jn (E:=im) (x:=⟨kd,dA,ld.length,dC⟩) (t:=174) (af.new wA.drew 174 #[I_ kd,X_ dA ld.length dC])
 have NQ:w.heap.size<=(wA.alloc (G_ #[I_ kd,X_ dA ld.length dC] 174)).drew.heap.size:=by
  show w.heap.size<=(wA.alloc (G_ #[I_ kd,X_ dA ld.length dC] 174)).heap.size
  rw [gz];omega
 have nA:ae wA (wA.alloc (G_ #[I_ kd,X_ dA ld.length dC] 174)).drew:=((ae.refl wA).alloc _).drew;have HRA:=ac5 hrA;have HBA:=ac5 NQ;clear hrA NQ
 go_region_law ((first
  |(refine eI (E:=im) (l:=[]) (v:=.slice none 0 0) (by rfl) (.tmp 27) (.tmp 29) 121 (by rfl) underlying121 hi dw cE dy rfl (by rfl) (by rfl) [⟨kd,dA,ld.length,dC⟩] (Own.nil _ _ w.heap.size _) HRA.out (by unfold maxLen;simp) S_ HBA.out ?_
    intro A7 C7 w7 nH vQ GO;have n7:ae wA w7:=Fr.trans nA (vQ.mono fun _ _ h=>by cases h);have t7:=n7.ai t2;have g7:=n7.ai g2;obtain⟨q0,q1⟩:=g7.dQ;have z17:=t7.kH;have y17:=t7.frozen 17;have S0:∀u,L_ (w7.setCell (C_ t 17) u) F 0 (I_ kd)/\L_ (w7.setCell (C_ t 17) u) F 1 (X_ dA ld.length dC):=fun u=>⟨Fr.cell ((One.refl t w7).set 17 u) q0 (by show¬F=t;omega),Fr.cell ((One.refl t w7).set 17 u) q1 (by show¬F=t;omega)⟩)
  |fail))
 all_goals
  have e8:([]++[(⟨kd,dA,ld.length,dC⟩:uK)]).length=1:=rfl;rw [e8]at nH
  have t8:gO (w7.setCell (C_ t 17) (X_ A7 1 C7)) t bz c ms nd x sp lk a b (X_ A7 1 C7) out:=by
   have q:=t7.al 17 (X_ A7 1 C7);simpa using q
  have YG:=nH.fr ((One.refl t w7).set 17 (X_ A7 1 C7)) fun z hz e=>nH.ar t7 D_ (by have e:=e;rw [<-e];exact hz);have r7:=n7.ai r2;have s7:=s2.new n7;have d7:=d2.new n7;have r8:=r7.bL (p:=⟨t,17,none⟩) (by show w.heap.size≠t;omega) (X_ A7 1 C7);have s8:=s7.fr ((One.refl t w7).set 17 (X_ A7 1 C7)) (fun e=>e_ (Eq.symm e)) fun z hz e=>s7.o.ar t7 D_ (by have e:=e;rw [<-e];exact hz);have d8:=d7.fr ((One.refl t w7).set 17 (X_ A7 1 C7)) fun z hz e=>d7.ar t7 D_ (by have e:=e;rw [<-e];exact hz);have m8:Fr (fun k=>k=t\/k=sp) w (w7.setCell (C_ t 17) (X_ A7 1 C7)):=Fr.trans (Fr.trans (m2.mono fun k _ h=>.inr h) (n7.mono fun _ _ h=>h.elim)) ((Fr.refl _ w7).setCell (p:=⟨t,17,none⟩) (fun _=>.inl rfl) _);have l8:=r8.lt;have nodup:(Value.slice A7 1 C7).ownBlock≠some w.heap.size/\(Value.slice dA ld.length dC).ownBlock≠some w.heap.size:=⟨fun e=>?x1,fun e=>?x2⟩
  case x2=>exact d8.ar r8 D_ e
  case x1=>
   have e':(Value.slice A7 ([]++[(⟨kd,dA,ld.length,dC⟩:uK)]).length C7).ownBlock=some w.heap.size:=e;have ic:=r2.lt;rw [e']at GO;rcases GO with h1|h1
   ·cases h1
   ·have h1:=lZ h1;have h2:(wA.alloc (G_ #[I_ kd,X_ dA ld.length dC] 174)).drew.heap.size=wA.heap.size+1:=gz _ _;omega
  have HN:=ac5 nodup;have M8:=ac5 m8;have D8:=ac5 d8;have O8:=ac5 YG;clear Ph g0 g1 htA t2 s2 d2 m2 g2 r2 n7 t7 g7 q0 q1 z17 y17 S0 nH vQ GO r7 s7 d7 nodup m8 d8 nA;generalize(w7.setCell (C_ t 17) (X_ A7 1 C7))=w8 at*;have ho9:=O8.out.rd;obtain⟨A9,C9,he9,hC9,AR⟩:=ho9
  cases he9
  obtain⟨bb,G8,rfl,Cy⟩:=AR S_;have kH:=t8.kH;have k0:L_ w8 bb G8 (I_ kd):=Cy 0 _ rfl 0 _ rfl;have k1:L_ w8 bb (G8+1) (X_ dA ld.length dC):=Cy 0 _ rfl 1 _ rfl;have hC1:1<=C7:=hC9;obtain⟨p0,p1⟩:=r8.dQ;have f8:=r8.dq;clear AR Cy hC9;go_wp2;have hR:=r8.bP (I_ kd) (X_ dA ld.length dC);have hF:=One.bP w8 w.heap.size (I_ kd) (X_ dA ld.length dC);have AN:t≠w.heap.size:=O_
  have hps:sp≠w.heap.size:=O_
  refine r_ (aC rfl _ _ rfl rfl (fJ hR)) rfl ⟨Fr.trans' M8.out hF (fun i hi e=>by have e:=e;omega),v',l',a',k',s8.fr hF (fun e=>hps e) (fun z hz e=>?x3),gK,DD.imp id fun hg g vm=>ag (gy T' (hg g vm)),.inr ⟨kd,dA,dC,ld,X_ (some ⟨bb,G8,none⟩) 1 C7,rfl,eA,pR,Gd,LD,(t8.bL (p:=⟨w.heap.size,0,none⟩) AN _).bL (p:=⟨w.heap.size,1,none⟩) AN _,?_,?_⟩⟩
  case x3=>
   have e:=e;subst e;exact s8.o.ar r8 D_ hz
  ·exact O8.out.fr hF fun z hz e=>HN.out.1 (by have e:=e;rw [<-e];exact hz)
  ·exact(D8.out.mono (ag T')).fr hF fun z hz e=>HN.out.2 (by have e:=e;rw [<-e];exact hz)
end
structure xX where
 A:Option Addr
 c:Nat
 l:List UInt8
def NC:cr xX:=cr.Li (fun x=>.slice x.A x.l.length x.c) fun _=>rfl
structure uD(w:World) (A:Option Addr) (c:Nat) (L:List xX):Prop where
 rd:Rd NC w (X_ A L.length c) L
 eZ:∀x∈L,Rd (ak .u8) w (X_ x.A x.l.length x.c) (nums x.l)
 n1:1<=L.length/\L.length<=8
 tot:(L.map fun x=>x.l.length).sum<=4000
section
variable{w w':World}{A:Option Addr}{c:Nat}{L:List xX}
theorem uD.new (h:uD w A c L) (hn:ae w w'):uD w' A c L:=⟨h.rd.new hn,fun x hx=>(h.eZ x hx).new hn,h.n1,h.tot⟩
theorem uD.cell (h:uD w A c L):∃b off,A=some ⟨b,off,none⟩/\∀k x,L[k]? =some x->L_ w b (off+k) (X_ x.A x.l.length x.c):=by
 obtain⟨A',c',he,_,h2⟩:=h.rd;injection he with e1 _ e2;subst e1 e2;obtain⟨b,off,rfl,h3⟩:=h2 (by intro e;have:=h.n1;rw [e]at this;simp at this);refine⟨b,off,rfl,fun k x hx=>?_⟩;have:=h3 k x hx 0 _ rfl;simpa [NC,cr.Li]using this
theorem Cv{l:List Nat}{x:Nat}(h:x∈l):x<=l.sum:=by
 induction l with
 |nil=>cases h
 |cons y l ih=>
  rw [Hz];rcases List.mem_cons.1 h with rfl|h
  ·omega
  ·have:=ih h;omega
theorem uD.len (h:uD w A c L) {x:xX}(hx:x∈L):x.l.length<=4000:=gy (Cv (Oj (f:=fun x:xX=>x.l.length) hx)) h.tot
theorem xO{l:List Nat}{k:Nat}{x:Nat}(h:l[k]? =some x):(l.take (k+1)).sum=(l.take k).sum+x:=by
 rw [Gz,h];simp
theorem tW{l:List Nat}{k:Nat}:(l.take k).sum<=l.sum:=by
 have:=Yg k l;have h2:(l.take k++l.drop k).sum=l.sum:=by rw [this]
 rw [List.sum_append]at h2;omega
end
theorem ND(n p:Nat) (h:n+p<=1000000):wrap64 ((n:Int)+(p:Int))=((n+p:Nat):Int):=by
 rw [WB _ O_];omega
abbrev aaQ:Value:=.agg #[I_ 3,I_ 30,U_ 1]
section
variable{w0 w:World}{A:Option Addr}{c:Nat}{L:List xX}
theorem NF(hE:fG w0) (iP:ae w0 w) (h:uD w A c L):
 H_ 28 #[aaQ,X_ A L.length c] w fun e w'=>∃n:Nat,e=.returned (I_ n)/\n<=30000/\ae w w':=by
 obtain⟨N,hN⟩:∃N,L.length=N:=⟨_,rfl⟩;have br:=h.n1;rw [hN]at br;have H:=ac5 h;obtain⟨b,off,rfl,hc⟩:=h.cell;have HC:=ac5 hc;have HN:=ac5 hN;have X9:Hid (∀k,k<N->∃x,L[k]? =some x):=ac5 fun k hk=>⟨_,DW O_⟩;rw [hN];clear hc h hN
 go_enter func28,ntmps28
 go_wp2_with fail
 refine(mO 3 O_ O_ 30 O_ O_ 1 O_ O_ N O_ O_ _).mono ?_;rintro e w1 ⟨S,base,rfl,_,_,_,hS⟩;have m1:=hS.new;clear hS;go_wp2_with fail
 have n2:ae w (W_ w1 #[I_ 3,I_ N] 65):=(((ae.refl w).alloc _).trans m1).alloc _;have g2:=af.new w1 65 #[I_ 3,I_ N];generalize(w1.alloc (G_ #[I_ 3,I_ N] 65))=w2 at*;generalize w1.heap.size=Lb at*;clear m1
 go_loopw [8,25] (fun vn vi wr=>∃k n:Nat,k<=N/\vi=I_ k/\vn=I_ n/\Hid (2*n<=15*((L.map fun x=>x.l.length).take k).sum)/\ae w wr/\af wr Lb 65 #[I_ 3,I_ N]) (fun _ vi _=>N-(intOf vi).toNat)
 case atStart=>exact⟨0,0,Gv _,rfl,rfl,ac5 S_,n2,g2⟩
 case round=>
  obtain⟨k,n,hk,rfl,rfl,hs,Ty,hg⟩:=hrel;by_cases bJ:k<N
  ·obtain⟨x,hx⟩:=X9.out k bJ;have zK:=YX hx;have Kn:=H.out.len zK;have r0:=Fr.cell Ty (HC.out k x hx) id;have bT:=xO (l:=L.map fun x=>x.l.length) (k:=k) (x:=x.l.length) (by rw [OX,hx];rfl);have jE:=tW (l:=L.map fun x=>x.l.length) (k:=k+1);have aaR:=H.out.tot;have hb:2*n<=60000:=by have:=hs.out;omega
   have hbn:n<=30000:=O_
   have HSP:=ac5 (Jv hE (iP.trans Ty) x.A x.l.length x.c x.l O_ ((H.out.eZ x zK).new Ty));have iI:=ac5 bT;have HXL:=ac5 Kn;obtain⟨xA,xc,xl⟩:=x;dsimp only at r0 HSP iI HXL;clear hx zK bT jE aaR hb Kn;generalize To:xl.length=xn at r0 HSP iI HXL;clear To;go_wp2_with fail
   refine HSP.out.mono ?_;rintro e w3 ⟨⟨A3,C3,m,i3,rfl,hm⟩,m3⟩;have n3:=Ty.trans m3;have g3:=m3.ai hg;obtain⟨k0,k1⟩:=g3.dQ;have NL:m<=2000:=by have:=HXL.out;omega
   have HM:=ac5 hm;clear r0 hm;go_wp2_with fail
   refine(gm 3 N O_ O_ O_ O_ w3).mono ?_;rintro e w4 ⟨rfl,m4⟩;have n4:=n3.trans m4;have g4:=m4.ai g3;obtain⟨pr,xT⟩:∃pr:Nat,pr=m*(7+N):=⟨_,rfl⟩;have Kd:pr<=m*15:=by rw [xT];exact Nat.mul_le_mul_left _ O_
   have Tg:(m:Int)*(3+(4+(N:Int)))=(pr:Int):=by rw [xT,Int.natCast_mul,show(3+(4+(N:Int)))=((7+N:Nat):Int) from by omega]
   have XN:n+pr<=1000000:=O_
   have AU:wrap64 ((m:Int)*(3+(4+(N:Int))))=(pr:Int):=by rw [Tg];exact WB _ O_
   have J1:=ND n pr XN;have HP:=ac5 Kd;clear k0 k1 m3 m4 xT Kd Tg XN;go_wp2_with fail
   go_roundw
   case rel=>
    refine⟨k+1,n+pr,O_,by go_num,?_,ac5 ?_,n4,g4⟩
    ·refine congrArg (Value.int .i64) ?_;exact J1
    ·rw [iI.out];clear AU J1;have h1:=HM.out;have h2:=hs.out;have h3:=HP.out;omega
   case measure=>simp [intOf];omega
  ·have hke:k=N:=O_
   go_wp2;go_ret;refine⟨n,rfl,?_,Ty⟩;have h1:=hs.out;have h2:=tW (l:=L.map fun x=>x.l.length) (k:=k);have h3:=H.out.tot;omega
end
abbrev aaX:Value:=.agg #[I_ 2,I_ 5,U_ 1]
theorem tX(w:World):H_ 25 #[aaX,I_ 2] w fun e w'=>∃S base,e=.returned (.tuple #[Q_ S.s,.agg #[I_ 2,I_ 2],R_ true])/\w.heap.size<=S.s/\S.cap=5/\S.T.n=2/\cn w base w' S Qs.none [] 1 0 1:=
 mO 2 O_ O_ 5 O_ O_ 1 O_ O_ 2 O_ O_ w
structure Two(w:World) (sb g0 o0 c0 g1 o1 c1:Nat):Prop where
 row:af w sb 23 #[X_ (some ⟨g0,o0,none⟩) 8 c0,X_ (some ⟨g1,o1,none⟩) 8 c1]
 b0:jh w g0 o0 (eV 97)
 b1:jh w g1 o1 (eV 98)
 h0:8<=c0
 h1:8<=c1
theorem Two.new {w w':World}{sb g0 o0 c0 g1 o1 c1:Nat}(h:Two w sb g0 o0 c0 g1 o1 c1) (hf:ae w w'):Two w' sb g0 o0 c0 g1 o1 c1:=⟨hf.ai h.row,h.b0.new hf,h.b1.new hf,h.h0,h.h1⟩
section
variable{w:World}{sb g0 o0 c0 g1 o1 c1:Nat}
theorem NH(h:Two w sb g0 o0 c0 g1 o1 c1) (hT:b_ w):
 H_ 28 #[aaX,X_ (M_ sb) 2 2] w fun e w'=>e=.returned (I_ 16)/\ae w w':=by
 have H:=ac5 h;have HT:=ac5 hT;clear h hT
 go_enter func28,ntmps28
 go_wp2_with fail
 refine(tX _).mono ?_;rintro e w1 ⟨S,base,rfl,_,_,_,hS⟩;have m1:=hS.new;clear hS;go_wp2_with fail
 have n2:ae w (W_ w1 #[I_ 2,I_ 2] 65):=(((ae.refl w).alloc _).trans m1).alloc _;have g2:=af.new w1 65 #[I_ 2,I_ 2];generalize(w1.alloc (G_ #[I_ 2,I_ 2] 65))=w2 at*;generalize w1.heap.size=L at*;clear m1;have h2:=H.out.new n2;have r0:=h2.row.k0;refine jD 3 ?_;rw [O0];go_wp2_with fail
 refine(vV g0 o0 c0 97 (.inl rfl) h2.h0 w2 (HT.out.new n2) h2.b0).mono ?_;rintro e w3 ⟨⟨A3,C3,rfl⟩,m3⟩;have n3:=n2.trans m3;have g3:=m3.ai g2;obtain⟨k0,k1⟩:=g3.dQ;go_wp2_with fail
 refine(gm 2 2 O_ O_ O_ O_ w3).mono ?_;rintro e w4 ⟨rfl,m4⟩;have n4:=n3.trans m4;have g4:=m4.ai g3;have h4:=H.out.new n4;clear r0 k0 k1;have r1:=h4.row.k1;go_wp2_with fail
 rw [O0];go_wp2_with fail
 refine(vV g1 o1 c1 98 (.inr rfl) h4.h1 w4 (HT.out.new n4) h4.b1).mono ?_;rintro e w5 ⟨⟨A5,C5,rfl⟩,m5⟩;have n5:=n4.trans m5;have g5:=m5.ai g4;clear r1;obtain⟨k0,k1⟩:=g5.dQ;go_wp2_with fail
 refine(gm 2 2 O_ O_ O_ O_ w5).mono ?_;rintro e w6 ⟨rfl,m6⟩;have n6:=n5.trans m6;clear k0 k1;go_wp2_with fail
 rw [O0];go_wp2;go_ret;exact⟨rfl,n6⟩
end
end Go.Proofs.YtliimglbbiebiaaGreatDoor
