import Derived.Test.YtliimglbbiebiaaGreatDoorGTopTimeBE
set_option maxRecDepth 100000
set_option maxHeartbeats 6400000
set_option linter.all false
namespace Go.Proofs.YtliimglbbiebiaaGreatDoor
open Go.Proofs.Tryz Go.RowKit Go.Maps
section
variable{w0 w:World}{t:Nat}{c:fK}{ms:ByteArray}{nd:Value}{sp lk:Nat}{a b:Int}{ah out:Value}
variable{base:Nat}{S:Sx}{Q:Qs}{M:List bU}{n tt f i:Int}{xs:Nat}{o:Vo}{dn:Bool}
def ak6(w0:World) (base:Nat) (w w':World) (S:Sx) (Q:Qs) (n f i:Int) (xs:Nat) (o:Vo) (t sp lk bm:Nat) (a b:Int) (out:Value) (lo:List Int) (B:Nat) (O:List Int) (N:Int) (ah:Value) (e:Ending):Prop:=
 e=.returned (.tuple #[])/\∃(w2:World) (m:Nat) (S':Sx) (Q':Qs) (M':List bU) (n' t':Int) (o':Vo) (d':Bool) (eh:Value) (iR:List Int),m+2*(Q'.l i).length<=2*(Q.l i).length+200001/\SO w0 base w2 S' Q' M' n' t' f i xs o' d'/\dJ w w2 S Q n i xs o 5000 1 (fun _=>False) S' Q' n' o'/\
  Fr (fun k=>k=t\/out.ownBlock=some k\/k=lk\/k=bm) w2 w'/\gO w' t false vW ⟨#[]⟩ Z_ xs sp lk a b ah eh/\Own (ak .u8) 5 B w' eh iR/\iR.length<=lo.length+m*100002/\(∀g,eh.ownBlock=some g->out.ownBlock=some g\/w2.heap.size<=g)/\gu w' lk bm (pj O i) N
theorem FK(H:SO w0 base w S Q M n tt f i xs o dn) (hn:n<=5000) (Vy:∀j,(Q.l j).length<=90000000) (hq:Q.ids.length<=1000) (iW:S.cap<=1000) (hT:b_ w0) (hf:0<=f/\f<=4294967295)
 (h:gO w t true c ms nd xs sp lk a b ah out) {B0:Nat}(hc:PC B0 5000 w c) (Gd:ms.size<=100) {bm:Nat}{O:List Int}{N:Int}(hL:gu w lk bm O N) {B:Nat}{lo:List Int}(wX:Own (ak .u8) 5 B w out lo) (hB:B<=w.heap.size) (fi:lo.length<=100000000000000)
 (hF:∀k,k=t\/out.ownBlock=some k\/k=lk\/k=bm->¬(S.aB Q k\/dp xs o k\/False)) (gh:∀g,Value.ownBlock (X_ c.dA c.dn c.dc)=some g->¬S.aB Q g):
 H_ 112 #[Q_ t] w fun e w'=>ak6 w0 base w w' S Q n f i xs o t sp lk bm a b out lo B O N ah e:=by
 have hs:=H.dF;have Td:=hs.aU h D_;have bJ:=hL.ai.aU h D_;obtain⟨ml,gE,_⟩:=hL.map;have yR:=h.aO gE;have uf:=h.lt;obtain⟨k0,k1,k2,k3,k4,k5,k6,k7,k8,k9,xQ,va,tZ,oH,t_,xY,xZ,kH,rF⟩:=h.fh;obtain⟨s5,Iy,VK,aaK⟩:=hc.set;obtain⟨l5,hd5,hl5,_⟩:=hc.yz;have afC:Ft w c s5 l5:=⟨hc.t,gy hc.m O_,hc.fl.1,Iy.rd,VK,aaK,hd5⟩;have je:=hc.t;have HC:=ac5 (And.intro afC (And.intro gh je));have HH:=ac5 (And.intro H (And.intro Vy (And.intro hT hF)));have HL:=ac5 (And.intro hL wX);clear hL gE H Vy hT hF afC gh wX hc Iy VK hd5
 go_enter func112,ntmps112
 rcases hme:ms.toList.isEmpty with _|_
 ·go_wp2_with fail
  go_region_held3 (fun W=>L_ W t 12 (Q_ xs)/\L_ W t 1 (T_ c.t)/\L_ W t 10 (T_ ms)) (first|go_keep|(refine⟨?_,?_,?_⟩<;>assumption)) ((first
   |(go_at_call 41
     refine(Ae xs _ i (ot o) dn c.t ms je O_ _ (Fr.ai (S:=fun _=>False) N_ hs (fun h=>h))).mono ?_;rintro e w2 ⟨v2,l2,rfl,eY,ic,sg,m2⟩;have n2:ae w w2:=Fr.trans N_ m2;have kI:dJ w w2 S Q n i xs o 5000 1 (fun _=>False) S Q n o:=(dJ.refl (R:=fun _=>False) n2).xE O_ O_ (fun _ _ h=>h);have H2:=HH.out.1.new n2;have h2:=n2.ai h;have CH:=HH.out.2.2.1.new H2.st.new;have O2:=ac5 (And.intro (HL.out.2.new n2) (And.intro H2 (And.intro kI (HL.out.1.new n2))));have Pz:=n2.size;have hlen:l2.length+2*(Q.l i).length<=2*(Q.l i).length+200001:=O_
     have hW:=ac5 (sy B v2 lo (l2.length*100002) h2 O2.out.1 (by have:l2.length*100002<=1*100002:=eW _ sg;omega) O_ fun W hW=>(wh _ l2 v2 W (eY.rd.new hW) O_ (fun r hr=>(ic r hr).2.new hW) (CH.new hW)).mono fun e W' hh=>by
      obtain⟨v,L,h1,h2,h3,h4⟩:=hh;exact⟨v,L,h1,h2,h3,h4⟩)
     obtain⟨p0,p1,p2,p3,p4,p5,p6,p7,p8,p9,UA,Ei,UB,p13,p14,UC,UD,p17,p18⟩:=h2.fh;clear eY ic H2 kI CH m2 n2)
   |(go_at_call 151
     refine hW.out.mono ?_;rintro e w3 ⟨rfl,eh,iR,h3,fg,aaM,gP,qp⟩;obtain⟨q0,q1,q2,q3,q4,q5,q6,q7,q8,q9,q10,q11,q12,q13,q14,q15,q16,q17,q18⟩:=h3.fh;have O3:=ac5 (And.intro fg (And.intro gP qp));clear fg gP qp)
   |fail))
  all_goals
   have HS:=ac5 (And.intro O2.out.2.1.dF O2.out.2.1);have hot:∀g,out.ownBlock=some g->g≠t:=fun g hg e=>O2.out.1.ar h2 D_ (by rw [hg,e]);have hox:∀g,out.ownBlock=some g->g≠xs:=fun g hg e=>O2.out.1.ar HS.out.1 D_ (by rw [hg,e]);have Te:∀g,out.ownBlock=some g->g≠lk:=fun g hg e=>O2.out.1.ar O2.out.2.2.2.ai D_ (by rw [hg,e])
   have AQ:∀g,out.ownBlock=some g->g≠bm:=fun g hg e=>by
    obtain⟨ml,gE,_⟩:=O2.out.2.2.2.map;exact O2.out.1.aO gE (by rw [hg,e])
   have jy:=Fr.ai O3.out.2.1 HS.out.1 (fun e=>e.elim Td fun e=>hox xs e rfl);have L3:=ac5 (O2.out.2.2.2.fr O3.out.2.1 (fun e=>e.elim bJ fun e=>Te lk e rfl) (fun e=>e.elim (iX yR) fun e=>AQ bm e rfl));clear k0 k1 k2 k3 k4 k5 k6 k7 k8 k9 xQ va tZ oH t_ xY xZ kH rF p0 p1 p2 p3 p4 p5 p6 p7 p8 p9 UA Ei UB p13 p14 UC UD p17 p18 q0 q1 q2 q3 q4 q5 q6 q7 q8 q9 q10 q11 q13 q15 q16 q17 q18 h2;go_wp2_with fail
   go_region_held3 (fun W=>L_ W t 14 (Q_ lk)/\L_ W t 12 (Q_ xs)) (first|go_keep|(refine⟨?_,?_⟩<;>assumption)) ((first
    |(go_at_call 114
      refine(jm xs _ i (ot o) dn _ (Fr.ai (S:=fun _=>False) N_ jy (fun h=>h))).mono ?_;rintro e w8 ⟨rfl,rfl⟩)
    |(go_at_call 158
      refine(lj (L3.out.new N_) i).mono ?_;rintro e w4 ⟨rfl,Jo,fL⟩;have g4:SY lk bm w3 w4:=Fr.trans N_ fL;have h4:=Fr.ai g4 h3 (fun e=>by rcases e with e|e;exact bJ e.symm;exact yR e);have L4:=ac5 Jo;have G4:=ac5 g4;obtain⟨k0,k1,k2,k3,k4,k5,k6,k7,k8,k9,xQ,va,tZ,oH,t_,xY,xZ,kH,rF⟩:=h4.fh;have f4:=h4.dq;clear Jo fL g4)
    |fail))
   all_goals
    go_wp2;go_end0;have hO:=One.gY w4 t (R_ false) E_ (I_ 0) E_ Z_ (I_ 0) (I_ 0) (R_ false) (B_ 0) Z_ E_ Z_;have h9:=h4.gY (R_ false) E_ (I_ 0) E_ Z_ (I_ 0) (I_ 0) (R_ false) (B_ 0) Z_ E_ Z_;refine⟨rfl,w2,l2.length,S,Q,M,n,tt,o,dn,eh,iR,hlen,O2.out.2.1,O2.out.2.2.1,?_,h9,?_,aaM,O3.out.2.2,L4.out.fr hO bJ (iX yR)⟩
    ·refine((O3.out.2.1.mono fun k _ hk=>hk.elim .inl fun e=>.inr (.inl e)).trans (G4.out.mono fun k _ hk=>hk.elim (fun e=>cu (.inl e)) fun e=>dS e)).trans (hO.mono fun k _ e=>.inl e)
    ·refine(O3.out.1.fr G4.out fun z hz e=>?_).fr hO fun z hz e=>?_
     ·rcases e with e|e
      ·exact O3.out.1.ar L3.out.ai D_ (by rw [<-e];exact hz)
      ·obtain⟨ml3,Sn,_⟩:=L3.out.map;exact O3.out.1.aO Sn (by rw [<-e];exact hz)
     ·exact O3.out.1.ar h3 D_ (by have e:=e;rw [<-e];exact hz)
 ·go_wp2_with fail
  go_region_held3 (fun W=>L_ W t 12 (Q_ xs)/\L_ W t 1 (T_ c.t)/\L_ W t 2 (I_ c.k)/\L_ W t 3 (T_ c.m)/\L_ W t 4 (X_ c.sA c.sn c.sc)/\L_ W t 5 (I_ c.it)/\L_ W t 6 (I_ c.mo)/\L_ W t 7 (R_ c.si)/\L_ W t 8 (B_ c.fl)/\L_ W t 9 (X_ c.dA c.dn c.dc)) (first|go_keep|(refine⟨?_,?_,?_,?_,?_,?_,?_,?_,?_,?_⟩<;>assumption)) ((first
   |(go_at_call 17
     refine(Vx (HH.out.1.new N_) hn HH.out.2.1 hq iW HH.out.2.2.1 hf c s5 l5 (HC.out.1.new N_) (fun g hg _=>HC.out.2.1 g hg)).mono ?_;rintro e w2 ⟨v2,l2,S',Q',M',n',t',o',d',rfl,eY,ic,hlen,H2,hk⟩;have kI:dJ w w2 S Q n i xs o 5000 1 (fun _=>False) S' Q' n' o':=dJ.trans (dJ.refl (R:=fun _=>False) N_) hk (fun _ h=>h.elim);have h2:=Fr.ai kI.fr h (HH.out.2.2.2 t (.inl rfl));have CH:=HH.out.2.2.1.new H2.st.new;have O2:=ac5 (And.intro (HL.out.2.fr kI.fr fun g hg=>HH.out.2.2.2 g (.inr (.inl hg))) (And.intro H2 (And.intro kI (HL.out.1.fr kI.fr (HH.out.2.2.2 lk (cu (.inl rfl))) (HH.out.2.2.2 bm (dS rfl))))));have Pz:=kI.fr.size;have gK:l2.length<=180200001:=by have:=HH.out.2.1 i;omega
     have hW:=ac5 (sy B v2 lo (l2.length*100002) h2 O2.out.1 (by have:l2.length*100002<=180200001*100002:=eW _ gK;omega) O_ fun W hW=>(wh _ l2 v2 W (eY.rd.new hW) O_ (fun r hr=>(ic r hr).2.new hW) (CH.new hW)).mono fun e W' hh=>by
      obtain⟨v,L,h1,h2,h3,h4⟩:=hh;exact⟨v,L,h1,h2,h3,h4⟩)
     obtain⟨p0,p1,p2,p3,p4,p5,p6,p7,p8,p9,UA,Ei,UB,p13,p14,UC,UD,p17,p18⟩:=h2.fh;clear eY ic H2 hk kI CH)
   |(go_at_call 151
     refine hW.out.mono ?_;rintro e w3 ⟨rfl,eh,iR,h3,fg,aaM,gP,qp⟩;obtain⟨q0,q1,q2,q3,q4,q5,q6,q7,q8,q9,q10,q11,q12,q13,q14,q15,q16,q17,q18⟩:=h3.fh;have O3:=ac5 (And.intro fg (And.intro gP qp));clear fg gP qp)
   |fail))
  all_goals
   have HS:=ac5 (And.intro O2.out.2.1.dF O2.out.2.1);have hot:∀g,out.ownBlock=some g->g≠t:=fun g hg e=>O2.out.1.ar h2 D_ (by rw [hg,e]);have hox:∀g,out.ownBlock=some g->g≠xs:=fun g hg e=>O2.out.1.ar HS.out.1 D_ (by rw [hg,e]);have Te:∀g,out.ownBlock=some g->g≠lk:=fun g hg e=>O2.out.1.ar O2.out.2.2.2.ai D_ (by rw [hg,e])
   have AQ:∀g,out.ownBlock=some g->g≠bm:=fun g hg e=>by
    obtain⟨ml,gE,_⟩:=O2.out.2.2.2.map;exact O2.out.1.aO gE (by rw [hg,e])
   have jy:=Fr.ai O3.out.2.1 HS.out.1 (fun e=>e.elim Td fun e=>hox xs e rfl);have L3:=ac5 (O2.out.2.2.2.fr O3.out.2.1 (fun e=>e.elim bJ fun e=>Te lk e rfl) (fun e=>e.elim (iX yR) fun e=>AQ bm e rfl));clear k0 k1 k2 k3 k4 k5 k6 k7 k8 k9 xQ va tZ oH t_ xY xZ kH rF p0 p1 p2 p3 p4 p5 p6 p7 p8 p9 UA Ei UB p13 p14 UC UD p17 p18 q0 q1 q2 q3 q4 q5 q6 q7 q8 q9 q10 q11 q13 q15 q16 q17 q18 h2;go_wp2_with fail
   go_region_held3 (fun W=>L_ W t 14 (Q_ lk)/\L_ W t 12 (Q_ xs)) (first|go_keep|(refine⟨?_,?_⟩<;>assumption)) ((first
    |(go_at_call 114
      refine(jm xs _ i (ot o') d' _ (Fr.ai (S:=fun _=>False) N_ jy (fun h=>h))).mono ?_;rintro e w8 ⟨rfl,rfl⟩)
    |(go_at_call 158
      refine(lj (L3.out.new N_) i).mono ?_;rintro e w4 ⟨rfl,Jo,fL⟩;have g4:SY lk bm w3 w4:=Fr.trans N_ fL;have h4:=Fr.ai g4 h3 (fun e=>by rcases e with e|e;exact bJ e.symm;exact yR e);have L4:=ac5 Jo;have G4:=ac5 g4;obtain⟨k0,k1,k2,k3,k4,k5,k6,k7,k8,k9,xQ,va,tZ,oH,t_,xY,xZ,kH,rF⟩:=h4.fh;have f4:=h4.dq;clear Jo fL g4)
    |fail))
   all_goals
    go_wp2;go_end0;have hO:=One.gY w4 t (R_ false) E_ (I_ 0) E_ Z_ (I_ 0) (I_ 0) (R_ false) (B_ 0) Z_ E_ Z_;have h9:=h4.gY (R_ false) E_ (I_ 0) E_ Z_ (I_ 0) (I_ 0) (R_ false) (B_ 0) Z_ E_ Z_;refine⟨rfl,w2,l2.length,S',Q',M',n',t',o',d',eh,iR,hlen,O2.out.2.1,O2.out.2.2.1,?_,h9,?_,aaM,O3.out.2.2,L4.out.fr hO bJ (iX yR)⟩
    ·refine((O3.out.2.1.mono fun k _ hk=>hk.elim .inl fun e=>.inr (.inl e)).trans (G4.out.mono fun k _ hk=>hk.elim (fun e=>cu (.inl e)) fun e=>dS e)).trans (hO.mono fun k _ e=>.inl e)
    ·refine(O3.out.1.fr G4.out fun z hz e=>?_).fr hO fun z hz e=>?_
     ·rcases e with e|e
      ·exact O3.out.1.ar L3.out.ai D_ (by rw [<-e];exact hz)
      ·obtain⟨ml3,Sn,_⟩:=L3.out.map;exact O3.out.1.aO Sn (by rw [<-e];exact hz)
     ·exact O3.out.1.ar h3 D_ (by have e:=e;rw [<-e];exact hz)
end
section
variable{w:World}{t:Nat}{bz:Bool}{c:fK}{ms:ByteArray}{nd:Value}{x sp lk:Nat}{a b:Int}{ah out:Value}
theorem FL{bm:Nat}{O:List Int}{N:Int}(h:gO w t bz c ms nd x sp lk a b ah out) (bx:Value) (dI:Int) (hsi:jf dI) (pv:Option Addr) (dn:Bool) (hs:mV w x bx dI pv dn) (hT:gu w lk bm O N) (hN:N<90000) (l:List Int) (gT:Rd (ak .i64) w nd l) (dx:∀k∈l,jf k) (hl:l.length<=100000)
 (bV:(l.filter fun k=> !(bQ O dI).contains k)≠[]):
 H_ 115 #[Q_ t] w fun e w'=>e=.returned (.tuple #[])/\∃O' N',gu w' lk bm O' N'/\N'<=N+1/\SY lk bm w w':=by
 have c14:=h.t_;have jM:=h.tZ
 obtain⟨y,hy⟩:∃y,(l.filter fun k=> !(bQ O dI).contains k)[0]? =some y:=by
  cases hf:(l.filter fun k=> !(bQ O dI).contains k)with
  |nil=>exact absurd hf bV
  |cons y _=>exact⟨y,rfl⟩
 have QJ:=dx y (List.mem_filter.1 (YX hy)).1;have lh:=List.length_pos_iff.2 bV;have nI:=h.aU hT.ai D_;obtain⟨ml,gE,_⟩:=hT.map;have htm:=h.aO gE;clear gE;have HT:=ac5 hT;have HW:=ac5 (fun(W:World) (hn:ae w W)=>sr (hn.ai h) bx dI pv dn (hn.ai hs) (hT.new hn) l (gT.new hn) dx hl);have HY:=ac5 hy;clear h gT dx hT bV hl;generalize(l.filter fun k=> !(bQ O dI).contains k)=fl at hy lh HY HW⊢;clear hy
 go_enter func115,ntmps115
 go_wp2_with fail
 go_region_law ((first
  |(go_simp
    go_at_call 114
    refine(jm x bx dI pv dn _ (Fr.ai (S:=fun _=>False) A_ hs (fun h=>h))).mono ?_;rintro e w8 ⟨rfl,rfl⟩;go_wp2_with fail)
  |(go_simp
    go_at_call 111
    refine(HW.out _ A_).mono ?_;rintro e w2 ⟨v,rfl,hv,m2⟩;have n2:ae w w2:=Fr.trans A_ m2;obtain⟨_,C,rfl,hC,aF⟩:=hv.rd;obtain⟨bb,off,rfl,Ko⟩:=aF (by rintro rfl;simp at lh)
    have d0:L_ w2 bb off (I_ y):=by
     have:=Ko 0 y HY.out 0 _ rfl;simpa [ak]using this
    have e14:=Fr.cell n2 c14 id;have e12:=Fr.cell n2 jM id;clear hv aF Ko m2;go_wp2_with fail)
  |(go_simp
    go_at_call 161
    refine(Bi (HT.out.new A_) hN dI y hsi QJ).mono ?_;rintro e w4 ⟨rfl,Jo,fL⟩;have g4:SY lk bm w w4:=Fr.trans (Fr.mono A_ (by intro _ _ h;exact h.elim)) fL;have L4:=ac5 (And.intro Jo g4);have hq4:N+(DV O dI y:Int)<=N+1:=by unfold DV;split<;>omega
    have c14':=Fr.cell g4 c14 (fun e=>by rcases e with e|e;exact nI e;exact htm e);have c12':=Fr.cell g4 jM (fun e=>by rcases e with e|e;exact nI e;exact htm e);clear Jo fL g4;go_wp2_with fail)
  |fail))
 all_goals
  go_wp2;go_end0;exact⟨rfl,_,_,L4.out.1,hq4,L4.out.2⟩
theorem Nu{bm:Nat}{O:List Int}{N:Int}(h:gO w t true c ms nd x sp lk a b ah out) (bx:Value) (dI:Int) (pv:Option Addr) (dn:Bool) (hs:mV w x bx dI pv dn) (hT:gu w lk bm O N) (l:List Int) (gT:Rd (ak .i64) w nd l) (dx:∀k∈l,jf k) (hl:l.length<=100000):
 H_ 79 #[Q_ t] w fun e w'=>ae w w'/\(e=.returned (.tuple #[I_ 3,.func (.func 112) #[Q_ t] #[]])\/e=.returned (.tuple #[I_ 1,.func (.func 107) #[] #[]])\/
  (e=.returned (.tuple #[I_ 2,.func (.func 115) #[Q_ t] #[]])/\(l.filter fun k=> !(bQ O dI).contains k)≠[])):=by
 obtain⟨k0,k1,k2,k3,k4,k5,k6,k7,k8,k9,xQ,va,tZ,oH,t_,xY,xZ,kH,rF⟩:=h.fh;have hmf:=atQ;have HW:=ac5 (sr h bx dI pv dn hs hT l gT dx hl);have qD:(l.filter fun k=> !(bQ O dI).contains k).length<=100000:=gy (cR _ _) hl;have hfo:∀k∈(l.filter fun k=> !(bQ O dI).contains k),jf k:=fun k hk=>dx k (List.mem_filter.1 hk).1;have HT:=ac5 (And.intro hT hfo);clear hT gT dx hl hfo;generalize(l.filter fun k=> !(bQ O dI).contains k)=fl at HW HT qD⊢
 go_enter func79,ntmps79
 go_wp2_with fail
 refine HW.out.mono ?_;rintro e w1 ⟨v,rfl,hv,n1⟩;obtain⟨A,C,rfl,_⟩:=hv.form;have HV:=ac5 (And.intro hv n1);have fB:=n1.ai hs;have e14:=Fr.cell n1 t_ id;have e12:=Fr.cell n1 tZ id;clear hv n1;by_cases F9:fl=[]
 ·subst F9;go_wp2;go_ret2;exact⟨HV.out.2,.inl rfl⟩
 ·have lh:=List.length_pos_iff.2 F9;have Pq:¬(fl.length:Int)=0:=O_
  have lK:¬fl.length=0:=O_
  go_wp2_with fail
  go_region_held3 (fun W=>L_ W t 14 (Q_ lk)/\L_ W t 12 (Q_ x)) (first|go_keep|(refine⟨?_,?_⟩<;>assumption)) ((first
   |(go_at_call 114
     refine(jm x bx dI pv dn _ (Fr.ai (S:=fun _=>False) A_ fB (fun h=>h))).mono ?_;rintro e w8 ⟨rfl,rfl⟩)
   |(go_at_call 113
     refine(Be ((HT.out.1.new HV.out.2).new A_) dI _ fl (HV.out.1.rd.new A_) HT.out.2 qD).mono ?_;rintro e w2 ⟨rfl,m2⟩;have n2:ae w1 w2:=Fr.trans A_ m2;have g14:=Fr.cell n2 e14 id;have g12:=Fr.cell n2 e12 id)
   |fail))
  all_goals
   rcases nV:mj O dI fl with _|_
   ·go_wp2;go_ret2;exact⟨HV.out.2.trans n2,.inr (.inr ⟨rfl,F9⟩)⟩
   ·go_wp2;go_ret2;exact⟨HV.out.2.trans n2,.inr (.inl rfl)⟩
theorem xJ(h:gO w t false c ms nd x sp lk a b ah out) (bx:Value) (dI:Int) (pv:Option Addr) (hs:mV w x bx dI pv true):
 H_ 79 #[Q_ t] w fun e w'=>e=.returned (.tuple #[I_ 0,.func (.func 107) #[] #[]])/\ae w w':=by
 obtain⟨k0,k1,k2,k3,k4,k5,k6,k7,k8,k9,xQ,va,tZ,oH,t_,xY,xZ,kH,rF⟩:=h.fh
 go_enter func79,ntmps79
 go_wp2_with fail
 refine(jX x bx dI pv true w hs).mono ?_;rintro e w1 ⟨rfl,rfl⟩;go_wp2;go_ret2;exact⟨rfl,ae.refl _⟩
theorem uB(fr:uK) (base:Nat) (h:gO w t false c ms nd x sp lk a b ah out) (bx:Value) (dI:Int) (pv:Option Addr) (hs:mV w x bx dI pv false) (ho:Own im 174 base w ah [fr]):
 H_ 79 #[Q_ t] w fun e w'=>e=.returned (.tuple #[I_ 2,.func (.func 110) #[Q_ t] #[]])/\ae w w':=by
 obtain⟨k0,k1,k2,k3,k4,k5,k6,k7,k8,k9,xQ,va,tZ,oH,t_,xY,xZ,kH,rF⟩:=h.fh;have hmf:=atQ;have yw:=ac5 (lf fr base h ho);obtain⟨fk,fA,fn,fc⟩:=fr;unfold uK.val at yw;clear h ho
 go_enter func79,ntmps79
 go_wp2_with fail
 refine(jX x bx dI pv false w hs).mono ?_;rintro e w1 ⟨rfl,rfl⟩;go_wp2_with fail
 refine yw.out.mono ?_;rintro e w2 ⟨rfl,n2⟩;go_wp2;go_ret2;exact⟨rfl,n2.alloc _⟩
theorem yS{w0:World}(hE:fG w0) (iP:ae w0 w) (Pq:w0.heap.size<=sp) {B:Nat}(hB:B<=w.heap.size) {sv:Value}{l:List UInt8}(hl:l.length<=100000) {sa sk:Int}
 (h:gO w t false c ms nd x sp lk a b Z_ out) (bx:Value) (dI:Int) (pv:Option Addr) (hs:mV w x bx dI pv false) (lM:lg w sp B sv l sa sk) (e_:t≠sp):
 H_ 79 #[Q_ t] w fun e w'=>Fr (fun k=>k=t\/k=sp) w w'/\∃(v':Value) (l':List UInt8) (a' k':Int),lg w' sp B v' l' a' k'/\l'.length<=l.length/\(v'=sv\/∀g,v'.ownBlock=some g->w.heap.size<=g)/\
  ((e=.returned (.tuple #[I_ 0,.func (.func 107) #[] #[]])/\gO w' t false c ms nd x sp lk a b Z_ out/\(l'.length:Int)-a'<=(l.length:Int)-sa)\/
   ∃(kd:Int) (dA:Option Addr) (dC:Nat) (ld:List UInt8) (ah:Value),e=.returned (.tuple #[I_ 2,.func (.func 110) #[Q_ t] #[]])/\1<=kd/\kd<=4/\((l'.length:Int)-a')+2<=(l.length:Int)-sa/\ld.length<=l.length/\
    gO w' t false c ms nd x sp lk a b ah out/\Own im 174 w.heap.size w' ah [⟨kd,dA,ld.length,dC⟩]/\Own (ak .u8) 5 w.heap.size w' (X_ dA ld.length dC) (nums ld)):=by
 obtain⟨k0,k1,k2,k3,k4,k5,k6,k7,k8,k9,xQ,va,tZ,oH,t_,xY,xZ,kH,rF⟩:=h.fh;have hmf:=atQ;have yw:=ac5 (Pr hE iP Pq hB hl h lM e_);clear h lM
 go_enter func79,ntmps79
 go_wp2_with fail
 refine(jX x bx dI pv false w hs).mono ?_;rintro e w1 ⟨rfl,rfl⟩;go_wp2_with fail
 refine yw.out.mono ?_;rintro e w2 ⟨f2,v',l',a',k',s2,gK,DD,⟨rfl,t2,hle⟩|⟨kd,dA,dC,ld,ah,rfl,eA,pR,Gd,LD,t2,eY,oe⟩⟩
 ·have f3:=f2.alloc (G_ #[I_ 0,Z_] 174);have t3:=t2.alloc (G_ #[I_ 0,Z_] 174);have s3:=s2.alloc (G_ #[I_ 0,Z_] 174);have F:=ac5 (And.intro f3 (And.intro t3 s3));clear f2 t2 s2 f3 t3 s3;go_wp2;go_ret2;exact⟨F.out.1,v',l',a',k',F.out.2.2,gK,DD,.inl ⟨rfl,F.out.2.1,hle⟩⟩
 ·have f3:=f2.alloc (G_ #[I_ kd,X_ dA ld.length dC] 174);have t3:=t2.alloc (G_ #[I_ kd,X_ dA ld.length dC] 174);have s3:=s2.alloc (G_ #[I_ kd,X_ dA ld.length dC] 174);have fg:=eY.alloc (G_ #[I_ kd,X_ dA ld.length dC] 174);have sD:=oe.alloc (G_ #[I_ kd,X_ dA ld.length dC] 174);have F:=ac5 (And.intro f3 (And.intro t3 (And.intro s3 (And.intro fg sD))));clear f2 t2 s2 f3 t3 s3 eY oe fg sD;go_wp2;go_ret2;exact⟨F.out.1,v',l',a',k',F.out.2.2.1,gK,DD,.inr ⟨kd,dA,dC,ld,ah,rfl,eA,pR,Gd,LD,F.out.2.1,F.out.2.2.2.1,F.out.2.2.2.2⟩⟩
end
theorem ry{w:World}{t:Nat}{P1:Ending->World->Prop}{R:Int->World->Prop}(hN:H_ 79 #[Q_ t] w P1)
 (hR:∀e w1,P1 e w1->∃r fn cap,e=.returned (.tuple #[I_ r,.func (.func fn) cap #[]])/\(∀args w,(callFunc fn args).run prog w=.ok (.enter fn args) w)/\H_ fn cap w1 fun e' w'=>e'=.returned (.tuple #[])/\R r w'):
 H_ 54 #[Q_ t] w fun e w'=>∃r,e=.returned (I_ r)/\R r w':=by
 have HN:=ac5 hN;have HR:=ac5 hR;clear hN hR
 go_enter func54,ntmps54
 go_wp2_with fail
 refine HN.out.mono ?_;intro e w1 hp;obtain⟨r,fn,cap,rfl,hE,hC⟩:=HR.out e w1 hp;have HC:=ac5 hC;clear hC hp;go_wp2_with fail
 refine HC.out.mono ?_;rintro e w2 ⟨rfl,h2⟩;have H2:=ac5 h2;clear h2;go_wp2;go_ret;exact⟨r,rfl,H2.out⟩
structure TD where
 t:Nat
 sp:Nat
 bz:Bool
 c:fK
 ms:ByteArray
 nd:Value
 Og:List Int
 sv:Value
 l:List UInt8
 sa:Int
 sk:Int
 ah:Value
 fr:Option (Int×Option Addr×Nat×List UInt8)
 out:Value
 lo:List Int
def TD.fd (d:TD):Value:=match d.fr with
 |none=>.slice none 0 0
 |some (_,A,C,l)=>.slice A l.length C
def TD.eX (d:TD) (k:Nat):Prop:=k=d.t\/k=d.sp\/d.sv.ownBlock=some k\/d.ah.ownBlock=some k\/d.fd.ownBlock=some k\/d.out.ownBlock=some k\/d.nd.ownBlock=some k\/(Value.slice d.c.sA d.c.sn d.c.sc).ownBlock=some k\/(Value.slice d.c.dA d.c.dn d.c.dc).ownBlock=some k
def TD.FM (d:TD):Nat:=((d.l.length:Int)-d.sa).toNat+(if d.fr.isSome then 2 else 0)+(if d.bz then 2 else 0)
structure uZ(B:Nat) (w:World) (d:TD) (x lk:Nat) (a b:Int):Prop where
 s_:gO w d.t d.bz d.c d.ms d.nd x d.sp lk a b d.ah d.out
 jT:lg w d.sp B d.sv d.l d.sa d.sk
 lb:d.l.length<=5000
 fr0:d.fr=none->d.ah=Z_
 Oh:∀kd A C ld,d.fr=some (kd,A,C,ld)->1<=kd/\kd<=4/\ld.length<=5000/\Own im 174 B w d.ah [⟨kd,A,ld.length,C⟩]/\Own (ak .u8) 5 B w (X_ A ld.length C) (nums ld)
 nd:Own (ak .i64) 3 B w d.nd d.Og
 nok:∀y∈d.Og,jf y
 nl:d.Og.length<=6000
 cmd:PC B 5000 w d.c
 ms:d.ms.size<=100
 out:Own (ak .u8) 5 B w d.out d.lo
 ts:d.t≠d.sp
 bt:B<=d.t
 bs:B<=d.sp
section
variable{B:Nat}{w w':World}{d:TD}{x lk:Nat}{a b:Int}
theorem PC.du {L:Nat}{c:fK}{R:Nat->Prop}(h:PC B L w c) (hf:Fr R w w') (h1:∀g,(Value.slice c.sA c.sn c.sc).ownBlock=some g->¬R g) (h2:∀g,(Value.slice c.dA c.dn c.dc).ownBlock=some g->¬R g):PC B L w' c:=
 {h with
  set:=by obtain⟨s,h3,h4⟩:=h.set;exact⟨s,h3.fr hf h1,h4⟩
  yz:=by obtain⟨l,h3,h4,h5⟩:=h.yz;exact⟨l,h3.fr hf h2,h4,fun g hg=>⟨(h5 g hg).1,(h5 g hg).2.fr hf (h2 g hg)⟩⟩}
theorem uZ.fr (h:uZ B w d x lk a b) {R:Nat->Prop}(hf:Fr R w w') (hR:∀k,d.eX k->¬R k):uZ B w' d x lk a b where
 s_:=hf.ai h.s_ (hR _ (.inl rfl))
 jT:=h.jT.fr hf (hR _ (.inr (.inl rfl))) fun g hg=>hR g (cu (.inl hg))
 lb:=h.lb
 fr0:=h.fr0
 Oh:=fun kd A C ld e=>by
  obtain⟨h1,h2,h3,h4,h5⟩:=h.Oh kd A C ld e;exact⟨h1,h2,h3,h4.fr hf fun g hg=>hR g (dS (.inl hg)),h5.fr hf fun g hg=>hR g (iO (.inl (by unfold TD.fd;rw [e];exact hg)))⟩
 nd:=h.nd.fr hf fun g hg=>hR g (lX (.inl hg))
 nok:=h.nok
 nl:=h.nl
 cmd:=h.cmd.du hf (fun g hg=>hR g (VL (.inl hg))) fun g hg=>hR g (Sq hg)
 ms:=h.ms
 out:=h.out.fr hf fun g hg=>hR g (gd (.inl hg))
 ts:=h.ts
 bt:=h.bt
 bs:=h.bs
theorem uZ.new (h:uZ B w d x lk a b) (hf:ae w w'):uZ B w' d x lk a b:=h.fr hf fun _ _=>id
end
def TD.rest (d:TD) (k:Nat):Prop:=k=d.sp\/d.sv.ownBlock=some k\/d.ah.ownBlock=some k\/d.fd.ownBlock=some k\/d.nd.ownBlock=some k\/(Value.slice d.c.sA d.c.sn d.c.sc).ownBlock=some k\/(Value.slice d.c.dA d.c.dn d.c.dc).ownBlock=some k
def TD.oa (d:TD):Prop:=∀g,d.out.ownBlock=some g->d.sv.ownBlock≠some g/\d.fd.ownBlock≠some g
theorem TD.Aj {d:TD}{k:Nat}(h:d.rest k):d.eX k:=by
 rcases h with h|h|h|h|h|h|h
 ·exact .inr (.inl h)
 ·exact cu (.inl h)
 ·exact dS (.inl h)
 ·exact iO (.inl h)
 ·exact lX (.inl h)
 ·exact VL (.inl h)
 ·exact Sq h
section
variable{B:Nat}{w w':World}{d:TD}{x lk:Nat}{a b:Int}
theorem uZ.rz (h:uZ B w d x lk a b) (ho:d.oa) {k:Nat}(hk:d.rest k):k≠d.t/\d.out.ownBlock≠some k:=by
 rcases hk with hk|hk|hk|hk|hk|hk|hk
 ·subst hk;obtain⟨_,hb⟩:=h.jT.b;exact⟨iX h.ts,h.out.ar hb D_⟩
 ·exact⟨fun e=>h.jT.o.ar h.s_ D_ (e▸hk),fun e=>(ho k e).1 hk⟩
 ·cases hf:d.fr with
  |none=>rw [h.fr0 hf]at hk;cases hk
  |some y=>
   obtain⟨kd,A,C,ld⟩:=y;obtain⟨_,_,_,h4,_⟩:=h.Oh kd A C ld hf;obtain⟨cs,hc⟩:=h4.heap hk;exact⟨hc.aU h.s_ D_,h.out.ar hc D_⟩
 ·refine⟨fun e=>?_,fun e=>(ho k e).2 hk⟩
  cases hf:d.fr with
  |none=>unfold TD.fd at hk;rw [hf]at hk;cases hk
  |some y=>
   obtain⟨kd,A,C,ld⟩:=y;obtain⟨_,_,_,_,h5⟩:=h.Oh kd A C ld hf;unfold TD.fd at hk;rw [hf]at hk;exact h5.ar h.s_ D_ (e▸hk)
 ·obtain⟨cs,hc⟩:=h.nd.heap hk;exact⟨hc.aU h.s_ D_,h.out.ar hc D_⟩
 ·obtain⟨s,hs,_⟩:=h.cmd.set;obtain⟨cs,hc⟩:=hs.heap hk;exact⟨hc.aU h.s_ D_,h.out.ar hc D_⟩
 ·obtain⟨l,_,_,h3⟩:=h.cmd.yz;have hz:=(h3 k hk).2;refine⟨hz.ne h.s_,fun e=>?_⟩;obtain⟨cs,hc⟩:=h.out.heap e;exact hz.ne hc rfl
end
theorem PCz(B:Nat) (w:World):PC B 5000 w vW:=PC.zero B w D_
section
variable{w0 w w':World}{base:Nat}{S:Sx}{Q:Qs}{M:List bU}{n tt f i:Int}{xs:Nat}{o:Vo}{dn:Bool}{lk bm:Nat}{a b:Int}{O:List Int}{N:Int}{d:TD}
def rD(w0:World) (base:Nat) (w w':World) (S:Sx) (Q:Qs) (n f i:Int) (xs:Nat) (o:Vo) (lk bm:Nat) (a b:Int) (N:Int) (d:TD) (r:Int):Prop:=
 ∃(w2:World) (q m:Nat) (S':Sx) (Q':Qs) (M':List bU) (n' t':Int) (o':Vo) (dn':Bool) (d':TD) (O':List Int) (N':Int),
  SO w0 base w2 S' Q' M' n' t' f i xs o' dn'/\dJ w w2 S Q n i xs o (5000*q) q (fun _=>False) S' Q' n' o'/\
  Fr (fun k=>k=d.t\/k=d.sp\/d.out.ownBlock=some k\/k=lk\/k=bm) w2 w'/\
  uZ w0.heap.size w' d' xs lk a b/\d'.oa/\d'.t=d.t/\d'.sp=d.sp/\(∀k,d'.eX k->d.eX k\/w2.heap.size<=k)/\(∀g,d'.out.ownBlock=some g->d.out.ownBlock=some g\/w2.heap.size<=g)/\
  gu w' lk bm O' N'/\N'<=N+1/\(r≠2->N'<=N)/\d'.FM+2*q<=d.FM/\d'.lo.length<=d.lo.length+m*100002/\m+2*(Q'.l i).length<=2*(Q.l i).length+200001*q
theorem Nv(hE:fG w0) (H:SO w0 base w S Q M n tt f i xs o dn) (hn:n<=5000) (Vy:∀j,(Q.l j).length<=90000000) (hq:Q.ids.length<=1000) (iW:S.cap<=1000) (hf:0<=f/\f<=4294967295)
 (hd:uZ w0.heap.size w d xs lk a b) (yT:d.oa) (K0:d.bz=true) (hL:gu w lk bm O N) (hN:N<90000) (fi:d.lo.length<=100000000000000)
 (hF:∀k,d.eX k\/k=lk\/k=bm->¬(S.aB Q k\/dp xs o k\/False)) (bV:∀k,d.eX k->k≠lk/\k≠bm):
 H_ 54 #[Q_ d.t] w fun e w'=>∃r,e=.returned (I_ r)/\rD w0 base w w' S Q n f i xs o lk bm a b N d r:=by
 have ht:=hd.s_;rw [K0]at ht;have oR:=H.ib;refine ry (Nu ht _ i _ dn H.dF hL d.Og hd.nd.rd hd.nok (by have:=hd.nl;omega)) ?_;rintro e w1 ⟨n1,rfl|rfl|⟨rfl,ak9⟩⟩
 ·refine⟨3,112,_,rfl,Aw func112 K_ rfl,?_⟩;have np:=hd.new n1;have EU:=n1.ai ht;have ti:=(H.new n1).st.new.size;refine(FK (H.new n1) hn Vy hq iW hE.t hf EU np.cmd np.ms (hL.new n1) np.out ti fi (fun k hk=>hF k ?_) (fun g hg hs=>hF g (.inl (Sq hg)) (.inl hs))).mono ?_
  ·rcases hk with hk|hk|hk|hk
   ·exact .inl (.inl hk)
   ·exact .inl (gd (.inl hk))
   ·exact .inr (.inl hk)
   ·exact .inr (.inr hk)
  ·rintro e w' ⟨rfl,w2,m,S',Q',M',n',t',o',d',eh,iR,hm,H2,hk,dU,Jr,Ea,Ln,ng,NP⟩;have eA:dJ w w2 S Q n i xs o (5000*1) 1 (fun _=>False) S' Q' n' o':=dJ.trans (dJ.refl (R:=fun _=>False) n1) hk (fun _ h=>h.elim);refine⟨rfl,w2,1,m,S',Q',M',n',t',o',d',{d with bz:=false,c:=vW,ms:=⟨#[]⟩,nd:=Z_,Og:=[],out:=eh,lo:=iR},_,N,H2,eA,?_,?_,?_,rfl,rfl,?_,?_,NP,O_,fun _=>O_,?_,Ln,O_⟩
   ·exact dU.mono fun k _ hk=>hk.elim .inl fun hk=>.inr (.inr hk)
   ·have oe:=hd.fr eA.fr fun k hk=>hF k (.inl hk)
    have db:∀k,d.rest k->¬(k=d.t\/d.out.ownBlock=some k\/k=lk\/k=bm):=fun k hk e=>by
     rcases e with e|e|e|e
     ·exact(oe.rz yT hk).1 e
     ·exact(oe.rz yT hk).2 e
     ·exact(bV k (TD.Aj hk)).1 e
     ·exact(bV k (TD.Aj hk)).2 e
    exact⟨Jr,oe.jT.fr dU (db _ (.inl rfl)) (fun g hg=>db g (.inr (.inl hg))),hd.lb,hd.fr0,fun kd A C ld e=>by
     obtain⟨h1,h2,h3,h4,h5⟩:=oe.Oh kd A C ld e;exact⟨h1,h2,h3,h4.fr dU (fun g hg=>db g (cu (.inl hg))),h5.fr dU (fun g hg=>db g (dS (.inl (by unfold TD.fd;rw [e];exact hg))))⟩,
     Own.nil _ _ _ _,S_,S_,PCz _ _,Gv _,Ea,hd.ts,hd.bt,hd.bs⟩
   ·intro g hg;rcases ng g hg with e|e
    ·exact yT g e
    ·have bJ:∀v l,Own (ak .u8) 5 w0.heap.size w v l->v.ownBlock≠some g:=fun v l hv e'=>by have:=(hv.block e').2;have:=eA.fr.size;omega
     refine⟨bJ _ _ hd.jT.o,?_⟩
     show d.fd.ownBlock≠some g
     cases jx:d.fr with
     |none=>unfold TD.fd;rw [jx];intro h;cases h
     |some y=>
      obtain⟨kd,A,C,ld⟩:=y;obtain⟨_,_,_,_,h5⟩:=hd.Oh kd A C ld jx;unfold TD.fd;rw [jx];exact bJ _ _ h5
   ·intro k hk;rcases hk with hk|hk|hk|hk|hk|hk|hk|hk|hk
    ·exact .inl (.inl hk)
    ·exact .inl (.inr (.inl hk))
    ·exact .inl (cu (.inl hk))
    ·exact .inl (dS (.inl hk))
    ·exact .inl (iO (.inl hk))
    ·rcases ng k hk with e|e
     ·exact .inl (gd (.inl e))
     ·exact .inr e
    ·cases hk
    ·cases hk
    ·cases hk
   ·exact ng
   ·unfold TD.FM;rw [K0];simp
 ·refine⟨1,107,_,rfl,Aw func107 K_ rfl,(nD w1).mono ?_⟩;rintro e w' ⟨rfl,rfl⟩;exact⟨rfl,_,0,0,S,Q,M,n,tt,o,dn,d,O,N,H.new n1,dJ.refl n1,Fr.refl _ _,hd.new n1,yT,rfl,rfl,fun _ h=>.inl h,fun _ h=>.inl h,hL.new n1,O_,fun _=>O_,O_,O_,O_⟩
 ·refine⟨2,115,_,rfl,Aw func115 K_ rfl,?_⟩;have np:=hd.new n1;refine(FL (n1.ai ht) _ i (ve O_) _ dn (n1.ai H.dF) (hL.new n1) hN d.Og np.nd.rd hd.nok (by have:=hd.nl;omega) ak9).mono ?_;rintro e w' ⟨rfl,O',N',NP,hN',vU⟩;refine⟨rfl,w1,0,0,S,Q,M,n,tt,o,dn,d,O',N',H.new n1,dJ.refl n1,vU.mono fun k _ hk=>hk.elim (fun e=>dS (.inl e)) fun e=>iO e,np.fr vU (fun k hk e=>e.elim (bV k hk).1 (bV k hk).2),yT,rfl,rfl,fun _ h=>.inl h,fun _ h=>.inl h,NP,hN',fun h=>absurd rfl h,O_,O_,O_⟩
end
theorem uy.fr {w w':World}{xs:Nat}{R:Nat->Prop}:∀{o:Vo},uy w o->Fr R w w'->(∀k,dp xs o k->¬R k)->uy w' o
 |none,_,_,_=>trivial
 |some (v,x,_,_),h,hf,hR=>⟨hf.ai h.1 (hR v (.inr (.inl rfl))),h.2.1.fr hf (hR x (cu (.inl rfl))) fun b hb=>hR b (dS hb),h.2.2⟩
section
variable{w0 w w':World}{xs:Nat}{o:Vo}{dn:Bool}{lk:Nat}{a b:Int}{d:TD}
def afD(w0 w w':World) (xs lk:Nat) (a b:Int) (d:TD):Prop:=
 ∃(q m:Nat) (d':TD),Fr (fun k=>k=d.t\/d.out.ownBlock=some k) w w'/\uZ w0.heap.size w' d' xs lk a b/\d'.oa/\d'.t=d.t/\d'.sp=d.sp/\(∀k,d'.eX k->d.eX k\/w.heap.size<=k)/\(∀g,d'.out.ownBlock=some g->d.out.ownBlock=some g\/w.heap.size<=g)/\
  d'.FM+2*q<=d.FM/\d'.lo.length<=d.lo.length+m*100002/\m<=q/\q<=1
theorem K4(hE:fG w0) (iP:ae w0 w) (hd:uZ w0.heap.size w d xs lk a b) (yT:d.oa) (K0:d.bz=false) {kd:Int}{A:Option Addr}{C:Nat}{ld:List UInt8}(jx:d.fr=some (kd,A,C,ld)) (bx:Value) (i:Int) (hs:mV w xs bx i (ot o) dn) (hv:uy w o) (hM:∀k,dp xs o k->k≠d.t)
 (h0:0<a) (h1:a<=1000) (h3:b<=1000) (gn:0<=i) (iF:i<b) (fi:d.lo.length<=100000000000000):
 H_ 110 #[Q_ d.t] w fun e w'=>e=.returned (.tuple #[])/\afD w0 w w' xs lk a b d:=by
 obtain⟨eA,pR,LD,hah,hdd⟩:=hd.Oh kd A C ld jx;by_cases kI:kd=2
 ·subst kI;refine(FH hE.t iP hd.bt hd.s_ w0.heap.size w0.heap.size A C ld.length hah d.lo hd.out fi iP.size).mono ?_;rintro e w' ⟨rfl,eh,iR,Jr,Ea,Ln,vU,ng⟩;have db:∀k,d.rest k->¬(k=d.t\/d.out.ownBlock=some k):=fun k hk e=>e.elim (hd.rz yT hk).1 (hd.rz yT hk).2;refine⟨rfl,1,1,{d with ah:=Z_,fr:=none,out:=eh,lo:=iR},vU,?_,?_,rfl,rfl,?_,ng,?_,by simpa using Ln,O_,O_⟩
  ·exact⟨Jr,hd.jT.fr vU (db _ (.inl rfl)) (fun g hg=>db g (.inr (.inl hg))),hd.lb,fun _=>rfl,(fun _ _ _ _ h=>by cases h),hd.nd.fr vU (fun g hg=>db g (iO (.inl hg))),hd.nok,hd.nl,
    hd.cmd.du vU (fun g hg=>db g (gd (.inl hg))) (fun g hg=>db g (lX hg)),hd.ms,Ea,hd.ts,hd.bt,hd.bs⟩
  ·intro g hg;refine⟨?_,fun h=>by cases h⟩;rcases ng g hg with e|e
   ·exact(yT g e).1
   ·intro e';have:=(hd.jT.o.block e').2;omega
  ·intro k hk;rcases hk with hk|hk|hk|hk|hk|hk|hk|hk|hk
   ·exact .inl (.inl hk)
   ·exact .inl (.inr (.inl hk))
   ·exact .inl (cu (.inl hk))
   ·cases hk
   ·cases hk
   ·exact(ng k hk).imp (fun e=>gd (.inl e)) id
   ·exact .inl (lX (.inl hk))
   ·exact .inl (VL (.inl hk))
   ·exact .inl (Sq hk)
  ·unfold TD.FM;rw [jx];simp;omega
 ·refine(Np hE iP hd.bt hd.s_ bx i o dn hs hv (fun w' h=>hv.fr (xs:=xs) h hM) w0.heap.size w0.heap.size kd O_ A C ld LD hah hdd h0 h1 h3 gn iF).mono ?_;rintro e w' ⟨rfl,vU,cc,Tx,nd',ak_,Jr,Rf,Gd,gT,ala,hnl⟩;have db:∀k,d.rest k->¬(k=d.t):=fun k hk=>(hd.rz yT hk).1;have hot:∀g,d.out.ownBlock=some g->¬(g=d.t):=fun g hg e=>hd.out.ar hd.s_ D_ (by rw [hg,e]);refine⟨rfl,0,0,{d with bz:=true,c:=cc,ms:=Tx,nd:=nd',Og:=ak_,ah:=Z_,fr:=none},vU.mono fun _ _ e=>.inl e,?_,?_,rfl,rfl,?_,fun _ h=>.inl h,?_,S_,O_,O_⟩
  ·exact⟨Jr,hd.jT.fr vU (db _ (.inl rfl)) (fun g hg=>db g (.inr (.inl hg))),hd.lb,fun _=>rfl,(fun _ _ _ _ h=>by cases h),gT.mono iP.size,ala,hnl,Rf.base iP.size,Gd,hd.out.fr vU (fun g hg=>hot g hg),hd.ts,hd.bt,hd.bs⟩
  ·exact fun g hg=>⟨(yT g hg).1,fun h=>by cases h⟩
  ·intro k hk;obtain⟨s,Iy,_⟩:=Rf.set;obtain⟨l,_,_,hl5⟩:=Rf.yz;rcases hk with hk|hk|hk|hk|hk|hk|hk|hk|hk
   ·exact .inl (.inl hk)
   ·exact .inl (.inr (.inl hk))
   ·exact .inl (cu (.inl hk))
   ·cases hk
   ·cases hk
   ·exact .inl (gd (.inl hk))
   ·exact .inr (gT.block hk).1
   ·exact .inr (Iy.block hk).1
   ·exact .inr (hl5 k hk).1
  ·unfold TD.FM;rw [jx,K0];simp
end
theorem uZ.Sr {B:Nat}{w w1:World}{d:TD}{x lk:Nat}{a b:Int}(h:uZ B w d x lk a b) (ho:d.oa) (hB:B<=w.heap.size) (hf:Fr (fun k=>k=d.t\/k=d.sp) w w1) {v':Value}{l':List UInt8}{a' k':Int}(lM:lg w1 d.sp B v' l' a' k') (gK:l'.length<=d.l.length) (DD:v'=d.sv\/∀g,v'.ownBlock=some g->w.heap.size<=g)
 (X7:Option (Int×Option Addr×Nat×List UInt8)) (ah:Value) (EU:gO w1 d.t d.bz d.c d.ms d.nd x d.sp lk a b ah d.out) (h0:X7=none->ah=Z_)
 (h1:∀kd A C ld,X7=some (kd,A,C,ld)->1<=kd/\kd<=4/\ld.length<=5000/\Own im 174 w.heap.size w1 ah [⟨kd,A,ld.length,C⟩]/\Own (ak .u8) 5 w.heap.size w1 (X_ A ld.length C) (nums ld)):
 uZ B w1 {d with sv:=v',l:=l',sa:=a',sk:=k',ah:=ah,fr:=X7} x lk a b/\TD.oa {d with sv:=v',l:=l',sa:=a',sk:=k',ah:=ah,fr:=X7}/\∀k,TD.eX {d with sv:=v',l:=l',sa:=a',sk:=k',ah:=ah,fr:=X7} k->d.eX k\/w.heap.size<=k:=by
 have hot:∀g,d.out.ownBlock=some g->¬(g=d.t\/g=d.sp):=fun g hg e=>by
  obtain⟨_,hb⟩:=h.jT.b;rcases e with e|e
  ·exact h.out.ar h.s_ D_ (by rw [hg,e])
  ·exact h.out.ar hb D_ (by rw [hg,e])
 have db:∀k,(d.nd.ownBlock=some k\/(Value.slice d.c.sA d.c.sn d.c.sc).ownBlock=some k\/(Value.slice d.c.dA d.c.dn d.c.dc).ownBlock=some k)->¬(k=d.t\/k=d.sp):=fun k hk e=>by
  obtain⟨_,hb⟩:=h.jT.b
  have E7:∃ty cs,af w k ty cs/\(ty=131\/ty=176):=by
   rcases e with e|e
   ·exact⟨_,_,e▸h.s_,.inl rfl⟩
   ·exact⟨_,_,e▸hb,.inr rfl⟩
  obtain⟨ty,cs,hc,E7⟩:=E7;rcases hk with hk|hk|hk
  ·exact h.nd.ar hc (by rcases E7 with e|e<;>rw [e]<;>decide) hk
  ·obtain⟨s,hs,_⟩:=h.cmd.set;exact hs.ar hc (by rcases E7 with e|e<;>rw [e]<;>decide) hk
  ·obtain⟨l,_,_,h3⟩:=h.cmd.yz;exact(h3 k hk).2.ne hc rfl
 refine⟨⟨EU,lM,gy gK h.lb,h0,fun kd A C ld e=>?_,h.nd.fr hf fun g hg=>db g (.inl hg),h.nok,h.nl,h.cmd.du hf (fun g hg=>db g (.inr (.inl hg))) (fun g hg=>db g (.inr (.inr hg))),h.ms,h.out.fr hf fun g hg=>hot g hg,h.ts,h.bt,h.bs⟩,fun g hg=>⟨?_,?_⟩,fun k hk=>?_⟩
 ·obtain⟨c1,c2,c3,c4,c5⟩:=h1 kd A C ld e;exact⟨c1,c2,c3,c4.mono hB,c5.mono hB⟩
 ·rcases DD with e|e
  ·show v'.ownBlock≠some g
   rw [e];exact(ho g hg).1
  ·intro e';have:=e g e';have:=(h.out.block hg).2;omega
 ·intro e'
  cases jx:X7 with
  |none=>unfold TD.fd at e';rw [jx]at e';cases e'
  |some y=>
   obtain⟨kd,A,C,ld⟩:=y;obtain⟨_,_,_,_,c5⟩:=h1 kd A C ld jx;unfold TD.fd at e';rw [jx]at e';have:=(c5.block e').1;have:=(h.out.block hg).2;omega
 ·rcases hk with hk|hk|hk|hk|hk|hk|hk|hk|hk
  ·exact .inl (.inl hk)
  ·exact .inl (.inr (.inl hk))
  ·rcases DD with e|e
   ·exact .inl (cu (.inl (by rw [<-e];exact hk)))
   ·exact .inr (e k hk)
  ·cases jx:X7 with
   |none=>rw [show TD.ah _=ah from rfl,h0 jx]at hk;cases hk
   |some y=>
    obtain⟨kd,A,C,ld⟩:=y;obtain⟨_,_,_,c4,_⟩:=h1 kd A C ld jx;exact .inr (c4.block hk).1
  ·cases jx:X7 with
   |none=>unfold TD.fd at hk;rw [jx]at hk;cases hk
   |some y=>
    obtain⟨kd,A,C,ld⟩:=y;obtain⟨_,_,_,_,c5⟩:=h1 kd A C ld jx;unfold TD.fd at hk;rw [jx]at hk;exact .inr (c5.block hk).1
  ·exact .inl (gd (.inl hk))
  ·exact .inl (lX (.inl hk))
  ·exact .inl (VL (.inl hk))
  ·exact .inl (Sq hk)
section
variable{w0 w w':World}{base:Nat}{S:Sx}{Q:Qs}{M:List bU}{n tt f i:Int}{xs:Nat}{o:Vo}{dn:Bool}{lk bm:Nat}{a b:Int}{O:List Int}{N:Int}{d:TD}
theorem rD.FO {w1:World}{d1:TD}(H:SO w0 base w S Q M n tt f i xs o dn) (hL:gu w lk bm O N) (F9:Fr (fun k=>k=d.t\/k=d.sp) w w1) (e1:d1.t=d.t) (e2:d1.sp=d.sp) (e3:d1.out=d.out) (e4:d1.lo=d.lo) (Pq:∀k,d1.eX k->d.eX k\/w.heap.size<=k) (QQ:d1.FM<=d.FM)
 (bV:∀k,d.eX k->k≠lk/\k≠bm) (h:afD w0 w1 w' xs lk a b d1):rD w0 base w w' S Q n f i xs o lk bm a b N d 2:=by
 obtain⟨q,m,d',hf,hd,ho,e5,e6,hp,hg,h1,h2,h3,h4⟩:=h;have hs:=F9.size;rw [e1,e3]at hf;have Tj:Fr (fun k=>k=d.t\/k=d.sp\/d.out.ownBlock=some k) w w':=Fr.trans (F9.mono fun k _ hk=>hk.elim .inl fun hk=>.inr (.inl hk)) (hf.mono fun k _ hk=>hk.elim .inl fun hk=>.inr (.inr hk))
 have xT:∀k,(k=d.t\/k=d.sp\/d.out.ownBlock=some k)->d.eX k:=fun k e=>by
  rcases e with e|e|e
  ·exact .inl e
  ·exact .inr (.inl e)
  ·exact gd (.inl e)
 refine⟨w,q,m,S,Q,M,n,tt,o,dn,d',O,N,H,(dJ.refl (ae.refl _)).xE O_ O_ (fun _ _ h=>h),Tj.mono fun k _ hk=>?_,hd,ho,e5.trans e1,e6.trans e2,fun k hk=>?_,fun g hg'=>?_,hL.fr Tj (fun e=>(bV _ (xT _ e)).1 rfl) (fun e=>(bV _ (xT _ e)).2 rfl),O_,fun _=>O_,O_,by rw [e4]at h2;exact h2,O_⟩
 ·rcases hk with hk|hk|hk
  ·exact .inl hk
  ·exact .inr (.inl hk)
  ·exact cu (.inl hk)
 ·rcases hp k hk with h5|h5
  ·exact Pq k h5
  ·exact .inr (gy hs h5)
 ·rcases hg g hg' with h5|h5
  ·rw [e3]at h5;exact .inl h5
  ·exact .inr (gy hs h5)
theorem Nw(hE:fG w0) (H:SO w0 base w S Q M n tt f i xs o dn) (hn:n<=5000) (hb:b<=1000) (ha:0<a/\a<=1000) (oR:i<b)
 (hd:uZ w0.heap.size w d xs lk a b) (yT:d.oa) (K0:d.bz=false) (hL:gu w lk bm O N) (fi:d.lo.length<=100000000000000)
 (hF:∀k,d.eX k\/k=lk\/k=bm->¬(S.aB Q k\/dp xs o k\/False)) (bV:∀k,d.eX k->k≠lk/\k≠bm):
 H_ 54 #[Q_ d.t] w fun e w'=>∃r,e=.returned (I_ r)/\rD w0 base w w' S Q n f i xs o lk bm a b N d r:=by
 have afE:=H.ib;have ht:=hd.s_;rw [K0]at ht;have iP:=H.st.new;have UT:=H.vwa hn;have oW:=H.dF;have hMt:∀k,dp xs o k->k≠d.t/\k≠d.sp:=fun k hk=>⟨fun e=>hF d.t (.inl (.inl rfl)) (.inr (.inl (e▸hk))),fun e=>hF d.sp (.inl (.inr (.inl rfl))) (.inr (.inl (e▸hk)))⟩
 have alc:∀{w1},ae w w1->rD w0 base w w1 S Q n f i xs o lk bm a b N d 0:=fun n1=>
  ⟨_,0,0,S,Q,M,n,tt,o,dn,d,O,N,H.new n1,dJ.refl n1,Fr.refl _ _,hd.new n1,yT,rfl,rfl,fun _ h=>.inl h,fun _ h=>.inl h,hL.new n1,O_,fun _=>O_,O_,O_,O_⟩
 cases hdn:dn with
 |true=>
  rw [hdn]at oW;refine ry (xJ ht _ i _ oW) ?_;rintro e w1 ⟨rfl,n1⟩;refine⟨0,107,_,rfl,Aw func107 K_ rfl,(nD w1).mono ?_⟩;rintro e w' ⟨rfl,rfl⟩;exact⟨rfl,alc n1⟩
 |false=>
  rw [hdn]at oW
  cases jx:d.fr with
  |some y=>
   obtain⟨kd,A,C,ld⟩:=y;obtain⟨_,_,_,hah,_⟩:=hd.Oh kd A C ld jx;refine ry (uB _ _ ht _ i _ oW hah) ?_;rintro e w1 ⟨rfl,n1⟩;have np:=hd.new n1;have H1:=H.new n1;refine⟨2,110,_,rfl,Aw func110 K_ rfl,(K4 hE H1.st.new np yT K0 jx _ i H1.dF (H1.vwa hn) (fun k hk=>(hMt k hk).1) ha.1 ha.2 hb afE.1 oR fi).mono ?_⟩;rintro e w' ⟨rfl,hB⟩;exact⟨rfl,rD.FO (d1:=d) H hL (ae.to n1) rfl rfl rfl rfl (fun _ h=>.inl h) (aA _) bV hB⟩
  |none=>
   have hah:=hd.fr0 jx;rw [hah]at ht;refine ry (yS hE iP hd.bs iP.size (by have:=hd.lb;omega) ht _ i _ oW hd.jT hd.ts) ?_;rintro e w1 ⟨iE,v',l',a',k',lM,gK,DD,⟨rfl,EU,hle⟩|⟨kd,dA,dC,ld,ah,rfl,eA,pR,hle,LD,EU,fV,np⟩⟩
   ·refine⟨0,107,_,rfl,Aw func107 K_ rfl,(nD w1).mono ?_⟩;rintro e w' ⟨rfl,rfl⟩;rw [<-K0]at EU;obtain⟨g1,g2,g3⟩:=hd.Sr yT iP.size iE lM gK DD none Z_ EU (fun _=>rfl) (fun _ _ _ _ h=>by cases h);refine⟨rfl,w,0,0,S,Q,M,n,tt,o,dn,_,O,N,H,dJ.refl (ae.refl _),iE.mono fun k _ hk=>hk.elim .inl fun hk=>.inr (.inl hk),g1,g2,rfl,rfl,g3,fun _ h=>.inl h,hL.fr iE ?_ ?_,O_,fun _=>O_,?_,Nat.le_add_right _ _,O_⟩
    ·rintro(e|e)
     ·exact(bV _ (.inl rfl)).1 e.symm
     ·exact(bV _ (.inr (.inl rfl))).1 e.symm
    ·rintro(e|e)
     ·exact(bV _ (.inl rfl)).2 e.symm
     ·exact(bV _ (.inr (.inl rfl))).2 e.symm
    ·unfold TD.FM;rw [jx,K0];simp;omega
   ·refine⟨2,110,_,rfl,Aw func110 K_ rfl,?_⟩;have hlb:=hd.lb;rw [<-K0]at EU;obtain⟨g1,g2,g3⟩:=hd.Sr yT iP.size iE lM gK DD (some (kd,dA,dC,ld)) ah EU (fun h=>by cases h) (fun kd' A' C' ld' e=>by injection e with e;injection e with e1 e;injection e with e2 e;injection e with e3 e4;subst e1 e2 e3 e4;exact⟨eA,pR,O_,fV,np⟩);have hMs:∀k,dp xs o k->¬(k=d.t\/k=d.sp):=fun k hk e=>e.elim (hMt k hk).1 (hMt k hk).2;have fB:=iE.ai H.dF (fun e=>hMs xs (by cases o<;>first|rfl|exact .inl rfl) e);have br:=ae.two iP iE fun k hk=>by rcases hk with rfl|rfl;exact hd.bt;exact hd.bs
    rw [hdn]at fB;refine(K4 hE br g1 g2 K0 (kd:=kd) (A:=dA) (C:=dC) (ld:=ld) rfl _ i fB (UT.fr iE hMs) (fun k hk=>(hMt k hk).1) ha.1 ha.2 hb afE.1 oR fi).mono ?_;rintro e w' ⟨rfl,hB⟩;refine⟨rfl,rD.FO (d1:={d with sv:=v',l:=l',sa:=a',sk:=k',ah:=ah,fr:=some (kd,dA,dC,ld)}) H hL iE rfl rfl rfl rfl g3 ?_ bV hB⟩;have hsa:=lM.a0
    show((l'.length:Int)-a').toNat+2+(if d.bz then 2 else 0)<=((d.l.length:Int)-d.sa).toNat+(if d.fr.isSome then 2 else 0)+(if d.bz then 2 else 0)
    omega
theorem Ss(hE:fG w0) (H:SO w0 base w S Q M n tt f i xs o dn) (hn:n<=5000) (Vy:∀j,(Q.l j).length<=90000000) (hq:Q.ids.length<=1000) (iW:S.cap<=1000) (hf:0<=f/\f<=4294967295) (hb:b<=1000) (ha:0<a/\a<=1000) (oR:i<b)
 (hd:uZ w0.heap.size w d xs lk a b) (yT:d.oa) (hL:gu w lk bm O N) (hN:N<90000) (fi:d.lo.length<=100000000000000)
 (hF:∀k,d.eX k\/k=lk\/k=bm->¬(S.aB Q k\/dp xs o k\/False)) (bV:∀k,d.eX k->k≠lk/\k≠bm):
 H_ 54 #[Q_ d.t] w fun e w'=>∃r,e=.returned (I_ r)/\rD w0 base w w' S Q n f i xs o lk bm a b N d r:=by
 cases K0:d.bz with
 |true=>exact Nv hE H hn Vy hq iW hf hd yT K0 hL hN fi hF bV
 |false=>exact Nw hE H hn hb ha oR hd yT K0 hL fi hF bV
end
abbrev Sx.zz (S:Sx) (z:Nat->Prop):Sx:={S with T:={S.T with z:=z}}
section
variable{w0 w w':World}{base:Nat}{S:Sx}{Q:Qs}{M:List bU}{n t f:Int}{B N:Nat}{xs:Nat->Nat}{o:Nat->Vo}{dn:Nat->Bool}{R:Nat->Prop}
theorem cn.write (h:cn w0 base w S Q M n t f) (z:Nat->Prop) (hf:Fr R w w') (hR:∀k,R k->¬S.aB Q k/\w0.heap.size<=k)
 (hB:∀k,R k->S.T.z k\/∀v l,Own (ak .u8) 5 base w v l->v.ownBlock≠some k) (hz:∀k,z k->S.T.z k\/(w.heap.size<=k/\k<w'.heap.size)):cn w0 base w' (S.zz z) Q M n t f:=by
 obtain⟨X,pE,hX⟩:=h.tK;have hX':=hX.fr2 hf (fun k hk hT=>(hR k hk).1 (.inl hT)) fun x hx b hb hr=>(hB b hr).elim (hX.bz x hx b hb) fun h2=>h2 _ _ (hX.body x hx) hb;have db:∀k,S.aB Q k->¬R k:=fun k hk hr=>(hR k hr).1 hk
 exact{h with
  hd:=hf.ai h.hd (db _ (.inr (.inl rfl)))
  tK:=⟨X,pE,{hX' with
   bz:=fun x hx b hb hz'=>(hz b hz').elim (hX.bz x hx b hb) fun h2=>by have:=((hX.body x hx).block hb).2;omega
   zt:=fun k hk=>(hz k hk).elim (fun h2=>fw (hX.zt k h2) hf.size) fun h2=>h2.2}⟩
  tO:=hf.ai h.tO (db _ (cu (.inl rfl)))
  idx:=h.idx.fr hf (db _ (dS (.inl rfl))) fun b hb=>db _ (iO (.inl hb))
  qx:=h.qx.fr hf (db _ (gd (.inl rfl))) fun k hk=>db _ (lX hk)
  hb:=gy h.hb hf.size
  new:=ae.two h.new hf fun k hk=>(hR k hk).2}
theorem SO.zz {S':Sx}{i:Int}{xs:Nat}{b:Bool}:∀{o:Vo},SO w0 base w S Q M n t f i xs o b->cn w0 base w' S' Q M n t f->S'.s=S.s->(∀k,S'.aB Q k->S.aB Q k)->Fr R w w'->(∀k,dp xs o k->¬R k)->SO w0 base w' S' Q M n t f i xs o b:=
 fun h bT hs mv hf hR=>h.turn bT hs hf hR (fun k hk=>.inl (mv k hk)) (gq _) ou fun _ h=>.inl h
theorem Hs.write (h:Hs w0 base w S Q M n t f B N xs o dn) (h0:0<N) (z:Nat->Prop) (hf:Fr R w w') (hR:∀k,R k->¬S.aB Q k/\w0.heap.size<=k) (hM:∀k,R k->∀j,j<N->¬dp (xs j) (o j) k)
 (hB:∀k,R k->S.T.z k\/∀v l,Own (ak .u8) 5 base w v l->v.ownBlock≠some k) (hz:∀k,z k->S.T.z k\/(w.heap.size<=k/\k<w'.heap.size)):Hs w0 base w' (S.zz z) Q M n t f B N xs o dn:=
 ⟨fun i hi=>(h.so i hi).zz ((h.so 0 h0).st.write z hf hR hB hz) rfl (fun _ h=>h) hf fun k hk hr=>hM k hr i hi hk,h.ap,h.qi,h.ql⟩
theorem Hs.up {B':Nat}(h:Hs w0 base w S Q M n t f B N xs o dn) (hB:∀j,(Q.l j).length<=B'):Hs w0 base w S Q M n t f B' N xs o dn:=⟨h.so,h.ap,h.qi,hB⟩
end
def sumN:Nat->(Nat->Nat)->Nat
 |0,_=>0
 |n+1,g=>sumN n g+g n
theorem K7{g h:Nat->Nat}:∀{n:Nat},(∀i,i<n->g i<=h i)->sumN n g<=sumN n h
 |0,_=>aA _
 |n+1,H=>Nat.add_le_add (K7 fun i hi=>H i O_) (H n O_)
theorem FQ{g h:Nat->Nat}{i c:Nat}:∀{n:Nat},i<n->(∀j,j≠i->h j=g j)->h i+c<=g i->sumN n h+c<=sumN n g
 |n+1,hi,H,hc=>by
  unfold sumN;by_cases e:i=n
  ·subst e;have:sumN i h<=sumN i g:=K7 fun j hj=>by rw [H j O_];exact aA _
   omega
  ·have h1:=FQ (n:=n) O_ H hc;rw [H n (fun h=>e h.symm)];omega
theorem FR{g:Nat->Nat}{i:Nat}:∀{n:Nat},i<n->g i<=sumN n g
 |n+1,hi=>by
  unfold sumN;by_cases e:i=n
  ·subst e;omega
  ·have:=FR (g:=g) (n:=n) (i:=i) O_;omega
structure SD where
 S:Sx
 Q:Qs
 M:List bU
 n:Int
 t:Int
 xs:Nat->Nat
 o:Nat->Vo
 dn:Nat->Bool
 O:List Int
 L:Int
 td:Nat->TD
 kk:Nat->Nat
 q:Nat
def TD.wr (d:TD) (k:Nat):Prop:=k=d.t\/k=d.sp\/d.out.ownBlock=some k
theorem TD.VM {d:TD}{k:Nat}(h:d.wr k):d.eX k:=by
 rcases h with h|h|h
 ·exact .inl h
 ·exact .inr (.inl h)
 ·exact gd (.inl h)
structure Ak(w0:World) (base N:Nat) (f:Int) (lk bm:Nat) (w:World) (D:SD):Prop where
 hs:Hs w0 base w D.S D.Q D.M D.n D.t f 90000000 N D.xs D.o D.dn
 tk:∀i,i<N->uZ w0.heap.size w (D.td i) (D.xs i) lk 3 N
 oa:∀i,i<N->(D.td i).oa
 kK:gu w lk bm D.O D.L
 pr:∀i,i<N->∀k,(D.td i).eX k->¬D.S.aB D.Q k/\w0.heap.size<=k/\k<w.heap.size/\k≠lk/\k≠bm/\∀j,j<N->¬dp (D.xs j) (D.o j) k
 pl:∀k,k=lk\/k=bm->¬D.S.aB D.Q k/\w0.heap.size<=k/\∀j,j<N->¬dp (D.xs j) (D.o j) k
 ap:∀i,i<N->∀j,j<N->i≠j->∀k,(D.td i).wr k->¬(D.td j).eX k
 zo:∀i,i<N->∀k,(D.td i).out.ownBlock=some k->D.S.T.z k
 nn:D.n<=1+D.q
 ph:2*D.q+sumN N (fun i=>(D.td i).FM)<=4000
 kl:∀i,i<N->(D.td i).lo.length<=100002*D.kk i
 kq:∀i,i<N->D.kk i+2*(D.Q.l i).length<=210001*D.q
 ql:∀j,(D.Q.l j).length<=5000*D.q
 cap:D.S.cap<=1000
 n8:0<N/\N<=1000
 fb:0<=f/\f<=4294967295
def oE(ty:TypeId):Prop:=ty=3\/ty=74\/ty=73\/ty=26
theorem oE.ne {ty t:TypeId}(h:oE ty) (ht:¬oE t):ty≠t:=fun e=>ht (e▸h)
def Ub(w0:World) (base bm q:Nat) (w:World) (k:Nat):Prop:=w0.heap.size<=k/\(k<base\/k=bm\/k=q\/∃ty cs,af w k ty cs/\¬oE ty)
def St(w0:World) (base N:Nat) (f:Int) (lk bm:Nat) (w w':World) (D:SD) (r:Int):Prop:=
 ∃D',Ak w0 base N f lk bm w' D'/\D'.L<=D.L+1/\(r≠2->D'.L<=D.L)/\Fr (Ub w0 base bm D.S.q w) w w'/\D'.S.q=D.S.q/\(∀j,(D'.td j).t=(D.td j).t)/\∀j,j<N->∀k,(D'.td j).eX k->(D.td j).eX k\/w.heap.size<=k
theorem cn.VN {w0 w:World}{base:Nat}{S:Sx}{Q:Qs}{M:List bU}{n t f:Int}(h:cn w0 base w S Q M n t f) {k:Nat}(hk:S.aB Q k):k<base\/k=S.q\/∃ty cs,af w k ty cs/\¬oE ty:=by
 have hT:∀{ty cs},af w k ty cs->base<=k->¬oE ty:=fun hc hb ht=>h.aX hc hb (ht.ne (by unfold oE;decide)) (ht.ne (by unfold oE;decide)) (ht.ne (by unfold oE;decide)) (ht.ne (by unfold oE;decide)) (ht.ne (by unfold oE;decide)) (ht.ne (by unfold oE;decide)) hk;by_cases hb:k<base
 ·exact .inl hb
 by_cases hq:k=S.q
 ·exact .inr (.inl hq)
 have hc:∃ty cs,af w k ty cs:=by
  rcases hk with h1|rfl|rfl|rfl|h1|h1|h1
  ·have:=h1.2;have:=h.hi;omega
  ·exact⟨_,_,h.hd⟩
  ·exact⟨_,_,h.tO⟩
  ·exact⟨_,_,h.idx.1⟩
  ·obtain⟨cs,hc⟩:=h.idx.2.1.heap h1;exact⟨_,_,hc⟩
  ·exact absurd h1 hq
  ·obtain⟨i,hi,rfl|hv⟩:=h1
   ·exact⟨_,_,(h.qx.nM i hi).ai⟩
   ·obtain⟨cs,hc⟩:=(h.qx.nM i hi).own.heap hv;exact⟨_,_,hc⟩
 obtain⟨ty,cs,hc⟩:=hc;exact .inr (.inr ⟨ty,cs,hc,hT hc O_⟩)
theorem uZ.lt {B:Nat}{w:World}{d:TD}{x lk:Nat}{a b:Int}(h:uZ B w d x lk a b) {k:Nat}(hk:d.eX k):k<w.heap.size:=by
 rcases hk with hk|hk|hk|hk|hk|hk|hk|hk|hk
 ·subst hk;exact af.lt h.s_
 ·subst hk;obtain⟨_,hb⟩:=h.jT.b;exact hb.lt
 ·exact(h.jT.o.block hk).2
 ·cases hf:d.fr with
  |none=>rw [h.fr0 hf]at hk;cases hk
  |some y=>
   obtain⟨kd,A,C,ld⟩:=y;exact((h.Oh kd A C ld hf).2.2.2.1.block hk).2
 ·cases hf:d.fr with
  |none=>unfold TD.fd at hk;rw [hf]at hk;cases hk
  |some y=>
   obtain⟨kd,A,C,ld⟩:=y;unfold TD.fd at hk;rw [hf]at hk;exact((h.Oh kd A C ld hf).2.2.2.2.block hk).2
 ·exact(h.out.block hk).2
 ·exact(h.nd.block hk).2
 ·obtain⟨s,hs,_⟩:=h.cmd.set;exact(hs.block hk).2
 ·obtain⟨l,_,_,h3⟩:=h.cmd.yz;exact(h3 k hk).2.lt
section
variable{w0 w w':World}{base N:Nat}{f:Int}{lk bm:Nat}{D:SD}{i:Nat}{r:Int}
theorem Ak.lt (h:Ak w0 base N f lk bm w D) {k:Nat}(hk:k=lk\/k=bm):k<w.heap.size:=by
 rcases hk with rfl|rfl
 ·exact h.kK.lt
 ·exact h.kK.ltm
theorem Ak.qq (h:Ak w0 base N f lk bm w D):D.q<=2000:=by have:=h.ph;omega
theorem Ak.nl (h:Ak w0 base N f lk bm w D):D.n<=5000:=by have:=h.qq;have:=h.nn;omega
theorem Ak.step (h:Ak w0 base N f lk bm w D) (hi:i<N) (hs:rD w0 base w w' D.S D.Q D.n f i (D.xs i) (D.o i) lk bm 3 N D.L (D.td i) r):St w0 base N f lk bm w w' D r:=by
 obtain⟨w2,q,m,S',Q',M',n',t',o',dn',d',O',L',H2,hk,hf,hd,yT,et,es,hp,hg,hT,hN1,hN2,QQ,fi,hm⟩:=hs;have WC:=hk.fr.size;have Pz:=hf.size;have hqq:=h.qq;have bT:=(h.hs.so i hi).st
 have hq':D.q+q<=2000:=by
  have h1:=h.ph;have h2:=FR (g:=fun j=>(D.td j).FM) hi;omega
 have hRo:∀k,(k=(D.td i).t\/k=(D.td i).sp\/(D.td i).out.ownBlock=some k\/k=lk\/k=bm)->k<w.heap.size/\¬D.S.aB D.Q k/\w0.heap.size<=k/\∀j,j<N->¬dp (D.xs j) (D.o j) k:=fun k hk=>by
  have xT:(D.td i).eX k->k<w.heap.size/\¬D.S.aB D.Q k/\w0.heap.size<=k/\∀j,j<N->¬dp (D.xs j) (D.o j) k:=fun hk=>by
   obtain⟨p1,p2,p3,_,_,p6⟩:=h.pr i hi k hk;exact⟨p3,p1,p2,p6⟩
  rcases hk with e|e|e|e
  ·exact xT (.inl e)
  ·exact xT (.inr (.inl e))
  ·exact xT (gd (.inl e))
  ·exact⟨h.lt e,h.pl k e⟩
 have hgr:∀k,k<w.heap.size->¬D.S.aB D.Q k->¬S'.aB Q' k:=fun k h1 h2 h3=>(hk.gr k h3).elim h2 fun h4=>O_
 have hmn:∀k,k<w.heap.size->(∀j,j<N->¬dp (D.xs j) (D.o j) k)->∀j,j<N->¬dp (D.xs j) ((fun j=>if j=i then o' else D.o j) j) k:=fun k h1 h2 j hj h3=>by
  by_cases e:j=i
  ·subst e;rw [show((fun j'=>if j'=j then o' else D.o j') j)=o' from if_pos rfl]at h3;exact(hk.mg k h3).elim (h2 j hj) fun h4=>O_
  ·rw [show((fun j'=>if j'=i then o' else D.o j') j)=D.o j from if_neg e]at h3;exact h2 j hj h3
 have Ic:∀k,k<w.heap.size->¬D.S.aB D.Q k->(∀j,j<N->¬dp (D.xs j) (D.o j) k)->¬(D.S.aB D.Q k\/dp (D.xs i) (D.o i) k\/False):=fun k _ h2 h3 h4=>h4.elim h2 fun h5=>h5.elim (h3 i hi) id
 have eP:∀k,(k=(D.td i).t\/k=(D.td i).sp\/(D.td i).out.ownBlock=some k\/k=lk\/k=bm)->S'.T.z k\/∀v l,Own (ak .u8) 5 base w2 v l->v.ownBlock≠some k:=fun k gX=>by
  obtain⟨q1,q2,q3,q4⟩:=hRo k gX;have br:=Ic k q1 q2 q4;rcases gX with e|e|e|e|e
  ·subst e;exact .inr fun v l hv=>hv.ar (hk.fr.ai (h.tk i hi).s_ br) D_
  ·subst e;obtain⟨_,hb⟩:=(h.tk i hi).jT.b;exact .inr fun v l hv=>hv.ar (hk.fr.ai hb br) D_
  ·refine .inl ?_;rw [hk.tt.1];exact h.zo i hi k e
  ·subst e;exact .inr fun v l hv=>hv.ar (hk.fr.ai h.kK.ai br) D_
  ·subst e;obtain⟨ml,gE,_⟩:=h.kK.map;refine .inr fun v l hv e=>?_;obtain⟨cs,hc⟩:=hv.heap e;exact(gE.fr hk.fr br).aD hc rfl
 have fW:=h.hs.step hi H2 hk
 have Th:∀j,(Q'.l j).length<=5000*(D.q+q):=fun j=>by
  have h1:=h.ql j;by_cases e:j=(i:Int)
  ·subst e;have:=hk.own;omega
  ·obtain⟨_,K,e1,e2,_⟩:=hk.yO j e;rw [e1,dr];omega
 have jy:=(fW.up (B':=90000000) fun j=>by have:=Th j;omega).write h.n8.1 (fun k=>S'.T.z k\/(d'.out.ownBlock=some k)) hf
  (fun k gX=>by obtain⟨q1,q2,q3,q4⟩:=hRo k gX;exact⟨hgr k q1 q2,q3⟩) (fun k gX=>by obtain⟨q1,q2,q3,q4⟩:=hRo k gX;exact hmn k q1 q4) eP
  fun k gX=>gX.elim .inl fun e=>(hg k e).elim (fun e2=>.inl (by rw [hk.tt.1];exact h.zo i hi k e2)) fun e2=>.inr ⟨e2,(hd.out.block e).2⟩
 have htd:∀j,j≠i->(fun j=>if j=i then d' else D.td j) j=D.td j:=fun j e=>if_neg e;have aaO:(fun j=>if j=i then d' else D.td j) i=d':=if_pos rfl;have iK:Fr (fun k=>(D.S.aB D.Q k\/dp (D.xs i) (D.o i) k\/False)\/(k=(D.td i).t\/k=(D.td i).sp\/(D.td i).out.ownBlock=some k\/k=lk\/k=bm)) w w':=Fr.trans (hk.fr.mono fun _ _ e=>.inl e) (hf.mono fun _ _ e=>.inr e)
 have hpj:∀j,j<N->∀k,((fun j=>if j=i then d' else D.td j) j).eX k->(D.td j).eX k\/w2.heap.size<=k:=fun j hj k gX=>by
  by_cases e:j=i
  ·subst e;rw [aaO]at gX;exact hp k gX
  ·rw [htd j e]at gX;exact .inl gX
 have hpw:∀j,j<N->∀k,((fun j=>if j=i then d' else D.td j) j).eX k->k<w'.heap.size:=fun j hj k gX=>by
  by_cases e:j=i
  ·subst e;rw [aaO]at gX;exact hd.lt gX
  ·rw [htd j e]at gX;have:=(h.pr j hj k gX).2.2.1;omega
 refine⟨{S:=S'.zz fun k=>S'.T.z k\/d'.out.ownBlock=some k,Q:=Q',M:=M',n:=n',t:=t',xs:=D.xs,o:=fun j=>if j=i then o' else D.o j,dn:=fun j=>if j=i then dn' else D.dn j,O:=O',L:=L',td:=fun j=>if j=i then d' else D.td j,kk:=fun j=>if j=i then D.kk i+m else D.kk j,q:=D.q+q},⟨jy,?_,?_,hT,?_,?_,?_,?_,?_,?_,?_,?_,Th,?_,h.n8,h.fb⟩,hN1,hN2,?_,hk.tt.2,?_,fun j hj k gX=>(hpj j hj k gX).imp id fun h5=>O_⟩
 ·intro j hj;by_cases e:j=i
  ·subst e
   show uZ _ _ (if j=j then d' else D.td j) _ _ _ _
   rw [if_pos rfl];exact hd
  ·show uZ _ _ (if j=i then d' else D.td j) _ _ _ _
   rw [if_neg e];refine(h.tk j hj).fr iK fun k gX rv=>?_;obtain⟨p1,p2,p3,p4,p5,p6⟩:=h.pr j hj k gX;rcases rv with rv|rv|rv|rv|rv|rv
   ·exact Ic k p3 p1 p6 rv
   ·exact h.ap i hi j hj (iX e) k (.inl rv) gX
   ·exact h.ap i hi j hj (iX e) k (.inr (.inl rv)) gX
   ·exact h.ap i hi j hj (iX e) k (.inr (.inr rv)) gX
   ·exact p4 rv
   ·exact p5 rv
 ·intro j hj;by_cases e:j=i
  ·subst e
   show(if j=j then d' else D.td j).oa
   rw [if_pos rfl];exact yT
  ·show(if j=i then d' else D.td j).oa
   rw [if_neg e];exact h.oa j hj
 ·intro j hj k gX;have h5:=hpw j hj k gX;rcases hpj j hj k gX with h6|h6
  ·obtain⟨p1,p2,p3,p4,p5,p6⟩:=h.pr j hj k h6;exact⟨hgr k p3 p1,p2,h5,p4,p5,hmn k p3 p6⟩
  ·have Ge:=bT.new.size;have eN:=h.lt (k:=lk) (.inl rfl);have WD:=h.lt (k:=bm) (.inr rfl);refine⟨fun h7=>?_,O_,h5,O_,O_,fun j' rG h7=>?_⟩
   ·have:=H2.st.fI h7;omega
   ·have:=(fW.so j' rG).lt k h7;omega
 ·intro k gX;obtain⟨q1,q2,q3,q4⟩:=hRo k (dS gX);exact⟨hgr k q1 q2,q3,hmn k q1 q4⟩
 ·intro a ha c hc hac k gX rv
  have hpa:((fun j=>if j=i then d' else D.td j) a).wr k->(D.td a).wr k\/w2.heap.size<=k:=fun h5=>by
   by_cases e:a=i
   ·subst e;rw [aaO]at h5;rcases h5 with h5|h5|h5
    ·exact .inl (.inl (by rw [h5,et]))
    ·exact .inl (.inr (.inl (by rw [h5,es])))
    ·exact(hg k h5).imp (fun h6=>.inr (.inr h6)) id
   ·rw [htd a e]at h5;exact .inl h5
  by_cases e:w2.heap.size<=k
  ·
   by_cases e1:a=i
   ·have e2:c≠i:=fun e2=>hac (e1.trans e2.symm);have h6:(if c=i then d' else D.td c).eX k:=rv;rw [if_neg e2]at h6;have:=(h.pr c hc k h6).2.2.1;omega
   ·have h6:(if a=i then d' else D.td a).wr k:=gX;rw [if_neg e1]at h6;have:=(h.pr a ha k (TD.VM h6)).2.2.1;omega
  ·exact h.ap a ha c hc hac k ((hpa gX).resolve_right e) ((hpj c hc k rv).resolve_right e)
 ·intro j hj k gX;by_cases e:j=i
  ·subst e;exact .inr (by have h6:=gX;simp only [if_pos]at h6;exact h6)
  ·have h6:=gX;simp only [if_neg e]at h6;exact .inl (by rw [hk.tt.1];exact h.zo j hj k h6)
 ·have:=hk.nn;have:=h.nn
  show n'<=1+((D.q+q:Nat):Int)
  omega
 ·have h1:=h.ph;have h2:sumN N (fun j=>(if j=i then d' else D.td j).FM)+2*q<=sumN N (fun j=>(D.td j).FM):=FQ hi (fun j e=>by simp only [if_neg e]) (by simp only [if_pos];exact QQ)
  show 2*(D.q+q)+sumN N (fun j=>(if j=i then d' else D.td j).FM)<=4000
  omega
 ·intro j hj;by_cases e:j=i
  ·subst e
   show(if j=j then d' else D.td j).lo.length<=100002*(if j=j then D.kk j+m else D.kk j)
   rw [if_pos rfl,if_pos rfl];have:=h.kl j hj;omega
  ·show(if j=i then d' else D.td j).lo.length<=100002*(if j=i then D.kk i+m else D.kk j)
   rw [if_neg e,if_neg e];exact h.kl j hj
 ·intro j hj
  show(if j=i then D.kk i+m else D.kk j)+2*(Q'.l j).length<=210001*(D.q+q)
  have h1:=h.kq j hj;by_cases e:j=i
  ·subst e;rw [if_pos rfl];omega
  ·rw [if_neg e];obtain⟨_,K,e1,e2,_⟩:=hk.yO (j:Int) O_;rw [e1,dr];omega
 ·show S'.cap<=1000
  rw [hk.cap];exact h.cap
 ·refine iK.mono fun k dL gX=>?_;have alf:=bT.lo;rcases gX with(gX|gX|gX)|gX
  ·exact⟨alf k gX,(bT.VN gX).imp id .inr⟩
  ·obtain⟨q1,ty',kL,rH,E7⟩:=(h.hs.so i hi).cells k gX;exact⟨q1,cu (.inr ⟨_,_,rH,by rcases E7 with e|e|e|e<;>rw [e]<;>unfold oE<;>decide⟩)⟩
  ·exact gX.elim
  ·refine⟨(hRo k gX).2.2.1,.inr ?_⟩;rcases gX with e|e|e|e|e
   ·subst e;exact .inr (.inr ⟨_,_,(h.tk i hi).s_,by unfold oE;decide⟩)
   ·subst e;obtain⟨_,hb⟩:=(h.tk i hi).jT.b;exact .inr (.inr ⟨_,_,hb,by unfold oE;decide⟩)
   ·obtain⟨kL,rH⟩:=(h.tk i hi).out.heap e;exact .inr (.inr ⟨_,_,rH,by unfold oE;decide⟩)
   ·subst e;exact .inr (.inr ⟨_,_,h.kK.ai,by unfold oE;decide⟩)
   ·exact .inl e
 ·intro j
  show(if j=i then d' else D.td j).t=(D.td j).t
  by_cases e:j=i
  ·subst e;rw [if_pos rfl];exact et
  ·rw [if_neg e]
end
section
variable{w0 w w':World}{base N:Nat}{f:Int}{lk bm:Nat}{D:SD}{i:Nat}{r:Int}{R:Nat->Prop}
structure Out(w0:World) (base N:Nat) (lk bm:Nat) (w:World) (D:SD) (k:Nat):Prop where
 ft:¬D.S.aB D.Q k
 lo:w0.heap.size<=k
 mn:∀j,j<N->¬dp (D.xs j) (D.o j) k
 pr:∀j,j<N->¬(D.td j).eX k
 lk:k≠lk
 bm:k≠bm
 u8:∀v l,Own (ak .u8) 5 base w v l->v.ownBlock≠some k
theorem Ak.turn (h:Ak w0 base N f lk bm w D) (hf:Fr R w w') (hR:∀k,R k->Out w0 base N lk bm w D k):Ak w0 base N f lk bm w' D where
 hs:=h.hs.write h.n8.1 D.S.T.z hf (fun k hk=>⟨(hR k hk).ft,(hR k hk).lo⟩) (fun k hk=>(hR k hk).mn) (fun k hk=>.inr (hR k hk).u8) fun k hk=>.inl hk
 tk:=fun j hj=>(h.tk j hj).fr hf fun k hk hr=>(hR k hr).pr j hj hk
 oa:=h.oa
 kK:=h.kK.fr hf (fun hr=>(hR _ hr).lk rfl) fun hr=>(hR _ hr).bm rfl
 pr:=fun j hj k hk=>by
  obtain⟨p1,p2,p3,p4⟩:=h.pr j hj k hk;exact⟨p1,p2,fw p3 hf.size,p4⟩
 pl:=h.pl
 ap:=h.ap
 zo:=h.zo
 nn:=h.nn
 ph:=h.ph
 kl:=h.kl
 kq:=h.kq
 ql:=h.ql
 cap:=h.cap
 n8:=h.n8
 fb:=h.fb
theorem Ak.new (h:Ak w0 base N f lk bm w D) (hf:ae w w'):Ak w0 base N f lk bm w' D:=h.turn hf fun _ h=>h.elim
theorem Ak.out (h:Ak w0 base N f lk bm w D) {k:Nat}{ty:TypeId}{cs:Array Value}(hb:af w k ty cs) (hk:base<=k) (lV:w0.heap.size<=k) (ht:oE ty) (hp:∀j,j<N->¬(D.td j).eX k):Out w0 base N lk bm w D k where
 ft:=(h.hs.so 0 h.n8.1).st.aX hb hk (ht.ne (by unfold oE;decide)) (ht.ne (by unfold oE;decide)) (ht.ne (by unfold oE;decide)) (ht.ne (by unfold oE;decide)) (ht.ne (by unfold oE;decide)) (ht.ne (by unfold oE;decide))
 lo:=lV
 mn:=fun j hj=>(h.hs.so j hj).kE hb (ht.ne (by unfold oE;decide)) (ht.ne (by unfold oE;decide)) (ht.ne (by unfold oE;decide)) (ht.ne (by unfold oE;decide))
 pr:=hp
 lk:=hb.aU h.kK.ai (ht.ne (by unfold oE;decide))
 bm:=by
  obtain⟨ml,gE,_⟩:=h.kK.map;exact fun e=>gE.aD hb e.symm
 u8:=fun v l hv=>hv.ar hb (iX (ht.ne (by unfold oE;decide)))
theorem Ak.noU (h:Ak w0 base N f lk bm w D) {k:Nat}{ty:TypeId}{cs:Array Value}(hb:af w k ty cs) (hk:base<=k) (ht:oE ty):¬Ub w0 base bm D.S.q w k:=fun hu=>by
 rcases hu.2 with h1|rfl|rfl|⟨ty',kL,hc,hn⟩
 ·omega
 ·obtain⟨ml,gE,_⟩:=h.kK.map;exact gE.aD hb rfl
 ·exact(h.hs.so 0 h.n8.1).st.qx.map.aD hb rfl
 ·exact hb.aU hc (fun e=>hn (e▸ht)) rfl
structure lE(w0:World) (base N:Nat) (f:Int) (lk bm s:Nat) (bx:Value) (g c:Nat) (T:Nat->Nat) (bd:Int) (w:World) (ov:Value) (ord:List Int) (L:Int) (D:SD):Prop where
 ok:Ak w0 base N f lk bm w D
 ll:D.L<=L
 tt:∀j,j<N->(D.td j).t=T j
 ai:af w s 73 #[bx,Q_ lk,X_ (M_ g) N c,ov,I_ bd]
 tk:Own Gq 74 base w (X_ (M_ g) N c) ((List.range N).map T)
 od:Own (ak .i64) 3 base w ov ord
 bs:base<=s
 b0:w0.heap.size<=base
 gs:∀j,j<N->∀k,(D.td j).eX k->k≠s/\ov.ownBlock≠some k
def u_(N:Nat) (D:SD) (ov:Value) (k:Nat):Prop:=(∃j,j<N/\(D.td j).eX k)\/ov.ownBlock=some k
def Up(w0:World) (base bm q:Nat) (s:Nat) (ov:Value) (w:World) (k:Nat):Prop:=Ub w0 base bm q w k\/k=s\/ov.ownBlock=some k
def K9(w0:World) (base N:Nat) (f:Int) (lk bm s:Nat) (bx:Value) (g c:Nat) (T:Nat->Nat) (bd:Int) (w:World) (ov:Value) (ord:List Int) (L:Int) (D:SD) (i:Int) (e:Ending) (w':World):Prop:=
 ∃(b:Bool) (lT:Value) (dv:List Int) (L':Int) (D':SD),e=.returned (R_ b)/\lE w0 base N f lk bm s bx g c T bd w' lT dv L' D'/\L'=(if b then L+1 else L)/\(dv=ord\/b=true/\dv=ord++[i])/\Fr (Up w0 base bm D.S.q s ov w) w w'/\D'.S.q=D.S.q/\(∀k,lT.ownBlock=some k->ov.ownBlock=some k\/w.heap.size<=k)/\∀k,u_ N D' lT k->u_ N D ov k\/w.heap.size<=k
variable{s:Nat}{bx:Value}{g c:Nat}{T:Nat->Nat}{bd:Int}{ov:Value}{ord:List Int}{L:Int}
theorem lE.new (h:lE w0 base N f lk bm s bx g c T bd w ov ord L D) (hf:ae w w'):lE w0 base N f lk bm s bx g c T bd w' ov ord L D:=
 ⟨h.ok.new hf,h.ll,h.tt,hf.ai h.ai,h.tk.new hf,h.od.new hf,h.bs,h.b0,h.gs⟩
theorem lE.step (h:lE w0 base N f lk bm s bx g c T bd w ov ord L D) (hs:St w0 base N f lk bm w w' D r):∃D',lE w0 base N f lk bm s bx g c T bd w' ov ord (L+1) D'/\(r≠2->lE w0 base N f lk bm s bx g c T bd w' ov ord L D')/\Fr (Ub w0 base bm D.S.q w) w w'/\D'.S.q=D.S.q/\∀j,j<N->∀k,(D'.td j).eX k->(D.td j).eX k\/w.heap.size<=k:=by
 obtain⟨D',h1,h2,h3,hf,hq,h4,h5⟩:=hs;have ti:=h.b0;have hU:=fun{k ty cs}(hb:af w k ty cs)=>h.ok.noU hb;have jE:=h.ai.lt
 have se:∀j,j<N->∀k,(D'.td j).eX k->k≠s/\ov.ownBlock≠some k:=fun j hj k hk=>by
  rcases h5 j hj k hk with h6|h6
  ·exact h.gs j hj k h6
  ·exact⟨O_,fun e=>by have:=(h.od.block e).2;omega⟩
 have hk:∀L',D'.L<=L'->lE w0 base N f lk bm s bx g c T bd w' ov ord L' D':=fun L' hL=>by
  refine⟨h1,hL,fun j hj=>(h4 j).trans (h.tt j hj),hf.ai h.ai (hU h.ai h.bs (cu (.inl rfl))),h.tk.fr hf fun k hk=>?_,h.od.fr hf fun k hk=>?_,h.bs,h.b0,se⟩
  ·obtain⟨cs,hc⟩:=h.tk.heap hk;exact hU hc (h.tk.block hk).1 (.inr (.inl rfl))
  ·obtain⟨cs,hc⟩:=h.od.heap hk;exact hU hc (h.od.block hk).1 (.inl rfl)
 have:=h.ll;exact⟨D',hk _ O_,fun hr=>hk _ (by have:=h3 hr;omega),hf,hq,h5⟩
theorem lE.push (h:lE w0 base N f lk bm s bx g c T bd w ov ord L D) {v2:Value}{dv:List Int}{w2:World}(dR:Own (ak .i64) 3 base w2 v2 dv) (hf:Fr (fun k=>ov.ownBlock=some k) w w2) (hl:v2.ownBlock=ov.ownBlock\/∃k,v2.ownBlock=some k/\w.heap.size<=k):
 lE w0 base N f lk bm s bx g c T bd (w2.setCell (C_ s 3) v2) v2 dv L D/\Fr (fun k=>k=s\/ov.ownBlock=some k) w (w2.setCell (C_ s 3) v2):=by
 have ti:=h.b0;have iZ:=h.bs
 have hvs:∀k,ov.ownBlock=some k->Out w0 base N lk bm w D k:=fun k hk=>by
  obtain⟨cs,hc⟩:=h.od.heap hk;have:=(h.od.block hk).1;exact h.ok.out hc this O_ (.inl rfl) fun j hj hp=>(h.gs j hj k hp).2 hk
 have h2:=h.ok.turn hf hvs;have fW:af w2 s 73 _:=hf.ai h.ai fun hk=>h.od.ar h.ai D_ hk;have ho:=(One.refl s w2).set 3 v2
 have h3:=h2.turn ho fun k hk=>by
  have hk:=hk;subst hk;exact h2.out fW iZ O_ (cu (.inl rfl)) fun j hj hp=>(h.gs j hj k hp).1 rfl
 refine⟨⟨h3,h.ll,h.tt,fW.al 3 v2,(h.tk.fr hf fun k hk he=>?_).fr ho fun k hk e=>?_,dR.fr ho fun k hk e=>?_,h.bs,h.b0,fun j hj k hk=>⟨(h.gs j hj k hk).1,fun e=>?_⟩⟩,Fr.trans (hf.mono fun _ _ e=>.inr e) (ho.mono fun _ _ e=>.inl e)⟩
 ·obtain⟨cs,hc⟩:=h.tk.heap hk;exact h.od.ar hc D_ he
 ·obtain⟨cs,hc⟩:=h.tk.heap hk;have e:=e;exact hc.aU h.ai D_ e
 ·have e:=e;exact dR.ar fW D_ (by rw [hk,e])
 ·rcases hl with e2|⟨k',e2,e3⟩
  ·rw [e2]at e;exact(h.gs j hj k hk).2 e
  ·rw [e2]at e;injection e with e;have:=(h.ok.pr j hj k hk).2.2.1;omega
theorem lE.call (hE:fG w0) (h:lE w0 base N f lk bm s bx g c T bd w ov ord L D) (hi:i<N) (hL:L<90000):H_ 54 #[Q_ (T i)] w fun e w'=>∃r,e=.returned (I_ r)/\St w0 base N f lk bm w w' D r:=by
 have hk:=h.ok;have MF:=hk.hs.so i hi;have hqq:=hk.qq;rw [<-h.tt i hi];refine(Ss hE MF hk.nl hk.hs.ql (by have:=hk.hs.ids hi;have:=hk.n8;omega) hk.cap hk.fb (by have:=hk.n8;omega) D_ O_ (hk.tk i hi) (hk.oa i hi) hk.kK (by have:=h.ll;omega) ?_ ?_ fun k hp=>⟨(hk.pr i hi k hp).2.2.2.1,(hk.pr i hi k hp).2.2.2.2.1⟩).mono ?_
 ·have h1:=hk.kl i hi;have h2:=hk.kq i hi;omega
 ·intro k hp h1
  have h2:¬D.S.aB D.Q k/\¬dp (D.xs i) (D.o i) k:=by
   rcases hp with hp|hp
   ·obtain⟨p1,_,_,_,_,p6⟩:=hk.pr i hi k hp;exact⟨p1,p6 i hi⟩
   ·obtain⟨p1,_,p6⟩:=hk.pl k hp;exact⟨p1,p6 i hi⟩
  rcases h1 with h1|h1|h1
  ·exact h2.1 h1
  ·exact h2.2 h1
  ·exact h1
 ·rintro e w' ⟨r,rfl,hs⟩;exact⟨r,rfl,hk.step hi hs⟩
theorem FX(hE:fG w0) (h:lE w0 base N f lk bm s bx g c T bd w ov ord L D) (i:Nat) (hi:i<=N) (hL:L<90000) (hlen:ord.length<=1000000):
 H_ 31 #[Q_ s,I_ i] w fun e w'=>K9 w0 base N f lk bm s bx g c T bd w ov ord L D i e w':=by
 have c2:=h.ai.k2;have hN:=h.ok.n8.2;have hmf:=atQ;have np:decide ((i:Int)<0)=false:=aP O_;have sD:(i:Int).toNat=i:=O_
 have H:=ac5 h;by_cases bJ:i<N
 ·have ct:L_ w g i (Q_ (T i)):=by
   have:=h.tk.dG (k:=i) (x:=T i) (by simp [bJ]) (j:=0) (u:=Q_ (T i)) rfl;simpa [Gq,cr.Li]using this
  have oe:decide ((N:Int)<=(i:Int))=false:=aP O_;have hd4:decide (N<=i)=false:=aP O_;have hd5:¬N<=i:=O_
  have HS:=ac5 (h.call hE bJ hL);obtain⟨i0,gn,dw,cE,dy⟩:=wF mr;have HLT:=ac5 bJ;clear h bJ hi
  go_enter func31,ntmps31
  go_wp2_with fail
  refine HS.out.mono ?_;rintro e w1 ⟨r,rfl,Ig⟩;obtain⟨D1,S1,S2,F1,hQ,hB⟩:=H.out.step Ig
  have HB:Hid (∀v:Value,(∀k,v.ownBlock=some k->u_ N D ov k\/w.heap.size<=k)->∀k,u_ N D1 v k->u_ N D ov k\/w.heap.size<=k):=ac5 fun v hv k hk=>by
   rcases hk with⟨j,hj,hk⟩|hk
   ·exact(hB j hj k hk).imp (fun h=>.inl ⟨j,hj,h⟩) id
   ·exact hv k hk
  clear hB;have S1:=ac5 S1;have S2:=ac5 S2;have F1:=ac5 F1;clear ct c2 Ig;by_cases h3:r=3
  ·subst h3;have S3:=S2.out D_;obtain⟨A3,C3,rfl,_⟩:=S3.od.form;have hb:=S3.ai;have c3:=hb.k3;have gN:=hb.alloc (G_ #[I_ i] 3);have fV:=S3.od.alloc (G_ #[I_ i] 3);have ez:Rd (ak .i64) (W_ w1 #[I_ i] 3) (X_ (M_ w1) 1 1) [(i:Int)]:=jI (E:=ak .i64) (x:=(i:Int)) (t:=3) (af.new _ _ _);have hlB:base<=(w1.alloc (G_ #[I_ i] 3)).heap.size:=by have:=S3.ok.hs.so 0 S3.ok.n8.1 |>.st.hb;rw [gz];omega
   have Gl:=ac5 S3;clear S3;go_wp2_with (at_builtin;refine aZ (E:=ak .i64) rfl _ _ _ rfl underlying31 gn dw cE dy rfl fV rfl ez rfl (by unfold maxLen;simp;omega) P_ hlB ?_;intro v2 w2 dR dU sg;have eP:=dU.ai gN (fun hk=>fV.ar gN D_ hk);have c4:=eP.k3;have f4:=eP.frozen 3;obtain⟨A4,C4,rfl,_⟩:=dR.form;rw [show(ord++[(i:Int)]).length=ord.length+1 from by simp]at dR sg)
   go_ret
   obtain⟨P1,P2⟩:=Gl.out.push dR (Fr.trans (((ae.refl w1).alloc _).mono fun _ _ h=>h.elim) dU) (by
    rcases sg with e|e
    ·exact .inl e
    ·exact .inr ⟨_,e,by rw [gz];omega⟩)
   have DD:∀k,(Value.slice A4 (ord.length+1) C4).ownBlock=some k->(Value.slice A3 ord.length C3).ownBlock=some k\/w.heap.size<=k:=?_;refine⟨true,_,_,_,D1,rfl,{P1 with ll:=by have:=P1.ll;simp;omega},rfl,.inr ⟨rfl,rfl⟩,?_,hQ,DD,HB.out _ fun k hk=>(DD k hk).imp .inr id⟩
   ·exact Fr.trans (F1.out.mono fun _ _ h=>.inl h) (P2.mono fun _ _ h=>.inr h)
   ·intro k hk;rcases sg with e|e
    ·exact .inl (by rw [<-e];exact hk)
    ·rw [e]at hk;injection hk with hk;have:=F1.out.size;rw [gz]at hk;exact .inr O_
  ·by_cases h2:r=2
   ·subst h2;go_wp2;go_ret;exact⟨true,ov,ord,L+1,D1,rfl,S1.out,rfl,.inl rfl,F1.out.mono fun _ _ h=>.inl h,hQ,fun _ h=>.inl h,HB.out _ fun _ h=>.inl (.inr h)⟩
   ·go_wp2;go_ret;exact⟨false,ov,ord,L,D1,rfl,S2.out h2,rfl,.inl rfl,F1.out.mono fun _ _ h=>.inl h,hQ,fun _ h=>.inl h,HB.out _ fun _ h=>.inl (.inr h)⟩
 ·have oe:decide ((N:Int)<=(i:Int))=true:=k_ O_;have hd4:decide (N<=i)=true:=k_ O_;have hd5:N<=i:=O_
  clear h bJ hi
  go_enter func31,ntmps31
  go_wp2;go_ret;exact⟨false,ov,ord,L,D,rfl,H.out,rfl,.inl rfl,Fr.refl _ _,rfl,fun _ h=>.inl h,fun _ h=>.inl h⟩
end
section
variable{w0 w w':World}{base N:Nat}{f:Int}{lk bm s:Nat}{bx:Value}{g c:Nat}{T:Nat->Nat}{bd:Int}{ov:Value}{ord:List Int}{L:Int}{D:SD}
theorem NB(hE:fG w0) (h:lE w0 base N f lk bm s bx g c T bd w ov ord L D) (i:Nat) (hi:i<=N) (hL:L<90000) (hlen:ord.length<=1000000) (ib cb:Nat) (oR:af w ib 3 #[I_ i]):
 H_ 10 #[Q_ s,X_ (M_ ib) 1 cb] w fun e w'=>(∃v,e=.returned v)/\∃e',K9 w0 base N f lk bm s bx g c T bd w ov ord L D i e' w':=by
 have H1:=ac5 (FX hE h i hi hL hlen);have r0:=oR.k0;clear h
 go_enter func10,ntmps10
 go_wp2_with fail
 refine jD 2 ?_;rw [O0];go_wp2_with fail
 refine H1.out.mono ?_;rintro e w1 ⟨b,lT,dv,L',D',rfl,hr⟩;have HP:Hid (∃e',K9 w0 base N f lk bm s bx g c T bd w ov ord L D i e' w1):=ac5 ⟨_,b,lT,dv,L',D',rfl,hr⟩;clear hr r0
 cases b
 ·go_wp2_with fail
  rw [O0];go_wp2;go_ret;exact⟨⟨_,rfl⟩,HP.out⟩
 ·go_wp2_with fail
  rw [O0];go_wp2;go_ret;exact⟨⟨_,rfl⟩,HP.out⟩
theorem xL(h:lE w0 base N f lk bm s bx g c T bd w ov ord L D) (hl:ord.length<=100000):
 H_ 11 #[Q_ s] w fun e w'=>∃v,e=.returned v/\Own (ak .i64) 3 w.heap.size w' v ord/\ae w w':=by
 have c3:=h.ai.k3;have HO:=ac5 h.od.rd;clear h
 go_enter func11,ntmps11
 go_wp2_with fail
 refine(po ov ord w HO.out hl).mono ?_;rintro e w1 ⟨v,rfl,hv,n1⟩;go_wp2;go_ret;exact⟨v,rfl,hv,n1⟩
end
theorem Qk.isCells {w:World}{g:Nat}(h:Qk w g):∀o:Obj,w.heap[g]? =some o->o.isCells=true:=fun o ho=>by
 obtain⟨cs,t,fz,h1,_⟩:=h;rw [h1]at ho
 cases ho
 rfl
theorem uZ.isCells {B:Nat}{w:World}{d:TD}{x lk:Nat}{a b:Int}(h:uZ B w d x lk a b) {k:Nat}(hk:d.eX k):∀o:Obj,w.heap[k]? =some o->o.isCells=true:=by
 rcases hk with hk|hk|hk|hk|hk|hk|hk|hk|hk
 ·subst hk;exact af.isCells h.s_
 ·subst hk;obtain⟨_,hb⟩:=h.jT.b;exact hb.isCells
 ·exact h.jT.o.isCells hk
 ·cases hf:d.fr with
  |none=>rw [h.fr0 hf]at hk;cases hk
  |some y=>
   obtain⟨kd,A,C,ld⟩:=y;exact(h.Oh kd A C ld hf).2.2.2.1.isCells hk
 ·cases hf:d.fr with
  |none=>unfold TD.fd at hk;rw [hf]at hk;cases hk
  |some y=>
   obtain⟨kd,A,C,ld⟩:=y;unfold TD.fd at hk;rw [hf]at hk;exact(h.Oh kd A C ld hf).2.2.2.2.isCells hk
 ·exact h.out.isCells hk
 ·exact h.nd.isCells hk
 ·obtain⟨s,hs,_⟩:=h.cmd.set;exact hs.isCells hk
 ·obtain⟨l,_,_,h3⟩:=h.cmd.yz;exact(h3 k hk).2.isCells
section
variable{w0 w w':World}{base N:Nat}{f:Int}{lk bm s:Nat}{bx:Value}{g c:Nat}{T:Nat->Nat}{bd:Int}{ov:Value}{ord:List Int}{L:Int}{D:SD}{R:Nat->Prop}
theorem lE.turn (h:lE w0 base N f lk bm s bx g c T bd w ov ord L D) (hf:Fr R w w') (hR:∀k,R k->Out w0 base N lk bm w D k/\k≠s/\k≠g/\ov.ownBlock≠some k):lE w0 base N f lk bm s bx g c T bd w' ov ord L D:=
 ⟨h.ok.turn hf fun k hk=>(hR k hk).1,h.ll,h.tt,hf.ai h.ai fun hr=>(hR _ hr).2.1 rfl,h.tk.fr hf fun k hk hr=>(hR _ hr).2.2.1 (by injection hk with hk;exact hk.symm),h.od.fr hf fun k hk hr=>(hR _ hr).2.2.2 hk,h.bs,h.b0,h.gs⟩
theorem lE.int (h:lE w0 base N f lk bm s bx g c T bd w ov ord L D) {k:Nat}{cs:Array Value}(hb:af w k 3 cs) (hk:base<=k) (hz:¬u_ N D ov k):Out w0 base N lk bm w D k/\k≠s/\k≠g/\ov.ownBlock≠some k:=by
 have ti:=h.b0;refine⟨h.ok.out hb hk O_ (.inl rfl) fun j hj hp=>hz (.inl ⟨j,hj,hp⟩),hb.aU h.ai D_,fun e=>?_,fun e=>hz (.inr e)⟩;subst e;exact h.tk.ar hb D_ rfl
theorem lE.mark {Bt:Nat}(h:lE w0 base N f lk bm s bx g c T bd w ov ord L D) (t:iH Bt w w') (h1:base<=Bt) (h2:bm<Bt) (h3:D.S.q<Bt):lE w0 base N f lk bm s bx g c T bd w' ov ord L D:=by
 refine h.turn (R:=fun k=>Bt<=k/\∃o:Obj,w.heap[k]? =some o/\o.isCells=false) (t.fr fun k h1 h2=>⟨h1,h2⟩) fun k ⟨hk,o,ho,hc⟩=>?_;have db:∀{ty cs},¬af w k ty cs:=fun hb=>by have:=hb.isCells o ho;rw [this]at hc;cases hc
 have ua:(∀o:Obj,w.heap[k]? =some o->o.isCells=true)->False:=fun h=>by rw [h o ho]at hc;cases hc
 have ti:=h.b0;refine⟨⟨fun hf=>?_,O_,fun j hj hm=>?_,fun j hj hp=>ua ((h.ok.tk j hj).isCells hp),fun e=>db (e▸h.ok.kK.ai),O_,fun v l hv e=>ua (hv.isCells e)⟩,fun e=>db (e▸h.ai),fun e=>?_,fun e=>ua (h.od.isCells e)⟩
 ·obtain⟨ty,cs,hb⟩:=(h.ok.hs.so 0 h.ok.n8.1).st.pG h1 h3 hf hk;exact db hb
 ·obtain⟨_,ty,cs,hb,_⟩:=(h.ok.hs.so j hj).cells k hm;exact db hb
 ·subst e;exact ua (h.tk.isCells rfl)
theorem lE.VP (h:lE w0 base N f lk bm s bx g c T bd w ov ord L D) {Bt:Nat}(h1:base<=Bt) (h2:bm<Bt) (h3:D.S.q<Bt) {k:Nat}(hk:Bt<=k) (hU:Up w0 base bm D.S.q s ov w k):∀o:Obj,w.heap[k]? =some o->o.isCells=true:=by
 rcases hU with hU|rfl|hU
 ·rcases hU.2 with e|e|e|⟨ty,cs,hb,_⟩
  ·omega
  ·omega
  ·omega
  ·exact hb.isCells
 ·exact h.ai.isCells
 ·exact h.od.isCells hU
theorem Up.back {wA:World}{q:Nat}{oG:Value}(hf:Fr (Up w0 base bm q s oG wA) wA w) {k:Nat}(hk:k<wA.heap.size) (h:Up w0 base bm q s ov w k) (hov:∀k,ov.ownBlock=some k->oG.ownBlock=some k\/wA.heap.size<=k):Up w0 base bm q s oG wA k:=by
 by_cases hU:Up w0 base bm q s oG wA k
 ·exact hU
 ·rcases h with h|h|h
  ·rcases h.2 with e|e|e|⟨ty,cs,hb,hn⟩
   ·exact .inl ⟨h.1,.inl e⟩
   ·exact .inl ⟨h.1,.inr (.inl e)⟩
   ·exact .inl ⟨h.1,cu (.inl e)⟩
   ·refine .inl ⟨h.1,cu (.inr ⟨ty,cs,?_,hn⟩)⟩;unfold af at hb⊢;rw [<-hf.block k hk hU];exact hb
  ·exact .inr (.inl h)
  ·exact cu ((hov k h).resolve_right O_)
theorem lE.du (h:lE w0 base N f lk bm s bx g c T bd w ov ord L D) {k:Nat}{ty:TypeId}{cs:Array Value}(hb:af w k ty cs) (hk:base<=k) (ht:ty=3\/ty=26) (hz:¬u_ N D ov k):¬Up w0 base bm D.S.q s ov w k:=fun hU=>by
 have hT:oE ty:=by
  rcases ht with e|e
  ·exact .inl e
  ·exact dS e
 rcases hU with hU|e|e
 ·exact h.ok.noU hb hk hT hU
 ·subst e;exact hb.aU h.ai (by rcases ht with e|e<;>rw [e]<;>decide) rfl
 ·exact hz (.inr e)
structure iA(w0:World) (base N:Nat) (f:Int) (lk bm s:Nat) (bx:Value) (g c:Nat) (T:Nat->Nat) (bd:Int) (wA:World) (oG:Value) (h_:List Int) (L0:Int) (qm z1 q b1 b2 b3 b4:Nat) (W:World) (n sk:Int) (m:Nat) (ov:Value) (ord:List Int) (D:SD):Prop where
 jk:lE w0 base N f lk bm s bx g c T bd W ov ord (L0+n) D
 pre:h_ <+:ord
 len:(ord.length:Int)<=h_.length+n
 own:∀k,u_ N D ov k->k<wA.heap.size\/z1<=k
 qq:D.S.q=qm
 ow:∀k,ov.ownBlock=some k->oG.ownBlock=some k\/wA.heap.size<=k
 kq:af W q 26 #[Q_ s]
 k1:af W b1 26 #[Q_ s]
 k2:af W b2 3 #[I_ 0]
 k3:af W b3 3 #[I_ n]
 k4:af W b4 3 #[I_ sk]
 n0:0<=n/\0<=sk
 ms:(m:Int)<=n*(2*N)+sk
 fr:Fr (Up w0 base bm qm s oG wA) wA W
 zw:z1<=W.heap.size
structure Cq(wA:World) (base bm qm z1 q b1 b2 b3 b4:Nat):Prop where
 o1:wA.heap.size<=b1/\wA.heap.size<=b2/\wA.heap.size<=b3/\wA.heap.size<=b4/\wA.heap.size<=q
 o2:b1<z1/\b2<z1/\b3<z1/\b4<z1/\q<z1
 o3:b1≠b2/\b1≠b3/\b1≠b4/\b1≠q/\b2≠b3/\b2≠b4/\b2≠q/\b3≠b4/\b3≠q/\b4≠q
 lo:base<=wA.heap.size/\bm<wA.heap.size/\qm<wA.heap.size
variable{wA W W1:World}{oG lT:Value}{h_ dv:List Int}{L0:Int}{qm z1 q b1 b2 b3 b4:Nat}{n sk:Int}{m:Nat}{D':SD}
theorem iA.mark {Bt:Nat}(h:iA w0 base N f lk bm s bx g c T bd wA oG h_ L0 qm z1 q b1 b2 b3 b4 W n sk m ov ord D) (hp:Cq wA base bm qm z1 q b1 b2 b3 b4) (t:iH Bt W W1) (hA:wA.heap.size<=Bt):iA w0 base N f lk bm s bx g c T bd wA oG h_ L0 qm z1 q b1 b2 b3 b4 W1 n sk m ov ord D:=
 {h with
  jk:=h.jk.mark t (by have:=hp.lo;omega) (by have:=hp.lo;omega) (by have:=hp.lo;rw [h.qq];omega)
  kq:=t.ai h.kq
  k1:=t.ai h.k1
  k2:=t.ai h.k2
  k3:=t.ai h.k3
  k4:=t.ai h.k4
  fr:=t.lI h.fr hA
  zw:=gy h.zw t.JX.size}
theorem iA.new (h:iA w0 base N f lk bm s bx g c T bd wA oG h_ L0 qm z1 q b1 b2 b3 b4 W n sk m ov ord D) (hn:ae W W1):iA w0 base N f lk bm s bx g c T bd wA oG h_ L0 qm z1 q b1 b2 b3 b4 W1 n sk m ov ord D:=
 {h with
  jk:=h.jk.new hn
  kq:=hn.ai h.kq
  k1:=hn.ai h.k1
  k2:=hn.ai h.k2
  k3:=hn.ai h.k3
  k4:=hn.ai h.k4
  fr:=Fr.trans h.fr (ae.to hn)
  zw:=gy h.zw hn.size}
theorem iA.nz (h:iA w0 base N f lk bm s bx g c T bd wA oG h_ L0 qm z1 q b1 b2 b3 b4 W n sk m ov ord D) {k:Nat}(h1:wA.heap.size<=k) (h2:k<z1):¬u_ N D ov k:=fun hk=>by
 have:=h.own k hk;omega
theorem iA.pick (h:iA w0 base N f lk bm s bx g c T bd wA oG h_ L0 qm z1 q b1 b2 b3 b4 W n sk m ov ord D) (hp:Cq wA base bm qm z1 q b1 b2 b3 b4) {b:Bool}{x:Int}(ho:dv=ord\/b=true/\dv=ord++[x]) (hf:Fr (Up w0 base bm D.S.q s ov W) W W1) (hq:D'.S.q=D.S.q) (hV:∀k,lT.ownBlock=some k->ov.ownBlock=some k\/W.heap.size<=k) (hB:∀k,u_ N D' lT k->u_ N D ov k\/W.heap.size<=k):
 h_ <+:dv/\(dv.length:Int)<=ord.length+1/\(∀k,u_ N D' lT k->k<wA.heap.size\/z1<=k)/\D'.S.q=qm/\(∀k,lT.ownBlock=some k->oG.ownBlock=some k\/wA.heap.size<=k)/\
  af W1 q 26 #[Q_ s]/\af W1 b1 26 #[Q_ s]/\af W1 b2 3 #[I_ 0]/\af W1 b3 3 #[I_ n]/\af W1 b4 3 #[I_ sk]/\Fr (Up w0 base bm qm s oG wA) wA W1/\z1<=W1.heap.size:=by
 obtain⟨⟨p1,p2,p3,p4,p5⟩,⟨r1,r2,r3,r4,r5⟩,_,⟨l1,l2,l3⟩⟩:=hp;have hz:=h.zw;have eE:=hf.size;have hfA:=h.fr.size
 refine⟨?_,?_,fun k hk=>?_,hq.trans h.qq,fun k hk=>?_,hf.ai h.kq (h.jk.du h.kq O_ (.inr rfl) (h.nz p5 r5)),hf.ai h.k1 (h.jk.du h.k1 O_ (.inr rfl) (h.nz p1 r1)),hf.ai h.k2 (h.jk.du h.k2 O_ (.inl rfl) (h.nz p2 r2)),hf.ai h.k3 (h.jk.du h.k3 O_ (.inl rfl) (h.nz p3 r3)),hf.ai h.k4 (h.jk.du h.k4 O_ (.inl rfl) (h.nz p4 r4)),
  Fr.trans' h.fr hf fun k hk hU=>Up.back h.fr hk (h.qq▸hU) h.ow,O_⟩
 ·rcases ho with rfl|⟨_,rfl⟩
  ·exact h.pre
  ·exact List.IsPrefix.trans h.pre (IU _ _)
 ·rcases ho with rfl|⟨_,rfl⟩
  ·omega
  ·simp
 ·rcases hB k hk with h1|h1
  ·exact h.own k h1
  ·exact .inr O_
 ·rcases hV k hk with h1|h1
  ·exact h.ow k h1
  ·exact .inr O_
theorem iA.skip (h:iA w0 base N f lk bm s bx g c T bd wA oG h_ L0 qm z1 q b1 b2 b3 b4 W n sk m ov ord D) (hp:Cq wA base bm qm z1 q b1 b2 b3 b4) {b:Bool}{x:Int}(ho:dv=ord\/b=true/\dv=ord++[x]) (hf:Fr (Up w0 base bm D.S.q s ov W) W W1) (hq:D'.S.q=D.S.q) (hV:∀k,lT.ownBlock=some k->ov.ownBlock=some k\/W.heap.size<=k) (hB:∀k,u_ N D' lT k->u_ N D ov k\/W.heap.size<=k)
 (hs:lE w0 base N f lk bm s bx g c T bd W1 lT dv (L0+n) D') (hl:dv=ord):iA w0 base N f lk bm s bx g c T bd wA oG h_ L0 qm z1 q b1 b2 b3 b4 (W1.setCell (C_ b4 0) (I_ (sk+1))) n (sk+1) (m+1) lT dv D':=by
 obtain⟨a1,a2,a3,a4,a5,a6,a7,a8,a9,GL,SP,a12⟩:=h.pick hp ho hf hq hV hB;have oS:One b4 W1 (W1.setCell (C_ b4 0) (I_ (sk+1))):=(One.refl b4 W1).set 0 _;have Gd:=h.ms;have iP:=h.n0;obtain⟨⟨p1,p2,p3,p4,p5⟩,⟨r1,r2,r3,r4,r5⟩,⟨n1,n2,n3,n4,n5,n6,n7,n8,n9,n10⟩,⟨l1,l2,l3⟩⟩:=hp;refine⟨hs.turn oS fun k hk=>?_,a1,by have:=h.len;rw [hl];omega,a3,a4,a5,oS.ai a6 (by show¬q=b4;omega),oS.ai a7 (by show¬b1=b4;omega),oS.ai a8 (by show¬b2=b4;omega),oS.ai a9 (by show¬b3=b4;omega),GL.al 0 _,⟨iP.1,O_⟩,by push_cast;omega,Fr.trans' SP oS fun k hk e=>(by have e:=e;omega),gy a12 oS.size⟩;have e:=hk;subst e;exact hs.int GL O_ fun hk=>by have:=a3 _ hk;omega
theorem iA.move (h:iA w0 base N f lk bm s bx g c T bd wA oG h_ L0 qm z1 q b1 b2 b3 b4 W n sk m ov ord D) (hp:Cq wA base bm qm z1 q b1 b2 b3 b4) {b:Bool}{x:Int}(ho:dv=ord\/b=true/\dv=ord++[x]) (hf:Fr (Up w0 base bm D.S.q s ov W) W W1) (hq:D'.S.q=D.S.q) (hV:∀k,lT.ownBlock=some k->ov.ownBlock=some k\/W.heap.size<=k) (hB:∀k,u_ N D' lT k->u_ N D ov k\/W.heap.size<=k)
 (hs:lE w0 base N f lk bm s bx g c T bd W1 lT dv (L0+n+1) D') (jg:sk<2*N):iA w0 base N f lk bm s bx g c T bd wA oG h_ L0 qm z1 q b1 b2 b3 b4 ((W1.setCell (C_ b3 0) (I_ (n+1))).setCell (C_ b4 0) (I_ 0)) (n+1) 0 (m+1) lT dv D':=by
 obtain⟨a1,a2,a3,a4,a5,a6,a7,a8,a9,GL,SP,a12⟩:=h.pick hp ho hf hq hV hB;have Gd:=h.ms;have iP:=h.n0;obtain⟨⟨p1,p2,p3,p4,p5⟩,⟨r1,r2,r3,r4,r5⟩,⟨n1,n2,n3,n4,n5,n6,n7,n8,n9,n10⟩,⟨l1,l2,l3⟩⟩:=hp;have o3:One b3 W1 (W1.setCell (C_ b3 0) (I_ (n+1))):=(One.refl b3 W1).set 0 _;have d4:=o3.ai GL (by show¬b4=b3;omega)
 have s3:=hs.turn o3 fun k hk=>by
  have e:=hk;subst e;exact hs.int a9 O_ fun hk=>by have:=a3 _ hk;omega
 have oS:One b4 (W1.setCell (C_ b3 0) (I_ (n+1))) ((W1.setCell (C_ b3 0) (I_ (n+1))).setCell (C_ b4 0) (I_ 0)):=(One.refl b4 _).set 0 _;have hmul:(n+1)*(2*(N:Int))=n*(2*N)+2*N:=by rw [Int.add_mul,Int.one_mul]
 refine⟨(by have e:L0+(n+1)=L0+n+1:=O_
            rw [e]
            exact s3.turn oS fun k hk=>by
             have e:=hk;subst e;exact s3.int d4 O_ fun hk=>by have:=a3 _ hk;omega),a1,by have:=h.len;omega,a3,a4,a5,oS.ai (o3.ai a6 (by show¬q=b3;omega)) (by show¬q=b4;omega),oS.ai (o3.ai a7 (by show¬b1=b3;omega)) (by show¬b1=b4;omega),oS.ai (o3.ai a8 (by show¬b2=b3;omega)) (by show¬b2=b4;omega),oS.ai (a9.al 0 _) (by show¬b3=b4;omega),d4.al 0 _,⟨O_,O_⟩,by rw [hmul];push_cast;omega,Fr.trans' (Fr.trans' SP o3 fun k hk e=>(by have e:=e;omega)) oS fun k hk e=>(by have e:=e;omega),gy a12 (gy o3.size oS.size)⟩
def Cr(w0:World) (base N:Nat) (f:Int) (lk bm s:Nat) (bx:Value) (g c:Nat) (T:Nat->Nat) (bd:Int) (wA:World) (oG:Value) (h_:List Int) (L0:Int) (qm z1 q b1 b2 b3 b4 m:Nat) (W:World):Prop:=
 ∃n sk ov ord D,iA w0 base N f lk bm s bx g c T bd wA oG h_ L0 qm z1 q b1 b2 b3 b4 W n sk m ov ord D/\n<=bd/\sk<2*N
def Js(w0:World) (base N:Nat) (f:Int) (lk bm s:Nat) (bx:Value) (g c:Nat) (T:Nat->Nat) (bd:Int) (wA:World) (oG:Value) (h_:List Int) (qm b2:Nat) (W:World):Prop:=
 ∃r ov ord L D,af W b2 3 #[I_ r]/\lE w0 base N f lk bm s bx g c T bd W ov ord L D/\h_ <+:ord/\(ord.length:Int)<=h_.length+bd+1/\Fr (Up w0 base bm qm s oG wA) wA W/\D.S.q=qm
theorem Cr.mark {Bt:Nat}(h:Cr w0 base N f lk bm s bx g c T bd wA oG h_ L0 qm z1 q b1 b2 b3 b4 m W) (hp:Cq wA base bm qm z1 q b1 b2 b3 b4) (t:iH Bt W W1) (hA:wA.heap.size<=Bt):Cr w0 base N f lk bm s bx g c T bd wA oG h_ L0 qm z1 q b1 b2 b3 b4 m W1:=by
 obtain⟨n,sk,ov,ord,D,h,h1,h2⟩:=h;exact⟨n,sk,ov,ord,D,h.mark hp t hA,h1,h2⟩
theorem Js.mark {Bt:Nat}(h:Js w0 base N f lk bm s bx g c T bd wA oG h_ qm b2 W) (hp:Cq wA base bm qm z1 q b1 b2 b3 b4) (t:iH Bt W W1) (hA:wA.heap.size<=Bt):Js w0 base N f lk bm s bx g c T bd wA oG h_ qm b2 W1:=by
 obtain⟨r,ov,ord,L,D,h1,h2,h3,h4,h5,h6⟩:=h;exact⟨r,ov,ord,L,D,t.ai h1,h2.mark t (by have:=hp.lo;omega) (by have:=hp.lo;omega) (by have:=hp.lo;rw [h6];omega),h3,h4,t.lI h5 hA,h6⟩
theorem iA.fuel (h:iA w0 base N f lk bm s bx g c T bd wA oG h_ L0 qm z1 q b1 b2 b3 b4 W n sk m ov ord D) (h1:n<=bd) (h2:sk<2*N) (hN:N<=8) (Ke:bd<=30000):m<=1000000:=by
 have h3:=h.ms;have h4:=h.n0;have h5:n*(2*(N:Int))<=30000*16:=Int.mul_le_mul O_ O_ O_ O_;omega
theorem iA.stop (h:iA w0 base N f lk bm s bx g c T bd wA oG h_ L0 qm z1 q b1 b2 b3 b4 W n sk m ov ord D) (hp:Cq wA base bm qm z1 q b1 b2 b3 b4) (h1:n<=bd+1):Js w0 base N f lk bm s bx g c T bd wA oG h_ qm b2 (W.setCell (C_ b2 0) (I_ n)):=by
 have oS:One b2 W (W.setCell (C_ b2 0) (I_ n)):=(One.refl b2 W).set 0 _;obtain⟨⟨p1,p2,p3,p4,p5⟩,⟨r1,r2,r3,r4,r5⟩,_,⟨l1,l2,l3⟩⟩:=hp;refine⟨n,ov,ord,L0+n,D,h.k2.al 0 _,h.jk.turn oS fun k hk=>?_,h.pre,by have:=h.len;omega,Fr.trans' h.fr oS fun k hk e=>(by have e:=e;omega),h.qq⟩;have e:=hk;subst e;exact h.jk.int h.k2 O_ (h.nz O_ O_)
theorem iA.keeps (h:iA w0 base N f lk bm s bx g c T bd wA oG h_ L0 qm z1 q b1 b2 b3 b4 W n sk m ov ord D) (hp:Cq wA base bm qm z1 q b1 b2 b3 b4) (hf:Fr (fun k=>Up w0 base bm D.S.q s ov W k\/k=b2\/k=b3\/k=b4) W W1) {Bt:Nat}(hB:z1<=Bt):KeepsFrom Bt W W1:=by
 obtain⟨_,⟨r1,r2,r3,r4,r5⟩,_,⟨l1,l2,l3⟩⟩:=hp;refine fy hf fun k hk hU=>?_;rcases hU with hU|hU|hU|hU
 ·exact h.jk.VP (Bt:=Bt) O_ O_ (by rw [h.qq];omega) hk hU
 all_goals omega
end
section
attribute [local go_sem] wT
section
variable{w0 w w':World}{base N:Nat}{f:Int}{lk bm s:Nat}{bx:Value}{g c:Nat}{T:Nat->Nat}{bd:Int}{ov:Value}{ord:List Int}{L:Int}{D:SD}
def aln(w0:World) (base N:Nat) (f:Int) (lk bm s:Nat) (bx:Value) (g c:Nat) (T:Nat->Nat) (bd:Int) (w:World) (ov:Value) (ord:List Int) (q:Nat) (e:Ending) (w':World):Prop:=(∃v,e=.returned v)/\∃b2,Js w0 base N f lk bm s bx g c T bd w ov ord q b2 w'
theorem FY(hE:fG w0) (h:lE w0 base N f lk bm s bx g c T bd w ov ord L D) (hN:N<=8) (Ke:0<=bd/\bd<=30000) (hL:L<=50000) (Te:ord.length<=1000):
 H_ 13 #[Q_ s] w fun e w'=>aln w0 base N f lk bm s bx g c T bd w ov ord D.S.q e w':=by
 have H:=ac5 h;obtain⟨qm,hqm⟩:∃qm,D.S.q=qm:=⟨_,rfl⟩;rw [hqm];have HQM:=ac5 hqm;clear h hqm;refine(ay (n:=6)).1 ?_;refine jJ func13 rfl trivial ?_ rfl;simp only [ntmps13,PA,iU,WL,Nat.reduceAdd,Nat.reduceSub,rX,rY,eL,iY,Qv,OZ]
 gi_wp2_with (first
  |(refine⟨trivial,?_⟩;gi_at_call 33
    refine(callsIn_wide.2 (xM s _)).mono ?_;rintro e w1 ⟨rfl,rfl⟩)
  |fail)
 have h:=H.out;have nL:ae w (W_ (W_ (W_ (W_ (W_ w #[Q_ s] 26) #[I_ 0] 3) #[I_ 0] 3) #[I_ 0] 3) #[Q_ s] 26):=(((((ae.refl w).alloc _).alloc _).alloc _).alloc _).alloc _;have b1:af (W_ (W_ (W_ (W_ (W_ w #[Q_ s] 26) #[I_ 0] 3) #[I_ 0] 3) #[I_ 0] 3) #[Q_ s] 26) w 26 #[Q_ s]:=((((af.new _ _ _).alloc _).alloc _).alloc _).alloc _;have b2:af (W_ (W_ (W_ (W_ (W_ w #[Q_ s] 26) #[I_ 0] 3) #[I_ 0] 3) #[I_ 0] 3) #[Q_ s] 26) (w.heap.size+1) 3 #[I_ 0]:=(((af.cD _ _ _ _).alloc _).alloc _).alloc _
 have b3:af (W_ (W_ (W_ (W_ (W_ w #[Q_ s] 26) #[I_ 0] 3) #[I_ 0] 3) #[I_ 0] 3) #[Q_ s] 26) (w.heap.size+1+1) 3 #[I_ 0]:=by
  have:=af.cD (W_ w #[Q_ s] 26) (G_ #[I_ 0] 3) 3 #[I_ 0];rw [gz]at this;exact(this.alloc _).alloc _
 have b4:af (W_ (W_ (W_ (W_ (W_ w #[Q_ s] 26) #[I_ 0] 3) #[I_ 0] 3) #[I_ 0] 3) #[Q_ s] 26) (w.heap.size+1+1+1) 3 #[I_ 0]:=by
  have:=af.cD (W_ (W_ w #[Q_ s] 26) #[I_ 0] 3) (G_ #[I_ 0] 3) 3 #[I_ 0];rw [gz,gz]at this;exact this.alloc _
 have bq:af (W_ (W_ (W_ (W_ (W_ w #[Q_ s] 26) #[I_ 0] 3) #[I_ 0] 3) #[I_ 0] 3) #[Q_ s] 26) (w.heap.size+1+1+1+1) 26 #[Q_ s]:=by
  have:=af.cD (W_ (W_ (W_ w #[Q_ s] 26) #[I_ 0] 3) #[I_ 0] 3) (G_ #[I_ 0] 3) 26 #[Q_ s];rw [gz,gz,gz]at this;exact this
 have aaP:(((((w.alloc (G_ #[Q_ s] 26)).alloc (G_ #[I_ 0] 3)).alloc (G_ #[I_ 0] 3)).alloc (G_ #[I_ 0] 3)).alloc (G_ #[Q_ s] 26)).heap.size=w.heap.size+5:=by simp only [gz]
 generalize(((((w.alloc (G_ #[Q_ s] 26)).alloc (G_ #[I_ 0] 3)).alloc (G_ #[I_ 0] 3)).alloc (G_ #[I_ 0] 3)).alloc (G_ #[Q_ s] 26))=wL at*;have eP:=h.ok.hs.so 0 h.ok.n8.1 |>.st
 have hN1:=h.ok.n8.1;have fi:base<=w.heap.size/\bm<w.heap.size/\D.S.q<w.heap.size:=⟨eP.hb,h.ok.lt (.inr rfl),eP.qx.map.lt⟩;obtain⟨B1,e1⟩:∃B1,w.heap.size=B1:=⟨_,rfl⟩;obtain⟨B2,e2⟩:∃B2,w.heap.size+1=B2:=⟨_,rfl⟩;obtain⟨B3,e3⟩:∃B3,w.heap.size+1+1=B3:=⟨_,rfl⟩;obtain⟨B4,e4⟩:∃B4,w.heap.size+1+1+1=B4:=⟨_,rfl⟩;obtain⟨q,e5⟩:∃q,w.heap.size+1+1+1+1=q:=⟨_,rfl⟩;rw [e5]at bq⊢;rw [e4]at b4⊢;rw [e3]at b3⊢;rw [e2]at b2⊢;rw [e1]at b1⊢;have FP:Cq w base bm D.S.q wL.heap.size q B1 B2 B3 B4:=⟨O_,O_,O_,fi⟩
 have F0:iA w0 base N f lk bm s bx g c T bd w ov ord L D.S.q wL.heap.size q B1 B2 B3 B4 wL 0 0 0 ov ord D:={
  jk:=by have:=h.new nL;rw [Int.add_zero];exact this
  pre:=List.prefix_refl _
  len:=O_
  own:=fun k hk=>by
   rcases hk with⟨j,hj,hk⟩|hk
   ·exact .inl (h.ok.pr j hj k hk).2.2.1
   ·exact .inl (h.od.block hk).2
  qq:=rfl
  ow:=fun k hk=>.inl hk
  kq:=bq
  k1:=b1
  k2:=b2
  k3:=b3
  k4:=b4
  n0:=O_
  ms:=O_
  fr:=ae.to nL
  zw:=aA _}
 have hA:=nL.size;clear fi eP bq b1 b2 b3 b4 e1 e2 e3 e4 e5 aaP h;rw [HQM.out]at F0 FP;obtain⟨z1,cE⟩:∃z,wL.heap.size=z:=⟨_,rfl⟩;rw [cE]at F0 FP hA;have HP:=ac5 FP;have HZ:=ac5 cE;have I0:Cr w0 base N f lk bm s bx g c T bd w ov ord L qm z1 q B1 B2 B3 B4 0 wL:=⟨0,0,ov,ord,D,F0,O_,O_⟩;clear FP F0 cE
 refine fp (α:=Nat) rfl D_ (gf:=55) (lb:= #[Q_ q]) rfl trivial (Aw func55 K_ rfl) (encs:=fun x=> #[I_ (x:Int)]) (fun _=>rfl) (S:=fun _=>False) (Sp:=fun _=>True)
  (fun pre W=>Cr w0 base N f lk bm s bx g c T bd w ov ord L qm z1 q B1 B2 B3 B4 pre.length W)
  (fun pre x W=>Cr w0 base N f lk bm s bx g c T bd w ov ord L qm z1 q B1 B2 B3 B4 pre.length W/\x<N)
  (fun c' pre W=>c'=.ret/\Js w0 base N f lk bm s bx g c T bd w ov ord qm B2 W)
  (bN fun pre W W' h t=>h.mark HP.out t (by have:=HZ.out;omega))
  (fun pre x=>bN fun _ W W' h t=>⟨h.1.mark HP.out t (by have:=HZ.out;omega),h.2⟩)
  (fun c=>bN fun _ W W' h t=>⟨h.1,h.2.mark HP.out t (by have:=HZ.out;omega)⟩)
  I0 ?hseq
  (fun x a' W=>a'={tmps:=List.toArray (Q_ s:: Q_ B1:: Q_ B2:: Q_ B3:: Q_ B4:: I_ (x:Int):: Q_ s:: R_ false:: Q_ s:: .func (.func 55) #[] #[Q_ q]:: I_ (x:Int)::undef::undef::undef::undef::undef::undef::undef::undef::undef::undef::undef::undef::undef::undef::undef::undef::undef::undef::undef::undef::undef::undef::undef::undef::undef::[]),defers:=[]})
  (fun x a'=>bN fun _ W W' h t=>h)
  ?hassign ?hbody (fun _ _ _ _ h=>h.elim) ?hstop
 case hassign=>
  intro l pre x W K hJ hK
  gi_wp2
  exact hK _ _ (gp (S:=fun _=>False) (Fr.refl _ _) (fun _ h=>h.elim)) hJ rfl
 case hbody=>
  rintro l pre x a' W hl hr ⟨⟨n,sk,ov1,afK,D1,F,hn,jg⟩,hx⟩ rfl;have pT:=FX hE F.jk x O_ O_ (by have:=F.len;omega);have c1:=F.k1.k0;have yw:=ac5 pT;have HF:=ac5 F;have iP:=F.n0;clear pT F
  gi_wp2_with fail
  refine⟨trivial,?_⟩;refine(XJ l (callsIn_wide.2 yw.out)).mono ?_;rintro e W1 ⟨b,lT,dv,L',D',rfl,xW,hL',ho,hf,hq,hV,hB⟩;obtain⟨a1,a2,a3,a4,a5,a6,a7,a8,a9,GL,SP,a12⟩:=HF.out.pick HP.out ho hf hq hV hB;have o3:=HP.out.o3;have g1:=a7.k0;have g3:=a9.k0;have g4:=GL.k0;have z3:=a9.frozen 0;have z4:=GL.frozen 0;have z5:∀u,(W1.setCell (C_ B3 0) u).frozen? (C_ B4 0)=false:=fun u=>(GL.bL (p:=⟨B3,0,none⟩) (by show B4≠B3;omega) u).frozen 0;have g5:∀u,L_ (W1.setCell (C_ B3 0) u) B4 0 (I_ sk):=fun u=>(GL.bL (p:=⟨B3,0,none⟩) (by show B4≠B3;omega) u).cell 0
  have FV:Hid ((b=false->iA w0 base N f lk bm s bx g c T bd w ov ord L qm z1 q B1 B2 B3 B4 (W1.setCell (C_ B4 0) (I_ (sk+1))) n (sk+1) (pre.length+1) lT dv D')/\(b=true->iA w0 base N f lk bm s bx g c T bd w ov ord L qm z1 q B1 B2 B3 B4 ((W1.setCell (C_ B3 0) (I_ (n+1))).setCell (C_ B4 0) (I_ 0)) (n+1) 0 (pre.length+1) lT dv D')):=by
   refine ac5 ⟨fun e=>?_,fun e=>?_⟩
   ·subst e;refine HF.out.skip HP.out ho hf hq hV hB (by rw [hL']at xW;simpa using xW) ?_;rcases ho with h|⟨h,_⟩
    ·exact h
    ·cases h
   ·subst e;exact HF.out.move HP.out ho hf hq hV hB (by rw [hL']at xW;simpa using xW) O_
  have HFR:=ac5 hf;clear a1 a2 a3 a4 a5 a6 a7 a8 a9 GL SP a12 xW hL' ho hf hq hV hB o3
  cases b
  ·
   have Ct:=FV.out.1 rfl;have KV:Hid (Fr (fun k=>Up w0 base bm D1.S.q s ov1 W k\/k=B2\/k=B3\/k=B4) W (W1.setCell (C_ B4 0) (I_ (sk+1)))):=ac5 (Fr.trans (HFR.out.mono fun _ _ h=>.inl h) (((One.refl B4 W1).set 0 (I_ (sk+1))).mono fun _ _ h=>dS h))
   gi_wp2_with fail
   clear FV g1 g3 g4 z3 z4 z5 g5 HFR;generalize(W1.setCell (C_ B4 0) (I_ (sk+1)))=V at*;obtain⟨n',dn⟩:∃n',n=n':=⟨_,rfl⟩;obtain⟨CK,VQ⟩:∃CK,sk+1=CK:=⟨_,rfl⟩;have ng:n'<=bd+1:=O_
   rw [dn,VQ]at Ct;have v1:=Ct.k1.k0;have v3:=Ct.k3.k0;have v4:=Ct.k4.k0;have v5:=Ct.jk.ai.k2;have v6:=Ct.jk.ai.k4;have hw:wrap64 (2*(N:Int))=2*(N:Int):=WB _ O_;have HV:=ac5 Ct;clear Ct;by_cases bT:2*(N:Int)<=CK
   ·have dA:=k_ bT;refine aS rfl K_ K_ K_ ?_
    repeat(gi_big_quiet_step (fail))
    refine pK ?_;rintro _ ⟨nq,rfl⟩;have F2:=HV.out.new ((ae.refl V).drewN nq);have zn:=F2.k2.frozen 0;have zc:=F2.k2.k0;have zd:L_ (V.drewN nq) B3 0 (I_ n'):=v3;have iw:=ac5 F2;clear F2
    gi_wp2
    exact⟨HF.out.keeps HP.out (Fr.setCell (KV.out.drewN nq) (p:=⟨B2,0,none⟩) (fun _=>.inr (.inl rfl)) _) (by have:=HZ.out;omega),rfl,iw.out.stop HP.out ng⟩
   ·have dA:=aP bT;have dB:decide (bd<n')=false:=aP O_;refine aS rfl K_ K_ K_ ?_
    repeat(gi_big_quiet_step (fail))
    refine pK ?_;rintro _ ⟨nq,rfl⟩
    gi_wp2
    have hlen:(pre++[x]).length=pre.length+1:=by rw [dr];rfl
    refine⟨HF.out.keeps HP.out (KV.out.drewN nq) (by have:=HZ.out;omega),?_⟩;have hI:Cr w0 base N f lk bm s bx g c T bd w ov ord L qm z1 q B1 B2 B3 B4 (pre.length+1) (V.drewN nq):=⟨n',CK,lT,dv,D',HV.out.new ((ae.refl V).drewN nq),O_,O_⟩;rw [<-hlen]at hI;exact hI
  ·
   have Ct:=FV.out.2 rfl;have KV:Hid (Fr (fun k=>Up w0 base bm D1.S.q s ov1 W k\/k=B2\/k=B3\/k=B4) W ((W1.setCell (C_ B3 0) (I_ (n+1))).setCell (C_ B4 0) (I_ 0))):=ac5 (Fr.trans (Fr.trans (HFR.out.mono fun _ _ h=>.inl h) (((One.refl B3 W1).set 0 (I_ (n+1))).mono fun _ _ h=>cu (.inl h))) (((One.refl B4 _).set 0 (I_ 0)).mono fun _ _ h=>dS h))
   gi_wp2_with fail
   clear FV g1 g3 g4 z3 z4 z5 g5 HFR;generalize((W1.setCell (C_ B3 0) (I_ (n+1))).setCell (C_ B4 0) (I_ 0))=V at*;obtain⟨n',dn⟩:∃n',n+1=n':=⟨_,rfl⟩;obtain⟨CK,VQ⟩:∃CK:Int,0=CK:=⟨_,rfl⟩;have ng:n'<=bd+1:=O_
   rw [dn]at Ct;have Ct:=VQ▸Ct;have v1:=Ct.k1.k0;have v3:=Ct.k3.k0;have v4:=Ct.k4.k0;have v5:=Ct.jk.ai.k2;have v6:=Ct.jk.ai.k4;have hw:wrap64 (2*(N:Int))=2*(N:Int):=WB _ O_;have HV:=ac5 Ct;clear Ct;have dA:decide (2*(N:Int)<=CK)=false:=aP O_;by_cases hbn:bd<n'
   ·have dB:=k_ hbn;refine aS rfl K_ K_ K_ ?_
    repeat(gi_big_quiet_step (fail))
    refine pK ?_;rintro _ ⟨nq,rfl⟩;have F2:=HV.out.new ((ae.refl V).drewN nq);have zn:=F2.k2.frozen 0;have zc:=F2.k2.k0;have zd:L_ (V.drewN nq) B3 0 (I_ n'):=v3;have iw:=ac5 F2;clear F2
    gi_wp2
    exact⟨HF.out.keeps HP.out (Fr.setCell (KV.out.drewN nq) (p:=⟨B2,0,none⟩) (fun _=>.inr (.inl rfl)) _) (by have:=HZ.out;omega),rfl,iw.out.stop HP.out ng⟩
   ·have dB:=aP hbn;refine aS rfl K_ K_ K_ ?_
    repeat(gi_big_quiet_step (fail))
    refine pK ?_;rintro _ ⟨nq,rfl⟩
    gi_wp2
    have hlen:(pre++[x]).length=pre.length+1:=by rw [dr];rfl
    refine⟨HF.out.keeps HP.out (KV.out.drewN nq) (by have:=HZ.out;omega),?_⟩;have hI:Cr w0 base N f lk bm s bx g c T bd w ov ord L qm z1 q B1 B2 B3 B4 (pre.length+1) (V.drewN nq):=⟨n',CK,lT,dv,D',HV.out.new ((ae.refl V).drewN nq),O_,O_⟩;rw [<-hlen]at hI;exact hI
 case hstop=>
  rintro D5 c' pre W hD _ ⟨rfl,hJ⟩ hK;have hJ2:=hJ.mark (W1:=W.putObj D5 (.deferred none)) HP.out (Bt:=D5) ⟨some D5,bH _ D5 _,fun r e=>by cases e;exact⟨aA _,_,hK,rfl⟩⟩ (by have:=HZ.out;omega);obtain⟨r,ov2,alr,L2,D2,h1,h2⟩:=hJ2;have HJ:=ac5 h2;clear h2 hJ
  gi_wp2
  refine⟨S_,.inl ⟨_,_,rfl,Gx hK,?_⟩⟩;exact⟨_,aI rfl _ _ rfl (cJ underlying3 rfl (h1.cell 0)),⟨_,rfl⟩,B2,r,ov2,alr,L2,D2,h1,HJ.out⟩
 case hseq=>
  intro l K Kx W1 hB hKm YE k1 i1 gA;refine(xN q s N 1000000 hN1 O_ (I:=fun pre W=>Cr w0 base N f lk bm s bx g c T bd w ov ord L qm z1 q B1 B2 B3 B4 pre.length W) (Ix:=fun c' pre W=>c'=.ret/\Js w0 base N f lk bm s bx g c T bd w ov ord qm B2 W) l W1 k1 i1 (fun pre W h=>?_) (fun pre W h=>?_) (fun pre x W hI hx hk=>gA pre x W ⟨hI,by rw [hx];exact Nat.mod_lt _ hN1⟩ hk)).mono ?_
  ·obtain⟨n,sk,ov1,afK,D1,F,_⟩:=h;exact⟨F.kq.cell 0,_,_,F.jk.ai.cell 2⟩
  ·obtain⟨n,sk,ov1,afK,D1,F,h1,h2⟩:=h;exact F.fuel h1 h2 hN Ke.2
  ·rintro e W' ⟨hv,pre,c',h1,h2⟩;exact⟨hv,.inr ⟨pre,c',trivial,h1,h2⟩⟩
end
end
end Go.Proofs.YtliimglbbiebiaaGreatDoor
