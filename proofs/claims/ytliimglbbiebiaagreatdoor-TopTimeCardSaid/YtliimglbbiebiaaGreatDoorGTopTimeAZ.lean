import Derived.Test.YtliimglbbiebiaaGreatDoorGTopTimeAU
import Derived.Test.YtliimglbbiebiaaGreatDoorGTopTimeAW
set_option maxRecDepth 100000
set_option maxHeartbeats 6400000
set_option linter.all false
namespace Go.Proofs.YtliimglbbiebiaaGreatDoor
open Go.Proofs.Tryz Go.RowKit Go.Maps
section
variable{w0 W w w' CE:World}{base:Nat}{S S':Sx}{Q Q':Qs}{M M':List bU}{n t f n' t' f':Int}{i:Int}{xs:Nat}{o o':Vo}{m d:Nat}{R:Nat->Prop}{b b':Bool}{bs OB:Nat}{vo i_:Value}{lo iR:List cV}
theorem dJ.ai (k:dJ w w' S Q n i xs o m d R S' Q' n' o') (H:SO w0 base w S Q M n t f i xs o b) {g:Nat}{ty:TypeId}{cs:Array Value}(hb:af w g ty cs) (hg:base<=g) (hR:¬R g)
 (h1:ty≠94/\ty≠155/\ty≠351/\ty≠232/\ty≠98/\ty≠111/\ty≠163/\ty≠28):af w' g ty cs:=
 k.fr.ai hb fun hk=>by
   rcases hk with hk|hk|hk
   ·exact H.st.aX hb hg h1.1 h1.2.1 h1.2.2.2.2.2.2.1 h1.2.2.2.2.2.2.2 h1.2.2.1 h1.2.2.2.1 hk
   ·exact H.kE hb h1.2.2.2.2.1 h1.2.2.2.2.2.1 h1.2.2.2.2.2.2.1 h1.2.2.2.2.2.2.2 hk
   ·exact hR hk
theorem fU.ops (h:fU bs OB vo lo w) (k:dJ w w' S Q n i xs o m d (fun _=>False) S' Q' n' o') (H:SO w0 base w S Q M n t f i xs o b) (lA:base<=bs) (gU:base<=OB):fU bs OB vo lo w':=
 h.fr k.fr fun g ty cs hb hg ht hk=>by
   have hg':base<=g:=O_
   rcases hk with hk|hk|hk
   ·rcases ht with rfl|rfl|rfl<;>exact H.st.aX hb hg' D_ D_ D_ D_ D_ D_ hk
   ·rcases ht with rfl|rfl|rfl<;>exact H.kE hb D_ D_ D_ D_ hk
   ·exact hk
theorem sX(H:SO w0 base w S Q M n t f i xs o b) (ho:fU bs OB vo lo w) {r:Value}{lr:List cV}(hr:Rd cG w r lr) (hk:∀x∈lr,bF bs w x) (hl:lo.length+lr.length<=1000000000) (iZ:bs<=w.heap.size) (lA:base<=bs) (CD:w0.heap.size<=bs) (gU:base<=OB) (B5:w0.heap.size<=OB):
 H_ 39 #[r,Q_ OB] w fun e w'=>e=.returned (.tuple #[])/\∃i_,fU bs OB i_ (lo++lr) w'/\SO w0 base w' S Q M n t f i xs o b/\Fr (fun k=>k=OB\/vo.ownBlock=some k) w w'/\∀k,i_.ownBlock=some k->vo.ownBlock=some k\/w.heap.size<=k:=by
 refine(uI OB bs r vo lo lr w ho.b ho.r hr hl iZ).mono ?_;rintro e w' ⟨rfl,i_,ng,hr',hf,hs⟩;refine⟨rfl,i_,ho.add hk ng hr' hf,H.apart hf fun k hk _=>?_,hf,fun k hk=>?_⟩
 ·rcases hk with rfl|hk
  ·exact⟨gU,B5,_,.inl ho.b⟩
  ·obtain⟨cs,cK⟩:=ho.r.heap hk;have:=(ho.r.block hk).1;exact⟨O_,O_,cs,.inr (.inl cK)⟩
 ·rcases hs with e1|⟨g,e1,e2⟩
  ·rw [e1]at hk;exact .inl hk
  ·rw [e1]at hk;injection hk with hk;exact .inr O_
theorem jA{cs:Array Value}{g:Nat}(H:SO w0 base w S' Q' M' n' t' f i xs o' b') (k:dJ W w S Q n i xs o m d (fun k=>k=OB\/vo.ownBlock=some k) S' Q' n' o') (hm:m<=5000) (hd:d<=1) (ho:fU bs OB i_ iR w) (hg:af w g 108 cs) (hgW:W.heap.size<=g) (KN:base<=W.heap.size) (hwW:w0.heap.size<=W.heap.size)
 (one:One g w CE) (st:Int) (tx:ByteArray) (bT:(0<=st/\st<=2)/\tx.size<=300) (hr:∀r∈iR,r∈lo\/Fk o' r) (hl:iR.length+2*(Q'.l i).length<=lo.length+2*(Q.l i).length+200000):
 Ts w0 base W CE S Q n f i xs o bs OB vo lo (.returned (.agg #[I_ st,T_ tx])):=by
 have H2:=H.apart one fun k hk _=>by
  have e:=hk;subst e;exact⟨O_,O_,_,.inr (.inr hg)⟩
 refine⟨st,tx,i_,iR,S',Q',M',n',t',o',b',rfl,bT,ho.one one hg D_ D_ D_,H2,(k.trans (dJ.side one) fun k e=>?_).xE O_ O_ fun _ _ h=>h,hr,hl⟩;have e:=e;exact .inr O_
theorem boxes(W:World) (c:fK):∃WA,WA=((W.alloc (G_ #[T_ c.t,I_ c.k,T_ c.m,X_ c.sA c.sn c.sc,I_ c.it,I_ c.mo,R_ c.si,B_ c.fl,X_ c.dA c.dn c.dc] 47)).alloc (G_ #[I_ 0,E_] 108))/\ae W WA/\
 af WA W 47 #[T_ c.t,I_ c.k,T_ c.m,X_ c.sA c.sn c.sc,I_ c.it,I_ c.mo,R_ c.si,B_ c.fl,X_ c.dA c.dn c.dc]/\af WA (W.heap.size+1) 108 #[I_ 0,E_]:=
 ⟨_,rfl,((ae.refl W).alloc _).alloc _,(af.new _ _ _).alloc _,af.cD _ _ _ _⟩
theorem M5(H0:SO w0 base W S Q M n t f i xs o false) (hn:n<=5000) (hQ:∀j∈Q.ids,(Q.l j).length<=90000000) (c:fK) (ho:fU bs OB vo lo W) (fi:lo.length<=1000) (lA:base<=bs) (CD:w0.heap.size<=bs) (iZ:bs<=W.heap.size) (gU:base<=OB) (B5:w0.heap.size<=OB):
 H_ 65 #[Q_ xs,c.val,rR OB] W fun e W'=>Ts w0 base W W' S Q n f i xs o bs OB vo lo e:=by
 obtain⟨WA,ox,nA,cA,rA⟩:=boxes W c;have HA:=H0.new nA;have Gn:=H0.st.hb;have I1:=H0.st.new.size;have uV:=ho.new nA;have HF:=ac5 (rp HA true O_ fun j hj=>by have:=hQ j hj;omega);have H:=ac5 (And.intro HA (And.intro uV (And.intro rA nA)));clear H0 HA ho uV rA cA hQ nA
 go_enter func65,ntmps65
 go_wp2_with fail
 rw [<-ox];clear ox;refine HF.out.mono ?_;rintro e w1 ⟨r1,lr,rfl,cl,hp,gK,Q1,o1,H1,k1,_,pa⟩;have fV:=H.out.2.1.ops k1 H.out.1 lA gU;have R1:=k1.ai H.out.1 H.out.2.2.1 O_ id D_;have hsA:=H.out.2.2.2.size;have fB:=k1.fr.size;have Vs:=ac5 (sX H1 fV cl.rd (fun x hx=>(hp x hx).2.mono O_) O_ O_ lA CD gU B5);have HH:=ac5 (And.intro H1 (And.intro fV (And.intro k1 (And.intro R1 hp))));clear H1 fV k1 R1 hp cl HF;go_wp2_with fail
 refine Vs.out.mono ?_;rintro e w2 ⟨rfl,Tr,eY,H2,f2,_⟩
 have R2:=f2.ai HH.out.2.2.2.1 (by
  rintro(e|e)
  ·exact HH.out.2.2.2.1.aU HH.out.2.1.b D_ e
  ·exact HH.out.2.1.r.aD HH.out.2.2.2.1 D_ e)
 have c0:=R2.k0;have c1:=R2.k1;have ff:=R2.dq;go_wp2;refine r_ (aI rfl _ _ rfl (dN (R2.bP (I_ 0) (T_ iV)))) rfl ?_;have one:=One.bP w2 (W.heap.size+1) (I_ 0) (T_ iV);have g1:=((dJ.refl H.out.2.2.2).trans HH.out.2.2.1 fun _ h=>h.elim).trans (dJ.side f2) fun _ h=>.inl h;refine jA H2 g1 O_ O_ eY R2 O_ Gn I1 one 0 iV ⟨O_,D_⟩ (fun r hr=>?_) (by rw [dr];omega);exact(List.mem_append.1 hr).imp id fun h=>.inl (HH.out.2.2.2.2 r h).1
theorem aag(H0:SO w0 base w S Q M n t f i xs o false):
 H_ 89 #[Q_ xs] w fun e w'=>e=.returned (.tuple #[])/\∃Q',SN w0 base w' S Q' M n t f i xs true/\dJ w w' S Q n i xs o 0 0 (fun _=>False) S Q' n none/\Q'.ids.length<=Q.ids.length:=by
 have hx:=H0.dF.lt;have HL:=ac5 (sV H0);clear H0
 go_enter func89,ntmps89
 go_wp2_with fail
 refine HL.out.mono ?_;rintro e w1 ⟨rfl,Q1,H1,k1,oZ⟩;have z3:=H1.dF.frozen 3;have c3:=H1.dF.k3;have K1:=ac5 (And.intro H1 (And.intro k1 oZ));clear H1 k1 oZ;go_wp2;go_end0;have one:One xs w1 (w1.setCell (C_ xs 3) (R_ true)):=(One.refl xs w1).set 3 _;have hs:=K1.out.1.dF;refine⟨rfl,Q1,{K1.out.1 with st:=K1.out.1.st.state hs K1.out.1.bx K1.out.1.lx one,dF:=hs.al 3 _},?_,K1.out.2.2⟩;exact K1.out.2.1.trans (m':=0) (d':=0) (R':=fun _=>False) {s:=rfl,cap:=rfl,tt:=⟨rfl,rfl⟩,fr:=one.mono fun k _ e=>.inr (.inl e),gr:=fun _ h=>.inl h,mg:=fun _ h=>.inl h,nn:=O_,yO:=fun j _=>⟨ou,[],S_,S_,S_⟩,own:=by omega} fun _ h=>h.elim
def RE:ByteArray:=⟨#[99,108,111,115,105,110,103]⟩
def B9:ByteArray:=⟨#[76,79,71,79,85,84,32,99,111,109,112,108,101,116,101,100]⟩
theorem bF.said (B:Nat) (w:World) (k:Int) (x:ByteArray) (hk:1<=k/\k<=10) (hx:x.size<=10000):bF B w ⟨k,0,⟨#[]⟩,0,x,0,0,0,0,none,0,0⟩:=
 have h2:(0:Int)<=0/\(0:Int)<=2:=D_
 have h3:(0:Int)<=0/\(0:Int)<=31:=D_
 have h4:(0:Int)<=0/\(0:Int)<=255:=D_
 have h5:(0:Int)<=0/\(0:Int)<=4294967295:=D_
 {kk:=hk,n0:=h5,t0:=Gv _,x0:=hx,WJ:=h2,it0:=h3,fl0:=h4,LL:=h5,sz0:=h5,body:=⟨[],Own.nil _ _ _ _,Gv _⟩}
theorem Fo(H0:SO w0 base W S Q M n t f i xs o false) (c:fK) (ho:fU bs OB vo lo W) (fi:lo.length<=1000) (lA:base<=bs) (CD:w0.heap.size<=bs) (iZ:bs<=W.heap.size) (gU:base<=OB) (B5:w0.heap.size<=OB):
 H_ 66 #[Q_ xs,c.val,rR OB] W fun e W'=>Ts w0 base W W' S Q n f i xs o bs OB vo lo e:=by
 obtain⟨WA,ox,nA,cA,rA⟩:=boxes W c;have HA:=H0.new nA;have Gn:=H0.st.hb;have I1:=H0.st.new.size;have uV:=ho.new nA;have HF:=ac5 (aag HA);have H:=ac5 (And.intro HA (And.intro uV (And.intro rA nA)));clear H0 HA ho uV rA cA nA
 go_enter func66,ntmps66
 go_wp2_with fail
 rw [<-ox];clear ox;refine HF.out.mono ?_;rintro e w1 ⟨rfl,Q1,H1,k1,_⟩;have fV:=H.out.2.1.ops k1 H.out.1 lA gU;have R1:=k1.ai H.out.1 H.out.2.2.1 O_ id D_;have hsA:=H.out.2.2.2.size;have fB:=k1.fr.size;have n1:ae w1 (W_ w1 #[I_ 7,U_ 0,E_,I_ 0,T_ RE,I_ 0,B_ 0,U_ 0,U_ 0,Z_] 53):=(ae.refl w1).alloc _;have rd1:Rd cG (W_ w1 #[I_ 7,U_ 0,E_,I_ 0,T_ RE,I_ 0,B_ 0,U_ 0,U_ 0,Z_] 53) (X_ (M_ w1) 1 1) [⟨7,0,⟨#[]⟩,0,RE,0,0,0,0,none,0,0⟩]:=jn (E:=cG) (x:=⟨7,0,⟨#[]⟩,0,RE,0,0,0,0,none,0,0⟩) (t:=53) (af.new _ _ _);have aah:=fV.new n1;have H1n:=SO.new (o:=none) H1 n1;have Vs:=ac5 (sX H1n aah rd1 (fun x hx=>by rw [List.mem_singleton.1 hx];exact bF.said _ _ 7 RE D_ D_) P_ (by rw [gz];omega) lA CD gU B5);have HH:=ac5 (And.intro aah (And.intro k1 (And.intro (n1.ai R1) n1)));clear H1 fV k1 R1 HF rd1 H1n aah n1;go_wp2_with fail
 refine Vs.out.mono ?_;rintro e w2 ⟨rfl,Tr,eY,H2,f2,_⟩
 have R2:=f2.ai HH.out.2.2.1 (by
  rintro(e|e)
  ·exact HH.out.2.2.1.aU HH.out.1.b D_ e
  ·exact HH.out.1.r.aD HH.out.2.2.1 D_ e)
 have c0:=R2.k0;have c1:=R2.k1;have ff:=R2.dq;go_wp2;refine r_ (aI rfl _ _ rfl (dN (R2.bP (I_ 0) (T_ B9)))) rfl ?_;have one:=One.bP w2 (W.heap.size+1) (I_ 0) (T_ B9);have g1:=(((dJ.refl H.out.2.2.2).trans HH.out.2.1 fun _ h=>h.elim).trans (dJ.refl (R:=fun _=>False) HH.out.2.2.2) fun _ h=>h.elim).trans (dJ.side f2) fun _ h=>.inl h;refine jA H2 g1 O_ O_ eY R2 O_ Gn I1 one 0 B9 ⟨O_,D_⟩ (fun r hr=>?_) (by have:=g1.own;rw [dr,dK];omega);refine(List.mem_append.1 hr).imp id fun h=>.inl ?_;rw [List.mem_singleton.1 h]
 show bits .and .i64 0 2=0
 decide
theorem RF(h:cn w0 base w S Q M n t f):∀e∈((fR M 4).map fun u=>(⟨2,u,0⟩:Ev)),pI n e:=fun e he=>by
 obtain⟨u,hu,rfl⟩:=List.mem_map.1 he;obtain⟨m,hm,_,rfl⟩:=sW.1 hu;have h1:=(h.ok m hm).1.1;have h2:=h.below m hm;exact⟨by dsimp only;omega,⟨by dsimp only;omega,h2⟩,by dsimp only;omega⟩
theorem SO.EV (H:SO w0 base w S Q M n t f i xs o b) (_hn:n<=5000):M.length<=5000:=by
 have:=H.st.EV;omega
theorem tR(H:SO w0 base w S Q M n t f i xs o b) (hn:n<=5000) (hQ:∀j∈Q.ids,(Q.l j).length<=90000000):
 H_ 100 #[Q_ S.s] w fun e w'=>∃A len c S' Q' M',e=.returned (X_ A len c)/\SO w0 base w' S' Q' M' n t f i xs o b/\dJ w w' S Q n i xs o 5000 0 (fun _=>False) S' Q' n o/\Q'.ids=Q.ids/\∀j∈Q'.ids,(Q'.l j).length<=91000000:=by
 have gE:=H.EV hn;have gK:(fR M 4).length<=M.length:=by unfold fR;rw [D9];exact cR _ _
 have WE:=RF H.st;refine(B8 H.st fun j hj=>by have:=hQ j hj;omega).mono ?_;rintro e w' ⟨A,c,S',Q',rfl,_,bT,hp,hid,hl,_⟩;have Ez:∀j,∃L,Q'.l j=Q.l j++L/\L.length<=5000/\∀e∈L,pI n e:=fun j=>⟨_,hl j,by rw [D9];omega,WE⟩;refine⟨A,_,c,S',Q',_,rfl,H.turn bT hp.s hp.fr (fun k hk=>H.bL k hk) hp.gr (gq _) (by rw [hid]) (fun e he=>?_),{s:=hp.s,cap:=hp.cap,tt:=hp.tt,fr:=hp.fr.mono fun _ _ h=>.inl h,gr:=hp.gr,mg:=fun _ h=>.inl h,nn:=O_,yO:=fun j _=>⟨by rw [hid],Ez j⟩,own:=?_},hid,fun j hj=>?_⟩
 ·rw [hl i]at he;exact(List.mem_append.1 he).imp id (WE e)
 ·rw [hl i,dr,D9];omega
 ·rw [hid]at hj;have:=hQ j hj;rw [hl j,dr,D9];omega
def I5:ByteArray:=⟨#[67,76,79,83,69,32,99,111,109,112,108,101,116,101,100]⟩
def xF:ByteArray:=⟨#[69,88,80,85,78,71,69,32,99,111,109,112,108,101,116,101,100]⟩
theorem I6(H0:SO w0 base W S Q M n t f i xs o false) (hn:n<=5000) (hQ:∀j∈Q.ids,(Q.l j).length<=90000000) (c:fK) (ho:fU bs OB vo lo W) (asy:lo.length<=1000) (lA:base<=bs) (asz:w0.heap.size<=bs) (asA:bs<=W.heap.size) (gU:base<=OB) (asB:w0.heap.size<=OB):
 H_ 69 #[Q_ xs,c.val,rR OB] W fun e W'=>Ts w0 base W W' S Q n f i xs o bs OB vo lo e:=by
 obtain⟨WA,ox,nA,cA,rA⟩:=boxes W c;have HA:=H0.new nA;have Gn:=H0.st.hb;have I1:=H0.st.new.size;have uV:=ho.new nA;have HF:=ac5 (sV HA);have H:=ac5 (And.intro HA (And.intro uV (And.intro rA (And.intro nA hQ))));clear H0 HA ho uV rA cA nA hQ
 go_enter func69,ntmps69
 go_wp2_with fail
 rw [<-ox];clear ox;refine HF.out.mono ?_;rintro e w1 ⟨rfl,Q1,H1,k1,_⟩;have fV:=H.out.2.1.ops k1 H.out.1 lA gU;have R1:=k1.ai H.out.1 H.out.2.2.1 O_ id D_;have H1':SO w0 base w1 S Q1 M n t f i xs none false:=H1
 have hQ1:∀j∈Q1.ids,(Q1.l j).length<=90000000:=fun j hj=>by
  by_cases g_:j=i
  ·subst g_;exact absurd hj H1.hi
  ·obtain⟨a1,L,a2,a3,_⟩:=k1.yO j g_;have:=H.out.2.2.2.2 j (a1.1 hj);rw [a2,dr];omega
 have HE:=ac5 (tR H1' hn hQ1);have c0:=H1.dF.k0;have HH:=ac5 (And.intro H1' (And.intro fV (And.intro k1 R1)));clear H1 H1' fV k1 R1 hQ1 HF;go_wp2_with fail
 refine HE.out.mono ?_;rintro e w2 ⟨A,len,cc,S2,Q2,M2,rfl,H2,k2,_,_⟩;have eY:=HH.out.2.1.ops k2 HH.out.1 lA gU;have R2:=k2.ai HH.out.1 HH.out.2.2.2 O_ id D_;have c0:=R2.k0;have c1:=R2.k1;have ff:=R2.dq;have K2:=ac5 (And.intro H2 k2);clear H2 k2 HE;go_wp2;refine r_ (aI rfl _ _ rfl (dN (R2.bP (I_ 0) (T_ I5)))) rfl ?_;have one:=One.bP w2 (W.heap.size+1) (I_ 0) (T_ I5);have g1:dJ W w2 S Q n i xs o (0+0+5000) (0+0+0) (fun k=>k=OB\/vo.ownBlock=some k) S2 Q2 n none:=((dJ.refl H.out.2.2.2.1).trans HH.out.2.2.1 fun _ h=>h.elim).trans K2.out.2 fun _ h=>h.elim;exact jA K2.out.1 g1 O_ O_ eY R2 O_ Gn I1 one 0 I5 ⟨O_,D_⟩ (fun r hr=>.inl hr) (by have:=g1.own;omega)
theorem Ca(H0:SO w0 base W S Q M n t f i xs o false) (hn:n<=5000) (hQ:∀j∈Q.ids,(Q.l j).length<=90000000) (c:fK) (ho:fU bs OB vo lo W) (fi:lo.length<=1000) (lA:base<=bs) (CD:w0.heap.size<=bs) (iZ:bs<=W.heap.size) (gU:base<=OB) (B5:w0.heap.size<=OB):
 H_ 70 #[Q_ xs,c.val,rR OB] W fun e W'=>Ts w0 base W W' S Q n f i xs o bs OB vo lo e:=by
 obtain⟨WA,ox,nA,cA,rA⟩:=boxes W c;have HA:=H0.new nA;have Gn:=H0.st.hb;have I1:=H0.st.new.size;have uV:=ho.new nA;have HE:=ac5 (tR HA hn hQ);have k0':=HA.dF.k0;rw [ox]at k0';have H:=ac5 (And.intro HA (And.intro uV (And.intro rA nA)));clear H0 HA ho uV rA cA nA hQ
 go_enter func70,ntmps70
 go_wp2_with fail
 rw [<-ox];clear ox k0';refine HE.out.mono ?_;rintro e w1 ⟨A,len,cc,S1,Q1,M1,rfl,H1,k1,_,hQ1⟩;have fV:=H.out.2.1.ops k1 H.out.1 lA gU;have R1:=k1.ai H.out.1 H.out.2.2.1 O_ id D_;have hsA:=H.out.2.2.2.size;have fB:=k1.fr.size;have HF:=ac5 (rp H1 true O_ fun j hj=>by have:=hQ1 j hj;omega);have HH:=ac5 (And.intro H1 (And.intro fV (And.intro k1 R1)));clear H1 fV k1 R1 hQ1 HE;go_wp2_with fail
 refine HF.out.mono ?_;rintro e w2 ⟨r2,lr,rfl,cl,hp,gK,Q2,o2,H2,k2,_,pa⟩;have eY:=HH.out.2.1.ops k2 HH.out.1 lA gU;have R2:=k2.ai HH.out.1 HH.out.2.2.2 O_ id D_;have fW:=k2.fr.size;have Vs:=ac5 (sX H2 eY cl.rd (fun x hx=>(hp x hx).2.mono O_) O_ O_ lA CD gU B5);have Ac:=ac5 (And.intro eY (And.intro k2 (And.intro R2 hp)));clear H2 eY k2 R2 hp cl HF;go_wp2_with fail
 refine Vs.out.mono ?_;rintro e w3 ⟨rfl,vo3,fg,H3,f3,_⟩
 have R3:=f3.ai Ac.out.2.2.1 (by
  rintro(e|e)
  ·exact Ac.out.2.2.1.aU Ac.out.1.b D_ e
  ·exact Ac.out.1.r.aD Ac.out.2.2.1 D_ e)
 have c0:=R3.k0;have c1:=R3.k1;have ff:=R3.dq;go_wp2;refine r_ (aI rfl _ _ rfl (dN (R3.bP (I_ 0) (T_ xF)))) rfl ?_;have one:=One.bP w3 (W.heap.size+1) (I_ 0) (T_ xF);have g1:=(((dJ.refl H.out.2.2.2).trans HH.out.2.2.1 fun _ h=>h.elim).trans Ac.out.2.1 fun _ h=>h.elim).trans (dJ.side f3) fun _ h=>.inl h;refine jA H3 g1 O_ O_ fg R3 O_ Gn I1 one 0 xF ⟨O_,D_⟩ (fun r hr=>?_) (by have:=HH.out.2.2.1.own;rw [dr];omega);exact(List.mem_append.1 hr).imp id fun h=>.inl (Ac.out.2.2.2 r h).1
end
section
variable{w0 W w w' CE:World}{base:Nat}{S S':Sx}{Q Q':Qs}{M M':List bU}{n t f n' t' f':Int}{i:Int}{xs:Nat}{o o':Vo}{b b':Bool}
theorem RG(vv:Value) (l:List Int) (hv:Rd (ak .u32) w vv l) (hl:l.length<=1000):H_ 128 #[vv] w fun e w'=>∃v x u,e=.returned (Q_ v)/\VW w' v x false/\cQ 0 w' x u (idxOf l)/\w.heap.size<=v/\w.heap.size<=x/\(∀b,u.ownBlock=some b->w.heap.size<=b)/\ae w w':=by
 have HN:=ac5 (akf hv hl);clear hv
 go_enter func128,ntmps128
 go_wp2_with fail
 refine HN.out.mono ?_;rintro e w1 ⟨x,u,rfl,hx,hb,n1⟩;have HB:=ac5 hb;clear hb;go_wp2;go_ret;have n2:ae w1 (W_ w1 #[Q_ x,R_ false] 111):=(ae.refl w1).alloc _;obtain⟨h1,h2,h3⟩:=HB.out;exact⟨w1.heap.size,x,u,rfl,af.new _ _ _,cQ.new ⟨h1,h2.mono (Gv _),h3⟩ n2,n1.size,hx,fun b hb=>(h2.block hb).1,n1.trans n2⟩
theorem RH(H0:SN w0 base w S Q M n t f i xs false) (hq:Q.ids.length<=1000) (hc:S.cap<=1000):
 H_ 92 #[Q_ xs] w fun e w'=>e=.returned (.tuple #[])/\∃Q' v x u l,SV w0 base w' S Q' M n t f i xs v x u l/\l.length<=1000/\dJ w w' S Q n i xs none 0 0 (fun _=>False) S Q' n (some (v,x,u,l)):=by
 obtain⟨k0,k1,k2,k3⟩:=H0.dF.rQ;have oR:=H0.ib;have hs:=H0.dF;have uP:=H0.fx;have nV:=And.intro H0.bx H0.lx;have bJ:=H0.dF.lt;have q_:=H0.st.new.size;have HB:=ac5 (And.intro H0.st.hb (And.intro H0.st.ok H0.st.below));have hML:(M.map bU.uid).length<=1000:=by have:=H0.st.len;rw [D9];omega
 have HU:=ac5 (fun W (hn:ae w W)=>Q8 (H0.st.more hn) i O_ O_ H0.hi O_);clear H0
 go_enter func92,ntmps92
 go_wp2_with fail
 go_region_held3 (fun W=>L_ W xs 0 (Q_ S.s)/\L_ W xs 1 (I_ i)) (first|go_keep|(refine⟨?_,?_⟩<;>assumption)) ((first
  |(go_at_call 127
    refine(HU.out _ N_).mono ?_;rintro e w2 ⟨A,c,b,rfl,ho,bT,hb,f2⟩;have F2:Fr (S.aB Q) w w2:=Fr.trans (ae.to N_) f2;have fW:=F2.ai hs uP;have p0:=fW.k0;have p1:=fW.k1;have HO:=ac5 ho.rd;have iI:=ac5 bT;have iw:=ac5 F2;have HBB:Hid (w.heap.size<=b):=ac5 hb;clear ho bT f2 F2 hb)
  |fail))
 have HVN:=ac5 (RG _ _ HO.out hML);go_wp2_with fail
 refine HVN.out.mono ?_;rintro e w3 ⟨v,x,u,rfl,iL,EI,hlv,asF,IW,n3⟩;have jy:=n3.ai fW;have q2:=jy.k2;have z2:=jy.frozen 2;have rJ:=ac5 (And.intro iL (And.intro EI IW));clear iL EI IW;go_wp2;go_end0;have eE:=iw.out.size;have o3:One xs w3 (w3.setCell (C_ xs 2) (Q_ v)):=(One.refl xs w3).set 2 _;have yJ:=iI.out.more n3;have LH:∀k,S.aB (Q.add i b) k->k<w2.heap.size:=fun k hk=>iI.out.fI hk;have dH:=HB.out.1
 have h0u:∀y∈M.map bU.uid,0<=y/\y<n:=fun y hy=>by
  obtain⟨m,hm,rfl⟩:=List.mem_map.1 hy;have h1:=(HB.out.2.1 m hm).1.1;exact⟨O_,HB.out.2.2 m hm⟩
 have Vh:=MG _ fun y hy=>(h0u y hy).1;have asG:=MP (M.map bU.uid);have IW:=rJ.out.2.2;refine⟨rfl,Q.add i b,v,x,u,idxOf (M.map bU.uid),?_,O_,?_⟩
 ·exact{
   st:=yJ.state jy nV.1 nV.2 o3
   dF:=jy.al 2 _
   vw:=o3.ai rJ.out.1 (rJ.out.1.aU jy D_)
   ix:=rJ.out.2.1.fr o3 (rJ.out.2.1.1.aU jy D_) (fun b' ng e=>by have:=IW b' ng;omega)
   kJ:=Vh.1
   bd:=fun y hy=>h0u y ((Vh.2 y).1 hy).1
   bx:=nV.1
   bv:=O_
   nx:=fun hk=>by have:=LH _ hk;omega
   nu:=fun g hg hk=>by have:=LH _ hk;have:=IW g hg;omega
   hi:=by simp [Qs.add]
   ib:=oR
   ev:=by simp [Qs.add]
   lx:=nV.2
   lv:=O_
   li:=O_
   lu:=fun g hg=>by have:=IW g hg;omega}
 ·exact{
   s:=rfl
   cap:=rfl
   tt:=⟨rfl,rfl⟩
   fr:=Fr.trans (Fr.trans (iw.out.mono fun _ _ h=>.inl h) (ae.to n3)) (o3.mono fun _ _ h=>.inr (.inl h))
   gr:=fun k hk=>Sx.qW HBB.out hk
   mg:=fun k hk=>by
    rcases(show k=xs\/k=v\/k=x\/u.ownBlock=some k from hk)with e|e|e|e
    ·exact .inl e
    ·exact .inr O_
    ·exact .inr O_
    ·exact .inr (by have:=IW k e;omega)
   nn:=O_
   yO:=fun j hj=>⟨by simp [Qs.add,hj],[],by simp [Qs.add,hj],S_,S_⟩
   own:=by simp [Qs.add]}
end
section
variable{w0 W w w' CE:World}{base:Nat}{S S':Sx}{Q Q':Qs}{M M':List bU}{n t f n' t' f':Int}{i:Int}{xs:Nat}{o o':Vo}{m d:Nat}{R:Nat->Prop}{b b':Bool}{bs OB:Nat}{vo i_:Value}{lo iR:List cV}
def XW(c:Int):Prop:=c=0\/c=2\/c=5\/c=6
theorem aai(c:Int) (hc:XW c) (x:ByteArray) (hx:x.size<=100) (w:World):H_ 99 #[I_ c,T_ x] w fun e w'=>∃st tx,e=.returned (.agg #[I_ st,T_ tx])/\((0<=st/\st<=2)/\tx.size<=300)/\ae w w':=by
 have h2:Fi c->H_ 99 #[I_ c,T_ x] w fun e w'=>∃st tx,e=.returned (.agg #[I_ st,T_ tx])/\((0<=st/\st<=2)/\tx.size<=300)/\ae w w':=fun h=>
  (BZ c h x w).mono fun e w' ⟨st,tx,h1,h2,h3,h4⟩=>⟨st,tx,h1,⟨h2,O_⟩,h4⟩
 have h1:c=5\/c=6->H_ 99 #[I_ c,T_ x] w fun e w'=>∃st tx,e=.returned (.agg #[I_ st,T_ tx])/\((0<=st/\st<=2)/\tx.size<=300)/\ae w w':=fun h=>
  (aez c h x w).mono fun e w' ⟨h1,h4⟩=>⟨1,Ri c,h1,⟨O_,by rcases h with rfl|rfl<;>decide⟩,h4⟩
 rcases hc with rfl|rfl|h|h
 ·exact h2 (.inl rfl)
 ·exact h2 (.inr (.inl rfl))
 ·exact h1 (.inl h)
 ·exact h1 (.inr h)
theorem I7(H:SO w0 base w S Q M n t f i xs o b) (hn:n<=5000) (hQ:∀j∈Q.ids,(Q.l j).length<=90000000) (fl:Int) (hf:0<=fl) (A:Option Addr) (len c:Nat) (body:List Int) (hb:Rd (ak .u8) w (X_ A len c) body)
 (gh:∀b,Value.ownBlock (X_ A len c)=some b->body≠[]->¬S.aB Q b):
 H_ 98 #[Q_ S.s,B_ fl,X_ A len c] w fun e w'=>∃(u:Nat) (cd:Int),e=.returned (.tuple #[U_ u,I_ cd])/\u<=5000/\XW cd/\
  ∃S' Q' M' n' t',SO w0 base w' S' Q' M' n' t' f i xs o b/\dJ w w' S Q n i xs o 1 1 (fun _=>False) S' Q' n' o/\∀j∈Q'.ids,(Q'.l j).length<=91000000:=by
 have hlen:len=body.length:=by
  obtain⟨_,_,e,_⟩:=hb;injection e
 have XX:∀{w'},ae w w'->∃S' Q' M' n' t',SO w0 base w' S' Q' M' n' t' f i xs o b/\dJ w w' S Q n i xs o 1 1 (fun _=>False) S' Q' n' o/\∀j∈Q'.ids,(Q'.l j).length<=91000000:=fun hw=>
  ⟨S,Q,M,n,t,H.new hw,(dJ.refl hw).xE O_ O_ fun _ _ h=>h,fun j hj=>by have:=hQ j hj;omega⟩
 have bT:=H.st;by_cases h1:31<fl\/65536<len
 ·refine(yK S.s w fl A len c h1).mono ?_;rintro e w' ⟨rfl,hw⟩;exact⟨0,2,rfl,O_,.inr (.inl rfl),XX hw⟩
 by_cases h2:(M.length:Int)=S.cap
 ·refine(BO bT h2 fl O_ A len c O_).mono ?_;rintro e w' ⟨rfl,hw⟩;exact⟨0,5,rfl,O_,cu (.inl rfl),XX hw⟩
 have br:=bT.n1;have bJ:(M.length:Int)<S.cap:=by have:=bT.len;omega
 refine(EY bT bJ O_ (fun j hj=>by have:=hQ j hj;omega) fl ⟨hf,O_⟩ A len c body hb O_ gh).mono ?_;rintro e w' ⟨rfl,u',v',akI,vU,JH,xR⟩;obtain⟨nN,rfl⟩:∃nN:Nat,n=nN:=⟨n.toNat,O_⟩;have hp:=I4 (p:=fun _=>true) (ev:=⟨1,nN,0⟩) vU JH xR;have WE:pI ((nN:Int)+1) ⟨1,nN,0⟩:=⟨by dsimp only;omega,⟨by dsimp only;omega,by dsimp only;omega⟩,by dsimp only;omega⟩
 have Ez:∀j,∃L,(Q.told (fun _=>true) ⟨1,nN,0⟩ v').l j=Q.l j++L/\L.length<=1/\∀e∈L,pI ((nN:Int)+1) e:=fun j=>
  ⟨[⟨1,nN,0⟩],by simp [Qs.told,z_],S_,fun e he=>by rw [List.mem_singleton.1 he];exact WE⟩
 refine⟨nN,0,rfl,O_,.inl rfl,_,_,_,_,_,H.turn akI rfl vU (fun k hk=>H.bL k hk) hp.gr O_ ou (fun e he=>?_),{s:=rfl,cap:=rfl,tt:=⟨rfl,rfl⟩,fr:=vU.mono fun _ _ h=>.inl h,gr:=hp.gr,mg:=fun _ h=>.inl h,nn:=O_,yO:=fun j _=>⟨ou,Ez j⟩,own:=?_},fun j hj=>?_⟩
 ·obtain⟨L,e1,_,e3⟩:=Ez i;rw [e1]at he;exact(List.mem_append.1 he).imp id (e3 e)
 ·obtain⟨L,e1,e2,_⟩:=Ez i;rw [e1,dr];omega
 ·obtain⟨L,e1,e2,_⟩:=Ez j;have:=hQ j hj;rw [e1,dr];omega
def aaj:ByteArray:=⟨#[91,84,82,89,67,82,69,65,84,69,93,32,110,111,32,115,117,99,104,32,109,97,105,108,98,111,120]⟩
theorem SO.valid (H:SO w0 base w S Q M n t f i xs o b) (bT:cn w0 base w' {S with vv:=f,dd:=1} Q M n t f) (ho:One S.c w w'):SO w0 base w' {S with vv:=f,dd:=1} Q M n t f i xs o b:=
 H.turn bT rfl ho (fun k hk e=>H.bL k hk (cu (.inl e))) (fun _ hk=>.inl hk) (gq _) ou fun _ h=>.inl h
theorem dJ.valid (ho:One S.c w w'):dJ w w' S Q n i xs o 0 0 R {S with vv:=f,dd:=1} Q n o:=
 {s:=rfl,cap:=rfl,tt:=⟨rfl,rfl⟩,fr:=ho.mono fun _ _ e=>.inl (cu (.inl e)),gr:=fun _ h=>.inl h,mg:=fun _ h=>.inl h,nn:=O_,yO:=fun j _=>⟨ou,[],S_,S_,S_⟩,own:=by omega}
theorem Fp(fN:Nat) (hfN:fN<4294967296) (hT:b_ w0) (H0:SO w0 base W S Q M n t (fN:Int) i xs o false) (hn:n<=5000) (hQ:∀j∈Q.ids,(Q.l j).length<=90000000) (c:fK) (qD:0<=c.fl) (hm:c.m.size<=1000000) (body:List Int) (hb:Rd (ak .u8) W (X_ c.dA c.dn c.dc) body)
 (gh:∀b,Value.ownBlock (X_ c.dA c.dn c.dc)=some b->body≠[]->¬S.aB Q b) (ho:fU bs OB vo lo W) (fi:lo.length<=1000) (lA:base<=bs) (CD:w0.heap.size<=bs) (iZ:bs<=W.heap.size) (gU:base<=OB) (B5:w0.heap.size<=OB):
 H_ 68 #[Q_ xs,c.val,rR OB] W fun e W'=>Ts w0 base W W' S Q n (fN:Int) i xs o bs OB vo lo e:=by
 obtain⟨WA,ox,nA,cA,rA⟩:=boxes W c;have HA:=H0.new nA;have Gn:=H0.st.hb;have I1:=H0.st.new.size;have uV:=ho.new nA;have k2:=cA.k2;have Kr:=ac5 (vR c.m AM hm D_ WA);have NQ:=hb.new nA;have HX:=ac5 (And.intro hQ (And.intro NQ gh));have H:=ac5 (And.intro HA (And.intro uV (And.intro rA (And.intro nA cA))));clear H0 HA ho uV rA cA nA hQ hb NQ gh
 cases hs:JP c.m AM
 ·rw [hs]at Kr;clear hs
  go_enter func68,ntmps68
  go_wp2_with fail
  rw [<-ox];clear ox;refine Kr.out.mono ?_;rintro e w1 ⟨rfl,n1⟩;have H1:=H.out.1.new n1;have fV:=H.out.2.1.new n1;have R1:=n1.ai H.out.2.2.1;have hsA:=H.out.2.2.2.1.size;have fB:=n1.size;have HF:=ac5 (rp H1 true O_ fun j hj=>by have:=HX.out.1 j hj;omega);have HH:=ac5 (And.intro H1 (And.intro fV (And.intro n1 R1)));clear H1 fV n1 R1 Kr;go_wp2_with fail
  refine HF.out.mono ?_;rintro e w2 ⟨r2,lr,rfl,cl,hp,gK,Q2,o2,H2,Z6,_,pa⟩;have eY:=HH.out.2.1.ops Z6 HH.out.1 lA gU;have R2:=Z6.ai HH.out.1 HH.out.2.2.2 O_ id D_;have fW:=Z6.fr.size;have Vs:=ac5 (sX H2 eY cl.rd (fun x hx=>(hp x hx).2.mono O_) O_ O_ lA CD gU B5);have Ac:=ac5 (And.intro eY (And.intro Z6 (And.intro R2 hp)));clear H2 eY Z6 R2 hp cl HF;go_wp2_with fail
  refine Vs.out.mono ?_;rintro e w3 ⟨rfl,vo3,fg,H3,f3,_⟩
  have R3:=f3.ai Ac.out.2.2.1 (by
   rintro(e|e)
   ·exact Ac.out.2.2.1.aU Ac.out.1.b D_ e
   ·exact Ac.out.1.r.aD Ac.out.2.2.1 D_ e)
  have c0:=R3.k0;have c1:=R3.k1;have ff:=R3.dq;go_wp2;refine r_ (aI rfl _ _ rfl (dN (R3.bP (I_ 1) (T_ aaj)))) rfl ?_;have one:=One.bP w3 (W.heap.size+1) (I_ 1) (T_ aaj);have g1:=((dJ.refl (H.out.2.2.2.1.trans HH.out.2.2.1)).trans Ac.out.2.1 fun _ h=>h.elim).trans (dJ.side f3) fun _ h=>.inl h;refine jA H3 g1 O_ O_ fg R3 O_ Gn I1 one 1 aaj ⟨O_,D_⟩ (fun r hr=>?_) (by rw [dr];omega);exact(List.mem_append.1 hr).imp id fun h=>.inl (Ac.out.2.2.2 r h).1
 ·rw [hs]at Kr;clear hs
  go_enter func68,ntmps68
  go_wp2_with fail
  rw [<-ox];clear ox;refine Kr.out.mono ?_;rintro e w1 ⟨rfl,n1⟩;have H1:=H.out.1.new n1;have fV:=H.out.2.1.new n1;have R1:=n1.ai H.out.2.2.1;have C1:=n1.ai H.out.2.2.2.2;have hsA:=H.out.2.2.2.1.size;have fB:=n1.size;have x0:=H1.dF.k0;have x7:=C1.k7;have x8:=C1.k8;have HAP:Hid (∀W2,ae w1 W2->_):=ac5 fun W2 (h2:ae w1 W2)=>I7 (H1.new h2) hn HX.out.1 c.fl qD c.dA c.dn c.dc body ((HX.out.2.1.new n1).new h2) HX.out.2.2;have HH:=ac5 (And.intro H1 (And.intro fV (And.intro n1 (And.intro R1 C1))));clear H1 fV n1 R1 C1 Kr;go_wp2_with fail
  go_region_held3 (fun W'=>L_ W' xs 0 (Q_ S.s)/\L_ W' W 7 (B_ c.fl)/\L_ W' W 8 (X_ c.dA c.dn c.dc)) (first|go_keep|(refine⟨?_,?_,?_⟩<;>assumption)) ((first
   |(go_at_call 98
     have da:ae w1 w1.drew:=Fr.drew (ae.refl w1);refine(HAP.out _ da).mono ?_;rintro e w2 ⟨uN,cd,rfl,huN,hcd,S2,Q2,M2,n2,t2,H2,k2,hQ2⟩;have H1d:=HH.out.1.new da;have hoD:=HH.out.2.1.new da;have eY:=hoD.ops k2 H1d lA gU;have R2:=k2.ai H1d (da.ai HH.out.2.2.2.1) O_ id D_;have C2:=k2.ai H1d (da.ai HH.out.2.2.2.2) O_ id D_;have p0:L_ w2 xs 0 (Q_ S.s):=by rw [<-k2.s];exact H2.dF.cell 0
     have p7:=C2.k7;have p8:=C2.k8;have Fq:=ac5 (And.intro H2 (And.intro k2 (And.intro eY (And.intro R2 (And.intro hQ2 (And.intro hcd (And.intro huN da)))))));clear H2 k2 eY R2 C2 hQ2 hcd huN H1d hoD da)
   |fail))
  have fW:=Fq.out.2.1.fr.size;have Ig:w1.drew.heap.size=w1.heap.size:=rfl;have iQ:=Fq.out.2.1.nn;have HF:=ac5 (rp Fq.out.1 true O_ fun j hj=>by have:=Fq.out.2.2.2.2.1 j hj;omega);go_wp2_with fail
  refine HF.out.mono ?_;rintro e w3 ⟨r3,lr,rfl,cl,hp,gK,Q3,o3,H3,k3,_,pa⟩;have fg:=Fq.out.2.2.1.ops k3 Fq.out.1 lA gU;have R3:=k3.ai Fq.out.1 Fq.out.2.2.2.1 O_ id D_;have jy:=k3.fr.size;have Vs:=ac5 (sX H3 fg cl.rd (fun x hx=>(hp x hx).2.mono O_) O_ O_ lA CD gU B5);have Oe:=ac5 (And.intro fg (And.intro k3 (And.intro R3 hp)));clear H3 fg k3 R3 hp cl HF;go_wp2_with fail
  refine Vs.out.mono ?_;rintro e w4 ⟨rfl,vo4,tj,H4,f4,lq⟩
  have R4:=f4.ai Oe.out.2.2.1 (by
   rintro(e|e)
   ·exact Oe.out.2.2.1.aU Oe.out.1.b D_ e
   ·exact Oe.out.1.r.aD Oe.out.2.2.1 D_ e)
  have qC:=f4.size;have x0:=H4.dF.k0;have HVA:=ac5 (xv H4.st);have HH4:=ac5 (And.intro H4 (And.intro tj (And.intro R4 (And.intro f4 lq))));clear H4 tj R4 f4 lq;go_wp2_with fail
  refine HVA.out.mono ?_;rintro e w5 ⟨rfl,st5,o5⟩;have H5:=HH4.out.1.valid st5 o5;have ya:∀k ty cs,af w4 k ty cs->ty≠155->¬k=S2.c:=fun k ty cs hb ht e=>hb.aU HH4.out.1.st.tO ht e;have R5:=o5.ai HH4.out.2.2.1 (ya _ _ _ HH4.out.2.2.1 D_);have kW:=HH4.out.2.1.fr o5 fun k ty cs hb _ ht=>ya k ty cs hb (by rcases ht with rfl|rfl|rfl<;>decide);have HD:=ac5 (ed fN hfN w5 (hT.new H5.st.new));have d1:=fF fN hfN;have huN:=Fq.out.2.2.2.2.2.2.1;have d2:=fF uN O_;have z1:ByteArray.size ⟨#[91,65,80,80,69,78,68,85,73,68,32]⟩=11:=rfl;have z2:ByteArray.size ⟨#[32]⟩=1:=rfl;have z3:ByteArray.size ⟨#[93,32,65,80,80,69,78,68,32,99,111,109,112,108,101,116,101,100]⟩=18:=rfl;have a1:¬9223372036854775807<11+(jZ fN).size:=O_
  have a2:¬9223372036854775807<11+(jZ fN).size+1:=O_
  have a3:¬9223372036854775807<11+(jZ fN).size+1+(jZ uN).size:=O_
  have a4:¬9223372036854775807<11+(jZ fN).size+1+(jZ uN).size+18:=O_
  have HH5:=ac5 (And.intro H5 (And.intro kW (And.intro R5 (And.intro o5 ya))));have Tm:=ac5 (And.intro d1 d2);clear H5 kW R5 o5 ya st5 d1 d2;go_wp2_with fail
  refine HD.out.mono ?_;rintro e w6 ⟨rfl,n6⟩;have HD2:=ac5 (ed uN O_ w6 (hT.new (HH5.out.1.new n6).st.new));go_wp2_with fail
  refine HD2.out.mono ?_;rintro e w7 ⟨rfl,n7⟩;go_wp2_with fail
  refine(aai cd Fq.out.2.2.2.2.2.1 _ (by
   have:=Tm.out.1;have:=Tm.out.2;simp only [cI];omega) w7).mono ?_
  rintro e w8 ⟨st,tx,rfl,bT,n8⟩;have N8:ae w5 w8:=(n6.trans n7).trans n8;have R8:=N8.ai HH5.out.2.2.1;have t0:=R8.k0;have t1:=R8.k1;have tf:=R8.dq;have HN8:=ac5 N8;clear n6 n7 n8 N8;go_wp2;refine r_ (aI rfl _ _ rfl (dN (R8.bP (I_ st) (T_ tx)))) rfl ?_;have one:=One.bP w8 (W.heap.size+1) (I_ st) (T_ tx);have g1:dJ W w3 S Q n i xs o (0+1+0) (0+1+0) (fun k=>k=OB\/vo.ownBlock=some k) S2 Q3 n2 o3:=((dJ.refl ((H.out.2.2.2.1.trans HH.out.2.2.1).trans Fq.out.2.2.2.2.2.2.2)).trans Fq.out.2.1 fun _ h=>h.elim).trans Oe.out.2.1 fun _ h=>h.elim;have g2:=g1.trans (dJ.side HH4.out.2.2.2.1) fun _ h=>.inl h;have g3:=(g2.trans (dJ.valid (R:=fun _=>False) (f:=(fN:Int)) HH5.out.2.2.2.1) fun _ h=>h.elim).trans (dJ.refl (R:=fun _=>False) HN8.out) fun _ h=>h.elim;refine jA (HH5.out.1.new HN8.out) g3 O_ O_ (HH5.out.2.1.new HN8.out) R8 O_ Gn I1 one st tx bT (fun r hr=>?_) (by have:=Fq.out.2.1.own;rw [dr];omega);exact(List.mem_append.1 hr).imp id fun h=>.inl (Oe.out.2.2.2 r h).1
end
section
variable{w0 W w w' CE:World}{base:Nat}{S S':Sx}{Q Q':Qs}{M M':List bU}{n t f n' t' f':Int}{i:Int}{xs:Nat}{o o':Vo}{b b':Bool}{bs OB:Nat}{vo i_:Value}{lo iR:List cV}
def RJ:ByteArray:=⟨#[110,111,32,115,117,99,104,32,109,97,105,108,98,111,120]⟩
def aam:ByteArray:=⟨#[91,82,69,65,68,45,87,82,73,84,69,93,32,83,69,76,69,67,84,32,99,111,109,112,108,101,116,101,100]⟩
theorem I9(a:ByteArray) (n:Nat) (b:ByteArray) (hn:n<4294967296) (ha:a.size<=20) (hb:b.size<=20):(Ad a n b).size<=100:=by
 have:=fF n hn;unfold Ad;simp only [cI];have z1:ByteArray.size ⟨#[91]⟩=1:=rfl;have z2:ByteArray.size ⟨#[32]⟩=1:=rfl;have z3:ByteArray.size ⟨#[93,32]⟩=2:=rfl;omega
theorem KS(a b:ByteArray) (ha:a.size<=20) (hb:b.size<=20) (n:Nat) (hn:n<4294967296) (w:World) (hT:b_ w):H_ 93 #[T_ a,U_ n,T_ b] w fun e w'=>∃s,e=.returned (.agg #[I_ 6,U_ 0,E_,I_ 0,T_ s,I_ 0,B_ 0,U_ 0,U_ 0,Z_])/\s.size<=100/\ae w w':=
 (RI a b O_ O_ n hn w hT).mono fun _ _ ⟨h1,h2⟩=>⟨Ad a n b,h1,I9 a n b hn ha hb,h2⟩
theorem count_one(k:Int) (n:Nat) (hn:n<4294967296) (w:World):H_ 95 #[I_ k,I_ n] w fun e w'=>e=.returned (.agg #[I_ k,U_ n,E_,I_ 0,E_,I_ 0,B_ 0,U_ 0,U_ 0,Z_])/\ae w w':=kC k n hn w
abbrev Vt(n:Nat) (s1 s2:ByteArray):List cV:=[⟨5,0,⟨#[]⟩,0,⟨#[]⟩,0,0,0,0,none,0,0⟩,⟨1,n,⟨#[]⟩,0,⟨#[]⟩,0,0,0,0,none,0,0⟩,⟨2,0,⟨#[]⟩,0,⟨#[]⟩,0,0,0,0,none,0,0⟩,afc s1,afc s2]
abbrev M7(n:Nat) (s1 s2:ByteArray):Array Value:= #[.int .i64 5,.int .u32 0,.string ⟨#[]⟩,.int .i64 0,.string ⟨#[]⟩,.int .i64 0,.int .u8 0,.int .u32 0,.int .u32 0,.slice none 0 0,.int .i64 1,.int .u32 n,.string ⟨#[]⟩,.int .i64 0,.string ⟨#[]⟩,.int .i64 0,.int .u8 0,.int .u32 0,.int .u32 0,.slice none 0 0,.int .i64 2,.int .u32 0,.string ⟨#[]⟩,.int .i64 0,.string ⟨#[]⟩,.int .i64 0,.int .u8 0,.int .u32 0,.int .u32 0,.slice none 0 0,.int .i64 6,.int .u32 0,.string ⟨#[]⟩,.int .i64 0,.string s1,.int .i64 0,.int .u8 0,.int .u32 0,.int .u32 0,.slice none 0 0,.int .i64 6,.int .u32 0,.string ⟨#[]⟩,.int .i64 0,.string s2,.int .i64 0,.int .u8 0,.int .u32 0,.int .u32 0,.slice none 0 0]
theorem Vu(n:Nat) (s1 s2:ByteArray) (w:World):Rd cG (W_ w (M7 n s1 s2) 53) (X_ (M_ w) 5 5) (Vt n s1 s2):=
 aal (l:=Vt n s1 s2) (t:=53) (show af _ _ _ (cG.cells (Vt n s1 s2)).toArray from af.new w 53 (M7 n s1 s2))
theorem RL(B:Nat) (W:World) (n:Nat) (hn:n<=1000) (s1 s2:ByteArray) (h1:s1.size<=100) (h2:s2.size<=100):∀r∈Vt n s1 s2,bF B W r/\Tq r:=fun r hr=>by
 simp only [wu,Bf,or_false]at hr;rcases hr with rfl|rfl|rfl|rfl|rfl
 ·exact⟨bF.bare _ _ 5 0 D_ D_,(by decide:bits .and .i64 0 2=0)⟩
 ·exact⟨bF.bare _ _ 1 n D_ ⟨O_,O_⟩,(by decide:bits .and .i64 0 2=0)⟩
 ·exact⟨bF.bare _ _ 2 0 D_ D_,(by decide:bits .and .i64 0 2=0)⟩
 ·exact⟨bF.said _ _ 6 s1 D_ O_,(by decide:bits .and .i64 0 2=0)⟩
 ·exact⟨bF.said _ _ 6 s2 D_ O_,(by decide:bits .and .i64 0 2=0)⟩
theorem Fs(nN fN:Nat) (hfN:fN<4294967296) (hT:b_ w0) (H0:SO w0 base W S Q M (nN:Int) t (fN:Int) i xs o false) (hn:(nN:Int)<=5000) (hq:Q.ids.length<=1000) (iW:S.cap<=1000) (c:fK) (hm:c.m.size<=1000000) (ho:fU bs OB vo lo W) (fi:lo.length<=1000) (lA:base<=bs) (CD:w0.heap.size<=bs) (iZ:bs<=W.heap.size) (gU:base<=OB) (B5:w0.heap.size<=OB):
 H_ 67 #[Q_ xs,c.val,rR OB] W fun e W'=>Ts w0 base W W' S Q (nN:Int) (fN:Int) i xs o bs OB vo lo e:=by
 obtain⟨WA,ox,nA,cA,rA⟩:=boxes W c;have HA:=H0.new nA;have Gn:=H0.st.hb;have I1:=H0.st.new.size;have uV:=ho.new nA;have HL:=ac5 (sV HA);have H:=ac5 (And.intro HA (And.intro uV (And.intro rA (And.intro nA cA))));clear H0 HA ho uV rA cA nA
 go_enter func67,ntmps67
 go_wp2_with fail
 rw [<-ox];clear ox;refine HL.out.mono ?_;rintro e w1 ⟨rfl,Q1,H1,k1,oZ⟩;have fV:=H.out.2.1.ops k1 H.out.1 lA gU;have R1:=k1.ai H.out.1 H.out.2.2.1 O_ id D_;have C1:=k1.ai H.out.1 H.out.2.2.2.2 Gn id D_;have hsA:=H.out.2.2.2.1.size;have fB:=k1.fr.size;have k2:=C1.k2;have Kr:=ac5 (vR c.m AM hm D_ w1);have XY:=ac5 (And.intro H1 (And.intro fV (And.intro R1 k1)));clear H1 fV R1 C1 k1 HL
 cases hs:JP c.m AM
 ·rw [hs]at Kr;clear hs;go_wp2_with fail
  refine Kr.out.mono ?_;rintro e w2 ⟨rfl,n2⟩;have R2:=n2.ai XY.out.2.2.1;have c0:=R2.k0;have c1:=R2.k1;have ff:=R2.dq;have N2:=ac5 n2;clear n2;go_wp2;refine r_ (aI rfl _ _ rfl (dN (R2.bP (I_ 1) (T_ RJ)))) rfl ?_;have one:=One.bP w2 (W.heap.size+1) (I_ 1) (T_ RJ);have g1:dJ W w2 S Q (nN:Int) i xs o (0+0+0) (0+0+0) (fun k=>k=OB\/vo.ownBlock=some k) S Q1 (nN:Int) none:=((dJ.refl H.out.2.2.2.1).trans XY.out.2.2.2 fun _ h=>h.elim).trans (dJ.refl (R:=fun _=>False) N2.out) fun _ h=>h.elim;exact jA (o':=none) (SO.new (o:=none) XY.out.1 N2.out) g1 O_ O_ (XY.out.2.1.new N2.out) R2 O_ Gn I1 one 1 RJ ⟨O_,D_⟩ (fun r hr=>.inl hr) (by have:=g1.own;omega)
 ·rw [hs]at Kr;clear hs;go_wp2_with fail
  refine Kr.out.mono ?_;rintro e w2 ⟨rfl,n2⟩;have fW:=n2.size;have H2:SN w0 base w2 S Q1 M (nN:Int) t (fN:Int) i xs false:=SO.new (o:=none) XY.out.1 n2;have eY:=XY.out.2.1.new n2;have R2:=n2.ai XY.out.2.2.1;have HEN:=ac5 (RH H2 O_ iW);have Ac:=ac5 (And.intro H2 (And.intro eY (And.intro R2 n2)));clear H2 eY R2 n2 Kr;go_wp2_with fail
  refine HEN.out.mono ?_;rintro e w3 ⟨rfl,Q3,v,x,u,l,V3,o_,k3⟩;have Fq:SO w0 base w2 S Q1 M (nN:Int) t (fN:Int) i xs none false:=Ac.out.1;have fg:=Ac.out.2.1.ops k3 Fq lA gU;have R3:=k3.ai Fq Ac.out.2.2.1 O_ id D_;have jy:=k3.fr.size;have k0:=V3.dF.k0;have Z6:=V3.dF.k2;have rJ:Hid (SO w0 base w3 S Q3 M (nN:Int) t (fN:Int) i xs (some (v,x,u,l)) false):=ac5 ⟨rfl,V3⟩;have Oe:=ac5 (And.intro fg (And.intro R3 k3));clear V3 fg R3 k3 Fq HEN k2;go_wp2_with fail
  go_region_held3 (fun W=>L_ W xs 0 (Q_ S.s)/\L_ W xs 2 (Q_ v)) (first|go_keep|(refine⟨?_,?_⟩<;>assumption)) ((first
   |(go_at_call 96
     refine(qX (rJ.out.new A_).2.vw (rJ.out.new A_).2.ix).mono ?_;rintro e w4 ⟨rfl,rfl⟩)
   |(go_at_call 95
     have hC:=count_one 1 l.length O_ w3.drew
     with_reducible refine hC.mono ?_
     rintro e w4 ⟨rfl,m4⟩;have n4:ae w3 w4:=Fr.trans A_ m4;have V4:=rJ.out.new n4;have p0:=V4.dF.k0;have p2:L_ w4 xs 2 (Q_ v):=V4.dF.cell 2;clear V4 m4 hC)
   |(go_at_call 95
     have hC:=I8 2 w4
     with_reducible refine hC.mono ?_
     rintro e w5 ⟨rfl,m5⟩;have n5:ae w3 w5:=n4.trans m5;have V5:=rJ.out.new n5;have p0:=V5.dF.k0;have p2:L_ w5 xs 2 (Q_ v):=V5.dF.cell 2;clear V5 m5 hC)
   |(go_at_call 97
     have hN:=xv (rJ.out.new n5).st
     with_reducible refine hN.mono ?_
     rintro e w7 ⟨rfl,st7,o7⟩;have V7:=(rJ.out.new n5).valid st7 o7;have HV7:=ac5 V7;have r0:L_ w7 xs 0 (Q_ S.s):=V7.dF.cell 0;have r2:L_ w7 xs 2 (Q_ v):=V7.dF.cell 2;have HO7:=ac5 o7;clear V7 st7 o7 hN)
   |(go_at_call 93
     have hI:=KS ⟨#[85,73,68,86,65,76,73,68,73,84,89]⟩ ⟨#[118,97,108,105,100]⟩ D_ D_ fN hfN w7 (hT.new HV7.out.st.new)
     with_reducible refine hI.mono ?_
     rintro e w8 ⟨sw8,rfl,zw8,mw8⟩;have Vv:=HV7.out.new mw8;have HV8:=ac5 Vv;have Mw8:=ac5 mw8;have asJ:L_ w8 xs 0 (Q_ S.s):=Vv.dF.cell 0;have asK:L_ w8 xs 2 (Q_ v):=Vv.dF.cell 2;clear Vv mw8 hI)
   |(go_at_call 21
     have hN:=M6 HV8.out.st
     with_reducible refine hN.mono ?_
     rintro e w9 ⟨rfl,rfl⟩)
   |(go_at_call 93
     have hI:=KS ⟨#[85,73,68,78,69,88,84]⟩ ⟨#[110,101,120,116]⟩ D_ D_ nN O_ w8 (hT.new HV8.out.st.new)
     with_reducible refine hI.mono ?_
     rintro e J' ⟨I',rfl,Yr,aao⟩;have KT:=HV8.out.new aao;have akO:=ac5 KT;have akP:=ac5 aao;have aon:L_ J' xs 0 (Q_ S.s):=KT.dF.cell 0;have aoo:L_ J' xs 2 (Q_ v):=KT.dF.cell 2;clear KT aao hI)
   |(go_at_call 39
     have ez:=Vu l.length sw8 I' J';have N10:ae w7 (J'.alloc (G_ (M7 l.length sw8 I') 53)):=(Mw8.out.trans akP.out).alloc _;have ya:∀k ty cs,af w5 k ty cs->ty≠155->¬k=S.c:=fun k ty cs hb ht e=>hb.aU (rJ.out.new n5).st.tO ht e;have nH:=((Oe.out.1.new n5).fr HO7.out fun k ty cs hb _ ht=>ya k ty cs hb (by rcases ht with rfl|rfl|rfl<;>decide)).new N10;have R7:=N10.ai (HO7.out.ai (n5.ai Oe.out.2.1) (ya _ _ _ (n5.ai Oe.out.2.1) D_));have VX:=akO.out.new ((ae.refl J').alloc (G_ (M7 l.length sw8 I') 53))
     have hsX:bs<=(J'.alloc (G_ (M7 l.length sw8 I') 53)).heap.size:=by
      have:=n5.size;have:=HO7.out.size;have:=N10.size;omega
     have Y2:=sX VX nH ez (fun r hr=>(RL bs (J'.alloc (G_ (M7 l.length sw8 I') 53)) l.length o_ sw8 I' zw8 Yr r hr).1) P_ hsX lA CD gU B5;refine Y2.mono ?_;rintro e Ka ⟨rfl,asM,afd,V11,f11,_⟩;have u0:L_ Ka xs 0 (Q_ S.s):=V11.dF.cell 0;have u2:L_ Ka xs 2 (Q_ v):=V11.dF.cell 2
     have R11:=f11.ai R7 (by
      rintro(e|e)
      ·exact R7.aU nH.b D_ e
      ·exact nH.r.aD R7 D_ e)
     have Cb:=ac5 (And.intro V11 (And.intro afd (And.intro R11 (And.intro f11 N10))));clear ez VX V11 afd f11 R11 N10 nH R7 Y2 ya)
   |fail))
  have t0:L_ Ka (W.heap.size+1) 0 (I_ 0):=Cb.out.2.2.1.cell 0;have t1:L_ Ka (W.heap.size+1) 1 E_:=Cb.out.2.2.1.cell 1;have tf:=Cb.out.2.2.1.dq;go_wp2;refine r_ (aI rfl _ _ rfl (dN (Cb.out.2.2.1.bP (I_ 0) (T_ aam)))) rfl ?_;have one:=One.bP Ka (W.heap.size+1) (I_ 0) (T_ aam);have g1:dJ W w2 S Q (nN:Int) i xs o (0+0+0) (0+0+0) (fun k=>k=OB\/vo.ownBlock=some k) S Q1 (nN:Int) none:=((dJ.refl H.out.2.2.2.1).trans XY.out.2.2.2 fun _ h=>h.elim).trans (dJ.refl (R:=fun _=>False) Ac.out.2.2.2) fun _ h=>h.elim;have g2:=((g1.trans Oe.out.2.2 fun _ h=>h.elim).trans (dJ.refl (R:=fun _=>False) n5) fun _ h=>h.elim).trans (dJ.valid (R:=fun _=>False) (f:=(fN:Int)) HO7.out) fun _ h=>h.elim;have g3:=(g2.trans (dJ.refl (R:=fun _=>False) Cb.out.2.2.2.2) fun _ h=>h.elim).trans (dJ.side Cb.out.2.2.2.1) fun _ h=>.inl h;refine jA Cb.out.1 g3 O_ O_ Cb.out.2.1 Cb.out.2.2.1 O_ Gn I1 one 0 aam ⟨O_,D_⟩ (fun r hr=>?_) (by have:=g3.own;rw [dr];simp;omega);exact(List.mem_append.1 hr).imp id fun h=>.inl (RL bs Ka l.length o_ sw8 I' zw8 Yr r h).2
end
theorem M9(A:Option Addr) (n c:Nat) (hn:n≠0) (w:World):H_ 87 #[X_ A n c,Z_] w fun e w'=>e=.returned (R_ false)/\w=w':=by
 have h1:((n:Int) !=0)=true:=bne_iff_ne.2 O_
 go_enter func87,ntmps87
 go_wp2;go_ret;exact⟨rfl,rfl⟩
theorem jb(A:Option Addr) (c:Nat) (w:World):H_ 87 #[X_ A 0 c,Z_] w fun e w'=>e=.returned (R_ true)/\w=w':=by
 go_enter func87,ntmps87
 go_wp2_with fail
 refine jD 1 ?_;rw [O0];go_wp2;go_ret;exact⟨rfl,rfl⟩
theorem Ja{w:World}{A:Option Addr}{n c:Nat}(l:List UInt8) (h:Rd (ak .u8) w (X_ A n c) (nums l)):(convert 23 9 (X_ A n c)).run prog w=.ok (T_ ⟨l.toArray⟩) w:=by
 obtain⟨A',c',e,_,az⟩:=h
 cases e
 rw [aW]
 cases A with
 |none=>
  have hl:l=[]:=by
   refine PE fun hl=>?_;obtain⟨b,off,e,_⟩:=az (by simpa [nums]using hl)
   cases e
  subst hl;exact Wy w _ _ 5 c underlying23 underlying5 underlying9
 |some a=>
  refine l7 (P:=prog) w 23 9 5 a c l underlying23 underlying5 underlying9 fun j hj=>?_;obtain⟨b,off,e,hc⟩:=az (by rintro h;rw [List.map_eq_nil_iff.1 h]at hj;simp at hj)
  cases e
  rw [kR];have:=hc j (l[j].toNat:Int) (by simp [nums,hj]) 0 (B_ (l[j].toNat:Int)) rfl;rw [show(ak .u8).sz=1 from rfl,RZ,Au]at this;exact this
theorem kF(m:ByteArray) (A:Option Addr) (n c:Nat) (it mo:Int) (si:Bool) (fl:Int) (dA:Option Addr) (dn dc:Nat) (l:List UInt8):∃b:Bool,∀w,Rd (ak .u8) w (X_ dA dn dc) (nums l)->H_ 64 #[.agg #[E_,I_ 0,T_ m,X_ A n c,I_ it,I_ mo,R_ si,B_ fl,X_ dA dn dc],Pa] w fun e w'=>e=.returned (R_ b)/\ae w w':=by
 unfold Pa;have kY:=fun w=>Wy (P:=prog) w 23 9 5 0 underlying23 underlying5 underlying9;have fin:∀{w:World}{o1 o2:Obj},ae w ((w.alloc o1).alloc o2):=((ae.refl _).alloc _).alloc _;rcases h1:m.toList.isEmpty with _|_
 ·refine⟨false,fun w _=>?_⟩
  go_enter func64,ntmps64
  go_wp2;go_ret;exact⟨rfl,fin⟩
 by_cases h2:n=0
 case neg=>
  refine⟨false,fun w _=>?_⟩
  go_enter func64,ntmps64
  go_wp2_with fail
  refine(M9 A n c h2 _).mono ?_;rintro e w1 ⟨rfl,rfl⟩;go_wp2;go_ret;exact⟨rfl,fin⟩
 subst h2;rcases h3:(it==0)with _|_
 ·refine⟨false,fun w _=>?_⟩
  go_enter func64,ntmps64
  go_wp2_with fail
  refine(jb A c _).mono ?_;rintro e w1 ⟨rfl,rfl⟩;go_wp2;go_ret;exact⟨rfl,fin⟩
 rcases h4:(mo==0)with _|_
 ·refine⟨false,fun w _=>?_⟩
  go_enter func64,ntmps64
  go_wp2_with fail
  refine(jb A c _).mono ?_;rintro e w1 ⟨rfl,rfl⟩;go_wp2;go_ret;exact⟨rfl,fin⟩
 rcases si with _|_
 case true=>
  refine⟨false,fun w _=>?_⟩
  go_enter func64,ntmps64
  go_wp2_with fail
  refine(jb A c _).mono ?_;rintro e w1 ⟨rfl,rfl⟩;go_wp2;go_ret;exact⟨rfl,fin⟩
 rcases h6:(fl==0)with _|_
 ·refine⟨false,fun w _=>?_⟩
  go_enter func64,ntmps64
  go_wp2_with fail
  refine(jb A c _).mono ?_;rintro e w1 ⟨rfl,rfl⟩;go_wp2;go_ret;exact⟨rfl,fin⟩
 all_goals
  refine⟨l.isEmpty,fun w hd=>?_⟩;have hv:=fun o1 o2=>Ja (w:=(w.alloc o1).alloc o2) l (hd.new fin)
  go_enter func64,ntmps64
  go_wp2_with fail
  refine(jb A c _).mono ?_;rintro e w1 ⟨rfl,rfl⟩;go_wp2;go_ret;exact⟨rfl,fin⟩
theorem Na(k:Int) (h:¬(1<=k/\k<=8)) (w:World) (ht:b_ w):H_ 63 #[I_ k] w fun e w'=>e=.returned E_/\ae w w':=by
 have hf:=ma w ht;have hn:ae w (W_ w (iG.map fun l=>Value.string ⟨l.toArray⟩).toArray 9):=(ae.refl w).alloc _;by_cases h1:1<=k
 ·have d1:=k_ h1;have d2:decide (k<=8)=false:=aP O_;clear h h1
  go_enter func63,ntmps63
  go_wp2_with fail
  refine hf.mono ?_;rintro e w1 ⟨rfl,rfl⟩;go_wp2;go_ret;exact⟨rfl,hn⟩
 ·have d1:=aP h1;clear h h1
  go_enter func63,ntmps63
  go_wp2_with fail
  refine hf.mono ?_;rintro e w1 ⟨rfl,rfl⟩;go_wp2;go_ret;exact⟨rfl,hn⟩
theorem RM(k:Int):∃s:ByteArray,(s.toList.isEmpty= !decide (1<=k/\k<=8))/\∀w,b_ w->H_ 63 #[I_ k] w fun e w'=>e=.returned (T_ s)/\ae w w':=by
 by_cases hk:1<=k/\k<=8
 ·obtain⟨kN,rfl⟩:∃kN:Nat,k=kN:=⟨k.toNat,O_⟩;refine⟨Ds kN,?_,Dt kN O_ O_⟩;rw [k_ hk];have:kN=1\/kN=2\/kN=3\/kN=4\/kN=5\/kN=6\/kN=7\/kN=8:=O_
  rcases this with rfl|rfl|rfl|rfl|rfl|rfl|rfl|rfl<;>(rw [CY];rfl)
 ·refine⟨⟨#[]⟩,?_,Na k hk⟩;rw [aP hk,CY];rfl
theorem Nb(t:ByteArray) (e_:t.size<=1000000) (k:Int) (m:ByteArray) (sA:Option Addr) (sn sc:Nat) (it mo:Int) (si:Bool) (fl:Int) (dA:Option Addr) (dn dc:Nat) (l:List UInt8) (aaq:oO t=false\/¬(1<=k/\k<=8)\/31<fl\/(65536:Int)<max (m.size:Int) (dn:Int)):∃b:Bool,(b=true->1<=k/\k<=8)/\∀w,b_ w->Rd (ak .u8) w (X_ dA dn dc) (nums l)->H_ 38 #[.agg #[T_ t,I_ k,T_ m,X_ sA sn sc,I_ it,I_ mo,R_ si,B_ fl,X_ dA dn dc]] w fun e w'=>e=.returned (R_ b)/\ae w w':=by
 refine⟨false,S_,fun w hT hd=>?_⟩;have iK:=kU t e_;have HT:=ac5 hT;clear hT hd;rcases h1:oO t with _|_<;>rw [h1]at iK aaq
 case' true=>
  obtain⟨s,hs,hv⟩:=RM k;rcases hk:decide (1<=k/\k<=8)with _|_<;>rw [hk]at hs
  case' true=>
   by_cases hf:31<fl
   case' pos=>have df:=k_ hf
   case' neg=>
    have df:=aP hf;have dm:=k_ (by simpa [cj hk,hf]using aaq)
   all_goals clear hf
  all_goals
   clear hk;simp only [Xr,Bool.not_false]at hs
 all_goals
  clear aaq h1;have b0:af (W_ w #[T_ t,I_ k,T_ m,X_ sA sn sc,I_ it,I_ mo,R_ si,B_ fl,X_ dA dn dc] 47) w 47 #[T_ t,I_ k,T_ m,X_ sA sn sc,I_ it,I_ mo,R_ si,B_ fl,X_ dA dn dc]:=af.new _ _ _;have n0:=(ae.refl w).alloc (G_ #[T_ t,I_ k,T_ m,X_ sA sn sc,I_ it,I_ mo,R_ si,B_ fl,X_ dA dn dc] 47)
  go_enter func38,ntmps38
  go_wp2_with fail
  refine(iK _).mono ?_;rintro e w1 ⟨rfl,n1⟩;have b1:=n1.ai b0;have c0:=b1.k0;have c1:=b1.k1
  first
  |(have hv:=hv
    go_wp2_with fail
    refine(hv w1 (HT.out.new (n0.trans n1))).mono ?_;rintro e w2 ⟨rfl,n2⟩;have b2:=n2.ai b1;have Lo:=(n0.trans n1).trans n2;have d0:=b2.k0;have d1:=b2.k1;have d2:=b2.k2;have d3:=b2.k3;have d4:=b2.k4;have d5:=b2.k5;have d6:=b2.k6;have d7:=b2.k7;have d8:=b2.k8;clear c0 c1 b1;go_wp2;go_ret;exact⟨rfl,Lo⟩)
  |(go_wp2
    go_ret;exact⟨rfl,n0.trans n1⟩)
theorem Jb(t:ByteArray) (e_:t.size<=1000000) (k:Int) (m:ByteArray) (sA:Option Addr) (sn sc:Nat) (it mo:Int) (si:Bool) (fl:Int) (dA:Option Addr) (dn dc:Nat) (l:List UInt8) (hk:1<=k/\k<=8) (XK:oO t=true) (qD:¬31<fl) (hmx:¬(65536:Int)<max (m.size:Int) (dn:Int)):∃b:Bool,(b=true->1<=k/\k<=8)/\∀w,b_ w->Rd (ak .u8) w (X_ dA dn dc) (nums l)->H_ 38 #[.agg #[T_ t,I_ k,T_ m,X_ sA sn sc,I_ it,I_ mo,R_ si,B_ fl,X_ dA dn dc]] w fun e w'=>e=.returned (R_ b)/\ae w w':=by
 have iK:=kU t e_;rw [XK]at iK;have df:=aP qD;have dm:=aP hmx;obtain⟨s,hs,hv⟩:=RM k;rw [k_ hk]at hs;simp only [Xr]at hs;have HK:=ac5 hk;clear XK qD hmx hk;rcases g5:(k==5)with _|_;rcases g6:(k==6)with _|_;rcases g7:(k==7)with _|_;rcases g8:(k==8)with _|_;obtain⟨b,hb⟩:=kF m sA sn sc it mo si fl dA dn dc l;refine⟨b,fun _=>HK.out,fun w hT hd=>?_⟩;have hS:=ac5 (fun W (hn:ae w W)=>hb W (hd.new hn));clear hb
 rotate_left
 rcases h1:((sn:Int)==0)with _|_;rcases h2:decide (mo<0)with _|_;rcases h3:decide (2<mo)with _|_;obtain⟨b,hb⟩:=kF m none 0 0 it 0 false 0 dA dn dc l;refine⟨b,fun _=>HK.out,fun w hT hd=>?_⟩;have hS:=ac5 (fun W (hn:ae w W)=>hb W (hd.new hn));clear hb
 rotate_left
 iterate 3
  refine⟨false,S_,fun w hT hd=>?_⟩
  rotate_left
 rcases h1:((sn:Int)==0)with _|_;rcases h2:decide (it<1)with _|_;rcases h3:decide (31<it)with _|_;obtain⟨b,hb⟩:=kF m none 0 0 0 mo si fl dA dn dc l;refine⟨b,fun _=>HK.out,fun w hT hd=>?_⟩;have hS:=ac5 (fun W (hn:ae w W)=>hb W (hd.new hn));clear hb
 rotate_left
 iterate 3
  refine⟨false,S_,fun w hT hd=>?_⟩
  rotate_left
 obtain⟨b,hb⟩:=kF ⟨#[]⟩ sA sn sc it mo si 0 none 0 0 [];refine⟨b,fun _=>HK.out,fun w hT hd=>?_⟩;have hS:=ac5 (fun W (hn:ae w W)=>hb W (Rd.nil _ _));clear hb
 rotate_left
 obtain⟨b,hb⟩:=kF ⟨#[]⟩ sA sn sc it mo si fl dA dn dc l;refine⟨b,fun _=>HK.out,fun w hT hd=>?_⟩;have hS:=ac5 (fun W (hn:ae w W)=>hb W (hd.new hn));clear hb
 rotate_left
 all_goals
  have HT:=ac5 hT;clear hT hd;have b0:af (W_ w #[T_ t,I_ k,T_ m,X_ sA sn sc,I_ it,I_ mo,R_ si,B_ fl,X_ dA dn dc] 47) w 47 #[T_ t,I_ k,T_ m,X_ sA sn sc,I_ it,I_ mo,R_ si,B_ fl,X_ dA dn dc]:=af.new _ _ _;have n0:=(ae.refl w).alloc (G_ #[T_ t,I_ k,T_ m,X_ sA sn sc,I_ it,I_ mo,R_ si,B_ fl,X_ dA dn dc] 47)
  go_enter func38,ntmps38
  go_wp2_with fail
  refine(iK _).mono ?_;rintro e w1 ⟨rfl,n1⟩;have b1:=n1.ai b0;have c0:=b1.k0;have c1:=b1.k1;go_wp2_with fail
  refine(hv w1 (HT.out.new (n0.trans n1))).mono ?_;rintro e w2 ⟨rfl,n2⟩;have b2:=n2.ai b1;have Lo:=(n0.trans n1).trans n2;have d0:=b2.k0;have d1:=b2.k1;have d2:=b2.k2;have d3:=b2.k3;have d4:=b2.k4;have d5:=b2.k5;have d6:=b2.k6;have d7:=b2.k7;have d8:=b2.k8;clear c0 c1 b1;clear n1 n2;have f0:=b2.frozen 0;have f1:=b2.frozen 1;have f2:=b2.frozen 2;have f3:=b2.frozen 3;have f4:=b2.frozen 4;have f5:=b2.frozen 5;have f6:=b2.frozen 6;have f7:=b2.frozen 7;have f8:=b2.frozen 8
  first
  |(have hS:=hS
    go_wp2_with fail
    refine(hS.out _ (ae.one Lo (by repeat' first|refine One.set ?_ _ _|exact One.refl _ _) (aA _))).mono ?_;rintro e w3 ⟨rfl,n3⟩;go_wp2;go_ret;exact⟨rfl,(ae.one Lo (by repeat' first|refine One.set ?_ _ _|exact One.refl _ _) (aA _)).trans n3⟩)
  |(go_wp2
    go_ret;exact⟨rfl,(ae.one Lo (by repeat' first|refine One.set ?_ _ _|exact One.refl _ _) (aA _))⟩)
theorem Nc(c:fK) (e_:c.t.size<=1000000) (l:List UInt8):∃b:Bool,(b=true->1<=c.k/\c.k<=8)/\∀w,b_ w->Rd (ak .u8) w (X_ c.dA c.dn c.dc) (nums l)->H_ 38 #[c.val] w fun e w'=>e=.returned (R_ b)/\ae w w':=by
 by_cases h:oO c.t=false\/¬(1<=c.k/\c.k<=8)\/31<c.fl\/(65536:Int)<max (c.m.size:Int) (c.dn:Int)
 ·exact Nb c.t e_ c.k c.m c.sA c.sn c.sc c.it c.mo c.si c.fl c.dA c.dn c.dc l h
 ·have h1:oO c.t=true:=by
   rcases h1:oO c.t with _|_
   ·exact absurd (.inl h1) h
   ·rfl
  have h2:=PE fun h2=>h (.inr (.inl h2));exact Jb c.t e_ c.k c.m c.sA c.sn c.sc c.it c.mo c.si c.fl c.dA c.dn c.dc l h2 h1 (fun h3=>h (cu (.inl h3))) (fun h3=>h (dS h3))
end Go.Proofs.YtliimglbbiebiaaGreatDoor
