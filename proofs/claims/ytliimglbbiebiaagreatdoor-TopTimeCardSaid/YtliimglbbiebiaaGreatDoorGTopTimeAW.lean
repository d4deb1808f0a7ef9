import Derived.Test.YtliimglbbiebiaaGreatDoorGTopTimeAS
import Derived.Test.YtliimglbbiebiaaGreatDoorGTopTimeAR
import Derived.Test.YtliimglbbiebiaaGreatDoorGTopTimeAQ
set_option maxRecDepth 100000
set_option maxHeartbeats 6400000
set_option linter.all false
namespace Go.Proofs.YtliimglbbiebiaaGreatDoor
open Go.Proofs.Tryz Go.RowKit Go.Maps
abbrev iM(y:UInt8):fK:=⟨⟨#[y]⟩,1,⟨#[]⟩,none,0,0,0,0,false,0,none,0,0⟩
section
variable{w:World}{t:Nat}{bz:Bool}{c:fK}{ms:ByteArray}{nd:Value}{x sp lk:Nat}{a b:Int}{ah out:Value}
theorem Ia(h:gO w t bz c ms nd x sp lk a b ah out) (bx:Value) (dI:Int) (dn:Bool) (hs:mV w x bx dI none dn) (base CM:Nat) (y:UInt8) (hy:y=97\/y=98) (dA:Option Addr) (dC:Nat)
 (ho:Own im 174 base w ah [⟨1,dA,6,dC⟩]) (hd:Own (ak .u8) 5 CM w (X_ dA 6 dC) (nums (fo y)))
 (h0:0<=a) (ha:a≠0) (h1:a<=1000) (h3:b<=1000) (gn:0<=dI) (iF:dI<b) (_hT:b_ w) (NP:∀w',One t w w'->b_ w'):
 H_ 110 #[Q_ t] w fun e w'=>e=.returned (.tuple #[])/\One t w w'/\gO w' t true (iM y) ⟨#[]⟩ Z_ x sp lk a b Z_ out:=by
 have Td:=hs.aU h D_;obtain⟨g,off,cc,he,J3,G1,AQ,hg0,NO⟩:=qu hd (by simp [fo])
 cases he
 have Uv:g≠t:=fun e=>hd.ar h D_ (by rw [<-e];rfl);have uf:=h.lt;have pT:=lf ⟨1,some ⟨g,off,none⟩,6,dC⟩ base h ho;unfold uK.val at pT;have yw:=ac5 pT;have HT:=ac5 NP;clear pT NP
 go_enter func110,ntmps110
 go_wp2_with fail
 refine yw.out.mono ?_;rintro e w1 ⟨rfl,m1⟩;have WW:=m1.ai h;have t2:=WW.alloc (G_ #[I_ 1,X_ (some ⟨g,off,none⟩) 6 dC] 174);have g2:=af.new w1 174 #[I_ 1,X_ (some ⟨g,off,none⟩) 6 dC];have m2:=m1.alloc (G_ #[I_ 1,X_ (some ⟨g,off,none⟩) 6 dC] 174);have pN:=m1.size;generalize nY:(w1.alloc (G_ #[I_ 1,X_ (some ⟨g,off,none⟩) 6 dC] 174))=wA at*;have kH:=t2.kH;have f17:=t2.frozen 17;obtain⟨g0,g1⟩:=g2.dQ;go_wp2_with fail
 have o3:One t w (wA.setCell (C_ t 17) Z_):=(ae.to m2).trans ((One.refl t wA).set 17 _)
 have t3:gO (wA.setCell (C_ t 17) Z_) t bz c ms nd x sp lk a b Z_ out:=by
  have q:=t2.al 17 Z_;simpa using q
 have sz3:=o3.size;generalize(wA.setCell (C_ t 17) Z_)=w3 at*;refine(L9 y hy g off dC (by have:=J3;rw [mX]at this;exact this) w3 (HT.out w3 o3) (G1.fr o3 Uv) O_).mono ?_;rintro e w4 ⟨rfl,m4⟩;unfold WV Lw;have t4:=m4.ai t3;have o4:=o3.trans (ae.to m4);have t5:=t4.alloc (G_ #[T_ ⟨#[y]⟩,I_ 1,E_,Z_,I_ 0,I_ 0,R_ false,B_ 0,Z_] 47);have c5:=af.new w4 47 #[T_ ⟨#[y]⟩,I_ 1,E_,Z_,I_ 0,I_ 0,R_ false,B_ 0,Z_];have o5:=o4.alloc (G_ #[T_ ⟨#[y]⟩,I_ 1,E_,Z_,I_ 0,I_ 0,R_ false,B_ 0,Z_] 47);have l4:=t4.lt;clear nY kH f17 g0 g1 g2 t2 m2 o3 t3 sz3 m4 m1 WW pN G1;obtain⟨k0,k1,k2,k3,k4,k5,k6,k7,k8,k9,xQ,va,tZ,oH,t_,xY,xZ,kH,rF⟩:=t4.fh;have f5:=t4.dq;obtain⟨e0,e1,e2,e3,e4,e5,e6,e7,e8⟩:=c5.nG;go_wp2_with fail
 have t6:=(t4.gY (R_ true) (T_ ⟨#[y]⟩) (I_ 1) E_ Z_ (I_ 0) (I_ 0) (R_ false) (B_ 0) Z_ E_ Z_).alloc (G_ #[T_ ⟨#[y]⟩,I_ 1,E_,Z_,I_ 0,I_ 0,R_ false,B_ 0,Z_] 47);have o6:=(One.gY w4 t (R_ true) (T_ ⟨#[y]⟩) (I_ 1) E_ Z_ (I_ 0) (I_ 0) (R_ false) (B_ 0) Z_ E_ Z_).alloc (G_ #[T_ ⟨#[y]⟩,I_ 1,E_,Z_,I_ 0,I_ 0,R_ false,B_ 0,Z_] 47);have c6:=af.new ((((((((((((w4.setCell (C_ t 0) (R_ true)).setCell (C_ t 1) (T_ ⟨#[y]⟩)).setCell (C_ t 2) (I_ 1)).setCell (C_ t 3) E_).setCell (C_ t 4) Z_).setCell (C_ t 5) (I_ 0)).setCell (C_ t 6) (I_ 0)).setCell (C_ t 7) (R_ false)).setCell (C_ t 8) (B_ 0)).setCell (C_ t 9) Z_).setCell (C_ t 10) E_).setCell (C_ t 11) Z_) 47 #[T_ ⟨#[y]⟩,I_ 1,E_,Z_,I_ 0,I_ 0,R_ false,B_ 0,Z_];have eE:((((((((((((w4.setCell (C_ t 0) (R_ true)).setCell (C_ t 1) (T_ ⟨#[y]⟩)).setCell (C_ t 2) (I_ 1)).setCell (C_ t 3) E_).setCell (C_ t 4) Z_).setCell (C_ t 5) (I_ 0)).setCell (C_ t 6) (I_ 0)).setCell (C_ t 7) (R_ false)).setCell (C_ t 8) (B_ 0)).setCell (C_ t 9) Z_).setCell (C_ t 10) E_).setCell (C_ t 11) Z_).heap.size=w4.heap.size:=by simp [World.setCell]
 rw [eE]at c6;generalize(((((((((((((w4.setCell (C_ t 0) (R_ true)).setCell (C_ t 1) (T_ ⟨#[y]⟩)).setCell (C_ t 2) (I_ 1)).setCell (C_ t 3) E_).setCell (C_ t 4) Z_).setCell (C_ t 5) (I_ 0)).setCell (C_ t 6) (I_ 0)).setCell (C_ t 7) (R_ false)).setCell (C_ t 8) (B_ 0)).setCell (C_ t 9) Z_).setCell (C_ t 10) E_).setCell (C_ t 11) Z_).alloc (G_ #[T_ ⟨#[y]⟩,I_ 1,E_,Z_,I_ 0,I_ 0,R_ false,B_ 0,Z_] 47))=w7 at*;have o7:=o4.trans o6;have P6:=o7.ai hs Td;generalize w4.heap.size=C at*;clear k0 k1 k2 k3 k4 k5 k6 k7 k8 k9 xQ va tZ oH t_ xY xZ kH rF f5 e0 e1 e2 e3 e4 e5 e6 e7 e8 eE t5 c5 o5 o4 o6 t4;obtain⟨k0,k1,k2,k3,k4,k5,k6,k7,k8,k9,xQ,va,tZ,oH,t_,xY,xZ,kH,rF⟩:=t6.fh;obtain⟨e0,e1,e2,e3,e4,e5,e6,e7,e8⟩:=c6.nG;have Bj:C≠t:=O_
 go_region_held3 (fun W=>L_ W t 12 (Q_ x)/\L_ W t 15 (I_ a)/\L_ W t 16 (I_ b)/\L_ W C 0 (T_ ⟨#[y]⟩)/\L_ W C 1 (I_ 1)/\L_ W C 2 E_/\L_ W C 3 Z_/\L_ W C 4 (I_ 0)/\L_ W C 5 (I_ 0)/\L_ W C 6 (R_ false)/\L_ W C 7 (B_ 0)/\L_ W C 8 Z_) (first|go_keep|(refine⟨?_,?_,?_,?_,?_,?_,?_,?_,?_,?_,?_,?_⟩<;>assumption)|exact S0 _) ((first
  |(go_at_call 114
    refine(jm x bx dI none dn _ (Fr.ai (S:=fun _=>False) N_ P6 (fun h=>h))).mono ?_;rintro e w8 ⟨rfl,rfl⟩)
  |(go_at_call 18
    refine(yY x bx dI none dn _ (Fr.ai (S:=fun _=>False) N_ P6 (fun h=>h))).mono ?_;rintro e w8 ⟨rfl,rfl⟩)
  |(go_at_call 153
    refine(OT a b dI h0 ha h1 h3 gn iF (iM y) rfl _).mono ?_;rintro e w8 ⟨rfl,m8⟩;have n8:ae w7 w8:=Fr.trans N_ m8;have t8:=n8.ai t6;have c8:=n8.ai c6;obtain⟨p0,p1,p2,p3,p4,p5,p6,p7,p8,p9,UA,Ei,UB,p13,p14,UC,UD,p17,p18⟩:=t8.fh;obtain⟨q0,q1,q2,q3,q4,q5,q6,q7,q8⟩:=c8.nG;have z11:=t8.frozen 11
    have S0:∀u,(fun W=>L_ W t 12 (Q_ x)/\L_ W t 15 (I_ a)/\L_ W t 16 (I_ b)/\L_ W C 0 (T_ ⟨#[y]⟩)/\L_ W C 1 (I_ 1)/\L_ W C 2 E_/\L_ W C 3 Z_/\L_ W C 4 (I_ 0)/\L_ W C 5 (I_ 0)/\L_ W C 6 (R_ false)/\L_ W C 7 (B_ 0)/\L_ W C 8 Z_) (w8.setCell (C_ t 11) u):=fun u=>by
     have F:=(One.refl t w8).set 11 u
     have G:∀i v,i≠11->L_ w8 t i v->L_ (w8.setCell (C_ t 11) u) t i v:=fun i v hi hv=>by
      rw [OW _ _ _ _ (by intro e;injection e with e1 e2;exact hi e2.symm)];exact hv
     exact⟨G _ _ D_ UB,G _ _ D_ UC,G _ _ D_ UD,Fr.cell F q0 Bj,Fr.cell F q1 Bj,Fr.cell F q2 Bj,Fr.cell F q3 Bj,Fr.cell F q4 Bj,Fr.cell F q5 Bj,Fr.cell F q6 Bj,Fr.cell F q7 Bj,Fr.cell F q8 Bj⟩)
  |fail))
 all_goals
  first|go_end0|(go_wp2;go_end0)
  refine⟨rfl,(o7.trans (ae.to n8)).trans ((One.refl t w8).set 11 _),?_⟩;have q:=t8.al 11 Z_;simpa using q
end
def XT(M:List bU) (L:List Int):List bU:=M.filter fun m=>decide (m.uid∉L)
theorem Vr(M:List bU):XT M []=M:=by
 unfold XT;rw [Xd];simp
theorem Rz(M:List bU) (L:List Int) (u:Int):XT M (L++[u])=CL (XT M L) u:=by
 unfold XT CL;rw [Kh];refine yU fun m _=>?_;rw [<-Bool.decide_and];refine decide_eq_decide.2 ?_;rw [xg,List.mem_singleton]
 constructor
 ·intro h;exact⟨fun e=>h (.inr e),fun e=>h (.inl e)⟩
 ·rintro⟨h1,h2⟩ (h|h)
  ·exact h2 h
  ·exact h1 h
theorem sW{M:List bU}{f u:Int}:u∈fR M f<->∃m∈M,Gs m.fl f=f/\m.uid=u:=by
 unfold fR;rw [SE]
 constructor
 ·rintro⟨m,hm,rfl⟩;have:=List.mem_filter.1 hm;exact⟨m,this.1,by simpa using this.2,rfl⟩
 ·rintro⟨m,hm,h1,rfl⟩;exact⟨m,List.mem_filter.2 ⟨hm,by simpa using h1⟩,rfl⟩
theorem M4{M:List bU}(f:Int) (h:gF (M.map bU.uid)):gF (fR M f):=by
 unfold fR;exact List.Pairwise.sublist (J8 _ Wi) h
theorem yP{l:List Int}(h:gF l):(l.mergeSort fun x y=>decide (x<=y))=l:=
 List.mergeSort_of_pairwise (h.imp fun h=>by simp;omega)
theorem Fm{M:List bU}(h:(M.map bU.uid).Nodup) {a b:bU}(ha:a∈M) (hb:b∈M) (he:a.uid=b.uid):a=b:=by
 have h1:=pW h ha;have h2:=pW h hb;rw [he,h2]at h1;injection h1 with h1;exact h1.symm
def RA(M:List bU):List bU:=M.filter fun m=> !decide (Gs m.fl 4=4)
theorem RC{M:List bU}(h:(M.map bU.uid).Nodup):XT M (fR M 4)=RA M:=by
 unfold XT RA;refine yU fun m hm=>?_;rw [<-decide_not];refine decide_eq_decide.2 ?_;rw [sW]
 constructor
 ·intro h1 h2;exact h1 ⟨m,hm,h2,rfl⟩
 ·rintro h1 ⟨m',hm',h2,h3⟩;exact h1 (Fm h hm' hm h3▸h2)
structure ExR(w0 w wr:World) (base:Nat) (S:Sx) (Q:Qs) (M:List bU) (l:List Int) (n t f:Int) (o:Value) (j:Nat) (Sj:Sx) (Qj:Qs):Prop where
 st:cn w0 base wr Sj Qj (XT M (l.take j)) n t f
 stp:qZ w wr S Q Sj Qj
 ids:Qj.ids=Q.ids
 ev:∀i,Qj.l i=Q.l i++(l.take j).map fun u=>⟨2,u,0⟩
 row:Own (ak .u32) 28 w.heap.size wr o l
 bL:∀g,o.ownBlock=some g->¬Sj.aB Qj g
section
variable{w0 w:World}{base:Nat}{S:Sx}{Q:Qs}{M:List bU}{n t f:Int}
theorem B8(h:cn w0 base w S Q M n t f) (hQ:∀i∈Q.ids,(Q.l i).length+M.length<=100000000):
 H_ 100 #[Q_ S.s] w fun e w'=>∃A c S' Q',e=.returned (X_ A (fR M 4).length c)/\Own (ak .u32) 28 w.heap.size w' (X_ A (fR M 4).length c) (fR M 4)/\
  cn w0 base w' S' Q' (RA M) n t f/\qZ w w' S Q S' Q'/\Q'.ids=Q.ids/\(∀i,Q'.l i=Q.l i++(fR M 4).map fun u=>⟨2,u,0⟩)/\∀g,Value.ownBlock (X_ A (fR M 4).length c)=some g->¬S'.aB Q' g:=by
 obtain⟨X,pE,hX⟩:=h.tK;have e0:=h.hd.k0;have gE:=h.EV;have hXl:X.length<=100000:=by rw [<-pE,D9]at gE;omega
 have hw:=MC hX hXl 4 O_;rw [pE,yP (M4 4 h.kJ)]at hw;have hex:=RC h.nd
 have HLU:Hid (∀u∈fR M 4,0<=u/\u<=4294967295):=ac5 (fun u hu=>by
  obtain⟨m,hm,_,rfl⟩:=sW.1 hu;have:=(h.ok m hm).1.1;omega)
 have gK:(fR M 4).length<=M.length:=by unfold fR;rw [D9];exact cR _ _
 obtain⟨l,hl⟩:∃l,fR M 4=l:=⟨_,rfl⟩;rw [hl]at hw hex HLU gK⊢;have HW:=ac5 hw;have Vq:=ac5 hex;have HX:=ac5 pE;have H:=ac5 h;have HQ:=ac5 hQ;have HE:=ac5 (enters _ _ _ func135 K_ rfl);clear h hX pE hw hex hl hQ hXl
 go_enter func100,ntmps100
 go_wp2_with fail
 refine HW.out.mono ?_;rintro e w2 ⟨o,rfl,ho,CH,dU⟩;obtain⟨A,c,rfl,_⟩:=ho.form
 have HR0:Hid (ExR w0 w w2 base S Q M l n t f (X_ A l.length c) 0 S Q):=ac5 ⟨by rw [ID,Vr];exact H.out.Rp rfl ⟨X,HX.out,CH⟩ dU,cn.aeN dU,rfl,fun i=>S_,ho,fun g hg hs=>by
  have h1:=(ho.block hg).1;have h2:=H.out.fI hs;omega⟩
 clear ho CH dU;go_wp2
 go_loopw [16] (fun vi wr=>∃(j:Nat) (Sj:Sx) (Qj:Qs),vi=I_ j/\j<=l.length/\Hid (ExR w0 w wr base S Q M l n t f (X_ A l.length c) j Sj Qj)) (fun vi _=>l.length-(intOf vi).toNat)
 case atStart=>exact⟨0,S,Q,rfl,Gv _,HR0.out⟩
 case round=>
  obtain⟨j,Sj,Qj,rfl,hj,HR⟩:=hrel;clear HR0;by_cases bJ:j<l.length
  ·have hd:decide ((j:Int)<l.length)=true:=k_ O_;obtain⟨u,hu⟩:∃u,l[j]? =some u:=⟨_,DW bJ⟩;have Xs:=HLU.out u (YX hu);obtain⟨g,rfl⟩:=HR.out.row.some_ O_;have hc:L_ wr g j (U_ u):=by have:=HR.out.row.dG hu (j:=0) (u:=U_ u) rfl;simpa [ak]using this
   have hjI:(j:Int)<l.length:=O_
   have pN:IntKind.i64.wrap ((j:Int)+1)=(j:Int)+1:=aM _ O_;have Gk:=ac5 (gk hu);have HSS:=ac5 HR.out.stp.s;have hdr:=MU HR.out.st u Xs.1 Xs.2;have HPS:Hid (Value.pointer (M_ Sj.s)=Q_ S.s):=ac5 (by rw [HSS.out]);rw [HPS.out,<-Rz,<-Gk.out]at hdr;have HDR:=ac5 hdr;clear hdr hu;go_wp2_with fail
   refine HDR.out.mono ?_;rintro e w3 ⟨rfl,u',XL,mh⟩;have zM:=(HR.out.row.block (b:=g) rfl).2;have gh:=HR.out.bL g rfl;have gQ:(⟨2,u,0⟩:Ev).wf:=⟨(by decide:(Lit.int .i64 2).wf=true),Xg Xs.1 Xs.2,(by decide:(Lit.int .u8 0).wf=true)⟩
   have Oa:=xp XL.hd XL.qx (fun i hi=>by
    rw [HR.out.ev i,dr,D9,jo];rw [HR.out.ids]at hi;have:=HQ.out i hi;omega) ⟨2,u,0⟩ gQ S_ 135 #[] (fun _=>true) HE.out (fun W i _=>by have:=qV i W;simpa using this)
   simp only [Ev.val]at Oa;rw [HPS.out]at Oa;have HTE:=ac5 Oa;have Gl:=ac5 XL;have XS:=ac5 mh;have XU:=HR.out.row.fr mh.fr (fun b hb=>HR.out.bL b hb);have ae9:=ac5 XU;clear Oa XL mh gQ XU;go_wp2_with fail
   refine HTE.out.mono ?_;rintro e w4 ⟨rfl,v',hq4,fL,lq⟩;have YJ:=E9 (S:={Sj with u:=u'}) (p:=fun _=>true) (ev:=⟨2,u,0⟩) fL lq;have RD:=XS.out.bL zM gh;have XV:=YJ.bL (fw zM XS.out.fr.size) RD
   have HR4:Hid (ExR w0 w w4 base S Q M l n t f (X_ (M_ g) l.length c) (j+1) {Sj with u:=u'} (Qj.told (fun _=>true) ⟨2,u,0⟩ v')):=ac5 ⟨Gl.out.told hq4 fL lq,(HR.out.stp.trans XS.out).trans YJ,HR.out.ids,fun i=>by
    rw [Gk.out,ta,<-zi,<-HR.out.ev i];rfl,ae9.out.fr YJ.fr (fun b hb=>by cases hb;exact RD),fun b hb=>by cases hb;exact XV⟩
   clear hq4 fL lq YJ RD XV;go_wp2;go_roundw
   case rel=>exact⟨j+1,_,_,by go_num,O_,HR4.out⟩
   case measure=>simp [intOf];omega
  ·have hd:decide ((j:Int)<l.length)=false:=aP O_;have ht:l.take j=l:=Hv O_;have HT:=ac5 ht;clear ht;go_wp2;go_ret;refine⟨A,c,Sj,Qj,rfl,HR.out.row,?_,HR.out.stp,HR.out.ids,fun i=>?_,HR.out.bL⟩
   ·have h1:=HR.out.st;rw [HT.out,Vq.out]at h1;exact h1
   ·have h1:=HR.out.ev i;rw [HT.out]at h1;exact h1
theorem I4{w w':World}{u':Value}{ev:Ev}{p:Int->Bool}{v':Int->Value}(hf:Fr (S.aB Q) w w') (hu:cM w S.u u') (hv:∀i∈Q.ids,cM w (Q.v i) (v' i)):qZ w w' S Q {S with u:=u'} (Q.told p ev v'):=
 ⟨hf,fun k hk=>by
   rcases KM (S:={S with u:=u'}) hv k hk with h1|h1
   ·exact Sx.EX h1 hu
   ·exact .inr h1,rfl,rfl,rfl,rfl⟩
end
theorem Own.aO {α:Type}{E:cr α}{e:TypeId}{base:Nat}{w:World}{v:Value}{l:List α}{P:Program}{K:TypeId}{β:Type} [DecidableEq β] {KE:el P K β}{b:Nat}{m:List (β×Value)}(h:Own E e base w v l) (hm:HasMap KE w b m):v.ownBlock≠some b:=by
 intro hb;obtain⟨D,⟨es,clock,h3,_⟩,_⟩:=hm.own;rcases h.2 with⟨h1,_⟩|⟨g,_,cur,h1,_,hg,_⟩
 ·rw [h1]at hb;cases hb
 ·rw [h1]at hb
  cases hb
  rw [hg]at h3
  cases h3
def fq(y:UInt8):List Int:=bytesOf (ie ⟨#[y]⟩ 0 iV++⟨#[13,10]⟩)
theorem FJ(y:UInt8) (hy:y=97\/y=98):oO ⟨#[y]⟩=true:=by rcases hy with rfl|rfl<;>decide +kernel
theorem Nq:vJ iV=true:=by decide +kernel
theorem tU(y:UInt8):(fq y).length=21:=by
 unfold fq;rw [il,cI];unfold ie;rw [cI,cI,cI,cI];rfl
theorem Sm(y:UInt8) (hy:y=97\/y=98) (u:Value) (w:World) (hT:b_ w) (hu:Rd cG w u [l_ ⟨#[y]⟩ 0 iV]):H_ 205 #[u] w fun e w'=>∃v,e=.returned v/\Own (ak .u8) 5 w.heap.size w' v (fq y)/\ae w w':=by
 refine(PZ [l_ ⟨#[y]⟩ 0 iV] (fun _=>fq y) u w hu S_ (fun r _=>by rw [tU];omega) ?_).mono ?_
 ·intro r hr W hW;obtain rfl:r=l_ ⟨#[y]⟩ 0 iV:=by simpa using hr
  refine(AZ ⟨#[y]⟩ (FJ y hy) 0 O_ iV Nq (by show 1<=1000000;omega) D_ W (hT.new hW)).mono ?_;rintro e W' ⟨v,rfl,h1,h2⟩;exact⟨v,true,rfl,h1,h2⟩
 ·rintro e w' ⟨v,rfl,h1,h2⟩;refine⟨v,rfl,?_,h2⟩;simpa using h1
section
variable{w:World}{t:Nat}{x sp lk:Nat}{a b:Int}
theorem Jn(y:UInt8) (hy:y=97\/y=98) (v:Value) (base:Nat) {bz:Bool}{c:fK}{ms:ByteArray}{nd ah:Value}(h:gO w t bz c ms nd x sp lk a b ah Z_) (hu:Rd cG w v [l_ ⟨#[y]⟩ 0 iV]) (hT:b_ w) (dH:base<=w.heap.size):
 H_ 151 #[Q_ t,v] w fun e w'=>e=.returned (.tuple #[])/\∃eh,gO w' t bz c ms nd x sp lk a b ah eh/\Own (ak .u8) 5 base w' eh (fq y)/\One t w w':=by
 refine(L5 base v [] (fq y) h (Own.nil _ _ _ _) (by rw [tU];simp) dH (fun W hW=>Sm y hy v W (hT.new hW) (hu.new hW))).mono ?_;rintro e w' ⟨rfl,out,h1,h2,h3⟩;refine⟨rfl,out,h1,by simpa using h2,h3.mono fun k _ hk=>?_⟩;rcases hk with hk|hk
 ·exact hk
 ·cases hk
theorem Cn(y:UInt8) (hy:y=97\/y=98) (h:gO w t true (iM y) ⟨#[]⟩ Z_ x sp lk a b Z_ Z_) (bx:Value) (dI:Int) (hs:mV w x bx dI none false)
 {bm:Nat}{O:List Int}{N:Int}(hL:gu w lk bm O N) (hO:pj O dI=O) (hT:b_ w):
 H_ 112 #[Q_ t] w fun e w'=>e=.returned (.tuple #[])/\∃out,gO w' t false vW ⟨#[]⟩ Z_ x sp lk a b Z_ out/\Own (ak .u8) 5 w.heap.size w' out (fq y)/\gu w' lk bm O N/\Fr (fun k=>k=t\/k=lk\/k=bm) w w':=by
 have Td:=hs.aU h D_;have bJ:=hL.ai.aU h D_;obtain⟨ml,gE,_⟩:=hL.map;have yR:=h.aO gE;have uf:=h.lt;obtain⟨k0,k1,k2,k3,k4,k5,k6,k7,k8,k9,xQ,va,tZ,oH,t_,xY,xZ,kH,rF⟩:=h.fh;have HT:=ac5 hT;have HL:=ac5 hL;have HO:=ac5 hO;clear hT hL hO gE
 go_enter func112,ntmps112
 go_wp2_with fail
 go_region_held3 (fun W=>L_ W t 12 (Q_ x)/\L_ W t 1 (T_ ⟨#[y]⟩)/\L_ W t 2 (I_ 1)/\L_ W t 3 E_/\L_ W t 4 Z_/\L_ W t 5 (I_ 0)/\L_ W t 6 (I_ 0)/\L_ W t 7 (R_ false)/\L_ W t 8 (B_ 0)/\L_ W t 9 Z_) (first|go_keep|(refine⟨?_,?_,?_,?_,?_,?_,?_,?_,?_,?_⟩<;>assumption)) ((first
  |(go_at_call 17
    refine(TQ x bx dI (iM y) rfl _ (Fr.ai (S:=fun _=>False) N_ hs (fun h=>h)) (fun W hW=>GZ ⟨#[y]⟩ (FJ y hy) (by show 1<=1000000;omega) W ((HT.out.new N_).new hW))).mono ?_;rintro e w2 ⟨v2,rfl,eY,m2⟩;have n2:ae w w2:=Fr.trans N_ m2;have h2:=n2.ai h;have R2:=ac5 eY.rd;obtain⟨p0,p1,p2,p3,p4,p5,p6,p7,p8,p9,UA,Ei,UB,p13,p14,UC,UD,p17,p18⟩:=h2.fh)
  |(go_at_call 151
    refine(Jn (c:=iM y) y hy v2 w.heap.size h2 R2.out (HT.out.new n2) n2.size).mono ?_;rintro e w3 ⟨rfl,out,h3,fg,gP⟩;obtain⟨q0,q1,q2,q3,q4,q5,q6,q7,q8,q9,q10,q11,q12,q13,q14,q15,q16,q17,q18⟩:=h3.fh;have O3:=ac5 fg;have F3:=ac5 gP;clear fg gP)
  |fail))
 all_goals
  have jy:=Fr.ai F3.out (n2.ai hs) Td;have L3:=ac5 ((HL.out.new n2).fr F3.out bJ (iX yR));have FF:=ac5 ((ae.to n2).trans F3.out);clear k0 k1 k2 k3 k4 k5 k6 k7 k8 k9 xQ va tZ oH t_ xY xZ kH rF p0 p1 p2 p3 p4 p5 p6 p7 p8 p9 UA Ei UB p13 p14 UC UD p17 p18 q0 q1 q2 q3 q4 q5 q6 q7 q8 q9 q10 q11 q13 q15 q16 q17 q18 h2;go_wp2_with fail
  go_region_held3 (fun W=>L_ W t 14 (Q_ lk)/\L_ W t 12 (Q_ x)) (first|go_keep|(refine⟨?_,?_⟩<;>assumption)) ((first
   |(go_at_call 114
     refine(jm x bx dI none false _ (Fr.ai (S:=fun _=>False) N_ jy (fun h=>h))).mono ?_;rintro e w8 ⟨rfl,rfl⟩)
   |(go_at_call 158
     refine(lj (L3.out.new N_) dI).mono ?_;rintro e w4 ⟨rfl,Jo,fL⟩;have g4:SY lk bm w3 w4:=Fr.trans N_ fL;have h4:=Fr.ai g4 h3 (fun e=>by rcases e with e|e;exact bJ e.symm;exact yR e);rw [HO.out]at Jo;have L4:=ac5 Jo;have G4:=ac5 g4;obtain⟨k0,k1,k2,k3,k4,k5,k6,k7,k8,k9,xQ,va,tZ,oH,t_,xY,xZ,kH,rF⟩:=h4.fh;have f4:=h4.dq;clear Jo fL g4)
   |fail))
  all_goals
   go_wp2;go_end0;refine⟨rfl,out,h4.gY (R_ false) E_ (I_ 0) E_ Z_ (I_ 0) (I_ 0) (R_ false) (B_ 0) Z_ E_ Z_,?_,?_,?_⟩
   ·refine(O3.out.fr G4.out fun z hz e=>?_).fr (One.gY w4 t (R_ false) E_ (I_ 0) E_ Z_ (I_ 0) (I_ 0) (R_ false) (B_ 0) Z_ E_ Z_) fun z hz e=>?_
    ·rcases e with e|e
     ·exact O3.out.ar L3.out.ai D_ (by rw [<-e];exact hz)
     ·obtain⟨ml3,Sn,_⟩:=L3.out.map;exact O3.out.aO Sn (by rw [<-e];exact hz)
    ·exact O3.out.ar h3 D_ (by have e:=e;rw [<-e];exact hz)
   ·exact L4.out.fr (One.gY w4 t (R_ false) E_ (I_ 0) E_ Z_ (I_ 0) (I_ 0) (R_ false) (B_ 0) Z_ E_ Z_) bJ (iX yR)
   ·refine Fr.trans (Fr.trans (FF.out.mono fun k _ hk=>.inl hk) (G4.out.mono fun k _ hk=>.inr hk)) ((One.gY w4 t (R_ false) E_ (I_ 0) E_ Z_ (I_ 0) (I_ 0) (R_ false) (B_ 0) Z_ E_ Z_).mono fun k _ hk=>.inl hk)
end
section
variable{w:World}{t:Nat}{bz:Bool}{c:fK}{ms:ByteArray}{nd:Value}{x sp lk:Nat}{a b:Int}{ah out:Value}
theorem nD(w:World):H_ 107 #[] w fun e w'=>e=.returned (.tuple #[])/\w'=w:=by
 go_enter func107,ntmps107
 go_wp2;go_end0;exact⟨rfl,rfl⟩
theorem Nr(h:gO w t false c ms nd x sp lk a b Z_ out) (bx:Value) (dI:Int) (pv:Option Addr) (hs:mV w x bx dI pv false) (v:Value) (hv:Gb v) (lM:yi w sp v):
 H_ 79 #[Q_ t] w fun e w'=>e=.returned (.tuple #[I_ 0,.func (.func 107) #[] #[]])/\One sp w w'/\yi w' sp v:=by
 obtain⟨k0,k1,k2,k3,k4,k5,k6,k7,k8,k9,xQ,va,tZ,oH,t_,xY,xZ,kH,rF⟩:=h.fh;have pT:=G7 h v hv lM;have yw:=ac5 pT;clear pT
 go_enter func79,ntmps79
 go_wp2_with fail
 refine(jX x bx dI pv false w hs).mono ?_;rintro e w1 ⟨rfl,rfl⟩;go_wp2_with fail
 refine yw.out.mono ?_;rintro e w2 ⟨rfl,o2,s2⟩;have o3:=o2.alloc (G_ #[I_ 0,Z_] 174);have s3:=s2.alloc (G_ #[I_ 0,Z_] 174);go_wp2;go_ret2;exact⟨rfl,o3,s3⟩
theorem Ns(h:gO w t true c ms Z_ x sp lk a b ah out) (bx:Value) (dI:Int) (pv:Option Addr) (dn:Bool) (hs:mV w x bx dI pv dn) {bm:Nat}{O:List Int}{N:Int}(hL:gu w lk bm O N):
 H_ 79 #[Q_ t] w fun e w'=>e=.returned (.tuple #[I_ 3,.func (.func 112) #[Q_ t] #[]])/\ae w w':=by
 obtain⟨k0,k1,k2,k3,k4,k5,k6,k7,k8,k9,xQ,va,tZ,oH,t_,xY,xZ,kH,rF⟩:=h.fh;have hmf:=atQ;have hw:=sr h bx dI pv dn hs hL [] (Rd.nil _ _) S_ S_;have HW:=ac5 hw;clear hw
 go_enter func79,ntmps79
 go_wp2_with fail
 refine HW.out.mono ?_;rintro e w1 ⟨v,rfl,hv,n1⟩;obtain⟨A,C,rfl,_⟩:=hv.form;have UT:(List.filter (fun k=> !(bQ O dI).contains k) ([]:List Int)).length=0:=rfl;go_wp2;go_ret2;exact⟨rfl,n1⟩
theorem Jp(h:gO w t false c ms nd x sp lk a b Z_ out) (bx:Value) (dI:Int) (pv:Option Addr) (hs:mV w x bx dI pv false) (g off c':Nat) (y:UInt8) (hy:y=97\/y=98) (hc:8<=c') (se:g≠sp) (LB:g<w.heap.size) (lM:yi w sp (X_ (some ⟨g,off,none⟩) 8 c')) (hb:jh w g off (eV y)) (e_:t≠sp) (hT:b_ w) (NP:∀w',One sp w w'->b_ w'):
 H_ 79 #[Q_ t] w fun e w'=>e=.returned (.tuple #[I_ 2,.func (.func 110) #[Q_ t] #[]])/\∃ah v,Fr (fun k=>k=t\/k=sp) w w'/\gO w' t false c ms nd x sp lk a b ah out/\yi w' sp v/\Gb v/\
  ∃dA dC,Own im 174 w.heap.size w' ah [⟨1,dA,6,dC⟩]/\Own (ak .u8) 5 w.heap.size w' (X_ dA 6 dC) (nums (fo y)):=by
 obtain⟨k0,k1,k2,k3,k4,k5,k6,k7,k8,k9,xQ,va,tZ,oH,t_,xY,xZ,kH,rF⟩:=h.fh;have hmf:=atQ;have pT:=LA h g off c' y hy hc se LB lM hb e_ hT NP;have yw:=ac5 pT;clear pT NP
 go_enter func79,ntmps79
 go_wp2_with fail
 refine(jX x bx dI pv false w hs).mono ?_;rintro e w1 ⟨rfl,rfl⟩;go_wp2_with fail
 refine yw.out.mono ?_;rintro e w2 ⟨d,ah,v,rfl,f2,t2,s2,hv,dA,dC,rfl,eY,oe⟩;have f3:=f2.alloc (G_ #[I_ 1,X_ dA 6 dC] 174);have t3:=t2.alloc (G_ #[I_ 1,X_ dA 6 dC] 174);have s3:=s2.alloc (G_ #[I_ 1,X_ dA 6 dC] 174);have fg:=eY.alloc (G_ #[I_ 1,X_ dA 6 dC] 174);have sD:=oe.alloc (G_ #[I_ 1,X_ dA 6 dC] 174);go_wp2;go_ret2;exact⟨rfl,ah,v,f3,t3,s3,hv,dA,dC,fg,sD⟩
theorem step_done(h:gO w t false c ms nd x sp lk a b Z_ out) (bx:Value) (dI:Int) (pv:Option Addr) (hs:mV w x bx dI pv false) (v:Value) (hv:Gb v) (lM:yi w sp v):
 H_ 54 #[Q_ t] w fun e w'=>e=.returned (I_ 0)/\One sp w w'/\yi w' sp v:=by
 have HN:=ac5 (Nr h bx dI pv hs v hv lM)
 go_enter func54,ntmps54
 go_wp2_with fail
 refine HN.out.mono ?_;rintro e w1 ⟨rfl,o1,s1⟩;go_wp2_with fail
 refine(nD w1).mono ?_;rintro e w2 ⟨rfl,rfl⟩;go_wp2;go_ret;exact⟨rfl,o1,s1⟩
theorem Nt(y:UInt8) (hy:y=97\/y=98) (h:gO w t true (iM y) ⟨#[]⟩ Z_ x sp lk a b Z_ Z_) (bx:Value) (dI:Int) (hs:mV w x bx dI none false)
 {bm:Nat}{O:List Int}{N:Int}(hL:gu w lk bm O N) (hO:pj O dI=O) (hT:b_ w):
 H_ 54 #[Q_ t] w fun e w'=>e=.returned (I_ 3)/\∃out,gO w' t false vW ⟨#[]⟩ Z_ x sp lk a b Z_ out/\Own (ak .u8) 5 w.heap.size w' out (fq y)/\gu w' lk bm O N/\Fr (fun k=>k=t\/k=lk\/k=bm) w w':=by
 have HN:=ac5 (Ns (c:=iM y) h bx dI none false hs hL);have HT:=ac5 hT;have HL:=ac5 hL;clear hT hL
 go_enter func54,ntmps54
 go_wp2_with fail
 refine HN.out.mono ?_;rintro e w1 ⟨rfl,n1⟩;have HE:=ac5 (Cn y hy (n1.ai h) bx dI (n1.ai hs) (HL.out.new n1) hO (HT.out.new n1));go_wp2_with fail
 refine HE.out.mono ?_;rintro e w2 ⟨rfl,out,h2,eY,YN,f2⟩;go_wp2;go_ret;exact⟨rfl,out,h2,eY.mono n1.size,YN,Fr.trans (n1.mono fun _ _ h=>h.elim) f2⟩
theorem Jq(h:gO w t false c ms nd x sp lk a b Z_ out) (bx:Value) (dI:Int) (hs:mV w x bx dI none false) (g off c':Nat) (y:UInt8) (hy:y=97\/y=98) (hc:8<=c') (se:g≠sp) (LB:g<w.heap.size) (lM:yi w sp (X_ (some ⟨g,off,none⟩) 8 c')) (hb:jh w g off (eV y)) (e_:t≠sp)
 (h0:0<=a) (ha:a≠0) (h1:a<=1000) (h3:b<=1000) (gn:0<=dI) (iF:dI<b) (hT:∀w',Fr (fun k=>k=t\/k=sp) w w'->b_ w'):
 H_ 54 #[Q_ t] w fun e w'=>e=.returned (I_ 2)/\∃v,Fr (fun k=>k=t\/k=sp) w w'/\gO w' t true (iM y) ⟨#[]⟩ Z_ x sp lk a b Z_ out/\yi w' sp v/\Gb v:=by
 have HN:=ac5 (Jp h bx dI none hs g off c' y hy hc se LB lM hb e_ (hT w (Fr.refl _ _)) (fun w' o=>hT w' (o.mono fun _ _ e=>.inr e)));have Td:=hs.aU h D_;have Da:=hs.aU lM D_;have HT:=ac5 hT;clear hT
 go_enter func54,ntmps54
 go_wp2_with fail
 refine HN.out.mono ?_;rintro e w1 ⟨rfl,ah,v,f1,t1,s1,hv,dA,dC,fV,np⟩;have fB:=f1.ai hs (by rintro(e|e);exact Td e;exact Da e);have HB:=ac5 (Ia t1 bx dI false fB w.heap.size w.heap.size y hy dA dC fV np h0 ha h1 h3 gn iF (HT.out _ f1) (fun w' o=>HT.out _ (f1.trans (o.mono fun _ _ e=>.inl e))));go_wp2_with fail
 refine HB.out.mono ?_;rintro e w2 ⟨rfl,o2,t2⟩;have s2:=o2.ai s1 (iX e_);go_wp2;go_ret;exact⟨rfl,v,f1.trans (o2.mono fun _ _ e=>.inl e),t2,s2,hv⟩
end
theorem mN(st:Addr) (lk:Nat) (a b i:Int) (h0:0<=a) (h1:a<=1000) (gN:b<=16) (gn:0<=i) (iF:i<b) (w:World) {bm:Nat}{O:List Int}{N:Int}(hL:gu w lk bm O N) (hOl:(O.length:Int)=1+a+b)
 (bT:∀W,ae w W->H_ 49 #[.pointer (some st)] W fun e W'=>e=.returned (I_ a)/\W'=W):
 H_ 29 #[.pointer (some st),Q_ lk,I_ b,I_ i] w fun e w'=>∃t x sp,e=.returned (Q_ t)/\ae w w'/\w.heap.size<=t/\w.heap.size<=x/\w.heap.size<=sp/\t<w'.heap.size/\
  gO w' t false vW ⟨#[]⟩ Z_ x sp lk a b Z_ Z_/\mV w' x (.pointer (some st)) i none false/\yi w' sp Z_:=by
 have hda:decide (b<0)=false:=aP O_;have hdb:decide ((16:Int)<b)=false:=aP O_;have HL:=ac5 hL;have HS:=ac5 (bT w (ae.refl w));clear hL bT
 go_enter func29,ntmps29
 go_wp2_with fail
 refine HS.out.mono ?_;rintro e w1 ⟨rfl,rfl⟩;have n2:ae w1 (W_ w1 #[I_ a,I_ b] 65):=(ae.refl w1).alloc _;have g2:=af.new w1 65 #[I_ a,I_ b];generalize nY:(w1.alloc (G_ #[I_ a,I_ b] 65))=wA at*;obtain⟨k0,k1⟩:=g2.dQ;go_wp2_with fail
 have hS2:=n2.size
 go_region_held3 (fun W=>L_ W w1 0 (I_ a)/\L_ W w1 1 (I_ b)) (first|go_keep|(refine⟨?_,?_⟩<;>assumption)) ((first
  |(go_at_call 50
    refine(PM ((HL.out.new n2).new N_)).mono ?_;rintro e w3 ⟨rfl,rfl⟩)
  |(go_at_call 27
    refine(gm a b h0 h1 O_ O_ _).mono ?_;rintro e w3 ⟨rfl,m3⟩;have n3:ae wA w3:=Fr.trans N_ m3;have g3:=n3.ai g2;obtain⟨p0,p1⟩:=g3.dQ)
  |fail))
 all_goals
  have n4:=n2.trans n3;clear k0 k1 p0 p1 m3 n3 g2 hS2 nY;obtain⟨k0,k1⟩:=g3.dQ;go_wp2_with fail
  refine(rS a b i h0 h1 O_ gn iF w3).mono ?_;rintro e w5 ⟨rfl,m5⟩;have g5:=m5.ai g3;have n5:=n4.trans m5;clear k0 k1 g3 m5 n4;obtain⟨k0,k1⟩:=g5.dQ;go_wp2_with fail
  go_region_held3 (fun W=>L_ W w1 0 (I_ a)/\L_ W w1 1 (I_ b)) (first|go_keep|(refine⟨?_,?_⟩<;>assumption)) ((first
   |(go_at_call 16
     refine(OP st i gn _).mono ?_;rintro e w6 ⟨rfl,rfl⟩;have n6:ae w5 (w5.drew.alloc (G_ #[.pointer (some st),I_ i,.pointer none,R_ false] 98)):=((ae.refl w5).drew).alloc _;have x6:=af.new w5.drew 98 #[.pointer (some st),I_ i,.pointer none,R_ false];rw [IN]at x6;generalize(w5.drew.alloc (G_ #[.pointer (some st),I_ i,.pointer none,R_ false] 98))=w6 at*;have g6:=n6.ai g5;obtain⟨p0,p1⟩:=g6.dQ)
   |(go_at_call 52
     refine(vM _).mono ?_;rintro e w7 ⟨rfl,rfl⟩;have n7:ae w6 (W_ w6 #[Z_,I_ 0,I_ 0,I_ 0] 176):=(ae.refl w6).alloc _;have s7:=af.new w6 176 #[Z_,I_ 0,I_ 0,I_ 0];have l6:=n6.size;have l7:(w6.alloc (G_ #[Z_,I_ 0,I_ 0,I_ 0] 176)).heap.size=w6.heap.size+1:=by rw [gz]
     have L7:=ac5 l7;clear l7;generalize(w6.alloc (G_ #[Z_,I_ 0,I_ 0,I_ 0] 176))=w7 at*;have x7:=n7.ai x6;have g7:=n7.ai g6;obtain⟨q0,q1⟩:=g7.dQ)
   |fail))
  all_goals
   go_wp2;go_ret;have z5:=n5.size;have z7:=n7.size;refine⟨w7.heap.size,w5.heap.size,w6.heap.size,rfl,((n5.trans n6).trans n7).alloc _,O_,O_,O_,by rw [gz];omega,af.new _ _ _,x7.alloc _,s7.alloc _⟩
structure rE(B:Nat) (w:World) (bx:Value) (i:Int) (y:UInt8) (t x sp lk ph:Nat):Prop where
 lt:B<=t
 lx:B<=x
 ls:B<=sp
 dF:mV w x bx i none false
 p0:ph=0->gO w t false vW ⟨#[]⟩ Z_ x sp lk 2 2 Z_ Z_/\∃v,yi w sp v/\Own (ak .u8) 5 B w v (nums (eV y))
 p1:ph=1->gO w t true (iM y) ⟨#[]⟩ Z_ x sp lk 2 2 Z_ Z_/\∃v,Gb v/\yi w sp v
 p2:2<=ph->∃out v,gO w t false vW ⟨#[]⟩ Z_ x sp lk 2 2 Z_ out/\Own (ak .u8) 5 B w out (fq y)/\Gb v/\yi w sp v
section
variable{B:Nat}{w w':World}{bx:Value}{i:Int}{y:UInt8}{t x sp lk ph:Nat}{S:Nat->Prop}
theorem rE.fr (h:rE B w bx i y t x sp lk ph) (hf:Fr S w w') (ht:¬S t) (hx:¬S x) (hs:¬S sp) (hu:∀k,S k->∀cs,¬af w k 5 cs):rE B w' bx i y t x sp lk ph:=by
 have ho:∀{v l},Own (ak .u8) 5 B w v l->Own (ak .u8) 5 B w' v l:=fun ho=>ho.fr hf fun g hg hS=>by
  obtain⟨cs,cK⟩:=ho.heap hg;exact hu g hS cs cK
 refine⟨h.lt,h.lx,h.ls,hf.ai h.dF hx,fun e=>?_,fun e=>?_,fun e=>?_⟩
 ·obtain⟨h1,v,h2,h3⟩:=h.p0 e;exact⟨hf.ai h1 ht,v,hf.ai h2 hs,ho h3⟩
 ·obtain⟨h1,v,h2,h3⟩:=h.p1 e;exact⟨hf.ai h1 ht,v,h2,hf.ai h3 hs⟩
 ·obtain⟨out,v,h1,h2,h3,h4⟩:=h.p2 e;exact⟨out,v,hf.ai h1 ht,ho h2,h3,hf.ai h4 hs⟩
theorem rE.new (h:rE B w bx i y t x sp lk ph) (hf:ae w w'):rE B w' bx i y t x sp lk ph:=h.fr hf id id id fun _ h=>h.elim
theorem rE.s_ (h:rE B w bx i y t x sp lk ph):∃cs,af w t 131 cs:=by
 rcases ph with _|_|n
 ·exact⟨_,(h.p0 rfl).1⟩
 ·exact⟨_,(h.p1 rfl).1⟩
 ·obtain⟨out,v,h1,_⟩:=h.p2 O_;exact⟨_,h1⟩
theorem rE.jT (h:rE B w bx i y t x sp lk ph):∃cs,af w sp 176 cs:=by
 rcases ph with _|_|n
 ·obtain⟨_,v,h2,_⟩:=h.p0 rfl;exact⟨_,h2⟩
 ·obtain⟨_,v,_,h2⟩:=h.p1 rfl;exact⟨_,h2⟩
 ·obtain⟨out,v,_,_,_,h2⟩:=h.p2 O_;exact⟨_,h2⟩
def Su(ph:Nat):Int:=if ph=0 then 2 else if ph=1 then 3 else 0
def Nx(ph:Nat):Nat:=if ph=0 then 1 else 2
variable{bm:Nat}{O:List Int}{N:Int}
theorem Ny(hy:y=97\/y=98) (h:rE B w bx i y t x sp lk ph) (hL:gu w lk bm O N) (hO:pj O i=O) (gn:0<=i) (iF:i<2) (hT:∀w',Fr (fun k=>B<=k) w w'->b_ w'):
 H_ 54 #[Q_ t] w fun e w'=>e=.returned (I_ (Su ph))/\rE B w' bx i y t x sp lk (Nx ph)/\gu w' lk bm O N/\Fr (fun k=>k=t\/k=sp\/k=lk\/k=bm) w w':=by
 obtain⟨ct,ht⟩:=h.s_;obtain⟨cp,lM⟩:=h.jT;have nts:=ht.aU lM D_;have nxt:=h.dF.aU ht D_;have nxs:=h.dF.aU lM D_;have nlt:=hL.ai.aU ht D_;have nls:=hL.ai.aU lM D_;have nxl:=h.dF.aU hL.ai D_;obtain⟨ml,gE,_⟩:=hL.map;have nbt:=gE.aD ht;have nbs:=gE.aD lM;have nbx:=gE.aD h.dF;by_cases e0:ph=0
 ·subst e0;obtain⟨h1,v,h2,h3⟩:=h.p0 rfl;obtain⟨g,off,c',rfl,rH,G1,AQ,hg0,NO⟩:=qu h3 (by simp [eV]);have ngs:g≠sp:=fun e=>h3.ar lM D_ (by rw [<-e];exact AQ);refine(Jq h1 bx i h.dF g off c' y hy rH ngs NO h2 G1 nts O_ O_ O_ O_ gn iF (fun w' f=>hT w' (f.mono fun k _ hk=>by rcases hk with rfl|rfl;exact h.lt;exact h.ls))).mono ?_;rintro e w1 ⟨rfl,v1,f1,t1,s1,fE⟩;refine⟨rfl,⟨h.lt,h.lx,h.ls,f1.ai h.dF (by rintro(e|e);exact nxt e;exact nxs e),fun e=>(by cases e),fun _=>⟨t1,v1,fE,s1⟩,fun e=>(by simp [Nx]at e)⟩,hL.fr f1 (by rintro(e|e);exact nlt e;exact nls e) (by rintro(e|e);exact nbt e;exact nbs e),f1.mono fun k _ hk=>by rcases hk with hk|hk;exact .inl hk;exact .inr (.inl hk)⟩
 by_cases e1:ph=1
 ·subst e1;obtain⟨h1,v,hv,h2⟩:=h.p1 rfl;refine(Nt y hy h1 bx i h.dF hL hO (hT w (Fr.refl _ _))).mono ?_;rintro e w1 ⟨rfl,out,t1,fV,hL1,f1⟩;refine⟨rfl,⟨h.lt,h.lx,h.ls,f1.ai h.dF (by rintro(e|e|e);exact nxt e;exact nxl e;exact nbx e.symm),fun e=>(by cases e),fun e=>(by cases e),fun _=>⟨out,v,t1,fV.mono (by have:=ht.lt;have:=h.lt;omega),hv,f1.ai h2 (by rintro(e|e|e);exact nts e.symm;exact nls e.symm;exact nbs e.symm)⟩⟩,hL1,f1.mono fun k _ hk=>by rcases hk with hk|hk|hk;exact .inl hk;exact cu (.inl hk);exact dS hk⟩
 ·obtain⟨out,v,h1,ho,hv,h2⟩:=h.p2 O_;have er:Su ph=0:=by simp [Su,e0,e1]
  have en:Nx ph=2:=by simp [Nx,e0]
  rw [er,en];refine(step_done h1 bx i none h.dF v hv h2).mono ?_;rintro e w1 ⟨rfl,o1,s1⟩;refine⟨rfl,⟨h.lt,h.lx,h.ls,o1.ai h.dF nxs,fun e=>(by cases e),fun e=>(by cases e),fun _=>⟨out,v,o1.ai h1 nts,ho.fr o1 fun g hg e=>ho.ar lM D_ (by rw [<-e];exact hg),hv,s1⟩⟩,hL.fr o1 nls nbs,o1.mono fun k _ hk=>.inr (.inl hk)⟩
end
def Gq:cr Nat:=cr.Li (fun t=>.pointer (M_ t)) fun _=>rfl
def yOf(i:Nat):UInt8:=if i=0 then 97 else 98
abbrev Zn(B z0 z1:Nat) (w:World) (k:Nat):Prop:=B<=k/\(k<z0\/(z1<=k/\∃cs,af w k 3 cs))
structure lY(B z0 z1:Nat) (w:World) (s lk bm:Nat) (O:List Int) (N:Int) (bx:Value) (T X P ph:Nat->Nat) (ord:List Int):Prop where
 ai:∃tv ov,af w s 73 #[bx,Q_ lk,tv,ov,I_ 16]/\Own Gq 74 B w tv [T 0,T 1]/\Own (ak .i64) 3 B w ov ord/\∀g,ov.ownBlock=some g->g<z0\/z1<=g
 ss:∀i:Nat,i<2->rE B w bx i (yOf i) (T i) (X i) (P i) lk (ph i)
 kK:gu w lk bm O N
 oo:∀i:Nat,i<2->pj O i=O
 nT:T 0≠T 1
 nX:X 0≠X 1
 nP:P 0≠P 1
 ls:B<=s
 ll:B<=lk
 lb:B<=bm
 lB:B<=w.heap.size
 zs:s<z0
 zl:lk<z0
 zb:bm<z0
 zT:∀i:Nat,i<2->T i<z0/\P i<z0
 zw:z1<=w.heap.size
 VO:z0<=z1
section
variable{B z0 z1:Nat}{w w':World}{bx:Value}{s lk bm:Nat}{O:List Int}{N:Int}{T X P ph:Nat->Nat}{ord:List Int}
def Co(ph:Nat->Nat) (i:Nat):Nat->Nat:=fun j=>if j=i then Nx (ph i)else ph j
theorem lY.fr {S:Nat->Prop}(h:lY B z0 z1 w s lk bm O N bx T X P ph ord) (hf:Fr S w w') (hS:∀k,S k->∀e cs,¬af w k e cs) (hm:¬S bm):lY B z0 z1 w' s lk bm O N bx T X P ph ord:=by
 obtain⟨tv,ov,h1,h2,h3,hz⟩:=h.ai;have hB:∀{g:Nat}{e cs},af w g e cs->¬S g:=fun hb hk=>hS _ hk _ _ hb;refine⟨⟨tv,ov,hf.ai h1 (hB h1),h2.fr hf fun g hg hk=>?_,h3.fr hf fun g hg hk=>?_,hz⟩,fun i hi=>?_,h.kK.fr hf (hB h.kK.ai) hm,h.oo,h.nT,h.nX,h.nP,h.ls,h.ll,h.lb,gy h.lB hf.size,h.zs,h.zl,h.zb,h.zT,gy h.zw hf.size,h.VO⟩
 ·obtain⟨cs,cK⟩:=h2.heap hg;exact hB cK hk
 ·obtain⟨cs,cK⟩:=h3.heap hg;exact hB cK hk
 ·have rG:=h.ss i hi;obtain⟨ct',Jr⟩:=rG.s_;obtain⟨cp',Hq⟩:=rG.jT;exact rG.fr hf (hB Jr) (hB rG.dF) (hB Hq) fun k hk cs hb=>hS k hk _ _ hb
theorem lY.new (h:lY B z0 z1 w s lk bm O N bx T X P ph ord) (hf:ae w w'):lY B z0 z1 w' s lk bm O N bx T X P ph ord:=by
 obtain⟨tv,ov,h1,h2,h3,hz⟩:=h.ai;exact⟨⟨tv,ov,hf.ai h1,h2.new hf,h3.new hf,hz⟩,fun i hi=>(h.ss i hi).new hf,h.kK.new hf,h.oo,h.nT,h.nX,h.nP,h.ls,h.ll,h.lb,gy h.lB hf.size,h.zs,h.zl,h.zb,h.zT,gy h.zw hf.size,h.VO⟩
theorem lY.step (h:lY B z0 z1 w s lk bm O N bx T X P ph ord) (i:Nat) (hi:i<2) (f:Fr (fun k=>k=T i\/k=P i\/k=lk\/k=bm) w w')
 (s1:rE B w' bx i (yOf i) (T i) (X i) (P i) lk (Nx (ph i))) (L1:gu w' lk bm O N):lY B z0 z1 w' s lk bm O N bx T X P (Co ph i) ord/\Fr (fun k=>B<=k/\k<z0) w w':=by
 obtain⟨tv,ov,h1,h2,h3,hz⟩:=h.ai;obtain⟨ct,ht⟩:=(h.ss i hi).s_;obtain⟨cp,hp⟩:=(h.ss i hi).jT;obtain⟨ml,gE,_⟩:=h.kK.map;have hl:=h.kK.ai;have hB:=h.lB
 have aF:∀k,(k=T i\/k=P i\/k=lk\/k=bm)->∀e cs,e≠131->e≠176->e≠120->¬af w k e cs:=by
  rintro k hk e cs e1 e2 e3 hb;rcases hk with rfl|rfl|rfl|rfl
  ·exact hb.aU ht e1 rfl
  ·exact hb.aU hp e2 rfl
  ·exact hb.aU hl e3 rfl
  ·exact gE.aD hb rfl
 have cl:∀{α:Type}{E:cr α}{e:TypeId}{v:Value}{l:List α},e≠131->e≠176->e≠120->Own E e B w v l->Own E e B w' v l:=fun e1 e2 e3 ho=>ho.fr f fun g hg hS=>by
  obtain⟨cs,cK⟩:=ho.heap hg;exact aF g hS _ cs e1 e2 e3 cK
 refine⟨⟨⟨tv,ov,f.ai h1 (fun hk=>aF s hk _ _ D_ D_ D_ h1),cl D_ D_ D_ h2,cl D_ D_ D_ h3,hz⟩,fun j hj=>?_,L1,h.oo,h.nT,h.nX,h.nP,h.ls,h.ll,h.lb,gy hB f.size,h.zs,h.zl,h.zb,h.zT,gy h.zw f.size,h.VO⟩,f.mono fun k _ hk=>?_⟩
 ·by_cases g_:j=i
  ·subst g_;unfold Co;rw [if_pos rfl];exact s1
  ·have eu:Co ph i j=ph j:=by unfold Co;rw [if_neg g_]
   rw [eu];have rG:=h.ss j hj;obtain⟨ct',Jr⟩:=rG.s_;obtain⟨cp',Hq⟩:=rG.jT
   have nT:T j≠T i:=by
    obtain⟨rfl,rfl⟩|⟨rfl,rfl⟩:(i=0/\j=1)\/(i=1/\j=0):=O_
    ·exact h.nT.symm
    ·exact h.nT
   have nP:P j≠P i:=by
    obtain⟨rfl,rfl⟩|⟨rfl,rfl⟩:(i=0/\j=1)\/(i=1/\j=0):=O_
    ·exact h.nP.symm
    ·exact h.nP
   refine rG.fr f ?_ (fun hk=>aF _ hk _ _ D_ D_ D_ rG.dF) ?_ (fun k hk cs hb=>aF k hk _ cs D_ D_ D_ hb)
   ·rintro(e|e|e|e)
    ·exact nT e
    ·exact Jr.aU hp D_ e
    ·exact Jr.aU hl D_ e
    ·exact gE.aD Jr e.symm
   ·rintro(e|e|e|e)
    ·exact Hq.aU ht D_ e
    ·exact nP e
    ·exact Hq.aU hl D_ e
    ·exact gE.aD Hq e.symm
 ·rcases hk with rfl|rfl|rfl|rfl
  ·exact⟨(h.ss i hi).lt,(h.zT i hi).1⟩
  ·exact⟨(h.ss i hi).ls,(h.zT i hi).2⟩
  ·exact⟨h.ll,h.zl⟩
  ·exact⟨h.lb,h.zb⟩
theorem lY.push (h:lY B z0 z1 w s lk bm O N bx T X P ph ord) {tv ov:Value}(h1:af w s 73 #[bx,Q_ lk,tv,ov,I_ 16]) (h2:Own Gq 74 B w tv [T 0,T 1]) (h3:Own (ak .i64) 3 B w ov ord) (hz:∀g,ov.ownBlock=some g->g<z0\/z1<=g)
 {v2:Value}{dv:List Int}{w2:World}(dR:Own (ak .i64) 3 B w2 v2 dv) (f:Fr (fun k=>ov.ownBlock=some k) w w2) (hl:v2.ownBlock=ov.ownBlock\/v2.ownBlock=some w.heap.size\/∃g,v2.ownBlock=some g/\w.heap.size<=g):
 lY B z0 z1 (w2.setCell (C_ s 3) v2) s lk bm O N bx T X P ph dv/\Fr (Zn B z0 z1 w) w (w2.setCell (C_ s 3) v2):=by
 obtain⟨ml,gE,_⟩:=h.kK.map;have eP:=f.ai h1 (fun hk=>h3.ar h1 D_ hk);have ff:Fr (fun k=>ov.ownBlock=some k\/k=s) w (w2.setCell (C_ s 3) v2):=Fr.setCell (f.mono fun _ _ h=>.inl h) (fun _=>.inr rfl) _
 have hS:∀k cs e,(ov.ownBlock=some k\/k=s)->af w k e cs->e=3\/e=73:=by
  rintro k cs e (hk|rfl) hb
  ·obtain⟨c2,uJ⟩:=h3.heap hk;by_cases he:e=3
   ·exact .inl he
   ·exact absurd rfl (hb.aU uJ he)
  ·by_cases he:e=73
   ·exact .inr he
   ·exact absurd rfl (hb.aU h1 he)
 have IH:∀k cs e,af w k e cs->e≠3->e≠73->¬(ov.ownBlock=some k\/k=s):=fun k cs e hb e1 e2 hk=>by
  rcases hS k cs e hk hb with h|h
  ·exact e1 h
  ·exact e2 h
 refine⟨⟨⟨tv,v2,eP.al 3 _,?_,?_,?_⟩,fun j hj=>?_,?_,h.oo,h.nT,h.nX,h.nP,h.ls,h.ll,h.lb,gy h.lB ff.size,h.zs,h.zl,h.zb,h.zT,gy h.zw ff.size,h.VO⟩,ff.mono fun k _ hk=>?_⟩
 ·exact h2.fr ff fun g hg hk=>by
   obtain⟨c2,uJ⟩:=h2.heap hg;exact IH g c2 _ uJ D_ D_ hk
 ·exact dR.fr ((One.refl s w2).set 3 v2) fun g hg e=>dR.ar eP D_ (by rw [<-e];exact hg)
 ·intro g hg;have:=h.zw;rcases hl with e|e|⟨g',e,hg'⟩
  ·exact hz g (by rw [<-e];exact hg)
  ·rw [e]at hg;injection hg with hg;omega
  ·rw [e]at hg;injection hg with hg;omega
 ·have rG:=h.ss j hj;obtain⟨ct',Jr⟩:=rG.s_;obtain⟨cp',Hq⟩:=rG.jT;exact rG.fr ff (IH _ _ _ Jr D_ D_) (IH _ _ _ rG.dF D_ D_) (IH _ _ _ Hq D_ D_) (fun k hk cs hb=>IH k cs _ hb D_ D_ hk)
 ·refine h.kK.fr ff (IH _ _ _ h.kK.ai D_ D_) ?_;rintro(hk|e)
  ·obtain⟨c2,uJ⟩:=h3.heap hk;exact gE.aD uJ rfl
  ·exact gE.aD h1 e
 ·rcases hk with hk|rfl
  ·exact⟨(h3.block hk).1,(hz k hk).imp id fun eA=>⟨eA,h3.heap hk⟩⟩
  ·exact⟨h.ls,.inl h.zs⟩
theorem lY.afH (h:lY B z0 z1 w s lk bm O N bx T X P ph ord) (hf:ae w w'):lY B w.heap.size w'.heap.size w' s lk bm O N bx T X P ph ord:=by
 obtain⟨tv,ov,h1,h2,h3,hz⟩:=h.ai;have h':=h.new hf;have z1:=h.zw
 exact{h' with
  ai:=⟨tv,ov,hf.ai h1,h2.new hf,h3.new hf,fun g hg=>.inl (h3.block hg).2⟩
  zs:=h1.lt
  zl:=h.kK.lt
  zb:=h.kK.ltm
  zT:=fun i hi=>by
   obtain⟨ct,ht⟩:=(h.ss i hi).s_;obtain⟨cp,hp⟩:=(h.ss i hi).jT;exact⟨ht.lt,hp.lt⟩
  zw:=aA _
  VO:=hf.size}
theorem lY.congr (h:lY B z0 z1 w s lk bm O N bx T X P ph ord) {ph':Nat->Nat}(e:∀i:Nat,i<2->ph i=ph' i):lY B z0 z1 w s lk bm O N bx T X P ph' ord:=
 {h with ss:=fun i hi=>by rw [<-e i hi];exact h.ss i hi}
end
theorem K8:(prog.info? 74).map (fun i=>(i.zero,i.size,i.bytes))=some (some (.pointer none),1,8):=K_
section
variable{B z0 z1:Nat}{w w':World}{bx:Value}{s lk bm:Nat}{O:List Int}{N:Int}{T X P ph:Nat->Nat}{ord:List Int}
def Cp(n:Nat):Bool:=decide (n<2)
def Nz(ord:List Int) (n:Nat) (i:Int):List Int:=ord++if n=1 then [i]else []
theorem xK(h:lY B z0 z1 w s lk bm O N bx T X P ph ord) (i:Nat) (hi:i<2) (hlen:ord.length<=1000) (hT:∀w',Fr (fun k=>B<=k) w w'->b_ w'):
 H_ 31 #[Q_ s,I_ i] w fun e w'=>e=.returned (R_ (Cp (ph i)))/\lY B z0 z1 w' s lk bm O N bx T X P (Co ph i) (Nz ord (ph i) i)/\Fr (Zn B z0 z1 w) w w':=by
 obtain⟨tv,ov,hb,ht,ho,_⟩:=h.ai;obtain⟨A,c,rfl,hc⟩:=ht.form;obtain⟨g,rfl⟩:=ht.some_ S_
 have ct:L_ w g i (Q_ (T i)):=by
  obtain rfl|rfl:i=0\/i=1:=O_
  ·exact ht.dG (k:=0) (x:=T 0) rfl (j:=0) rfl
  ·exact ht.dG (k:=1) (x:=T 1) rfl (j:=0) rfl
 have c2:L_ w s 2 (X_ (M_ g) 2 c):=hb.cell 2;have dz:=Ny (y:=yOf i) (by unfold yOf;split;exact .inl rfl;exact .inr rfl) (h.ss i hi) h.kK (h.oo i hi) O_ O_ hT;obtain⟨r,hr⟩:∃r,Su (ph i)=r:=⟨_,rfl⟩;rw [hr]at dz
 have J6:(r=2/\ph i=0)\/(r=3/\ph i=1)\/(r=0/\2<=ph i):=by
  unfold Su at hr
  split at hr
  ·exact .inl ⟨hr.symm,by assumption⟩
  ·split at hr
   ·exact .inr (.inl ⟨hr.symm,by assumption⟩)
   ·exact .inr (.inr ⟨hr.symm,O_⟩)
 have HS:=ac5 dz;have HR:=ac5 J6;have HI:=ac5 hi;have H:=ac5 h;have hmf:=atQ;have np:decide ((i:Int)<0)=false:=aP O_;have oe:decide ((2:Int)<=(i:Int))=false:=aP O_;have sD:(i:Int).toNat=i:=O_
 obtain⟨i0,gn,dw,cE,dy⟩:=wF mr;clear dz hr J6 h hb ht ho hT
 go_enter func31,ntmps31
 go_wp2_with fail
 refine HS.out.mono ?_;rintro e w1 ⟨rfl,s1,L1,f1⟩;obtain⟨S1,F1⟩:=H.out.step i HI.out f1 s1 L1;have VO:=H.out.VO;have F1':Fr (Zn B z0 z1 w) w w1:=F1.mono fun k _ hk=>⟨hk.1,.inl hk.2⟩;have J6:=HR.out;clear ct c2 s1 L1 f1;rcases J6 with⟨rfl,e0⟩|⟨rfl,e1⟩|⟨rfl,e2⟩
 ·have E0:=ac5 e0;clear e0;go_wp2;go_ret;refine⟨by unfold Cp;rw [E0.out];rfl,?_,F1'⟩;unfold Nz;rw [E0.out,if_neg O_,kg];exact S1
 ·have E1:=ac5 e1;clear e1;obtain⟨tv,ov,hb,ht,ho,hz⟩:=S1.ai;obtain⟨A3,C3,rfl,_⟩:=ho.form;have c3:=hb.k3;have gN:=hb.alloc (G_ #[I_ i] 3);have fV:=ho.alloc (G_ #[I_ i] 3);have ez:Rd (ak .i64) (W_ w1 #[I_ i] 3) (X_ (M_ w1) 1 1) [(i:Int)]:=jI (E:=ak .i64) (x:=(i:Int)) (t:=3) (af.new _ _ _);have hlB:B<=(w1.alloc (G_ #[I_ i] 3)).heap.size:=by have:=S1.lB;rw [gz];omega
  go_wp2_with (at_builtin;refine aZ (E:=ak .i64) rfl _ _ _ rfl underlying31 gn dw cE dy rfl fV rfl ez rfl (by unfold maxLen;simp;omega) P_ hlB ?_;intro v2 w2 dR dU sg;have eP:=dU.ai gN (fun hk=>fV.ar gN D_ hk);have c4:=eP.k3;have f4:=eP.frozen 3;obtain⟨A4,C4,rfl,_⟩:=dR.form;rw [show(ord++[(i:Int)]).length=ord.length+1 from by simp]at dR sg)
  go_ret
  obtain⟨P1,P2⟩:=S1.push hb ht ho hz dR (Fr.trans (((ae.refl w1).alloc _).mono fun _ _ h=>h.elim) dU) (by
   rcases sg with e|e
   ·exact .inl e
   ·exact .inr (.inr ⟨_,e,by rw [gz];omega⟩))
  refine⟨by unfold Cp;rw [E1.out];rfl,?_,Fr.trans' F1' P2 fun j hj hk=>⟨hk.1,?_⟩⟩
  ·unfold Nz;rw [E1.out,if_pos rfl];exact P1
  ·rcases hk.2 with hk|⟨hk,cs,cK⟩
   ·exact .inl hk
   ·refine .inr ⟨hk,cs,?_⟩;unfold af at cK⊢;rw [<-F1.block j hj (fun h=>O_)];exact cK
 ·have E2:=ac5 e2;clear e2;go_wp2;go_ret;refine⟨by unfold Cp;rw [aP (by have:=E2.out;omega)];rfl,?_,F1'⟩;unfold Nz;rw [if_neg (by have:=E2.out;omega),kg];exact S1
end
section
attribute [local go_sem] wT
def nF(k:Nat):Int:=if k=0 then 0 else if k<=2 then 1 else 2
def sF(k:Nat):Int:=if k<=1 then 0 else if k=2 then 1 else(k:Int)-3
def hF(k:Nat):Nat->Nat:=fun j=>if j=0 then(if k=0 then 0 else if k<=2 then 1 else 2)else 2
def oF(k:Nat):List Int:=if k<3 then [1]else [1,0]
section
variable{B z0 z1:Nat}{w w':World}{bx:Value}{s lk bm:Nat}{O:List Int}{N:Int}{T X P ph:Nat->Nat}{ord:List Int}
structure Fin(B z0 z1:Nat) (wA W:World) (q b1 b2 b3 b4 s lk bm:Nat) (O:List Int) (N:Int) (bx:Value) (T X P:Nat->Nat) (k:Nat):Prop where
 jk:lY B z0 z1 W s lk bm O N bx T X P (hF k) (oF k)
 q:af W q 26 #[Q_ s]
 b1:af W b1 26 #[Q_ s]
 b2:af W b2 3 #[I_ 0]
 b3:af W b3 3 #[I_ (nF k)]
 b4:af W b4 3 #[I_ (sF k)]
 fr:Fr (fun k=>B<=k) wA W
theorem lY.SG {S:Nat->Prop}(h:lY B z0 z1 w s lk bm O N bx T X P ph ord) (hf:Fr S w w') (hS:∀k,S k->z0<=k/\k<z1/\∃cs,af w k 3 cs):lY B z0 z1 w' s lk bm O N bx T X P ph ord:=by
 obtain⟨tv,ov,h1,h2,h3,hz⟩:=h.ai
 have hB:∀{g:Nat}{e cs},af w g e cs->e≠3->¬S g:=fun hb he hk=>by
  obtain⟨_,_,kL,lW⟩:=hS _ hk;exact hb.aU lW he rfl
 obtain⟨ml,gE,_⟩:=h.kK.map;refine⟨⟨tv,ov,hf.ai h1 (hB h1 D_),h2.fr hf fun g hg hk=>?_,h3.fr hf fun g hg hk=>?_,hz⟩,fun i hi=>?_,h.kK.fr hf (hB h.kK.ai D_) (fun hk=>?_),h.oo,h.nT,h.nX,h.nP,h.ls,h.ll,h.lb,gy h.lB hf.size,h.zs,h.zl,h.zb,h.zT,gy h.zw hf.size,h.VO⟩
 ·obtain⟨cs,cK⟩:=h2.heap hg;exact hB cK D_ hk
 ·obtain⟨h5,h6,_⟩:=hS _ hk;have:=hz g hg;omega
 ·have rG:=h.ss i hi;obtain⟨ct',Jr⟩:=rG.s_;obtain⟨cp',Hq⟩:=rG.jT;exact rG.fr hf (hB Jr D_) (hB rG.dF D_) (hB Hq D_) fun k hk cs hb=>hB hb D_ hk
 ·obtain⟨_,_,kL,lW⟩:=hS _ hk;exact gE.aD lW rfl
theorem Ld:∀k,k<7->(∀j,j<2->Co (hF k) (k %2) j=hF (k+1) j)/\Nz (oF k) (hF k (k %2)) ((k %2:Nat):Int)=oF (k+1)/\(4<=sF (k+1)<->k=6)/\nF (k+1)<=2/\
 (Cp (hF k (k %2))=true->nF (k+1)=nF k+1/\sF (k+1)=0)/\(Cp (hF k (k %2))=false->nF (k+1)=nF k/\sF (k+1)=sF k+1):=D_
theorem lY.turn {Bt:Nat}(h:lY B z0 z1 w s lk bm O N bx T X P ph ord) (t:iH Bt w w') (hb:bm<Bt):lY B z0 z1 w' s lk bm O N bx T X P ph ord:=
 h.fr (t.fr (S:=fun k=>Bt<=k/\∃o:Obj,w.heap[k]? =some o/\o.isCells=false) fun k h1 h2=>⟨h1,h2⟩) (fun k ⟨_,o,ho,hc⟩ e cs WD=>by have:=WD.isCells o ho;rw [this]at hc;cases hc) (fun⟨h1,_⟩=>O_)
theorem Fin.turn {Bt k:Nat}{wA W W':World}{q b1 b2 b3 b4:Nat}(h:Fin B z0 z1 wA W q b1 b2 b3 b4 s lk bm O N bx T X P k) (t:iH Bt W W') (hb:bm<Bt) (hA:wA.heap.size<=Bt):Fin B z0 z1 wA W' q b1 b2 b3 b4 s lk bm O N bx T X P k:=
 ⟨h.jk.turn t hb,t.ai h.q,t.ai h.b1,t.ai h.b2,t.ai h.b3,t.ai h.b4,t.lI h.fr hA⟩
theorem Jz(h:lY B z0 z1 w s lk bm O N bx T X P (hF 0) (oF 0)) (hT:∀w',Fr (fun k=>B<=k) w w'->b_ w'):
 H_ 13 #[Q_ s] w fun e w'=>(∃v,e=.returned v)/\(∃z0 z1,lY B z0 z1 w' s lk bm O N bx T X P (hF 7) (oF 7))/\Fr (fun k=>B<=k) w w':=by
 have HT:=ac5 hT;have H:=ac5 h;clear hT h;refine(ay (n:=6)).1 ?_;refine jJ func13 rfl trivial ?_ rfl;simp only [ntmps13,PA,iU,WL,Nat.reduceAdd,Nat.reduceSub,rX,rY,eL,iY,Qv,OZ]
 gi_wp2_with (first
  |(refine⟨trivial,?_⟩;gi_at_call 33
    refine(callsIn_wide.2 (xM s _)).mono ?_;rintro e w1 ⟨rfl,rfl⟩)
  |fail)
 have h:=H.out;have nL:ae w (W_ (W_ (W_ (W_ (W_ w #[Q_ s] 26) #[I_ 0] 3) #[I_ 0] 3) #[I_ 0] 3) #[Q_ s] 26):=(((((ae.refl w).alloc _).alloc _).alloc _).alloc _).alloc _;have b1:af (W_ (W_ (W_ (W_ (W_ w #[Q_ s] 26) #[I_ 0] 3) #[I_ 0] 3) #[I_ 0] 3) #[Q_ s] 26) w 26 #[Q_ s]:=((((af.new _ _ _).alloc _).alloc _).alloc _).alloc _;have b2:af (W_ (W_ (W_ (W_ (W_ w #[Q_ s] 26) #[I_ 0] 3) #[I_ 0] 3) #[I_ 0] 3) #[Q_ s] 26) (w.heap.size+1) 3 #[I_ 0]:=(((af.cD _ _ _ _).alloc _).alloc _).alloc _
 have b3:af (W_ (W_ (W_ (W_ (W_ w #[Q_ s] 26) #[I_ 0] 3) #[I_ 0] 3) #[I_ 0] 3) #[Q_ s] 26) (w.heap.size+1+1) 3 #[I_ 0]:=by
  have:=af.cD (W_ w #[Q_ s] 26) (G_ #[I_ 0] 3) 3 #[I_ 0];rw [gz]at this;exact(this.alloc _).alloc _
 have b4:af (W_ (W_ (W_ (W_ (W_ w #[Q_ s] 26) #[I_ 0] 3) #[I_ 0] 3) #[I_ 0] 3) #[Q_ s] 26) (w.heap.size+1+1+1) 3 #[I_ 0]:=by
  have:=af.cD (W_ (W_ w #[Q_ s] 26) #[I_ 0] 3) (G_ #[I_ 0] 3) 3 #[I_ 0];rw [gz,gz]at this;exact this.alloc _
 have bq:af (W_ (W_ (W_ (W_ (W_ w #[Q_ s] 26) #[I_ 0] 3) #[I_ 0] 3) #[I_ 0] 3) #[Q_ s] 26) (w.heap.size+1+1+1+1) 26 #[Q_ s]:=by
  have:=af.cD (W_ (W_ (W_ w #[Q_ s] 26) #[I_ 0] 3) #[I_ 0] 3) (G_ #[I_ 0] 3) 26 #[Q_ s];rw [gz,gz,gz]at this;exact this
 have aaP:(((((w.alloc (G_ #[Q_ s] 26)).alloc (G_ #[I_ 0] 3)).alloc (G_ #[I_ 0] 3)).alloc (G_ #[I_ 0] 3)).alloc (G_ #[Q_ s] 26)).heap.size=w.heap.size+5:=by simp only [gz]
 generalize(((((w.alloc (G_ #[Q_ s] 26)).alloc (G_ #[I_ 0] 3)).alloc (G_ #[I_ 0] 3)).alloc (G_ #[I_ 0] 3)).alloc (G_ #[Q_ s] 26))=wL at*;have hz:=h.afH nL;have hlB:=h.lB;obtain⟨B1,e1⟩:∃B1,w.heap.size=B1:=⟨_,rfl⟩;obtain⟨B2,e2⟩:∃B2,w.heap.size+1=B2:=⟨_,rfl⟩;obtain⟨B3,e3⟩:∃B3,w.heap.size+1+1=B3:=⟨_,rfl⟩;obtain⟨B4,e4⟩:∃B4,w.heap.size+1+1+1=B4:=⟨_,rfl⟩;obtain⟨q,e5⟩:∃q,w.heap.size+1+1+1+1=q:=⟨_,rfl⟩;rw [e5]at bq⊢;rw [e4]at b4⊢;rw [e3]at b3⊢;rw [e2]at b2⊢;rw [e1]at b1⊢;have afS:(B<=B1/\B<=w.heap.size)/\w.heap.size<=B1/\B1<B2/\B2<B3/\B3<B4/\B4<q/\q<wL.heap.size:=O_
 have afT:=ac5 afS;clear afS aaP e1 e2 e3 e4 e5;have F0:Fin B w.heap.size wL.heap.size w wL q B1 B2 B3 B4 s lk bm O N bx T X P 0:=⟨hz,bq,b1,b2,b3,b4,nL.mono fun _ _ h=>h.elim⟩;clear hz bq b1 b2 b3 b4;have Tl:bm<wL.heap.size:=by have:=F0.jk.zb;have:=nL.size;omega
 obtain⟨SH,dw⟩:∃z,w.heap.size=z:=⟨_,rfl⟩;obtain⟨Tz,cE⟩:∃z,wL.heap.size=z:=⟨_,rfl⟩;rw [dw,cE]at F0;have hA:=nL.size;have afU:Hid ((B<=B1/\B<=SH)/\SH<=B1/\B1<B2/\B2<B3/\B3<B4/\B4<q/\q<Tz):=ac5 (by have:=afT.out;omega);have HZ0:=ac5 dw;have XC:=ac5 cE;clear dw cE afT h
 refine fp (α:=Nat) rfl D_ (gf:=55) (lb:= #[Q_ q]) rfl trivial (Aw func55 K_ rfl) (encs:=fun x=> #[I_ (x:Int)]) (fun _=>rfl) (S:=fun _=>False) (Sp:=fun _=>True)
  (fun pre W=>pre.length<=6/\Fin B SH Tz w W q B1 B2 B3 B4 s lk bm O N bx T X P pre.length)
  (fun pre x W=>(pre.length<=6/\Fin B SH Tz w W q B1 B2 B3 B4 s lk bm O N bx T X P pre.length)/\Hid (x=pre.length %2))
  (fun c pre W=>c=.ret/\lY B SH Tz W s lk bm O N bx T X P (hF 7) (oF 7)/\af W B2 3 #[I_ 2]/\Fr (fun k=>B<=k) w W)
  (bN fun pre W W' h t=>⟨h.1,h.2.turn t Tl hA⟩)
  (fun pre x=>bN fun _ W W' h t=>⟨⟨h.1.1,h.1.2.turn t Tl hA⟩,h.2⟩)
  (fun c=>bN fun _ W W' h t=>⟨h.1,h.2.1.turn t Tl,t.ai h.2.2.1,t.lI h.2.2.2 hA⟩)
  ⟨S_,F0⟩ ?hseq
  (fun x a' W=>a'={tmps:=List.toArray (Q_ s:: Q_ B1:: Q_ B2:: Q_ B3:: Q_ B4:: I_ (x:Int):: Q_ s:: R_ false:: Q_ s:: .func (.func 55) #[] #[Q_ q]:: I_ (x:Int)::undef::undef::undef::undef::undef::undef::undef::undef::undef::undef::undef::undef::undef::undef::undef::undef::undef::undef::undef::undef::undef::undef::undef::undef::undef::[]),defers:=[]})
  (fun x a'=>bN fun _ W W' h t=>h)
  ?hassign ?hbody (fun _ _ _ _ h=>h.elim) ?hstop
 case hassign=>
  intro l pre x W K hJ hK
  gi_wp2
  exact hK _ _ (gp (S:=fun _=>False) (Fr.refl _ _) (fun _ h=>h.elim)) hJ rfl
 case hbody=>
  rintro l pre x a' W hl hr ⟨⟨hle,F⟩,xS⟩ rfl;have hx:=xS.out;obtain⟨k,hk⟩:∃k,pre.length=k:=⟨_,rfl⟩;rw [hk]at hle F hx;have UN:x<2:=O_
  have ho:=afU.out;have pT:=xK F.jk x UN (by unfold oF;split<;>simp) (fun w' f=>HT.out _ (F.fr.trans f));have c1:=F.b1.k0;obtain⟨r,pO⟩:∃r,Cp (hF k x)=r:=⟨_,rfl⟩;rw [pO]at pT;have HP:=ac5 pT;have HR:=ac5 pO;have HX:=ac5 hx;have HK:=ac5 hk;have HF:=ac5 F;have Tp:=ac5 hle;have HO:=ac5 ho;clear pT pO hx xS hk F hle ho;obtain⟨n,hn⟩:∃n,nF k=n:=⟨_,rfl⟩;obtain⟨sk,hs⟩:∃sk,sF k=sk:=⟨_,rfl⟩
  have hb:(0<=n/\n<=2)/\0<=sk/\sk<=3:=by
   have:=Tp.out;rw [<-hn,<-hs];unfold nF sF
   repeat' split
   all_goals omega
  obtain⟨⟨iP,br⟩,oW,fB⟩:=hb;have HN:=ac5 hn;have HSK:=ac5 hs;have b3W:=HF.out.b3;have b4W:=HF.out.b4;rw [hn]at b3W;rw [hs]at b4W;clear hn hs
  gi_wp2_with (first
   |(refine⟨trivial,?_⟩;gi_at_call 31
     refine(XJ l (callsIn_wide.2 HP.out)).mono ?_;rintro e W1 ⟨rfl,S1,f1⟩;have hO:=HO.out;have d1:=f1.ai HF.out.b1 (fun hk=>by rcases hk.2 with h|⟨h,_⟩<;>omega);have d3:=f1.ai b3W (fun hk=>by rcases hk.2 with h|⟨h,_⟩<;>omega);have d4:=f1.ai b4W (fun hk=>by rcases hk.2 with h|⟨h,_⟩<;>omega);have g1:=d1.k0;have g3:=d3.k0;have g4:=d4.k0;have z3:=d3.frozen 0;have z4:=d4.frozen 0;have z5:∀u,(W1.setCell (C_ B3 0) u).frozen? (C_ B4 0)=false:=fun u=>(d4.bL (p:=⟨B3,0,none⟩) (by show B4≠B3;omega) u).frozen 0;have g5:∀u,L_ (W1.setCell (C_ B3 0) u) B4 0 (I_ sk):=fun u=>(d4.bL (p:=⟨B3,0,none⟩) (by show B4≠B3;omega) u).cell 0;have D1:=ac5 d1;have D2:=ac5 (f1.ai HF.out.b2 (fun hk=>by rcases hk.2 with h|⟨h,_⟩<;>omega));have DQ:=ac5 (f1.ai HF.out.q (fun hk=>by rcases hk.2 with h|⟨h,_⟩<;>omega));have S1':=ac5 S1;have f1':=ac5 f1;have D3:=ac5 d3;have D4:=ac5 d4;clear S1 f1 hO d1 d3 d4
     cases r)
   |fail)
  ·
   have hO:=HO.out;have vs:=S1'.out.SG (S:=fun k=>k=B4) ((One.refl B4 W1).set 0 (I_ (sk+1))) (fun k e=>by subst e;exact⟨O_,O_,_,D4.out⟩);have vb1:=D1.out.bL (p:=⟨B4,0,none⟩) (by show B1≠B4;omega) (I_ (sk+1));have vb2:=D2.out.bL (p:=⟨B4,0,none⟩) (by show B2≠B4;omega) (I_ (sk+1));have V8:=D3.out.bL (p:=⟨B4,0,none⟩) (by show B3≠B4;omega) (I_ (sk+1));have vq:=DQ.out.bL (p:=⟨B4,0,none⟩) (by show q≠B4;omega) (I_ (sk+1));have V9:=D4.out.al 0 (I_ (sk+1));have FV:Fr (fun k=>Zn B SH Tz W k\/k=B3\/k=B4) W (W1.setCell (C_ B4 0) (I_ (sk+1))):=(f1'.out.mono fun _ _ h=>.inl h).trans (((One.refl B4 W1).set 0 (I_ (sk+1))).mono fun _ _ h=>.inr (.inr h));have VS:=vs;have oQ:=Ld k (by have:=Tp.out;omega);rw [<-HX.out,HN.out,HSK.out]at oQ;have V_:=oQ.2.2.2.2.2 HR.out;clear g1 g3 g4 z3 z4 z5 g5 vs;generalize(W1.setCell (C_ B4 0) (I_ (sk+1)))=V at*;obtain⟨n',dn⟩:∃n',n=n':=⟨_,rfl⟩;obtain⟨CK,VQ⟩:∃CK,sk+1=CK:=⟨_,rfl⟩;rw [dn]at V_ V8;rw [VQ]at V_ V9;have TA:=ac5 V_;have Oi:=ac5 oQ;clear V_ oQ;obtain⟨tv,ov,hb,ht,Ea,_⟩:=VS.ai;obtain⟨A,c,rfl,_⟩:=ht.form;have v1:=vb1.k0;have v3:=V8.k0;have v4:=V9.k0;have v5:L_ V s 2 (X_ A 2 c):=hb.cell 2;have v6:=hb.k4;have iQ:n'<=2:=by rw [<-TA.out.1];exact Oi.out.2.2.2.1
   have dB:decide ((16:Int)<n')=false:=aP O_;have hw:IntKind.i64.wrap ((2:Int)*2)=4:=D_
   have Gg:IntKind.i64.wrap (4:Int)=4:=D_
   have VS':=ac5 VS;have F':=HF.out.fr;have HIF:=Oi.out.2.2.1;rw [TA.out.2]at HIF;have SI:=ac5 HIF;have GV:=ac5 FV;have GF:=ac5 F';clear VS hb ht Ea HIF FV F';by_cases bT:4<=CK
   ·have dA:=k_ bT;refine aS rfl K_ K_ K_ ?_
    repeat(gi_big_quiet_step (fail))
    refine pK ?_;rintro _ ⟨nq,rfl⟩;have vn:=vb2.drewN nq;have zn:=vn.frozen 0;have zc:=vn.k0;have zd:L_ (V.drewN nq) B3 0 (I_ n'):=v3
    gi_wp2
    have rv:=SI.out.1 bT;have nJ:=HO.out;have cE:=XC.out
    have FW:Fr (fun j=>Zn B SH Tz W j\/j=B3\/j=B4\/j=B2) W ((V.drewN nq).setCell (C_ B2 0) (I_ n')):=
     Fr.setCell ((GV.out.drewN nq).mono fun _ _ h=>by rcases h with h|h|h;exact .inl h;exact .inr (.inl h);exact cu (.inl h)) (p:=⟨B2,0,none⟩) (fun _=>dS rfl) _
    refine⟨fy FW (fun j hj hS o ho=>?_),rfl,?_,?_,GF.out.trans (FW.mono fun j _ hS=>?_)⟩
    ·rcases hS with⟨_,h|⟨_,cs,cK⟩⟩|h|h|h
     ·omega
     ·exact cK.isCells o ho
     all_goals omega
    ·have e1:=Oi.out.1;have e2:=Oi.out.2.1;rw [rv]at e1 e2;have:=(VS'.out.new ((ae.refl V).drewN nq)).SG (S:=fun k=>k=B2) ((One.refl B2 (V.drewN nq)).set 0 (I_ n')) (fun k e=>by subst e;exact⟨O_,O_,_,vn⟩);rw [rv,e2]at this;exact this.congr e1
    ·have V':=TA.out.1;rw [rv]at V';have e7:nF (6+1)=2:=rfl;rw [e7]at V';have:=vn.al 0 (I_ n');rw [<-V']at this;rw [<-V'];exact this
    ·rcases hS with h|h|h|h
     ·exact h.1
     all_goals omega
   ·have dA:=aP bT;refine aS rfl K_ K_ K_ ?_
    repeat(gi_big_quiet_step (fail))
    refine pK ?_;rintro _ ⟨nq,rfl⟩
    gi_wp2
    have rv:¬k=6:=fun h=>by have:=SI.out.2 h;omega
    have nJ:=HO.out;have cE:=XC.out;have hle:=Tp.out;have hlen:(pre++[x]).length=k+1:=by rw [dr,HK.out];rfl
    have FW:=GV.out.drewN nq;refine⟨fy FW (fun j hj hS o ho=>?_),by rw [hlen];omega,?_⟩
    ·rcases hS with⟨_,h|⟨_,cs,cK⟩⟩|h|h
     ·omega
     ·exact cK.isCells o ho
     all_goals omega
    ·rw [hlen];have e1:=Oi.out.1;have e2:=Oi.out.2.1;have fB:=VS'.out.new ((ae.refl V).drewN nq);rw [e2]at fB;refine⟨fB.congr e1,vq.drewN nq,vb1.drewN nq,vb2.drewN nq,?_,?_,GF.out.trans (FW.mono fun j _ hS=>?_)⟩
     ·rw [TA.out.1];exact V8.drewN nq
     ·rw [TA.out.2];exact V9.drewN nq
     ·rcases hS with h|h|h
      ·exact h.1
      all_goals omega
  ·
   have hO:=HO.out;have aaW:=(One.refl B3 W1).set 0 (I_ (n+1));have vs1:=S1'.out.SG (S:=fun k=>k=B3) aaW (fun k e=>by subst e;exact⟨O_,O_,_,D3.out⟩);have u1:=D1.out.bL (p:=⟨B3,0,none⟩) (by show B1≠B3;omega) (I_ (n+1));have u2:=D2.out.bL (p:=⟨B3,0,none⟩) (by show B2≠B3;omega) (I_ (n+1));have u3:=D3.out.al 0 (I_ (n+1));have u4:=D4.out.bL (p:=⟨B3,0,none⟩) (by show B4≠B3;omega) (I_ (n+1));have uq:=DQ.out.bL (p:=⟨B3,0,none⟩) (by show q≠B3;omega) (I_ (n+1));have FU:Fr (fun k=>Zn B SH Tz W k\/k=B3\/k=B4) W (W1.setCell (C_ B3 0) (I_ (n+1))):=(f1'.out.mono fun _ _ h=>.inl h).trans (aaW.mono fun _ _ h=>.inr (.inl h));generalize(W1.setCell (C_ B3 0) (I_ (n+1)))=U at*;have vs:=vs1.SG (S:=fun k=>k=B4) ((One.refl B4 U).set 0 (I_ 0)) (fun k e=>by subst e;exact⟨O_,O_,_,u4⟩);have vb1:=u1.bL (p:=⟨B4,0,none⟩) (by show B1≠B4;omega) (I_ 0);have vb2:=u2.bL (p:=⟨B4,0,none⟩) (by show B2≠B4;omega) (I_ 0);have V8:=u3.bL (p:=⟨B4,0,none⟩) (by show B3≠B4;omega) (I_ 0);have vq:=uq.bL (p:=⟨B4,0,none⟩) (by show q≠B4;omega) (I_ 0);have V9:=u4.al 0 (I_ 0);have FV:=FU.trans (((One.refl B4 U).set 0 (I_ 0)).mono fun _ _ h=>.inr (.inr h));have VS:=vs;have oQ:=Ld k (by have:=Tp.out;omega);rw [<-HX.out,HN.out,HSK.out]at oQ;have V_:=oQ.2.2.2.2.1 HR.out;clear g1 g3 g4 z3 z4 z5 g5 vs vs1 u1 u2 u3 u4 uq FU aaW;generalize(U.setCell (C_ B4 0) (I_ 0))=V at*;obtain⟨n',dn⟩:∃n',n+1=n':=⟨_,rfl⟩;obtain⟨CK,VQ⟩:∃CK:Int,0=CK:=⟨_,rfl⟩;rw [dn]at V_;rw [VQ]at V_;have afY:af V B3 3 #[I_ n']:=by rw [<-dn];exact V8
   have afZ:af V B4 3 #[I_ CK]:=by rw [<-VQ];exact V9
   clear V8 V9;have V8:=afY;have V9:=afZ;have TA:=ac5 V_;have Oi:=ac5 oQ;clear V_ oQ afY afZ VQ;obtain⟨tv,ov,hb,ht,Ea,_⟩:=VS.ai;obtain⟨A,c,rfl,_⟩:=ht.form;have v1:=vb1.k0;have v3:=V8.k0;have v4:=V9.k0;have v5:L_ V s 2 (X_ A 2 c):=hb.cell 2;have v6:=hb.k4;have iQ:n'<=2:=by rw [<-TA.out.1];exact Oi.out.2.2.2.1
   have dB:decide ((16:Int)<n')=false:=aP O_;have hw:IntKind.i64.wrap ((2:Int)*2)=4:=D_
   have Gg:IntKind.i64.wrap (4:Int)=4:=D_
   have VS':=ac5 VS;have F':=HF.out.fr;have HIF:=Oi.out.2.2.1;rw [TA.out.2]at HIF;have SI:=ac5 HIF;have GV:=ac5 FV;have GF:=ac5 F';clear VS hb ht Ea HIF FV F';by_cases bT:4<=CK
   ·have dA:=k_ bT;refine aS rfl K_ K_ K_ ?_
    repeat(gi_big_quiet_step (fail))
    refine pK ?_;rintro _ ⟨nq,rfl⟩;have vn:=vb2.drewN nq;have zn:=vn.frozen 0;have zc:=vn.k0;have zd:L_ (V.drewN nq) B3 0 (I_ n'):=v3
    gi_wp2
    have rv:=SI.out.1 bT;have nJ:=HO.out;have cE:=XC.out
    have FW:Fr (fun j=>Zn B SH Tz W j\/j=B3\/j=B4\/j=B2) W ((V.drewN nq).setCell (C_ B2 0) (I_ n')):=
     Fr.setCell ((GV.out.drewN nq).mono fun _ _ h=>by rcases h with h|h|h;exact .inl h;exact .inr (.inl h);exact cu (.inl h)) (p:=⟨B2,0,none⟩) (fun _=>dS rfl) _
    refine⟨fy FW (fun j hj hS o ho=>?_),rfl,?_,?_,GF.out.trans (FW.mono fun j _ hS=>?_)⟩
    ·rcases hS with⟨_,h|⟨_,cs,cK⟩⟩|h|h|h
     ·omega
     ·exact cK.isCells o ho
     all_goals omega
    ·have e1:=Oi.out.1;have e2:=Oi.out.2.1;rw [rv]at e1 e2;have:=(VS'.out.new ((ae.refl V).drewN nq)).SG (S:=fun k=>k=B2) ((One.refl B2 (V.drewN nq)).set 0 (I_ n')) (fun k e=>by subst e;exact⟨O_,O_,_,vn⟩);rw [rv,e2]at this;exact this.congr e1
    ·have V':=TA.out.1;rw [rv]at V';have e7:nF (6+1)=2:=rfl;rw [e7]at V';have:=vn.al 0 (I_ n');rw [<-V']at this;rw [<-V'];exact this
    ·rcases hS with h|h|h|h
     ·exact h.1
     all_goals omega
   ·have dA:=aP bT;refine aS rfl K_ K_ K_ ?_
    repeat(gi_big_quiet_step (fail))
    refine pK ?_;rintro _ ⟨nq,rfl⟩
    gi_wp2
    have rv:¬k=6:=fun h=>by have:=SI.out.2 h;omega
    have nJ:=HO.out;have cE:=XC.out;have hle:=Tp.out;have hlen:(pre++[x]).length=k+1:=by rw [dr,HK.out];rfl
    have FW:=GV.out.drewN nq;refine⟨fy FW (fun j hj hS o ho=>?_),by rw [hlen];omega,?_⟩
    ·rcases hS with⟨_,h|⟨_,cs,cK⟩⟩|h|h
     ·omega
     ·exact cK.isCells o ho
     all_goals omega
    ·rw [hlen];have e1:=Oi.out.1;have e2:=Oi.out.2.1;have fB:=VS'.out.new ((ae.refl V).drewN nq);rw [e2]at fB;refine⟨fB.congr e1,vq.drewN nq,vb1.drewN nq,vb2.drewN nq,?_,?_,GF.out.trans (FW.mono fun j _ hS=>?_)⟩
     ·rw [TA.out.1];exact V8.drewN nq
     ·rw [TA.out.2];exact V9.drewN nq
     ·rcases hS with h|h|h
      ·exact h.1
      all_goals omega
 case hstop=>
  rintro D c pre W hD _ ⟨rfl,S7,h2,hf⟩ hK;have FD:Fr (fun k=>D=k) W (W.putObj D (.deferred none)):=Fr.dW (S:=fun k=>D=k) (bH _ D _) fun i hi=>by injection hi
  have h2':=FD.ai h2 (fun e=>by subst e;unfold af at h2;rw [h2]at hK;cases hK);have S7':=S7.fr FD (fun j e g cs hb=>by subst e;unfold af at hb;rw [hb]at hK;cases hK) (fun e=>by have:=nL.size;omega)
  gi_wp2
  refine⟨S_,.inl ⟨_,_,rfl,Gx hK,?_⟩⟩;exact⟨_,aI rfl _ _ rfl (cJ underlying3 rfl (h2'.cell 0)),⟨_,rfl⟩,⟨_,_,S7'⟩,hf.trans (FD.mono fun j _ e=>O_)⟩
 case hseq=>
  intro l K Kx W1 hB hKm YE k1 i1 gA;refine(xN q s 2 6 O_ O_ (I:=fun pre W=>pre.length<=6/\Fin B SH Tz w W q B1 B2 B3 B4 s lk bm O N bx T X P pre.length) (Ix:=fun c pre W=>c=.ret/\lY B SH Tz W s lk bm O N bx T X P (hF 7) (oF 7)/\af W B2 3 #[I_ 2]/\Fr (fun k=>B<=k) w W) l W1 k1 i1 (fun pre W h=>⟨h.2.q.cell 0,?_⟩) (fun pre W h=>h.1) (fun pre x W hI hx hk=>gA pre x W ⟨hI,ac5 hx⟩ hk)).mono ?_
  ·obtain⟨tv,ov,hb,ht,ho,_⟩:=h.2.jk.ai;obtain⟨A,c,rfl,hc⟩:=ht.form;exact⟨A,c,hb.cell 2⟩
  ·rintro e W' ⟨hv,pre,c,h1,h2⟩;exact⟨hv,.inr ⟨pre,c,trivial,h1,h2⟩⟩
end
end
section
variable{B z0 z1:Nat}{w w':World}{bx:Value}{s lk bm:Nat}{O:List Int}{N:Int}{T X P ph:Nat->Nat}{ord:List Int}
theorem Wb(h:lY B z0 z1 w s lk bm O N bx T X P (fun _=>0) []) (ib:Nat) (oR:af w ib 3 #[I_ 1,I_ 1]) (gn:z0<=ib) (iF:ib<z1) (hT:∀w',Fr (fun k=>B<=k) w w'->b_ w'):
 H_ 10 #[Q_ s,X_ (M_ ib) 2 2] w fun e w'=>e=.returned (I_ 2)/\lY B z0 z1 w' s lk bm O N bx T X P (Co (Co (fun _=>0) 1) 1) [1]/\Fr (fun k=>B<=k) w w':=by
 have HT:=ac5 hT;have H1:=ac5 (xK h 1 O_ S_ hT);have HI:=ac5 gn;have r0:=oR.k0;clear hT
 go_enter func10,ntmps10
 go_wp2_with fail
 refine jD 3 ?_;rw [O0];go_wp2_with fail
 refine H1.out.mono ?_;rintro e w1 ⟨rfl,S1,f1⟩;have b1:=f1.ai oR (fun hk=>by have:=HI.out;rcases hk.2 with hk|hk;omega;omega);have r1:=b1.k1;have H2:=ac5 (xK S1 1 O_ (by simp [Nz]) (fun w' f=>HT.out w' (Fr.trans (f1.mono fun _ _ hk=>hk.1) f)));have lU:Cp 0=true:=rfl;have NL:Cp (Co (fun _=>0) 1 1)=true:=rfl;rw [NL]at H2;go_wp2_with fail
 rw [O0];go_wp2_with fail
 refine H2.out.mono ?_;rintro e w2 ⟨rfl,S2,f2⟩;go_wp2_with fail
 rw [O0];go_wp2;go_ret;exact⟨rfl,S2,Fr.trans (f1.mono fun _ _ hk=>hk.1) (f2.mono fun _ _ hk=>hk.1)⟩
theorem NI(h:lY B z0 z1 w s lk bm O N bx T X P ph ord) (hl:ord.length<=100000):
 H_ 11 #[Q_ s] w fun e w'=>∃v,e=.returned v/\Own (ak .i64) 3 w.heap.size w' v ord/\ae w w':=by
 obtain⟨tv,ov,hb,ht,ho,_⟩:=h.ai;have c3:=hb.k3
 go_enter func11,ntmps11
 go_wp2_with fail
 refine(po ov ord w ho.rd hl).mono ?_;rintro e w1 ⟨v,rfl,hv,n1⟩;go_wp2;go_ret;exact⟨v,rfl,hv,n1⟩
end
structure SvO where
 A:Option Addr
 n:Nat
 c:Nat
abbrev SvO.val (x:SvO):Value:=X_ x.A x.n x.c
def Yb:cr SvO:=cr.Li (fun x=>.slice x.A x.n x.c) fun _=>rfl
theorem Wc:(prog.info? 23).map (fun i=>(i.zero,i.size,i.bytes))=some (some (.slice none 0 0),1,24):=K_
section
variable{B z0 z1:Nat}{w w':World}{bx:Value}{s lk bm:Nat}{O:List Int}{N:Int}{T X P ph:Nat->Nat}{ord:List Int}
theorem F8(h:lY B z0 z1 w s lk bm O N bx T X P ph ord) (h0:2<=ph 0) (h1:2<=ph 1):
 H_ 24 #[Q_ s] w fun e w'=>∃(v:Value) (x y:SvO),e=.returned v/\Own Yb 23 w.heap.size w' v [x,y]/\Own (ak .u8) 5 w.heap.size w' x.val (fq 97)/\ae w w':=by
 obtain⟨tv,ov,hb,ht,ho,_⟩:=h.ai;obtain⟨A,c,rfl,hc⟩:=ht.form;obtain⟨g,rfl⟩:=ht.some_ S_;obtain⟨atG,v0,k0,Pj,UT,atH⟩:=(h.ss 0 O_).p2 h0;obtain⟨atI,v1,k1,fV,fE,atJ⟩:=(h.ss 1 O_).p2 h1;have r0:L_ w g 0 (Q_ (T 0)):=ht.dG (k:=0) (x:=T 0) rfl (j:=0) rfl;have c2:L_ w s 2 (X_ (M_ g) 2 c):=hb.cell 2;obtain⟨i0,gn,dw,cE,dy⟩:=wF Wc;have db:=Own.nil Yb 23 w.heap.size w;obtain⟨L0,hL0⟩:∃L,fq (yOf 0)=L:=⟨_,rfl⟩;obtain⟨L1,hL1⟩:∃L,fq (yOf 1)=L:=⟨_,rfl⟩;have e0:fq 97=L0:=hL0;rw [e0];have l0:L0.length<=100000:=by rw [<-hL0];decide
 have l1:L1.length<=100000:=by rw [<-hL1];decide
 rw [hL0]at Pj;rw [hL1]at fV;have H0:=ac5 (Dx L0 k0 Pj.rd l0);have HO1:=ac5 fV;clear hL0 hL1 e0 Pj fV
 go_enter func24,ntmps24
 go_wp2_with fail
 refine jD 3 ?_;rw [O0];go_wp2_with fail
 refine H0.out.mono ?_;rintro e w1 ⟨o0,rfl,hoo,n1⟩;obtain⟨oA,oc,rfl,hoc⟩:=hoo.form;have n2:=(ae.refl w1).alloc (G_ #[X_ oA L0.length oc] 23);have ez:Rd Yb (W_ w1 #[X_ oA L0.length oc] 23) (X_ (M_ w1) 1 1) [⟨oA,L0.length,oc⟩]:=jI (E:=Yb) (x:=⟨oA,L0.length,oc⟩) (t:=23) (af.new _ _ _);have Qc:=db.new (n1.trans n2);have af2:=hoo.new n2;have s1:=(n1.trans n2).size;go_wp2_with (at_builtin;refine aZ (E:=Yb) rfl _ _ _ rfl underlying22 gn dw cE dy rfl Qc rfl ez rfl (by unfold maxLen;simp) S_ s1 ?_;intro v3 w3 iL gP o_;have n3:ae w w3:=Fr.trans (n1.trans n2) (gP.mono fun _ _ h=>by cases h);have af3:=af2.fr gP (fun _ _ h=>by cases h);have r1:L_ w3 g 1 (Q_ (T 1)):=(ht.new n3).dG (k:=1) (x:=T 1) rfl (j:=0) rfl;obtain⟨A3,C3,rfl,_⟩:=iL.form)
 rw [Qv]at iL;have Rk:=ac5 af3;have rJ:=ac5 iL;have N3:=ac5 n3;have oH:=n3.ai k1;clear af3 iL gP o_ af2 Qc ez n1 n2 hoo;rw [O0];go_wp2_with fail
 refine(Dx L1 oH (HO1.out.new N3.out).rd l1).mono ?_;rintro e w4 ⟨o1,rfl,hp,n4⟩;obtain⟨pA,pc,rfl,Rf⟩:=hp.form;have n5:=(ae.refl w4).alloc (G_ #[X_ pA L1.length pc] 23);have ez:Rd Yb (W_ w4 #[X_ pA L1.length pc] 23) (X_ (M_ w4) 1 1) [⟨pA,L1.length,pc⟩]:=jI (E:=Yb) (x:=⟨pA,L1.length,pc⟩) (t:=23) (af.new _ _ _);have oV:=rJ.out.new (n4.trans n5);have kW:=Rk.out.new (n4.trans n5);have n05:=N3.out.trans (n4.trans n5);go_wp2_with (at_builtin;refine aZ (E:=Yb) rfl _ _ _ rfl underlying22 gn dw cE dy rfl oV rfl ez rfl (by unfold maxLen;simp) S_ n05.size ?_;intro v6 w6 Ob KJ Vi;have n6:=ae.append n05 oV KJ;have Ew:=kW.fr KJ (fun q hq hk=>by obtain⟨cs,cK⟩:=kW.heap hq;obtain⟨kL,lW⟩:=oV.heap hk;exact cK.aU lW D_ rfl);obtain⟨A6,C6,rfl,_⟩:=Ob.form)
 rw [O0];go_wp2;go_ret;exact⟨_,⟨oA,L0.length,oc⟩,⟨pA,L1.length,pc⟩,rfl,Ob,Ew,n6⟩
end
end Go.Proofs.YtliimglbbiebiaaGreatDoor
