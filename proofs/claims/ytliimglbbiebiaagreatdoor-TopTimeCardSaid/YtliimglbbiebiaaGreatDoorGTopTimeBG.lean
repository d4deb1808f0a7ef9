import Derived.Test.YtliimglbbiebiaaGreatDoorGTopTimeBF
import Derived.Test.YtliimglbbiebiaaGreatDoorGTopTimeBC
set_option maxRecDepth 100000
set_option maxHeartbeats 6400000
set_option linter.all false
namespace Go.Proofs.YtliimglbbiebiaaGreatDoor
open Go.Proofs.Tryz Go.RowKit Go.Maps
theorem cn.back {w w1 w2:World}{base:Nat}{S:Sx}{Q:Qs}{M:List bU}{n t f:Int}(h:cn w1 base w2 S Q M n t f) (hn:ae w w1):cn w base w2 S Q M n t f:=
 {h with
  lo:=fun k hk=>gy hn.size (h.lo k hk)
  new:=hn.trans h.new}
theorem cn.b0 {w w1:World}{base:Nat}{S:Sx}{Q:Qs}{M:List bU}{n t f:Int}(h:cn w base w1 S Q M n t f):w.heap.size<=base:=by
 obtain⟨X,_,hX⟩:=h.tK;have h1:=h.lo _ (.inl hX.Xe);have h2:=hX.Xe.2;have h3:=h.hi;omega
theorem Al(l:List Nat):∀k,k<=l.length->sumN k (fun j=>(l[j]?).getD 0)=(l.take k).sum
 |0,_=>by simp [sumN]
 |k+1,hk=>by
  have hx:l[k]? =some l[k]:=DW O_;unfold sumN;rw [Al l k O_,xO hx]
  show _+(l[k]?).getD 0=_
  rw [hx];rfl
def Ya(T X P:Nat->Nat) (V:Nat->Value) (j b:Nat):Prop:=b=T j\/b=X j\/b=P j\/(V j).ownBlock=some b
def VT(L:List xX) (j:Nat):List UInt8:=(L[j]?.map fun x=>x.l).getD []
structure NwI(w0:World) (base z N lk bm:Nat) (W:World) (S:Sx) (s k:Nat) (tv:Value) (bd:Int) (T X P:Nat->Nat) (V:Nat->Value) (L:List xX):Prop where
 st:cn w0 base W S Qs.none [] 1 0 1
 kK:gu W lk bm (List.replicate (4+(N:Int)).toNat (-1)) 0
 jk:af W s 73 #[Q_ S.s,Q_ lk,tv,Z_,I_ bd]
 tk:Own Gq 74 base W tv ((List.range k).map T)
 ts:∀j,j<k->gO W (T j) false vW ⟨#[]⟩ Z_ (X j) (P j) lk 3 N Z_ Z_
 ss:∀j,j<k->mV W (X j) (Q_ S.s) j none false
 sp:∀j,j<k->yi W (P j) (V j)
 ov:∀j,j<k->Own (ak .u8) 5 base W (V j) (nums (VT L j))
 ap:∀i,i<k->∀j,j<k->i≠j->∀b,Ya T X P V i b->¬Ya T X P V j b
 lo:∀j,j<k->∀b,Ya T X P V j b->z<=b/\b<W.heap.size
 ft:∀k,S.aB Qs.none k->k<z
 zb:base<=z
 zs:z<=s/\z<=lk/\z<=bm
 n3:S.T.n=3/\S.cap=30
section
variable{w0 W W':World}{base z N lk bm:Nat}{S:Sx}{s k:Nat}{tv:Value}{bd:Int}{T X P:Nat->Nat}{V:Nat->Value}{L:List xX}
theorem NwI.push (h:NwI w0 base z N lk bm W S s k tv bd T X P V L) {w1 w2 w3 w4:World}{t x sp:Nat}{v VU:Value}(n1:ae W w1) (ht:W.heap.size<=t) (hx:W.heap.size<=x) (lM:W.heap.size<=sp)
 (t1:gO w1 t false vW ⟨#[]⟩ Z_ x sp lk 3 N Z_ Z_) (x1:mV w1 x (Q_ S.s) k none false) (p1:yi w1 sp Z_)
 (o2:One sp w1 w2) (p2:yi w2 sp v) (v2:Own (ak .u8) 5 w1.heap.size w2 v (nums (VT L k)))
 (n3:ae w2 w3) (f4:Fr (fun b=>tv.ownBlock=some b) w3 w4) (tv4:Own Gq 74 base w4 VU ((List.range k).map T++[t])):
 NwI w0 base z N lk bm (w4.setCell (C_ s 2) VU) S s (k+1) VU bd (fun j=>if j=k then t else T j) (fun j=>if j=k then x else X j) (fun j=>if j=k then sp else P j) (fun j=>if j=k then v else V j) L:=by
 have ti:=h.st.b0;have hzb:=h.zb;have z1:=n1.size;have z2:=o2.size;have z3:=n3.size;have z4:=f4.size;have n2:=ae.one n1 o2 lM;have n23:ae W w3:=n2.trans n3;have s3:=n23.ai h.jk;have f34:Fr (fun b=>tv.ownBlock=some b\/b=s) w3 (w4.setCell (C_ s 2) VU):=Fr.trans (f4.mono fun _ _ e=>.inl e) (((One.refl s w4).set 2 VU).mono fun _ _ e=>.inr e);have NW:(w4.setCell (C_ s 2) VU).heap.size=w4.heap.size:=by simp [World.setCell]
 have aaT:=h.tk.new n23
 have db:∀{b:Nat}{ty:TypeId}{cs:Array Value},af w3 b ty cs->ty≠74->ty≠73->¬(tv.ownBlock=some b\/b=s):=fun{b ty cs} hb t1 t2 e=>by
  rcases e with e|e
  ·exact aaT.ar hb (iX t1) e
  ·exact hb.aU s3 t2 e
 have eQ:∀{B:Nat}{u:Value}{l:List Int},Own (ak .u8) 5 B w3 u l->Own (ak .u8) 5 B (w4.setCell (C_ s 2) VU) u l:=fun hu=>hu.fr f34 fun g hg=>by
  obtain⟨cs,hc⟩:=hu.heap hg;exact db hc D_ D_
 have alA:∀b,tv.ownBlock=some b->base<=b/\b<W.heap.size:=fun b hb=>h.tk.block hb
 have aaU:∀b,Ya (fun j=>if j=k then t else T j) (fun j=>if j=k then x else X j) (fun j=>if j=k then sp else P j) (fun j=>if j=k then v else V j) k b->W.heap.size<=b/\b<w4.heap.size:=fun b hb=>by
  unfold Ya at hb;simp only [if_true]at hb;have l1:=t1.lt;have l2:=x1.lt;have l3:=p1.lt;rcases hb with rfl|rfl|rfl|hb
  ·exact⟨ht,O_⟩
  ·exact⟨hx,O_⟩
  ·exact⟨lM,O_⟩
  ·have:=v2.block hb;exact⟨O_,O_⟩
 have SF:∀j,j≠k->∀b,Ya (fun j=>if j=k then t else T j) (fun j=>if j=k then x else X j) (fun j=>if j=k then sp else P j) (fun j=>if j=k then v else V j) j b->Ya T X P V j b:=fun j hj b hb=>by
  unfold Ya at hb⊢;simp only [if_neg hj]at hb;exact hb
 have mv:∀b,S.aB Qs.none b->¬(tv.ownBlock=some b\/b=s):=fun b hb e=>by
  have h1:=h.ft b hb;rcases e with e|e
  ·obtain⟨cs,hc⟩:=h.tk.heap e;exact h.st.aX hc (h.tk.block e).1 D_ D_ D_ D_ D_ D_ hb
  ·have:=h.zs.1;omega
 have alB:=(h.st.more n23).du f34 mv (fun u l hu b hb hr=>by
  obtain⟨cs,hc⟩:=hu.heap hb;exact db hc D_ D_ hr) fun b hb=>by
  rcases hb with hb|hb
  ·have:=(alA b hb).1;omega
  ·have:=h.zs.1;omega
 obtain⟨ml,gE,_⟩:=(h.kK.new n23).map
 have afN:=(h.kK.new n23).fr f34 (db (h.kK.new n23).ai D_ D_) fun e=>by
  rcases e with e|e
  ·obtain⟨cs,hc⟩:=aaT.heap e;exact gE.aD hc rfl
  ·exact gE.aD s3 e
 have s4:=f4.ai s3 fun e=>aaT.ar s3 D_ e;have KN:=h.st.hb;refine⟨alB,afN,s4.al 2 VU,?_,fun j hj=>?_,fun j hj=>?_,fun j hj=>?_,fun j hj=>?_,fun i hi j hj G9 b gN eP=>?_,fun j hj b hb=>?_,h.ft,h.zb,h.zs,h.n3⟩
 ·have e:(List.range (k+1)).map (fun j=>if j=k then t else T j)=(List.range k).map T++[t]:=by
   rw [List.range_succ,ta]
   congr 1
   ·refine eR fun j hj=>?_;have:=List.mem_range.1 hj;rw [if_neg O_]
   ·simp
  rw [e];exact tv4.fr ((One.refl s w4).set 2 VU) fun g hg e=>tv4.ar s4 D_ (by have e:=e;rw [<-e];exact hg)
 ·by_cases e:j=k
  ·subst e;simp only [if_true];have t3:=n3.ai (o2.ai t1 (t1.aU p1 D_));exact f34.ai t3 (db t3 D_ D_)
  ·simp only [if_neg e];have t3:=n23.ai (h.ts j O_);exact f34.ai t3 (db t3 D_ D_)
 ·by_cases e:j=k
  ·subst e;simp only [if_true];have t3:=n3.ai (o2.ai x1 (x1.aU p1 D_));exact f34.ai t3 (db t3 D_ D_)
  ·simp only [if_neg e];have t3:=n23.ai (h.ss j O_);exact f34.ai t3 (db t3 D_ D_)
 ·by_cases e:j=k
  ·subst e;simp only [if_true];have t3:=n3.ai p2;exact f34.ai t3 (db t3 D_ D_)
  ·simp only [if_neg e];have t3:=n23.ai (h.sp j O_);exact f34.ai t3 (db t3 D_ D_)
 ·by_cases e:j=k
  ·subst e;simp only [if_true];exact(eQ (v2.new n3)).mono O_
  ·simp only [if_neg e];exact eQ ((h.ov j O_).new n23)
 ·by_cases e1:i=k
  ·subst e1;have e2:j≠i:=fun e=>G9 e.symm;have:=(h.lo j O_ b (SF j e2 b eP)).2;have:=(aaU b gN).1;omega
  ·by_cases e2:j=k
   ·subst e2;have:=(h.lo i O_ b (SF i e1 b gN)).2;have:=(aaU b eP).1;omega
   ·exact h.ap i O_ j O_ G9 b (SF i e1 b gN) (SF j e2 b eP)
 ·by_cases e:j=k
  ·subst e;have:=aaU b hb;have:=h.kK.lt;have:=h.zs;have:=h.jk.lt;exact⟨O_,O_⟩
  ·have:=h.lo j O_ b (SF j e b hb);exact⟨this.1,O_⟩
def Jw(T P:Nat->Nat) (V:Nat->Value) (L:List xX) (j:Nat):TD:={t:=T j,sp:=P j,bz:=false,c:=vW,ms:=⟨#[]⟩,nd:=Z_,Og:=[],sv:=V j,l:=VT L j,sa:=0,sk:=0,ah:=Z_,fr:=none,out:=Z_,lo:=[]}
theorem Am{j b:Nat}(h:(Jw T P V L j).eX b):b=T j\/b=P j\/(V j).ownBlock=some b:=by
 rcases h with h|h|h|h|h|h|h|h|h
 ·exact .inl h
 ·exact .inr (.inl h)
 ·exact .inr (.inr h)
 all_goals cases h
theorem VV{j:Nat}(h:(L.map fun x=>x.l.length).sum<=4000):(VT L j).length<=4000:=by
 unfold VT
 cases e:L[j]? with
 |none=>simp
 |some x=>exact gy (Cv (Oj (f:=fun x:xX=>x.l.length) (YX e))) h
theorem VY(hL:L.length=N):sumN N (fun j=>(Jw T P V L j).FM)=(L.map fun x=>x.l.length).sum:=by
 have h1:=Al (L.map fun x=>x.l.length) N (by rw [D9,hL];exact aA _);rw [Hv (by rw [D9,hL];exact aA _)]at h1;rw [<-h1]
 congr 1
 funext j
 show(((VT L j).length:Int)-0).toNat+0+0=((L.map fun x=>x.l.length)[j]?).getD 0
 rw [OX];unfold VT
 cases L[j]? <;>simp
theorem NwI.done (h:NwI w0 base z N lk bm W S s N tv bd T X P V L) (hN:1<=N/\N<=8) (hL:L.length=N) (aaR:(L.map fun x=>x.l.length).sum<=4000):
 ∃g c D,lE w0 base N 1 lk bm s (Q_ S.s) g c T bd W Z_ [] 0 D/\∀k,u_ N D Z_ k->z<=k:=by
 have ti:=h.st.b0;have hzb:=h.zb;obtain⟨zs1,zs2,zs3⟩:=h.zs
 have lA:∀j,j<N->∀b,(Jw T P V L j).eX b->z<=b/\b<W.heap.size/\∃ty cs,af W b ty cs/\(ty=131\/ty=176\/ty=5):=fun j hj b hb=>by
  have eP:=Am hb
  have fi:=h.lo j hj b (by
   rcases eP with e|e|e
   ·exact .inl e
   ·exact cu (.inl e)
   ·exact dS e)
  refine⟨fi.1,fi.2,?_⟩;rcases eP with e|e|e
  ·exact⟨_,_,e▸h.ts j hj,.inl rfl⟩
  ·exact⟨_,_,e▸h.sp j hj,.inr (.inl rfl)⟩
  ·obtain⟨cs,hc⟩:=(h.ov j hj).heap e;exact⟨_,_,hc,.inr (.inr rfl)⟩
 have mv:∀b,z<=b->¬S.aB Qs.none b:=fun b hb hf=>by have:=h.ft b hf;omega
 have hmn:∀b ty cs,af W b ty cs->ty≠98->∀j,j<N->¬dp (X j) none b:=fun b ty cs hb ht j hj e=>by
  have e:b=X j:=e;exact hb.aU (h.ss j hj) ht e
 obtain⟨ml,gE,_⟩:=h.kK.map;obtain⟨A,c,htv,_⟩:=h.tk.form;have hlen:((List.range N).map T).length=N:=S_
 rw [hlen]at htv;have nI:=h.tk;rw [htv]at nI;obtain⟨g,rfl⟩:=nI.some_ O_;have afO:=h.jk;rw [htv]at afO
 refine⟨g,c,{S:=S,Q:=Qs.none,M:=[],n:=1,t:=0,xs:=X,o:=fun _=>none,dn:=fun _=>false,O:=List.replicate (4+(N:Int)).toNat (-1),L:=0,td:=Jw T P V L,kk:=fun _=>0,q:=0},
  ⟨{
    hs:=⟨fun j hj=>⟨h.st,h.ss j hj,by have:=(h.lo j hj (X j) (.inr (.inl rfl))).1;show base<=X j;omega,by have:=(h.lo j hj (X j) (.inr (.inl rfl))).1;show w0.heap.size<=X j;omega,⟨O_,O_⟩,by simp [Qs.none]⟩,fun i hi j hj G9 b h1 h2=>h.ap i hi j hj G9 b (.inr (.inl h1)) (.inr (.inl h2)),by simp [Qs.none],by simp [Qs.none]⟩
    tk:=fun j hj=>⟨h.ts j hj,⟨⟨_,h.sp j hj⟩,(h.ov j hj).mono ti,⟨gq _,Int.natCast_nonneg _⟩,⟨by show(0:Int)<=0;omega,by show(0:Int)<=4294967295;omega⟩⟩,gy (VV aaR) O_,fun _=>rfl,(fun _ _ _ _ e=>by cases e),Own.nil _ _ _ _,by simp [Jw],by simp [Jw],PCz _ _,Gv _,Own.nil _ _ _ _,(h.ts j hj).aU (h.sp j hj) D_,by have:=(h.lo j hj (T j) (.inl rfl)).1;show w0.heap.size<=T j;omega,by have:=(h.lo j hj (P j) (cu (.inl rfl))).1;show w0.heap.size<=P j;omega⟩
    oa:=fun j hj g hg=>by cases hg
    kK:=h.kK
    pr:=fun j hj b hb=>by
     obtain⟨h1,h2,ty,cs,h3,h4⟩:=lA j hj b hb;refine⟨mv b h1,O_,h2,h3.aU h.kK.ai (by rcases h4 with e|e|e<;>rw [e]<;>decide),fun e=>gE.aD h3 e.symm,hmn b ty cs h3 (by rcases h4 with e|e|e<;>rw [e]<;>decide)⟩
    pl:=fun b hb=>by
     rcases hb with rfl|rfl
     ·exact⟨mv _ zs2,O_,hmn _ _ _ h.kK.ai D_⟩
     ·refine⟨mv _ zs3,O_,fun j hj e=>?_⟩;exact gE.aD (h.ss j hj) e
    ap:=fun i hi j hj G9 b h1 h2=>by
     refine h.ap i hi j hj G9 b ?_ ?_
     ·rcases h1 with e|e|e
      ·exact .inl e
      ·exact cu (.inl e)
      ·cases e
     ·rcases Am h2 with e|e|e
      ·exact .inl e
      ·exact cu (.inl e)
      ·exact dS e
    zo:=fun j hj b hb=>by cases hb
    nn:=by show(1:Int)<=1+((0:Nat):Int);omega
    ph:=by show 2*0+sumN N (fun j=>(Jw T P V L j).FM)<=4000;rw [VY hL];omega
    kl:=fun j hj=>by show 0<=_;omega
    kq:=fun j hj=>by show 0+2*0<=_;omega
    ql:=fun j=>by show 0<=_;omega
    cap:=by show S.cap<=1000;rw [h.n3.2];omega
    n8:=O_
    fb:=by omega},gq _,fun _ _=>rfl,afO,nI,Own.nil _ _ _ _,O_,ti,fun j hj b hb=>⟨?_,fun e=>by cases e⟩⟩,fun b hb=>?_⟩
 ·obtain⟨_,_,ty,cs,h3,h4⟩:=lA j hj b hb;exact h3.aU h.jk (by rcases h4 with e|e|e<;>rw [e]<;>decide)
 ·rcases hb with⟨j,hj,hb⟩|hb
  ·exact(lA j hj b hb).1
  ·cases hb
end
section
variable{w:World}{A:Option Addr}{c:Nat}{L:List xX}
theorem F6(hE:fG w) (h:uD w A c L):
 H_ 8 #[aaQ,X_ A L.length c] w fun e w'=>∃base s lk bm bx g c T bd D,e=.returned (Q_ s)/\lE w base L.length 1 lk bm s bx g c T bd w' Z_ [] 0 D/\(0<=bd/\bd<=30000)/\ae w w':=by
 obtain⟨N,hN⟩:∃N,L.length=N:=⟨_,rfl⟩;have br:=h.n1;rw [hN]at br;have H:=ac5 h;obtain⟨b,off,rfl,hc⟩:=h.cell;have HC:=ac5 hc;have HN:=ac5 hN;have X9:Hid (∀k,k<N->∃x,L[k]? =some x):=ac5 fun k hk=>⟨_,DW O_⟩
 have HB:Hid (∀W,ae w W->H_ 28 #[aaQ,X_ (some ⟨b,off,none⟩) N c] W fun e W'=>∃n:Nat,e=.returned (I_ n)/\n<=30000/\ae W W'):=ac5 fun W hW=>by
  have:=NF hE hW (h.new hW);rw [hN]at this;exact this
 rw [hN];clear hc h hN
 go_enter func8,ntmps8
 go_wp2_with fail
 refine(mO 3 O_ O_ 30 O_ O_ 1 O_ O_ N O_ O_ _).mono ?_;rintro e w1 ⟨S,base,rfl,fi,iW,px,hS⟩;have HTN:=ac5 (And.intro px iW);clear px iW;go_wp2_with fail
 have m2:ae w1 (W_ w1 #[I_ 3,I_ N] 65):=(ae.refl w1).alloc _;have n1:ae w w1:=((ae.refl w).alloc _).trans hS.new;have c1':=hS.new.ai (af.new w 30 #[I_ 3,I_ 30,U_ 1]);have Jy:=m2.ai c1';have HS:Hid (cn w base _ S Qs.none [] 1 0 1):=ac5 ((hS.back ((ae.refl w).alloc _)).more m2);have g2:=af.new w1 65 #[I_ 3,I_ N];have n2:=n1.trans m2;clear hS c1' fi;generalize(w1.alloc (G_ #[I_ 3,I_ N] 65))=wA at*;generalize w1.heap.size=Lb at*;have a0:=Jy.k0;have a1:=Jy.k1;have a2:=Jy.k2;obtain⟨k0,k1⟩:=g2.dQ;clear m2 n1
 go_region_held3 (fun W=>L_ W w 0 (I_ 3)/\L_ W w 1 (I_ 30)/\L_ W w 2 (U_ 1)/\L_ W Lb 0 (I_ 3)/\L_ W Lb 1 (I_ N)) (first|go_keep|(refine⟨?_,?_,?_,?_,?_⟩<;>assumption)) ((first
  |(go_at_call 27
    refine(gm 3 N O_ O_ O_ O_ _).mono ?_;rintro e wC ⟨rfl,mC⟩;have nC:ae wA wC:=Fr.trans A_ mC;have cC:=nC.ai Jy;have gC:=nC.ai g2;have p0:=cC.k0;have p1:=cC.k1;have p2:=cC.k2;have q0:=gC.k0;have q1:=gC.k1)
  |(go_at_call 26
    refine(D7 (4+(N:Int)) O_ O_ _).mono ?_;rintro e wL ⟨lk,bm,rfl,hL,pQ,pM,mL⟩;have mL0:=mL.size;have nL:ae wA wL:=Fr.trans A_ mL;have cL:=nL.ai Jy;have gL:=nL.ai g2;have r0:=cL.k0;have r1:=cL.k1;have r2:=cL.k2;have s0:=gL.k0;have s1:=gL.k1)
  |(go_at_call 28
    refine(HB.out _ (n2.trans A_)).mono ?_;rintro e wB ⟨bd,rfl,Ke,mB⟩;have nB:ae wA wB:=Fr.trans A_ mB;have cB:=nB.ai Jy;have gB:=nB.ai g2;have t0:=cB.k0;have t1:=cB.k1;have t2:=cB.k2;have u0:=gB.k0;have u1:=gB.k1)
  |fail))
 obtain⟨wS,hwS⟩:∃W,wB.alloc (G_ #[Q_ S.s,Q_ lk,Z_,Z_,I_ bd] 73)=W:=⟨_,rfl⟩;obtain⟨s,hs⟩:∃s,wB.heap.size=s:=⟨_,rfl⟩;have nS:ae wA wS:=hwS▸nB.alloc _
 have eE:wA.heap.size<=s/\wA.heap.size<=lk/\wA.heap.size<=bm:=by
  have z3:=nB.size;have z4:=nC.size;omega
 have F0:NwI w base wA.heap.size N lk bm wS S s 0 Z_ bd (fun _=>0) (fun _=>0) (fun _=>0) (fun _=>.slice none 0 0) L:=
  {st:=HS.out.more nS
   kK:=hL.new (hwS▸mB.alloc _)
   jk:=by rw [<-hwS,<-hs];exact af.new _ _ _
   tk:=Own.nil _ _ _ _
   ts:=fun j hj=>O_
   ss:=fun j hj=>O_
   sp:=fun j hj=>O_
   ov:=fun j hj=>O_
   ap:=fun i hi=>O_
   lo:=fun j hj=>O_
   ft:=fun k hk=>HS.out.fI hk
   zb:=HS.out.hb
   zs:=eE
   n3:=HTN.out}
 have Xo:=ac5 F0;have HW:=ac5 (n2.trans nS);rw [hs];clear nS hL pQ pM mL mL0 mB mC cC gC cL gL cB gB p0 p1 p2 q0 q1 r0 r1 r2 s0 s1 t0 t1 t2 u0 u1 nC nL nB a0 a1 a2 k0 k1 Jy g2 n2 HS F0 eE hs;rw [hwS];clear hwS;obtain⟨i0,gn,hy0,gM,sj⟩:=wF K8;go_wp2_with fail
 go_loopw [33] (fun vi wr=>∃(k:Nat) (tv:Value) (T X P:Nat->Nat) (V:Nat->Value),k<=N/\vi=I_ k/\Hid (NwI w base wA.heap.size N lk bm wr S s k tv bd T X P V L)) (fun vi _=>N-(intOf vi).toNat)
 case atStart=>exact⟨0,_,_,_,_,_,Gv _,rfl,Xo⟩
 case round=>
  obtain⟨k,tv,T,X,P,V,hk,rfl,HI⟩:=hrel;have Ge:=HI.out.st.new;by_cases bJ:k<N
  ·obtain⟨x,hx⟩:=X9.out k bJ;have zK:=YX hx;have Kn:=H.out.len zK;have r0:=Fr.cell Ge (HC.out k x hx) id;have hlx:VT L k=x.l:=by unfold VT;rw [hx];rfl
   have HLX:=ac5 hlx;have HBY:=ac5 (H.out.eZ x zK);have HXL:=ac5 Kn;obtain⟨xA,xc,xl⟩:=x;dsimp only at r0 HLX HBY HXL;clear hx zK Kn hlx;have k1:=HI.out.jk.k1
   have bT:∀W,ae wr W->H_ 49 #[Q_ S.s] W fun e W'=>e=.returned (I_ 3)/\W'=W:=fun W hW=>by
    have:=lF (HI.out.st.more hW);rw [HTN.out.1]at this;exact this
   have alC:=ac5 (mN (C_ S.s 0) lk 3 N k O_ O_ O_ O_ O_ wr HI.out.kK (by rw [OD];omega) bT);obtain⟨xn,To⟩:∃n,xl.length=n:=⟨_,rfl⟩;have HXN:=ac5 To;rw [To]at r0;clear bT To;go_wp2_with fail
   refine alC.out.mono ?_;rintro e w1 ⟨t,x,sp,rfl,n1,ht,hx,lM,_,t1,x1,p1⟩
   have hu:Rd (ak .u8) w1 (X_ xA xn xc) (nums xl):=by
    have:=HBY.out.new (Ge.trans n1);rw [HXN.out]at this;exact this
   have U2:=ac5 (sd t1 p1 _ _ hu (by rw [aW];have:=HXL.out;omega));have WN:=ac5 (And.intro n1 (And.intro ht (And.intro hx (And.intro lM (And.intro t1 (And.intro x1 p1))))));have s1:=n1.ai HI.out.jk;have alD:=s1.aU p1 D_;clear hu n1 ht hx lM t1 x1 p1 r0 k1;go_wp2_with fail
   refine U2.out.mono ?_;rintro e w2 ⟨rfl,o2,v,p2,v2⟩;have s2:=o2.ai s1 alD;obtain⟨tA,tC,htv,_⟩:=HI.out.tk.form;have hlen:((List.range k).map T).length=k:=S_
   rw [hlen]at htv;subst htv;have c2:=s2.k2;have n2:=ae.one WN.out.1 o2 WN.out.2.2.2.1;have fg:=(HI.out.tk.new n2).alloc (G_ #[Q_ t] 74);have ez:Rd Gq (W_ w2 #[Q_ t] 74) (X_ (M_ w2) 1 1) [t]:=jI (E:=Gq) (x:=t) (t:=74) (af.new _ _ _)
   have dH:base<=(w2.alloc (G_ #[Q_ t] 74)).heap.size:=by
    have:=n2.size;have:=HI.out.st.hb;rw [gz];omega
   have jy:=s2.alloc (G_ #[Q_ t] 74);have HO:=ac5 (And.intro o2 (And.intro p2 v2));clear o2 p2 v2 s1;go_wp2_with (at_builtin;refine aZ (E:=Gq) rfl _ _ _ rfl underlying71 gn hy0 gM sj rfl fg rfl ez rfl (by unfold maxLen;simp;omega) P_ dH ?_;intro tv4 w4 lq fL Db;have s4:=fL.ai jy (fun h=>fg.ar jy D_ h);have e4:=s4.k2;have f4:=s4.frozen 2;obtain⟨A4,C4,rfl,_⟩:=lq.form;rw [show((List.range k).map T++[t]).length=k+1 from by simp]at lq)
   go_roundw
   case rel=>
    obtain⟨n1,ht,hx,lM,t1,x1,p1⟩:=WN.out;obtain⟨o2,p2,v2⟩:=HO.out;exact⟨k+1,_,_,_,_,_,O_,by go_num,ac5 (HI.out.push n1 ht hx lM t1 x1 p1 o2 p2 (by rw [HLX.out];exact v2) ((ae.refl w2).alloc _) fL lq)⟩
   case measure=>simp [intOf];omega
  ·obtain rfl:k=N:=O_
   go_wp2;go_ret;obtain⟨g,c',D,h1,_⟩:=HI.out.done br HN.out H.out.tot;exact⟨base,s,lk,bm,_,g,c',T,(bd:Int),D,rfl,h1,O_,Ge⟩
end
theorem SL{w:World}{A At:Option Addr}{c nt ct:Nat}{L:List xX}(h:Rd NC w (X_ A L.length c) L) (hb:∀x∈L,Rd (ak .u8) w (X_ x.A x.l.length x.c) (nums x.l)) (hm:∀x∈L,x.l.length<=9223372036854775807) (hL:L.length<=9223372036854775807) (hnt:nt<=9223372036854775807):
 H_ 6 #[X_ A L.length c,X_ At nt ct] w fun e w'=>afR w A c L nt e/\w'=w:=by
 have H:=ac5 (V0 (At:=At) (ct:=ct) h hb hm hL hnt);clear h hb hm
 go_enter func6,ntmps6
 go_wp2_with fail
 refine H.out.mono ?_;rintro e w1 ⟨⟨b,rfl,hr⟩,rfl⟩;have HR:=ac5 hr;clear hr;go_wp2;go_ret;exact⟨⟨b,rfl,HR.out⟩,rfl⟩
structure TC(w0:World) (base N:Nat) (lk bm s:Nat) (bx:Value) (g c:Nat) (T:Nat->Nat) (bd:Int) (B:Nat) (vs vi:Value) (ids:List Int) (k:Nat) (W:World) (ov:Value) (ord:List Int) (D:SD):Prop where
 jk:lE w0 base N 1 lk bm s bx g c T bd W ov ord k D
 len:ord.length<=k
 seen:Own (ak .i64) 3 B W vs ord
 ids:Own (ak .i64) 3 B W vi ids
 bB:base<=B
 ns:∀b,vs.ownBlock=some b->¬u_ N D ov b
 ni:∀b,vi.ownBlock=some b->¬u_ N D ov b
 new:ae w0 W
 bw:B<=W.heap.size
section
variable{w0:World}{base N:Nat}{lk bm s:Nat}{bx:Value}{g c:Nat}{T:Nat->Nat}{bd:Int}{B:Nat}{vs vi:Value}{ids:List Int}{k:Nat}{W:World}{ov:Value}{ord:List Int}{D:SD}
theorem TC.pick (h:TC w0 base N lk bm s bx g c T bd B vs vi ids k W ov ord D) {W1 W2:World}(n1:ae W W1) {i:Int}{e:Ending}(hp:K9 w0 base N 1 lk bm s bx g c T bd W1 ov ord k D i e W2):
 ∃lT dv D',lE w0 base N 1 lk bm s bx g c T bd W2 lT dv (k+1) D'/\(dv=ord\/dv=ord++[i])/\Own (ak .i64) 3 B W2 vs ord/\Own (ak .i64) 3 B W2 vi ids/\(∀b,vi.ownBlock=some b->¬u_ N D' lT b)/\(∀b,u_ N D' lT b->b<W2.heap.size)/\ae w0 W2/\B<=W2.heap.size:=by
 obtain⟨b,lT,dv,L',D',rfl,hs,hL,ho,hf,hq,hV,hB⟩:=hp;have h1:=h.jk.new n1;have eE:=n1.size
 have db:∀{v:Value}{l:List Int},Own (ak .i64) 3 B W v l->(∀b,v.ownBlock=some b->¬u_ N D ov b)->∀b,v.ownBlock=some b->¬Up w0 base bm D.S.q s ov W1 b:=fun{v l} hv hn b hb=>by
  have fE:=hv.new n1;obtain⟨cs,hc⟩:=fE.heap hb;exact h1.du hc (gy h.bB (fE.block hb).1) (.inl rfl) (hn b hb)
 refine⟨lT,dv,D',{hs with ll:=by have:=hs.ll;rw [hL]at this;split at this<;>omega},ho.imp id fun h=>h.2,(h.seen.new n1).fr hf (db h.seen h.ns),(h.ids.new n1).fr hf (db h.ids h.ni),fun b hb hk=>?_,fun b hb=>?_,?_,by have:=hf.size;have:=h.bw;omega⟩
 ·rcases hB b hk with h2|h2
  ·exact h.ni b hb h2
  ·have:=(h.ids.block hb).2;omega
 ·rcases hb with⟨j,hj,hb⟩|hb
  ·exact(hs.ok.pr j hj b hb).2.2.1
  ·exact(hs.od.block hb).2
 ·refine ae.two (h.new.trans n1) hf fun b hb=>?_;have ti:=h.jk.b0;rcases hb with hb|rfl|hb
  ·exact hb.1
  ·have:=h.jk.bs;omega
  ·have:=(h.jk.od.block hb).1;omega
theorem TC.fin (h:TC w0 base N lk bm s bx g c T bd B vs vi ids k W ov ord D) {W2:World}(hf:Fr (Up w0 base bm D.S.q s ov W) W W2):Own (ak .i64) 3 B W2 vs ord/\ae w0 W2:=by
 have ti:=h.jk.b0;refine⟨h.seen.fr hf fun b hb=>?_,ae.two h.new hf fun b hb=>?_⟩
 ·obtain⟨cs,hc⟩:=h.seen.heap hb;exact h.jk.du hc (gy h.bB (h.seen.block hb).1) (.inl rfl) (h.ns b hb)
 ·rcases hb with hb|rfl|hb
  ·exact hb.1
  ·have:=h.jk.bs;omega
  ·have:=(h.jk.od.block hb).1;omega
theorem TC.next {W2 W3 W4:World}{lT:Value}{dv:List Int}{D':SD}{v:Value}(sv:lE w0 base N 1 lk bm s bx g c T bd W2 lT dv ((k:Int)+1) D') (hl:dv.length<=k+1) (hi:Own (ak .i64) 3 B W2 vi ids) (IS:∀b,vi.ownBlock=some b->¬u_ N D' lT b) (bJ:∀b,u_ N D' lT b->b<W2.heap.size) (n2:ae w0 W2) (hB:B<=W2.heap.size) (hbB:base<=B)
 (n3:ae W2 W3) (hv:Own (ak .i64) 3 W2.heap.size W3 v dv) (n4:ae W3 W4):TC w0 base N lk bm s bx g c T bd B v vi ids (k+1) W4 lT dv D' where
 jk:=by have:=sv.new (n3.trans n4);push_cast;exact this
 len:=hl
 seen:=(hv.mono hB).new n4
 ids:=hi.new (n3.trans n4)
 bB:=hbB
 ns:=fun b hb hk=>by have:=(hv.block hb).1;have:=bJ b hk;omega
 ni:=IS
 new:=n2.trans (n3.trans n4)
 bw:=by have:=n3.size;have:=n4.size;omega
end
theorem SM(A At:Option Addr) (c ct:Nat) (L:List xX) (tl:List UInt8) (w:World) (hE:fG w) (h:Rd NC w (X_ A L.length c) L) (hb:∀x∈L,Rd (ak .u8) w (X_ x.A x.l.length x.c) (nums x.l)) (hm:∀x∈L,x.l.length<=9223372036854775807) (hL:L.length<=9223372036854775807)
 (ht:Rd (ak .u8) w (X_ At tl.length ct) (nums tl)) (hnt:tl.length<=9223372036854775807):
 H_ 3 #[X_ A L.length c,X_ At tl.length ct] w fun e w'=>e=.returned (R_ true)/\ae w w':=by
 have HF:=ac5 (SL (At:=At) (ct:=ct) h hb hm hL hnt);have HT:=ac5 ht;have HE:=ac5 hE;clear h hb hm ht hE
 go_enter func3,ntmps3
 go_wp2_with fail
 refine HF.out.mono ?_;rintro e w1 ⟨⟨b,rfl,hq⟩,rfl⟩;have HQ:=ac5 hq;clear hq HF
 cases b
 ·have HW:=ac5 (Ao w1 HE.out.t);go_wp2_with fail
  refine HW.out.mono ?_;rintro e w2 ⟨rfl,n2⟩;go_wp2;go_ret;exact⟨rfl,n2⟩
 obtain⟨bT,ht3⟩:uD w1 A c L/\tl.length<=300:=HQ.out (by first|rfl|trivial);have HS:=ac5 (F6 HE.out bT);have hN8:=bT.n1;have HPI:=ac5 (fun w2 (n2:ae w1 w2)=>NG (w:=w2) tl (HT.out.new n2) ht3 L.length hN8.2);obtain⟨N,hN⟩:∃N,L.length=N:=⟨_,rfl⟩;rw [hN]at HS HPI hN8⊢;clear bT HQ hL hN;go_wp2_with fail
 refine HS.out.mono ?_;rintro e w2 ⟨base,s,lk,bm,bx,g,cc,T,bd,D,rfl,xW,Ke,n2⟩;have HSV:=ac5 xW;have af5:=ac5 (HPI.out w2 n2);have N2:=ac5 n2;clear xW HPI HS n2;go_wp2_with fail
 refine af5.out.mono ?_;rintro e w3 ⟨A4,C4,ids,rfl,Wd,NR,oR,n3⟩;obtain⟨M,hM⟩:∃M,ids.length=M:=⟨_,rfl⟩;rw [hM]at Wd NR⊢;have HM:=ac5 hM;have HIB:=ac5 oR
 have H0:Hid (TC w1 base N lk bm s bx g cc T bd w2.heap.size Z_ (X_ A4 M C4) ids 0 w3 Z_ [] D):=ac5 {
  jk:=HSV.out.new n3
  len:=Gv _
  seen:=Own.nil _ _ _ _
  ids:=Wd
  bB:=(HSV.out.ok.hs.so 0 HSV.out.ok.n8.1).st.hb
  ns:=fun b hb=>by cases hb
  ni:=fun b hb hk=>by
   have h1:=(Wd.block hb).1;rcases hk with⟨j,hj,hk⟩|hk
   ·have:=(HSV.out.ok.pr j hj b hk).2.2.1;omega
   ·cases hk
  new:=N2.out.trans n3
  bw:=n3.size}
 clear Wd oR n3 hM af5;go_wp2_with fail
 go_loopw [6,26] (fun vo vi wr=>∃(k:Nat) (A6:Option Addr) (n6 C6:Nat) (ov:Value) (ord:List Int) (D:SD),k<=M/\vi=I_ k/\vo=X_ A6 n6 C6/\n6<=300/\Hid (ord.length=n6)/\Hid (TC w1 base N lk bm s bx g cc T bd w2.heap.size (X_ A6 n6 C6) (X_ A4 M C4) ids k wr ov ord D)) (fun _ vi _=>M-(intOf vi).toNat)
 case atStart=>exact⟨0,none,0,0,_,[],D,Gv _,rfl,rfl,O_,ac5 rfl,H0⟩
 case round=>
  clear H0 HSV;obtain⟨k,A6,n6,C6,ov,ord,D,hk,rfl,rfl,hn6,Le,HI⟩:=hrel;by_cases bJ:k<M
  ·obtain⟨x,hx⟩:∃x,ids[k]? =some x:=⟨_,DW (by rw [HM.out];exact bJ)⟩;obtain⟨xS,jF⟩:=HIB.out x (YX hx);obtain⟨i,rfl⟩:∃i:Nat,x=i:=⟨x.toNat,O_⟩;obtain⟨gb,rfl⟩:=HI.out.ids.some_ O_
   have r0:L_ wr gb k (I_ i):=by
    have:=HI.out.ids.dG hx (j:=0) (u:=I_ i) rfl;simpa [ak]using this
   have n1:ae wr (wr.alloc (G_ #[I_ i] 3)):=(ae.refl wr).alloc _;have yw:=ac5 (NB HE.out (HI.out.jk.new n1) i O_ O_ (by have:=HI.out.len;omega) wr.heap.size 1 (af.new _ _ _));clear hx xS jF;go_wp2_with fail
   refine yw.out.mono ?_;rintro e w4 ⟨⟨v4,rfl⟩,e',hp⟩;obtain⟨lT,dv,D',s4,ho,qC,hi4,IS,NJ,n4,hB4⟩:=HI.out.pick n1 hp
   have tY:dv.length<=k+1:=by
    have:=HI.out.len;rcases ho with rfl|rfl
    ·omega
    ·simp;omega
   have HOR:=ac5 (xL s4 O_);have H4:=ac5 (And.intro s4 (And.intro qC (And.intro hi4 (And.intro IS (And.intro NJ (And.intro n4 (And.intro hB4 tY)))))));clear hp s4 qC hi4 IS NJ n4 hB4 r0 n1 yw tY;go_wp2_with fail
   refine HOR.out.mono ?_;rintro e w5 ⟨v5,rfl,oV,n5⟩;obtain⟨A9,C9,rfl,hc9⟩:=oV.form
   have S9:Hid (∀W,ae w5 W->dv.take n6=ord->H_ 12 #[X_ A9 n6 C9,X_ A6 n6 C6] W fun e W'=>e=.returned (R_ true)/\ae W W'):=ac5 fun W hW he=>by
    have h1:=oV.rd.new hW;have h2:=(H4.out.2.1.new (n5.trans hW)).rd
    have hle:n6<=dv.length:=by
     rcases ho with rfl|rfl
     ·rw [Le.out];exact aA _
     ·rw [dr,Le.out];omega
    have h3:=wm _ _ _ _ W (h1.take hle) h2 (by rw [he,Le.out];omega) (by rw [Le.out];omega);rw [he,k_ rfl]at h3;exact h3
   rcases ho with rfl|rfl
   ·rw [Le.out]at hc9 oV⊢;have ED:=ac5 (fun W (hW:ae w5 W)=>S9.out W hW (by rw [<-Le.out,iD]));have HV5:=ac5 oV;clear oV S9;have d1:¬n6+1<n6:=O_
    go_wp2_with fail
    refine(ED.out _ (ae.refl _)).mono ?_;rintro e w6 ⟨rfl,m6⟩;go_wp2_with fail
    go_roundw
    case rel=>
     obtain⟨s4,qC,hi4,IS,NJ,n4,hB4,tY⟩:=H4.out;exact⟨k+1,A9,n6,C9,lT,dv,D',O_,by go_num,rfl,hn6,Le,ac5 (TC.next s4 tY hi4 IS NJ n4 hB4 HI.out.bB n5 HV5.out m6)⟩
    case measure=>simp [intOf];omega
   ·have hle:(ord++[(i:Int)]).length=n6+1:=by rw [dr,Le.out];rfl
    rw [hle]at hc9 oV⊢;have ED:=ac5 (fun W (hW:ae w5 W)=>S9.out W hW (by rw [<-Le.out,List.take_left'];rfl));obtain⟨g9,rfl⟩:=oV.some_ O_
    have r9:L_ w5 g9 n6 (I_ i):=by
     have:=oV.dG (k:=n6) (x:=(i:Int)) (by rw [<-Le.out];simp) (j:=0) (u:=I_ i) rfl;simpa [ak]using this
    have HV5:=ac5 oV;have Tp:=ac5 hle;clear oV S9 hle;have d1:¬n6+1<n6:=O_
    go_wp2_with fail
    refine(ED.out _ (ae.refl _)).mono ?_;rintro e w6 ⟨rfl,m6⟩;have r9:=Fr.cell m6 r9 id;go_wp2_with fail
    go_roundw
    case rel=>
     obtain⟨s4,qC,hi4,IS,NJ,n4,hB4,tY⟩:=H4.out;exact⟨k+1,_,n6+1,C9,lT,_,D',O_,by go_num,rfl,by have:=Tp.out;omega,Tp,ac5 (TC.next s4 tY hi4 IS NJ n4 hB4 HI.out.bB n5 HV5.out m6)⟩
    case measure=>simp [intOf];omega
  ·have hkM:k=M:=O_
   have HFI:=ac5 (FY HE.out HI.out.jk hN8.2 Ke O_ (by have:=HI.out.len;omega));go_wp2_with fail
   refine HFI.out.mono ?_;rintro e w4 ⟨⟨v4,rfl⟩,b2,r,lT,dv,L',D',_,s4,yN,tY,fL,_⟩;obtain⟨qC,n4⟩:=HI.out.fin fL;have Te:dv.length<=100000:=by have:=HI.out.len;omega
   have HOR:=ac5 (xL s4 Te);have H4:=ac5 (And.intro qC (And.intro n4 (And.intro yN Te)));clear qC n4 yN Te tY fL s4 HFI;go_wp2_with fail
   refine HOR.out.mono ?_;rintro e w5 ⟨v5,rfl,oV,n5⟩;obtain⟨A9,C9,rfl,hc9⟩:=oV.form;have hle:n6<=dv.length:=by rw [<-Le.out];exact H4.out.2.2.1.length_le
   have nI:dv.take n6=ord:=by rw [<-Le.out];exact(List.prefix_iff_eq_take.1 H4.out.2.2.1).symm
   obtain⟨n9,hn9⟩:∃n9,dv.length=n9:=⟨_,rfl⟩
   have S9:Hid (∀W,ae w5 W->H_ 12 #[X_ A9 n6 C9,X_ A6 n6 C6] W fun e W'=>e=.returned (R_ true)/\ae W W'):=ac5 fun W hW=>by
    have h1:=oV.rd.new hW;have h2:=(H4.out.1.new (n5.trans hW)).rd;have h3:=wm _ _ _ _ W (h1.take hle) h2 (by rw [nI,Le.out];omega) (by rw [Le.out];omega);rw [nI,k_ rfl]at h3;exact h3
   have HW:=ac5 (Ao w5 (HE.out.t.new (H4.out.2.1.trans n5)));have N5:=ac5 (H4.out.2.1.trans n5);rw [hn9]at hc9 hle⊢;clear oV nI hn9 n5 HOR;have d1:¬n9<n6:=O_
   go_wp2_with (first
    |(go_at_call 7
      refine HW.out.mono ?_;rintro e w6 ⟨rfl,m6⟩)
    |(go_at_call 12
      refine(S9.out _ m6).mono ?_;rintro e w7 ⟨rfl,m7⟩)
    |fail)
   go_ret;exact⟨rfl,N5.out.trans (m6.trans m7)⟩
end Go.Proofs.YtliimglbbiebiaaGreatDoor
