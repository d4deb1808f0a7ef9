import Derived.Test.YtliimglbbiebiaaGreatDoorGTopTimeAY
import Derived.Test.YtliimglbbiebiaaGreatDoorGTopTimeAV
import Derived.Test.YtliimglbbiebiaaGreatDoorGTopTimeAW
set_option maxRecDepth 100000
set_option maxHeartbeats 6400000
set_option linter.all false
namespace Go.Proofs.YtliimglbbiebiaaGreatDoor
open Go.Proofs.Tryz Go.RowKit Go.Maps
def xP(L:List xX) (k:Nat):Nat:=((L.map fun x=>min x.l.length 5000).take k).sum
theorem An{L:List xX}{k:Nat}{x:xX}(h:L[k]? =some x):xP L (k+1)=xP L k+min x.l.length 5000:=xO (by rw [OX,h];rfl)
theorem Lc{L:List xX}:∀k,xP L k<=5000*k
 |0=>by simp [xP]
 |k+1=>by
  have ih:=Lc (L:=L) k
  cases h:L[k]? with
  |none=>
   have:xP L (k+1)=xP L k:=by
    unfold xP;rw [Gz,OX,h];simp
   omega
  |some x=>
   rw [An h];have:=Nat.min_le_right x.l.length 5000;omega
theorem VZ{L:List xX}(h:xP L L.length<=4000):(L.map fun x=>x.l.length).sum<=4000:=by
 unfold xP at h;rw [Hv S_]at h
 have e:L.map (fun x=>x.l.length)=L.map fun x=>min x.l.length 5000:=by
  refine eR fun x hx=>?_;have:=Cv (Oj (f:=fun x:xX=>min x.l.length 5000) hx);have h2:=gy this h;omega
 rw [e];exact h
def afR(w:World) (A:Option Addr) (c:Nat) (L:List xX) (nt:Nat) (e:Ending):Prop:=∃b,e=.returned (R_ b)/\(b=true->uD w A c L/\nt<=300)
section
variable{w:World}{A At:Option Addr}{c nt ct:Nat}{L:List xX}
theorem V0(h:Rd NC w (X_ A L.length c) L) (hb:∀x∈L,Rd (ak .u8) w (X_ x.A x.l.length x.c) (nums x.l)) (hm:∀x∈L,x.l.length<=9223372036854775807) (hL:L.length<=9223372036854775807) (hnt:nt<=9223372036854775807):
 H_ 23 #[X_ A L.length c,X_ At nt ct] w fun e w'=>afR w A c L nt e/\w'=w:=by
 obtain⟨N,hN⟩:∃N,L.length=N:=⟨_,rfl⟩
 have HC:Hid (∀k x,L[k]? =some x->∃b off,A=some ⟨b,off,none⟩/\L_ w b (off+k) (X_ x.A x.l.length x.c)):=ac5 fun k x hx=>by
  obtain⟨A',c',he,_,h2⟩:=h;injection he with e1 _ e2;subst e1 e2;obtain⟨b,off,rfl,h3⟩:=h2 (by intro e;rw [e]at hx;cases hx);refine⟨b,off,rfl,?_⟩;have:=h3 k x hx 0 _ rfl;simpa [NC,cr.Li]using this
 have H:=ac5 (And.intro h (And.intro hb hm));have HN:=ac5 hN;have X9:Hid (∀k,k<N->∃x,L[k]? =some x):=ac5 fun k hk=>⟨_,DW O_⟩;rw [hN]at hL⊢;clear h hb hm hN;by_cases h8:N<=8
 ·go_enter func23,ntmps23
  go_wp2_with fail
  go_loopw [5,6] (fun vn vi wr=>∃(k n:Nat),k<=N/\vi=I_ k/\vn=I_ n/\Hid (n=xP L k)/\wr=w) (fun _ vi _=>N-(intOf vi).toNat)
  case atStart=>exact⟨0,0,Gv _,rfl,rfl,ac5 (by simp [xP]),rfl⟩
  case round=>
   obtain⟨k,n,hk,rfl,rfl,hn,rfl⟩:=hrel;have hnk:n<=5000*k:=by rw [hn.out];exact Lc k
   by_cases bJ:k<N
   ·obtain⟨x,hx⟩:=X9.out k bJ;obtain⟨b,off,rfl,r0⟩:=HC.out k x hx;have bT:=An hx;have zK:=H.out.2.2 x (YX hx);have iI:=ac5 bT;obtain⟨xA,xc,xl⟩:=x;dsimp only at r0 iI zK;clear hx bT;generalize To:xl.length=xn at r0 iI zK;clear To;have atC:min (xn:Int) 5000=((min xn 5000:Nat):Int):=O_
    have S8:min xn 5000<=5000:=Nat.min_le_right _ _;go_wp2_with fail
    go_roundw
    case rel=>
     exact⟨k+1,n+min xn 5000,O_,by go_num,congrArg (Value.int .i64) O_,ac5 (by rw [iI.out,<-hn.out]),trivial⟩
    case measure=>simp [intOf];omega
   ·have hke:k=N:=O_
    subst hke;have np:((1:Int)<=(k:Int))<->1<=k:=O_
    have iK:1<=k->k<=8->n<=4000->uD wr A c L:=fun h1 h2 h3=>⟨by have:=H.out.1;exact this,H.out.2.1,by rw [HN.out];exact⟨h1,h2⟩,VZ (by rw [HN.out,<-hn.out];exact h3)⟩;have HA:=ac5 iK;clear iK np;by_cases h1:1<=k
    ·have g1:(1:Int)<=(k:Int):=O_
     have d1:=k_ g1;by_cases h2:k<=8
     ·have g2:(k:Int)<=8:=O_
      have d2:=k_ g2;by_cases h3:n<=4000
      ·have g3:(n:Int)<=4000:=O_
       have d3:=k_ g3;by_cases h4:nt<=300
       ·have d4:decide ((nt:Int)<=300)=true:=k_ O_;go_wp2;go_ret;exact⟨⟨_,rfl,fun _=>⟨HA.out h1 h2 h3,h4⟩⟩,rfl⟩
       ·have d4:decide ((nt:Int)<=300)=false:=aP O_;go_wp2;go_ret;exact⟨⟨_,rfl,fun e=>by cases e⟩,rfl⟩
      ·have g3:¬(n:Int)<=4000:=O_
       have d3:=aP g3;go_wp2;go_ret;exact⟨⟨_,rfl,fun e=>by cases e⟩,rfl⟩
     ·have g2:¬(k:Int)<=8:=O_
      have d2:=aP g2;go_wp2;go_ret;exact⟨⟨_,rfl,fun e=>by cases e⟩,rfl⟩
    ·have g1:¬(1:Int)<=(k:Int):=O_
     have d1:=aP g1;go_wp2;go_ret;exact⟨⟨_,rfl,fun e=>by cases e⟩,rfl⟩
 ·have d2:decide ((N:Int)<=8)=false:=aP O_;have g2:¬(N:Int)<=8:=O_
  have g1:(1:Int)<=(N:Int):=O_
  have d1:=k_ g1
  go_enter func23,ntmps23
  go_wp2_with fail
  go_loopw [5,6] (fun vn vi wr=>∃(k:Nat) (n:Int),k<=N/\vi=I_ k/\vn=I_ n/\wr=w) (fun _ vi _=>N-(intOf vi).toNat)
  case atStart=>exact⟨0,0,Gv _,rfl,rfl,rfl⟩
  case round=>
   obtain⟨k,n,hk,rfl,rfl,rfl⟩:=hrel;by_cases bJ:k<N
   ·obtain⟨x,hx⟩:=X9.out k bJ;obtain⟨b,off,rfl,r0⟩:=HC.out k x hx;have zK:=H.out.2.2 x (YX hx);obtain⟨xA,xc,xl⟩:=x;dsimp only at r0 zK;clear hx;generalize xl.length=xn at r0 zK;go_wp2_with fail
    go_roundw
    case rel=>exact⟨k+1,_,O_,by go_num,rfl,trivial⟩
    case measure=>simp [intOf];omega
   ·obtain rfl:k=N:=O_
    go_wp2;go_ret;exact⟨⟨_,rfl,fun e=>by cases e⟩,rfl⟩
theorem NG(tl:List UInt8) (h:Rd (ak .u8) w (X_ At tl.length ct) (nums tl)) (hl:tl.length<=300) (n:Nat) (hn:n<=8):
 H_ 9 #[X_ At tl.length ct,I_ n] w fun e w'=>∃A C ids,e=.returned (X_ A ids.length C)/\Own (ak .i64) 3 w.heap.size w' (X_ A ids.length C) ids/\ids.length<=300/\(∀i∈ids,0<=i/\i<=(n:Int))/\ae w w':=by
 obtain⟨i0,gn,dw,cE,dy⟩:=wF mr;obtain⟨N,hN⟩:∃N,tl.length=N:=⟨_,rfl⟩;have HR:=ac5 (fun(k:Nat) (x:UInt8) (hx:tl[k]? =some x)=>h.PG (k:=k) (x:=(x.toNat:Int)) (by unfold nums;rw [OX,hx];rfl));have X9:Hid (∀k,k<N->∃x,tl[k]? =some x):=ac5 fun k hk=>⟨_,DW O_⟩;rw [hN]at hl⊢;clear h hN
 go_enter func9,ntmps9
 go_wp2_with fail
 go_loopw [5,10] (fun vo vi wr=>∃(k:Nat) (A5:Option Addr) (C5:Nat) (ids:List Int),k<=N/\vi=I_ k/\vo=X_ A5 k C5/\Hid (Own (ak .i64) 3 w.heap.size wr (X_ A5 k C5) ids/\ids.length=k/\∀i∈ids,0<=i/\i<=(n:Int))/\ae w wr) (fun _ vi _=>N-(intOf vi).toNat)
 case atStart=>exact⟨0,none,0,[],Gv _,rfl,rfl,ac5 ⟨Own.nil _ _ _ _,rfl,S_⟩,ae.refl _⟩
 case round=>
  obtain⟨k,A5,C5,ids,hk,rfl,rfl,HO,Ty⟩:=hrel;by_cases bJ:k<N
  ·obtain⟨x,hx⟩:=X9.out k bJ;obtain⟨b,off,rfl,r0⟩:=HR.out k x hx;have r0:=Fr.cell Ty r0 id;have xS:0<=((x.toNat:Nat):Int)/\((x.toNat:Nat):Int)<=255:=by have:=x.toNat_lt;omega
   obtain⟨xi,hxi⟩:∃xi:Int,(x.toNat:Int)=xi:=⟨_,rfl⟩;rw [hxi]at r0 xS;clear hxi hx;have hlen:=HO.out.2.1;obtain⟨y,hy⟩:∃y,xi %((n:Int)+1)=y:=⟨_,rfl⟩
   have Oc:0<=y/\y<=n:=by
    have h1:=Kl xi (b:=(n:Int)+1) O_;have h2:=Km xi (b:=(n:Int)+1) O_;omega
   have fV:=HO.out.1.alloc (G_ #[I_ (xi %((n:Int)+1))] 3);have ez:Rd (ak .i64) (wr.alloc (G_ #[I_ (xi %((n:Int)+1))] 3)) (X_ (M_ wr) 1 1) [xi %((n:Int)+1)]:=jI (E:=ak .i64) (x:=xi %((n:Int)+1)) (t:=3) (af.new _ _ _);have iZ:w.heap.size<=(wr.alloc (G_ #[I_ (xi %((n:Int)+1))] 3)).heap.size:=by have:=Ty.size;rw [gz];omega
   have HY:=ac5 (And.intro hy Oc);clear hy Oc;go_wp2_with (at_builtin;refine aZ (E:=ak .i64) rfl _ _ _ rfl underlying31 gn dw cE dy rfl fV rfl ez rfl (by unfold maxLen;simp;omega) P_ iZ ?_;intro v4 w4 lq fL Db;obtain⟨A4,C4,rfl,_⟩:=lq.form;rw [show(ids++[xi %((n:Int)+1)]).length=k+1 from by simp;exact hlen]at lq)
   go_roundw
   case rel=>
    refine⟨k+1,A4,C4,ids++[xi %((n:Int)+1)],O_,by go_num,?_,ac5 ⟨lq,by simp;exact hlen,fun i hi=>?_⟩,ae.append (Ty.alloc _) fV fL⟩
    ·rfl
    ·rcases List.mem_append.1 hi with hi|hi
     ·exact HO.out.2.2 i hi
     ·rw [List.mem_singleton.1 hi,HY.out.1];exact HY.out.2
   case measure=>simp [intOf];omega
  ·have hke:k=N:=O_
   obtain⟨h1,h2,h3⟩:=HO.out;subst h2;have HH:=ac5 (And.intro h1 h3);clear h1 h3 HO;go_wp2;go_ret;exact⟨A5,C5,ids,rfl,HH.out.1,O_,HH.out.2,Ty⟩
end
section
variable{w:World}{sb g0 o0 c0 g1 o1 c1:Nat}
theorem SJ(h:Two w sb g0 o0 c0 g1 o1 c1) (hT:b_ w):
 H_ 8 #[aaX,X_ (M_ sb) 2 2] w fun e w'=>∃s lk bm bx T X P,e=.returned (Q_ s)/\lY w.heap.size w'.heap.size w'.heap.size w' s lk bm (List.replicate 5 (-1)) 0 bx T X P (fun _=>0) []/\ae w w':=by
 have H:=ac5 h;have HT:=ac5 hT;clear h hT
 go_enter func8,ntmps8
 go_wp2_with fail
 refine(tX _).mono ?_;rintro e w1 ⟨S,base,rfl,fi,_,px,hS⟩;have HTN:=ac5 px;clear px;go_wp2_with fail
 have m2:ae w1 (W_ w1 #[I_ 2,I_ 2] 65):=(ae.refl w1).alloc _;have n1:ae w w1:=((ae.refl w).alloc _).trans hS.new;have c1':=hS.new.ai (af.new w 30 #[I_ 2,I_ 5,U_ 1]);have Jy:=m2.ai c1';have HS:=ac5 (hS.more m2);have g2:=af.new w1 65 #[I_ 2,I_ 2];have n2:=n1.trans m2;clear hS c1';generalize(w1.alloc (G_ #[I_ 2,I_ 2] 65))=wA at*;generalize w1.heap.size=L at*;have a0:=Jy.k0;have a1:=Jy.k1;have a2:=Jy.k2;obtain⟨k0,k1⟩:=g2.dQ;clear m2 n1
 go_region_held3 (fun W=>L_ W w 0 (I_ 2)/\L_ W w 1 (I_ 5)/\L_ W w 2 (U_ 1)/\L_ W L 0 (I_ 2)/\L_ W L 1 (I_ 2)) (first|go_keep|(refine⟨?_,?_,?_,?_,?_⟩<;>assumption)) ((first
  |(go_at_call 27
    refine(gm 2 2 O_ O_ O_ O_ _).mono ?_;rintro e wC ⟨rfl,mC⟩;have nC:ae wA wC:=Fr.trans A_ mC;have cC:=nC.ai Jy;have gC:=nC.ai g2;have p0:=cC.k0;have p1:=cC.k1;have p2:=cC.k2;have q0:=gC.k0;have q1:=gC.k1)
  |(go_at_call 26
    refine(D7 5 O_ O_ _).mono ?_;rintro e wL ⟨lk,bm,rfl,hL,pQ,pM,mL⟩;have mL0:=mL.size;have nL:ae wA wL:=Fr.trans A_ mL;have cL:=nL.ai Jy;have gL:=nL.ai g2;have r0:=cL.k0;have r1:=cL.k1;have r2:=cL.k2;have s0:=gL.k0;have s1:=gL.k1)
  |(go_at_call 28
    refine(NH (H.out.new (n2.trans A_)) (HT.out.new (n2.trans A_))).mono ?_;rintro e wB ⟨rfl,mB⟩;have nB:ae wA wB:=Fr.trans A_ mB;have cB:=nB.ai Jy;have gB:=nB.ai g2;have t0:=cB.k0;have t1:=cB.k1;have t2:=cB.k2;have u0:=gB.k0;have u1:=gB.k1)
  |fail))
 have nS:ae wA (wB.alloc (G_ #[Q_ S.s,Q_ lk,Z_,Z_,I_ 16] 73)):=nB.alloc _;have bS:=af.new wB 73 #[Q_ S.s,Q_ lk,Z_,Z_,I_ 16];have hLS:gu (wB.alloc (G_ #[Q_ S.s,Q_ lk,Z_,Z_,I_ 16] 73)) lk bm (List.replicate 5 (-1)) 0:=hL.new (mB.alloc _);have HSS:=ac5 (HS.out.more nS)
 have mv:(∀k,S.aB Qs.none k->k<wB.heap.size)/\(w.alloc (G_ #[I_ 2,I_ 5,U_ 1] 30)).heap.size<=wB.heap.size:=by
  have z3:=nB.size;exact⟨fun k hk=>fw (HS.out.fI hk) z3,gy HS.out.new.size z3⟩
 have HFT:=ac5 mv;clear mv
 have eE:w.heap.size<=wB.heap.size/\w.heap.size<=lk/\w.heap.size<=bm:=by
  have z2:=n2.size;have z3:=nB.size;have z4:=nC.size;omega
 have nW:=n2.trans nS;have HZ:=ac5 eE;generalize(wB.alloc (G_ #[Q_ S.s,Q_ lk,Z_,Z_,I_ 16] 73))=wS at*;generalize wB.heap.size=s at*;have HW:=ac5 nW;have dE:=ac5 hLS;clear eE nS nW hLS hL pQ pM mL mL0 mB mC cC gC cL gL cB gB p0 p1 p2 q0 q1 r0 r1 r2 s0 s1 t0 t1 t2 u0 u1 nC nL nB a0 a1 a2 k0 k1 Jy g2 n2 HS
 have bT:∀W,ae wS W->H_ 49 #[Q_ S.s] W fun e W'=>e=.returned (I_ 2)/\W'=W:=fun W hW=>by
  have:=lF (HSS.out.more hW);rw [HTN.out]at this;exact this
 have iI:=ac5 bT;clear bT;go_wp2_with fail
 have h2:=H.out.new HW.out;have r0:=h2.row.k0;have k1:=bS.k1;refine jD 3 ?_;rw [O0];go_wp2_with fail
 refine(mN (C_ S.s 0) lk 2 2 0 O_ O_ O_ O_ O_ wS dE.out (by rfl) iI.out).mono ?_;rintro e w1 ⟨t0,x0,p0,rfl,n1,cE,dy,WY,hz4,ht0,xS,Pq⟩;have NW1:=ac5 (HW.out.trans n1);have CG:Rd (ak .u8) w1 (X_ (some ⟨g0,o0,none⟩) 8 c0) (nums (eV 97)):=(H.out.new NW1.out).b0.rd c0 H.out.h0;have bS1:=n1.ai bS;have T0:=ac5 ht0;have Z0:=ac5 (And.intro cE (And.intro dy (And.intro WY (And.intro hz4 (And.intro bS.lt n1.size)))));have J5:=sd ht0 Pq _ _ CG (by rw [aW];decide);have U2:=ac5 J5;have HX0:=ac5 xS;have HP0:=ac5 Pq;have N1:=ac5 n1;clear J5 ht0 Pq xS cE dy WY hz4 r0 k1 h2 n1 CG;go_wp2_with fail
 refine U2.out.mono ?_;rintro e w2 ⟨rfl,o2,v0,LI,UT⟩;have bS2:=o2.ai bS1 (bS1.aU HP0.out D_);have c2:=bS2.k2;obtain⟨i0,gn,hy0,gM,sj⟩:=wF K8;have db:=Own.nil Gq 74 w.heap.size (W_ w2 #[Q_ t0] 74);have ez:Rd Gq (W_ w2 #[Q_ t0] 74) (X_ (M_ w2) 1 1) [t0]:=jI (E:=Gq) (x:=t0) (t:=74) (af.new _ _ _)
 have eE:w.heap.size<=(w2.alloc (G_ #[Q_ t0] 74)).heap.size:=by
  have:=NW1.out.size;have:=o2.size;rw [gz];omega
 have HV0:=ac5 UT;have HQ0:=ac5 LI;have O2:=ac5 o2;clear UT LI o2;go_wp2_with (at_builtin;refine aZ (E:=Gq) rfl _ _ _ rfl underlying71 gn hy0 gM sj rfl db rfl ez rfl (by unfold maxLen;simp) S_ eE ?_;intro tv w3 iL gP o_;have TB:=gP.ai (bS2.alloc (G_ #[Q_ t0] 74)) (fun h=>by cases h);have e3:=TB.k2;have f3:=TB.frozen 2;obtain⟨A3,C3,rfl,_⟩:=iL.form)
 have rJ:=ac5 iL;have n3:ae wS w3:=Fr.trans ((ae.one N1.out O2.out Z0.out.2.2.1).alloc _) (gP.mono fun _ _ h=>by cases h);have N23:Hid (ae w2 w3):=ac5 (Fr.trans ((ae.refl w2).alloc _) (gP.mono fun _ _ h=>by cases h));have N3:=ac5 n3;have bS4:=TB.al 2 (X_ A3 (([]:List Nat)++[t0]).length C3);have o4:One s w3 (w3.setCell (C_ s 2) (X_ A3 (([]:List Nat)++[t0]).length C3)):=(One.refl s w3).set 2 _;have hX3:=HSS.out.more n3;have hX4:=hX3.du (R:=fun k=>k=s) o4 (fun k hk e=>by have:=HFT.out.1 k hk;omega) (fun v l ho b hb e=>ho.ar TB D_ (by rw [<-e];exact hb)) (fun k e=>by have:=HFT.out.2;omega);have WM:=dE.out.new n3;obtain⟨ml,gE,_⟩:=WM.map;have Jo:=WM.fr o4 (WM.ai.aU TB D_) (gE.aD TB);have n4:=ae.one (HW.out.trans n3) o4 HZ.out.1;have hl3s:=TB.lt;have Db:(w3.setCell (C_ s 2) (X_ A3 (([]:List Nat)++[t0]).length C3)).heap.size=w3.heap.size:=by simp [World.setCell]
 have O4:=ac5 o4;have HX4:=ac5 hX4;have HL4:=ac5 Jo;have N4:=ac5 n4;have L4:=ac5 Db;clear iL gP o_ n3 o4 hX3 hX4 WM gE Jo n4 c2 e3 f3 db ez eE bS bS1 bS2 Db;have e5:(([]:List Nat)++[t0]).length=1:=rfl;rw [e5]at O4 HX4 HL4 N4 L4 bS4 rJ;generalize w3.setCell (C_ s 2) (X_ A3 1 C3)=w4 at*
 have bT:∀W,ae w4 W->H_ 49 #[Q_ S.s] W fun e W'=>e=.returned (I_ 2)/\W'=W:=fun W hW=>by
  have:=lF (HX4.out.more hW);rw [HTN.out]at this;exact this
 have ZA:=ac5 bT;clear bT;have h4:=H.out.new N4.out;have r1:=h4.row.k1;have k1:=bS4.k1;rw [O0];go_wp2_with fail
 refine(mN (C_ S.s 0) lk 2 2 1 O_ O_ O_ O_ O_ w4 HL4.out (by rfl) ZA.out).mono ?_;rintro e w5 ⟨t1,x1,p1,rfl,n5,cE,dy,WY,hz4,EU,jF,lK⟩;have NW5:=ac5 (N4.out.trans n5);have GX:Rd (ak .u8) w5 (X_ (some ⟨g1,o1,none⟩) 8 c1) (nums (eV 98)):=(H.out.new NW5.out).b1.rd c1 H.out.h1;have bS5:=n5.ai bS4;have T1:=ac5 EU;have Z1:=ac5 (And.intro cE (And.intro dy (And.intro WY (And.intro hz4 n5.size))));have J5:=sd EU lK _ _ GX (by rw [aW];decide);have alL:=ac5 J5;have HX1:=ac5 jF;have HP1:=ac5 lK;have N5:=ac5 n5;clear J5 EU lK jF cE dy WY hz4 r1 k1 h4 n5 GX;go_wp2_with fail
 refine alL.out.mono ?_;rintro e w6 ⟨rfl,o6,v1,oZ,fE⟩;have bS6:=o6.ai bS5 (bS5.aU HP1.out D_);have c2:=bS6.k2;have hV4:=rJ.out.fr O4.out (fun g hg e=>rJ.out.ar TB D_ (by rw [<-e];exact hg));have hV5:=hV4.new N5.out;have hV6:=hV5.fr o6 (fun g hg e=>hV5.ar HP1.out D_ (by rw [<-e];exact hg));have db:=hV6.alloc (G_ #[Q_ t1] 74);have ez:Rd Gq (W_ w6 #[Q_ t1] 74) (X_ (M_ w6) 1 1) [t1]:=jI (E:=Gq) (x:=t1) (t:=74) (af.new _ _ _)
 have eE:w.heap.size<=(w6.alloc (G_ #[Q_ t1] 74)).heap.size:=by
  have:=NW5.out.size;have:=o6.size;rw [gz];omega
 have HV1:=ac5 fE;have HQ1:=ac5 oZ;have O6:=ac5 o6;have KL:=ac5 hV6;clear fE oZ o6 hV4 hV5 hV6;go_wp2_with (at_builtin;refine aZ (E:=Gq) rfl _ _ _ rfl underlying71 gn hy0 gM sj rfl db rfl ez rfl (by unfold maxLen;simp) S_ eE ?_;intro tv2 w7 hv7 vQ GO;have bS7:=vQ.ai (bS6.alloc (G_ #[Q_ t1] 74)) (fun h=>db.ar (bS6.alloc (G_ #[Q_ t1] 74)) D_ h);have e7:=bS7.k2;have f7:=bS7.frozen 2;obtain⟨A7,C7,rfl,_⟩:=hv7.form)
 rw [O0];go_wp2;go_ret;have O78:One s w7 (w7.setCell (C_ s 2) (X_ A7 2 C7)):=(One.refl s w7).set 2 _
 have F68:Fr (fun k=>k=s\/(Value.slice A3 1 C3).ownBlock=some k) w6 (w7.setCell (C_ s 2) (X_ A7 2 C7)):=
  Fr.trans (Fr.trans (((ae.refl w6).alloc (G_ #[Q_ t1] 74)).mono fun _ _ h=>h.elim) (vQ.mono fun k _ h=>.inr h)) (O78.mono fun k _ h=>.inl h)
 have F58:Fr (fun k=>k=p1\/k=s\/(Value.slice A3 1 C3).ownBlock=some k) w5 (w7.setCell (C_ s 2) (X_ A7 2 C7)):=
  (O6.out.mono fun _ _ h=>.inl h).trans (F68.mono fun _ _ h=>.inr h)
 have F38:Fr (fun k=>k=s\/(Value.slice A3 1 C3).ownBlock=some k) w3 (w7.setCell (C_ s 2) (X_ A7 2 C7)):=
  Fr.trans' (Fr.trans (O4.out.mono fun _ _ h=>.inl h) (N5.out.mono fun _ _ h=>h.elim)) F58 fun i hi h=>by
    rcases h with h|h
    ·have:=Z1.out.2.2.1;have:=L4.out;omega
    ·exact h
 have V4:=rJ.out.fr O4.out (fun g hg e=>rJ.out.ar TB D_ (by rw [<-e];exact hg));have V5:=V4.new N5.out
 have K3:∀g e cs,af w3 g e cs->e≠73->e≠74->¬(g=s\/(Value.slice A3 1 C3).ownBlock=some g):=fun g e cs hb e1 e2 hk=>by
  rcases hk with hk|hk
  ·exact hb.aU TB e1 hk
  ·obtain⟨kL,lW⟩:=rJ.out.heap hk;exact hb.aU lW e2 rfl
 have K6:∀g e cs,af w6 g e cs->e≠73->e≠74->¬(g=s\/(Value.slice A3 1 C3).ownBlock=some g):=fun g e cs hb e1 e2 hk=>by
  rcases hk with hk|hk
  ·exact hb.aU bS6 e1 hk
  ·obtain⟨kL,lW⟩:=KL.out.heap hk;exact hb.aU lW e2 rfl
 have K5:∀g e cs,af w5 g e cs->e≠73->e≠74->e≠176->¬(g=p1\/g=s\/(Value.slice A3 1 C3).ownBlock=some g):=fun g e cs hb e1 e2 e3 hk=>by
  rcases hk with hk|hk|hk
  ·exact hb.aU HP1.out e3 hk
  ·exact hb.aU bS5 e1 hk
  ·obtain⟨kL,lW⟩:=V5.heap hk;exact hb.aU lW e2 rfl
 have a3:=N23.out.ai (O2.out.ai T0.out (T0.out.aU HP0.out D_));have x3:=N23.out.ai (O2.out.ai HX0.out (HX0.out.aU HP0.out D_));have q3:=N23.out.ai HQ0.out;have v3:=HV0.out.new N23.out;have a8:=F38.ai a3 (K3 _ _ _ a3 D_ D_);have x8:=F38.ai x3 (K3 _ _ _ x3 D_ D_);have q8:=F38.ai q3 (K3 _ _ _ q3 D_ D_);have v8:=v3.fr F38 fun g hg hk=>by obtain⟨cs,cK⟩:=v3.heap hg;exact K3 _ _ _ cK D_ D_ hk
 have b8:=F58.ai T1.out (K5 _ _ _ T1.out D_ D_ D_);have y8:=F58.ai HX1.out (K5 _ _ _ HX1.out D_ D_ D_);have r8:=F68.ai HQ1.out (K6 _ _ _ HQ1.out D_ D_);have u8:=HV1.out.fr F68 fun g hg hk=>by obtain⟨cs,cK⟩:=HV1.out.heap hg;exact K6 _ _ _ cK D_ D_ hk
 have L3:=dE.out.new N3.out;obtain⟨ml,gE,_⟩:=L3.map
 have L8:=L3.fr F38 (K3 _ _ _ L3.ai D_ D_) (fun hk=>by
  rcases hk with hk|hk
  ·exact gE.aD TB hk
  ·obtain⟨kL,lW⟩:=rJ.out.heap hk;exact gE.aD lW rfl)
 have bS8:=bS7.al 2 (X_ A7 2 C7);have W8:=hv7.fr O78 (fun g hg e=>hv7.ar bS7 D_ (by rw [<-e];exact hg));have hz:=HZ.out;have dw:=Z0.out;have cE:=Z1.out;have fB:=NW1.out.size;have qC:=N4.out.size;have hsW:=HW.out.size
 have n8:ae w (w7.setCell (C_ s 2) (X_ A7 2 C7)):=Fr.trans' (ae.one NW5.out O6.out O_) F68 fun i hi h=>by
  rcases h with h|h
  ·omega
  ·have:=(KL.out.block h).1;omega
 have IA:=gy O2.out.size N23.out.size;have h34:=L4.out;have LI:=HQ0.out.lt;have h23:=N23.out.size;have atF:=HX0.out.lt;have hwp:w2.heap.size=w2.heap.size:=rfl;refine⟨s,lk,bm,Q_ S.s,(fun j=>if j=0 then t0 else t1),(fun j=>if j=0 then x0 else x1),(fun j=>if j=0 then p0 else p1),rfl,?_,n8⟩
 refine{
  ai:=⟨_,Z_,bS8,W8,Own.nil _ _ _ _,fun g hg=>by cases hg⟩
  ss:=fun i hi=>?_
  kK:=L8
  oo:=fun i hi=>by
   obtain rfl|rfl:i=0\/i=1:=O_
   ·decide
   ·decide
  nT:=by show t0≠t1;omega
  nX:=by show x0≠x1;omega
  nP:=by show p0≠p1;omega
  ls:=hz.1
  ll:=hz.2.1
  lb:=hz.2.2
  lB:=n8.size
  zs:=bS8.lt
  zl:=L8.lt
  zb:=L8.ltm
  zT:=fun i hi=>by
   obtain rfl|rfl:i=0\/i=1:=O_
   ·exact⟨a8.lt,q8.lt⟩
   ·exact⟨b8.lt,r8.lt⟩
  zw:=aA _
  VO:=aA _}
 obtain rfl|rfl:i=0\/i=1:=O_
 ·exact⟨by show w.heap.size<=t0;omega,by show w.heap.size<=x0;omega,by show w.heap.size<=p0;omega,x8,fun _=>⟨a8,v0,q8,v8.mono O_⟩,fun e=>(by cases e),fun e=>(by simp at e)⟩
 ·exact⟨by show w.heap.size<=t1;omega,by show w.heap.size<=x1;omega,by show w.heap.size<=p1;omega,y8,fun _=>⟨b8,v1,r8,u8.mono O_⟩,fun e=>(by cases e),fun e=>(by simp at e)⟩
end
theorem SK{w:World}{b:Nat}{C:Array Value}{l:List UInt8}(h:∀i v,C[i]? =some v->L_ w b i v) (hC:C=(l.map fun x=>Value.int .u8 (x.toNat:Int)).toArray):jh w b 0 l:=fun i x hx=>by
 rw [aH];refine h i _ ?_;rw [hC];simp [hx]
theorem Ao(w:World) (hT:b_ w):H_ 7 #[] w fun e w'=>e=.returned (R_ true)/\ae w w':=by
 have HT:=ac5 hT;clear hT
 go_enter func7,ntmps7
 obtain⟨w1,aaI,n1,hC1⟩:=jr w #[B_ 97,B_ 32,B_ 78,B_ 79,B_ 79,B_ 80,B_ 13,B_ 10] 8;have hB1:jh w1 w.heap.size 0 (eV 97):=SK hC1 rfl;go_wp2_with fail
 obtain⟨w2,G',n2,hC2⟩:=jr w1 #[B_ 98,B_ 32,B_ 78,B_ 79,B_ 79,B_ 80,B_ 13,B_ 10] 8;have qh:jh w2 w1.heap.size 0 (eV 98):=SK hC2 rfl;clear hC1 hC2 aaI;rw [G'];go_wp2_with fail
 have n3:=(n1.trans n2).alloc (G_ #[X_ (M_ w) 8 8,X_ (M_ w1) 8 8] 23)
 have h2:Two (W_ w2 #[X_ (M_ w) 8 8,X_ (M_ w1) 8 8] 23) w2.heap.size w.heap.size 0 8 w1.heap.size 0 8:=
  ⟨af.new _ _ _,(hB1.new n2).new ((ae.refl w2).alloc _),qh.new ((ae.refl w2).alloc _),aA _,aA _⟩
 have HS:=ac5 (SJ h2 (HT.out.new n3));clear G' hB1 qh h2;refine HS.out.mono ?_;rintro e w4 ⟨s,lk,bm,bx,T,X,P,rfl,hS,n4⟩;have hB:=n3.size;have n5:=(n3.trans n4).alloc (G_ #[I_ 1,I_ 1] 3);have S5:=hS.afH ((ae.refl w4).alloc (G_ #[I_ 1,I_ 1] 3));have i5:=af.new w4 3 #[I_ 1,I_ 1];generalize(w2.alloc (G_ #[X_ (M_ w) 8 8,X_ (M_ w1) 8 8] 23)).heap.size=B at*;have hTT:∀w5 w',ae w w5->Fr (fun k=>B<=k) w5 w'->ae w w':=fun w5 w' h f=>Fr.trans' h f fun i hi h=>O_
 have CB:=ac5 hTT;have eE:w4.heap.size<(w4.alloc (G_ #[I_ 1,I_ 1] 3)).heap.size:=by rw [gz];omega
 have pT:=Wb S5 w4.heap.size i5 (aA _) eE (fun w' f=>HT.out.new (CB.out _ _ n5 f));have yw:=ac5 pT;have N5:=ac5 n5;clear pT hTT eE S5 i5 hS HS n4 n5;go_wp2_with fail
 refine yw.out.mono ?_;rintro e w6 ⟨rfl,S6,f6⟩;have n6:=CB.out _ _ N5.out f6;have HFN:=ac5 (Jz (S6.congr (ph':=hF 0) D_) (fun w' f=>HT.out.new (CB.out _ _ n6 f)));have N6:=ac5 n6;clear S6 f6 n6;go_wp2_with fail
 refine HFN.out.mono ?_;rintro e w7 ⟨⟨vv,rfl⟩,⟨z0,z1,S7⟩,f7⟩;have n7:=CB.out _ _ N6.out f7;have HOU:=ac5 (F8 S7 D_ D_);have H7:=ac5 S7;have N7:=ac5 n7;clear f7 n7 S7;go_wp2_with fail
 refine HOU.out.mono ?_;rintro e w8 ⟨v8,x8,y8,rfl,o8,u8,n8⟩;have hL:fq 97=nums [97,32,79,75,32,78,79,79,80,32,99,111,109,112,108,101,116,101,100,13,10]:=D_
 rw [hL]at u8;obtain⟨b8,f8,k8,hv8,hk8,ht8,_,_,hb8⟩:=qu u8 S_;have kY:(convert 23 9 (X_ (some ⟨b8,f8,none⟩) 21 k8)).run prog w8=.ok (T_ ⟨#[97,32,79,75,32,78,79,79,80,32,99,111,109,112,108,101,116,101,100,13,10]⟩) w8:=ht8.conv k8;obtain⟨A8,C8,rfl,_⟩:=o8.form;obtain⟨g8,rfl⟩:=o8.some_ S_;have hc8:L_ w8 g8 0 x8.val:=o8.dG (k:=0) (x:=x8) rfl (j:=0) rfl;rw [hv8]at hc8
 replace hc8:L_ w8 g8 0 (X_ (some ⟨b8,f8,none⟩) 21 k8):=hc8
 have HOR:=ac5 (NI (H7.out.new n8) D_);have N8:=ac5 (N7.out.trans n8);clear hL u8 hv8 hk8 ht8 hb8 o8 n8;go_wp2_with fail
 refine HOR.out.mono ?_;rintro e w9 ⟨v9,rfl,o9,n9⟩;obtain⟨A9,C9,rfl,_⟩:=o9.form;obtain⟨g9,rfl⟩:=o9.some_ D_;have n10:=(ae.refl w9).alloc (G_ #[I_ 1,I_ 0] 3);have VG:=o9.new n10;have i10:=af.new w9 3 #[I_ 1,I_ 0]
 have hEQ:=Tryz.slices_Equal_int g9 0 2 C9 w9.heap.size 0 2 2 [1,0] [1,0] (W_ w9 #[I_ 1,I_ 0] 3) D_ D_ D_ D_
  (fun j hj=>by
    rw [aH];obtain rfl|rfl:j=0\/j=1:=by simp at hj;omega
    ·exact VG.dG (k:=0) (x:=1) rfl (j:=0) rfl
    ·exact VG.dG (k:=1) (x:=0) rfl (j:=0) rfl)
  (fun j hj=>by
    rw [aH];obtain rfl|rfl:j=0\/j=1:=by simp at hj;omega
    ·exact i10.cell 0
    ·exact i10.cell 1)
 have N10:=ac5 (N8.out.trans (n9.trans n10));have S9:=ac5 hEQ;clear hEQ n10 VG i10 o9 n9;go_wp2_with fail
 refine S9.out.mono ?_;rintro e Ka ⟨rfl,q,rfl⟩;go_wp2;go_ret;exact⟨rfl,N10.out.drewN q⟩
end Go.Proofs.YtliimglbbiebiaaGreatDoor
