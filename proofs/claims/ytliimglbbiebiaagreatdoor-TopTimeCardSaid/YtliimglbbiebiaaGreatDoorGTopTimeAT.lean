import Derived.Test.YtliimglbbiebiaaGreatDoorGTopTimeAO
set_option maxRecDepth 100000
set_option maxHeartbeats 6400000
set_option linter.all false
namespace Go.Proofs.YtliimglbbiebiaaGreatDoor
open Go.Proofs.Tryz Go.RowKit Go.Maps
theorem Dy(p:Nat) (A:Option Addr) (n c:Nat) (hn:n<=1000000) (at_ sk sn:Int) (ha:0<=at_/\at_<=n) (hk:0<=sk/\sk<=4294967295) (w:World) (h:af w p 176 #[X_ A n c,I_ at_,I_ sk,I_ sn]):
 H_ 147 #[Q_ p] w fun e w'=>One p w w'/\w'.heap.size=w.heap.size/\
  ((e=.returned (R_ false)/\af w' p 176 #[X_ A n c,I_ at_,I_ sk,I_ sn])\/
   (e=.returned (R_ true)/\at_+sk<=n/\af w' p 176 #[X_ A n c,I_ (at_+sk),I_ 0,I_ (at_+sk)])):=by
 have c0:=h.k0;have c1:=h.k1;have c2:=h.k2;have c3:=h.k3;have f1:=h.frozen 1;have f2:=h.frozen 2;have f3:=h.frozen 3;have bJ:=h.lt;have pN:IntKind.i64.wrap ((n:Int)-at_)=n-at_:=aM _ O_;have AU:IntKind.i64.wrap (at_+sk)=at_+sk:=aM _ O_;by_cases hs:(n:Int)-at_<sk
 ·go_enter func147,ntmps147
  go_wp2_with (first|go_region|fail)
  go_ret;exact⟨(One.refl p w).drew,rfl,.inl ⟨rfl,h.drew⟩⟩
 ·go_enter func147,ntmps147
  go_wp2_with (first|go_region|fail)
  go_ret;exact⟨((((One.refl p w).set 1 _).set 2 _).set 3 _).drew.drew,by simp [World.setCell,World.drew],.inr ⟨rfl,O_,((h.al 1 _).al 2 _).al 3 _⟩⟩
theorem Pm(A1 A2:Option Addr) (c1:Nat) (l:List UInt8) (hl:l.length<=1000000) (w:World) (hT:b_ w) (h1:SB w A1 c1 l) (g:Nat) (Pn:A2=some ⟨g,0,none⟩) (YB:∀i,i<2->w.cell? ((⟨g,0,none⟩:Addr).add i)=some (.int .u8 (([13,10]:List Int).getD i 0))):
 H_ 201 #[X_ A1 l.length c1,X_ A2 2 2] w fun e w'=>∃r:Int,e=.returned (I_ r)/\ -1<=r/\(0<=r->r+2<=l.length)/\∃q,w'=w.drewN q:=by
 subst Pn;by_cases h2:l.length<2
 ·refine(Tryz.bytes_Index_longer A1 (M_ g) l.length c1 2 2 w D_ h2 D_).mono ?_;rintro e w' ⟨rfl,rfl⟩;exact⟨-1,rfl,O_,O_,0,rfl⟩
 ·obtain⟨b,off,rfl,hb⟩:=h1.b (by rintro rfl;simp at h2);obtain⟨mm,uH⟩:=hT.ml;refine(Tryz.bytes_Index_at (C_ b off) (C_ g 0) l.length c1 2 2 (nums l) [13,10] mm w (aW _) rfl (JV _) D_ (fun i hi=>by rw [kR];exact hb.cells i hi) YB h1.hc O_ D_ uH).mono ?_;rintro e w' ⟨rfl,q,rfl⟩;rw [j_];exact⟨_,rfl,Lib.index_ge _ _,fun h=>Lib.index_room l [13,10] h,q,rfl⟩
theorem Po(p:Nat) (A:Option Addr) (c:Nat) (l:List UInt8) (hl:l.length<=1000000) (sn:Nat) (LC:sn<=l.length) (x y:Value) (w:World) (hT:b_ w) (h:af w p 176 #[X_ A l.length c,x,y,I_ sn]) (hb:SB w A c l):
 H_ 148 #[Q_ p] w fun e w'=>One p w w'/\
  ((e=.returned (.tuple #[I_ 0,R_ false])/\∃z:Int,af w' p 176 #[X_ A l.length c,x,y,I_ z])\/
   (∃i:Nat,e=.returned (.tuple #[I_ i,R_ true])/\sn<=i/\i+2<=l.length/\af w' p 176 #[X_ A l.length c,x,y,I_ sn])):=by
 have c0:=h.k0;have c3:=h.k3;have jE:=fun W=>hb.me sn LC W;have hcut:=hb.cutAt sn l.length (aA _);have gK:((l.drop sn).take (l.length-sn)).length=l.length-sn:=by rw [jo,gj];omega
 obtain⟨lm,NS⟩:∃lm,lm=(l.drop sn).take (l.length-sn):=⟨_,rfl⟩;rw [<-NS]at hcut gK;clear NS;have kb0:∀o,L_ (w.alloc o) p 0 (X_ A l.length c):=fun o=>(h.alloc o).cell 0;have kb3:∀o,L_ (w.alloc o) p 3 (I_ sn):=fun o=>(h.alloc o).cell 3;have kd0:∀o,L_ (w.drew.alloc o) p 0 (X_ A l.length c):=fun o=>(h.drew.alloc o).cell 0;have kd3:∀o,L_ (w.drew.alloc o) p 3 (I_ sn):=fun o=>(h.drew.alloc o).cell 3;obtain⟨w1,kY,n1,hC⟩:=oT w #[B_ 13,B_ 10] 2;have h1:=n1.ai h;have YC:=hT.new n1
 have HI:=ac5 (Pm (kh A c sn) _ (c-sn) lm O_ w1 YC (hcut.new n1) w.heap.size rfl (fun i hi=>by
  rw [kR,aH];have:i=0\/i=1:=O_
  rcases this with rfl|rfl
  ·exact hC 0 _ rfl
  ·exact hC 1 _ rfl))
 rw [gK]at HI;have cU:IntKind.i64.wrap ((l.length:Int)-1)=l.length-1:=aM _ O_;have bJ:=h.lt;have k0:=h1.k0;have k3:=h1.k3;have g3:=h1.frozen 3;have ast:=h1.lt;have HH:=ac5 (And.intro h1 n1);clear h1 YC hcut hb hT hC h gK n1
 go_enter func148,ntmps148
 go_wp2_with fail
 go_region_law ((first
  |(go_simp
    go_at_call 201
    refine HI.out.mono ?_;rintro e w2 ⟨r,rfl,pO,ic,q,rfl⟩;have g0:L_ (w1.drewN q) p 0 (X_ A l.length c):=k0;have g3:L_ (w1.drewN q) p 3 (I_ sn):=k3;go_wp2_with fail)
  |fail))
 all_goals
  clear kY jE HI kb0 kb3 kd0 kd3 c0 c3;by_cases hr:r<0
  ·go_wp2_with (first|go_region|fail)
   go_ret2;obtain⟨h1,n1⟩:=HH.out
   first
   |exact⟨(ae.to (n1.drewN q)).trans ((One.refl p _).set 3 _),.inl ⟨rfl,_,(h1.drewN q).al 3 _⟩⟩
   |exact⟨((ae.to (n1.drewN q)).trans ((One.refl p _).set 3 _)).drew,.inl ⟨rfl,_,(h1.drewN q).al 3 _⟩⟩
   |exact⟨(ae.to (n1.drewN q).drew).trans ((One.refl p _).set 3 _),.inl ⟨rfl,_,(h1.drewN q).drew.al 3 _⟩⟩
   |exact⟨(ae.to (n1.drewN q).drew.drew).trans ((One.refl p _).set 3 _),.inl ⟨rfl,_,(h1.drewN q).drew.drew.al 3 _⟩⟩
  ·obtain⟨rn,rfl⟩:∃rn:Nat,r=rn:=⟨r.toNat,O_⟩;have hw:IntKind.i64.wrap ((sn:Int)+rn)=(sn:Int)+rn:=aM _ O_;go_wp2;go_ret2;obtain⟨h1,n1⟩:=HH.out;exact⟨ae.to (n1.drewN q),.inr ⟨sn+rn,rfl,O_,O_,h1.drewN q⟩⟩
theorem oX(p:Nat) (k:Int) (u:Value) (lu:List Int) (A:Option Addr) (c:Nat) (l:List UInt8) (hl:l.length<=100000) (n:Nat) (hn:n<=l.length) (x y z:Value) (w:World) (h:af w p 176 #[X_ A l.length c,x,y,z]) (hb:SB w A c l) (hu:Rd (ak .u8) w u lu) (hul:lu.length<=100000):
 H_ 150 #[Q_ p,I_ k,u,I_ n] w fun e w'=>∃d v,e=.returned (.tuple #[.agg #[I_ k,d],R_ true])/\One p w w'/\Own (ak .u8) 5 w.heap.size w' d lu/\
  Own (ak .u8) 5 w.heap.size w' v (nums (l.drop n))/\af w' p 176 #[v,I_ 0,I_ 0,I_ 0]:=by
 have bJ:=h.lt;have n0:=(ae.refl w).alloc (G_ #[I_ 0,Z_] 174);have jE:=fun W=>hb.me n hn W;have je:=hb.cutAt n l.length (aA _);have LD:(l.drop n).take (l.length-n)=l.drop n:=Hv (by rw [gj];omega);rw [LD]at je;have hlen:(l.drop n).length=l.length-n:=gj ..;rw [<-hlen]at jE;obtain⟨ld,uh⟩:∃ld,ld=l.drop n:=⟨_,rfl⟩;rw [<-uh]at jE je⊢;have aiu:ld.length<=100000:=by rw [uh];omega
 generalize kh A c n=A2 at jE je;generalize c-n=c2 at jE je;clear hlen uh LD hb
 go_enter func150,ntmps150
 go_wp2_with fail
 refine(eT u lu _ (hu.new n0) hul).mono ?_;rintro e w1 ⟨d,rfl,hd,m1⟩;have n1:=n0.trans m1;have h1:=ae.ai n1 h;have c0:=h1.k0;have r0:=m1.ai (af.new _ _ _);have s1:=n1.size;obtain⟨A1,C1,rfl,hC1⟩:=hd.form;have l1:=h1.lt;have hB:af (W_ w1 #[I_ k,X_ A1 lu.length C1] 174) p 176 #[X_ A l.length c,x,y,z]:=h1.alloc _;have rB:af (W_ w1 #[I_ k,X_ A1 lu.length C1] 174) w 174 #[I_ 0,Z_]:=r0.alloc _;have gB:af (W_ w1 #[I_ k,X_ A1 lu.length C1] 174) w1 174 #[I_ k,X_ A1 lu.length C1]:=af.new _ _ _;have nB:ae w (W_ w1 #[I_ k,X_ A1 lu.length C1] 174):=n1.alloc _;have dB:=hd.alloc (G_ #[I_ k,X_ A1 lu.length C1] 174);have sB:(w1.alloc (G_ #[I_ k,X_ A1 lu.length C1] 174)).heap.size=w1.heap.size+1:=by rw [gz]
 have HD:=ac5 (eT _ (nums ld) _ (je.new nB).rd (by rw [aW];exact aiu));clear je hu;go_wp2_with fail
 refine HD.out.mono ?_;rintro e w2 ⟨v,rfl,hv,m2⟩;obtain⟨A3,C3,rfl,hC3⟩:=hv.form;have n2:=nB.trans m2;have h2:=m2.ai hB;have r2:=m2.ai rB;have g2:=m2.ai gB;have d2:=dB.new m2;have s2:=m2.size;have c20:=h2.k0;have c21:=h2.k1;have c22:=h2.k2;have c23:=h2.k3;have f20:=h2.frozen 0;have f21:=h2.frozen 1;have f22:=h2.frozen 2;have f23:=h2.frozen 3;have g20:=g2.k0;have g21:=g2.k1;have r20:=r2.k0;have r21:=r2.k1;have z20:=r2.frozen 0;have z21:=r2.frozen 1;go_wp2_with fail
 have bV:p≠w.heap.size:=O_
 have hR:=(((((r2.bL (p:=⟨p,0,none⟩) (iX bV) (X_ A3 (nums ld).length C3)).bL (p:=⟨p,1,none⟩) (iX bV) (I_ 0)).bL (p:=⟨p,2,none⟩) (iX bV) (I_ 0)).bL (p:=⟨p,3,none⟩) (iX bV) (I_ 0)).al 0 (I_ k)).al 1 (X_ A1 lu.length C1);have hP:=(((((h2.al 0 (X_ A3 (nums ld).length C3)).al 1 (I_ 0)).al 2 (I_ 0)).al 3 (I_ 0)).bL (p:=⟨w.heap.size,0,none⟩) bV (I_ k)).bL (p:=⟨w.heap.size,1,none⟩) bV (X_ A1 lu.length C1);have hF:=((((((One.refl p w2).set 0 (X_ A3 (nums ld).length C3)).set 1 (I_ 0)).set 2 (I_ 0)).set 3 (I_ 0)));have hO:One p w _:=Fr.setCell (Fr.setCell ((ae.to n2).trans hF) (p:=⟨w.heap.size,0,none⟩) (fun h=>absurd h (bh _)) (I_ k)) (p:=⟨w.heap.size,1,none⟩) (fun h=>absurd h (bh _)) (X_ A1 lu.length C1);refine r_ (aC rfl _ _ rfl rfl (fJ hR)) rfl ⟨_,_,rfl,hO,?_,?_,hP⟩
 all_goals
  have hQ:Fr (fun k=>k=p\/k=w.heap.size) w2 _:=Fr.setCell (Fr.setCell (cz hF fun _ h=>.inl h) (p:=⟨w.heap.size,0,none⟩) (fun _=>.inr rfl) (I_ k)) (p:=⟨w.heap.size,1,none⟩) (fun _=>.inr rfl) (X_ A1 lu.length C1)
 ·refine(d2.mono (b':=w.heap.size) (by rw [gz];omega)).fr hQ fun g hg hh=>?_;have:=(d2.block hg).1;rw [gz]at this;omega
 ·refine(hv.mono (b':=w.heap.size) O_).fr hQ fun g hg hh=>?_;have:=(hv.block hg).1;omega
structure lg(w:World) (p B:Nat) (v:Value) (l:List UInt8) (a k:Int):Prop where
 b:∃sn:Int,af w p 176 #[v,I_ a,I_ k,I_ sn]
 o:Own (ak .u8) 5 B w v (nums l)
 a0:0<=a/\a<=l.length
 k0:0<=k/\k<=4294967295
theorem SB.takeN {w:World}{A:Option Addr}{c:Nat}{l:List UInt8}(h:SB w A c l) (j:Nat):SB w A c (l.take j):=
 ⟨by have:=h.hc;rw [jo];omega,h.f,fun hl=>by
   obtain⟨b,off,e,hb⟩:=h.b (by rintro rfl;exact hl S_);exact⟨b,off,e,hb.take j⟩⟩
theorem lg.fr {w w':World}{p B:Nat}{v:Value}{l:List UInt8}{a k:Int}{S:Nat->Prop}(h:lg w p B v l a k) (hf:Fr S w w') (hp:¬S p) (hv:∀g,v.ownBlock=some g->¬S g):lg w' p B v l a k:=by
 obtain⟨sn,hb⟩:=h.b;exact⟨⟨sn,hf.ai hb hp⟩,h.o.fr hf hv,h.a0,h.k0⟩
theorem lg.new {w w':World}{p B:Nat}{v:Value}{l:List UInt8}{a k:Int}(h:lg w p B v l a k) (hf:ae w w'):lg w' p B v l a k:=h.fr hf id fun _ _=>id
def WG(w w':World) (p B:Nat) (v:Value) (l:List UInt8) (a:Int) (e:Ending):Prop:=
 ∃(kd:Int) (d:Value) (q:Bool) (v':Value) (l':List UInt8) (a' k':Int),e=.returned (.tuple #[.agg #[I_ kd,d],R_ q])/\One p w w'/\lg w' p B v' l' a' k'/\l'.length<=l.length/\
  (v'=v\/∀g,v'.ownBlock=some g->w.heap.size<=g)/\(q=true->1<=kd/\kd<=4/\((l'.length:Int)-a')+2<=(l.length:Int)-a/\∃ld:List UInt8,Own (ak .u8) 5 w.heap.size w' d (nums ld)/\ld.length<=l.length)/\(q=false->(kd=0/\d=Z_)/\(l'.length:Int)-a'<=(l.length:Int)-a)
theorem kj{w w4:World}{p B:Nat}{v v':Value}{l l':List UInt8}{a a' k':Int}{x y:Value}(r4:af w4 w 174 #[x,y]) (o4:One p w w4) (hp:p<w.heap.size) (kd:Int) (d:Value) (q:Bool) (hS:lg w4 p B v' l' a' k')
 (hv:v'=v\/∀g,v'.ownBlock=some g->w.heap.size<=g) (hl:l'.length<=l.length) (hd:q=true->1<=kd/\kd<=4/\((l'.length:Int)-a')+2<=(l.length:Int)-a/\∃ld:List UInt8,Own (ak .u8) 5 w.heap.size w4 d (nums ld)/\ld.length<=l.length) (hq:q=false->(kd=0/\d=Z_)/\(l'.length:Int)-a'<=(l.length:Int)-a):
 WG w ((w4.setCell (C_ w 0) (I_ kd)).setCell (C_ w 1) d) p B v l a (.returned (.tuple #[.agg #[I_ kd,d],R_ q])):=by
 have hO:One p w ((w4.setCell (C_ w 0) (I_ kd)).setCell (C_ w 1) d):=Fr.setCell (Fr.setCell o4 (p:=⟨w.heap.size,0,none⟩) (fun h=>absurd h (bh _)) (I_ kd)) (p:=⟨w.heap.size,1,none⟩) (fun h=>absurd h (bh _)) d;have hQ:One w.heap.size w4 ((w4.setCell (C_ w 0) (I_ kd)).setCell (C_ w 1) d):=One.bP w4 w.heap.size _ _;obtain⟨sn,hb⟩:=hS.b;refine⟨kd,d,q,v',l',a',k',rfl,hO,⟨⟨sn,(hb.bL (p:=⟨w.heap.size,0,none⟩) (by show p≠w.heap.size;omega) _).bL (p:=⟨w.heap.size,1,none⟩) (by show p≠w.heap.size;omega) _⟩,hS.o.fr hQ fun g hg e=>?_,hS.a0,hS.k0⟩,hl,hv,fun h=>?_,hq⟩
 ·have e:=e;subst e;exact hS.o.ar r4 D_ hg
 ·obtain⟨h1,h2,h3,ld,h4,h5⟩:=hd h;refine⟨h1,h2,h3,ld,h4.fr hQ fun g hg e=>?_,h5⟩;have e:=e;subst e;exact h4.ar r4 D_ hg
theorem zq{w0 w:World}(hE:fG w0) (iP:ae w0 w) {p B:Nat}(Pq:w0.heap.size<=p) (hB:B<=w.heap.size) {v:Value}{l:List UInt8}(hl:l.length<=100000) {a k:Int}(hS:lg w p B v l a k):
 H_ 106 #[Q_ p] w fun e w'=>WG w w' p B v l a e:=by
 have hmf:=atQ;obtain⟨sn,h⟩:=hS.b;have ho:=hS.o;have ha:=hS.a0;have hk:=hS.k0;obtain⟨A,c,rfl,hb,_⟩:=SB.vX ho;have n0:ae w (W_ w #[I_ 0,Z_] 174):=(ae.refl w).alloc _;have h0:=n0.ai h;have r0:af (W_ w #[I_ 0,Z_] 174) w 174 #[I_ 0,Z_]:=af.new _ _ _;have bJ:=h.lt
 have hup:∀b off,A=some ⟨b,off,none⟩->b≠p:=fun b off e=>by
  subst e;rintro rfl;exact ho.ar h D_ rfl
 have hOO:∀w',One p w w'->Own (ak .u8) 5 B w' (X_ A l.length c) (nums l)/\SB w' A c l/\fG w':=fun w' h1=>
  ⟨ho.fr h1 fun g hg e=>by
    have e:=e;subst e;exact ho.ar h D_ hg,hb.fr h1 fun b off e _=>hup b off e,hE.new (ae.one iP h1 Pq)⟩
 have HL:=ac5 (Dy p A l.length c O_ a k sn ha hk _ h0);have H:=ac5 hOO;clear hOO hE iP ho hb hup hS h h0
 go_enter func106,ntmps106
 go_wp2_with fail
 refine HL.out.mono ?_;rintro e w1 ⟨o1,s1,⟨rfl,h1⟩|⟨rfl,Wk,h1⟩⟩
 ·have r1:=o1.ai r0 O_;have Pd:=(ae.to n0).trans o1;obtain⟨k0,k1⟩:=r1.dQ;have f0:=r1.dq;go_wp2_with fail
  have hR:=r1.bP (I_ 0) Z_;exact r_ (aC rfl _ _ rfl rfl (fJ hR)) rfl (kj r1 Pd bJ 0 Z_ false ⟨⟨sn,h1⟩,(H.out _ Pd).1,ha,hk⟩ (.inl rfl) (aA _) (fun h=>by cases h) fun _=>⟨⟨rfl,rfl⟩,gq _⟩)
 ·have r1:=o1.ai r0 O_;have Pd:=(ae.to n0).trans o1;obtain⟨aN,haN⟩:∃aN:Nat,a+k=aN:=⟨(a+k).toNat,O_⟩;rw [haN]at h1;have aiw:aN<=l.length:=O_
  have HI:=ac5 (Po p A c l O_ aN aiw _ _ w1 (H.out _ Pd).2.2.t h1 (H.out _ Pd).2.1);clear HL r0 h1;go_wp2_with fail
  refine HI.out.mono ?_;rintro e w2 ⟨o2,⟨rfl,z,h2⟩|⟨i,rfl,WH,NR,h2⟩⟩
  ·have r2:=o2.ai r1 O_;have T7:=Pd.trans o2;obtain⟨k0,k1⟩:=r2.dQ;have f0:=r2.dq;go_wp2_with fail
   have hR:=r2.bP (I_ 0) Z_;exact r_ (aC rfl _ _ rfl rfl (fJ hR)) rfl (kj r2 T7 bJ 0 Z_ false ⟨⟨z,h2⟩,(H.out _ T7).1,⟨O_,O_⟩,O_⟩ (.inl rfl) (aA _) (fun h=>by cases h) fun _=>⟨⟨rfl,rfl⟩,O_⟩)
  ·have r2:=o2.ai r1 O_;have T7:=Pd.trans o2;have hE2:=(H.out _ T7).2.2;have eP:=(H.out _ T7).2.1;have jE:=fun W=>eP.cut aN i WH O_ W;have je:=eP.cutAt aN i O_;have LH:((l.drop aN).take (i-aN)).length=i-aN:=by rw [jo,gj];omega
   obtain⟨lt,ac8⟩:∃lt,lt=(l.drop aN).take (i-aN):=⟨_,rfl⟩;rw [<-ac8]at je LH;have pN:IntKind.i64.wrap ((i:Int)+2)=(i:Int)+2:=aM _ O_;have HA:=ac5 (fun W (hW:ae w2 W)=>yj (kh A c aN) (c-aN) lt O_ W (hE2.new hW) (je.new hW));rw [LH]at HA;have h20:∀W,ae w2 W->af W p 176 #[X_ A l.length c,I_ aN,I_ 0,I_ aN]:=fun W hW=>hW.ai h2;have H2:=ac5 (And.intro r2 (And.intro je (And.intro eP h20)));obtain⟨k0,k1,k2,k3⟩:=h2.rQ;have p2:=h2.lt;clear HI h2 r1 je eP hE2 ac8 r2 h20;go_wp2_with (first|go_region|fail)
   refine(HA.out _ ((ae.refl w2).drew)).mono ?_;rintro e w3 ⟨⟨n,q,rfl,hn⟩,m3⟩;have m23:ae w2 w3:=Fr.trans (ae.refl w2).drew m3;have h3:=H2.out.2.2.2 w3 m23;have r3:=m23.ai H2.out.1;have T8:=T7.trans (ae.to m23);have ac9:=H2.out.2.1.new m23;have qp:=H2.out.2.2.1.new m23;have s3:=T8.size;clear k0 k1 k2 k3 HA;obtain⟨k0,k1,k2,k3⟩:=h3.rQ;have hdl:(l.drop (i+2)).length=l.length-(i+2):=gj ..;by_cases amh:8192<((i-aN:Nat):Int)
   ·have T5:=fun W=>(LH▸ac9.AT 8192 O_ W:(Instr.sliceAt 23 (X_ (kh A c aN) (i-aN) (c-aN)) none (some (I_ 8192)) none).run prog W=.ok (X_ (kh A c aN) 8192 (c-aN)) W);have ez:=(ac9.takeN 8192).rd;have gK:(lt.take 8192).length=8192:=by rw [jo];omega
    rw [gK]at ez;obtain⟨ld,uh⟩:∃ld,ld=lt.take 8192:=⟨_,rfl⟩;rw [<-uh]at ez gK;have ac_:ld.length<=l.length:=O_
    have HF:=ac5 (oX p 3 _ (nums ld) A c l hl (i+2) O_ _ _ _ w3 h3 qp ez (by rw [aW];omega));clear ez uh gK;go_wp2_with (first|go_region|fail)
    refine HF.out.mono ?_;rintro e w4 ⟨d,v,rfl,o4,hd,hv,h4⟩;have r4:=o4.ai r3 O_;obtain⟨q0,q1⟩:=r4.dQ;have f4:=r4.dq;obtain⟨dA,dC,WI,_⟩:=hd.form;rw [aW]at WI;subst WI;go_wp2;have hR:=r4.bP (I_ 3) (X_ dA ld.length dC);exact r_ (aC rfl _ _ rfl rfl (fJ hR)) rfl (kj (v:=X_ A l.length c) (l:=l) (a:=a) (l':=l.drop (i+2)) (a':=0) (k':=0) r4 (T8.trans o4) bJ 3 (X_ dA ld.length dC) true ⟨⟨0,h4⟩,hv.mono O_,⟨O_,O_⟩,O_⟩ (.inr fun g hg=>by have:=(hv.block hg).1;omega) O_ (fun _=>⟨O_,O_,O_,ld,hd.mono O_,O_⟩) fun h=>by cases h)
   ·cases q
    ·have T5:=fun W=>qp.AT i O_ W;have ez:=(qp.takeN i).rd;have gK:(l.take i).length=i:=by rw [jo];omega
     rw [gK]at ez;obtain⟨ld,uh⟩:∃ld,ld=l.take i:=⟨_,rfl⟩;rw [<-uh]at ez gK;have ac_:ld.length<=l.length:=O_
     have HF:=ac5 (oX p 1 _ (nums ld) A c l hl (i+2) O_ _ _ _ w3 h3 qp ez (by rw [aW];omega));clear ez uh gK;go_wp2_with (first|go_region|fail)
     refine HF.out.mono ?_;rintro e w4 ⟨d,v,rfl,o4,hd,hv,h4⟩;have r4:=o4.ai r3 O_;obtain⟨q0,q1⟩:=r4.dQ;have f4:=r4.dq;obtain⟨dA,dC,WI,_⟩:=hd.form;rw [aW]at WI;subst WI;go_wp2;have hR:=r4.bP (I_ 1) (X_ dA ld.length dC);exact r_ (aC rfl _ _ rfl rfl (fJ hR)) rfl (kj (v:=X_ A l.length c) (l:=l) (a:=a) (l':=l.drop (i+2)) (a':=0) (k':=0) r4 (T8.trans o4) bJ 1 (X_ dA ld.length dC) true ⟨⟨0,h4⟩,hv.mono O_,⟨O_,O_⟩,O_⟩ (.inr fun g hg=>by have:=(hv.block hg).1;omega) O_ (fun _=>⟨O_,O_,O_,ld,hd.mono O_,O_⟩) fun h=>by cases h)
    ·by_cases Dk:65536<(n:Int)
     ·have T5:=fun W=>qp.AT i O_ W;have ez:=(qp.takeN i).rd;have gK:(l.take i).length=i:=by rw [jo];omega
      rw [gK]at ez;obtain⟨ld,uh⟩:∃ld,ld=l.take i:=⟨_,rfl⟩;rw [<-uh]at ez gK;have ac_:ld.length<=l.length:=O_
      have HF:=ac5 (oX p 4 _ (nums ld) A c l hl (i+2) O_ _ _ _ w3 h3 qp ez (by rw [aW];omega));clear ez uh gK;go_wp2_with (first|go_region|fail)
      refine HF.out.mono ?_;rintro e w4 ⟨d,v,rfl,o4,hd,hv,h4⟩;have r4:=o4.ai r3 O_;obtain⟨q0,q1⟩:=r4.dQ;have f4:=r4.dq;obtain⟨dA,dC,WI,_⟩:=hd.form;rw [aW]at WI;subst WI;go_wp2;have hR:=r4.bP (I_ 4) (X_ dA ld.length dC);exact r_ (aC rfl _ _ rfl rfl (fJ hR)) rfl (kj (v:=X_ A l.length c) (l:=l) (a:=a) (l':=l.drop (i+2)) (a':=0) (k':=0) r4 (T8.trans o4) bJ 4 (X_ dA ld.length dC) true ⟨⟨0,h4⟩,hv.mono O_,⟨O_,O_⟩,O_⟩ (.inr fun g hg=>by have:=(hv.block hg).1;omega) O_ (fun _=>⟨O_,O_,O_,ld,hd.mono O_,O_⟩) fun h=>by cases h)
     ·have f1:=h3.frozen 1;have f2:=h3.frozen 2;obtain⟨q0,q1⟩:=r3.dQ;have f4:=r3.dq;have p3:=h3.lt;go_wp2_with (first|go_region|fail)
      have bV:w.heap.size≠p:=O_
      have o34:One p w3 _:=((One.refl p w3).set 1 (I_ ((i:Int)+2))).set 2 (I_ n);have r4:=(r3.bL (p:=⟨p,1,none⟩) bV (I_ ((i:Int)+2))).bL (p:=⟨p,2,none⟩) bV (I_ n);have h4:=(h3.al 1 (I_ ((i:Int)+2))).al 2 (I_ n);have hR:=r4.bP (I_ 2) Z_;exact r_ (aC rfl _ _ rfl rfl (fJ hR)) rfl (kj (v:=X_ A l.length c) (l:=l) (a:=a) (l':=l) (a':=(i:Int)+2) (k':=n) r4 (T8.trans o34) bJ 2 Z_ true ⟨⟨_,h4⟩,(H.out _ (T8.trans o34)).1,⟨O_,O_⟩,O_⟩ (.inl rfl) (aA _) (fun _=>⟨O_,O_,O_,[],Own.nil _ _ _ _,Gv _⟩) fun h=>by cases h)
theorem Jh(x:Int):∃q:Bool,∀w:World,H_ 417 #[B_ x] w fun e w'=>e=.returned (R_ q)/\w'=w:=by
 have h:=fun w=>Tryz.strings_IndexByte ⟨#[40,41,34,123]⟩ x w;generalize Lib.indexByte (⟨#[40,41,34,123]⟩:ByteArray).data.toList x.toNat.toUInt8=i at h;by_cases h1:32<x
 ·by_cases h2:x<=126
  ·refine⟨decide (i<0),fun w=>?_⟩
   go_enter func417,ntmps417
   go_wp2_with (go_at_call 444;refine(h _).mono ?_;rintro e w' ⟨rfl,rfl⟩)
   go_ret;exact⟨rfl,rfl⟩
  ·refine⟨false,fun w=>?_⟩
   go_enter func417,ntmps417
   go_wp2;go_ret;exact⟨rfl,rfl⟩
 ·refine⟨false,fun w=>?_⟩
  go_enter func417,ntmps417
  go_wp2;go_ret;exact⟨rfl,rfl⟩
section
variable{w:World}{r:Nat}{A:Option Addr}{c:Nat}{l:List UInt8}{k:Nat}
theorem R6(h:uY w r A c l k) (hl:l.length<=100000):
 H_ 368 #[Q_ r] w fun e w'=>yQ w w' r A c l k e:=by
 have n0:ae w (W_ w #[I_ 0,E_,I_ 0] 435):=(ae.refl w).alloc _;have KY:af (W_ w #[I_ 0,E_,I_ 0] 435) w 435 #[I_ 0,E_,I_ 0]:=af.new _ _ _;have h0:=h.new n0;have hr:=h.b.lt;have d1:∀o,L_ (w.alloc o) r 1 (I_ k):=fun o=>(h.b.alloc o).cell 1;have hk:=h.hk;have H0:=ac5 h0;clear h h0
 go_enter func368,ntmps368
 go_wp2_with fail
 go_loopw [31] (fun _ wr=>∃j:Nat,k<=j/\uY wr r A c l j/\af wr w 435 #[I_ 0,E_,I_ 0]/\One r w wr) (fun _ wr=>l.length-(intOf ((wr.cell? (C_ r 1)).getD undef)).toNat)
 case atStart=>exact⟨k,aA _,H0.out,KY,(One.refl r w).alloc _⟩
 case round=>
  obtain⟨j,hkj,hR,nI,a_⟩:=hrel;have c0:=hR.b.k0;have c1:=hR.b.k1;have f1:=hR.b.frozen 1;have hj:=hR.hk;have jE:=fun W=>hR.s.cut k j hkj hj W;have je:=hR.s.cutAt k j hj;have hlen:((l.drop k).take (j-k)).length=j-k:=by rw [jo,gj];omega
  obtain⟨lp,hlp⟩:∃lp,lp=(l.drop k).take (j-k):=⟨_,rfl⟩;rw [<-hlp]at je hlen;have kY:=fun n=>(je.new (Fr.drewN (ae.refl _) n)).conv (wr.drewN n) (je.new (Fr.drewN (ae.refl _) n));have G':=fun n=>(je.new (Fr.drew (Fr.drewN (ae.refl _) n))).conv (wr.drewN n).drew (je.new (Fr.drew (Fr.drewN (ae.refl _) n)));rw [hlen]at kY G';have hls:lp.length<=l.length:=O_
  clear hlp je hlen;have bJ:=nI.lt;have g0:=nI.k0;have g1:=nI.k1;have g2:=nI.k2;have k0:=nI.frozen 0;have k1:=nI.frozen 1;have k2:=nI.frozen 2;have HX:=ac5 (And.intro hR (And.intro nI a_));by_cases NK:j<l.length
  ·obtain⟨b,off,rfl,hb⟩:=hR.s.b (by rintro rfl;simp at NK);have hx:=DW NK;obtain⟨y,hy⟩:∃y,y=l[j]:=⟨_,rfl⟩;rw [<-hy]at hx;have c2:=hb j y hx;obtain⟨q,hq⟩:=Jh (y.toNat:Int);have pN:IntKind.i64.wrap ((j:Int)+1)=(j:Int)+1:=aM _ O_;have d3:(j:Int)<l.length:=O_
   have hone2:=a_;generalize(y.toNat:Int)=z at*;clear hy hx hb
   cases q
   ·go_wp2_with fail
    go_quiet ((go_at_call 417;exact lG (hq _)))
    go_wp2_with fail
    go_region;go_wp2;obtain⟨Xu,R9,Sa⟩:=HX.out;refine r_ (cH rfl _ _ rfl rfl (fj ((((R9.drewN (nq+1)).al 0 (I_ 4)).al 1 (T_ ⟨lp.toArray⟩)).al 2 (I_ 0)))) rfl (ij (R9.drewN (nq+1)) D_ D_ hls (Xu.new (Fr.drewN (ae.refl _) _)) (fun h=>?_) (Sa.drewN _) hr);have:=cj h;omega
   ·go_wp2_with fail
    go_quiet ((go_at_call 417;exact lG (hq _)))
    go_wp2;have one:One r (wr.drewN nq) ((wr.drewN nq).setCell (C_ r 1) (I_ ((j:Int)+1))):=(One.refl r _).set 1 _;have fQ:uY ((wr.drewN nq).setCell (C_ r 1) (I_ ((j:Int)+1))) r (some ⟨b,off,none⟩) c l (j+1):=⟨(hR.b.drewN nq).al 1 _,(hR.s.new (Fr.drewN (ae.refl _) nq)).fr one fun b off e _=>cZ (hR.n b off e),hR.n,NK⟩;go_roundw
    case rel=>exact⟨j+1,O_,fQ,(nI.drewN nq).bL P_ _,Fr.setCell (a_.drewN nq) (fun _=>rfl) _⟩
    case measure=>
     have e1:=fQ.b.cell 1;rw [e1,c1];simp [intOf];omega
  ·have d3:¬(j:Int)<l.length:=O_
   have d4:=aP d3;go_wp2_with fail
   go_quiet (fail)
   go_wp2_with fail
   go_region;go_wp2;obtain⟨Xu,R9,Sa⟩:=HX.out;refine r_ (cH rfl _ _ rfl rfl (fj ((((R9.drewN (nq+1)).al 0 (I_ 4)).al 1 (T_ ⟨lp.toArray⟩)).al 2 (I_ 0)))) rfl (ij (R9.drewN (nq+1)) D_ D_ hls (Xu.new (Fr.drewN (ae.refl _) _)) (fun h=>?_) (Sa.drewN _) hr);have:=cj h;omega
end
section
attribute [local go_sem] wT
structure SpI(w W:World) (p OB:Nat) (l:List UInt8) (k m:Nat) (L:List uK) (A:Option Addr) (C:Nat) (v:Value) (l':List UInt8) (a kk:Int):Prop where
 ob:af W OB 121 #[X_ A k C]
 ow:Own im 174 w.heap.size W (X_ A k C) L
 lk:L.length=k
 nw:ae w W
 jT:lg W p w.heap.size v l' a kk
 pt:af W (OB+1) 126 #[Q_ p]
 ll:l'.length<=l.length
 ms:((l'.length:Int)-a)+2*m<=l.length
def X8(w W:World) (p OB:Nat) (l:List UInt8) (k m:Nat):Prop:=∃L A C v l' a kk,SpI w W p OB l k m L A C v l' a kk
theorem X8.turn {Bt:Nat}{w W W':World}{p OB:Nat}{l:List UInt8}{k m:Nat}(h:X8 w W p OB l k m) (t:iH Bt W W') (hB:w.heap.size<=Bt):X8 w W' p OB l k m:=by
 obtain⟨L,A,C,v,l',a,kk,h⟩:=h;obtain⟨sn,hs⟩:=h.jT.b;exact⟨L,A,C,v,l',a,kk,t.ai h.ob,t.own h.ow,h.lk,t.lI h.nw hB,⟨⟨sn,t.ai hs⟩,t.own h.jT.o,h.jT.a0,h.jT.k0⟩,t.ai h.pt,h.ll,h.ms⟩
theorem SpI.new {w W W':World}{p OB:Nat}{l:List UInt8}{k m:Nat}{L:List uK}{A:Option Addr}{C:Nat}{v:Value}{l':List UInt8}{a kk:Int}(h:SpI w W p OB l k m L A C v l' a kk) (hn:ae W W'):SpI w W' p OB l k m L A C v l' a kk:=
 ⟨hn.ai h.ob,h.ow.new hn,h.lk,h.nw.trans hn,h.jT.new hn,hn.ai h.pt,h.ll,h.ms⟩
theorem Jv{w0 w:World}(hE:fG w0) (iP:ae w0 w) (A:Option Addr) (n c:Nat) (l:List UInt8) (hl:l.length<=5000) (ez:Rd (ak .u8) w (X_ A n c) (nums l)):
 H_ 48 #[X_ A n c] w fun e w'=>(∃A' C k i,e=.returned (.tuple #[X_ A' k C,I_ i])/\2*k<=l.length)/\ae w w':=by
 obtain⟨i0,hi,dw,cE,dy⟩:=wF qt;have alu:=iP.size;refine(ay (n:=6)).1 ?_;refine jJ func48 rfl trivial ?_ rfl;simp only [ntmps48,PA,iU,WL,Nat.reduceAdd,Nat.reduceSub,rX,rY,eL,iY,Qv,OZ]
 gi_wp2_with (first
  |(refine⟨trivial,?_⟩;gi_at_call 52
    refine(callsIn_wide.2 (vM _)).mono ?_;rintro e w1 ⟨rfl,rfl⟩;have b1:=af.new w 176 #[Z_,I_ 0,I_ 0,I_ 0];have n1:ae w (W_ w #[Z_,I_ 0,I_ 0,I_ 0] 176):=(ae.refl w).alloc _;have Pg:=ez.alloc (G_ #[Z_,I_ 0,I_ 0,I_ 0] 176))
  |(refine⟨trivial,?_⟩;gi_at_call 53
    refine(callsIn_wide.2 (vN w.heap.size _ _ _ b1 Pg (by rw [aW];omega))).mono ?_;rintro e w2 ⟨rfl,o2,v2,b2,dR⟩;have n2:=ae.one n1 o2 (aA _))
  |(refine⟨trivial,?_⟩;gi_at_call 76
    refine(callsIn_wide.2 (Dw w.heap.size _)).mono ?_;rintro e w3 ⟨rfl,rfl⟩)
  |fail)
 have bO:af (W_ (W_ w2 #[Z_] 121) #[Q_ w] 126) w2 121 #[Z_]:=(af.new _ _ _).alloc _;have bA:af (W_ (W_ w2 #[Z_] 121) #[Q_ w] 126) (w2.heap.size+1) 126 #[Q_ w]:=af.cD _ _ _ _;have bS:=(b2.alloc (G_ #[Z_] 121)).alloc (G_ #[Q_ w] 126);have hvL:Own (ak .u8) 5 w.heap.size (W_ (W_ w2 #[Z_] 121) #[Q_ w] 126) v2 (nums l):=((dR.alloc (G_ #[Z_] 121)).alloc (G_ #[Q_ w] 126)).mono (by rw [gz];omega);have nL:=(n2.alloc (G_ #[Z_] 121)).alloc (G_ #[Q_ w] 126);have pP:=b2.lt;have hoL:Own im 174 w.heap.size (W_ (W_ w2 #[Z_] 121) #[Q_ w] 126) Z_ []:=Own.nil _ _ _ _;generalize((w2.alloc (G_ #[Z_] 121)).alloc (G_ #[Q_ w] 126))=wL at*;have hlA:=bA.lt;have hI0:X8 w wL w.heap.size w2.heap.size l 0 0:=⟨[],none,0,v2,l,0,0,bO,hoL,rfl,nL,⟨⟨_,bS⟩,hvL,⟨O_,O_⟩,O_,O_⟩,bA,aA _,O_⟩;clear b1 n1 Pg o2 b2 n2 dR bO bA bS hvL hoL;generalize w2.heap.size=OB at*;have HI0:=ac5 hI0;clear hI0
 refine fp (α:=uK) rfl D_ (gf:=105) (lb:= #[Q_ (OB+1)]) rfl trivial (Aw func105 K_ rfl) (encs:=fun x=> #[x.val]) (fun _=>rfl) (S:=fun _=>True) (Sp:=fun _=>False)
  (fun pre W=>X8 w W w.heap.size OB l pre.length pre.length)
  (fun pre _ W=>X8 w W w.heap.size OB l pre.length (pre.length+1))
  (fun _ _ _=>False)
  (bN fun s W W' h t=>h.turn t nL.size)
  (fun pre x=>bN fun _ W W' h t=>h.turn t nL.size)
  (fun _=>bN fun _ _ _ h _=>h) HI0.out ?hseq
  (fun x a' W=>∃Bx,af W Bx 174 #[I_ x.k,X_ x.A x.n x.c]/\a'={tmps:= #[X_ A n c,undef,Z_,I_ 0,Q_ w,Q_ OB,Q_ Bx,Q_ w,Q_ w,X_ A n c,.tuple #[],Q_ w,.func (.func 105) #[] #[Q_ (OB+1)],x.val,undef,undef,undef,undef,undef,undef,undef],defers:=[]})
  (fun x a'=>bN fun _ W W' h t=>by
    obtain⟨Bx,h1,h2⟩:=h;exact⟨Bx,t.ai h1,h2⟩)
  ?hassign ?hbody ?hdone (fun _ _ _ _ _ h=>h.elim)
 case hassign=>
  intro CC pre x W K hJ hK;obtain⟨L,A1,C1,v,l',a,kk,hJ⟩:=hJ;unfold uK.val at hK⊢
  gi_wp2
  exact hK _ _ ((KeepsOthers.alloc _ _).from _) ⟨L,A1,C1,v,l',a,kk,hJ.new ((ae.refl W).alloc _)⟩ ⟨W.heap.size,af.new _ _ _,rfl⟩
 case hbody=>
  rintro CC pre ⟨xk,xA,xn,xc⟩ a' W aeF hr ⟨L,A1,C1,v,l',a,kk,hJ⟩ ⟨Bx,bX,rfl⟩;obtain⟨k,hk⟩:∃k,pre.length=k:=⟨_,rfl⟩;have HK:=ac5 hk;rw [hk]at hJ;clear hk;have c1:=hJ.ob.k0;have dL:k<=5000:=by have:=hJ.ms;have:=hJ.jT.a0;omega
  obtain⟨x0,x1⟩:=bX.dQ;have fV:=hJ.ow.alloc (G_ #[I_ xk,X_ xA xn xc] 174);have pO:Rd im (W_ W #[I_ xk,X_ xA xn xc] 174) (X_ (M_ W) 1 1) [⟨xk,xA,xn,xc⟩]:=jI (E:=im) (x:=⟨xk,xA,xn,xc⟩) (t:=174) (af.new _ _ _);have hJ1:=hJ.new ((ae.refl W).alloc (G_ #[I_ xk,X_ xA xn xc] 174));have hLk:=hJ.lk;have HJ1:=ac5 hJ1;have HJ:=ac5 hJ;clear hJ1 hJ
  gi_wp2_with (gi_at_builtin;refine dV (E:=im) rfl _ _ _ rfl underlying121 hi dw cE dy rfl fV rfl pO rfl (by unfold maxLen;simp;omega) P_ (by have:=HJ.out.nw.size;rw [gz];omega) ?_;intro v1 w1 fE iE pM;have e1:=iE.ai HJ1.out.ob (fun hk=>fV.ar HJ1.out.ob D_ hk);have c2:=e1.k0;have f2:=e1.frozen 0;obtain⟨A2,C2,rfl,_⟩:=fE.form;rw [show(L++[(⟨xk,xA,xn,xc⟩:uK)]).length=k+1 from by simp;exact hLk]at fE pM)
  have h1:=HJ1.out;have oS:=(One.refl OB w1).set 0 (X_ A2 (k+1) C2);have hF:Fr (fun j=>(Value.slice A1 k C1).ownBlock=some j\/j=OB) (W_ W #[I_ xk,X_ xA xn xc] 174) (w1.setCell (C_ OB 0) (X_ A2 (k+1) C2)):=Fr.trans (iE.mono fun _ _ e=>.inl e) (oS.mono fun _ _ e=>.inr e)
  have db:∀{g:Nat}{ty:TypeId}{cs:Array Value},af (W_ W #[I_ xk,X_ xA xn xc] 174) g ty cs->ty≠174->ty≠121->¬((Value.slice A1 k C1).ownBlock=some g\/g=OB):=fun{g ty cs} hb t1 t2 e=>by
   rcases e with e|e
   ·exact fV.ar hb (iX t1) e
   ·exact hb.aU h1.ob t2 e
  obtain⟨sn,Uh⟩:=h1.jT.b;refine⟨fy (Fr.trans (((ae.refl W).alloc _).mono fun _ _ h=>h.elim) hF) (fun j _ hS o hh=>?_),L++[⟨xk,xA,xn,xc⟩],A2,C2,v,l',a,kk,?_⟩
  ·rcases hS with e|e
   ·exact HJ.out.ow.isCells e o hh
   ·subst e;exact HJ.out.ob.isCells o hh
  ·rw [dr,HK.out];refine⟨e1.al 0 _,fE.fr oS fun g hg e=>fE.ar e1 D_ (by have e:=e;rw [<-e];exact hg),by simp;exact hLk,ae.two h1.nw hF fun j hj=>?_,h1.jT.fr hF (db Uh D_ D_) fun g hg=>?_,hF.ai h1.pt (db h1.pt D_ D_),h1.ll,h1.ms⟩
   ·rcases hj with e|e
    ·exact(h1.ow.block e).1
    ·have:=HJ.out.nw.size;omega
   ·obtain⟨cs,hc⟩:=h1.jT.o.heap hg;exact db hc D_ D_
 case hdone=>
  intro D xs W hD _ hI hK;obtain⟨L,A1,C1,v,l',a,kk,hI⟩:=hI;obtain⟨sA,sc,rfl,_⟩:=hI.jT.o.form;obtain⟨sn,Uh⟩:=hI.jT.b;obtain⟨k,hk⟩:∃k,xs.length=k:=⟨_,rfl⟩;rw [hk]at hI;have c0:=hI.ob.k0;have Lz:W.drew.heap[D]? =some (.deferred (some [])):=hK;have HI:=ac5 hI;clear hI hk
  gi_wp2_with fail
  refine wpIn_wide.2 ?_
  go_region_held3 (fun W'=>L_ W' OB 0 (X_ A1 k C1)) (first|go_keep|assumption) ((first
   |(go_at_call 77
     refine(CZ w.heap.size sA _ sc _ _ _ _ Uh.drew).mono ?_;rintro e w4 ⟨rfl,rfl⟩;have c4:L_ W.drew OB 0 (X_ A1 k C1):=c0)
   |fail))
  gi_wp2
  refine⟨S_,.inl ⟨_,_,rfl,Gx Lz,?_⟩⟩;refine⟨_,cF rfl _ _ _,⟨A1,C1,k,_,rfl,by have:=HI.out.ms;have:=HI.out.jT.a0;omega⟩,?_⟩;exact Fr.trans' HI.out.nw.drew (Fr.dW (S:=fun k=>D=k) (bH _ D _) fun i hi=>by injection hi) fun i hi hk=>by have:=nL.size;omega
 case hseq=>
  intro CC K Kx W1 hB hKm YE k1 i1 gA;refine rW func105 rfl trivial ?_ rfl;simp only [ntmps105,PA,iU,WL,Nat.reduceAdd,Nat.reduceSub,rX,rY,eL,iY,Qv,OZ]
  gi_wp2_with fail
  refine jc (fun f a W=>∃(pre:List uK) (u2 u3 u4 u5 u6 u7 u8 u9 Sv Sw Sy Sz SA SC u16 u17:Value),X8 w W w.heap.size OB l pre.length pre.length/\K W/\l.length<pre.length+f/\
   a={tmps:= #[.func (.yield CC) #[] #[],Q_ (OB+1),u2,u3,u4,u5,u6,u7,u8,u9,Sv,Sw,Sy,Sz,SA,SC,u16,u17],defers:=[]}) (l.length+1)
   ⟨[],_,_,_,_,_,_,_,_,_,_,_,_,_,_,_,_,i1,k1,S_,rfl⟩ (fun a W=>?_) fun f a W=>?_
  ·rintro⟨pre,u2,u3,u4,u5,u6,u7,u8,u9,Sv,Sw,Sy,Sz,SA,SC,u16,u17,⟨L,A1,C1,v,l',a,kk,hI⟩,hK,hf,rfl⟩;have:=hI.ms;have:=hI.jT.a0;omega
  rintro⟨pre,u2,u3,u4,u5,u6,u7,u8,u9,Sv,Sw,Sy,Sz,SA,SC,u16,u17,⟨L,A1,C1,v,l',a,kk,hI⟩,hK,hf,rfl⟩;have ca:=hI.pt.k0;have bZ:=zq hE (iP.trans hI.nw) alu hI.nw.size (by have:=hI.ll;omega) hI.jT;have HC:=ac5 bZ;have HI:=ac5 hI;have HF:=ac5 hf;clear bZ hI hf
  gi_wp2_with fail
  refine⟨trivial,?_⟩;refine(callsIn_wide.2 HC.out).mono ?_;rintro e w3 ⟨kd,d,q,v',l2,a',k',rfl,o3,s3,gK,DD,hqt,hqf⟩;have h0:=HI.out;have hK3:K (W_ w3 #[I_ kd,d] 174):=hKm _ _ hK (gp (B:=wL.heap.size) (o3.alloc _) fun k hk=>by have hk:=hk;omega)
  have ho:Hid (∀m:Nat,((l2.length:Int)-a')+2*m<=l.length->SpI w (W_ w3 #[I_ kd,d] 174) w.heap.size OB l pre.length m L A1 C1 v' l2 a' k'):=ac5 fun m hm=>by
   obtain⟨sn,Uh⟩:=h0.jT.b;have bV:∀{g:Nat}{ty:TypeId}{cs:Array Value},af W g ty cs->ty≠176->¬g=w.heap.size:=fun hb ht=>hb.aU Uh ht;exact⟨(o3.ai h0.ob (bV h0.ob D_)).alloc _,(h0.ow.fr o3 fun g hg=>by obtain⟨cs,hc⟩:=h0.ow.heap hg;exact bV hc D_).alloc _,h0.lk,(ae.one h0.nw o3 (aA _)).alloc _,s3.new ((ae.refl w3).alloc _),(o3.ai h0.pt (bV h0.pt D_)).alloc _,gy gK h0.ll,hm⟩
  clear ca
  cases q with
  |false=>
   obtain⟨⟨rfl,rfl⟩,hle⟩:=hqf rfl;have H3:=ho.out pre.length (by have:=h0.ms;omega);have HE:Hid (X8 w (W_ w3 #[I_ 0,Z_] 174) w.heap.size OB l pre.length pre.length):=ac5 ⟨_,_,_,_,_,_,_,H3⟩;have HK3:=ac5 hK3;clear hK3 H3 ho gA hqt hqf DD s3 o3 hle gK h0
   gi_wp2
   all_goals
    refine⟨fun _ h=>(by cases h),?_⟩
    gi_wp2
   all_goals
    refine r_ (G6 rfl _ _ _) rfl ?_;exact⟨⟨_,rfl⟩,.inl ⟨pre,trivial,HE.out,HK3.out⟩⟩
  |true=>
   obtain⟨eA,pR,hle,ld,hd,LD⟩:=hqt rfl;have H3:=ho.out (pre.length+1) (by have:=h0.ms;omega);obtain⟨dA,dC,rfl,_⟩:=hd.form;obtain⟨fn,tmps,assign,body,hy,hR⟩:=gA pre ⟨kd,dA,(nums ld).length,dC⟩ (W_ w3 #[I_ kd,X_ dA (nums ld).length dC] 174) ⟨_,_,_,_,_,_,_,H3⟩ hK3;have HR:=ac5 hR;clear hK3 H3 ho gA hqt hqf DD s3 o3 hle gK h0 hR hd LD;dsimp only [uK.val]at hy
   gi_wp2_with fail
   refine HR.out.mono ?_;rintro e W5 (⟨rfl,SR,k5⟩|⟨rfl,c0,hf,_⟩)
   ·gi_wp2_with fail
    refine⟨pre++[⟨kd,dA,(nums ld).length,dC⟩],_,_,_,_,_,_,_,_,_,_,_,_,_,_,_,_,SR,k5,?_,rfl⟩;have:=HF.out;rw [dr];simp;omega
   ·exact hf.elim
end
end Go.Proofs.YtliimglbbiebiaaGreatDoor
