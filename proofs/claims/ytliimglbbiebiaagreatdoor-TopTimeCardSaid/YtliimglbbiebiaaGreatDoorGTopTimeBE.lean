import Derived.Test.YtliimglbbiebiaaGreatDoorGTopTimeBD
import Derived.Test.YtliimglbbiebiaaGreatDoorGTopTimeBA
import Derived.Test.YtliimglbbiebiaaGreatDoorGTopTimeAX
set_option maxRecDepth 100000
set_option maxHeartbeats 6400000
set_option linter.all false
namespace Go.Proofs.YtliimglbbiebiaaGreatDoor
open Go.Proofs.Tryz Go.RowKit Go.Maps
def uy(w:World):Vo->Prop
 |none=>True
 |some (v,x,u,l)=>VW w v x false/\cQ 0 w x u l/\l.length<=5000/\∀y∈l,0<=y/\y<=5000
theorem uy.new:∀{o:Vo}{w w':World},uy w o->ae w w'->uy w' o
 |none,_,_,_,_=>trivial
 |some (_,_,_,_),_,_,h,hn=>⟨hn.ai h.1,h.2.1.new hn,h.2.2⟩
theorem uy.atv:∀{o:Vo}{w:World},uy w o->∀p,H_ 19 #[.pointer (ot o),I_ p] w fun e w'=>e=.returned (.tuple #[U_ (atO o p).1,R_ (atO o p).2])/\w'=w
 |none,w,_,p=>Vz p w
 |some (_,_,_,_),_,h,p=>KG h.1 h.2.1 (by have:=h.2.2.1;omega) p
theorem uy.bd {w:World}{o:Vo}(h:uy w o) (p:Int):0<=(atO o p).1/\(atO o p).1<=5000:=by
 rcases o with _|⟨v,x,u,l⟩
 ·exact⟨gq 0,show(0:Int)<=5000 by omega⟩
 ·show 0<=(jQ l p).1/\(jQ l p).1<=5000
  unfold jQ
  split
  ·cases hg:l[(p-1).toNat]? with
   |none=>exact⟨gq 0,show(0:Int)<=5000 by omega⟩
   |some y=>exact h.2.2.2 y (YX hg)
  ·exact⟨gq 0,show(0:Int)<=5000 by omega⟩
theorem SO.vwa {w0 w:World}{base:Nat}{S:Sx}{Q:Qs}{M:List bU}{n t f i:Int}{xs:Nat}{b:Bool}:∀{o:Vo},SO w0 base w S Q M n t f i xs o b->n<=5000->uy w o
 |none,_,_=>trivial
 |some (_,_,_,l),h,hn=>⟨h.2.vw,h.2.ix,by have:=hZ h.2.kJ h.2.bd;omega,fun y hy=>by have:=h.2.bd y hy;omega⟩
theorem RO(w:World):H_ 96 #[.pointer none] w fun e w'=>e=.returned (I_ 0)/\w'=w:=by
 go_enter func96,ntmps96
 go_wp2;go_ret;exact⟨rfl,rfl⟩
theorem RP(A:Option Addr) (c:Nat) (s:List Rg) (w:World) (hv:Rd lP w (X_ A s.length c) s) (hs:s.length<=100000):
 H_ 199 #[.pointer none,X_ A s.length c] w fun e w'=>e=.returned (.tuple #[Z_,R_ false])/\ae w w':=by
 have d:IntKind.u32.wrap 0=0:=D_
 have HV:=ac5 (pw 0 (X_ A s.length c) s w hv O_);have hk:n_ 0 s=false:=by simp [n_]
 clear hv
 go_enter func199,ntmps199
 go_wp2_with fail
 refine(RO _).mono ?_;rintro e w1 ⟨rfl,rfl⟩;go_wp2_with fail
 refine HV.out.mono ?_;rintro e w2 ⟨rfl,n2⟩;rw [hk];go_wp2;go_ret2;exact⟨rfl,n2⟩
theorem aav{w:World}{o:Vo}(h:uy w o) (A:Option Addr) (k c:Nat) (s:List Rg) (hv:Rd lP w (X_ A k c) s) (gQ:∀r∈s,r.wf) (hs:s.length<=100000):
 H_ 199 #[.pointer (ot o),X_ A k c] w fun e w'=>∃v N b,e=.returned (.tuple #[v,R_ b])/\Own (ak .i64) 3 w.heap.size w' v N/\N.length<=5000/\ae w w':=by
 have xR:=hv;obtain⟨_,_,he,_⟩:=hv
 cases he
 rcases o with _|⟨v,x,u,l⟩
 ·refine(RP A c s w xR hs).mono ?_;rintro e w' ⟨rfl,hn⟩;exact⟨_,[],_,rfl,Own.nil _ _ _ _,Gv _,hn⟩
 ·refine(E6 h.1 h.2.1 (by have:=h.2.2.1;omega) A c s xR gQ hs).mono ?_;rintro e w' ⟨v,N,rfl,ho,ha,hb,hn⟩;exact⟨v,N,_,rfl,ho,by have:=uS ha hb O_;have:=h.2.2.1;omega,hn⟩
theorem RQ{w:World}{o:Vo}(h:uy w o) (p:Int):H_ 423 #[.agg #[.pointer (ot o)],I_ p] w fun e w'=>e=.returned (U_ (atO o p).1)/\ae w w':=by
 have hb:=af.new w 501 #[.pointer (ot o)];have c0:=hb.k0;have HA:=ac5 (uy.atv (uy.new h ((ae.refl w).alloc (G_ #[.pointer (ot o)] 501))) p);clear hb h;generalize ot o=pv at*;generalize atO o p=y at*
 go_enter func423,ntmps423
 go_wp2_with fail
 refine HA.out.mono ?_;rintro e w2 ⟨rfl,rfl⟩;go_wp2;go_ret;exact⟨rfl,(ae.refl w).alloc _⟩
theorem Nd{w:World}{o:Vo}(h:uy w o) (A:Option Addr) (c:Nat) (l:List Int) (hv:Rd (ak .i64) w (X_ A l.length c) l) (hl:l.length<=100000):
 H_ 422 #[X_ A l.length c,.func (.func 423) #[.agg #[.pointer (ot o)]] #[]] w fun e w'=>∃v L,e=.returned v/\Own (ak .u32) 28 w.heap.size w' v L/\L.length=l.length/\(∀y∈L,0<=y/\y<=5000)/\ae w w':=by
 obtain⟨i0,hi,dw,cE,dy⟩:=wF Ab;have hmx:l.length<=9223372036854775806:=O_
 have HV:=ac5 hv;have H:=ac5 h;clear hv h
 go_enter func422,ntmps422
 go_wp2
 go_loopw [5,10] (fun pv iv wr=>∃(k:Nat) (L:List Int),k<=l.length/\iv=I_ k/\L.length=k/\Hid (Own (ak .u32) 28 w.heap.size wr pv L/\(∀y∈L,0<=y/\y<=5000)/\ae w wr)) (fun _ iv _=>l.length-(intOf iv).toNat)
 case atStart=>exact⟨0,[],Gv _,rfl,rfl,Own.nil _ _ _ _,S_,ae.refl _⟩
 case round=>
  obtain⟨k,L,hk,rfl,hLk,HR⟩:=hrel;have br:=HR.out.2.2;obtain⟨pA,pC,rfl,_⟩:=HR.out.1.form;rw [hLk]at HR⊢;by_cases dL:k<l.length
  ·obtain⟨x,hx⟩:∃x,l[k]? =some x:=⟨_,DW dL⟩;obtain⟨_,_,he,_,az⟩:=HV.out
   cases he
   obtain⟨b,off,rfl,aF⟩:=az (by rintro rfl;simp at dL)
   have c0:L_ wr b (off+k) (I_ x):=by
    have:=aF k _ hx 0 _ rfl;simp only [ak,RZ,Au]at this;exact Fr.cell br this id
   have HS:=ac5 (RQ (H.out.new br) x);have Qf:=ac5 (And.intro br (H.out.bd x));have HLK:=ac5 hLk;generalize ot o=pv at*;generalize(atO o x).1=y at*;clear aF az hx br hLk;go_wp2_with fail
   refine HS.out.mono ?_;rintro e w2 ⟨rfl,n2⟩;have Gc:=ac5 (And.intro (HR.out.1.new n2) (Qf.out.1.trans n2));clear n2;go_wp2_with (at_builtin;refine bC (E:=ak .u32) rfl _ _ _ rfl underlying58 hi dw cE dy rfl (Gc.out.1.alloc _) rfl y w2.heap.size (af.new _ _ _) 1 rfl (by rw [HLK.out];unfold maxLen;omega) (by rw [HLK.out];omega) (by have:=Gc.out.2.size;rw [gz];omega) ?_;intro v3 w3 iL gP o_)
   go_roundw
   case rel=>
    refine⟨k+1,_,O_,by go_num,?_,ac5 ⟨iL,fun z hz=>?_,ae.append (Gc.out.2.alloc _) (Gc.out.1.alloc _) gP⟩⟩
    ·rw [dr,HLK.out];rfl
    ·rcases List.mem_append.1 hz with hz|hz
     ·exact HR.out.2.1 z hz
     ·rw [List.mem_singleton.1 hz];exact Qf.out.2
   case measure=>simp [intOf];omega
  ·obtain rfl:k=l.length:=O_
   go_wp2;go_ret;exact⟨_,L,rfl,HR.out.1,hLk,HR.out.2⟩
theorem RR{w:World}{o:Vo}(h:uy w o) (A:Option Addr) (k c:Nat) (s:List Rg) (hv:Rd lP w (X_ A k c) s) (gQ:∀r∈s,r.wf) (hs:s.length<=100000):
 H_ 379 #[.pointer (ot o),X_ A k c] w fun e w'=>∃v L b,e=.returned (.tuple #[v,R_ b])/\Own (ak .u32) 28 w.heap.size w' v L/\L.length<=5000/\(∀y∈L,0<=y/\y<=5000)/\ae w w':=by
 have hmf:=atQ;have HS:=ac5 (aav h A k c s hv gQ hs);have HE:=fun(w':World) (hn:ae w w')=>Nd (h.new hn);have HE:=ac5 HE;clear h hv;generalize Mw:ot o=pv at*
 go_enter func379,ntmps379
 go_wp2_with fail
 refine HS.out.mono ?_;rintro e w1 ⟨v,N,b,rfl,ho,hN,n1⟩;obtain⟨vA,vC,rfl,_⟩:=ho.form;have HO:=ac5 (And.intro ho n1);clear ho n1;go_wp2_with fail
 refine(HE.out w1 HO.out.2 vA vC N HO.out.1.rd O_).mono ?_;rintro e w2 ⟨u,L,rfl,hu,hL,hb,n2⟩;have HU:=ac5 (And.intro hu (And.intro hb n2));clear hu hb n2;go_wp2;go_ret2;exact⟨u,L,b,rfl,HU.out.1.mono HO.out.2.size,O_,HU.out.2.1,HO.out.2.trans HU.out.2.2⟩
section
variable{B q:Nat}{w w':World}{a b i:Int}{o:Vo}{c:fK}{l:List Int}
theorem oz(h:uk B w q a b i (ot o) c l) (hv:uy w o) (s:List Rg) (hs:Rd lP w (X_ c.sA c.sn c.sc) s) (gQ:∀r∈s,r.wf) (jE:s.length<=100000) (hl:l.length<=900000) (h0:0<a) (h1:a<=1000) (h2:0<=b) (h3:b<=1000) (gn:0<=i) (iF:i<=1000)
 (fn:Nat) (TJ:fn=324\/fn=327):
 H_ 328 #[Q_ q,.func (.func fn) #[Q_ q] #[]] w fun e w'=>jj B w w' q a b i (ot o) c l 6000 e:=by
 obtain⟨k0,k1,k2,k3⟩:=h.cells;obtain⟨_,k7,_⟩:=h.Io;obtain⟨a,rfl⟩:=tu (Int.le_of_lt h0);have H:=ac5 h;have HU:=ac5 (fun(W:World) (hn:ae w W)=>RR (hv.new hn) c.sA c.sn c.sc s (hs.new hn) gQ jE);clear h hv hs gQ;generalize Mw:ot o=pv at*
 go_enter func328,ntmps328
 go_wp2_with fail
 go_region_held3 (fun W=>L_ W q 2 (I_ i)/\L_ W q 3 (.pointer pv)/\L_ W q 7 (X_ c.sA c.sn c.sc)) (first|go_keep|(refine⟨?_,?_,?_⟩<;>assumption)) ((first
  |(go_at_call 379
    refine(HU.out _ A_).mono ?_;rintro e w2 ⟨v,L,bb,rfl,hu,hL,hb,m2⟩;have da:ae w w2:=Fr.trans A_ m2;have p2:=Fr.cell da k2 id;have p3:=Fr.cell da k3 id;have p7:=Fr.cell da k7 id;obtain⟨uA,uC,rfl,_⟩:=hu.form;have VC:=ac5 (And.intro hu.rd (And.intro hb (H.out.new da)));have HN:=ac5 da;clear hu hb m2 da)
  |fail))
 all_goals
  obtain⟨q0,q1,q2,q3⟩:=VC.out.2.2.cells;have HB:=ac5 (And.intro Mw HU);clear Mw HU p2 p3 p7 k0 k1 k2 k3 k7 q1 q2;rcases pv with _|ad
  ·go_wp2;refine r_ (G6 rfl _ _ _) rfl ?_;exact⟨rfl,l,VC.out.2.2,O_,HN.out.mono fun _ _ h=>h.elim⟩
  ·rcases bb with _|_
   ·go_wp2;refine r_ (G6 rfl _ _ _) rfl ?_;exact⟨rfl,l,VC.out.2.2,O_,HN.out.mono fun _ _ h=>h.elim⟩
   ·go_wp2_with fail
    refine(B7 uA uC L w2 VC.out.1 O_ (fun y hy=>by have:=VC.out.2.1 y hy;omega) a O_ O_).mono ?_;rintro e w3 ⟨v,S,rfl,hS,hS1,hS2,n3⟩;obtain⟨vA,vC,rfl,_⟩:=hS.form;obtain⟨v0,r0,r20⟩:=VC.out.2.2.b;have afg:∀g,v0.ownBlock=some g->g<w2.heap.size:=fun g hg=>(r20.block hg).2;have r1:=n3.ai r0;have r2:=r20.new n3;clear r0 r20;have hmx:S.length<=9223372036854775806:=O_
    have HW:=ac5 (And.intro hS (And.intro hS1 (HN.out.trans n3)));have HR0:=ac5 (show Qm B w3 q a b i (some ad) c v0 l from⟨r1,r2,(VC.out.2.2.new n3).ok,(VC.out.2.2.new n3).bw⟩)
    have pU:∀g,(Value.slice vA S.length vC).ownBlock=some g->¬(g=q\/v0.ownBlock=some g):=fun g hg e=>by
     have h5:=(hS.block hg).1;rcases e with e|e
     ·have:=VC.out.2.2.lt;omega
     ·have:=afg g e;omega
    have HAP:=ac5 pU;clear hS hS1 r1 r2 n3 q0 q3 pU afg;go_wp2
    go_loopw [38] (fun kv wr=>∃(k:Nat) (vv:Value) (l':List Int),kv=I_ k/\k<=S.length/\l'.length<=l.length+k/\Hid (Qm B wr q a b i (some ad) c vv l'/\Xc w3 wr q v0 vv)) (fun kv _=>S.length-(intOf kv).toNat)
    case atStart=>exact⟨0,v0,l,rfl,Gv _,O_,ac5 ⟨HR0.out,Fr.refl _ _,fun _ hg=>.inl hg⟩⟩
    case round=>
     obtain⟨k,vv,l',rfl,hk,eN,HR⟩:=hrel;by_cases dL:k<S.length
     ·obtain⟨x,hx⟩:∃x,S[k]? =some x:=⟨_,DW dL⟩;have hSr:=(HW.out.1.fr HR.out.2.1 HAP.out).rd;obtain⟨_,_,he,_,az⟩:=hSr
      cases he
      obtain⟨b',off,rfl,aF⟩:=az (by rintro rfl;simp at dL)
      have c0:L_ wr b' (off+k) (I_ x):=by
       have:=aF k _ hx 0 _ rfl;simp only [ak,RZ,Au]at this;exact this
      have nf:=HW.out.2.1 x (YX hx);obtain⟨x,rfl⟩:=tu nf.1;have d1:IntKind.i64.wrap (1+(x:Int))=((1+x:Nat):Int):=by rw [aM _ O_];omega
      have d2:IntKind.i64.wrap (2+(x:Int))=((2+x:Nat):Int):=by rw [aM _ O_];omega
      have HS:=ac5 (Kg HR.out.1 O_ (1+x) (2+x) O_);have hy:(2+x)-(1+x)=1:=O_
      clear aF az hx;generalize 1+x=y1 at*;generalize 2+x=y2 at*;go_wp2_with fail
      refine HS.out.mono ?_;rintro e w5 ⟨rfl,v',l2,R1,R2,R3⟩;have HR5:=ac5 (And.intro R1 (HR.out.2.trans R3));clear R1 R3;go_wp2;go_roundw
      case rel=>exact⟨k+1,v',l2,by go_num,O_,O_,HR5⟩
      case measure=>simp [intOf];omega
     ·obtain rfl:k=S.length:=O_
      have hQ:uk B wr q a b i (some ad) c l':=⟨⟨vv,HR.out.1.1,HR.out.1.2.1⟩,HR.out.1.2.2.1,H.out.bq,HR.out.1.2.2.2⟩;have hf:Fr (fun k=>B<=k) w wr:=(HW.out.2.2.mono fun _ _ h=>h.elim).trans (HR.out.2.1.mono fun g _ hg=>hg.elim (fun e=>e▸H.out.bq) fun e=>(HR0.out.2.1.block e).1);have HQ:=ac5 (And.intro hQ hf);clear hQ hf;rcases TJ with rfl|rfl
      ·go_wp2_with (go_at_call 324;refine(wQ HQ.out.1 O_ O_ h1 gn iF).mono ?_;rintro e w6 ⟨rfl,l3,s1,s2,s3⟩;have R2:=ac5 (And.intro s1 (HQ.out.2.trans s3));clear s1 s3)
       go_end0;exact⟨rfl,l3,R2.out.1,O_,R2.out.2⟩
      ·go_wp2_with (go_at_call 327;refine(Iq HQ.out.1 O_ O_ h1 h2 h3).mono ?_;rintro e w6 ⟨rfl,l3,s1,s2,s3⟩;have R2:=ac5 (And.intro s1 (HQ.out.2.trans s3));clear s1 s3)
       go_end0;exact⟨rfl,l3,R2.out.1,O_,R2.out.2⟩
theorem Cc(h:uk B w q a b i (ot o) c l) (hv:uy w o) (s:List Rg) (hs:Rd lP w (X_ c.sA c.sn c.sc) s) (gQ:∀r∈s,r.wf) (jE:s.length<=100000) (hl:l.length<=900000) (h0:0<a) (h1:a<=1000) (h2:0<=b) (h3:b<=1000) (gn:0<=i) (iF:i<=1000):
 H_ 283 #[Q_ q] w fun e w'=>jj B w w' q a b i (ot o) c l 6000 e:=by
 have hmf:=atQ;obtain⟨_,_,k8⟩:=h.Io;have HM:=ac5 (oz h hv s hs gQ jE hl h0 h1 h2 h3 gn iF);clear h hv hs gQ
 go_enter func283,ntmps283
 go_wp2_with fail
 refine(ny _ _).mono ?_;rintro e w1 ⟨rfl,rfl⟩;rcases hb:(bits .and .i64 c.it 16 !=0)with _|_
 ·go_wp2_with (go_at_call 328;refine(HM.out _ (.inl rfl)).mono ?_;rintro e w2 ⟨rfl,R⟩)
  go_end0;exact⟨rfl,R⟩
 ·go_wp2_with (go_at_call 328;refine(HM.out _ (.inr rfl)).mono ?_;rintro e w2 ⟨rfl,R⟩)
  go_end0;exact⟨rfl,R⟩
theorem Cd(h:uk B w q a b i (ot o) c l) (hv:uy w o) (s:List Rg) (hs:Rd lP w (X_ c.sA c.sn c.sc) s) (gQ:∀r∈s,r.wf) (jE:s.length<=100000) (hl:l.length<=900000) (h0:0<a) (h1:a<=1000) (h2:0<=b) (h3:b<=1000) (gn:0<=i) (iF:i<=1000):
 H_ 284 #[Q_ q] w fun e w'=>jj B w w' q a b i (ot o) c l 6000 e:=by
 have hmf:=atQ;have HM:=ac5 (oz h hv s hs gQ jE hl h0 h1 h2 h3 gn iF);clear h hv hs gQ
 go_enter func284,ntmps284
 go_wp2_with (go_at_call 328;refine(HM.out _ (.inr rfl)).mono ?_;rintro e w2 ⟨rfl,R⟩)
 go_end0;exact⟨rfl,R⟩
end
theorem Nf(q:Nat) (w:World):H_ 210 #[Q_ q] w fun e w'=>e=.returned (.tuple #[])/\w'=w:=by
 go_enter func210,ntmps210
 go_wp2;go_end0;exact⟨rfl,rfl⟩
def PlF(fn:Nat):Prop:=(∀args w,(callFunc fn args).run prog w=.ok (.enter fn args) w)/\
 ∀(B q:Nat) (w:World) (a b i:Int) (o:Vo) (c:fK) (s:List Rg),uk B w q a b i (ot o) c []->uy w o->Rd lP w (X_ c.sA c.sn c.sc) s->(∀r∈s,r.wf)->s.length<=100000->c.m.size<=1000000->0<a->a<=1000->0<=b->b<=1000->0<=i->i<=1000->
  H_ fn #[Q_ q] w fun e w'=>jj B w w' q a b i (ot o) c [] 6000 e
theorem VE(k:Int) (h1:1<=k) (h8:k<=8):∃fn,get GP k=some (ze fn)/\PlF fn:=by
 have hm:PlF 279:=⟨Aw func279 K_ rfl,fun B q w a b i o c s h _ _ _ _ _ h0 h1 _ _ gn iF=>(zV h S_ O_ h1 gn iF).mono fun _ _ h=>h.mono O_⟩;have he:PlF 280:=⟨Aw func280 K_ rfl,fun B q w a b i o c s h _ _ _ _ _ h0 h1 h2 h3 _ _=>(Bw h S_ O_ h1 h2 h3).mono fun _ _ h=>h.mono O_⟩;have:k=1\/k=2\/k=3\/k=4\/k=5\/k=6\/k=7\/k=8:=O_
 rcases this with rfl|rfl|rfl|rfl|rfl|rfl|rfl|rfl
 ·exact⟨_,rfl,hm⟩
 ·exact⟨_,rfl,hm⟩
 ·exact⟨_,rfl,he⟩
 ·exact⟨_,rfl,he⟩
 ·exact⟨281,rfl,Aw func281 K_ rfl,fun B q w a b i o c s h _ _ _ _ _ h0 h1 _ _ gn iF=>(yB h S_ O_ h1 gn iF).mono fun _ _ h=>h.mono O_⟩
 ·exact⟨282,rfl,Aw func282 K_ rfl,fun B q w a b i o c s h _ _ _ _ hm h0 h1 h2 h3 gn iF=>(yC h hm S_ O_ h1 h2 h3 gn iF).mono fun _ _ h=>h.mono O_⟩
 ·exact⟨283,rfl,Aw func283 K_ rfl,fun B q w a b i o c s h hv hs hw hl _ h0 h1 h2 h3 gn iF=>Cc h hv s hs hw hl S_ h0 h1 h2 h3 gn iF⟩
 ·exact⟨284,rfl,Aw func284 K_ rfl,fun B q w a b i o c s h hv hs hw hl _ h0 h1 h2 h3 gn iF=>Cd h hv s hs hw hl S_ h0 h1 h2 h3 gn iF⟩
theorem Ng(k:Int) (h0:0<=k) (h8:k<=8):∃fn fv bk,PlF fn/\((bk=true/\fv=ze fn)\/(bk=false/\fn=210))/\∀W,H_ 209 #[] W fun e w2=>∃m,e=.returned (.map (some m))/\ae W w2/\
 (Instr.lookup 321 (.map (some m)) (I_ k) true).run prog w2=.ok (.tuple #[fv,R_ bk]) w2:=by
 rcases(by omega:k=0\/1<=k)with rfl|h1
 ·refine⟨210,.nilFunc,false,⟨Aw func210 K_ rfl,fun B q w a b i o c s h _ _ _ _ _ _ _ _ _ _ _=>(Nf q w).mono ?_⟩,.inr ⟨rfl,rfl⟩,fun W=>(zg W).mono ?_⟩
  ·rintro e w' ⟨rfl,rfl⟩;exact jj.refl h _
  ·rintro e w2 ⟨rfl,th,m2⟩;refine⟨_,rfl,m2,?_⟩;exact th.bD (t:=321) underlying321 (OS w2) (k:=(0:Int)) (ve O_)
 ·obtain⟨fn,hg,hf⟩:=VE k h1 h8;exact⟨fn,_,true,hf,.inl ⟨rfl,rfl⟩,fun W=>zh k fn hg (ve O_) W⟩
theorem VF(a b i:Int) (h0:0<a) (h1:a<=1000) (h3:b<=1000) (gn:0<=i) (iF:i<b) (o:Vo) (c:fK) (lV:0<=c.k) (hk8:c.k<=8) (hm:c.m.size<=1000000) (w:World) (hv:uy w o) (s:List Rg) (hs:Rd lP w (X_ c.sA c.sn c.sc) s) (gQ:∀r∈s,r.wf) (jE:s.length<=100000):
 H_ 153 #[OR a b,I_ i,.pointer (ot o),c.val] w fun e w'=>∃v l,e=.returned v/\Own (ak .i64) 3 w.heap.size w' v l/\(∀x∈l,jf x)/\l.length<=6000/\ae w w':=by
 obtain⟨w0,cU⟩:∃w0,w0=(w.alloc (G_ #[I_ a,I_ b] 65)).alloc (G_ #[T_ c.t,I_ c.k,T_ c.m,X_ c.sA c.sn c.sc,I_ c.it,I_ c.mo,R_ c.si,B_ c.fl,X_ c.dA c.dn c.dc] 47):=⟨_,rfl⟩;have n0:ae w w0:=cU▸((ae.refl w).alloc _).alloc _;have a0:=cU▸(af.new _ _ _).alloc _;have b0:=cU▸af.cD _ _ _ _;obtain⟨p0,p1⟩:=a0.dQ;obtain⟨fn,fv,bk,hF,hfv,hG⟩:=Ng c.k lV hk8;have HG:=ac5 hG;have HF:=ac5 (And.intro hF.2 (And.intro hv (And.intro hs gQ)));have HE:=hF.1;have ha:a≠0:=O_
 clear hG hF hv hs gQ;generalize Mw:ot o=pv at*;have HP:=ac5 Mw;clear Mw;subst cU
 go_enter func153,ntmps153
 go_wp2_with fail
 refine(rS a b i O_ h1 h3 gn iF _).mono ?_;rintro e w1 ⟨rfl,m1⟩;have a1:=m1.ai a0;have b1:=m1.ai b0;have n1:=n0.trans m1;clear a0 b0 p0 p1 m1 n0;obtain⟨p0,p1⟩:=a1.dQ;obtain⟨k0,k1,k2,k3,k4,k5,k6,k7,k8⟩:=b1.nG;go_wp2_with fail
 go_region_held3 (fun W=>L_ W (w.heap.size+1) 1 (I_ c.k)) (first|go_keep|assumption) ((first
  |(go_at_call 209
    refine(HG.out _).mono ?_;rintro e w2 ⟨m,rfl,m2,hl⟩;have da:ae w1 w2:=Fr.trans N_ m2;have q1:=Fr.cell da k1 id)
  |fail))
 all_goals
  have a2:=da.ai a1;have b2:=da.ai b1;have n2:=n1.trans da;clear p0 p1 k0 k1 k2 k3 k4 k5 k6 k7 k8 hl m2 n1 da a1 b1 q1;obtain⟨p0,p1⟩:=a2.dQ;obtain⟨k0,k1,k2,k3,k4,k5,k6,k7,k8⟩:=b2.nG;have r2:=af.new w2 325 (Ql a b i pv c Z_);have n3:=n2.alloc (G_ (Ql a b i pv c Z_) 325)
  have HQ:Hid (H_ fn #[Q_ w2] (W_ w2 (Ql a b i pv c Z_) 325) fun e w'=>jj w.heap.size (W_ w2 (Ql a b i pv c Z_) 325) w' w2.heap.size a b i pv c [] 6000 e):=ac5 (by
   have e:=HP.out;subst e;exact HF.out.1 w.heap.size w2.heap.size _ a b i o c s ⟨⟨_,r2,Own.nil _ _ _ _⟩,S_,n2.size,n3.size⟩ (HF.out.2.1.new n3) (HF.out.2.2.1.new n3) HF.out.2.2.2 jE hm h0 h1 O_ h3 gn O_)
  have N3:=ac5 n3;clear r2 n3 n2 a2 b2;rcases hfv with⟨rfl,rfl⟩|⟨rfl,rfl⟩
  all_goals
   go_wp2_with fail
   refine HQ.out.mono ?_;rintro e w4 ⟨rfl,l',R1,R2,R3⟩;obtain⟨v4,B4,O4⟩:=R1.b;obtain⟨vA,vC,rfl,_⟩:=O4.form;have z13:=B4.oH;have HO:=ac5 (And.intro O4 (And.intro R1.ok (Fr.trans' N3.out R3 fun i hi (h:w.heap.size<=i)=>absurd hi O_)));clear B4 O4 R1 R3;go_wp2;go_ret;exact⟨_,l',rfl,HO.out.1,HO.out.2.1,by simpa using R2,HO.out.2.2⟩
section
variable{w:World}{t:Nat}{bz:Bool}{c:fK}{ms:ByteArray}{nd:Value}{x sp lk:Nat}{a b:Int}{ah out:Value}
theorem PC.base {B B' L:Nat}{w:World}{c:fK}(h:PC B L w c) (hb:B'<=B):PC B' L w c:=
 {h with
  set:=by obtain⟨s,h1,h2⟩:=h.set;exact⟨s,h1.mono hb,h2⟩
  yz:=by obtain⟨l,h1,h2,h3⟩:=h.yz;exact⟨l,h1,h2,fun g hg=>⟨gy hb (h3 g hg).1,(h3 g hg).2⟩⟩}
def ak3(w w':World) (t:Nat) (x sp lk:Nat) (a b:Int) (out:Value) (e:Ending):Prop:=
 e=.returned (.tuple #[])/\One t w w'/\∃(cc:fK) (ms:ByteArray) (nd:Value) (Og:List Int),gO w' t true cc ms nd x sp lk a b Z_ out/\PC w.heap.size 5000 w' cc/\ms.size<=100/\Own (ak .i64) 3 w.heap.size w' nd Og/\(∀y∈Og,jf y)/\Og.length<=6000
theorem Np{w0:World}(hE:fG w0) (iP:ae w0 w) (ht0:w0.heap.size<=t) (h:gO w t bz c ms nd x sp lk a b ah out) (bx:Value) (dI:Int) (o:Vo) (dn:Bool) (hs:mV w x bx dI (ot o) dn) (_hv:uy w o) (hvt:∀w',One t w w'->uy w' o) (base CM:Nat) (kd:Int) (hkd:kd=1\/kd=3\/kd=4) (dA:Option Addr) (dC:Nat) (ld:List UInt8) (LD:ld.length<=5000)
 (ho:Own im 174 base w ah [⟨kd,dA,ld.length,dC⟩]) (hd:Own (ak .u8) 5 CM w (X_ dA ld.length dC) (nums ld))
 (h0:0<a) (h1:a<=1000) (h3:b<=1000) (gn:0<=dI) (iF:dI<b):
 H_ 110 #[Q_ t] w fun e w'=>ak3 w w' t x sp lk a b out e:=by
 have Td:=hs.aU h D_;have uf:=h.lt;have kI:kd≠2:=O_
 have hdt:∀g,(Value.slice dA ld.length dC).ownBlock=some g->g≠t:=fun g hg e=>hd.ar h D_ (by rw [hg,e]);have pT:=lf ⟨kd,dA,ld.length,dC⟩ base h ho;unfold uK.val at pT;have yw:=ac5 pT;clear pT
 go_enter func110,ntmps110
 go_wp2_with fail
 refine yw.out.mono ?_;rintro e w1 ⟨rfl,m1⟩;have WW:=m1.ai h;have t2:=WW.alloc (G_ #[I_ kd,X_ dA ld.length dC] 174);have g2:=af.new w1 174 #[I_ kd,X_ dA ld.length dC];have m2:=m1.alloc (G_ #[I_ kd,X_ dA ld.length dC] 174);have pN:=m1.size;generalize nY:(w1.alloc (G_ #[I_ kd,X_ dA ld.length dC] 174))=wA at*;have kH:=t2.kH;have f17:=t2.frozen 17;obtain⟨g0,g1⟩:=g2.dQ;go_wp2_with fail
 have o3:One t w (wA.setCell (C_ t 17) Z_):=(ae.to m2).trans ((One.refl t wA).set 17 _)
 have t3:gO (wA.setCell (C_ t 17) Z_) t bz c ms nd x sp lk a b Z_ out:=by
  have q:=t2.al 17 Z_;simpa using q
 have sz3:=o3.size;generalize(wA.setCell (C_ t 17) Z_)=w3 at*;have sD:=hd.fr o3 fun g hg e=>hdt g hg e;have HE3:=hE.new (Fr.trans' iP o3 fun i hi (e:i=t)=>O_);obtain⟨_,_,he,hSB,bJ⟩:=SB.vX sD
 cases he
 have DN:=ac5 (Sl kd hkd dA dC ld LD w3 hSB (fun b off e=>(bJ b off e).2) HE3);clear sD HE3 hSB bJ;refine DN.out.mono ?_;rintro e w4 ⟨cc,Tx,rfl,Rf,Gd,m4⟩;have HPC:=ac5 (Rf.base o3.size);clear Rf;have t4:=m4.ai t3;have o4:=o3.trans (ae.to m4);have t5:=t4.alloc (G_ #[T_ cc.t,I_ cc.k,T_ cc.m,X_ cc.sA cc.sn cc.sc,I_ cc.it,I_ cc.mo,R_ cc.si,B_ cc.fl,X_ cc.dA cc.dn cc.dc] 47);have c5:=af.new w4 47 #[T_ cc.t,I_ cc.k,T_ cc.m,X_ cc.sA cc.sn cc.sc,I_ cc.it,I_ cc.mo,R_ cc.si,B_ cc.fl,X_ cc.dA cc.dn cc.dc];have o5:=o4.alloc (G_ #[T_ cc.t,I_ cc.k,T_ cc.m,X_ cc.sA cc.sn cc.sc,I_ cc.it,I_ cc.mo,R_ cc.si,B_ cc.fl,X_ cc.dA cc.dn cc.dc] 47);have l4:=t4.lt;clear nY kH f17 g0 g1 g2 t2 m2 o3 t3 sz3 m4 m1 WW pN;obtain⟨k0,k1,k2,k3,k4,k5,k6,k7,k8,k9,xQ,va,tZ,oH,t_,xY,xZ,kH,rF⟩:=t4.fh;have f5:=t4.dq;obtain⟨e0,e1,e2,e3,e4,e5,e6,e7,e8⟩:=c5.nG;have t6:=(t4.gY (R_ true) (T_ cc.t) (I_ cc.k) (T_ cc.m) (X_ cc.sA cc.sn cc.sc) (I_ cc.it) (I_ cc.mo) (R_ cc.si) (B_ cc.fl) (X_ cc.dA cc.dn cc.dc) (T_ Tx) Z_).alloc (G_ #[T_ cc.t,I_ cc.k,T_ cc.m,X_ cc.sA cc.sn cc.sc,I_ cc.it,I_ cc.mo,R_ cc.si,B_ cc.fl,X_ cc.dA cc.dn cc.dc] 47);have o6:=(One.gY w4 t (R_ true) (T_ cc.t) (I_ cc.k) (T_ cc.m) (X_ cc.sA cc.sn cc.sc) (I_ cc.it) (I_ cc.mo) (R_ cc.si) (B_ cc.fl) (X_ cc.dA cc.dn cc.dc) (T_ Tx) Z_).alloc (G_ #[T_ cc.t,I_ cc.k,T_ cc.m,X_ cc.sA cc.sn cc.sc,I_ cc.it,I_ cc.mo,R_ cc.si,B_ cc.fl,X_ cc.dA cc.dn cc.dc] 47);have c6:=af.new ((((((((((((w4.setCell (C_ t 0) (R_ true)).setCell (C_ t 1) (T_ cc.t)).setCell (C_ t 2) (I_ cc.k)).setCell (C_ t 3) (T_ cc.m)).setCell (C_ t 4) (X_ cc.sA cc.sn cc.sc)).setCell (C_ t 5) (I_ cc.it)).setCell (C_ t 6) (I_ cc.mo)).setCell (C_ t 7) (R_ cc.si)).setCell (C_ t 8) (B_ cc.fl)).setCell (C_ t 9) (X_ cc.dA cc.dn cc.dc)).setCell (C_ t 10) (T_ Tx)).setCell (C_ t 11) Z_) 47 #[T_ cc.t,I_ cc.k,T_ cc.m,X_ cc.sA cc.sn cc.sc,I_ cc.it,I_ cc.mo,R_ cc.si,B_ cc.fl,X_ cc.dA cc.dn cc.dc];have eE:((((((((((((w4.setCell (C_ t 0) (R_ true)).setCell (C_ t 1) (T_ cc.t)).setCell (C_ t 2) (I_ cc.k)).setCell (C_ t 3) (T_ cc.m)).setCell (C_ t 4) (X_ cc.sA cc.sn cc.sc)).setCell (C_ t 5) (I_ cc.it)).setCell (C_ t 6) (I_ cc.mo)).setCell (C_ t 7) (R_ cc.si)).setCell (C_ t 8) (B_ cc.fl)).setCell (C_ t 9) (X_ cc.dA cc.dn cc.dc)).setCell (C_ t 10) (T_ Tx)).setCell (C_ t 11) Z_).heap.size=w4.heap.size:=by simp [World.setCell]
 rw [eE]at c6;rcases hme:Tx.toList.isEmpty with _|_
 ·go_wp2;go_end0;exact⟨rfl,o4.trans o6,cc,Tx,_,[],t6,HPC.out.fr o6 (fun g e=>⟨_,_,(show g=t from e)▸t4,D_⟩),Gd,Own.nil _ _ _ _,S_,S_⟩
 ·go_wp2_with fail
  generalize(((((((((((((w4.setCell (C_ t 0) (R_ true)).setCell (C_ t 1) (T_ cc.t)).setCell (C_ t 2) (I_ cc.k)).setCell (C_ t 3) (T_ cc.m)).setCell (C_ t 4) (X_ cc.sA cc.sn cc.sc)).setCell (C_ t 5) (I_ cc.it)).setCell (C_ t 6) (I_ cc.mo)).setCell (C_ t 7) (R_ cc.si)).setCell (C_ t 8) (B_ cc.fl)).setCell (C_ t 9) (X_ cc.dA cc.dn cc.dc)).setCell (C_ t 10) (T_ Tx)).setCell (C_ t 11) Z_).alloc (G_ #[T_ cc.t,I_ cc.k,T_ cc.m,X_ cc.sA cc.sn cc.sc,I_ cc.it,I_ cc.mo,R_ cc.si,B_ cc.fl,X_ cc.dA cc.dn cc.dc] 47))=w7 at*;have o7:=o4.trans o6;have P6:=o7.ai hs Td;have HV7:=ac5 (hvt w7 o7);have HQ:=ac5 (HPC.out.fr o6 (fun g e=>⟨_,_,(show g=t from e)▸t4,D_⟩));generalize w4.heap.size=C at*;clear k0 k1 k2 k3 k4 k5 k6 k7 k8 k9 xQ va tZ oH t_ xY xZ kH rF f5 e0 e1 e2 e3 e4 e5 e6 e7 e8 eE t5 c5 o5 o4 o6 t4;obtain⟨k0,k1,k2,k3,k4,k5,k6,k7,k8,k9,xQ,va,tZ,oH,t_,xY,xZ,kH,rF⟩:=t6.fh;obtain⟨e0,e1,e2,e3,e4,e5,e6,e7,e8⟩:=c6.nG;have Bj:C≠t:=O_
  go_region_held3 (fun W=>L_ W t 12 (Q_ x)/\L_ W t 15 (I_ a)/\L_ W t 16 (I_ b)/\L_ W C 0 (T_ cc.t)/\L_ W C 1 (I_ cc.k)/\L_ W C 2 (T_ cc.m)/\L_ W C 3 (X_ cc.sA cc.sn cc.sc)/\L_ W C 4 (I_ cc.it)/\L_ W C 5 (I_ cc.mo)/\L_ W C 6 (R_ cc.si)/\L_ W C 7 (B_ cc.fl)/\L_ W C 8 (X_ cc.dA cc.dn cc.dc)) (first|go_keep|(refine⟨?_,?_,?_,?_,?_,?_,?_,?_,?_,?_,?_,?_⟩<;>assumption)|exact S0 _) ((first
   |(go_at_call 114
     refine(jm x bx dI (ot o) dn _ (Fr.ai (S:=fun _=>False) N_ P6 (fun h=>h))).mono ?_;rintro e w8 ⟨rfl,rfl⟩)
   |(go_at_call 18
     refine(yY x bx dI (ot o) dn _ (Fr.ai (S:=fun _=>False) N_ P6 (fun h=>h))).mono ?_;rintro e w8 ⟨rfl,rfl⟩)
   |(go_at_call 153
     obtain⟨s5,Iy,VK,aaK⟩:=HQ.out.set;refine(VF a b dI h0 h1 h3 gn iF o cc HQ.out.k.1 HQ.out.k.2 (gy HQ.out.m O_) _ (HV7.out.new N_) s5 (Iy.rd.new N_) VK aaK).mono ?_;rintro e w8 ⟨v8,l8,rfl,YG,afv,hl8,m8⟩;obtain⟨vA,vC,rfl,_⟩:=YG.form;have HO8:=ac5 (And.intro (YG.mono (b':=w.heap.size) (gy o7.size (Fr.size (S:=fun _=>False) (w:=w7) N_))) (And.intro afv hl8));clear YG afv Iy;have n8:ae w7 w8:=Fr.trans N_ m8;have t8:=n8.ai t6;have c8:=n8.ai c6;obtain⟨p0,p1,p2,p3,p4,p5,p6,p7,p8,p9,UA,Ei,UB,p13,p14,UC,UD,p17,p18⟩:=t8.fh;obtain⟨q0,q1,q2,q3,q4,q5,q6,q7,q8⟩:=c8.nG;have z11:=t8.frozen 11
     have S0:∀u,(fun W=>L_ W t 12 (Q_ x)/\L_ W t 15 (I_ a)/\L_ W t 16 (I_ b)/\L_ W C 0 (T_ cc.t)/\L_ W C 1 (I_ cc.k)/\L_ W C 2 (T_ cc.m)/\L_ W C 3 (X_ cc.sA cc.sn cc.sc)/\L_ W C 4 (I_ cc.it)/\L_ W C 5 (I_ cc.mo)/\L_ W C 6 (R_ cc.si)/\L_ W C 7 (B_ cc.fl)/\L_ W C 8 (X_ cc.dA cc.dn cc.dc)) (w8.setCell (C_ t 11) u):=fun u=>by
      have F:=(One.refl t w8).set 11 u
      have G:∀i v,i≠11->L_ w8 t i v->L_ (w8.setCell (C_ t 11) u) t i v:=fun i v hi hv=>by
       rw [OW _ _ _ _ (by intro e;injection e with e1 e2;exact hi e2.symm)];exact hv
      exact⟨G _ _ D_ UB,G _ _ D_ UC,G _ _ D_ UD,Fr.cell F q0 Bj,Fr.cell F q1 Bj,Fr.cell F q2 Bj,Fr.cell F q3 Bj,Fr.cell F q4 Bj,Fr.cell F q5 Bj,Fr.cell F q6 Bj,Fr.cell F q7 Bj,Fr.cell F q8 Bj⟩)
   |fail))
  all_goals
   first|go_end0|(go_wp2;go_end0)
   refine⟨rfl,(o7.trans (ae.to n8)).trans ((One.refl t w8).set 11 _),cc,Tx,X_ vA l8.length vC,l8,?_,(HQ.out.new n8).fr ((One.refl t w8).set 11 _) (fun g e=>⟨_,_,(show g=t from e)▸t8,D_⟩),Gd,HO8.out.1.fr ((One.refl t w8).set 11 _) (fun g hg e=>HO8.out.1.ar t8 D_ (by have e:=e;rw [<-e];exact hg)),HO8.out.2.1,HO8.out.2.2⟩;have q:=t8.al 11 (X_ vA l8.length vC);simpa using q
end
def goR:cV:=⟨10,0,⟨#[]⟩,0,⟨#[103,111,32,97,104,101,97,100]⟩,0,0,0,0,none,0,0⟩
abbrev goA:Array Value:= #[I_ 10,U_ 0,E_,I_ 0,T_ ⟨#[103,111,32,97,104,101,97,100]⟩,I_ 0,B_ 0,U_ 0,U_ 0,Z_]
theorem aaL(w:World):bF 0 w goR:=
 ⟨D_,D_,D_,D_,D_,D_,D_,D_,D_,⟨[],Own.nil _ _ _ _,S_⟩⟩
section
variable{w:World}{t:Nat}{bz:Bool}{c:fK}{ms:ByteArray}{nd:Value}{x sp lk:Nat}{a b:Int}{ah out:Value}
theorem FH{w0:World}(hT0:b_ w0) (iP:ae w0 w) (ht0:w0.heap.size<=t) (h:gO w t bz c ms nd x sp lk a b ah out) (base B:Nat) (dA:Option Addr) (dC dn:Nat)
 (ho:Own im 174 base w ah [⟨2,dA,dn,dC⟩]) (lo:List Int) (wX:Own (ak .u8) 5 B w out lo) (fi:lo.length<=100000000000000) (hB:B<=w.heap.size):
 H_ 110 #[Q_ t] w fun e w'=>e=.returned (.tuple #[])/\∃eh iR,gO w' t bz c ms nd x sp lk a b Z_ eh/\Own (ak .u8) 5 B w' eh iR/\iR.length<=lo.length+100002/\Fr (fun k=>k=t\/out.ownBlock=some k) w w'/\∀g,eh.ownBlock=some g->out.ownBlock=some g\/w.heap.size<=g:=by
 have uf:=h.lt;have pT:=lf ⟨2,dA,dn,dC⟩ base h ho;unfold uK.val at pT;have yw:=ac5 pT;clear pT
 go_enter func110,ntmps110
 go_wp2_with fail
 refine yw.out.mono ?_;rintro e w1 ⟨rfl,m1⟩;have WW:=m1.ai h;have t2:=WW.alloc (G_ #[I_ 2,X_ dA dn dC] 174);have g2:=af.new w1 174 #[I_ 2,X_ dA dn dC];have m2:=m1.alloc (G_ #[I_ 2,X_ dA dn dC] 174);have pN:=m1.size;generalize nY:(w1.alloc (G_ #[I_ 2,X_ dA dn dC] 174))=wA at*;have kH:=t2.kH;have f17:=t2.frozen 17;obtain⟨g0,g1⟩:=g2.dQ;have J6:∀W:World,af (W_ W goA 53) W 53 goA:=fun W=>af.new _ _ _;go_wp2_with fail
 have o3:One t w (wA.setCell (C_ t 17) Z_):=(ae.to m2).trans ((One.refl t wA).set 17 _)
 have t3:gO (wA.setCell (C_ t 17) Z_) t bz c ms nd x sp lk a b Z_ out:=by
  have q:=t2.al 17 Z_;simpa using q
 have sz3:=o3.size;have jy:(wA.setCell (C_ t 17) Z_).heap.size=wA.heap.size:=by simp [World.setCell]
 generalize(wA.setCell (C_ t 17) Z_)=w3 at*;have HE3:=hT0.new (Fr.trans' iP o3 fun i hi (e:i=t)=>O_);have fg:=wX.fr o3 fun g hg e=>wX.ar h D_ (by have e:=e;rw [<-e];exact hg);have nA:=(ae.refl w3).alloc (G_ goA 53);have hRd:=jn (E:=cG) (x:=goR) (J6 w3)
 have HW:=ac5 (sy B (X_ (M_ w3) 1 1) lo 100002 (t3.alloc _) (fg.new nA) O_ (gy hB (gy sz3 nA.size)) fun W hW=>(wh 0 [goR] _ W (hRd.new hW) S_ (fun r hr=>by rw [List.mem_singleton.1 hr];exact aaL W) ((HE3.new nA).new hW)).mono fun e W' hh=>by
  obtain⟨v,L,h1,h2,h3,h4⟩:=hh;exact⟨v,L,h1,h2,by simpa using h3,h4⟩)
 rw [jy]at HW;have O3:=ac5 (And.intro o3 nA);clear fg nA hRd HE3 t3 o3;refine HW.out.mono ?_;rintro e w5 ⟨rfl,eh,iR,t5,h5,l5,f5,b5⟩;have F5:=ac5 (And.intro t5 (And.intro h5 (And.intro f5 b5)));clear t5 h5 f5 b5;go_wp2;refine r_ (G6 rfl _ _ _) rfl ?_;refine⟨rfl,eh,iR,F5.out.1,F5.out.2.1,O_,?_,fun g hg=>(F5.out.2.2.2 g hg).imp id fun Gr=>gy O3.out.1.size (gy O3.out.2.size Gr)⟩;exact((O3.out.1.mono fun _ _ e=>.inl e).trans (O3.out.2.mono fun _ _ h=>h.elim)).trans F5.out.2.2.1
end
end Go.Proofs.YtliimglbbiebiaaGreatDoor
