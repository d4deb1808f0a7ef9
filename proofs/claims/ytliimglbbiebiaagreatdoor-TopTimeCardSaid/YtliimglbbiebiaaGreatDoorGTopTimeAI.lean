import Derived.Test.YtliimglbbiebiaaGreatDoorGTopTimeAA
import Derived.Test.YtliimglbbiebiaaGreatDoorGTopTimeAC
set_option maxRecDepth 100000
set_option maxHeartbeats 6400000
set_option linter.all false
namespace Go.Proofs.YtliimglbbiebiaaGreatDoor
open Go.Proofs.Tryz Go.RowKit Go.Maps
theorem af.gY {w:World}{g:Nat}{t:TypeId}{a0 a1 a2 a3 a4 a5 a6 a7 a8 a9 GL SP a12 a13 a14 a15 a16 a17 a18:Value}(h:af w g t #[a0,a1,a2,a3,a4,a5,a6,a7,a8,a9,GL,SP,a12,a13,a14,a15,a16,a17,a18]) (b0 b1 b2 b3 b4 b5 b6 b7 b8 b9 WO b11:Value):af ((((((((((((w.setCell (C_ g 0) b0).setCell (C_ g 1) b1).setCell (C_ g 2) b2).setCell (C_ g 3) b3).setCell (C_ g 4) b4).setCell (C_ g 5) b5).setCell (C_ g 6) b6).setCell (C_ g 7) b7).setCell (C_ g 8) b8).setCell (C_ g 9) b9).setCell (C_ g 10) WO).setCell (C_ g 11) b11) g t #[b0,b1,b2,b3,b4,b5,b6,b7,b8,b9,WO,b11,a12,a13,a14,a15,a16,a17,a18]:=by
 have q:=((((((((((((h.al 0 b0).al 1 b1).al 2 b2).al 3 b3).al 4 b4).al 5 b5).al 6 b6).al 7 b7).al 8 b8).al 9 b9).al 10 WO).al 11 b11);simpa using q
theorem One.gY (w:World) (g:Nat) (b0 b1 b2 b3 b4 b5 b6 b7 b8 b9 WO b11:Value):One g w ((((((((((((w.setCell (C_ g 0) b0).setCell (C_ g 1) b1).setCell (C_ g 2) b2).setCell (C_ g 3) b3).setCell (C_ g 4) b4).setCell (C_ g 5) b5).setCell (C_ g 6) b6).setCell (C_ g 7) b7).setCell (C_ g 8) b8).setCell (C_ g 9) b9).setCell (C_ g 10) WO).setCell (C_ g 11) b11):=(((((((((((((One.refl g w).set 0 b0).set 1 b1).set 2 b2).set 3 b3).set 4 b4).set 5 b5).set 6 b6).set 7 b7).set 8 b8).set 9 b9).set 10 WO).set 11 b11)
structure Ev where
 k:Int
 u:Int
 f:Int
 deriving DecidableEq
def Ev.val (e:Ev):Value:=.agg #[I_ e.k,U_ e.u,B_ e.f]
def yx:cr Ev where
 enc e:=[I_ e.k,U_ e.u,B_ e.f]
 sz:=3
 len _:=rfl
 one x u hu:=by simp at hu;rcases hu with rfl|rfl|rfl<;>rfl
 pos:=O_
def Ev.wf (e:Ev):Prop:=(Lit.int .i64 e.k).wf=true/\(Lit.int .u32 e.u).wf=true/\(Lit.int .u8 e.f).wf=true
theorem Bm:(prog.info? 232).map (fun i=>(i.zero,i.size,i.bytes))=some (some (.agg #[.int .i64 0,.int .u32 0,.int .u8 0]),3,16):=K_
def nameOf(k:Int):ByteArray:=if k=1 then "arrived".toUTF8 else if k=2 then "gone".toUTF8 else if k=3 then "changed".toUTF8 else⟨#[]⟩
theorem P7(k:Int) (w:World):H_ 299 #[I_ k] w fun e w'=>e=.returned (T_ (nameOf k))/\w=w':=by
 by_cases h1:k=1
 ·subst h1
  go_enter func299,ntmps299
  go_wp2;go_ret;exact⟨rfl,rfl⟩
 ·by_cases h2:k=2
  ·subst h2
   go_enter func299,ntmps299
   go_wp2;go_ret;exact⟨rfl,rfl⟩
  ·by_cases h3:k=3
   ·subst h3
    go_enter func299,ntmps299
    go_wp2;go_ret;exact⟨rfl,rfl⟩
   ·have hn:nameOf k=⟨#[]⟩:=by simp [nameOf,h1,h2,h3]
    rw [hn];clear hn;have b1:(k==1)=false:=by simp [h1]
    have b2:(k==2)=false:=by simp [h2]
    have b3:(k==3)=false:=by simp [h3]
    go_enter func299,ntmps299
    go_wp2;go_ret;exact⟨rfl,rfl⟩
theorem Bn(k:Int):(nameOf k).toList.isEmpty= !decide (1<=k/\k<=3):=by
 by_cases h1:k=1
 ·subst h1;decide +kernel
 ·by_cases h2:k=2
  ·subst h2;decide +kernel
  ·by_cases h3:k=3
   ·subst h3;decide +kernel
   ·have hd:¬(1<=k/\k<=3):=O_
    simp only [nameOf,h1,h2,h3,hd,if_false,decide_false,Bool.not_false]
    decide +kernel
theorem Ma(v:Ev) (w:World):H_ 242 #[v.val] w fun e w'=>e=.returned (R_ (decide (1<=v.k/\v.k<=3)))/\ae w w':=by
 have hn:=Bn v.k;obtain⟨k,u,f⟩:=v;unfold Ev.val;simp only at hn⊢;generalize decide (1<=k/\k<=3)=b at hn⊢;have HN:=ac5 hn;clear hn
 go_enter func242,ntmps242
 go_wp2_with (go_at_call 299;refine(P7 k _).mono ?_;generalize nameOf k=s at HN⊢;rintro e w' ⟨rfl,rfl⟩)
 go_ret;refine⟨?_,(ae.refl _).alloc _⟩
 show Ending.returned (R_ (!s.toList.isEmpty))=_
 rw [HN.out,Bool.not_not]
def later(e:Ev) (l:List Ev):Bool:=decide (e.k=3)&&l.any fun x=>decide (x.k=3)&&decide (x.u=e.u)
def squeeze:List Ev->List Ev
 |[]=>[]
 |e::l=>if later e l then squeeze l else e::squeeze l
theorem drop_cons{α:Type}{l:List α}{k:Nat}{x:α}(h:l[k]? =some x):l.drop k=x::l.drop (k+1):=by
 obtain⟨hk,rfl⟩:=List.getElem?_eq_some_iff.1 h;exact acZ hk
theorem Bo{l:List Ev}{k:Nat}{x:Ev}(h:l[k]? =some x):squeeze (l.drop k)=if later x (l.drop (k+1))then squeeze (l.drop (k+1))else x::squeeze (l.drop (k+1)):=by
 rw [drop_cons h,squeeze]
theorem zP{l:List Ev}{k:Nat}{x:Ev}:later x (l.drop k)=true<->x.k=3/\∃i y,k<=i/\l[i]? =some y/\y.k=3/\y.u=x.u:=by
 unfold later;simp only [JU,aJ,CN]
 constructor
 ·rintro⟨h1,y,hy,h2,h3⟩;obtain⟨i,hi⟩:=List.mem_iff_getElem?.1 hy;rw [aR]at hi;exact⟨h1,k+i,y,O_,hi,h2,h3⟩
 ·rintro⟨h1,i,y,hi,hy,h2,h3⟩;refine⟨h1,y,List.mem_iff_getElem?.2 ⟨i-k,?_⟩,h2,h3⟩;rw [aR,show k+(i-k)=i by omega];exact hy
theorem wG(l:List Ev):(squeeze l).length<=l.length:=by
 induction l with
 |nil=>simp [squeeze]
 |cons e l ih=>
  rw [squeeze]
  split
  ·simp;omega
  ·simp;exact ih
def Ib(w:World) (g:Nat) (lb:Array Value) (p:Ev->Bool):Prop:=
 ∀(W:World) (x:Ev),ae w W->H_ g (#[x.val]++lb) W fun e w'=>e=.returned (R_ (p x))/\ae W w'
theorem zQ(g:Nat) (lb:Array Value) (p:Ev->Bool) (hE:∀args w,(callFunc g args).run prog w=.ok (.enter g args) w) (v:Value) (l:List Ev) (w:World) (hp:Ib w g lb p) (hv:Rd yx w v l) (hl:l.length<=200000000):
 H_ 227 #[v,.func (.func g) #[] lb] w fun e w'=>∃y n,e=.returned (.tuple #[y,n])/\Own yx 232 w.heap.size w' y (l.filter p)/\Own yx 232 w.heap.size w' n (l.filter fun x=> !p x)/\ae w w':=by
 obtain⟨A,c,rfl,hc,az⟩:=hv;have HC:=ac5 az;clear az;obtain⟨i0,hi,dw,cE,dy⟩:=wF Bm
 go_enter func227,ntmps227
 go_wp2
 go_loopw [4,5,10] (fun vy vn vi wr=>∃k:Nat,k<=l.length/\vi=I_ k/\Own yx 232 w.heap.size wr vy ((l.take k).filter p)/\Own yx 232 w.heap.size wr vn ((l.take k).filter fun x=> !p x)/\
  (vy.ownBlock=none\/vy.ownBlock≠vn.ownBlock)/\ae w wr) (fun _ _ vi _=>l.length-(intOf vi).toNat)
 case atStart=>exact⟨0,Gv _,rfl,Own.nil _ _ _ _,Own.nil _ _ _ _,.inl rfl,ae.refl _⟩
 case round=>
  obtain⟨k,hk,rfl,hy,hn,hyn,c_⟩:=hrel;by_cases dL:k<l.length
  ·obtain⟨x,hx⟩:∃x,l[k]? =some x:=⟨_,DW dL⟩;obtain⟨b,off,rfl,aF⟩:=HC.out (by rintro rfl;simp at dL);obtain⟨xk,xu,xf⟩:=x;have c0:L_ wr b (off+k*3) (I_ xk):=Fr.cell c_ (aF k _ hx 0 _ rfl) id;have c1:L_ wr b (off+k*3+1) (U_ xu):=Fr.cell c_ (aF k _ hx 1 _ rfl) id;have c2:L_ wr b (off+k*3+2) (B_ xf):=Fr.cell c_ (aF k _ hx 2 _ rfl) id;have HX:=ac5 hx;clear aF hx;have bZ:=hp _ ⟨xk,xu,xf⟩ (c_.alloc (G_ #[I_ xk,U_ xu,B_ xf] 232));have ti:af (wr.alloc (G_ #[I_ xk,U_ xu,B_ xf] 232)) wr 232 #[I_ xk,U_ xu,B_ xf]:=af.new _ _ _;have eE:=c_.size;have uf:(l.take k).length<=k:=List.length_take_le _ _;have hfy:((l.take k).filter p).length<=k:=gy (cR _ _) uf;have TJ:((l.take k).filter fun x=> !p x).length<=k:=gy (cR _ _) uf
   cases mT:p ⟨xk,xu,xf⟩
   all_goals
    rw [mT]at bZ;have HP:=ac5 mT;have eH:=ac5 bZ;clear mT bZ;go_wp2_with fail
    refine eH.out.mono ?_;rintro e w1 ⟨rfl,br⟩;have fB:=br.size;rw [gz]at fB;have gN:=br.ai ti;have d0:=gN.k0;have d1:=gN.k1;have d2:=gN.k2;have gM:=(hy.alloc (G_ #[I_ xk,U_ xu,B_ xf] 232)).new br;have Ic:=(hn.alloc (G_ #[I_ xk,U_ xu,B_ xf] 232)).new br;have JO:ae w w1:=(c_.alloc _).trans br;clear c0 c1 c2 ti hy hn c_ eH br gN
   ·go_wp2_with (at_builtin;refine bC (E:=yx) rfl _ _ _ rfl underlying223 hi dw cE dy rfl (Ic.alloc _) rfl ⟨xk,xu,xf⟩ w1.heap.size (af.new _ _ _) 1 rfl (by unfold maxLen;omega) O_ P_ ?_;intro v2 w2 dR dU sg)
    have pU:=gM.alloc (G_ #[I_ xk,U_ xu,B_ xf] 232) |>.apart (Ic.alloc _) hyn dU sg
    have lN:=ae.append (JO.alloc _) (Ic.alloc _) dU;have et:=gk HX.out;go_roundw
    case rel=>
     refine⟨k+1,O_,by go_num,?_,?_,pU.2,lN⟩
     ·rw [et,Kk];simpa [HP.out]using pU.1
     ·rw [et,Kk];simpa [HP.out]using dR
    case measure=>simp [intOf];omega
   ·go_wp2_with (at_builtin;refine bC (E:=yx) rfl _ _ _ rfl underlying223 hi dw cE dy rfl (gM.alloc _) rfl ⟨xk,xu,xf⟩ w1.heap.size (af.new _ _ _) 1 rfl (by unfold maxLen;omega) O_ P_ ?_;intro v2 w2 dR dU sg)
    have pU:=Ic.alloc (G_ #[I_ xk,U_ xu,B_ xf] 232) |>.apart (gM.alloc _) (vu hyn) dU sg
    have lN:=ae.append (JO.alloc _) (gM.alloc _) dU;have et:=gk HX.out;go_roundw
    case rel=>
     refine⟨k+1,O_,by go_num,?_,?_,vu pU.2,lN⟩
     ·rw [et,Kk];simpa [HP.out]using dR
     ·rw [et,Kk];simpa [HP.out]using pU.1
    case measure=>simp [intOf];omega
  ·go_wp2;go_ret2;have e1:l.take k=l:=Hv O_;rw [e1]at hy hn;exact⟨_,_,rfl,hy,hn,c_⟩
theorem P8:laidOutB prog=true:=K_
theorem Zb:398<prog.types.size:=cj K_
theorem Ej:prog.cellsOf 398=2:=K_
theorem Zc:Keyed prog 398:=Keyed.of_law (deep_law_laid P8 (m:=2) O_ Zb K_ K_)
theorem aja:prog.keyType 398=true:=K_
theorem Mb(a b:Int):Value.formed prog 398 (.agg #[I_ a,U_ b])=true:=by
 simp [Value.formed,underlying398,Ej]
theorem UE:(match prog.underlying 398 with|some (.array _ _)|some (.struct _)=>true|_=>false)=true:=by rw [underlying398]
def Bp:el prog 398 (Int×Int) where
 law:=Zc
 kv:=fun p=>.agg #[I_ p.1,U_ p.2]
 kl:=fun p=>(DataW.agg [.lit (.int .i64 p.1),.lit (.int .u32 p.2)]:DataW Value).asKey
 ok:=fun p=>(Lit.int .i64 p.1).wf=true/\(Lit.int .u32 p.2).wf=true
 key:=fun p h=>(keyOf_asKey (H:=Value) (enc:=fun q=>q.2) (w:=default) (base:=0) (sp:=fun _=>true) (held:=true) aja UE (Mb p.1 p.2)
  (Go.Joins.shut_agg2 (y0:=(.lit (.int .i64 p.1),[])) (y1:=(.lit (.int .u32 p.2),[])) underlying398 K_ Ej ⟨1,by simp [DataW.trod,underlying3,h.1]⟩ ⟨1,by simp [DataW.trod,underlying28,h.2]⟩)).1
 inj:=fun a b h=>by
  injection h with h;simp only [Array.mk.injEq,List.cons.injEq,Value.int.injEq,true_and,and_true]at h;exact Prod.ext h.1 h.2
def sC(l:List Ev) (k:Nat) (M:List ((Int×Int)×Value)):Prop:=
 ∀i e,i<k->l[i]? =some e->∃j:Nat,get M (e.k,e.u)=some (.int .i64 j)/\i<=j/\j<k/\∃e',l[j]? =some e'/\e'.k=e.k/\e'.u=e.u
theorem sC.step {l:List Ev}{k:Nat}{M:List ((Int×Int)×Value)}(h:sC l k M) {x:Ev}(hx:l[k]? =some x):sC l (k+1) (put M (x.k,x.u) (I_ (k:Nat))):=by
 intro i e hi he;by_cases hk:(e.k,e.u)=(x.k,x.u)
 ·rw [hk,bW];injection hk with h1 h2;exact⟨k,rfl,O_,O_,x,hx,h1.symm,h2.symm⟩
 ·have Yx:i<k:=by
   rcases GA i k with h1|h1
   ·exact h1
   ·obtain rfl:i=k:=O_
    rw [hx]at he;injection he with he;subst he;exact absurd rfl hk
  rw [aE M _ hk];obtain⟨j,h1,h2,h3,h4⟩:=h i e Yx he;exact⟨j,h1,h2,O_,h4⟩
theorem sC.adD {l:List Ev}{M:List ((Int×Int)×Value)}(h:sC l l.length M) {k:Nat}{x:Ev}(hx:l[k]? =some x) (h3:x.k=3):
 ∃j:Nat,get M (x.k,x.u)=some (.int .i64 j)/\j<l.length/\((j=k)<->later x (l.drop (k+1))=false):=by
 obtain⟨j,h1,h2,h4,y,hy,hyk,hyu⟩:=h k x (List.getElem?_eq_some_iff.1 hx).1 hx;refine⟨j,h1,h4,?_⟩
 constructor
 ·rintro rfl
  cases hl:later x (l.drop (j+1))with
  |false=>rfl
  |true=>
   obtain⟨_,i,z,hi,hz,WY,hzu⟩:=zP.1 hl;obtain⟨j',h5,h6,_⟩:=h i z (List.getElem?_eq_some_iff.1 hz).1 hz;rw [WY,hzu,<-h3,h1]at h5;injection h5 with h5;injection h5 with _ h5;omega
 ·intro hl;rcases GA k j with hk|hk
  ·have:later x (l.drop (k+1))=true:=zP.2 ⟨h3,j,y,O_,hy,by rw [hyk,h3],hyu⟩;rw [hl]at this
   cases this
  ·omega
theorem Ie{α:Type} [DecidableEq α] (M:List (α×Value)) (a:α) (v:Value):(put M a v).length<=M.length+1:=by
 unfold put del;rw [iU];have:=cR (fun p:α×Value=>decide (p.1≠a)) M;omega
theorem UF(w:World):(zeroValue 3).run prog w=.ok (I_ 0) w:=K_
theorem Ek(v:Value) (l:List Ev) (w:World) (hv:Rd yx w v l) (gQ:∀x∈l,x.wf) (hl:l.length<=200000000):
 H_ 229 #[v] w fun e w'=>∃o,e=.returned o/\Own yx 232 w.heap.size w' o (squeeze l)/\ae w w':=by
 obtain⟨A,c,rfl,hc,az⟩:=hv;have HC:=ac5 az;have HW:=ac5 gQ;clear az gQ;have uH:= @run_makeMap prog;obtain⟨i0,hi,dw,cE,dy⟩:=wF Bm
 go_enter func229,ntmps229
 go_wp2
 go_loopw [12] (fun vi wr=>∃(k:Nat) (M:List ((Int×Int)×Value)),k<=l.length/\vi=I_ k/\HasMap Bp wr w.heap.size M/\M.length<=k/\sC l k M/\ae w wr) (fun vi _=>l.length-(intOf vi).toNat)
 case atStart=>exact⟨0,[],Gv _,rfl,HasMap.made _ _,aA _,fun i e hi=>O_,(ae.refl _).alloc _⟩
 case round=>
  obtain⟨k,M,hk,rfl,hM,hMl,hL,c_⟩:=hrel;have HL:=ac5 hL;clear hL;by_cases dL:k<l.length
  ·obtain⟨x,hx⟩:∃x,l[k]? =some x:=⟨_,DW dL⟩;obtain⟨b,off,rfl,aF⟩:=HC.out (by rintro rfl;simp at dL);have UG:=HW.out x (YX hx);have c0:L_ wr b (off+k*3) (I_ x.k):=Fr.cell c_ (aF k _ hx 0 _ rfl) id;have c1:L_ wr b (off+k*3+1) (U_ x.u):=Fr.cell c_ (aF k _ hx 1 _ rfl) id;have c2:L_ wr b (off+k*3+2) (B_ x.f):=Fr.cell c_ (aF k _ hx 2 _ rfl) id;have HX:=ac5 hx;have HXW:=ac5 UG;clear aF hx UG;go_wp2_with (at_mapUpdate;refine oK (E:=Bp) rfl _ _ _ 396 3 rfl underlying396 (hM.alloc _) (by unfold maxLen;omega) (x.k,x.u) ⟨HXW.out.1,HXW.out.2.1⟩ (I_ k) rfl rfl rfl ?_;intro w1 hM1 fV)
   go_roundw
   case rel=>exact⟨k+1,_,O_,by go_num,hM1,by have:=Ie M (x.k,x.u) (I_ k);omega,HL.out.step HX.out,ae.one (c_.alloc _) fV (aA _)⟩
   case measure=>simp [intOf];omega
  ·obtain rfl:k=l.length:=O_
   go_wp2;obtain⟨wo,rfl⟩:∃wo:World,wo=wr:=⟨_,rfl⟩
   go_loopw [6,27] (fun vo vi wr=>∃(k:Nat) (o:List Ev),k<=l.length/\vi=I_ k/\Own yx 232 w.heap.size wr vo o/\o.length<=k/\Hid (o++squeeze (l.drop k)=squeeze l)/\HasMap Bp wr w.heap.size M/\ae w wr/\vo.ownBlock≠some w.heap.size) (fun _ vi _=>l.length-(intOf vi).toNat)
   case atStart=>exact⟨0,[],Gv _,rfl,Own.nil _ _ _ _,aA _,by show []++squeeze (l.drop 0)=squeeze l;rfl,hM,c_,by simp [Value.ownBlock]⟩
   case round=>
    obtain⟨k,o,kI,rfl,ho,Te,HS,th,lN,bV⟩:=hrel;clear hM c_ hMl;by_cases dL:k<l.length
    ·obtain⟨x,hx⟩:∃x,l[k]? =some x:=⟨_,DW dL⟩;obtain⟨b,off,rfl,aF⟩:=HC.out (by rintro rfl;simp at dL);have UG:=HW.out x (YX hx);have c0:L_ wr b (off+k*3) (I_ x.k):=Fr.cell lN (aF k _ hx 0 _ rfl) id;have c1:L_ wr b (off+k*3+1) (U_ x.u):=Fr.cell lN (aF k _ hx 1 _ rfl) id;have c2:L_ wr b (off+k*3+2) (B_ x.f):=Fr.cell lN (aF k _ hx 2 _ rfl) id;have Zd:=lN.size;have Ig:=Bo hx;have dz:later x (l.drop (k+1))=false->(o++[x])++squeeze (l.drop (k+1))=squeeze l:=fun h=>by rw [<-HS.out,Ig,h];simp
     have WZ:later x (l.drop (k+1))=true->o++squeeze (l.drop (k+1))=squeeze l:=fun h=>by rw [<-HS.out,Ig,h];simp
     have HX:=ac5 hx;have W6:=ac5 dz;have adG:=ac5 WZ;have HXW:=ac5 UG;clear aF hx UG Ig dz WZ;obtain⟨xk,xu,xf⟩:=x;dsimp only at c0 c1 c2;by_cases h3:xk=3
     ·subst h3;obtain⟨j,hj1,hj2,hj3⟩:=HL.out.adD HX.out rfl;have qz:=(th.alloc (G_ #[I_ 3,U_ xu,B_ xf] 232)).eG (t:=396) underlying396 (UF _) (k:=(3,xu)) ⟨HXW.out.1,HXW.out.2.1⟩;rw [hj1]at qz;have hkv:Bp.kv ((3:Int),xu)=.agg #[I_ 3,U_ xu]:=rfl;rw [hkv]at qz;simp only [ON]at qz;have HJ:=ac5 hj3;clear hj1 hj3 hkv;by_cases zO:j=k
      ·subst zO;go_wp2_with (at_builtin;refine bC (E:=yx) rfl _ _ _ rfl underlying223 hi dw cE dy rfl ((ho.alloc _).alloc _) rfl ⟨3,xu,xf⟩ (wr.heap.size+1) (af.cD _ _ _ _) 1 rfl (by unfold maxLen;omega) O_ P_ ?_;intro v2 w2 dR dU sg)
       have hM3:=((th.alloc _).alloc _).fr dU bV
       have Ze:v2.ownBlock≠some w.heap.size:=by
        rcases sg with h|h
        ·rw [h];exact bV
        ·rw [h];have:=th.lt;simp;omega
       have P9:=ae.append ((lN.alloc _).alloc _) ((ho.alloc _).alloc _) dU;go_roundw
       case rel=>exact⟨j+1,_,O_,by go_num,dR,by simp;omega,W6.out (HJ.out.1 rfl),hM3,P9,Ze⟩
       case measure=>simp [intOf];omega
      ·have hjb:((j:Int)==(k:Int))=false:=by simp;omega
       have bJ:later ⟨3,xu,xf⟩ (l.drop (k+1))=true:=by
        cases hb:later ⟨3,xu,xf⟩ (l.drop (k+1))with
        |true=>rfl
        |false=>exact absurd (HJ.out.2 hb) zO
       have HLT:=ac5 bJ;clear bJ;go_wp2;go_roundw
       case rel=>exact⟨k+1,o,O_,by go_num,ho.alloc _,O_,adG.out HLT.out,th.alloc _,lN.alloc _,bV⟩
       case measure=>simp [intOf];omega
     ·have qp:(xk !=3)=true:=by simp [h3]
      have pQ:later ⟨xk,xu,xf⟩ (l.drop (k+1))=false:=by simp [later,h3]
      have W7:=ac5 pQ;clear pQ;go_wp2_with (at_builtin;refine bC (E:=yx) rfl _ _ _ rfl underlying223 hi dw cE dy rfl ((ho.alloc _).alloc _) rfl ⟨xk,xu,xf⟩ (wr.heap.size+1) (af.cD _ _ _ _) 1 rfl (by unfold maxLen;omega) O_ P_ ?_;intro v2 w2 dR dU sg)
      have hM3:=((th.alloc _).alloc _).fr dU bV
      have Ze:v2.ownBlock≠some w.heap.size:=by
       rcases sg with h|h
       ·rw [h];exact bV
       ·rw [h];have:=th.lt;simp;omega
      have P9:=ae.append ((lN.alloc _).alloc _) ((ho.alloc _).alloc _) dU;go_roundw
      case rel=>exact⟨k+1,_,O_,by go_num,dR,by simp;omega,W6.out W7.out,hM3,P9,Ze⟩
      case measure=>simp [intOf];omega
    ·go_wp2;go_ret;obtain rfl:k=l.length:=O_
     have he:=HS.out;rw [List.drop_length,squeeze,kg]at he;subst he;exact⟨_,rfl,ho,lN⟩

structure zR(w:World) (b:Nat) (v:Value) (l:List Ev):Prop where
 ai:af w b 351 #[v]
 own:Own yx 232 0 w v l
 wf:∀x∈l,x.wf
theorem zR.ne {w:World}{b:Nat}{v:Value}{l:List Ev}(h:zR w b v l):v.ownBlock≠some b:=h.own.ar h.ai D_
theorem zR.fr {S:Nat->Prop}{w w':World}{b:Nat}{v:Value}{l:List Ev}(h:zR w b v l) (hf:Fr S w w') (hb:¬S b) (hv:∀g,v.ownBlock=some g->¬S g):zR w' b v l:=
 ⟨Fr.ai hf h.ai hb,h.own.fr hf hv,h.wf⟩
theorem zR.new {w w':World}{b:Nat}{v:Value}{l:List Ev}(h:zR w b v l) (hf:ae w w'):zR w' b v l:=h.fr hf id fun _ _=>id
theorem Ih(w:World):Ib w 242 #[] (fun x=>decide (1<=x.k/\x.k<=3)):=fun W x _=>Ma x W
theorem El(w:World) (g:Nat) (gone:Bool) (hg:af w g 4 #[R_ gone]):Ib w 228 #[Q_ g] (fun x=>gone||decide (x.k≠2)):=by
 intro W x hn;have hc:L_ W g 0 (R_ gone):=(hn.ai hg).cell 0;have bJ:=(hn.ai hg).lt;have GW:∀o,L_ (W.alloc o) g 0 (R_ gone):=fun o=>(af.alloc (hn.ai hg) o).cell 0;obtain⟨k,u,f⟩:=x
 show H_ 228 #[(Ev.val ⟨k,u,f⟩),Q_ g] W _
 unfold Ev.val;dsimp only
 cases gone
 ·by_cases hk:k=2
  ·subst hk
   go_enter func228,ntmps228
   go_wp2;go_ret;exact⟨rfl,(ae.refl _).alloc _⟩
  ·have hb:(k !=2)=true:=by simp [hk]
   have hd:(false||decide (k≠2))=true:=by simp [hk]
   rw [hd];clear hd
   go_enter func228,ntmps228
   go_wp2;go_ret;exact⟨rfl,(ae.refl _).alloc _⟩
 ·rw [WR]
  go_enter func228,ntmps228
  go_wp2;go_ret;exact⟨rfl,(ae.refl _).alloc _⟩
theorem Qa(w:World):H_ 183 #[] w fun e w'=>e=.returned (Q_ w)/\zR w' w.heap.size Z_ []/\ae w w':=by
 go_enter func183,ntmps183
 go_wp2;go_ret;exact⟨rfl,⟨af.new _ _ _,Own.nil _ _ _ _,S_⟩,(ae.refl _).alloc _⟩
theorem Qb{w:World}{b:Nat}{v:Value}{l:List Ev}(h:zR w b v l) (u:Value) (m:List Ev) (hu:Rd yx w u m) (hm:m.length<=100000) (hl:l.length<=200000000) (hw:∀x∈m,x.wf):
 H_ 190 #[Q_ b,u] w fun e w'=>e=.returned (.tuple #[])/\∃v',zR w' b v' (l++m.filter fun x=>decide (1<=x.k/\x.k<=3))/\Fr (fun k=>k=b\/v.ownBlock=some k) w w'/\
  (v'.ownBlock=v.ownBlock\/∃g,v'.ownBlock=some g/\w.heap.size<=g):=by
 obtain⟨i0,hi,dw,cE,dy⟩:=wF Bm;have bJ:=h.ai.lt
 go_enter func190,ntmps190
 go_wp2_with fail
 refine(zQ 242 #[] _ (enters _ _ _ func242 K_ rfl) u m w (Ih w) hu O_).mono ?_;rintro e w1 ⟨y,n,rfl,hy,_,br⟩;have h1:=h.new br;have c0:=h1.ai.k0;have f0:=h1.ai.frozen 0;have gE:=cR (fun x:Ev=>decide (1<=x.k/\x.k<=3)) m;have hs:=br.size;have adI:=h1.ne;have HV:=ac5 adI;clear adI;go_wp2_with (at_builtin;refine aZ (E:=yx) rfl _ _ _ rfl underlying223 hi dw cE dy rfl h1.own rfl hy.rd rfl (by unfold maxLen;omega) O_ O_ ?_;intro v2 w2 dR dU sg;have eP:=Fr.ai dU h1.ai HV.out;have c2:=eP.k0;have f2:=eP.frozen 0;obtain⟨A2,N2,C2,Yu⟩:=bY dR;subst Yu)
 go_end0;refine⟨rfl,_,⟨eP.al 0 _,dR.fr ((One.refl b w2).set 0 _) (fun g hg e=>?_),?_⟩,?_,?_⟩
 ·subst e;have:=dR.ar eP D_;exact this hg
 ·intro x hx;rcases List.mem_append.1 hx with hx|hx
  ·exact h.wf x hx
  ·exact hw x (List.mem_filter.1 hx).1
 ·exact(((cz br fun _ h=>h.elim).trans (cz dU fun _ h=>Or.inr h))).trans (cz ((One.refl b w2).set 0 _) fun _ h=>Or.inl h)
 ·rcases sg with sg|sg
  ·exact .inl sg
  ·exact .inr ⟨_,sg,hs⟩
theorem Mc{w:World}{b:Nat}{v:Value}{l:List Ev}(h:zR w b v l) (gone:Bool) (hl:l.length<=200000000):
 H_ 180 #[Q_ b,R_ gone] w fun e w'=>∃o v',e=.returned o/\Own yx 232 w.heap.size w' o (squeeze (l.filter fun x=>gone||decide (x.k≠2)))/\
  zR w' b v' (l.filter fun x=> !(gone||decide (x.k≠2)))/\One b w w'/\(∀g,v'.ownBlock=some g->w.heap.size<=g)/\(o.ownBlock=none\/o.ownBlock≠v'.ownBlock):=by
 have hmf:=atQ;have c0:=h.ai.k0;have bJ:=h.ai.lt;obtain⟨A,N,C,rfl⟩:=bY h.own;have jY:af (W_ w #[R_ gone] 4) w 4 #[R_ gone]:=af.new _ _ _;have h0:zR (W_ w #[R_ gone] 4) b (X_ A N C) l:=h.new ((ae.refl _).alloc _);have pM:=cR (fun x:Ev=>gone||decide (x.k≠2)) l
 go_enter func180,ntmps180
 go_wp2_with fail
 refine(zQ 228 #[Q_ w] _ (enters _ _ _ func228 K_ rfl) _ l _ (El _ w.heap.size gone jY) h0.own.rd hl).mono ?_;rintro e w1 ⟨y,n,rfl,hy,db,br⟩;rw [gz]at hy db;have h1:=h0.new br;have f1:=h1.ai.frozen 0;have c1:=h1.ai.k0;have hs:=br.size;rw [gz]at hs;obtain⟨A2,N2,C2,rfl⟩:=bY db;go_wp2_with fail
 have eP:af (w1.setCell (C_ b 0) (X_ A2 N2 C2)) b 351 #[X_ A2 N2 C2]:=h1.ai.al 0 _;have hnb:∀{x:Value}{m:List Ev},Own yx 232 (w.heap.size+1) w1 x m->∀g,x.ownBlock=some g->¬g=b:=fun hx g hg e=>by have:=(hx.block hg).1;omega
 have Qc:=db.fr ((One.refl b w1).set 0 (X_ A2 N2 C2)) (hnb db);have sj:=hy.fr ((One.refl b w1).set 0 (X_ A2 N2 C2)) (hnb hy);refine(Ek _ _ _ sj.rd (fun x hx=>h.wf x (List.mem_filter.1 hx).1) O_).mono ?_;rintro e w3 ⟨o,rfl,ho,fu⟩;go_wp2;go_ret;have eE:w.heap.size<=(w1.setCell (C_ b 0) (X_ A2 N2 C2)).heap.size:=by have:=((One.refl b w1).set 0 (X_ A2 N2 C2)).size;omega
 refine⟨o,X_ A2 N2 C2,rfl,ho.mono eE,⟨fu.ai eP,(Qc.mono (Gv _)).new fu,fun x hx=>h.wf x (List.mem_filter.1 hx).1⟩,?_,fun g hg=>?_,?_⟩
 ·have f1:One b w w1:=cz (((ae.refl w).alloc _).trans br) fun _ h=>h.elim;exact(f1.trans ((One.refl b w1).set 0 _)).trans (cz fu fun _ h=>h.elim)
 ·have:=(db.block hg).1;omega
 ·cases Ea:o.ownBlock with
  |none=>exact .inl rfl
  |some g=>
   refine .inr fun he=>?_;have h5:=(ho.block Ea).1;have h6:=(Qc.block he.symm).2;omega
structure Rg where
 lo:Int
 hi:Int
abbrev Rg.val (r:Rg):Value:=.agg #[U_ r.lo,U_ r.hi]
def lP:cr Rg where
 enc r:=[U_ r.lo,U_ r.hi]
 sz:=2
 len _:=rfl
 one x u hu:=by simp at hu;rcases hu with rfl|rfl<;>rfl
 pos:=O_
def Rg.wf (r:Rg):Prop:=0<=r.lo/\r.lo<=4294967295/\0<=r.hi/\r.hi<=4294967295
def Br(w:World) (g:Nat) (lb:Array Value) (p:Rg->Bool):Prop:=∀(W:World) (x:Rg),ae w W->H_ g (#[x.val]++lb) W fun e w'=>e=.returned (R_ (p x))/\ae W w'
theorem wJ(g:Nat) (lb:Array Value) (p:Rg->Bool) (hE:∀args w,(callFunc g args).run prog w=.ok (.enter g args) w) (v:Value) (l:List Rg) (w:World) (hp:Br w g lb p) (hv:Rd lP w v l) (hl:l.length<=1000000):
 H_ 345 #[v,.func (.func g) #[] lb] w fun e w'=>(∃i:Int,e=.returned (I_ i)/\ -1<=i/\(0<=i<->l.any p=true))/\ae w w':=by
 obtain⟨A,c,rfl,hc,az⟩:=hv;have HC:=ac5 az;clear az
 go_enter func345,ntmps345
 go_wp2
 go_loopw [8] (fun vi wr=>∃k:Nat,k<=l.length/\vi=I_ k/\Hid (∀x,x∈l.take k->p x=false)/\ae w wr) (fun vi _=>l.length-(intOf vi).toNat)
 case atStart=>exact⟨0,Gv _,rfl,fun x hx=>by simp at hx,ae.refl _⟩
 case round=>
  obtain⟨k,hk,rfl,HS,c_⟩:=hrel;by_cases dL:k<l.length
  ·obtain⟨x,hx⟩:∃x,l[k]? =some x:=⟨_,DW dL⟩;obtain⟨b,off,rfl,aF⟩:=HC.out (by rintro rfl;simp at dL);obtain⟨xk,xu⟩:=x;have c0:L_ wr b (off+k*2) (U_ xk):=Fr.cell c_ (aF k _ hx 0 _ rfl) id;have c1:L_ wr b (off+k*2+1) (U_ xu):=Fr.cell c_ (aF k _ hx 1 _ rfl) id;have HX:=ac5 hx;clear aF hx;have bZ:=hp _ ⟨xk,xu⟩ c_
   cases mT:p ⟨xk,xu⟩
   all_goals
    rw [mT]at bZ;have HP:=ac5 mT;have eH:=ac5 bZ;clear mT bZ;go_wp2_with fail
    refine eH.out.mono ?_;rintro e w1 ⟨rfl,br⟩;go_wp2
   ·go_roundw
    case rel=>
     refine⟨k+1,O_,by go_num,fun x hx=>?_,c_.trans br⟩;rw [gk HX.out]at hx;rcases List.mem_append.1 hx with hx|hx
     ·exact HS.out x hx
     ·rw [List.mem_singleton.1 hx];exact HP.out
    case measure=>simp [intOf];omega
   ·go_ret;refine⟨⟨k,rfl,O_,fun _=>?_,fun _=>O_⟩,c_.trans br⟩;exact List.any_eq_true.2 ⟨_,YX HX.out,HP.out⟩
  ·go_wp2;go_ret;refine⟨⟨-1,rfl,O_,fun h=>O_,fun h=>?_⟩,c_⟩;obtain⟨x,hx,mT⟩:=List.any_eq_true.1 h;have:=HS.out x (by rw [Hv O_];exact hx);rw [this]at mT
   cases mT
theorem qI(g:Nat) (lb:Array Value) (p:Rg->Bool) (hE:∀args w,(callFunc g args).run prog w=.ok (.enter g args) w) (v:Value) (l:List Rg) (w:World) (hp:Br w g lb p) (hv:Rd lP w v l) (hl:l.length<=1000000):
 H_ 308 #[v,.func (.func g) #[] lb] w fun e w'=>e=.returned (R_ (l.any p))/\ae w w':=by
 have h:=wJ g lb p hE v l w hp hv hl;generalize l.any p=q at h⊢;have H:=ac5 h;clear h hp hv hE
 go_enter func308,ntmps308
 go_wp2_with fail
 refine H.out.mono ?_;rintro e w1 ⟨⟨i,rfl,h1,h2⟩,hn⟩;have H2:=ac5 h2;clear h2
 cases q
 ·have hi:decide ((0:Int)<=i)=false:=by
   refine aP fun h=>?_;have:=H2.out.1 h
   cases this
  go_wp2;go_ret;exact⟨rfl,hn⟩
 ·have hi:=k_ (H2.out.2 rfl);go_wp2;go_ret;exact⟨rfl,hn⟩
def tF(top:Int) (r:Rg):Bool:=decide (top<max r.lo r.hi)
theorem Em(w:World) (g:Nat) (top:Int) (hg:af w g 28 #[U_ top]):Br w 309 #[Q_ g] (tF top):=by
 intro W x hn;obtain⟨lo,hi⟩:=x;have hc:L_ W g 0 (U_ top):=(hn.ai hg).cell 0;have bJ:=(hn.ai hg).lt;have GW:∀o,L_ (W.alloc o) g 0 (U_ top):=fun o=>(af.alloc (hn.ai hg) o).cell 0
 show H_ 309 #[.agg #[U_ lo,U_ hi],Q_ g] W _
 generalize hq:tF top ⟨lo,hi⟩=q;have HQ:=ac5 hq;clear hq
 go_enter func309,ntmps309
 go_wp2;go_ret;refine⟨?_,(ae.refl _).alloc _⟩;rw [<-HQ.out];rfl
def n_(top:Int) (l:List Rg):Bool:=decide (0<top)&&decide (0<l.length)&& !l.any (tF top)
theorem pw(top:Int) (v:Value) (l:List Rg) (w:World) (hv:Rd lP w v l) (hl:l.length<=1000000):
 H_ 259 #[U_ top,v] w fun e w'=>e=.returned (R_ (n_ top l))/\ae w w':=by
 have hmf:=atQ;have fE:=hv.alloc (G_ #[U_ top] 28);have jY:af (W_ w #[U_ top] 28) w 28 #[U_ top]:=af.new _ _ _;have H:=qI 309 #[Q_ w] _ (enters _ _ _ func309 K_ rfl) v l _ (Em _ w.heap.size top jY) fE hl;have HH:=ac5 H;obtain⟨A,c,rfl,hc,_⟩:=hv;unfold n_;generalize l.any (tF top)=q at HH⊢;clear H fE;by_cases ht:0<top
 ·have hd:=k_ ht;by_cases hn:0<l.length
  ·have oe:decide ((0:Int)<l.length)=true:=k_ O_;have sD:=k_ hn
   go_enter func259,ntmps259
   go_wp2_with fail
   refine HH.out.mono ?_;rintro e w1 ⟨rfl,br⟩;go_wp2;go_ret;exact⟨by simp [ht,sD],((ae.refl _).alloc _).trans br⟩
  ·have oe:decide ((0:Int)<l.length)=false:=aP O_;have sD:=aP hn;clear HH
   go_enter func259,ntmps259
   go_wp2;go_ret;exact⟨by simp [sD],(ae.refl _).alloc _⟩
 ·have hd:=aP ht;clear HH
  go_enter func259,ntmps259
  go_wp2;go_ret;exact⟨S_,(ae.refl _).alloc _⟩
def eJ(top:Int) (r:Rg):Rg:=
 ⟨min (if r.lo=0 then top else r.lo) (if r.hi=0 then top else r.hi),max (if r.lo=0 then top else r.lo) (if r.hi=0 then top else r.hi)⟩
theorem Zg{w:World}{g:Nat}{a b:Value}(h:af w g 191 #[a,b]):(loadVar 191 (C_ g 0)).run prog w=.ok (.agg #[a,b]) w:=
 kV w g _ _ _ _ _ h underlying191 rfl K_
theorem yy{P:Program}{fn:Func}{p:Tmp}{t:TypeId}(h:fn.results= #[.cell p t]) (tmps:Array Value) (w:World) {a:Addr}{v:Value}
 (hp:tmps[p]? =some (.pointer (some a))) (hv:(loadVar t a).run P w=.ok v w):(results fn tmps).run P w=.ok v w:=by
 simp [results,h,hp,asAddr,hv]
theorem UH(w:World) (o:Obj) (t:TypeId) (cs:Array Value):af ((w.alloc o).alloc (G_ cs t)) (w.heap.size+1) t cs:=by
 have h:=af.new (w.alloc o) t cs;rw [gz]at h;exact h
theorem Md(top:Int) (r:Rg) (w:World):
 H_ 347 #[U_ top,r.val] w fun e w'=>e=.returned (eJ top r).val/\ae w w':=by
 obtain⟨lo,hi⟩:=r;unfold eJ;dsimp only;by_cases h1:lo=0<;>by_cases h2:hi=0
 all_goals
  first
   |(have e1:(lo==0)=true:=beq_iff_eq.2 h1;rw [if_pos h1])
   |(have e1:=beq_eq_false_iff_ne.2 h1;rw [if_neg h1])
  first
   |(have e2:(hi==0)=true:=beq_iff_eq.2 h2;rw [if_pos h2])
   |(have e2:=beq_eq_false_iff_ne.2 h2;rw [if_neg h2])
  clear h1 h2
  go_enter func347,ntmps347
  go_wp2;exact r_ (yy rfl _ _ rfl (Zg (UH _ _ _ _))) rfl ⟨by first|rfl|simp,((ae.refl w).alloc _).alloc _⟩
theorem UI(a b:Rg) (ha:a.wf) (hb:b.wf) (w:World):
 H_ 349 #[a.val,b.val] w fun e w'=>e=.returned (I_ (a.lo-b.lo))/\w'=(w.alloc (G_ #[U_ a.lo,U_ a.hi] 191)).alloc (G_ #[U_ b.lo,U_ b.hi] 191):=by
 obtain⟨alo,ahi⟩:=a;obtain⟨blo,bhi⟩:=b;obtain⟨a1,a2,a3,a4⟩:=ha;obtain⟨b1,b2,b3,b4⟩:=hb;dsimp only at*
 go_enter func349,ntmps349
 go_wp2;go_ret;exact⟨rfl,rfl⟩
section
open Go.RowKit Go.Sort Go.Shelf Go.Proofs Go.Lib
abbrev W9:Type:={r:Rg // r.wf}
instance:Inhabited W9:=⟨⟨⟨0,0⟩,by unfold Rg.wf;refine⟨?_,?_,?_,?_⟩<;>decide⟩⟩
def Kb(x:W9):List Value:=lP.enc x.1
def Xa(x y:W9):Int:=x.1.lo-y.1.lo
theorem UJ:SWO (ltOf Xa) where
 irrefl x:=aP (by unfold Xa;omega)
 trans x y z h1 h2:=by
  have a:=cj h1;have b:=cj h2;unfold Xa at a b;exact k_ (by unfold Xa;omega)
 ntrans x y z h1 h2:=by
  have a:=wI h1;have b:=wI h2;unfold Xa at a b;exact aP (by unfold Xa;omega)
theorem Qe(ai off size:Nat) (w:World):CmpLays prog 349 #[] Kb 2 Xa ai off size w:=by
 intro m os dk _ x y;refine(UI x.1 y.1 x.2 y.2 _).mono ?_;rintro e w' ⟨rfl,rfl⟩;refine⟨rfl,0,#[.cells #[U_ x.1.lo,U_ x.1.hi] 191,.cells #[U_ y.1.lo,U_ y.1.hi] 191],?_⟩;rw [alloc_eq_grow,alloc_eq_grow,grow_grow];rfl
theorem Mf{w:World}{ai off n:Nat}{d:Array W9}{os:Array Obj}:Fr (fun k=>k=ai) w (sortWorldK Kb 2 w ai off n d os):=by
 refine⟨rfl,rfl,rfl,?_,?_⟩
 ·exact size_sortWorldK_c Kb 2 w ai off n d os
 ·intro k hk bV;have hs:(putRowK Kb 2 (Sort.ahead w n) ai off d).heap.size=w.heap.size:=by unfold putRowK;rw [size_putRow];rfl
  unfold sortWorldK
  show((putRowK Kb 2 (Sort.ahead w n) ai off d).heap++os)[k]? =_
  rw [TR (by rw [hs];exact hk)];unfold putRowK putRow mapBlock
  show(w.heap.modify ai _)[k]? =_
  rw [Yd,if_neg (fun e=>bV e.symm)]
theorem Ii{w:World}{ai off n:Nat}{d:Array W9}{os:Array Obj}{t:TypeId}{cs:Array Value}(h:af w ai t cs):af (sortWorldK Kb 2 w ai off n d os) ai t (putCells id off (flatK Kb 2 d) cs):=by
 have hs:(putRowK Kb 2 (Sort.ahead w n) ai off d).heap.size=w.heap.size:=by unfold putRowK;rw [size_putRow];rfl
 unfold af sortWorldK
 show((putRowK Kb 2 (Sort.ahead w n) ai off d).heap++os)[ai]? =_
 rw [TR (by rw [hs];exact h.lt)];unfold putRowK putRow mapBlock
 show(w.heap.modify ai _)[ai]? =_
 rw [Yd,if_pos rfl,h];rfl
def toW:(l:List Rg)->(∀r∈l,r.wf)->List W9
 |[],_=>[]
 |r::l,h=>⟨r,h r S_⟩::toW l fun r hr=>h r (by simp [hr])
theorem uR:∀(l:List Rg) (h:∀r∈l,r.wf),(toW l h).length=l.length
 |[],_=>rfl
 |r::l,h=>by simp [toW,uR l]
theorem Ij:∀(l:List Rg) (h:∀r∈l,r.wf) (i:Nat),((toW l h)[i]?).map (·.1)=l[i]?
 |[],_,_=>by simp [toW]
 |r::l,h,0=>by simp [toW]
 |r::l,h,i+1=>by simpa [toW]using Ij l _ i
theorem UK(l:List Rg) (h:∀r∈l,r.wf) (i:Nat) (hi:i<(toW l h).toArray.size):((toW l h).toArray[i]!).1=l[i]'(by simpa [uR]using hi):=by
 have h1:=Ij l h i;have hi':i<l.length:=by simpa [uR]using hi
 have h2:i<(toW l h).length:=by simpa using hi
 rw [DW h2,DW hi']at h1;simp only [Pk,rM]at h1;rw [<-h1,oU _ i hi];simp
theorem UL(l:List Rg) (h:∀r∈l,r.wf) (x:W9) (hx:x∈toW l h):x.1∈l:=by
 obtain⟨i,hi,rfl⟩:=List.mem_iff_getElem.1 hx;have h1:=Ij l h i;rw [DW hi]at h1;exact YX h1.symm
theorem Mg{w:World}{base:Nat}{v:Value}{l:List Rg}(hv:Own lP 191 base w v l) (hw:∀r∈l,r.wf) (hl:l.length<=1000000) (pQ:l≠[]):
 H_ 348 #[v,.func (.func 349) #[] #[]] w fun e w'=>e=.returned (.tuple #[])/\∃l',Rd lP w' v l'/\l'.length=l.length/\(∀r∈l',r∈l)/\Fr (fun k=>v.ownBlock=some k) w w'/\∃g cs,v.ownBlock=some g/\af w' g 191 cs:=by
 have ez:=hv.rd;rcases hv.2 with⟨_,hn⟩|⟨g,cap,cur,rfl,hb,vm,ya,_⟩
 ·exact absurd (wk hn) pQ
 obtain⟨A,c,he,hc,az⟩:=ez
 cases he
 obtain⟨b,off,hA,aF⟩:=az pQ
 cases hA
 have zM:=(Array.getElem?_eq_some_iff.1 vm).1;obtain⟨d,hd⟩:∃d:Array W9,d=(toW l hw).toArray:=⟨_,rfl⟩;have CA:d.size=l.length:=by rw [hd];simp [uR]
 have hH:HoldsK Kb 2 w g 0 d:=by
  intro j hj;rw [size_flatK]at hj;rw [get_flatK _ _ _ _ hj];have hi:j/2<d.size:=O_
  have yk:j/2<l.length:=O_
  have hx:=DW yk;have he:(d[j/2]!).1=l[j/2]'yk:=by subst hd;exact UK l hw (j/2) hi
  refine⟨?_,af.frozen (t:=191) (cs:=cur) vm _⟩;have hm:j %2=0\/j %2=1:=O_
  show L_ w g (0+j) ((lP.enc (d[j/2]!).1)[j %2]!)
  rw [he];have hjj:0+j=0+(j/2*2+j %2):=O_
  rw [hjj];rcases hm with hm|hm
  ·rw [hm];exact aF _ _ hx 0 _ rfl
  ·rw [hm];exact aF _ _ hx 1 _ rfl
 have eg:∀args w,(callFunc 349 args).run prog w=.ok (.enter 349 args) w:=Aw func349 K_ rfl;have yv:=AnyQ.slices_SortFunc adJ 2 isAgg191 sizeOf191 Kb (fun _=>rfl) (fun x v hv=>by simp [Kb,lP]at hv;rcases hv with rfl|rfl<;>rfl) Xa UJ 349 #[] g 0 cap d w eg (Qe g 0 d.size w) hH zM O_
 change H_ 348 _ _ _ at yv
 rw [CA]at yv;refine yv.mono ?_;rintro e w' ⟨rfl,d',n,os,hp,_,rfl⟩;have Gh:=hp.1.trans CA;have hH':=holdsK_sortWorldK_c Kb 2 w g 0 d d' n os hH zM (hp.1);refine⟨rfl,d'.toList.map (·.1),⟨_,cap,by simp [Gh],by simpa [Gh]using hc,fun _=>⟨g,0,rfl,fun i x hx j u hu=>?_⟩⟩,by simp [Gh],fun r hr=>?_,?_,g,_,rfl,Ii vm⟩
 ·have hi:i<d'.size:=by
   have:=(List.getElem?_eq_some_iff.1 hx).1;simpa using this
  have hxe:x=(d'[i]!).1:=by
   rw [OX,DW (by simpa using hi)]at hx;simp only [Pk,rM]at hx;rw [<-hx,oU _ i hi];simp
  have hj:j<2:=by
   have:=(List.getElem?_eq_some_iff.1 hu).1;rw [lP.len]at this;exact this
  have h1:=(hH'.cell hi hj).1;rw [vh]at h1
  show(sortWorldK Kb 2 w g 0 n d' os).cell? (C_ g (0+(i*2+j)))=some u
  rw [h1]
  show some ((lP.enc (d'[i]!).1)[j]!)=some u
  rw [<-hxe];rw [List.getElem!_eq_getElem?_getD,hu];rfl
 ·obtain⟨x,hx,rfl⟩:=List.mem_map.1 hr;have h3:=hp.2.2;have e1:(d'.extract 0 l.length).toList=d'.toList:=by rw [<-Gh];simp
  have e2:(d.extract 0 l.length).toList=d.toList:=by rw [<-CA];simp
  rw [e1,e2]at h3;have UN:=h3.mem_iff.1 hx;rw [hd]at UN;exact UL l hw x (by simpa using UN)
 ·exact Fr.mono Mf fun k _ hk=>by rw [hk];rfl
end
section
open Go.ChangeShapes Go.WideShapes Go.ChangeAt Go.RowKit Go.Deep
theorem spot_none0{w:World}{b off:Nat}{s:Option Nat}{v:Value}(h:w.cell? ((⟨b,off,s⟩:Addr).add 0)=some v):s=none:=by
 simpa [Addr.add]using World.cell?_spot h
end
section
open Go.ChangeShapes Go.WideShapes Go.ChangeAt Go.RowKit Go.Deep
theorem open_ints_rd{H:Type}{enc:TypeId×Value->H}{P:Program}{W:World}{base:Nat}{t e:TypeId}{k:IntKind}{v:Value}{d:DataW H}{p:List MemPlace}
 (ht:P.underlying t=some (.slice e)) (he:P.underlying e=some (.int k)) (hC:P.cellsOf e=1) (hv:Value.okWide P W .any base t v) (h:DataW.Trod enc P W 0 (fun _=>true) true t v d p):
 ∃x:Value×List Int,v=x.1/\(Rd (ak k) W x.1 x.2/\(∀y∈x.2,(Lit.int k y).wf=true)/\x.2.length<=maxLen):=by
 obtain⟨a0,len0,cap0,rfl⟩:=okWide_slice ht hv;obtain⟨fuel,hf⟩:=h;rcases open_ints ht he hC hf with⟨cK,_⟩|⟨x,l,c,zs,cK,_,hl,hm,hz,_,aF,hwz⟩
 ·simp [Value.cells]at cK;obtain⟨rfl,rfl,rfl⟩:=cK;exact⟨(_,[]),rfl,Rd.nil _ _,S_,S_⟩
 ·simp [Value.cells]at cK;obtain⟨rfl,rfl,rfl⟩:=cK;have hz':zs.length=cap0:=by simpa using hz
  have pQ:(zs.take len0).length=len0:=by rw [jo];omega
  refine⟨(_,zs.take len0),rfl,⟨some x,cap0,by rw [pQ],by rw [pQ];exact hl,fun bV=>?_⟩,fun y hy=>hwz y (List.mem_of_mem_take hy),by show(zs.take len0).length<=maxLen;omega⟩
  have V_:0<len0:=by
   rcases Pl len0 with h0|h0
   ·subst h0;simp at bV
   ·exact h0
  obtain⟨b,off,sp⟩:=x;have h0:=aF 0 O_;obtain rfl:=spot_none0 h0;refine⟨b,off,rfl,fun i y hy j u hu=>?_⟩
  have hi:i<len0:=by
   have h2:i<(zs.take len0).length:=(List.getElem?_eq_some_iff.1 hy).1;omega
  have hc:=aF i O_;rw [kR]at hc;rw [List.getElem?_take,if_pos hi]at hy
  have hj:j=0:=by
   have:=(List.getElem?_eq_some_iff.1 hu).1;simp [ak]at this;exact this
  subst hj;simp [ak]at hu;subst hu
  show W.cell? (C_ b (off+(i*1+0)))=_
  rw [RZ,Au,hc];simp [List.getD,hy]
end
end Go.Proofs.YtliimglbbiebiaaGreatDoor
