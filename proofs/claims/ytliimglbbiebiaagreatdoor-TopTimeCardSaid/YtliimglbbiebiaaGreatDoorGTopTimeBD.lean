import Derived.Test.YtliimglbbiebiaaGreatDoorGTopTimeAZ
import Derived.Test.YtliimglbbiebiaaGreatDoorGTopTimeBB
set_option maxRecDepth 100000
set_option maxHeartbeats 6400000
set_option linter.all false
namespace Go.Proofs.YtliimglbbiebiaaGreatDoor
open Go.Proofs.Tryz Go.RowKit Go.Maps
structure Ft(w:World) (c:fK) (s:List Rg) (l:List UInt8):Prop where
 t:c.t.size<=5000
 m:c.m.size<=1000000
 fl:0<=c.fl
 set:Rd lP w (X_ c.sA c.sn c.sc) s
 wf:∀r∈s,r.wf
 sl:s.length<=100000
 yz:Rd (ak .u8) w (X_ c.dA c.dn c.dc) (nums l)
theorem Ft.new {w w':World}{c:fK}{s:List Rg}{l:List UInt8}(h:Ft w c s l) (hn:ae w w'):Ft w' c s l:={h with set:=h.set.new hn,yz:=h.yz.new hn}
def Tu(w0:World) (base:Nat) (w w':World) (S:Sx) (Q:Qs) (n f:Int) (i:Int) (xs:Nat) (o:Vo) (e:Ending):Prop:=
 ∃v l S' Q' M' n' t' o' d',e=.returned v/\Own cG 53 w.heap.size w' v l/\(∀r∈l,Fk o' r/\bF w.heap.size w' r)/\l.length+2*(Q'.l i).length<=2*(Q.l i).length+200001/\SO w0 base w' S' Q' M' n' t' f i xs o' d'/\dJ w w' S Q n i xs o 5000 1 (fun _=>False) S' Q' n' o'
theorem Own.fresh {α:Type}{E:cr α}{x:α}{t:TypeId}{w:World}{base:Nat}(hb:base<=w.heap.size):Own E t base (W_ w (E.enc x).toArray t) (X_ (M_ w) 1 1) [x]:=by
 have hl:=E.fD [x];have he:E.cells [x]=E.enc x:=by simp [cr.cells]
 refine⟨hl,.inr ⟨w.heap.size,1,(E.enc x).toArray,rfl,hb,af.new w t _,aA _,by unfold maxLen;decide,?_,?_⟩⟩
 ·rw [he]at hl;simpa using hl
 ·rw [<-hl,he];simp
section
variable{w0 w w':World}{base:Nat}{S:Sx}{Q:Qs}{M:List bU}{n t f:Int}{i:Int}{xs:Nat}{o:Vo}{b:Bool}
theorem Tu.nothing (H:SO w0 base w S Q M n t f i xs o b) (hn:ae w w') {v:Value}{l:List cV}(hv:Own cG 53 w.heap.size w' v l) (hl:∀r∈l,Fk o r/\bF w.heap.size w' r) (gK:l.length<=200001):Tu w0 base w w' S Q n f i xs o (.returned v):=
 ⟨v,l,S,Q,M,n,t,o,b,rfl,hv,hl,O_,H.new hn,(dJ.refl hn).xE O_ O_ fun _ _ h=>h⟩
def aar:ByteArray:=⟨#[110,111,32,109,97,105,108,98,111,120,32,115,101,108,101,99,116,101,100]⟩
theorem RN(B:Nat) (W:World) (tg:ByteArray) (st:Int) (tx:ByteArray) (ht:tg.size<=5000) (hs:(0<=st/\st<=2)/\tx.size<=5000):bF B W (l_ tg st tx)/\Tq (l_ tg st tx):=by
 have h3:(0:Int)<=0/\(0:Int)<=31:=D_
 have h4:(0:Int)<=0/\(0:Int)<=255:=D_
 have h5:(0:Int)<=0/\(0:Int)<=4294967295:=D_
 have h1:tg.size<=10000:=O_
 have h2:tx.size<=10000:=O_
 have h6:(1:Int)<=9/\(9:Int)<=10:=D_
 exact⟨{kk:=h6,n0:=h5,t0:=h1,x0:=h2,WJ:=hs.1,it0:=h3,fl0:=h4,LL:=h5,sz0:=h5,body:=⟨[],Own.nil _ _ _ _,Gv _⟩},(by decide:bits .and .i64 0 2=0)⟩
theorem Ae(x:Nat) (bx:Value) (dI:Int) (pv:Option Addr) (dn:Bool) (tg tx:ByteArray) (ht:tg.size<=5000) (hx5:tx.size<=5000) (w:World) (hx:mV w x bx dI pv dn):
 H_ 41 #[Q_ x,T_ tg,T_ tx] w fun e w'=>∃v l,e=.returned v/\Own cG 53 w.heap.size w' v l/\(∀r∈l,Tq r/\bF w.heap.size w' r)/\l.length<=1/\ae w w':=by
 have bJ:=hx.lt;obtain⟨x0,x1,x2,x3⟩:=hx.rQ;clear hx
 cases dn
 case true=>
  go_enter func41,ntmps41
  go_wp2;go_ret;exact⟨_,[],rfl,Own.nil _ _ _ _,S_,S_,ae.refl w⟩
 rcases he:tg.toList.isEmpty with _|_
 ·go_enter func41,ntmps41
  go_wp2_with fail
  refine(yZ tg 2 tx w).mono ?_;rintro e w1 ⟨rfl,n1⟩;have hrk:=RN w.heap.size (W_ w1 (cG.enc (l_ tg 2 tx)).toArray 53) tg 2 tx ht ⟨O_,hx5⟩;have cl:=Own.fresh (E:=cG) (x:=l_ tg 2 tx) (t:=53) (w:=w1) (base:=w.heap.size) n1.size;unfold Ll;go_wp2;go_ret;exact⟨_,[l_ tg 2 tx],rfl,cl,fun r hr=>by rw [List.mem_singleton.1 hr];exact⟨hrk.2,hrk.1⟩,S_,n1.alloc _⟩
 ·go_enter func41,ntmps41
  go_wp2;go_ret;refine⟨_,[⟨8,0,⟨#[]⟩,0,tx,0,0,0,0,none,0,0⟩],rfl,Own.fresh (E:=cG) (x:=⟨8,0,⟨#[]⟩,0,tx,0,0,0,0,none,0,0⟩) (t:=53) (w:=w) (base:=w.heap.size) (aA _),fun r hr=>?_,S_,(ae.refl w).alloc _⟩;rw [List.mem_singleton.1 hr];exact⟨(by decide:bits .and .i64 0 2=0),bF.said _ _ 8 tx D_ O_⟩
theorem tS(H:SO w0 base w S Q M n t f i xs o false) (c:fK) (fn:Nat) (za:Bool) (hE:∀args w,(callFunc fn args).run prog w=.ok (.enter fn args) w) (Cw:get opsL c.k=some (y_ fn za)) (dx:aL.ok c.k) (AI:za=true->ot o≠none) (Vw:(Q.l i).length<=90000000) (je:c.t.size<=5000)
 (hV:∀W,ae w W->H_ 38 #[c.val] W fun e W'=>e=.returned (R_ true)/\ae W W')
 (hf:∀OB W,ae w W->w.heap.size<=OB->fU w.heap.size OB Z_ [] W->H_ fn #[Q_ xs,c.val,rR OB] W fun e W'=>Ts w0 base W W' S Q n f i xs o w.heap.size OB Z_ [] e):
 H_ 17 #[Q_ xs,c.val] w fun e w'=>Tu w0 base w w' S Q n f i xs o e:=by
 have hw:=H.st.hb;have cU:=H.st.new.size
 refine(JN xs (Q_ S.s) i (ot o) c fn za (fun k=>S.aB Q k\/dp xs o k)
  (fun st tx l W=>∃S' Q' M' n' t' o' d',((0<=st/\st<=2)/\tx.size<=300)/\SO w0 base W S' Q' M' n' t' f i xs o' d'/\dJ w W S Q n i xs o 5000 1 (fun _=>False) S' Q' n' o'/\(∀r∈l,Fk o' r/\bF w.heap.size W r)/\l.length+2*(Q'.l i).length<=2*(Q.l i).length+200000)
  w hE H.dF Cw dx AI hV ?_ (fun k hk=>hk.elim H.st.fI (H.lt k)) ?_).mono ?_
 ·intro OB W hW gU hb;refine(hf OB W hW gU ⟨hb,Own.nil _ _ _ _,S_⟩).mono ?_;rintro e W' ⟨st,tx,i_,iR,S',Q',M',n',t',o',d',rfl,bT,ho,MF,hk,hg,hl⟩;refine⟨st,tx,i_,iR,rfl,ho.b,ho.r,by simp at hl;omega,hk.fr.mono fun k _ h=>?_,S',Q',M',n',t',o',d',bT,MF,?_,fun r hr=>⟨(hg r hr).resolve_left S_,ho.ok r hr⟩,by simpa using hl⟩
  ·rcases h with h|h|h|h
   ·exact .inr (.inl h)
   ·exact .inr (.inr h)
   ·exact .inl h
   ·cases h
  ·refine((dJ.refl (R:=fun _=>False) hW).trans hk fun k h=>?_).xE O_ O_ fun _ _ h=>h;rcases h with h|h
   ·exact .inr O_
   ·cases h
 ·rintro st tx l v A B ⟨S',Q',M',n',t',o',d',bT,MF,hk,hg,hl⟩ hv hf;refine⟨S',Q',M',n',t',o',d',bT,MF.apart hf fun k Bh _=>?_,((hk.trans (dJ.side hf) fun k h=>.inr (hv.block h).1).xE O_ O_ fun _ _ h=>h),fun r hr=>⟨(hg r hr).1,(hg r hr).2.fr hf fun k cs _ hc h=>hv.aD hc D_ h⟩,hl⟩;obtain⟨cs,hc⟩:=hv.heap Bh;have:=(hv.block Bh).1;exact⟨O_,O_,cs,.inr (.inl hc)⟩
 ·rintro e w' ⟨st,tx,v,l,rfl,hv,_,S',Q',M',n',t',o',d',bT,MF,hk,hg,hl⟩;have hrk:=RN w.heap.size w' c.t st tx je ⟨bT.1,O_⟩;refine⟨v,l++[l_ c.t st tx],S',Q',M',n',t',o',d',rfl,hv,fun r hr=>?_,by simp;omega,MF,hk⟩;rcases List.mem_append.1 hr with hr|hr
  ·exact hg r hr
  ·rw [List.mem_singleton.1 hr];exact⟨.inl hrk.2,hrk.1⟩
theorem BP(H:SO w0 base w S Q M n t f i xs o true) (c:fK):H_ 17 #[Q_ xs,c.val] w fun e w'=>Tu w0 base w w' S Q n f i xs o e:=by
 obtain⟨x0,x1,x2,x3⟩:=H.dF.rQ;have HH:=ac5 H;have bJ:=H.dF.lt;have y3:∀ob,L_ (w.alloc ob) xs 3 (R_ true):=fun ob=>(H.dF.alloc ob).cell 3;clear H
 go_enter func17,ntmps17
 go_wp2;go_ret;exact Tu.nothing HH.out ((ae.refl w).alloc _) (Own.nil _ _ _ _) S_ S_
theorem aas(H:SO w0 base w S Q M n t f i xs o false) (c:fK) (hV:∀W,ae w W->H_ 38 #[c.val] W fun e W'=>e=.returned (R_ false)/\ae W W'):H_ 17 #[Q_ xs,c.val] w fun e w'=>Tu w0 base w w' S Q n f i xs o e:=by
 have HH:=ac5 H;have bJ:=H.dF.lt;have y3:∀ob,L_ (w.alloc ob) xs 3 (R_ false):=fun ob=>(H.dF.alloc ob).cell 3;have n0:ae w (W_ w #[T_ c.t,I_ c.k,T_ c.m,X_ c.sA c.sn c.sc,I_ c.it,I_ c.mo,R_ c.si,B_ c.fl,X_ c.dA c.dn c.dc] 47):=(ae.refl w).alloc _;have HV:=ac5 (hV _ n0);clear H hV
 go_enter func17,ntmps17
 go_wp2_with fail
 refine HV.out.mono ?_;rintro e w1 ⟨rfl,n1⟩;go_wp2;go_ret;exact Tu.nothing HH.out (n0.trans n1) (Own.nil _ _ _ _) S_ S_
theorem rr(H:SN w0 base w S Q M n t f i xs false) (c:fK) (je:c.t.size<=5000) (fn:Nat) (Cw:get opsL c.k=some (y_ fn true)) (dx:aL.ok c.k)
 (hV:∀W,ae w W->H_ 38 #[c.val] W fun e W'=>e=.returned (R_ true)/\ae W W'):H_ 17 #[Q_ xs,c.val] w fun e w'=>Tu w0 base w w' S Q n f i xs none e:=by
 have hmf:=atQ;have HH:=ac5 H;have bJ:=H.dF.lt;have hx:=H.dF;have y3:∀ob,L_ (w.alloc ob) xs 3 (R_ false):=fun ob=>(hx.alloc ob).cell 3;have n0:ae w (W_ w #[T_ c.t,I_ c.k,T_ c.m,X_ c.sA c.sn c.sc,I_ c.it,I_ c.mo,R_ c.si,B_ c.fl,X_ c.dA c.dn c.dc] 47):=(ae.refl w).alloc _;have b0:af (W_ w #[T_ c.t,I_ c.k,T_ c.m,X_ c.sA c.sn c.sc,I_ c.it,I_ c.mo,R_ c.si,B_ c.fl,X_ c.dA c.dn c.dc] 47) w 47 #[T_ c.t,I_ c.k,T_ c.m,X_ c.sA c.sn c.sc,I_ c.it,I_ c.mo,R_ c.si,B_ c.fl,X_ c.dA c.dn c.dc]:=af.new _ _ _;have HV:=ac5 (hV _ n0);have HG:=JM c.k fn true Cw dx;clear H hV Cw
 go_enter func17,ntmps17
 go_wp2_with fail
 refine HV.out.mono ?_;rintro e w1 ⟨rfl,m1⟩;have n1:ae w w1:=n0.trans m1;have b1:=m1.ai b0;have jF:=n1.ai hx;have l1:=b1.lt;clear b0 n0 m1 y3 bJ;go_wp2_with fail
 have nA:=n1.alloc (G_ #[Z_] 50);have bA:=b1.alloc (G_ #[Z_] 50);have hxA:=jF.alloc (G_ #[Z_] 50);have sA:(w1.alloc (G_ #[Z_] 50)).heap.size=w1.heap.size+1:=by rw [gz]
 generalize(w1.alloc (G_ #[Z_] 50))=wA at*;generalize w1.heap.size=OB at*;clear b1 jF n1 w1;have kA:=bA.k1;have hlA:w.heap.size<wA.heap.size:=O_
 have HSA:=ac5 sA;clear sA
 go_region_held3 (fun W=>L_ W w 1 (I_ c.k)) (first|go_keep|assumption|exact S0 _ _) ((first
  |(go_at_call 40
    refine(HG _).mono ?_;rintro e w2 ⟨m,rfl,m2,hl,Ln⟩;have da:ae wA w2:=Fr.trans N_ m2;have c2:L_ w2 w 1 (I_ c.k):=(da.ai bA).cell 1;have s2:=da.size;have S0:∀u v,L_ ((w2.setCell (C_ wA 0) u).setCell (C_ wA 1) v) w 1 (I_ c.k):=fun u v=>Fr.cell (((One.refl wA.heap.size w2).set 0 u).set 1 v) c2 (by show¬w.heap.size=wA.heap.size;omega)
    try(have y:=m2.ai (af.new wA.drew 103 #[.nilFunc,R_ false]);simp only [IN]at y;have y0:=y.k0;have y1:=y.k1;have z0:=y.frozen 0;have z1:=y.frozen 1))
  |fail))
 all_goals
  first
  |(have n2:ae wA ((w2.setCell ⟨wA.heap.size,0,none⟩ (.func (.func fn) #[] #[])).setCell ⟨wA.heap.size,1,none⟩ (.bool true)):=ae.one da (((One.refl wA.heap.size w2).set 0 _).set 1 _) (aA _)
    have e1:af ((w2.setCell (C_ wA 0) (.func (.func fn) #[] #[])).setCell (C_ wA 1) (R_ true)) wA 103 #[.func (.func fn) #[] #[],R_ true]:=y.bP _ _;generalize((w2.setCell (C_ wA 0) (.func (.func fn) #[] #[])).setCell (C_ wA 1) (R_ true))=w3 at n2 e1⊢;generalize wA.heap.size=G at e1⊢)
  |(have n2:ae wA (w2.alloc (.cells #[.func (.func fn) #[] #[],.bool true] 103)):=da.alloc _
    have e1:af (W_ w2 #[.func (.func fn) #[] #[],R_ true] 103) w2 103 #[.func (.func fn) #[] #[],R_ true]:=af.new _ _ _;generalize(w2.alloc (G_ #[.func (.func fn) #[] #[],R_ true] 103))=w3 at n2 e1⊢;generalize w2.heap.size=G at e1⊢)
  have b3:=n2.ai bA;have hx3:=n2.ai hxA;have n3:=nA.trans n2;clear n2;obtain⟨x0,x1,x2,x3⟩:=hx3.rQ;have k0:=b3.k0;obtain⟨g0,g1⟩:=e1.dQ;have HW:=ac5 (Ae xs _ i none false c.t aar je D_ w3 hx3);clear b3 hx3 e1;go_wp2_with fail
  refine HW.out.mono ?_;rintro e w4 ⟨v,l,rfl,hv,hl,gK,n4⟩;go_wp2;go_ret;exact Tu.nothing (o:=none) HH.out (n3.trans n4) (hv.mono n3.size) (fun r hr=>⟨.inl (hl r hr).1,(hl r hr).2.mono n3.size⟩) O_
theorem akQ{k:Int}(h1:1<=k) (h8:k<=8):aL.ok k:=by
 have:k=1\/k=2\/k=3\/k=4\/k=5\/k=6\/k=7\/k=8:=O_
 rcases this with rfl|rfl|rfl|rfl|rfl|rfl|rfl|rfl<;>(show(Lit.int .i64 _).wf=true;decide)
theorem Vx(H:SO w0 base w S Q M n t f i xs o b) (hn:n<=5000) (Vy:∀j,(Q.l j).length<=90000000) (hq:Q.ids.length<=1000) (iW:S.cap<=1000) (hT:b_ w0) (hf:0<=f/\f<=4294967295) (c:fK) (s:List Rg) (l:List UInt8) (hc:Ft w c s l)
 (gh:∀b,Value.ownBlock (X_ c.dA c.dn c.dc)=some b->nums l≠[]->¬S.aB Q b):
 H_ 17 #[Q_ xs,c.val] w fun e w'=>Tu w0 base w w' S Q n f i xs o e:=by
 cases b
 case true=>exact BP H c
 have hQ:∀j∈Q.ids,(Q.l j).length<=90000000:=fun j _=>Vy j;have Vw:=Vy i;have bT:=H.st;have hw:=bT.hb;have cU:=bT.new.size;have hTw:=hT.new bT.new;obtain⟨vb,Qz,hV0⟩:=Nc c (by have:=hc.t;omega) l;have hV:∀W,ae w W->H_ 38 #[c.val] W fun e W'=>e=.returned (R_ vb)/\ae W W':=fun W hW=>hV0 W (hTw.new hW) (hc.yz.new hW);clear hV0
 cases vb
 case false=>exact aas H c hV
 obtain⟨eA,hk8⟩:=Qz rfl;have dx:=akQ eA hk8;have br:=bT.n1;obtain⟨nN,rfl⟩:∃nN:Nat,n=nN:=⟨n.toNat,O_⟩;obtain⟨fN,rfl⟩:∃fN:Nat,f=fN:=⟨f.toNat,O_⟩;have hfN:fN<4294967296:=O_
 have hk:c.k=1\/c.k=2\/c.k=5\/c.k=6\/c.k=3\/c.k=4\/c.k=7\/c.k=8:=O_
 rcases hk with hk|hk|hk|hk|hk
 ·exact tS H c 65 false (Aw func65 K_ rfl) (by rw [hk];rfl) dx (fun h=>by cases h) Vw hc.t hV fun OB W hW gU ho=>M5 (H.new hW) hn hQ c ho S_ hw cU hW.size O_ O_
 ·exact tS H c 66 false (Aw func66 K_ rfl) (by rw [hk];rfl) dx (fun h=>by cases h) Vw hc.t hV fun OB W hW gU ho=>Fo (H.new hW) c ho S_ hw cU hW.size O_ O_
 ·exact tS H c 67 false (Aw func67 K_ rfl) (by rw [hk];rfl) dx (fun h=>by cases h) Vw hc.t hV fun OB W hW gU ho=>Fs nN fN hfN hT (H.new hW) hn hq iW c hc.m ho S_ hw cU hW.size O_ O_
 ·exact tS H c 68 false (Aw func68 K_ rfl) (by rw [hk];rfl) dx (fun h=>by cases h) Vw hc.t hV fun OB W hW gU ho=>Fp fN hfN hT (H.new hW) hn hQ c hc.fl hc.m (nums l) (hc.yz.new hW) gh ho S_ hw cU hW.size O_ O_
 ·rcases o with _|⟨v,x,u,lv⟩
  ·rcases hk with hk|hk|hk|hk
   ·exact rr H c hc.t 69 (by rw [hk];rfl) dx hV
   ·exact rr H c hc.t 70 (by rw [hk];rfl) dx hV
   ·exact rr H c hc.t 71 (by rw [hk];rfl) dx hV
   ·exact rr H c hc.t 72 (by rw [hk];rfl) dx hV
  ·have AI:true=true->ot (some (v,x,u,lv))≠none:=fun _ h=>by cases h
   rcases hk with hk|hk|hk|hk
   ·exact tS H c 69 true (Aw func69 K_ rfl) (by rw [hk];rfl) dx AI Vw hc.t hV fun OB W hW gU ho=>I6 (H.new hW) hn hQ c ho S_ hw cU hW.size O_ O_
   ·exact tS H c 70 true (Aw func70 K_ rfl) (by rw [hk];rfl) dx AI Vw hc.t hV fun OB W hW gU ho=>Ca (H.new hW) hn hQ c ho S_ hw cU hW.size O_ O_
   ·exact tS H c 71 true (Aw func71 K_ rfl) (by rw [hk];rfl) dx AI Vw hc.t hV fun OB W hW gU ho=>IZ (H.2.new hW) hn hQ c s (hc.set.new hW) hc.wf hc.sl ho S_ hw cU hW.size O_ O_
   ·exact tS H c 72 true (Aw func72 K_ rfl) (by rw [hk];rfl) dx AI Vw hc.t hV fun OB W hW gU ho=>Jc (H.2.new hW) hn hQ c hc.fl s (hc.set.new hW) hc.wf hc.sl ho S_ hw cU hW.size O_ O_
end
theorem oy(a:Int):∀{l:List Int},l.Nodup->l.length<=(l.filter fun x=>decide (x≠a)).length+1
 |[],_=>S_
 |y::t,h=>by
  have hn:=(List.nodup_cons.1 h);by_cases hy:y=a
  ·subst hy
   have:(t.filter fun x=>decide (x≠y))=t:=List.filter_eq_self.2 fun x hx=>by
    have:x≠y:=fun e=>hn.1 (e▸hx);simpa using this
   rw [mD S_,this];simp
  ·have:=oy a hn.2;rw [Qo (by simpa using hy),iU,iU];omega
theorem Af:∀(N:Nat) {l:List Int},l.Nodup->(∀x∈l,0<=x/\x<(N:Int))->l.length<=N
 |0,[],_,_=>S_
 |0,y::t,_,h=>by have:=h y (vB ..);omega
 |N+1,l,hn,h=>by
  have h1:=Af N (l:=l.filter fun x=>decide (x≠(N:Int))) (hn.filter _) fun x hx=>by
   obtain⟨h2,h3⟩:=List.mem_filter.1 hx;have h4:=h x h2;have h5:x≠(N:Int):=by simpa using h3
   omega
  have h2:=oy (N:Int) hn;omega
structure Hs(w0:World) (base:Nat) (w:World) (S:Sx) (Q:Qs) (M:List bU) (n t f:Int) (B N:Nat) (xs:Nat->Nat) (o:Nat->Vo) (d:Nat->Bool):Prop where
 so:∀i,i<N->SO w0 base w S Q M n t f (i:Int) (xs i) (o i) (d i)
 ap:∀i,i<N->∀j,j<N->i≠j->∀k,dp (xs i) (o i) k->¬dp (xs j) (o j) k
 qi:∀j∈Q.ids,0<=j/\j<(N:Int)
 ql:∀j,(Q.l j).length<=B
section
variable{w0 w w':World}{base:Nat}{S S':Sx}{Q Q':Qs}{M M':List bU}{n t f n' t' f':Int}{B N i:Nat}{xs:Nat->Nat}{o:Nat->Vo}{d:Nat->Bool}{o':Vo}{d' b:Bool}
theorem Hs.ids (h:Hs w0 base w S Q M n t f B N xs o d) (hi:i<N):Q.ids.length<=N:=Af N (h.so i hi).st.qx.ZC h.qi
theorem Hs.step (h:Hs w0 base w S Q M n t f B N xs o d) (hi:i<N) (MF:SO w0 base w' S' Q' M' n' t' f (i:Int) (xs i) o' d') {m dd:Nat}(hk:dJ w w' S Q n (i:Int) (xs i) (o i) m dd (fun _=>False) S' Q' n' o'):
 Hs w0 base w' S' Q' M' n' t' f (B+m) N xs (fun j=>if j=i then o' else o j) (fun j=>if j=i then d' else d j) where
 so:=fun j hj=>by
  by_cases g_:j=i
  ·subst g_;rw [if_pos rfl,if_pos rfl];exact MF
  ·rw [if_neg g_,if_neg g_];obtain⟨a1,L,a2,a3,a4⟩:=hk.yO (j:Int) O_;refine(h.so j hj).turn MF.st hk.s hk.fr (fun k eA kI=>?_) hk.gr hk.nn.1 a1 fun e he=>?_
   ·rcases kI with h1|h1|h1
    ·exact(h.so j hj).bL k eA h1
    ·exact h.ap j hj i hi g_ k eA h1
    ·exact h1
   ·rw [a2]at he;exact(List.mem_append.1 he).imp id (a4 e)
 ap:=fun a ha c hc hac k eA kI=>by
  have bJ:∀j,j<N->∀k,dp (xs j) (o j) k->k<w.heap.size:=fun j hj=>(h.so j hj).lt;by_cases WH:a=i
  ·subst WH;rw [if_pos rfl]at eA;rw [if_neg (iX hac)]at kI;rcases hk.mg k eA with h1|h1
   ·exact h.ap a ha c hc hac k h1 kI
   ·have:=bJ c hc k kI;omega
  ·rw [if_neg WH]at eA;by_cases hci:c=i
   ·subst hci;rw [if_pos rfl]at kI;rcases hk.mg k kI with h1|h1
    ·exact h.ap a ha c hc hac k eA h1
    ·have:=bJ a ha k eA;omega
   ·rw [if_neg hci]at kI;exact h.ap a ha c hc hac k eA kI
 qi:=fun j hj=>by
  by_cases g_:j=(i:Int)
  ·omega
  ·exact h.qi j ((hk.yO j g_).1.1 hj)
 ql:=fun j=>by
  have:=h.ql j;by_cases g_:j=(i:Int)
  ·subst g_;have:=hk.own;omega
  ·obtain⟨_,L,a2,a3,_⟩:=hk.yO j g_;rw [a2,dr];omega
def atO:Vo->Int->Int×Bool
 |none,_=>(0,false)
 |some (_,_,_,l),p=>jQ l p
theorem Vz(p:Int) (w:World):H_ 19 #[.pointer none,I_ p] w fun e w'=>e=.returned (.tuple #[U_ 0,R_ false])/\w'=w:=by
 go_enter func19,ntmps19
 go_wp2;go_ret2;exact⟨rfl,rfl⟩
end
end Go.Proofs.YtliimglbbiebiaaGreatDoor
