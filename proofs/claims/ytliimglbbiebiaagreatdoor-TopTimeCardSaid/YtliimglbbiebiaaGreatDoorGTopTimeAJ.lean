import Derived.Test.YtliimglbbiebiaaGreatDoorGTopTimeAE
import Derived.Test.YtliimglbbiebiaaGreatDoorGTopTimeAA
import Derived.Test.YtliimglbbiebiaaGreatDoorGTopTimeAD
set_option maxRecDepth 100000
set_option maxHeartbeats 6400000
set_option linter.all false
namespace Go.Proofs.YtliimglbbiebiaaGreatDoor
open Go.Proofs.Tryz Go.RowKit Go.Maps
def iH(B:Nat) (W W':World):Prop:=∃row,W.grownBy W' row/\∀r,row=some r->B<=r/\∃o:Obj,W.heap[r]? =some o/\o.isCells=false
theorem bN{β:Type}{B:Nat}{I:β->World->Prop}(h:∀s W W',I s W->iH B W W'->I s W'):OwnFrom B I:=fun s W W' row hs hg hr=>h s W W' hs ⟨row,hg,hr⟩
section
variable{B:Nat}{w0 W W':World}{S:Nat->Prop}
theorem iH.fr (h:iH B W W') (hS:∀k,B<=k->(∃o:Obj,W.heap[k]? =some o/\o.isCells=false)->S k):Fr S W W':=by
 obtain⟨row,hg,hr⟩:=h;exact Fr.dW hg fun i e=>hS i (hr i e).1 (hr i e).2
theorem iH.JX (h:iH B W W'):Fr (fun k=>B<=k) W W':=h.fr fun _ h _=>h
theorem iH.G3 (h:iH B W W'):Fr (fun k=>∃o:Obj,W.heap[k]? =some o/\o.isCells=false) W W':=h.fr fun _ _ h=>h
theorem iH.lI (h:iH B W W') (hf:Fr S w0 W) (hB:w0.heap.size<=B):Fr S w0 W':=Fr.trans' hf h.JX fun i hi hk=>O_
theorem iH.ai (h:iH B W W') {g:Nat}{t:TypeId}{cs:Array Value}(hb:af W g t cs):af W' g t cs:=Fr.ai h.G3 hb fun⟨o,ho,hc⟩=>by
 unfold af at hb;rw [hb]at ho
 cases ho
 cases hc
theorem iH.own {α:Type}{E:cr α}{e:TypeId}{base:Nat}{v:Value}{l:List α}(h:iH B W W') (ho:Own E e base W v l):Own E e base W' v l:=by
 refine ho.fr h.G3 fun g hg ⟨o,h1,hc⟩=>?_;rcases ho.2 with⟨h2,_⟩|⟨g',_,cur,h2,_,h3,_⟩
 ·rw [h2]at hg;cases hg
 ·rw [h2]at hg
  cases hg
  rw [h3]at h1
  cases h1
  cases hc
theorem iH.map {P:Program}{K:TypeId}{β:Type} [DecidableEq β] {KE:el P K β}{b:Nat}{m:List (β×Value)}(h:iH B W W') (hm:HasMap KE W b m) (hb:b<B):HasMap KE W' b m:=hm.fr h.JX O_
theorem fy(hf:Fr S W W') (hS:∀k,B<=k->S k->∀o:Obj,W.heap[k]? =some o->o.isCells=true):KeepsFrom B W W':=
 ⟨hf.size,fun k o hB hk ho=>by
   by_cases hs:S k
   ·rw [hS k hB hs o hk]at ho;cases ho
   ·rw [hf.block k (Array.getElem?_eq_some_iff.1 hk).1 hs];exact hk⟩
theorem gp(hf:Fr S W W') (hS:∀k,S k->k<B):KeepsFrom B W W':=fy hf fun k h1 h2=>by have:=hS k h2;omega
theorem af.isCells {g:Nat}{t:TypeId}{cs:Array Value}(h:af W g t cs):∀o:Obj,W.heap[g]? =some o->o.isCells=true:=fun o ho=>by
 unfold af at h;rw [h]at ho
 cases ho
 rfl
theorem Own.isCells {α:Type}{E:cr α}{e:TypeId}{base:Nat}{v:Value}{l:List α}(ho:Own E e base W v l) {k:Nat}(hk:v.ownBlock=some k):∀o:Obj,W.heap[k]? =some o->o.isCells=true:=fun o h1=>by
 rcases ho.2 with⟨h2,_⟩|⟨g',_,cur,h2,_,h3,_⟩
 ·rw [h2]at hk;cases hk
 ·rw [h2]at hk
  cases hk
  rw [h3]at h1
  cases h1
  rfl
end
section
variable{P:Program}{α:Type}{E:cr α}{e:TypeId}{base:Nat}{v:Value}{l:List α}{w:World}{F:Fence}{n:Nat}
variable{ops:Array Oper}{rest:List Oper}{o:Oper}{a:Act}{Q:Exit->Act->World->Prop}
theorem dV(Lh:o.guard=none) (s x:Operand) (t:TypeId) (ho:o.op=.call {callee:=.builtin .append,args:= #[s,x],argTypes:= #[t,t]})
 {i:TypeInfo}{z:Value}{bytes:Nat}(ht:P.underlying t=some (.slice e)) (hi:P.info? e=some i) (hz:i.zero=some z)
 (ik:i.size=E.sz) (Gw:i.bytes=bytes) (Oz:z.cells.size=E.sz)
 (h:Own E e base w v l) (hs:a.eval s=v) {u:Value}{m:List α}(hu:Rd E w u m) (hx:a.eval x=u)
 (TF:l.length+m.length<=maxLen) (kS:(l.length+m.length)*bytes<=140737488355328) (dH:base<=w.heap.size)
 (hK:∀v' w',Own E e base w' v' (l++m)->Fr (fun k=>v.ownBlock=some k) w w'->(v'.ownBlock=v.ownBlock\/v'.ownBlock=some w.heap.size)->wpListIn F n P ops Q rest (a.put o.dst v') w'):
 wpListIn F n P ops Q (o::rest) a w:=by
 obtain⟨v',w',hr,h1,h2,h3⟩:=iC (P:=P) t o.type ht hi hz ik Gw Oz h hu TF kS dH;refine wpListIn_plain Lh fun K' Ow=>?_;unfold Oper.wpIn;refine⟨by simp [Oper.about,ho,resolve,Target.leads,jK],?_⟩;rw [Oper.semAt_plain F _ _ (by rw [ho];intro c rH;cases rH)];unfold execOp;simp only [ho,resolve,invoke,builtin,rN,jK,oM,Hx,nR,Kf,hs,hx,hr];exact Ow _ _ (hK v' w' h1 h2 h3)
end
def aG(O:List Int) (k:Int):Int:=if 0<=k then O.getD k.toNat (-1)else -1
def DU(O:List Int) (o:Int):List Nat:=(List.range O.length).filter fun i=>decide (O.getD i (-1)=o)
def bQ(O:List Int) (o:Int):List Int:=if o<0 then []else(DU O o).map Int.ofNat
def ji(O:List Int) (o k:Int):Nat:=
 if o<0\/k<0\/(O.length:Int)<=k then 2 else
 if aG O k=o then 8 else
 if(bQ O o).any (fun x=>decide (k<x))then 10 else
 if 0<=aG O k then 9 else 0
def qE(O:List Int) (o k:Int):List Int:=if ji O o k=0 then O.set k.toNat o else O
def DV(O:List Int) (o k:Int):Nat:=if ji O o k=0 then 1 else 0
def pj(O:List Int) (o:Int):List Int:=O.map fun x=>if x=o then -1 else x
def uQ(O:List Int) (o k:Int):Bool:=decide (aG O k<0)||decide (aG O k≠o)
def mj(O:List Int) (o:Int) (ks:List Int):Bool:=match ks.find? (uQ O o)with|none=>false|some k=>decide (0<=aG O k)
def Ows(O:List Int):Prop:=∀x∈O, -1<=x
theorem zG{O:List Int}(h:Ows O) (k:Int): -1<=aG O k:=by
 unfold aG
 split
 ·rw [JG]
  cases hk:O[k.toNat]? with
  |none=>simp
  |some x=>simpa using h x (YX hk)
 ·exact gq _
theorem Hl{O:List Int}{k:Int}(h:k<0\/(O.length:Int)<=k):aG O k= -1:=by
 unfold aG
 split
 ·rw [JG,aeA O_];rfl
 ·rfl
theorem Hm(O:List Int) (i:Nat):aG O i=O.getD i (-1):=by
 unfold aG;rw [if_pos O_];rfl
theorem zH{O:List Int}{k:Int}(h:0<=aG O k):0<=k/\k<O.length:=by
 by_cases h1:k<0\/(O.length:Int)<=k
 ·rw [Hl h1]at h;omega
 ·omega
theorem zI{O:List Int}{o:Int}{i:Nat}:i∈DU O o<->i<O.length/\O.getD i (-1)=o:=by
 unfold DU;rw [List.mem_filter];simp
theorem kp{O:List Int}{o k:Int}(ho:0<=o):k∈bQ O o<->aG O k=o:=by
 unfold bQ;rw [if_neg O_,SE]
 constructor
 ·rintro⟨i,hi,rfl⟩;rw [zI]at hi
  show aG O (i:Int)=o
  rw [Hm];exact hi.2
 ·intro h;have hk:=zH (O:=O) (k:=k) O_;refine⟨k.toNat,zI.2 ⟨O_,?_⟩,by show((k.toNat:Nat):Int)=k;omega⟩;unfold aG at h
  rwa [if_pos hk.1]at h
theorem Bc(O:List Int) (o:Int):(DU O o).Pairwise (·<·):=List.Pairwise.filter _ List.pairwise_lt_range
theorem Bd(O:List Int) (o:Int):(bQ O o).Pairwise (·<·):=by
 unfold bQ
 split
 ·exact List.Pairwise.nil
 ·refine(Bc O o).map _ fun a b h=>?_
  show(a:Int)<(b:Int)
  omega
theorem m_(O:List Int) (o:Int):(bQ O o).length<=O.length:=by
 unfold bQ
 split
 ·simp
 ·rw [D9];unfold DU;have:=cR (fun i=>decide (O.getD i (-1)=o)) (List.range O.length)
  rwa [List.length_range]at this
theorem ju{O:List Int}{o k:Int}(h:k∈bQ O o):0<=k/\k<O.length:=by
 by_cases ho:0<=o
 ·have:=(kp ho).1 h;exact zH O_
 ·unfold bQ at h;rw [if_pos O_]at h
  cases h
theorem Hn{l m:List Int}(hl:l.Pairwise (·<·)) (hm:m.Pairwise (·<·)) (h:∀x,x∈l<->x∈m):l=m:=by
 have hp:=(Ru (hl.imp fun h=>O_) (hm.imp fun h=>O_)).2 h;exact hp.eq_of_pairwise (fun a b _ _ h1 h2=>O_) hl hm
theorem yp{O:List Int}{i:Nat}(h:i<O.length) (x d:Int):(O.set i x).getD i d=x:=by
 rw [JG,acW h];rfl
theorem Ho{O:List Int}{k:Int}(hk:0<=k) (kI:k<O.length) (o j:Int):aG (O.set k.toNat o) j=if j=k then o else aG O j:=by
 unfold aG
 split
 ·by_cases hj:j=k
  ·subst hj;rw [if_pos rfl,yp O_]
  ·rw [if_neg hj,JG,OV O_,<-JG]
 ·rw [if_neg O_]
theorem DX(O:List Int) (o k:Int):(qE O o k).length=O.length:=by
 unfold qE
 split<;>simp
theorem na{O:List Int}{o k:Int}(h:ji O o k=0):0<=o/\0<=k/\k<O.length/\aG O k<0/\∀x∈bQ O o,x<=k:=by
 unfold ji at h
 split at h
 ·cases h
 ·split at h
  ·cases h
  ·split at h
   ·cases h
   ·split at h
    ·cases h
    ·rename_i h1 h2 h3 h4
     refine⟨O_,O_,O_,O_,fun x hx=>?_⟩;rcases zJ k x with h5|h5
     ·exact absurd (List.any_eq_true.2 ⟨x,hx,k_ h5⟩) h3
     ·exact h5
theorem PI{O:List Int}(h:Ows O) (o k:Int):Ows (qE O o k):=by
 unfold qE
 split
 ·rename_i h0
  have:=na h0;intro x hx;rcases Hr hx with h1|h1
  ·exact h x h1
  ·omega
 ·exact h
theorem DY(O:List Int) (o k j:Int):aG (qE O o k) j=if ji O o k=0/\j=k then o else aG O j:=by
 unfold qE
 split
 ·rename_i h0
  have:=na h0;rw [Ho this.2.1 this.2.2.1];by_cases hj:j=k
  ·rw [if_pos hj,if_pos ⟨h0,hj⟩]
  ·rw [if_neg hj,if_neg (fun h=>hj h.2)]
 ·rename_i h0
  rw [if_neg (fun h=>h0 h.1)]
theorem DZ(O:List Int) (o:Int):(pj O o).length=O.length:=by simp [pj]
theorem PJ{O:List Int}(h:Ows O) (o:Int):Ows (pj O o):=by
 intro x hx;unfold pj at hx;obtain⟨y,hy,rfl⟩:=List.mem_map.1 hx
 split
 ·exact gq _
 ·exact h y hy
theorem D0(O:List Int) (o j:Int):aG (pj O o) j=if aG O j=o then -1 else aG O j:=by
 unfold aG pj
 split
 ·rw [JG,JG,OX]
  cases O[j.toNat]? with
  |none=>simp
  |some x=>simp
 ·simp
abbrev jf(x:Int):Prop:=(Lit.int .i64 x).wf=true
def jw(w:World) (g:Nat) (lb:Array Value) (p:Int->Bool):Prop:=
 ∀(W:World) (x:Int),jf x->ae w W->H_ g (#[.int .i64 x]++lb) W fun e w'=>e=.returned (R_ (p x))/\ae W w'
def qF(p:Int->Bool) (l:List Int) (i:Int):Prop:=(i= -1/\∀x∈l,p x=false)\/∃(k:Nat) (x:Int),i=k/\l[k]? =some x/\p x=true/\∀y∈l.take k,p y=false
theorem pn(g:Nat) (lb:Array Value) (p:Int->Bool) (hE:∀args w,(callFunc g args).run prog w=.ok (.enter g args) w) (v:Value) (l:List Int) (w:World) (hp:jw w g lb p) (hv:Rd (ak .i64) w v l) (dx:∀x∈l,jf x) (hl:l.length<=1000000):
 H_ 159 #[v,.func (.func g) #[] lb] w fun e w'=>∃i:Int,e=.returned (I_ i)/\qF p l i/\ae w w':=by
 obtain⟨A,c,rfl,hc,az⟩:=hv.ints;have HC:=ac5 az;have uj:=ac5 dx;clear az dx hv
 go_enter func159,ntmps159
 go_wp2
 go_loopw [8] (fun vi wr=>∃k:Nat,k<=l.length/\vi=I_ k/\Hid (∀x,x∈l.take k->p x=false)/\ae w wr) (fun vi _=>l.length-(intOf vi).toNat)
 case atStart=>exact⟨0,Gv _,rfl,fun x hx=>by simp at hx,ae.refl _⟩
 case round=>
  obtain⟨k,hk,rfl,HS,c_⟩:=hrel;by_cases dL:k<l.length
  ·obtain⟨x,hx⟩:∃x,l[k]? =some x:=⟨_,DW dL⟩;obtain⟨b,off,rfl,aF⟩:=HC.out (by rintro rfl;simp at dL);have c0:=Fr.cell c_ (aF k _ hx) id;have bZ:=hp _ x (uj.out x (YX hx)) c_;have HX:=ac5 hx;clear aF hx
   cases mT:p x
   all_goals
    rw [mT]at bZ;have HP:=ac5 mT;have eH:=ac5 bZ;clear mT bZ;go_wp2_with fail
    refine eH.out.mono ?_;rintro e w1 ⟨rfl,br⟩;go_wp2
   ·go_roundw
    case rel=>
     refine⟨k+1,O_,by go_num,fun x hx=>?_,c_.trans br⟩;rw [fZ HX.out]at hx;rcases List.mem_append.1 hx with hx|hx
     ·exact HS.out x hx
     ·rw [List.mem_singleton.1 hx];exact HP.out
    case measure=>simp [intOf];omega
   ·go_ret;exact⟨_,rfl,.inr ⟨k,_,rfl,HX.out,HP.out,HS.out⟩,c_.trans br⟩
  ·go_wp2;go_ret;refine⟨_,rfl,.inl ⟨rfl,fun x hx=>?_⟩,c_⟩;exact HS.out x (by rw [Hv O_];exact hx)
theorem qF.any {p:Int->Bool}{l:List Int}{i:Int}(h:qF p l i):decide (0<=i)=l.any p:=by
 rcases h with⟨rfl,h⟩|⟨k,x,rfl,hx,hp,_⟩
 ·have:l.any p=false:=List.any_eq_false.2 fun x hx=>by simp [h x hx]
  rw [this];rfl
 ·have:l.any p=true:=List.any_eq_true.2 ⟨x,YX hx,hp⟩;rw [this];simp
theorem nZ(g:Nat) (lb:Array Value) (p:Int->Bool) (hE:∀args w,(callFunc g args).run prog w=.ok (.enter g args) w) (v:Value) (l:List Int) (w:World) (hp:jw w g lb p) (hv:Rd (ak .i64) w v l) (dx:∀x∈l,jf x) (hl:l.length<=1000000):
 H_ 216 #[v,.func (.func g) #[] lb] w fun e w'=>e=.returned (R_ (l.any p))/\ae w w':=by
 have h:=pn g lb p hE v l w hp hv dx hl;have H:=ac5 h;generalize hq:l.any p=q;have HQ:=ac5 hq;clear h hp hv hE hq
 go_enter func216,ntmps216
 go_wp2_with fail
 refine H.out.mono ?_;rintro e w1 ⟨i,rfl,hf,hn⟩;have hi:=hf.any.trans HQ.out;clear hf
 cases q
 all_goals
  go_wp2;go_ret;exact⟨rfl,hn⟩
theorem tw(g:Nat) (lb:Array Value) (p:Int->Bool) (hE:∀args w,(callFunc g args).run prog w=.ok (.enter g args) w) (v:Value) (l:List Int) (w0 w:World) (hp:jw w0 g lb p) (iP:ae w0 w)
 (hv:Own (ak .i64) 3 w0.heap.size w v l) (dx:∀x∈l,jf x) (hl:l.length<=100000):
 H_ 155 #[v,.func (.func g) #[] lb] w fun e w'=>∃o,e=.returned o/\Own (ak .i64) 3 w0.heap.size w' o (l.filter fun x=> !p x)/\Fr (fun k=>v.ownBlock=some k) w w':=by
 have hzero:∀w,(zeroValue 3).run prog w=.ok (I_ 0) w:=fun w=>K_
 have lK:jw w g lb p:=fun W x ho h=>hp W x ho (iP.trans h);have LS:=pn g lb p hE v l w lK hv.rd dx O_;obtain⟨A,c,rfl,hc⟩:=hv.form;have HP0:=ac5 hp;have HI:=ac5 LS;have uj:=ac5 dx;clear hp lK LS dx;obtain⟨r,hr⟩:∃r,r=l.filter fun x=> !p x:=⟨_,rfl⟩;rw [<-hr];have HRE:=ac5 hr;clear hr
 go_enter func155,ntmps155
 go_wp2_with fail
 refine HI.out.mono ?_;rintro e w1 ⟨i,rfl,YZ,br⟩;have fE:=hv.new br;rcases YZ with⟨rfl,iK⟩|⟨k,x,rfl,hx,mT,adn⟩
 ·have qD:(l.filter fun x=> !p x)=l:=List.filter_eq_self.2 fun x hx=>by simp [iK x hx]
  have hr:=HRE.out.trans qD;subst hr;clear qD iK HRE;go_wp2;go_ret;exact⟨_,rfl,fE,br.mono fun _ _ h=>h.elim⟩
 ·have dL:=(List.getElem?_eq_some_iff.1 hx).1
  have PK:l.take k=(l.take (k+1)).filter fun x=> !p x:=by
   rw [fZ hx,Kk,List.filter_eq_self.2 fun y hy=>by simp [adn y hy]];simp [mT]
  have Y0:=ac5 PK;clear hx mT adn PK HI;obtain⟨gg,rfl⟩:=fE.OC O_;have aiR:=iP.trans br;have ap1:w0.heap.size<=gg:=(fE.block rfl).1;obtain⟨wo,rfl⟩:∃wo:World,wo=w1:=⟨_,rfl⟩;have Bb:((k:Int)== -1)=false:=S_
  go_wp2
  go_loopw [5,6] (fun vi vj wr=>∃(i j:Nat) (m:List Int),i<j/\j<=l.length/\vi=I_ i/\vj=I_ j/\m.length=l.length/\Hid (m.take i=(l.take j).filter fun x=> !p x)/\Hid (∀t,j<=t->m[t]? =l[t]?)/\
   Own (ak .i64) 3 w0.heap.size wr (X_ (M_ gg) l.length c) m/\Fr (fun q=>gg=q) wo wr) (fun _ vj _=>l.length-(intOf vj).toNat)
  case atStart=>exact⟨k,k+1,l,O_,O_,rfl,by go_num,rfl,Y0.out,fun _ _=>rfl,fE,Fr.refl _ _⟩
  case round=>
   obtain⟨i,j,m,G9,NK,rfl,rfl,hm,HT,HR,ho,hf⟩:=hrel;have aiS:ae w0 wr:=Fr.trans' aiR hf fun q hq hs=>O_
   clear fE;by_cases hjn:j<l.length
   ·obtain⟨x,hx⟩:∃x,l[j]? =some x:=⟨_,DW hjn⟩;have zK:m[j]? =some x:=by rw [HR.out j (aA _)];exact hx
    obtain⟨y,hy⟩:∃y,m[i]? =some y:=⟨_,DW O_⟩;have LC:=fZ hx;have c0:=ho.pZ zK;have bZ:=HP0.out wr x (uj.out x (YX hx)) aiS;have HSN:=ac5 LC;have HY:=ac5 hy;clear hx zK LC hy
    cases mT:p x
    ·rw [mT]at bZ;have WQ:=ac5 mT;have eH:=ac5 bZ;clear mT bZ;go_wp2_with fail
     refine eH.out.mono ?_;rintro e w2 ⟨rfl,iQ⟩;have eY:=ho.new iQ;have e0:=eY.pZ HY.out;have f0:w2.frozen? (C_ gg i)=false:=eY.uF _;have NR:i<m.length:=O_
     have bT:=eY.p_ i x;have iI:=ac5 bT;have dU:=hf.trans (iQ.mono fun _ _ h=>h.elim);clear bT eY ho;go_wp2;go_roundw
     case rel=>
      refine⟨i+1,j+1,m.set i x,O_,O_,by go_num,by go_num,by rw [xj];exact hm,?_,?_,iI.out,?_⟩
      ·show(m.set i x).take (i+1)=_
       rw [HSN.out,Kk,fZ (acW NR),List.take_set_of_le (aA _),HT.out];simp [WQ.out]
      ·intro t ht;rw [OV O_];exact HR.out t O_
      ·exact Fr.setCell (p:=⟨gg,_,none⟩) dU (fun _=>rfl) _
     case measure=>simp [intOf];omega
    ·rw [mT]at bZ;have WQ:=ac5 mT;have eH:=ac5 bZ;clear mT bZ;go_wp2_with fail
     refine eH.out.mono ?_;rintro e w2 ⟨rfl,iQ⟩;have eY:=ho.new iQ;have dU:=hf.trans (iQ.mono fun _ _ h=>h.elim);clear ho;go_wp2;go_roundw
     case rel=>
      refine⟨i,j+1,m,O_,O_,rfl,by go_num,hm,?_,fun t ht=>HR.out t O_,eY,dU⟩
      show m.take i=_
      rw [HSN.out,Kk,HT.out];simp [WQ.out]
     case measure=>simp [intOf];omega
   ·obtain rfl:j=l.length:=O_
    have ht:=HT.out;rw [iD]at ht;have hr:=HRE.out.trans ht.symm;subst hr;clear ht HRE
    have cE:∀u∈(Value.int .i64 0).cells.toList,u.oneCell'=true:=by
     intro u hu;have Ut:u∈[Value.int .i64 0]:=hu;rw [List.mem_singleton.1 Ut];rfl
    obtain⟨w3,J6,fg,gP⟩:=nU (P:=prog) (E:=ak .i64) (ty:=0) underlying31 hzero rfl cE ho i (c-i) O_
    have aiT:(Builtin.clear_ #[31] 0 #[X_ (some ⟨gg,i,none⟩) (l.length-i) (c-i)]).run prog wr=.ok (.tuple #[]) w3:=by
     have e1:i*(ak .i64).sz=i:=RZ i;rw [e1]at J6;exact J6
    clear J6;go_wp2;go_ret;have aiU:=hf.trans (gP.mono fun _ _ h=>h.symm);exact⟨_,rfl,fg,(br.mono fun _ _ h=>h.elim).trans (aiU.mono fun _ _ h=>by rw [h];rfl)⟩
theorem wm(v u:Value) (l m:List Int) (w:World) (hv:Rd (ak .i64) w v l) (hu:Rd (ak .i64) w u m) (hl:l.length<=1000000) (hm:m.length<=1000000):
 H_ 12 #[v,u] w fun e w'=>e=.returned (R_ (decide (l=m)))/\ae w w':=by
 obtain⟨A,c,rfl,hc,hA⟩:=hv.ints;obtain⟨B,d,rfl,hd,hB⟩:=hu.ints;have HA:=ac5 hA;have HB:=ac5 hB;clear hA hB hv hu;by_cases NS:l.length=m.length
 ·generalize hq:decide (l=m)=q;have HQ:=ac5 hq;have HLM:=ac5 NS;rw [<-NS];rw [<-NS]at hm;clear hq NS
  go_enter func12,ntmps12
  go_wp2
  go_loopw [13] (fun vi wr=>∃k:Nat,k<=l.length/\vi=I_ k/\Hid (∀i,i<k->l[i]? =m[i]?)/\ae w wr) (fun vi _=>l.length-(intOf vi).toNat)
  case atStart=>exact⟨0,Gv _,rfl,fun i hi=>O_,ae.refl _⟩
  case round=>
   obtain⟨k,hk,rfl,HS,c_⟩:=hrel;by_cases dL:k<l.length
   ·obtain⟨x,hx⟩:∃x,l[k]? =some x:=⟨_,DW dL⟩;obtain⟨y,hy⟩:∃y,m[k]? =some y:=⟨_,DW (by have:=HLM.out;omega)⟩;obtain⟨b,off,rfl,aF⟩:=HA.out (by rintro rfl;simp at dL);obtain⟨b',ug,rfl,PL⟩:=HB.out (by rintro rfl;simp at hy);have c0:=Fr.cell c_ (aF k _ hx) id;have d0:=Fr.cell c_ (PL k _ hy) id;have HX:=ac5 hx;have HY:=ac5 hy;clear aF PL hx hy
    cases NV:(x !=y)
    all_goals
     have HXY:=ac5 NV;go_wp2_with fail
     go_quiet (fail)
     go_wp2
    ·go_roundw
     case rel=>
      refine⟨k+1,O_,by go_num,fun i hi=>?_,c_.drewN _⟩;rcases GA i k with h|h
      ·exact HS.out i h
      ·obtain rfl:i=k:=O_
       have:x=y:=by simpa using HXY.out
       rw [HX.out,HY.out,this]
     case measure=>simp [intOf];omega
    ·go_ret
     have bV:q=false:=by
      rw [<-HQ.out];refine aP fun e=>?_;have h1:=HX.out;rw [e,HY.out]at h1;injection h1 with h1;have h2:x≠y:=by simpa using HXY.out
      exact h2 h1.symm
     rw [bV];exact⟨rfl,c_.drewN _⟩
   ·go_wp2;go_ret
    have he:q=true:=by
     rw [<-HQ.out];refine k_ (List.ext_getElem? fun i=>?_);rcases GA i k with h|h
     ·exact HS.out i h
     ·rw [aeA O_,aeA (by have:=HLM.out;omega)]
    rw [he];exact⟨rfl,c_⟩
 ·have bV:decide (l=m)=false:=aP fun e=>NS (by rw [e]);rw [bV];have hb:((l.length:Int) !=(m.length:Int))=true:=by simp;omega
  clear bV NS
  go_enter func12,ntmps12
  go_wp2;go_ret;exact⟨rfl,ae.refl _⟩
theorem D6(w:World):(zeroValue 3).run prog w=.ok (I_ 0) w:=K_
def cellAt(O:List Int) (k:Int):Option Value:=if 0<=aG O k then some (I_ (aG O k))else none
structure gu(w:World) (b bm:Nat) (O:List Int) (N:Int):Prop where
 ai:af w b 120 #[I_ O.length,.map (some bm),I_ N]
 map:∃l,HasMap aL w bm l/\(l.length:Int)<=N/\∀k,jf k->get l k=cellAt O k
 ows:Ows O
 ok:∀x∈O,jf x
 len:O.length<=65536
 hi:N<=90000
abbrev SY(b bm:Nat) (w w':World):Prop:=Fr (fun k=>k=b\/k=bm) w w'
theorem gu.fr {S:Nat->Prop}{w w':World}{b bm:Nat}{O:List Int}{N:Int}(h:gu w b bm O N) (hf:Fr S w w') (hb:¬S b) (hm:¬S bm):gu w' b bm O N:=by
 obtain⟨l,h1,h2⟩:=h.map;exact⟨Fr.ai hf h.ai hb,⟨l,h1.fr hf hm,h2⟩,h.ows,h.ok,h.len,h.hi⟩
theorem gu.new {w w':World}{b bm:Nat}{O:List Int}{N:Int}(h:gu w b bm O N) (hf:ae w w'):gu w' b bm O N:=h.fr hf id id
theorem gu.lt {w:World}{b bm:Nat}{O:List Int}{N:Int}(h:gu w b bm O N):b<w.heap.size:=h.ai.lt
theorem gu.ltm {w:World}{b bm:Nat}{O:List Int}{N:Int}(h:gu w b bm O N):bm<w.heap.size:=by
 obtain⟨l,h1,_⟩:=h.map;exact h1.lt
theorem gu.ne {w:World}{b bm:Nat}{O:List Int}{N:Int}(h:gu w b bm O N):b≠bm:=by
 rintro rfl;obtain⟨l,h1,_⟩:=h.map;obtain⟨D,⟨es,clock,h3,_⟩,_⟩:=h1.own;have:=h.ai;unfold af at this;rw [this]at h3
 cases h3
theorem gu.lo {w:World}{b bm:Nat}{O:List Int}{N:Int}(h:gu w b bm O N):0<=N:=by
 obtain⟨l,_,h1,_⟩:=h.map;omega
theorem LU(n:Nat) (k:Int):aG (List.replicate n (-1)) k= -1:=by
 unfold aG
 split
 ·rw [JG]
  cases h:(List.replicate n (-1:Int))[k.toNat]? with
  |none=>rfl
  |some x=>simpa using(List.mem_replicate.1 (YX h)).2
 ·rfl
theorem D7(n:Int) (h0:0<=n) (h1:n<=65536) (w:World):
 H_ 26 #[I_ n] w fun e w'=>∃b bm,e=.returned (Q_ b)/\gu w' b bm (List.replicate n.toNat (-1)) 0/\w.heap.size<=b/\w.heap.size<=bm/\ae w w':=by
 have uH:= @run_makeMap prog
 go_enter func26,ntmps26
 go_wp2;go_ret;obtain⟨m,rfl⟩:∃m:Nat,n=m:=⟨n.toNat,O_⟩;have hlen:(List.replicate m (-1:Int)).length=m:=OD;have hb:af ((w.alloc (.map #[] 0)).alloc (G_ #[I_ m,.map (some w.heap.size),I_ 0] 120)) (w.heap.size+1) 120 #[I_ m,.map (some w.heap.size),I_ 0]:=af.cD _ _ _ _;refine⟨w.heap.size+1,w.heap.size,rfl,⟨?_,⟨[],(HasMap.made aL w).alloc _,gq _,fun k _=>?_⟩,?_,?_,?_,O_⟩,O_,aA _,((ae.refl w).alloc _).alloc _⟩
 ·show af _ _ _ #[I_ ((List.replicate m (-1:Int)).length:Int),_,_]
  rw [hlen];exact hb
 ·show none=cellAt (List.replicate m (-1)) k
  unfold cellAt;rw [LU,if_neg O_]
 ·intro x hx;rw [(List.mem_replicate.1 hx).2];exact gq _
 ·intro x hx;rw [(List.mem_replicate.1 hx).2]
  decide
 ·show(List.replicate m (-1:Int)).length<=65536
  omega
theorem PM{w:World}{b bm:Nat}{O:List Int}{N:Int}(h:gu w b bm O N):H_ 50 #[Q_ b] w fun e w'=>e=.returned (I_ O.length)/\w=w':=by
 have c0:=h.ai.k0
 go_enter func50,ntmps50
 go_wp2;go_ret;exact⟨rfl,rfl⟩
theorem gu.look {w:World}{b bm:Nat}{O:List Int}{N:Int}(h:gu w b bm O N) {k:Int}(hk:jf k):
 (Instr.lookup 113 (.map (some bm)) (I_ k) true).run prog w=.ok (.tuple #[I_ (max (aG O k) 0),R_ (decide (0<=aG O k))]) w:=by
 obtain⟨l,hm,_,hg⟩:=h.map;have h1:=hm.bD (t:=113) (e:=3) underlying113 (D6 w) hk;rw [hg k hk]at h1
 have h2:(cellAt O k).getD (I_ 0)=I_ (max (aG O k) 0)/\(cellAt O k).isSome=decide (0<=aG O k):=by
  unfold cellAt;by_cases h3:0<=aG O k
  ·rw [if_pos h3,k_ h3,show max (aG O k) 0=aG O k by omega];exact⟨rfl,rfl⟩
  ·rw [if_neg h3,aP h3,show max (aG O k) 0=0 by omega];exact⟨rfl,rfl⟩
 rw [h2.1,h2.2]at h1;exact h1
theorem gu.ado {w:World}{b bm:Nat}{O:List Int}{N:Int}(h:gu w b bm O N) {k:Int}(hk:jf k):
 (Instr.lookup 113 (.map (some bm)) (I_ k) false).run prog w=.ok (I_ (max (aG O k) 0)) w:=by
 obtain⟨l,hm,_,hg⟩:=h.map;have h1:=hm.eG (t:=113) (e:=3) underlying113 (D6 w) hk;rw [hg k hk]at h1
 have h2:(cellAt O k).getD (I_ 0)=I_ (max (aG O k) 0):=by
  unfold cellAt;by_cases h3:0<=aG O k
  ·rw [if_pos h3,show max (aG O k) 0=aG O k by omega];rfl
  ·rw [if_neg h3,show max (aG O k) 0=0 by omega];rfl
 rw [h2]at h1;exact h1
theorem yq{w:World}{b bm:Nat}{O:List Int}{N:Int}(h:gu w b bm O N) (o:Int) (gt go:Nat) (ht:af w gt 68 #[Q_ b]) (ho:af w go 3 #[I_ o]):
 jw w 160 #[Q_ gt,Q_ go] (fun k=>uQ O o k):=by
 intro W k hk hn;have hW:=h.new hn;have c0:L_ W gt 0 (Q_ b):=(hn.ai ht).cell 0;have c1:L_ W go 0 (I_ o):=(hn.ai ho).cell 0;have c2:=hW.ai.k1;have eN:=hW.look hk
 show H_ 160 #[I_ k,Q_ gt,Q_ go] W fun e w'=>e=.returned (R_ (uQ O o k))/\ae W w'
 have fi:=zG h.ows k;have TZ:uQ O o k=(decide (aG O k<0)||decide (aG O k≠o)):=rfl;rw [TZ];clear hW h ht ho hn TZ hk;generalize aG O k=x at*;by_cases hx:0<=x
 ·rw [k_ hx,show max x 0=x by omega]at eN;rw [aP (by omega:¬x<0),Bool.false_or];by_cases Gf:x=o
  ·subst Gf;have hq:decide (x≠x)=false:=S_
   rw [hq];clear hq
   go_enter func160,ntmps160
   go_wp2;go_ret;exact⟨rfl,ae.refl _⟩
  ·have hb:(x !=o)=true:=by simp [Gf]
   rw [k_ Gf]
   go_enter func160,ntmps160
   go_wp2;go_ret;exact⟨rfl,ae.refl _⟩
 ·rw [aP hx,show max x 0=0 by omega]at eN;rw [k_ (by omega:x<0),WR]
  go_enter func160,ntmps160
  go_wp2;go_ret;exact⟨rfl,ae.refl _⟩
theorem Uu{p:Int->Bool}{l:List Int}{i:Int}(h:qF p l i):(i= -1/\l.find? p=none)\/∃(k:Nat) (x:Int),i=k/\l[k]? =some x/\l.find? p=some x:=by
 rcases h with⟨rfl,h⟩|⟨k,x,rfl,hx,hp,hb⟩
 ·exact .inl ⟨rfl,List.find?_eq_none.2 fun x hx=>by rw [h x hx];simp⟩
 ·refine .inr ⟨k,x,rfl,hx,?_⟩;have hk:=(List.getElem?_eq_some_iff.1 hx).1
  have hl:l=l.take k++x::l.drop (k+1):=by
   rw [<-(List.getElem?_eq_some_iff.1 hx).2,<-acZ hk,Yg]
  rw [hl,List.find?_append,List.find?_eq_none.2 (fun y hy=>by rw [hb y hy];simp),List.find?_cons_of_pos hp];rfl
theorem Be{w:World}{b bm:Nat}{O:List Int}{N:Int}(h:gu w b bm O N) (o:Int) (u:Value) (l:List Int) (hu:Rd (ak .i64) w u l) (dx:∀x∈l,jf x) (hl:l.length<=100000):
 H_ 113 #[Q_ b,I_ o,u] w fun e w'=>e=.returned (R_ (mj O o l))/\ae w w':=by
 have hmf:=atQ;have bJ:=h.ai.lt;have gN:af (W_ w #[Q_ b] 68) w 68 #[Q_ b]:=af.new _ _ _;have eP:af (W_ (W_ w #[Q_ b] 68) #[I_ o] 3) (w.heap.size+1) 3 #[I_ o]:=af.cD _ _ _ _;have iQ:ae w (W_ (W_ w #[Q_ b] 68) #[I_ o] 3):=((ae.refl w).alloc _).alloc _;have xT:=yq (h.new iQ) o _ _ (gN.alloc (G_ #[I_ o] 3)) eP;have hui:=hu.new iQ;have HU:=ac5 hui;have HP:=ac5 xT;have uj:=ac5 dx;have H:=ac5 h;obtain⟨A,c,rfl,hA⟩:=hu;clear hui xT dx hA h;generalize hq:mj O o l=q;have HQ:=ac5 hq;clear hq
 go_enter func113,ntmps113
 go_wp2_with fail
 refine(pn 160 #[Q_ w,Q_ (w.heap.size+1)] _ (enters _ _ _ func160 K_ rfl) _ l _ HP.out HU.out uj.out O_).mono ?_;rintro e w1 ⟨i,rfl,hf,br⟩;have H1:=H.out.new (iQ.trans br);have fu:=iQ.trans br;rcases Uu hf with⟨rfl,hfi⟩|⟨k,x,rfl,hx,hfi⟩
 ·have hq:=HQ.out;unfold mj at hq;rw [hfi]at hq;subst hq;clear hfi hf;go_wp2;go_ret;exact⟨rfl,fu⟩
 ·have hq:=HQ.out;unfold mj at hq;rw [hfi]at hq;have pa:decide (0<=aG O x)=q:=hq;have dx:=uj.out x (YX hx);have eN:=fun n=>(H1.new ((ae.refl w1).drewN n)).look dx;rw [pa]at eN;have dL:=(List.getElem?_eq_some_iff.1 hx).1;obtain⟨A1,c1,he1,_,hA1⟩:=(HU.out.new br).ints;injection he1 with e1 e2 e3;subst e1 e3;obtain⟨bb,off,rfl,aF⟩:=hA1 (by rintro rfl;simp at dL);have e0:=aF k x hx;have t0:L_ w1 w 0 (Q_ b):=(br.ai (gN.alloc (G_ #[I_ o] 3))).cell 0;have t1:=H1.ai.k1;clear hfi hf hq pa hx aF hA1 dx e2;go_wp2
  go_quiet (fail)
  go_wp2;go_ret;exact⟨rfl,fu.drewN _⟩
theorem PN(m:Nat):AnyZI.SortsIn prog tz Fence.wide m:=
 ⟨fun ai off cap ss W hH hblk eE=>callsIn_wide.2 (AnyM.slices_Sort_int WT ai off cap ss W hH hblk eE),
  fun p cap W=>callsIn_wide.2 (AnyM.slices_Sort_int_none WT p cap W)⟩
theorem PO(mb:Option Nat) (w:World):H_ 212 #[.map mb] w fun e w'=>e=.returned (.func (.func 287) #[] #[Q_ w])/\w'=w.alloc (G_ #[.map mb] 113):=
 (ay (n:=5)).1 (AnyZI.keys_in WS Fence.wide 5 trivial rfl mb w)
theorem Hp{w:World}{g bm:Nat}{l:List (Int×Value)}(hg:af w g 113 #[.map (some bm)]) (hm:HasMap aL w bm l) (hl:l.length<=1000000):
 H_ 211 #[.func (.func 287) #[] #[Q_ g]] w fun e w'=>∃v s,e=.returned v/\Own (ak .i64) 3 w.heap.size w' v s/\s.Pairwise (·<·)/\(∀x,x∈s<->jf x/\(get l x).isSome)/\s.length<=l.length/\ae w w':=by
 obtain⟨D,h1,h2,h3⟩:=hm.own;have zM:=hg.lt
 have hseq:SeqGives Fence.wide 2 prog 287 #[Q_ g] encZ (fun ss=>ss.Perm (Go.intKeys D)) (Maps.size D) w:=
  AnyZI.keys_gives (ρ:=zL) {WS with} Fence.wide _ trivial rfl O_ g bm _ D _ zM (hg.cell 0) h1
 have cS:=AnyZI.sorted_in J7 Fence.wide 5 trivial trivial trivial trivial rfl O_ (PN _) (Aw func286 K_ rfl) 287 #[Q_ g] trivial (Aw func287 K_ rfl) _ (Maps.size D) (by rw [h2];unfold maxLen;omega) (by rw [h2];omega) w hseq;refine((ay (n:=5)).1 cS).mono ?_;rintro e w' ⟨v,ss,rfl,tB,eQ,_,hb⟩;obtain⟨es,hD,hpw,_⟩:=h1.entries aL.law;obtain⟨es',hD',hko⟩:=h1.keysOf;obtain rfl:es=es':=by rw [hD]at hD';simpa using hD'
 have NN:∀p∈es,∃x:Int,p.1=.int .i64 x/\jf x:=fun p hp=>by
  obtain⟨v,hv⟩:=hko p hp;obtain⟨x,_,hx,hw⟩:=Maps.keyOf_i64 underlying3 hv;exact⟨x,hx,hw⟩
 have gT:(Go.intKeys D).Nodup:=by
  subst hD
  show(es.map fun p=>Go.intOf p.1).Nodup
  refine List.pairwise_map.2 (hpw.imp_of_mem fun{p q} Hq hq' bV e=>bV ?_);obtain⟨a,ha,_⟩:=NN p Hq;obtain⟨b,hb,_⟩:=NN q hq';rw [ha,hb]at e⊢;exact congrArg _ e
 have nK:∀x,x∈Go.intKeys D<->jf x/\(get l x).isSome:=by
  intro x;have hh:∀x,jf x->(Maps.has D (.int .i64 x)=(get l x).isSome):=fun x hx=>oJ (h3 x hx);subst hD
  show x∈es.map (fun p=>Go.intOf p.1)<->_
  rw [SE]
  constructor
  ·rintro⟨p,hp,rfl⟩;obtain⟨a,ha,hw⟩:=NN p hp;have e1:Go.intOf p.1=a:=by rw [ha];rfl
   rw [e1];refine⟨hw,?_⟩;rw [<-hh a hw,has_eq,CN];exact⟨p,hp,by rw [ha];simp [Lit.sameKey]⟩
  ·rintro⟨hw,hs⟩;rw [<-hh x hw,has_eq,CN]at hs;obtain⟨p,hp,hq⟩:=hs;obtain⟨a,ha,_⟩:=NN p hp;refine⟨p,hp,?_⟩;rw [ha]at hq⊢;simpa [Lit.sameKey,Go.intOf]using hq
 have lM:(ss.mergeSort (fun x y=>decide (x<=y))).Perm (Go.intKeys D):=(eU ss _).trans tB
 have hlen:ss.length<=l.length:=by
  have e1:=tB.length_eq;have e2:(Go.intKeys D).length=es.length:=by subst hD;exact D9 _
  have e3:es.length=l.length:=by rw [<-h2];subst hD;rfl
  omega
 refine⟨v,ss.mergeSort (fun x y=>decide (x<=y)),rfl,?_,?_,fun x=>?_,?_,ae.eF hb⟩
 ·unfold Own;rw [kT,ke];exact eQ
 ·have hs:=YW (le:=fun x y:Int=>decide (x<=y)) (fun a b c h1 h2=>by simp only [aJ]at *;omega) (fun a b=>by simp only [Bool.or_eq_true,aJ];omega) ss;have hn:=lM.nodup_iff.2 gT;exact(hs.and hn).imp fun{a b} h=>by have h4:=h.1;have h5:=h.2;simp only [aJ]at h4;omega
 ·rw [lM.mem_iff];exact nK x
 ·rw [ke];exact hlen
theorem Ht{w:World}{b bm:Nat}{O:List Int}{N:Int}(h:gu w b bm O N) (o:Int) (gt go:Nat) (ht:af w gt 68 #[Q_ b]) (ho:af w go 3 #[I_ o]):
 jw w 213 #[Q_ gt,Q_ go] (fun k=>max (aG O k) 0 !=o):=by
 intro W k hk hn;have hW:=h.new hn;have c0:L_ W gt 0 (Q_ b):=(hn.ai ht).cell 0;have c1:L_ W go 0 (I_ o):=(hn.ai ho).cell 0;have c2:=hW.ai.k1;have eN:=fun n=>(hW.new ((ae.refl W).drewN n)).ado hk;have hlk0:=eN 0
 show H_ 213 #[I_ k,Q_ gt,Q_ go] W fun e w'=>e=.returned (R_ (max (aG O k) 0 !=o))/\ae W w'
 clear hW h ht ho hn hk hlk0;generalize max (aG O k) 0=x at*
 go_enter func213,ntmps213
 go_wp2
 go_quiet (fail)
 go_wp2;go_ret;exact⟨rfl,(ae.refl _).drewN _⟩
theorem nb{w:World}{b bm:Nat}{O:List Int}{N:Int}(h:gu w b bm O N) (o:Int):
 H_ 154 #[Q_ b,I_ o] w fun e w'=>∃v,e=.returned v/\Own (ak .i64) 3 w.heap.size w' v (bQ O o)/\ae w w':=by
 have hmf:=atQ;have bJ:=h.ai.lt;have gN:af (W_ (W_ w #[Q_ b] 68) #[I_ o] 3) w 68 #[Q_ b]:=(af.new _ _ _).alloc _;have eP:af (W_ (W_ w #[Q_ b] 68) #[I_ o] 3) (w.heap.size+1) 3 #[I_ o]:=af.cD _ _ _ _;have iQ:ae w (W_ (W_ w #[Q_ b] 68) #[I_ o] 3):=((ae.refl w).alloc _).alloc _;have c1:=h.ai.k1;have hn2s:=iQ.size;have eE:((w.alloc (G_ #[Q_ b] 68)).alloc (G_ #[I_ o] 3)).heap.size=w.heap.size+2:=S_
 go_enter func154,ntmps154
 go_wp2_with fail
 refine(PO _ _).mono ?_;rintro e w1 ⟨rfl,pN⟩;rw [eE];clear hn2s;have hg:af w1 (w.heap.size+2) 113 #[.map (some bm)]:=by rw [pN,<-eE];exact af.new _ _ _
 have fu:ae w w1:=by rw [pN];exact iQ.alloc _
 have aiW:af w1 w 68 #[Q_ b]:=by rw [pN];exact gN.alloc _
 have aiX:af w1 (w.heap.size+1) 3 #[I_ o]:=by rw [pN];exact eP.alloc _
 clear pN;have h1:=h.new fu;obtain⟨l,hm,gK,Uv⟩:=h1.map;have hOl:=h.len;have hNN:=h.hi;go_wp2_with fail
 refine(Hp hg hm O_).mono ?_;rintro e w2 ⟨v,s,rfl,hs,LJ,SZ,jE,yr⟩;have h2:=h1.new yr;have Uw:=fu.trans yr;have xT:=Ht h2 o _ _ (yr.ai aiW) (yr.ai aiX);have dx:∀x∈s,jf x:=fun x hx=>((SZ x).1 hx).1
 have gD:(s.filter fun x=> !(max (aG O x) 0 !=o))=bQ O o:=by
  refine Hn (LJ.filter _) (Bd O o) fun x=>?_;rw [List.mem_filter]
  have hx:∀x,jf x->((get l x).isSome=true<->0<=aG O x):=by
   intro x hx;rw [Uv x hx];unfold cellAt;by_cases h3:0<=aG O x
   ·rw [if_pos h3];simp [h3]
   ·rw [if_neg h3];simp [h3]
  constructor
  ·rintro⟨h3,h4⟩;obtain⟨h5,h6⟩:=(SZ x).1 h3;have h7:=(hx x h5).1 h6
   have h8:aG O x=o:=by
    have:max (aG O x) 0=o:=by simpa using h4
    omega
   exact(kp O_).2 h8
  ·intro h3;have h4:=ju h3
   have ho:0<=o:=by
    rcases zJ o 0 with h5|h5
    ·unfold bQ at h3;rw [if_pos h5]at h3
     cases h3
    ·exact h5
   have h5:=(kp ho).1 h3;have Gf:jf x:=ve O_;refine⟨(SZ x).2 ⟨Gf,(hx x Gf).2 O_⟩,?_⟩;have:max (aG O x) 0=o:=O_
   simp [this]
 have Bg:=ac5 gD;have HPR:=ac5 xT;have uj:=ac5 dx;have fW:=yr.size;have fB:=fu.size;clear gD xT dx SZ Uv LJ;obtain⟨A,N0,C,rfl⟩:=bY hs;have Gh:=hs;have adt:=Ht h1 o _ _ aiW aiX;have aiY:=ac5 adt;clear adt;go_wp2_with fail
 refine(tw 213 #[Q_ w,Q_ (w.heap.size+1)] _ (enters _ _ _ func213 K_ rfl) _ s w1 _ aiY.out yr hs uj.out O_).mono ?_;rintro e w3 ⟨o3,rfl,fg,gP⟩;rw [Bg.out]at fg;go_wp2;go_ret;exact⟨_,rfl,fg.mono fB,ae.two Uw gP fun i hi=>by have:=(hs.block hi).1;omega⟩
theorem zN{w:World}(k:Int) (g:Nat) (hg:af w g 3 #[I_ k]):jw w 215 #[Q_ g] (fun x=>decide (k<x)):=by
 intro W x _ hn;have c0:L_ W g 0 (I_ k):=(hn.ai hg).cell 0
 show H_ 215 #[I_ x,Q_ g] W fun e w'=>e=.returned (R_ (decide (k<x)))/\ae W w'
 go_enter func215,ntmps215
 go_wp2;go_ret;exact⟨rfl,ae.refl _⟩
abbrev LW(w:World) (k:Int):World:=w.alloc (G_ #[I_ k] 3)
theorem Hu{w:World}{b bm:Nat}{O:List Int}{N:Int}(h:gu w b bm O N) (o k:Int) (hk:jf k) (hc:o<0\/k<0\/(O.length:Int)<=k):
 H_ 161 #[Q_ b,I_ o,I_ k] w fun e w'=>e=.returned (I_ 2)/\ae w w':=by
 have hmf:=atQ;have bJ:=h.ai.lt;have br:ae w (LW w k):=(ae.refl w).alloc _;have h1:=h.new br;have eN:=fun n=>(h1.new ((ae.refl _).drewN n)).look hk;have c0:=h.ai.k0;have c1:=h.ai.k1;generalize decide (0<=aG O k)=q at*;generalize max (aG O k) 0=x at*;by_cases ho:o<0
 ·clear hc
  go_enter func161,ntmps161
  go_wp2
  go_quiet (fail)
  go_wp2
  go_quiet (fail)
  go_wp2;go_ret
  first|exact⟨rfl,(br.drewN _).drewN _⟩|exact⟨rfl,br.drewN _⟩
 ·have Ea:=aP ho;by_cases lV:k<0
  ·clear hc ho
   go_enter func161,ntmps161
   go_wp2
   go_quiet (fail)
   go_wp2
   go_quiet (fail)
   go_wp2;go_ret
   first|exact⟨rfl,(br.drewN _).drewN _⟩|exact⟨rfl,br.drewN _⟩
  ·have Bh:=aP lV;have rH:(O.length:Int)<=k:=O_
   have hd':=k_ rH;clear hc ho lV
   go_enter func161,ntmps161
   go_wp2
   go_quiet (fail)
   go_wp2
   go_quiet (fail)
   go_wp2;go_ret
   first|exact⟨rfl,(br.drewN _).drewN _⟩|exact⟨rfl,br.drewN _⟩
theorem PQ{w:World}{b bm:Nat}{O:List Int}{N:Int}(h:gu w b bm O N) (o k:Int) (hk:jf k) (_ho:0<=o) (lV:0<=k) (eA:k<O.length) (hc:aG O k=o):
 H_ 161 #[Q_ b,I_ o,I_ k] w fun e w'=>e=.returned (I_ 8)/\ae w w':=by
 have hmf:=atQ;have bJ:=h.ai.lt;have br:ae w (LW w k):=(ae.refl w).alloc _;have h1:=h.new br;have eN:=fun n=>(h1.new ((ae.refl _).drewN n)).look hk;rw [hc,show max o 0=o by omega,k_ _ho]at eN;have c0:=h.ai.k0;have c1:=h.ai.k1;have Ea:decide (o<0)=false:=aP O_;have Bh:decide (k<0)=false:=aP O_;have hd':decide ((O.length:Int)<=k)=false:=aP O_;clear hc
 go_enter func161,ntmps161
 go_wp2
 go_quiet (fail)
 go_wp2
 go_quiet (fail)
 go_wp2;go_ret
 first|exact⟨rfl,(br.drewN _).drewN _⟩|exact⟨rfl,br.drewN _⟩
theorem LX{O:List Int}{o k:Int}(hc:aG O k≠o):(decide (0<=aG O k)&&(max (aG O k) 0==o))=false:=by
 by_cases h:0<=aG O k
 ·rw [show max (aG O k) 0=aG O k by omega];simp [hc]
 ·simp [h]
theorem LY{w:World}{b bm:Nat}{O:List Int}{N:Int}(h:gu w b bm O N) (o k:Int) (hk:jf k) (ho:0<=o) (lV:0<=k) (eA:k<O.length) (hc:aG O k≠o)
 (hd:(bQ O o).any (fun x=>decide (k<x))=true\/0<=aG O k):
 H_ 161 #[Q_ b,I_ o,I_ k] w fun e w'=>e=.returned (I_ (ji O o k))/\ae w w':=by
 have hmf:=atQ;have bJ:=h.ai.lt;have br:ae w (LW w k):=(ae.refl w).alloc _;have jY:af (LW w k) w 3 #[I_ k]:=af.new _ _ _;have h1:=h.new br;have eN:=fun n=>(h1.new ((ae.refl _).drewN n)).look hk
 have hp:ji O o k=if(bQ O o).any (fun x=>decide (k<x))then 10 else if 0<=aG O k then 9 else 0:=by
  unfold ji;rw [if_neg O_,if_neg hc]
 rw [hp];have c0:=h.ai.k0;have c1:=h.ai.k1;have Ea:decide (o<0)=false:=aP O_;have Bh:decide (k<0)=false:=aP O_;have hd':decide ((O.length:Int)<=k)=false:=aP O_;have db:=LX (k:=k) hc;obtain⟨q,hq⟩:∃q,decide (0<=aG O k)=q:=⟨_,rfl⟩;have hq':(if 0<=aG O k then 9 else 0)=(if q then 9 else 0):=by rw [<-hq];by_cases h3:0<=aG O k<;>simp [h3]
 rw [hq'];rw [hq]at eN db;have pa:(bQ O o).any (fun x=>decide (k<x))=true\/q=true:=by rw [<-hq,decide_eq_true_iff];exact hd
 generalize max (aG O k) 0=x at*;have H1:=ac5 h1;have HQ2:=ac5 pa;have hOl:=h.len;obtain⟨cc,J3⟩:∃cc,cc=(if(bQ O o).any (fun x=>decide (k<x))then 10 else if q then 9 else 0):=⟨_,rfl⟩;rw [<-J3];have HCC:=ac5 J3;clear hc hp hq hq' hd pa h1 J3
 cases q
 all_goals
  try rw [yW]at db
  try rw [tc]at db
  go_enter func161,ntmps161
  go_wp2
  go_quiet (fail)
  go_wp2
  go_quiet (fail)
  go_wp2_with fail
  refine(nb (H1.out.new ((ae.refl _).drewN _)) o).mono ?_;rintro e w2 ⟨v,rfl,hv,iQ⟩;have PS:=(br.drewN _).trans iQ;have xT:=zN k w.heap.size (iQ.ai (jY.drewN _));have HPR:=ac5 xT;have hhl:=m_ O o;have dx:∀x∈bQ O o,jf x:=fun x hx=>ve (by have:=ju hx;omega);have uj:=ac5 dx;clear xT dx;obtain⟨A,N0,C,rfl⟩:=bY hv;go_wp2_with fail
  refine(nZ 215 #[Q_ w] _ (enters _ _ _ func215 K_ rfl) _ _ w2 HPR.out hv.rd uj.out O_).mono ?_;have pa:=HQ2.out;obtain⟨r,hr⟩:∃r,(bQ O o).any (fun x=>decide (k<x))=r:=⟨_,rfl⟩;have HR:=ac5 hr;rw [hr]at pa;rw [hr];clear hr HQ2;rintro e w3 ⟨rfl,fu⟩;have J3:=HCC.out;rw [HR.out]at J3;rcases pa with rfl|pa
  ·obtain rfl:cc=10:=J3;go_wp2;go_ret;exact⟨rfl,PS.trans fu⟩
  ·first
    |(cases pa;done)
    |(clear pa
      cases r
      ·obtain rfl:cc=9:=J3;go_wp2;go_ret;exact⟨rfl,PS.trans fu⟩
      ·obtain rfl:cc=10:=J3;go_wp2;go_ret;exact⟨rfl,PS.trans fu⟩)
theorem Ux{O:List Int}{o k:Int}(h:ji O o k=0):qE O o k=O.set k.toNat o:=by unfold qE;rw [if_pos h]
theorem gu.store {w w':World}{b bm:Nat}{O:List Int}{N:Int}(h:gu w b bm O N) (hN:N<90000) {o k:Int}(dx:jf o) (h0:ji O o k=0) {l:List (Int×Value)}(hl:HasMap aL w bm l) (gK:(l.length:Int)<=N) (hg:∀k,jf k->get l k=cellAt O k)
 (hm:HasMap aL w' bm (put l k (I_ o))) (hb:af w' b 120 #[I_ O.length,.map (some bm),I_ (N+1)]):gu w' b bm (qE O o k) (N+1):=by
 have hz:=na h0;refine⟨?_,⟨_,hm,?_,fun j hj=>?_⟩,PI h.ows o k,?_,?_,O_⟩
 ·rw [DX];exact hb
 ·have h1:=oI hl.nd k;have h2:(put l k (I_ o)).length=(del l k).length+1:=by unfold put;simp
  rw [h2]
  split at h1<;>omega
 ·unfold cellAt;rw [DY];by_cases zO:j=k
  ·have e:(if ji O o k=0/\j=k then o else aG O j)=o:=if_pos ⟨h0,zO⟩;rw [e,zO,bW,if_pos hz.1]
  ·have e:(if ji O o k=0/\j=k then o else aG O j)=aG O j:=if_neg (fun h=>zO h.2);rw [e,aE _ _ zO,hg j hj];rfl
 ·intro x hx;rw [Ux h0]at hx;rcases Hr hx with h1|h1
  ·exact h.ok x h1
  ·rw [h1];exact dx
 ·rw [DX];exact h.len
theorem Uy{w:World}{b:Nat}{N:Int}(e2:L_ w b 2 (I_ N)) (g2:w.frozen? (C_ b 2)=false) (h0:0<=N) (h1:N<90000):
 H_ 217 #[.pointer (some (C_ b 2)),I_ 1] w fun e w'=>e=.returned (I_ (N+1))/\w'=w.setCell (C_ b 2) (I_ (N+1)):=by
 have hw:IntKind.i64.wrap (N+1)=N+1:=aM _ O_;have Y2:=run_call_add (P:=prog) func288 K_ K_ K_ .i64 K_ (y:=1) (s:=N+1) e2 g2 (by simp [Op.intArith,hw]);clear hw
 go_enter func217,ntmps217
 go_wp2;go_ret;exact⟨rfl,rfl⟩
theorem Uz{w:World}{b bm:Nat}{O:List Int}{N:Int}(h:gu w b bm O N) (hN:N<90000) (o k:Int) (hoo:jf o) (hk:jf k) (h0:ji O o k=0):
 H_ 161 #[Q_ b,I_ o,I_ k] w fun e w'=>e=.returned (I_ 0)/\gu w' b bm (qE O o k) (N+1)/\SY b bm w w':=by
 have hmf:=atQ;have hz:=na h0;have bJ:=h.ai.lt;have hltm:=h.ltm;have br:ae w (LW w k):=(ae.refl w).alloc _;have jY:af (LW w k) w 3 #[I_ k]:=af.new _ _ _;have h1:=h.new br;have eN:=fun n=>(h1.new ((ae.refl _).drewN n)).look hk;rw [show max (aG O k) 0=0 by omega,aP (by omega:¬0<=aG O k)]at eN;have adu:(bQ O o).any (fun x=>decide (k<x))=false:=List.any_eq_false.2 fun x hx=>by have:=hz.2.2.2.2 x hx;simp;omega
 have ai0:=ac5 adu;have H0:=ac5 h0;have c0:=h.ai.k0;have c1:=h.ai.k1;have Ea:decide (o<0)=false:=aP O_;have Bh:decide (k<0)=false:=aP O_;have hd':decide ((O.length:Int)<=k)=false:=aP O_;have H1:=ac5 h1;have hOl:=h.len;have hN0:=h.lo;clear h1 adu h0 hz
 go_enter func161,ntmps161
 go_wp2
 go_quiet (fail)
 go_wp2
 go_quiet (fail)
 go_wp2_with fail
 refine(nb (H1.out.new ((ae.refl _).drewN _)) o).mono ?_;rintro e w2 ⟨v,rfl,hv,iQ⟩;have PS:=(br.drewN _).trans iQ;have PT:=iQ.ai (jY.drewN _);have xT:=zN k w.heap.size PT;have HPR:=ac5 xT;have hhl:=m_ O o;have dx:∀x∈bQ O o,jf x:=fun x hx=>ve (by have:=ju hx;omega);have uj:=ac5 dx;clear xT dx;obtain⟨A,N0,C,rfl⟩:=bY hv;go_wp2_with fail
 refine(nZ 215 #[Q_ w] _ (enters _ _ _ func215 K_ rfl) _ _ w2 HPR.out hv.rd uj.out O_).mono ?_;rw [ai0.out];rintro e w3 ⟨rfl,fu⟩;have adv:=PS.trans fu;have hs13:=adv.size;have h3:=h.new adv;obtain⟨l,hm,gK,hg⟩:=h3.map;have d1:L_ w3.drew b 1 (.map (some bm)):=h3.ai.cell 1;have d2:L_ w3.drew w 0 (I_ k):=(fu.ai PT).cell 0;have HG:=ac5 hg;clear hg hv PT jY;go_wp2_with fail
 refine uE 6 K_ K_ ?_;simp only [Ay,ID,PV,vp]
 repeat still_step
 refine Hw ?_;go_wp2_with (at_mapUpdate;refine oK (E:=aL) rfl _ _ _ 113 3 rfl underlying113 hm.drew (by unfold maxLen;omega) k hk (I_ o) rfl rfl rfl ?_;intro w4 Py tj)
 have uc:=tj.ai (h3.ai.drew) h.ne;have e2:=uc.k2;have g2:=uc.frozen 2;refine(Uy e2 g2 hN0 hN).mono ?_;rintro e w5 ⟨rfl,hw5⟩;have kW:One b w4 w5:=by rw [hw5];exact(One.refl _ _).set _ _
 have ud:af w5 b 120 #[I_ O.length,.map (some bm),I_ (N+1)]:=by rw [hw5];exact uc.al 2 _
 have S8:=Py.fr kW (fun e=>h.ne e.symm);clear hw5;go_wp2;go_ret;refine⟨rfl,h3.store hN hoo H0.out hm gK HG.out S8 ud,?_⟩;have iE:SY b bm w w3.drew:=(ae.to adv).drew;exact(iE.trans' tj fun i hi e=>Or.inr e).trans' kW fun i hi e=>Or.inl e
theorem LZ(O:List Int) (o k:Int):ji O o k=0\/(ji O o k=2/\(o<0\/k<0\/(O.length:Int)<=k))\/(ji O o k=8/\0<=o/\0<=k/\k<O.length/\aG O k=o)\/
 (ji O o k≠0/\0<=o/\0<=k/\k<O.length/\aG O k≠o/\((bQ O o).any (fun x=>decide (k<x))=true\/0<=aG O k)):=by
 unfold ji;by_cases h1:o<0\/k<0\/(O.length:Int)<=k
 ·rw [if_pos h1];exact .inr (.inl ⟨rfl,h1⟩)
 ·rw [if_neg h1];by_cases h2:aG O k=o
  ·rw [if_pos h2];exact cu (.inl ⟨rfl,O_,O_,O_,h2⟩)
  ·rw [if_neg h2];by_cases h3:(bQ O o).any (fun x=>decide (k<x))=true
   ·rw [if_pos h3];exact cu (.inr ⟨O_,O_,O_,O_,h2,.inl h3⟩)
   ·rw [if_neg h3];by_cases h4:0<=aG O k
    ·rw [if_pos h4];exact cu (.inr ⟨O_,O_,O_,O_,h2,.inr h4⟩)
    ·rw [if_neg h4];exact .inl rfl
theorem Bi{w:World}{b bm:Nat}{O:List Int}{N:Int}(h:gu w b bm O N) (hN:N<90000) (o k:Int) (hoo:jf o) (hk:jf k):
 H_ 161 #[Q_ b,I_ o,I_ k] w fun e w'=>e=.returned (I_ (ji O o k))/\gu w' b bm (qE O o k) (N+DV O o k)/\SY b bm w w':=by
 have fail:ji O o k≠0->∀{c:Nat},ji O o k=c->H_ 161 #[Q_ b,I_ o,I_ k] w (fun e w'=>e=.returned (I_ c)/\ae w w')->
  H_ 161 #[Q_ b,I_ o,I_ k] w fun e w'=>e=.returned (I_ (ji O o k))/\gu w' b bm (qE O o k) (N+DV O o k)/\SY b bm w w':=by
  intro bV c hc H;refine H.mono ?_;rintro e w' ⟨rfl,hn⟩;have h1:qE O o k=O:=by unfold qE;rw [if_neg bV]
  have h2:DV O o k=0:=by unfold DV;rw [if_neg bV]
  rw [h1,h2,hc];exact⟨rfl,by simpa using h.new hn,ae.to hn⟩
 rcases LZ O o k with h0|⟨h0,hr⟩|⟨h0,h1,h2,h3,h4⟩|⟨h0,h1,h2,h3,h4,h5⟩
 ·refine(Uz h hN o k hoo hk h0).mono ?_;rintro e w' ⟨rfl,ht,hf⟩;have h2:DV O o k=1:=by unfold DV;rw [if_pos h0]
  rw [h2,h0];exact⟨rfl,ht,hf⟩
 ·exact fail O_ h0 (Hu h o k hk hr)
 ·exact fail O_ h0 (PQ h o k hk h1 h2 h3 h4)
 ·exact fail h0 rfl (LY h o k hk h1 h2 h3 h4 h5)
theorem Eb{O:List Int}(hO:Ows O) (o k:Int):cellAt (pj O o) k=if k∈bQ O o then none else cellAt O k:=by
 unfold cellAt;rw [D0];by_cases ho:0<=o
 ·by_cases h1:aG O k=o
  ·rw [if_pos ((kp ho).2 h1),if_pos h1,if_neg O_]
  ·rw [if_neg (fun h=>h1 ((kp ho).1 h)),if_neg h1]
 ·have bV:k∉bQ O o:=by unfold bQ;rw [if_pos O_];simp
  rw [if_neg bV];have fi:=zG hO k;by_cases h1:aG O k=o
  ·rw [if_pos h1,if_neg O_,if_neg O_]
  ·rw [if_neg h1]
theorem lj{w:World}{b bm:Nat}{O:List Int}{N:Int}(h:gu w b bm O N) (o:Int):
 H_ 158 #[Q_ b,I_ o] w fun e w'=>e=.returned (I_ (bQ O o).length)/\gu w' b bm (pj O o) N/\SY b bm w w':=by
 have hhl:=m_ O o;have hOl:=h.len;have bJ:=h.ai.lt
 go_enter func158,ntmps158
 go_wp2_with fail
 refine(nb h o).mono ?_;rintro e w1 ⟨v,rfl,hv,br⟩;have h1:=h.new br;obtain⟨l,hm,gK,hg⟩:=h1.map;have adw:∀x∈bQ O o,jf x:=fun x hx=>ve (by have:=ju hx;omega);have uj:=ac5 adw;have PW:=ac5 (Eb h.ows o);generalize hH:bQ O o=H at*;have HV:=ac5 hv;have fB:=br.size;have WD:=h1.ai;have S9:=ac5 hH;clear adw hH;obtain⟨A,c,rfl,hc,hA⟩:=hv.rd.ints;have HA:=ac5 hA;clear hA hv;go_wp2
 go_loopw [13] (fun vi wr=>∃(k:Nat) (L:List (Int×Value)),k<=H.length/\vi=I_ k/\HasMap aL wr bm L/\(L.length:Int)<=N/\Hid (∀j,jf j->get L j=if j∈H.take k then none else cellAt O j)/\One bm w1 wr) (fun vi _=>H.length-(intOf vi).toNat)
 case atStart=>exact⟨0,l,Gv _,rfl,hm,gK,(fun j hj=>by rw [ID,if_neg S_];exact hg j hj),One.refl _ _⟩
 case round=>
  obtain⟨k,L,hk,rfl,hL,hLl,HG,hO⟩:=hrel;clear hg hm gK;have SQ:=hO.ai WD h.ne;by_cases dL:k<H.length
  ·obtain⟨x,hx⟩:∃x,H[k]? =some x:=⟨_,DW dL⟩;obtain⟨g,off,rfl,aF⟩:=HA.out (by rintro rfl;simp at dL);have WU:w.heap.size<=g:=(HV.out.block rfl).1;have ap6:=h.ltm;have c0:=Fr.cell hO (aF k _ hx) (by show¬g=bm;omega);have c1:=SQ.k1;have Gf:=uj.out x (YX hx);have HX:=ac5 hx;clear aF hx;go_wp2_with (at_delete;refine oL (E:=aL) rfl _ _ 113 3 rfl underlying113 hL x Gf rfl rfl ?_;intro w2 YN eY)
   go_roundw
   case rel=>
    refine⟨k+1,del L x,O_,by go_num,YN,?_,?_,hO.trans eY⟩
    ·have:=cR (fun p:Int×Value=>decide (p.1≠x)) L
     show((del L x).length:Int)<=N
     unfold del;omega
    ·intro j hj;rw [fZ HX.out];by_cases Ta:j=x
     ·subst Ta;rw [kO,if_pos S_]
     ·rw [jB L Ta,HG.out j hj];by_cases hm:j∈H.take k
      ·rw [if_pos hm,if_pos (List.mem_append_left _ hm)]
      ·rw [if_neg hm,if_neg (by rw [xg];rintro(h1|h1);exact hm h1;exact Ta (List.mem_singleton.1 h1))]
   case measure=>simp [intOf];omega
  ·obtain rfl:k=H.length:=O_
   have i6:gu wr b bm (pj O o) N:=by
    refine⟨by rw [DZ];exact SQ,⟨L,hL,hLl,fun j hj=>?_⟩,PJ h.ows o,?_,by rw [DZ];exact h.len,h.hi⟩
    ·have:=HG.out j hj;rw [iD]at this;rw [PW.out j];exact this
    ·intro x hx;unfold pj at hx;obtain⟨y,hy,rfl⟩:=List.mem_map.1 hx
     split
     ·decide
     ·exact h.ok y hy
   have HF:=ac5 i6;clear i6;go_wp2;go_ret;exact⟨by rw [S9.out];rfl,HF.out,(ae.to br).trans' hO fun i hi e=>Or.inr e⟩
def gF(s:List Int):Prop:=s.Pairwise (·<·)
theorem gF.nil:gF []:=List.Pairwise.nil
theorem gF.tail {x:Int}{s:List Int}(h:gF (x::s)):gF s:=(List.pairwise_cons.1 h).2
theorem gF.head {x:Int}{s:List Int}(h:gF (x::s)) {y:Int}(hy:y∈s):x<y:=(List.pairwise_cons.1 h).1 y hy
theorem gF.get {s:List Int}(h:gF s) {i j:Nat}{x y:Int}(hi:s[i]? =some x) (hj:s[j]? =some y) (G9:i<j):x<y:=by
 obtain⟨h1,rfl⟩:=List.getElem?_eq_some_iff.1 hi;obtain⟨h2,rfl⟩:=List.getElem?_eq_some_iff.1 hj;exact List.pairwise_iff_getElem.1 h i j h1 h2 G9
theorem gF.inj {s:List Int}(h:gF s) {i j:Nat}{x:Int}(hi:s[i]? =some x) (hj:s[j]? =some x):i=j:=by
 rcases Nat.lt_trichotomy i j with h1|h1|h1
 ·have:=h.get hi hj h1;omega
 ·exact h1
 ·have:=h.get hj hi h1;omega
def adK(l s:List Int):Prop:=gF s/\∀x,x∈s<->x∈l/\x≠0
theorem qR:(prog.info? 28).map (fun i=>(i.zero,i.size,i.bytes))=some (some (.int .u32 0),1,4):=K_
theorem IB(v:Value) (l:List Int) (w:World) (hv:Rd (ak .u32) w v l) (hl:l.length<=100000):
 H_ 73 #[v] w fun e w'=>∃o,e=.returned o/\Own (ak .u32) 28 w.heap.size w' o l/\ae w w':=by
 obtain⟨i0,hi,dw,cE,dy⟩:=wF qR;have h0:=Own.empty (ak .u32) 28 w.heap.size w (aA _);have HV:=ac5 hv;obtain⟨A,c,rfl,hc,az⟩:=hv;have hq:=fun n=>JZ (P:=prog) w 58 _ A n c 0 0 underlying58
 cases A with
 |none=>
  have hn:l=[]:=by
   cases l with
   |nil=>rfl
   |cons x l=>obtain⟨b,off,h,_⟩:=az S_;cases h
  clear az;subst hn;simp only [OO]at hq
  go_enter func73,ntmps73
  go_wp2;go_ret;exact⟨_,rfl,Own.nil _ _ _ _,ae.refl _⟩
 |some ad=>
  obtain⟨b,off,sp⟩:=ad;clear az;simp only [Ir]at hq
  go_enter func73,ntmps73
  go_wp2_with (at_builtin;refine aZ (E:=ak .u32) rfl _ _ _ rfl underlying58 hi dw cE dy rfl h0 rfl (HV.out.alloc _) rfl (by unfold maxLen;simp;omega) P_ S_ ?_;intro v1 w1 fE iE pM)
  have br:=ae.append ((ae.refl w).alloc _) h0 iE;rw [Qv]at fE;go_ret;exact⟨_,rfl,fE,br⟩
def eD(base:Nat) (w:World) (v:Value) (l:List Int):Prop:=
 (v=Z_/\l=[])\/∃g off c,v=X_ (some ⟨g,off,none⟩) l.length c/\base<=g/\(∃cs,af w g 28 cs)/\l.length<=c/\c<=maxLen/\
   (∀i x,l[i]? =some x->L_ w g (off+i) (U_ x))/\∀j,j<c->(∃z,L_ w g (off+j) z)/\w.frozen? (C_ g (off+j))=false
section
variable{base g c off n:Nat}{w w':World}{v:Value}{l:List Int}
theorem eD.vX (h:Own (ak .u32) 28 base w v l):eD base w v l:=by
 rcases h.2 with⟨rfl,hn⟩|⟨g,cap,cur,rfl,dH,WU,ya,Wl,eE,_⟩
 ·exact .inl ⟨rfl,wk hn⟩
 ·refine .inr ⟨g,0,cap,rfl,dH,⟨cur,WU⟩,ya,Wl,fun i x hx=>?_,fun j hj=>⟨?_,?_⟩⟩
  ·rw [aH];exact h.pZ hx
  ·rw [aH,cell_of_row w g j cur 28 (0,0) WU];exact⟨_,adV (by have:(ak .u32).sz=1:=rfl;rw [this]at eE;omega)⟩
  ·exact h.uF _
theorem eD.rd (h:eD base w v l):Rd (ak .u32) w v l:=by
 rcases h with⟨rfl,rfl⟩|⟨g,off,c,rfl,_,_,hc,_,az,_⟩
 ·exact Rd.nil _ _
 ·refine⟨_,c,rfl,hc,fun _=>⟨g,off,rfl,fun i x hx j u hu=>by
  have h0:(ak .u32).enc x=[.int .u32 x]:=rfl;rw [h0]at hu
  cases j with
  |succ j=>simp at hu
  |zero=>
   obtain rfl:Value.int .u32 x=u:=by simpa using hu
   have h1:(ak .u32).sz=1:=rfl;simpa [h1]using az i x hx⟩⟩
theorem eD.du (h:eD base w v l) (_hs:w.heap.size<=w'.heap.size) (hk:∀b,v.ownBlock=some b->w'.heap[b]? =w.heap[b]?):eD base w' v l:=by
 rcases h with h|⟨g,off,c,rfl,hb,hg,hc,hm,az,hj⟩
 ·exact .inl h
 ·have e:=hk g rfl;obtain⟨cs,hg⟩:=hg;refine .inr ⟨g,off,c,rfl,hb,⟨cs,e.trans hg⟩,hc,hm,fun i x hx=>(jG e).trans (az i x hx),fun j XD=>?_⟩;obtain⟨⟨z,hz⟩,hf⟩:=hj j XD;exact⟨⟨z,(jG e).trans hz⟩,(World.frozen?_of_block e).trans hf⟩
theorem eD.block (h:eD base w v l) {b:Nat}(hb:v.ownBlock=some b):base<=b/\b<w.heap.size:=by
 rcases h with⟨rfl,_⟩|⟨g,off,c,rfl,h1,h2,_⟩
 ·cases hb
 ·cases hb;obtain⟨cs,h2⟩:=h2;exact⟨h1,h2.lt⟩
theorem eD.heap (h:eD base w v l) {b:Nat}(hb:v.ownBlock=some b):∃cs,af w b 28 cs:=by
 rcases h with⟨rfl,_⟩|⟨g,off,c,rfl,h1,h2,_⟩
 ·cases hb
 ·cases hb;exact h2
theorem eD.fr {S:Nat->Prop}(h:eD base w v l) (hf:Fr S w w') (hS:∀b,v.ownBlock=some b->¬S b):eD base w' v l:=
 h.du hf.size fun b hb=>hf.block b (h.block hb).2 (hS b hb)
theorem eD.new (h:eD base w v l) (hf:ae w w'):eD base w' v l:=h.fr hf fun _ _=>id
theorem eD.tail {x:Int}(h:eD base w (X_ (some ⟨g,off,none⟩) n c) (x::l)):eD base w (X_ (some ⟨g,off+1,none⟩) (n-1) (c-1)) l:=by
 rcases h with⟨h,_⟩|⟨g',ug,c',he,hb,hg,hc,hm,az,hj⟩
 ·cases h
 ·cases he
  simp only [iU]at hc⊢;refine .inr ⟨_,_,_,rfl,hb,hg,O_,O_,fun i y hy=>?_,fun j XD=>?_⟩
  ·rw [vh,Nat.add_comm 1 i];exact az (i+1) y (by simpa using hy)
  ·rw [vh,Nat.add_comm 1 j];exact hj (j+1) O_
theorem eD.mono (h:eD base w v l) {b':Nat}(hb:b'<=base):eD b' w v l:=by
 rcases h with h|⟨g,off,c,h1,h2,h3⟩
 ·exact .inl h
 ·exact .inr ⟨g,off,c,h1,gy hb h2,h3⟩
theorem eD.form (h:eD base w v l):∃A c,v=X_ A l.length c/\l.length<=c:=by
 rcases h with⟨rfl,rfl⟩|⟨g,off,c,rfl,_,_,hc,_⟩
 ·exact⟨none,0,rfl,aA _⟩
 ·exact⟨_,c,rfl,hc⟩
end
def oh(base:Nat) (w:World) (x:Nat) (l:List Int):Prop:=∃u,af w x 163 #[u]/\eD base w u l
theorem oh.new {base x:Nat}{w w':World}{l:List Int}(h:oh base w x l) (hf:ae w w'):oh base w' x l:=by
 obtain⟨u,h1,h2⟩:=h;exact⟨u,ae.ai hf h1,h2.new hf⟩
theorem EK{base x:Nat}{w:World}{l:List Int}(h:oh base w x l):H_ 130 #[Q_ x] w fun e w'=>e=.returned (I_ l.length)/\w'=w:=by
 obtain⟨u,hb,hr⟩:=h;obtain⟨A,c,rfl,_⟩:=hr.form;have hc:=hb.cell 0;have Ko:L_ w x 0 (X_ A l.length c):=hc;clear hc hr
 go_enter func130,ntmps130
 go_wp2;go_ret;exact⟨rfl,rfl⟩
theorem QV{base x:Nat}{w:World}{l:List Int}(h:oh base w x l) (hl:l.length<=100000):H_ 44 #[Q_ x] w fun e w'=>∃o,e=.returned o/\Own (ak .u32) 28 w.heap.size w' o l/\ae w w':=by
 obtain⟨u,hb,hr⟩:=h;have HC:=ac5 (IB u l w hr.rd hl);obtain⟨A,c,rfl,_⟩:=hr.form;have hc:=hb.cell 0;have Ko:L_ w x 0 (X_ A l.length c):=hc;clear hc hr
 go_enter func44,ntmps44
 go_wp2_with fail
 refine HC.out.mono ?_;rintro e w1 ⟨o,rfl,h1,h2⟩;go_wp2;go_ret;exact⟨_,rfl,h1,h2⟩
def jQ(l:List Int) (p:Int):Int×Bool:=if 1<=p/\p<=l.length then(l[(p-1).toNat]?.getD 0,true)else(0,false)
theorem U8{base x:Nat}{w:World}{l:List Int}(h:oh base w x l) (hl:l.length<=100000) (p:Int):H_ 43 #[Q_ x,I_ p] w fun e w'=>e=.returned (.tuple #[U_ (jQ l p).1,R_ (jQ l p).2])/\w'=w:=by
 obtain⟨u,hb,hr⟩:=h;obtain⟨A,c,rfl,NT,az⟩:=hr.rd.ints;have hc:=hb.cell 0;have Ko:L_ w x 0 (X_ A l.length c):=hc;have U9:=ac5 az;clear hc hr az;by_cases h1:p<1
 ·have hd:=k_ h1;have ha:jQ l p=(0,false):=if_neg O_;rw [ha];clear ha
  go_enter func43,ntmps43
  go_wp2;go_ret2;exact⟨rfl,rfl⟩
 ·have hd:=aP h1;by_cases h2:(l.length:Int)<p
  ·have oe:=k_ h2;have ha:jQ l p=(0,false):=if_neg O_;rw [ha];clear ha
   go_enter func43,ntmps43
   go_wp2;go_ret2;exact⟨rfl,rfl⟩
  ·have oe:=aP h2;obtain⟨k,rfl⟩:∃k:Nat,p=k+1:=⟨(p-1).toNat,O_⟩;have hk:k<l.length:=O_
   obtain⟨y,hy⟩:∃y,l[k]? =some y:=⟨_,DW hk⟩
   have ha:jQ l (k+1)=(y,true):=by
    unfold jQ;rw [if_pos O_,show((k:Int)+1-1).toNat=k by omega,hy];rfl
   rw [ha];obtain⟨b,off,rfl,aF⟩:=U9.out (by rintro rfl;simp at hk);have pV:=aF k y hy;have pN:IntKind.i64.wrap ((k:Int)+1-1)=k:=by rw [aM _ O_];omega
   have AU:(k:Int)+1-1=k:=O_
   have EL:(k:Int)<l.length:=O_
   clear ha aF hy
   go_enter func43,ntmps43
   go_wp2;go_ret2;exact⟨rfl,rfl⟩
theorem IE(g:Nat) (cb:Array Value) (n:Nat) (p:Nat->Bool) (w:World) (hE:∀args w,(callFunc g args).run prog w=.ok (.enter g args) w) (hn:n<=1000000)
 (hf:∀(W:World) (i:Nat),i<n->ae w W->H_ g (#[.int .i64 i]++cb) W fun e w'=>e=.returned (R_ (p i))/\ae w w'):
 H_ 297 #[I_ n,.func (.func g) #[] cb] w fun e w'=>∃k:Nat,e=.returned (I_ k)/\k<=n/\(k=0\/p (k-1)=false)/\(k=n\/p k=true)/\ae w w':=by
 have HF:=ac5 hf;clear hf
 go_enter func297,ntmps297
 go_wp2
 go_loopw [5,6] (fun vi vj wr=>∃i j:Nat,vi=I_ i/\vj=I_ j/\i<=j/\j<=n/\Hid ((i=0\/p (i-1)=false)/\(j=n\/p j=true))/\ae w wr) (fun vi vj _=>(intOf vj-intOf vi).toNat)
 case atStart=>exact⟨0,n,rfl,rfl,Gv _,aA _,⟨.inl rfl,.inl rfl⟩,ae.refl _⟩
 case round=>
  obtain⟨i,j,rfl,rfl,G9,hjn,HI,c_⟩:=hrel;by_cases bJ:i<j
  ·obtain⟨h,hh⟩:∃h,h=(i+j)/2:=⟨_,rfl⟩;have h1:i<=h:=O_
   have h2:h<j:=O_
   have hd:decide ((i:Int)<j)=true:=k_ O_;have e1:IntKind.i64.wrap ((i:Int)+j)=(i:Int)+j:=aM _ O_;have e2:IntKind.u64.wrap ((i:Int)+j)=(i:Int)+j:=by simp [IntKind.wrap,IntKind.bits,IntKind.signed];omega
   have e3:((i:Int)+j)/2=h:=O_
   have e4:IntKind.i64.wrap (h:Int)=h:=aM _ O_;have bZ:=HF.out _ h O_ c_;have HH:=ac5 hh;clear hh
   cases hp:p h
   all_goals
    rw [hp]at bZ;have HP:=ac5 hp;have eH:=ac5 bZ;clear hp bZ;go_wp2_with fail
    refine eH.out.mono ?_;rintro e w1 ⟨rfl,br⟩;go_wp2
   ·go_roundw
    case rel=>exact⟨h+1,j,by go_num,rfl,O_,hjn,⟨.inr (by rw [aaH];exact HP.out),HI.out.2⟩,br⟩
    case measure=>simp [intOf];omega
   ·go_roundw
    case rel=>exact⟨i,h,rfl,rfl,h1,O_,⟨HI.out.1,.inr HP.out⟩,br⟩
    case measure=>simp [intOf];omega
  ·have hd:decide ((i:Int)<j)=false:=aP O_;have aed:i=j:=O_
   have HIJ:=ac5 aed;clear aed;go_wp2;go_ret;exact⟨i,rfl,O_,HI.out.1,by have:=HI.out.2;rw [<-HIJ.out]at this;exact this,c_⟩
section
open Go.RowKit Go.Shelf Go.Proofs
theorem MD{base x bx bu:Nat}{w W:World}{l:List Int}{uid:Int}(h:oh base w x l) (nf:L_ w bx 0 (Q_ x)) (hbu:L_ w bu 0 (U_ uid)) (hn:ae w W) (i:Nat) (y:Int) (hy:l[i]? =some y) (hl:l.length<=100000):
 H_ 298 #[I_ i,Q_ bx,Q_ bu] W fun e w'=>e=.returned (R_ (decide (uid<=y)))/\ae w w':=by
 obtain⟨u,hb,hr⟩:=h;obtain⟨A,c,rfl,NT,az⟩:=hr.rd.ints;have hi:=(List.getElem?_eq_some_iff.1 hy).1;obtain⟨b,off,rfl,aF⟩:=az (by rintro rfl;simp at hi);have c1:=fun n=>(Fr.cell (hn.drewN n) (hb.cell 0) id:L_ (W.drewN n) x 0 (X_ (some ⟨b,off,none⟩) l.length c));have c2:=fun n=>Fr.cell (hn.drewN n) nf id;have c3:=fun n=>Fr.cell (hn.drewN n) hbu id;have c4:=fun n=>Fr.cell (hn.drewN n) (aF i y hy) id;have hiI:(i:Int)<l.length:=O_
 have HN:=ac5 hn;clear hn aF az hr hb nf hbu hy
 go_enter func298,ntmps298
 go_wp2_with fail
 go_quiet (fail)
 go_wp2;go_ret;exact⟨rfl,HN.out.drewN _⟩
def gH(l:List Int) (uid:Int) (k:Nat):Prop:=k<=l.length/\(k=0\/∃y,l[k-1]? =some y/\¬uid<=y)/\(k=l.length\/∃y,l[k]? =some y/\uid<=y)
theorem EM{base x:Nat}{w:World}{l:List Int}(h:oh base w x l) (hl:l.length<=100000) (uid:Int):
 H_ 241 #[Q_ x,U_ uid] w fun e w'=>∃k:Nat,e=.returned (I_ k)/\gH l uid k/\ae w w':=by
 have br:ae w (W_ (W_ w #[Q_ x] 88) #[U_ uid] 28):=((ae.refl w).alloc _).alloc _;have b1:=(af.new w 88 #[Q_ x]).alloc (G_ #[U_ uid] 28);have b2:=af.new (W_ w #[Q_ x] 88) 28 #[U_ uid];rw [gz]at b2;have h1:=h.new br
 have hs:=IE 298 #[Q_ w,Q_ (w.heap.size+1)] l.length (fun i=>decide (uid<=l[i]?.getD 0)) _ (Aw func298 K_ rfl) O_
  (fun W i hi hW=>MD h1 (b1.cell 0) (b2.cell 0) hW i (l[i]?.getD 0) (by rw [DW hi];rfl) hl)
 have HS:=ac5 hs;obtain⟨u,hb,hr⟩:=h1;obtain⟨A,c,rfl,_⟩:=hr.form;have c0:=b1.cell 0;have c1:=hb.k0;clear hs hr hb h
 go_enter func241,ntmps241
 go_wp2_with fail
 refine HS.out.mono ?_;rintro e w1 ⟨k,rfl,hk,eA,kI,iQ⟩;go_wp2;go_ret;refine⟨k,rfl,⟨hk,?_,?_⟩,br.trans iQ⟩
 ·rcases eA with h|h
  ·exact .inl h
  ·by_cases h0:k=0
   ·exact .inl h0
   ·obtain⟨y,hy⟩:∃y,l[k-1]? =some y:=⟨_,DW O_⟩;refine .inr ⟨y,hy,?_⟩;rw [hy]at h;simpa using h
 ·rcases kI with h|h
  ·exact .inl h
  ·by_cases h0:k=l.length
   ·exact .inl h0
   ·obtain⟨y,hy⟩:∃y,l[k]? =some y:=⟨_,DW O_⟩;refine .inr ⟨y,hy,?_⟩;rw [hy]at h;simpa using h
end
section
open Go.RowKit Go.Shelf Go.Proofs
attribute [local go_sem] wT
def gI(n₀:Nat) (W:World) (sv:Value) (zs:List Int):Prop:=
 (zs=[]/\∃A c,sv=X_ A 0 c)\/∃b off cap,sv=X_ (some ⟨b,off,none⟩) zs.length cap/\b<n₀/\∀j,j<zs.length->L_ W b (off+j) (U_ (zs[j]?.getD 0))
theorem gI.below {n₀:Nat}{A B:World}(h:Below n₀ A B) {sv:Value}{zs:List Int}:gI n₀ A sv zs->gI n₀ B sv zs
 | .inl e=>.inl e
 | .inr ⟨b,off,cap,e,hb,hc⟩=>.inr ⟨b,off,cap,e,hb,fun j hj=>(h.cell (p:=⟨b,off+j,none⟩) hb).trans (hc j hj)⟩
theorem gI.of {w:World}{v:Value}{l:List Int}{n₀:Nat}(h:Rd (ak .u32) w v l) (hn:l≠[]->∀b,v.ownBlock=some b->b<n₀):gI n₀ w v l:=by
 obtain⟨A,c,rfl,_,az⟩:=h.ints;by_cases hl:l=[]
 ·subst hl;exact .inl ⟨rfl,A,c,rfl⟩
 ·obtain⟨b,off,rfl,hc⟩:=az hl;exact .inr ⟨_,_,_,rfl,hn hl _ rfl,fun j hj=>hc j _ (by rw [DW hj];rfl)⟩
theorem ME{zs:List Int}{k:Nat}(h:k<zs.length):zs.take (k+1)=zs.take k++[zs[k]?.getD 0]:=by
 rw [Gz,DW h];rfl
theorem EN(F:Fence) (n:Nat) (hf:F.fn 83) (JW:F.round=none) (hn:1<=n) (l Bs n₀ b off cap:Nat) (zs:List Int) (hlen:zs.length<=1000000) (hb:b<n₀) (J Jx:List Int->World->Prop)
 (hY:∀pre x W,J pre W->pre.length<zs.length->YieldAt F (n-1) prog l #[U_ x] W fun e W'=>
   (e=.returned (R_ true)/\J (pre++[x]) W'/\Below n₀ W W')\/(e=.returned (R_ false)/\Jx (pre++[x]) W'))
 (W:World) (QW:L_ W Bs 0 (X_ (some ⟨b,off,none⟩) zs.length cap)) (hc:∀j,j<zs.length->L_ W b (off+j) (U_ (zs[j]?.getD 0))) (h0:J [] W):
 CallsIn F n prog 83 #[.func (.yield l) #[] #[],Q_ Bs] W fun e W'=>(∃v,e=.returned v)/\
  (J zs W'\/(∃pre,pre <+:zs/\Jx pre W')):=by
 refine rW func83 rfl hf ?_ JW;simp only [ntmps83,PA,iU,WL,Nat.reduceAdd,Nat.reduceSub,rX,rY,eL,iY,Qv,OZ]
 gi_wp2
 gi_loopw [7] (fun i wr=>∃k:Nat,k<=zs.length/\i=I_ k/\J (zs.take k) wr/\Below n₀ W wr)
  (fun i _=>zs.length-(intOf i).toNat)
 case atStart=>exact⟨0,Gv _,rfl,h0,zm _ _⟩
 case round=>
  obtain⟨k,hk,rfl,hJs,hnx⟩:=hrel;have sJ:k<zs.length->L_ wr b (off+k) (U_ (zs[k]?.getD 0)):=fun h=>(hnx.cell (p:=⟨b,off+k,none⟩) hb).trans (hc k h);by_cases bJ:k<zs.length
  ·have nI:=ME bJ;obtain⟨x,hx⟩:∃x,zs[k]?.getD 0=x:=⟨_,rfl⟩;rw [hx]at nI sJ;have Gk:=ac5 nI;clear hx nI;obtain⟨fn,tmps,assign,body,hy,hR⟩:=hY _ x wr hJs (by rw [jo];omega);have hcx':=sJ bJ
   gi_wp2
   refine hR.mono ?_;rintro e W3 (⟨rfl,hJ3,uO⟩|⟨rfl,Qi⟩)
   ·gi_wp2
    go_roundw
    case rel=>exact⟨k+1,O_,S_,by rw [Gk.out];exact hJ3,hnx.trans uO⟩
    case measure=>simp [intOf];omega
   ·gi_wp2
    refine r_ (G6 rfl _ _ _) rfl ?_;exact⟨⟨_,rfl⟩,.inr ⟨_,List.take_prefix (k+1) zs,by rw [Gk.out];exact Qi⟩⟩
  ·obtain rfl:k=zs.length:=O_
   rw [iD]at hJs
   gi_wp2
   go_end0;exact⟨⟨_,rfl⟩,.inl hJs⟩
theorem uu(F:Fence) (n:Nat) (hf:F.fn 83) (JW:F.round=none) (l Bs:Nat) (J:List Int->World->Prop) (W:World) (A:Option Addr) (c:Nat) (QW:L_ W Bs 0 (X_ A 0 c)) (h0:J [] W):
 CallsIn F n prog 83 #[.func (.yield l) #[] #[],Q_ Bs] W fun e W'=>(∃v,e=.returned v)/\J [] W':=by
 refine rW func83 rfl hf ?_ JW;simp only [ntmps83,PA,iU,WL,Nat.reduceAdd,Nat.reduceSub,rX,rY,eL,iY,Qv,OZ]
 gi_wp2
 gi_loopw [7] (fun i wr=>i=I_ 0/\J [] wr) (fun _ _=>0)
 case atStart=>exact⟨rfl,h0⟩
 case round=>
  obtain⟨rfl,hJs⟩:=hrel
  gi_wp2
  go_end0;exact⟨⟨_,rfl⟩,hJs⟩
theorem yG(F:Fence) (n:Nat) (hf:F.fn 83) (JW:F.round=none) (hn:1<=n) (Bs n₀:Nat) (sv:Value) (zs:List Int) (hlen:zs.length<=1000000) (w:World) (QW:Bs<w.heap.size) (hn₀:n₀<=w.heap.size)
 (hc:L_ w Bs 0 sv) (hI:gI n₀ w sv zs):
 SeqStopsK F n prog 83 #[Q_ Bs] (fun x:Int=> #[Value.int .u32 x]) (Below n₀) (fun ys=>ys=zs) (fun pre=>pre <+:zs) zs.length w:=fun l J Jx W hW _ _ hY h0=>by
 have rH:=(hW.cell (p:=⟨Bs,0,none⟩) QW).trans hc;rcases hI.below (hW.mono hn₀)with⟨rfl,A,c,rfl⟩|⟨b,off,cap,rfl,hb,cK⟩
 ·exact(uu F n hf JW l Bs J W A c rH h0).mono fun e W' ⟨he,hj⟩=>⟨he,.inl ⟨_,rfl,hj⟩⟩
 ·refine(EN F n hf JW hn l Bs n₀ b off cap zs hlen hb J Jx hY W rH cK h0).mono ?_;rintro e W' ⟨he,hj|⟨pre,hp,hj⟩⟩
  ·exact⟨he,.inl ⟨_,rfl,hj⟩⟩
  ·exact⟨he,.inr ⟨_,hp,hj⟩⟩
theorem EO(a:Option Addr) (len cap:Nat) (w:World):
 H_ 60 #[X_ a len cap] w fun e w'=>e=.returned (.func (.func 83) #[] #[Q_ w])/\w'=w.alloc (G_ #[X_ a len cap] 58):=by
 go_enter func60,ntmps60
 go_wp2;go_ret;exact⟨rfl,rfl⟩
end
def compactP:List Int->List Int
 |[]=>[]
 |x::l=>if l.head? =some x then compactP l else x::compactP l
theorem yH(l:List Int) (x y:Int):compactP (l++[x,y])=if x=y then compactP (l++[x])else compactP (l++[x])++[y]:=by
 induction l with
 |nil=>
  by_cases h:x=y
  ·subst h;simp [compactP]
  ·have h':¬y=x:=fun e=>h e.symm;simp [compactP,h,h']
 |cons a l ih=>
  have hh:(l++[x,y]).head? =(l++[x]).head? :=by cases l<;>rfl
  simp only [OZ,compactP];rw [hh,ih];by_cases h1:(l++[x]).head? =some a
  ·simp only [h1,if_true]
  ·simp only [h1,if_false];by_cases h2:x=y
   ·simp only [h2,if_true]
   ·simp only [h2,if_false,OZ]
theorem oj{l:List Int}{p:Nat}{x y:Int}(hp:l[p]? =some x) (hy:l[p+1]? =some y):compactP (l.take (p+2))=if x=y then compactP (l.take (p+1))else compactP (l.take (p+1))++[y]:=by
 have h1:l.take (p+1)=l.take p++[x]:=by
  have hk:=(List.getElem?_eq_some_iff.1 hp);rw [wt hk.1,hk.2]
 have h2:l.take (p+2)=l.take p++[x,y]:=by
  have hk:=(List.getElem?_eq_some_iff.1 hy);rw [wt hk.1,hk.2,h1];simp
 rw [h2,h1,yH]
theorem BK(base:Nat) (v:Value) (l:List Int) (w:World) (hv:Own (ak .u32) 28 base w v l) (hl:l.length<=100000):
 H_ 58 #[v] w fun e w'=>∃o,e=.returned o/\Own (ak .u32) 28 base w' o (compactP l)/\Fr (fun k=>v.ownBlock=some k) w w'/\(o.ownBlock=v.ownBlock):=by
 have hzero:∀w,(zeroValue 28).run prog w=.ok (U_ 0) w:=fun w=>K_
 obtain⟨A,c,rfl,hc⟩:=hv.form;by_cases h2:l.length<2
 ·have hid:compactP l=l:=by
   match l,h2 with
   |[],_=>rfl
   |[x],_=>simp [compactP]
  rw [hid];clear hid
  go_enter func58,ntmps58
  go_wp2;go_ret;exact⟨_,rfl,hv,Fr.refl _ _,rfl⟩
 ·obtain⟨gg,rfl⟩:=hv.OC O_;have aF:∀i x,l[i]? =some x->L_ w gg i (U_ x):=fun i x hx=>hv.pZ hx;have U9:=ac5 aF;obtain⟨r,hr⟩:∃r,compactP l=r:=⟨_,rfl⟩;rw [hr];have HRE:=ac5 hr;have oe:decide ((l.length:Int)<2)=false:=aP O_;clear aF hr
  go_enter func58,ntmps58
  go_wp2
  go_loopw [3] (fun vi wr=>∃k:Nat,1<=k/\k<=l.length/\vi=I_ k/\Hid (compactP (l.take k)=l.take k)/\ae w wr) (fun vi _=>l.length-(intOf vi).toNat)
  case atStart=>
   refine⟨1,O_,O_,rfl,?_,ae.refl _⟩
   match l,h2 with
   |[],h=>exact absurd S_ h
   |x::l,_=>show compactP [x]=[x];simp [compactP]
  case round=>
   obtain⟨k,eA,hk,rfl,HS,c_⟩:=hrel;by_cases dL:k<l.length
   ·obtain⟨x,hx⟩:∃x,l[k-1]? =some x:=⟨_,DW O_⟩;obtain⟨y,hy⟩:∃y,l[k]? =some y:=⟨_,DW dL⟩;have e0:=Fr.cell c_ (U9.out _ x hx) id;have e1:=Fr.cell c_ (U9.out k y hy) id
    have dz:compactP (l.take (k+1))=if x=y then l.take k else l.take k++[y]:=by
     obtain⟨q,rfl⟩:∃q,k=q+1:=⟨k-1,O_⟩;rw [oj (by simpa using hx) hy,HS.out]
    have nI:=fZ hy;have iI:=ac5 dz;have Gk:=ac5 nI;have hwk:IntKind.i64.wrap ((k:Int)-1)=(k:Int)-1:=aM _ O_;have hwn:((k:Int)-1).toNat=k-1:=O_
    have lV:0<=(k:Int)-1:=O_
    clear hx hy dz nI;by_cases NV:x=y
    ·subst NV;have bT:=iI.out;rw [if_pos rfl]at bT;have Zs:=ac5 bT;clear bT;go_wp2_with fail
     go_quiet (fail)
     go_wp2;have da:=c_.drewN nq;have fE:=hv.new da;generalize wr.drewN nq=wo at*
     go_loopw [3,5] (fun v3 v5 wi=>∃(kk k2:Nat) (m:List Int),1<=k2/\k+k2<=l.length/\kk+1<=k+k2/\v3=I_ kk/\v5=I_ k2/\m.length=l.length/\Hid (∀j,kk<=j->m[j]? =l[j]?)/\Hid (m.take kk=compactP (l.take (k+k2)))/\
      Own (ak .u32) 28 base wi (X_ (M_ gg) l.length c) m/\Fr (fun q=>gg=q) wo wi) (fun _ v5 _=>l.length-(intOf v5).toNat)
     case atStart=>exact⟨k,1,l,aA _,O_,aA _,rfl,rfl,rfl,fun _ _=>rfl,by show l.take k=compactP (l.take (k+1));rw [Zs.out],fE,Fr.refl _ _⟩
     case round=>
      obtain⟨kk,k2,m,ars,art,hkk,rfl,rfl,hm,HM,HT,ho,hf⟩:=hrel;clear fE e0 e1;by_cases bJ:k+k2<l.length
      ·obtain⟨x',hx⟩:∃x,l[k+(k2-1)]? =some x:=⟨_,DW O_⟩;obtain⟨y',hy⟩:∃y,l[k+k2]? =some y:=⟨_,DW bJ⟩;obtain⟨z,hz⟩:∃z,m[kk]? =some z:=⟨_,DW O_⟩;have e0:L_ wr gg (k+(k2-1)) (U_ x'):=ho.pZ (by rw [HM.out _ O_];exact hx);have e1:L_ wr gg (k+k2) (U_ y'):=ho.pZ (by rw [HM.out _ O_];exact hy)
       have dz:compactP (l.take (k+k2+1))=if x'=y' then m.take kk else m.take kk++[y']:=by
        obtain⟨q,hq⟩:∃q,k+k2=q+1:=⟨k+(k2-1),O_⟩;have pa:k+(k2-1)=q:=O_
        rw [pa]at hx;have:=HT.out;rw [hq]at hy this⊢;rw [oj hx hy,this]
       have Mu:=ac5 dz;have aru:IntKind.i64.wrap ((k2:Int)-1)=(k2:Int)-1:=aM _ O_;have arv:((k2:Int)-1).toNat=k2-1:=O_
       have hk20:0<=(k2:Int)-1:=O_
       have hzc:∀n,L_ (wr.drewN n) gg kk (U_ z):=fun n=>ho.pZ hz;have tI:∀n,(wr.drewN n).frozen? (C_ gg kk)=false:=fun n=>ho.uF _;have HY:=ac5 hy;clear hx hy hz dz;by_cases NV:x'=y'
       ·subst NV;go_wp2_with fail
        go_quiet (fail)
        go_wp2;go_roundw
        case rel=>
         refine⟨kk,k2+1,m,O_,O_,O_,rfl,by go_num,hm,HM.out,?_,ho.fr (S:=fun _=>False) ((Fr.refl _ _).drewN _) (fun _ _=>id),hf.drewN _⟩;have bT:=Mu.out
         first|rw [if_pos rfl]at bT|rw [if_pos True.intro]at bT
         exact bT.symm
        case measure=>simp [intOf];omega
       ·have hq:(y' !=x')=true:=by simp;exact fun e=>NV e.symm
        go_wp2_with fail
        go_quiet (fail)
        have bT:=Mu.out;rw [if_neg NV]at bT;have ZA:=ac5 bT;have hos:=fun n=>Own.p_ (ho.fr (S:=fun _=>False) ((Fr.refl _ wr).drewN n) (fun _ _=>id)) kk y';have HOS:=ac5 hos;have hkm:kk<m.length:=O_
        clear bT hos;go_wp2;go_roundw
        case rel=>
         refine⟨kk+1,k2+1,m.set kk y',O_,O_,O_,by go_num,by go_num,by rw [xj];exact hm,fun j hj=>?_,?_,HOS.out _,?_⟩
         ·rw [OV O_];exact HM.out j O_
         ·show(m.set kk y').take (kk+1)=compactP (l.take (k+k2+1))
          rw [ZA.out,fZ (acW hkm),List.take_set_of_le (aA _)]
         ·exact Fr.setCell (p:=⟨gg,_,none⟩) (hf.drewN _) (fun _=>rfl) _
        case measure=>simp [intOf];omega
      ·have U':k+k2=l.length:=O_
       have ht:=HT.out;rw [U',iD,HRE.out]at ht;subst ht
       have cE:∀u∈(Value.int .u32 0).cells.toList,u.oneCell'=true:=by
        intro u hu;have Ut:u∈[Value.int .u32 0]:=hu;rw [List.mem_singleton.1 Ut];rfl
       obtain⟨w3,J6,fg,gP⟩:=nU (P:=prog) (E:=ak .u32) (ty:=0) underlying58 hzero rfl cE ho kk (c-kk) O_
       have aiT:(Builtin.clear_ #[58] 0 #[X_ (some ⟨gg,kk,none⟩) (l.length-kk) (c-kk)]).run prog wr=.ok (.tuple #[]) w3:=by
        have e1:kk*(ak .u32).sz=kk:=RZ kk;rw [e1]at J6;exact J6
       clear J6;go_wp2;go_ret;exact⟨_,rfl,fg,(ae.to da).trans (hf.trans (gP.mono fun _ _ h=>h.symm) |>.mono fun _ _ h=>by rw [h];rfl),rfl⟩
    ·have hq:(y==x)=false:=by simp;exact fun e=>NV e.symm
     go_wp2_with fail
     go_quiet (fail)
     go_wp2;go_roundw
     case rel=>
      refine⟨k+1,O_,O_,by go_num,?_,c_.drewN _⟩;have bT:=iI.out;rw [if_neg NV]at bT
      show compactP (l.take (k+1))=l.take (k+1)
      rw [bT,Gk.out]
     case measure=>simp [intOf];omega
   ·obtain rfl:k=l.length:=O_
    have hrl:r=l:=by
     rw [<-HRE.out];have:=HS.out;rw [iD]at this;exact this
    subst hrl;go_wp2;go_ret;exact⟨_,rfl,hv.new c_,ae.to c_,rfl⟩
def sQ(w:World) (b:Nat) (next taken first val done:Int):Prop:=
 af w b 155 #[U_ next,.int .u64 taken,U_ first,U_ val,U_ done,.int .i32 0,U_ 0]
theorem sQ.c0 {w b n t f v d}(h:sQ w b n t f v d):L_ w b 0 (U_ n):=h.cell 0
theorem sQ.c1 {w b n t f v d}(h:sQ w b n t f v d):L_ w b 1 (.int .u64 t):=h.cell 1
theorem sQ.c3 {w b n t f v d}(h:sQ w b n t f v d):L_ w b 3 (U_ v):=h.cell 3
theorem sQ.c4 {w b n t f v d}(h:sQ w b n t f v d):L_ w b 4 (U_ d):=h.cell 4
theorem sQ.c5 {w b n t f v d}(h:sQ w b n t f v d):L_ w b 5 (.int .i32 0):=h.cell 5
theorem Ku(a:Addr) (u:Value) (y:Int) (w:World) (hc:w.cell? a=some u) (hz:w.frozen? a=false):
 H_ 57 #[.pointer (some a),U_ y] w fun e w'=>e=.returned (.tuple #[])/\w'=w.setCell a (U_ y):=by
 have hs:=run_call_store (P:=prog) func80 K_ K_ K_ K_ (y:=y) (k:=.u32) hc hz
 go_enter func57,ntmps57
 go_wp2;go_end0;exact⟨rfl,rfl⟩
theorem Q4(a:Addr) (x:Int) (w:World) (hc:w.cell? a=some (.int .u32 x)):
 H_ 74 #[.pointer (some a)] w fun e w'=>e=.returned (U_ x)/\w=w':=by
 have hs:=run_call_load (P:=prog) func104 K_ K_ K_ .u32 K_ hc
 go_enter func74,ntmps74
 go_wp2;go_ret;exact⟨rfl,rfl⟩
theorem cas32(a:Addr) (x y:Int) (w:World) (hc:w.cell? a=some (.int .u32 x)) (hz:w.frozen? a=false):
 H_ 236 #[.pointer (some a),U_ x,U_ y] w fun e w'=>e=.returned (R_ true)/\w.setCell a (U_ y)=w':=by
 have hs:=run_call_cas_hit (P:=prog) func295 K_ K_ K_ .u32 K_ (y:=y) hc hz
 go_enter func236,ntmps236
 go_wp2;go_ret;exact⟨rfl,rfl⟩
theorem ael(a:Addr) (x:Int) (w:World) (hc:w.cell? a=some (.int .u64 x)) (hz:w.frozen? a=false) (h0:0<=x) (h1:x<9223372036854775807):
 H_ 237 #[.pointer (some a),.int .u64 1] w fun e w'=>e=.returned (.int .u64 (x+1))/\w.setCell a (.int .u64 (x+1))=w':=by
 have hs:=run_call_add (P:=prog) func296 K_ K_ K_ .u64 K_ (x:=x) (y:=1) (s:=x+1) hc hz (by simp [go_sem,Q5];omega)
 go_enter func237,ntmps237
 go_wp2;go_ret;exact⟨rfl,rfl⟩
theorem Q6(next:Int) (w:World) (h0:0<=next) (h1:next<=4294967295):
 H_ 36 #[U_ next] w fun e w'=>e=.returned (Q_ w)/\sQ w' w.heap.size (max next 1) 0 (max next 1) 0 0/\ae w w':=by
 rcases zJ next 1 with hn|hn
 ·go_enter func36,ntmps36
  go_wp2_with fail
  refine uE 8 K_ K_ ?_;simp only [Ay,ID,PV,vp]
  repeat still_step
  refine Hw ?_;go_wp2_with (go_at_call 57;refine(Ku _ (U_ 0) _ _ S_ S_).mono ?_;rintro e w' ⟨rfl,rfl⟩)
  go_ret;rw [show max next 1=1 by omega];exact⟨rfl,af.new _ _ _,((Fr.refl _ _).alloc _).drew⟩
 ·go_enter func36,ntmps36
  go_wp2_with fail
  refine uE 8 K_ K_ ?_;simp only [Ay,ID,PV,vp]
  repeat still_step
  refine Hw ?_;go_wp2_with (go_at_call 57;refine(Ku _ (U_ 0) _ _ S_ S_).mono ?_;rintro e w' ⟨rfl,rfl⟩)
  go_ret;rw [show max next 1=next by omega];exact⟨rfl,af.new _ _ _,((Fr.refl _ _).alloc _).drew⟩
section
variable{w:World}{b:Nat}{n t f v d:Int}
theorem Q7(h:sQ w b n t f v d):
 H_ 45 #[Q_ b] w fun e w'=>e=.returned (U_ n)/\w=w':=by
 have c0:=h.c0
 go_enter func45,ntmps45
 go_wp2_with (go_at_call 74;refine(Q4 _ _ _ c0).mono ?_;rintro e w' ⟨rfl,rfl⟩)
 go_ret;exact⟨rfl,rfl⟩
theorem Vb(h:sQ w b n t f v d) (h0:0<=n) (h1:n<4294967295) (ht0:0<=t) (EU:t<9223372036854775807):
 H_ 187 #[Q_ b] w fun e w'=>e=.returned (.tuple #[U_ n,I_ 0])/\sQ w' b (n+1) (t+1) f v d/\One b w w':=by
 have c0:=h.c0;have c1:L_ (w.setCell (C_ b 0) (U_ (n+1))) b 1 (.int .u64 t):=(OW _ _ _ _ S_).trans h.c1;have f0:=h.frozen 0;have f1:=h.frozen 1
 go_enter func187,ntmps187
 go_wp2;refine jD 1 ?_;rw [O0]
 go_wp2_with (first
  |(go_at_call 74;refine(Q4 _ _ _ c0).mono ?_;rintro e w' ⟨rfl,rfl⟩)
  |(go_at_call 236;refine(cas32 _ _ _ _ c0 f0).mono ?_;rintro e w' ⟨rfl,rfl⟩)
  |(go_at_call 237;refine(ael _ _ _ c1 (by simp [f1]) ht0 EU).mono ?_;rintro e w' ⟨rfl,rfl⟩))
 go_ret2;exact⟨rfl,(h.al 0 _).al 1 _,(One.refl _ _).set _ _ |>.set _ _⟩
end
end Go.Proofs.YtliimglbbiebiaaGreatDoor
namespace Go.Proofs.YtliimglbbiebiaaGreatDoor.UV
open Go.Proofs.Tryz
open Go.RowKit Go.MuLone
abbrev mu:Go.Conc.Locks.MuLink:={lock:=243,unlock:=244,ilock:=300,iunlock:=301,lockSlow:=338,unlockSlow:=341,disable:=334,enable:=336,acquire:=337,relMerge:=339,cas32:=335,add32:=340,tMutex:=141,tIMutex:=139,tPMutex:=408,tPIMutex:=443,tPI32:=445,tUP:=447,tNoCopy:=137,tU32:=28}
theorem Et:Go.Conc.Locks.MuLib prog mu:=
 ⟨func243,func244,func300,func301,func334,func336,func337,func339,func335,func340,underlying139,runUnderlying139,sizeOf139,isAgg139,zeroValue139,underlying141,runUnderlying141,sizeOf141,isAgg141,zeroValue141,underlying408,runUnderlying408,sizeOf408,isAgg408,zeroValue408,underlying443,runUnderlying443,sizeOf443,isAgg443,zeroValue443,underlying445,runUnderlying445,sizeOf445,isAgg445,zeroValue445,underlying447,runUnderlying447,sizeOf447,isAgg447,zeroValue447,underlying137,runUnderlying137,sizeOf137,isAgg137,zeroValue137,underlying21,runUnderlying21,sizeOf21,isAgg21,zeroValue21,K_⟩
theorem IH(x:Bool) (w:World):(Op.unary .not (R_ x)).run prog w=.ok (R_ (!x)) w:=rfl
theorem sR(a:Addr) (x:Int) (w:World) (hc:w.cell? a=some (.int .u32 x)):
 H_ 234 #[.pointer (some a)] w fun e w'=>e=.returned (R_ (x !=0))/\w=w':=by
 have hs:=run_call_load (P:=prog) func104 K_ K_ K_ .u32 K_ hc
 go_enter func234,ntmps234
 go_wp2;go_ret;exact⟨rfl,rfl⟩
theorem nO(a:Addr) (x:Value) (u:FrameMode) (w:World) (hc:w.cell? a=some x) (hz:w.frozen? a=false):
 CallsD prog 294 #[.pointer (some a),R_ true] u w fun e u' w'=>u'=u/\(e=.returned (.tuple #[])/\w'=w.drew.setCell a (U_ 1)):=by
 have rH:w.drew.cell? a=some x:=by go_simp
 have hz':w.drew.frozen? a=false:=by go_simp
 have bT:=run_call_store (P:=prog) func80 K_ K_ K_ K_ (k:=.u32) (y:=1) rH hz'
 go_enter_d func294,ntmps294
 go_wp2
 go_region_calls
 all_goals (go_end0;exact⟨rfl,rfl⟩)
theorem Vd(pl b:Nat) (w:World) (f:Int) (v:Value) (hp:L_ w pl 0 (Q_ b))
 (c2:L_ w b 2 (U_ f)) (c3:L_ w b 3 v) (f3:w.frozen? (C_ b 3)=false):
 H_ 186 #[Q_ pl] w fun e w'=>e=.returned (.tuple #[])/\w.drew.setCell (C_ b 3) (U_ f)=w':=by
 go_enter func186,ntmps186
 go_wp2_with fail
 refine uE 7 K_ K_ ?_;simp only [Ay,ID,PV,vp]
 repeat still_step
 refine Hw ?_;go_wp2;go_end0;exact⟨rfl,rfl⟩
theorem II(pl b:Nat) (w:World) (n t f v:Int) (hp:L_ w pl 0 (Q_ b)) (h:sQ w b n t f v 0):
 H_ 235 #[.pointer (some (C_ b 4)),.func (.func 186) #[] #[Q_ pl]] w fun e w'=>e=.returned (.tuple #[])/\sQ w' b n t f f 1/\One b w w':=by
 have f5:=h.frozen 5;have c5:=h.c5;have h1:af (w.setCell (C_ b 5) (.int .i32 1)) b 155 #[U_ n,.int .u64 t,U_ f,U_ v,U_ 0,.int .i32 1,U_ 0]:=h.al 5 _;have d4:=h1.k4;have IH:=IH
 go_enter_defers func235,ntmps235
 go_wp2_with (first
  |(go_at_call 243;refine(lock_free Et ⟨b,5,none⟩ _ c5 f5).mono ?_;rintro e w' ⟨rfl,rfl⟩)
  |(go_at_call 234;refine(sR _ _ _ d4).mono ?_;rintro e w' ⟨rfl,rfl⟩))
 refine(Vd pl b _ f (U_ v) ((OW _ _ _ _ S_).trans hp) (h1.cell 2) (h1.cell 3) (h1.frozen 3)).mono ?_;rintro e w' ⟨rfl,rfl⟩;have h2:af ((w.setCell (C_ b 5) (.int .i32 1)).drew.setCell (C_ b 3) (U_ f)) b 155 #[U_ n,.int .u64 t,U_ f,U_ f,U_ 0,.int .i32 1,U_ 0]:=h1.drew.al 3 _;have h3:af (((w.setCell (C_ b 5) (.int .i32 1)).drew.setCell (C_ b 3) (U_ f)).drew.setCell (C_ b 4) (U_ 1)) b 155 #[U_ n,.int .u64 t,U_ f,U_ f,U_ 1,.int .i32 1,U_ 0]:=h2.drew.al 4 _;have h4:af ((((w.setCell (C_ b 5) (.int .i32 1)).drew.setCell (C_ b 3) (U_ f)).drew.setCell (C_ b 4) (U_ 1)).setCell (C_ b 5) (.int .i32 0)) b 155 #[U_ n,.int .u64 t,U_ f,U_ f,U_ 1,.int .i32 0,U_ 0]:=h3.al 5 _;go_wp2;refine Qd (f:=294) (args:= #[.pointer (some (C_ b 4)),R_ true]) S_ (by simp [go_sem]) ?_;refine(nO (C_ b 4) (U_ 0) .returning _ (h2.cell 4) (h2.frozen 4)).mono ?_;rintro e u' CE ⟨rfl,rfl,rfl⟩;refine Qd (f:=244) (args:= #[.pointer (some (C_ b 5))]) (by simp [settle]) (by simp [go_sem]) ?_;refine(unlock_deferred Et (C_ b 5) _ _ (h3.cell 5) (h3.frozen 5)).mono ?_;rintro e u' CE ⟨rfl,rfl,rfl⟩;exact⟨_,G6 rfl _ _ _,rfl,h4,One.set (One.set (Fr.drew (One.set (Fr.drew (One.set (One.refl _ _) _ _)) _ _)) _ _) _ _⟩
theorem Rh(pl b:Nat) (w:World) (n t f v:Int) (hp:L_ w pl 0 (Q_ b)) (h:sQ w b n t f v 0):
 H_ 185 #[.pointer (some (C_ b 4)),.func (.func 186) #[] #[Q_ pl]] w fun e w'=>e=.returned (.tuple #[])/\sQ w' b n t f f 1/\One b w w':=by
 have c4:=h.c4;have IH:=IH
 go_enter func185,ntmps185
 go_wp2_with (first
  |(go_at_call 234;refine(sR _ _ _ c4).mono ?_;rintro e w' ⟨rfl,rfl⟩)
  |(go_at_call 235;refine(II pl b _ n t f v hp h).mono ?_;rintro e w' ⟨rfl,hc,ho⟩))
 go_end0;exact⟨rfl,hc,ho⟩
theorem BP(b:Nat) (w:World) (n t f v:Int) (fv:Value) (h:sQ w b n t f v 1):
 H_ 185 #[.pointer (some (C_ b 4)),fv] w fun e w'=>e=.returned (.tuple #[])/\w=w':=by
 have c4:=h.c4;have IH:=IH
 go_enter func185,ntmps185
 go_wp2_with (go_at_call 234;refine(sR _ _ _ c4).mono ?_;rintro e w' ⟨rfl,rfl⟩)
 go_end0;exact⟨rfl,rfl⟩
theorem xt(b:Nat) (w:World) (n t f v:Int) (h:sQ w b n t f v 0):
 H_ 131 #[Q_ b] w fun e w'=>e=.returned (U_ f)/\sQ w' b n t f f 1/\One b w w':=by
 have hmf:=atQ;have hb:=af.lt h
 go_enter func131,ntmps131
 go_wp2_with (go_at_call 185;refine(Rh w.heap.size b _ n t f v S_ (af.alloc h _)).mono ?_;rintro e w1 ⟨rfl,hc,ho⟩;have lK:L_ w1 w 0 (Q_ b):=(One.ai ho (af.new w _ _) O_).cell 0;have c3:=hc.c3)
 go_ret;exact⟨rfl,hc,(Fr.trans ((One.refl _ _).alloc _) ho)⟩
theorem yL(b:Nat) (w:World) (n t f v:Int) (h:sQ w b n t f v 1):
 H_ 131 #[Q_ b] w fun e w'=>e=.returned (U_ v)/\sQ w' b n t f v 1/\ae w w':=by
 have hmf:=atQ;have c3:=h.c3;have hb:=af.lt h
 go_enter func131,ntmps131
 go_wp2_with (go_at_call 185;refine(BP b _ n t f v _ (af.alloc h _)).mono ?_;rintro e w1 ⟨rfl,rfl⟩)
 go_ret;exact⟨rfl,af.alloc h _,(ae.refl _).alloc _⟩
theorem BQ{w:World}{b:Nat}{n t f v d:Int}(h:sQ w b n t f v d) (hd:d=0\/d=1/\v=f):
 H_ 131 #[Q_ b] w fun e w'=>e=.returned (U_ f)/\sQ w' b n t f f 1/\One b w w':=by
 rcases hd with rfl|⟨rfl,rfl⟩
 ·exact xt b w n t f v h
 ·exact(yL b w n t v v h).mono fun e w' ⟨he,hc,hn⟩=>⟨he,hc,hn.mono fun _ _ h=>h.elim⟩
end Go.Proofs.YtliimglbbiebiaaGreatDoor.UV
namespace Go.Proofs.YtliimglbbiebiaaGreatDoor
open Go.Proofs.Tryz Go.RowKit Go.Maps
def oq(l:List Int) (uid:Int) (k:Nat):Int:=if l[k]? =some uid then(k:Int)+1 else 0
theorem KC{base x:Nat}{w:World}{l:List Int}(h:oh base w x l) (hl:l.length<=100000) (uid:Int):
 H_ 226 #[Q_ x,U_ uid] w fun e w'=>∃k:Nat,e=.returned (I_ (oq l uid k))/\gH l uid k/\ae w w':=by
 have HF:=ac5 (EM h hl uid);have H:=ac5 h;clear h
 go_enter func226,ntmps226
 go_wp2_with fail
 refine HF.out.mono ?_;rintro e w1 ⟨k,rfl,hk,hn⟩;have h1:=H.out.new hn;obtain⟨u,hb,hr⟩:=h1;obtain⟨A,c,rfl,NT,az⟩:=hr.rd.ints;have c0:=fun n=>((hb.drewN n).cell 0:L_ (w1.drewN n) x 0 (X_ A l.length c));have c00:=hb.k0;have HK:=ac5 hk;have dL:=hk.1;have U9:=ac5 az;clear hr hb hk az;by_cases bJ:k<l.length
 ·have hd:decide ((k:Int)<l.length)=true:=k_ O_;obtain⟨y,hy⟩:∃y,l[k]? =some y:=⟨_,DW bJ⟩;obtain⟨b,off,rfl,aF⟩:=U9.out (by rintro rfl;simp at bJ);have cy:=aF k y hy;have cyn:∀n,L_ (w1.drewN n) b (off+k) (U_ y):=fun n=>cy;have hkI:(k:Int)<l.length:=O_
  have hw:IntKind.i64.wrap ((k:Int)+1)=(k:Int)+1:=aM _ O_;have HY:=ac5 hy;clear aF hy
  cases hq:(y==uid)
  ·have HQ:=ac5 hq
   have lh:oq l uid k=0:=by
    unfold oq;rw [HY.out,if_neg (by intro e;injection e with e;subst e;simp at hq)]
   go_wp2;go_ret;exact⟨k,by rw [lh];rfl,HK.out,by first|exact hn|exact hn.drewN _⟩
  ·have HQ:=ac5 hq
   have lh:oq l uid k=(k:Int)+1:=by
    unfold oq
    rw [HY.out,if_pos (by have:y=uid:=by simpa using hq
                          rw [this])]
   go_wp2;go_ret;exact⟨k,by rw [lh];rfl,HK.out,by first|exact hn|exact hn.drewN _⟩
 ·have hd:decide ((k:Int)<l.length)=false:=aP O_
  have lh:oq l uid k=0:=by
   unfold oq;rw [aeA O_,if_neg S_]
  go_wp2;go_ret;exact⟨k,by rw [lh];rfl,HK.out,by first|exact hn|exact hn.drewN _⟩


theorem xM(s:Nat) (w:World):H_ 33 #[Q_ s] w fun e w'=>e=.returned (.func (.func 55) #[] #[Q_ w])/\w'=w.alloc (G_ #[Q_ s] 26):=by
 have hmf:=atQ
 go_enter func33,ntmps33
 go_wp2;go_ret;exact⟨rfl,rfl⟩
theorem jc{F:Fence}{n:Nat}{P:Program}{Q:Exit->Act->World->Prop}{a:Act}{w:World}{c:Code}(R:Nat->Act->World->Prop) (f:Nat) (h:R f a w) (h0:∀a w,¬R 0 a w)
 (step:∀f a w,R (f+1) a w->c.wpIn F n P (Exit.then (R f) Q) a w):(Code.loop c).wpIn F n P Q a w:=by
 refine wpIn_loop_rounds f ?_
 induction f generalizing a w with
 |zero=>exact(h0 _ _ h).elim
 |succ f ih=>
  rw [roundsIn_succ];refine wpIn_mono (step f a w h) fun e a' w' hq=>?_
  cases e with
  |normal=>exact ih hq
  |ret=>exact hq
  |exit i=>exact hq
  |goto t=>exact hq
  |panic c=>exact hq
  |outgrown=>exact hq
theorem xN(q s m K:Nat) (hm:0<m) (lU:m<=1000) {I:List Nat->World->Prop}{Ix:Code->List Nat->World->Prop}{KK:World->Prop}{Kx:Code->World->Prop}(l:Nat) (W1:World) (hK1:KK W1) (i1:I [] W1)
 (afI:∀pre W,I pre W->L_ W q 0 (Q_ s)/\∃A c,L_ W s 2 (X_ A m c))
 (afJ:∀pre W,I pre W->pre.length<=K)
 (gA:∀pre x W,I pre W->x=pre.length %m->KK W->YieldAt Fence.wide 4 prog l #[I_ x] W fun e W'=>(e=.returned (R_ true)/\I (pre++[x]) W'/\KK W')\/(e=.returned (R_ false)/\∃c,Ix c (pre++[x]) W'/\Kx c W')):
 CallsIn Fence.wide 5 prog 55 #[.func (.yield l) #[] #[],Q_ q] W1 fun e W'=>(∃v,e=.returned v)/\∃pre c,Ix c pre W'/\Kx c W':=by
 refine rW func55 rfl trivial ?_ rfl;simp only [ntmps55,PA,iU,WL,Nat.reduceAdd,Nat.reduceSub,rX,rY,eL,iY,Qv,OZ]
 gi_wp2_with fail
 refine jc (fun f a W=>∃(pre:List Nat) (b:Nat) (u3 u4 u5 u6 u7 u8 u9 Sv Sw Sy Sz SA SC u16:Value),I pre W/\KK W/\pre.length=b*m/\K<pre.length+f/\
  a={tmps:= #[.func (.yield l) #[] #[],Q_ q,undef,u3,u4,u5,u6,u7,u8,u9,Sv,Sw,Sy,Sz,SA,SC,u16],defers:=[]}) (K+1)
  ⟨[],0,_,_,_,_,_,_,_,_,_,_,_,_,_,_,i1,hK1,S_,S_,rfl⟩ (fun a W=>?_) fun f a W=>?_
 ·rintro⟨pre,b,u3,u4,u5,u6,u7,u8,u9,Sv,Sw,Sy,Sz,SA,SC,u16,hI,hK,hl,hf,rfl⟩;have:=afJ pre W hI;omega
 rintro⟨pre,b,u3,u4,u5,u6,u7,u8,u9,Sv,Sw,Sy,Sz,SA,SC,u16,hI,hK,hl,hf,rfl⟩;obtain⟨r1,A,c,r2⟩:=afI pre W hI
 gi_wp2_with fail
 refine jc (fun g a W=>∃(pre:List Nat) (i:Nat) (u3 Sv Sw Sy Sz SA SC u16:Value),I pre W/\KK W/\pre.length=b*m+i/\K+i<pre.length+(f+1)/\i<=m/\i+g=m+1/\
  a={tmps:= #[.func (.yield l) #[] #[],Q_ q,undef,u3,Q_ s,Q_ s,.pointer (some (C_ s 2)),X_ A m c,I_ m,I_ i,Sv,Sw,Sy,Sz,SA,SC,u16],defers:=[]}) (m+1)
  ⟨pre,0,_,_,_,_,_,_,_,_,hI,hK,hl,O_,O_,O_,rfl⟩ (fun a W=>?_) fun g a W=>?_
 ·rintro⟨pre,i,u3,Sv,Sw,Sy,Sz,SA,SC,u16,hI,hK,hl,hf,hi,hg,rfl⟩;omega
 clear hI hK hl hf r1 r2;rintro⟨pre,i,u3,Sv,Sw,Sy,Sz,SA,SC,u16,hI,hK,hl,hf,hi,hg,rfl⟩;by_cases hd:i<m
 ·have hx:i=pre.length %m:=by rw [hl,Nat.mul_comm,Nat.mul_add_mod,Nat.mod_eq_of_lt hd]
  obtain⟨fn,tmps,assign,body,hy,hR⟩:=gA pre i W hI hx hK;have bJ:((i:Int)<(m:Int)):=O_
  have np:=k_ bJ;have HR:=ac5 hR;have HL:=ac5 hl;clear hR hx hl gA
  gi_wp2_with fail
  refine HR.out.mono ?_;rintro e W5 (⟨rfl,SR,k5⟩|⟨rfl,c0,F9,k5⟩)
  ·gi_wp2_with fail
   refine⟨pre++[i],i+1,_,_,_,_,_,_,_,_,SR,k5,by have:=HL.out;simp;omega,by simp;omega,O_,O_,rfl⟩
  ·gi_wp2
   refine r_ (G6 rfl _ _ _) rfl ?_;exact⟨⟨_,rfl⟩,_,c0,F9,k5⟩
 ·have np:decide ((i:Int)<(m:Int))=false:=aP O_;have HL:=ac5 hl;clear hl gA
  gi_wp2_with fail
  obtain rfl:i=m:=O_
  exact⟨pre,b+1,_,_,_,_,_,_,_,_,_,_,_,_,_,_,hI,hK,by rw [HL.out,Nat.succ_mul],O_,rfl⟩
end Go.Proofs.YtliimglbbiebiaaGreatDoor
