import Derived.Test.YtliimglbbiebiaaGreatDoorGTopTimeAA
set_option maxRecDepth 100000
set_option maxHeartbeats 6400000
set_option linter.all false
namespace Go.Proofs.YtliimglbbiebiaaGreatDoor
open Go.Proofs.Tryz Go.RowKit Go.Maps
abbrev ei:el prog 28 Int:=intKeys underlying28
section
variable{P:Program}{K:TypeId}{α:Type}[DecidableEq α]{E:el P K α}{w:World}{b:Nat}{l l':List (α×Value)}
theorem Qn(hp:l.Perm l') (gT:(l.map Prod.fst).Nodup) (a:α):get l a=get l' a:=by
 cases h:get l a with
 |none=>
  symm
  rw [dZ]at h⊢;exact fun hm=>h ((hp.map _).mem_iff.2 hm)
 |some v=>
  symm
  exact get_of_mem ((hp.map _).nodup_iff.1 gT) (hp.mem_iff.1 (kP h))
theorem HasMap.perm (h:HasMap E w b l) (hp:l.Perm l'):HasMap E w b l':=by
 obtain⟨D,h1,h2,h3⟩:=h.own;refine⟨(hp.map _).nodup_iff.1 h.nd,fun p Hq=>h.oks p (hp.mem_iff.2 Hq),D,by rw [<-hp.length_eq];exact h1,by rw [<-hp.length_eq];exact h2,fun a ha z=>?_⟩;rw [<-Qn hp h.nd a];exact h3 a ha z
theorem Es{k:α}(h:get l k=none):del l k=l:=by
 unfold del;rw [Xd];intro p hp;have:=dZ.1 h;simp;rintro rfl;exact this (List.mem_map.2 ⟨p,hp,rfl⟩)
theorem qL{k:α}{v:Value}(h:get l k=none):(put l k v).Perm (l++[(k,v)]):=by
 unfold put;rw [Es h];exact(List.perm_append_singleton _ _).symm
theorem By{k:α}{v v0:Value}(gT:(l.map Prod.fst).Nodup) (h:get l k=some v0):(put l k v).Perm (l.map fun p=>if p.1=k then(k,v)else p):=by
 induction l with
 |nil=>cases h
 |cons p l ih=>
  rw [nR,BY]at gT;rw [gx]at h;unfold put del at ih⊢;by_cases hp:p.1=k
  ·have hn:get l k=none:=dZ.2 (by rw [<-hp];exact gT.1);have hd:l.filter (fun p=>decide (p.1≠k))=l:=Es hn;rw [mD (by simpa using hp),hd,nR,if_pos hp];refine List.Perm.cons _ ?_
   have:l.map (fun p=>if p.1=k then(k,v)else p)=l:=by
    conv=>rhs;rw [<-List.map_id l]
    refine eR fun q hq=>?_;rw [if_neg]
    ·rfl
    ·rintro rfl;exact dZ.1 hn (List.mem_map.2 ⟨q,hq,rfl⟩)
   rw [this]
  ·rw [if_neg hp]at h;rw [Qo (by simpa using hp),nR,if_neg hp];exact(List.Perm.swap _ _ _).trans ((ih gT.2 h).cons _)
end
def lH(n i:Nat) (X:List MB):List (Int×Value):=(X.filter fun x:MB=>decide (x.m.uid %(n:Int)=(i:Int))).map fun x:MB=>(x.m.uid,x.val)
def di(X:List MB) (k:Int):Option MB:=X.find? fun x:MB=>decide (x.m.uid=k)
def um(X:List MB) (k:Int):List MB:=X.filter fun x:MB=>decide (x.m.uid≠k)
def MB.Qp (x:MB) (f:Int):MB:={x with m:={x.m with fl:=f}}
def uo(X:List MB) (k f:Int):List MB:=X.map fun x:MB=>if x.m.uid=k then x.Qp f else x
theorem ky(X:List MB) (k:Int):dY (X.map MB.m) k=(di X k).map MB.m:=by
 unfold dY di;rw [List.find?_map];rfl
theorem Qq(X:List MB) (k:Int):(um X k).map MB.m=CL (X.map MB.m) k:=by
 unfold um CL;rw [Ov];rfl
theorem Qr(X:List MB) (k f:Int):(uo X k f).map MB.m=Gt (X.map MB.m) k f:=by
 unfold uo Gt;rw [JJ,JJ];refine eR fun x _=>?_;simp only [Function.comp]
 split<;>rfl
theorem kz{X:List MB}{k:Int}{x:MB}(h:di X k=some x):x∈X/\x.m.uid=k:=by
 unfold di at h;refine⟨bK h,?_⟩;simpa using JF h
theorem qM(n:Nat) {i:Nat}{k:Int}(hk:k %n=i) (X:List MB):get (lH n i X) k=(di X k).map MB.val:=by
 induction X with
 |nil=>rfl
 |cons x X ih=>
  unfold lH di at ih⊢;rw [Wh];by_cases hx:x.m.uid %n=i
  ·rw [Qo (by simpa using hx),nR,gx];by_cases he:x.m.uid=k
   ·rw [if_pos he,k_ he];rfl
   ·rw [if_neg he,aP he,ih]
  ·rw [mD (by simpa using hx),aP (by rintro rfl;exact hx hk),ih]
theorem Ki(n i:Nat) (X:List MB) (x:MB):lH n i (X++[x])=if x.m.uid %n=i then lH n i X++[(x.m.uid,x.val)]else lH n i X:=by
 unfold lH;rw [Kk];by_cases h:x.m.uid %n=i
 ·rw [if_pos h,Qo (by simpa using h)];simp
 ·rw [if_neg h,mD (by simpa using h)];simp
theorem Kj(n i:Nat) (X:List MB) (k:Int):lH n i (um X k)=del (lH n i X) k:=by
 unfold lH um del;rw [Ov,Kh,Kh]
 congr 1
 refine yU fun x _=>?_;simp only [Function.comp];rw [Bool.and_comm]
theorem qN(x:MB) (f:Int):(x.Qp f).m.uid=x.m.uid:=rfl
theorem UU{n i:Nat}{k f:Int}{x:MB}(X:List MB) (H:∀y∈X,y.m.uid=k->y=x):lH n i (uo X k f)=(lH n i X).map fun p=>if p.1=k then(k,(x.Qp f).val)else p:=by
 induction X with
 |nil=>rfl
 |cons y X ih=>
  have ih:=ih fun z hz=>H z (su _ hz);have hy:=H y vB;unfold lH uo at ih⊢;rw [nR];by_cases he:y.m.uid=k
  ·obtain rfl:=hy he;rw [if_pos he];by_cases hx:y.m.uid %(n:Int)=(i:Int)
   ·rw [Qo (by rw [qN];simpa using hx),Qo (by simpa using hx),nR,nR,nR,ih,qN,if_pos he,he]
   ·rw [mD (by rw [qN];simpa using hx),mD (by simpa using hx),ih]
  ·rw [if_neg he];by_cases hx:y.m.uid %(n:Int)=(i:Int)
   ·rw [Qo (by simpa using hx),Qo (by simpa using hx),nR,nR,nR,ih,if_neg he]
   ·rw [mD (by simpa using hx),mD (by simpa using hx),ih]
theorem yD{n i:Nat}{k:Int}(hk:k %(n:Int)≠i) (f:Int) (X:List MB):lH n i (uo X k f)=lH n i X:=by
 induction X with
 |nil=>rfl
 |cons y X ih=>
  unfold lH uo at ih⊢;rw [nR];by_cases he:y.m.uid=k
  ·have hx:¬y.m.uid %(n:Int)=(i:Int):=by rw [he];exact hk
   rw [if_pos he,mD (by rw [qN];simpa using hx),mD (by simpa using hx),ih]
  ·rw [if_neg he];by_cases hx:y.m.uid %(n:Int)=(i:Int)
   ·rw [Qo (by simpa using hx),Qo (by simpa using hx),nR,nR,ih]
   ·rw [mD (by simpa using hx),mD (by simpa using hx),ih]
theorem Mj(n:Nat) {i:Nat}{X:List MB}{k:Int}(hk:k %n≠i):∀p∈lH n i X,p.1≠k:=by
 intro p hp;unfold lH at hp;obtain⟨x,hx,rfl⟩:=List.mem_map.1 hp;have:=(List.mem_filter.1 hx).2;simp at this;rintro rfl;exact hk this
structure Tb where
 tb:Nat
 pb:Nat
 c:Nat
 n:Nat
 q:Nat->Nat
 mb:Nat->Nat
 lo:Nat
 hi:Nat
 z:Nat->Prop
def Tb.aB (T:Tb) (k:Nat):Prop:=T.lo<=k/\k<T.hi
def NZ(T:Tb) (x:MB):Prop:=∀b,x.bv.ownBlock=some b->¬T.z b
structure f_(base:Nat) (w:World) (T:Tb) (X:List MB):Prop where
 hd:af w T.tb 134 #[X_ (M_ T.pb) T.n T.c]
 n0:0<T.n
 n1:T.n<=16
 nc:T.n<=T.c
 pt:∃cs,af w T.pb 135 cs/\∀i,i<T.n->cs[i]? =some (.pointer (M_ (T.q i)))
 part:∀i,i<T.n->af w (T.q i) 143 #[.int .i32 0,U_ 0,.map (some (T.mb i))]
 map:∀i,i<T.n->HasMap ei w (T.mb i) (lH T.n i X)
 body:∀x∈X,Own (ak .u8) 5 base w x.bv x.m.body
 nd:(X.map fun x=>x.m.uid).Nodup
 ok:∀x∈X,x.m.ok/\x.m.body.length<=65536
 UW:∀i j,i<T.n->j<T.n->T.q i=T.q j->i=j
 UX:∀i j,i<T.n->j<T.n->T.mb i=T.mb j->i=j
 Xe:T.aB T.tb
 rpb:T.aB T.pb
 rq:∀i,i<T.n->T.aB (T.q i)
 rm:∀i,i<T.n->T.aB (T.mb i)
 top:T.hi<=w.heap.size
 bz:∀x∈X,NZ T x
 zt:∀k,T.z k->k<w.heap.size
section
variable{base:Nat}{w w':World}{T:Tb}{X:List MB}
theorem f_.fr {S:Nat->Prop}(h:f_ base w T X) (hf:Fr S w w') (hS:∀k,S k->¬T.aB k) (hB:∀v l,Own (ak .u8) 5 base w v l->∀b,v.ownBlock=some b->¬S b):f_ base w' T X:=by
 obtain⟨cs,hp,Tg⟩:=h.pt
 exact⟨hf.ai h.hd fun hs=>hS _ hs h.Xe,h.n0,h.n1,h.nc,⟨cs,hf.ai hp fun hs=>hS _ hs h.rpb,Tg⟩,fun i hi=>hf.ai (h.part i hi) fun hs=>hS _ hs (h.rq i hi),fun i hi=>(h.map i hi).fr hf fun hs=>hS _ hs (h.rm i hi),
  fun x hx=>(h.body x hx).fr hf (hB _ _ (h.body x hx)),h.nd,h.ok,h.UW,h.UX,h.Xe,h.rpb,h.rq,h.rm,gy h.top hf.size,h.bz,fun k hk=>fw (h.zt k hk) hf.size⟩
theorem f_.new (h:f_ base w T X) (hf:ae w w'):f_ base w' T X:=h.fr hf (fun _ h=>h.elim) fun _ _ _ _ _ h=>h
theorem f_.drew (h:f_ base w T X):f_ base w.drew T X:=h.new ((ae.refl w).drew)
end
section
open Go.RowKit Go.MuLone
abbrev mu:Go.Conc.Locks.MuLink:={lock:=243,unlock:=244,ilock:=300,iunlock:=301,lockSlow:=338,unlockSlow:=341,disable:=334,enable:=336,acquire:=337,relMerge:=339,cas32:=335,add32:=340,tMutex:=141,tIMutex:=139,tPMutex:=408,tPIMutex:=443,tPI32:=445,tUP:=447,tNoCopy:=137,tU32:=28}
theorem Et:Go.Conc.Locks.MuLib prog mu:=
 ⟨func243,func244,func300,func301,func334,func336,func337,func339,func335,func340,underlying139,runUnderlying139,sizeOf139,isAgg139,zeroValue139,underlying141,runUnderlying141,sizeOf141,isAgg141,zeroValue141,underlying408,runUnderlying408,sizeOf408,isAgg408,zeroValue408,underlying443,runUnderlying443,sizeOf443,isAgg443,zeroValue443,underlying445,runUnderlying445,sizeOf445,isAgg445,zeroValue445,underlying447,runUnderlying447,sizeOf447,isAgg447,zeroValue447,underlying137,runUnderlying137,sizeOf137,isAgg137,zeroValue137,underlying21,runUnderlying21,sizeOf21,isAgg21,zeroValue21,K_⟩
end
section
open Go.RowKit Go.MuLone
theorem Qt(q m fn:Nat) (cap:Array Value) (R:World->Prop) (w:World) (hp:af w q 143 #[.int .i32 0,U_ 0,.map (some m)])
 (hE:∀args w,(callFunc fn args).run prog w=.ok (.enter fn args) w)
 (hf:H_ fn (#[.map (some m)]++cap) (w.setCell (C_ q 0) (.int .i32 1)) fun e w2=>e=.returned (.tuple #[])/\R w2)
 (hR:∀w2,R w2->af w2 q 143 #[.int .i32 1,U_ 0,.map (some m)]):
 H_ 191 #[Q_ q,.func (.func fn) #[] cap] w fun e w'=>e=.returned (.tuple #[])/\∃w2,R w2/\w'=w2.setCell (C_ q 0) (.int .i32 0):=by
 have c0:=hp.cell 0;have f0:=hp.frozen 0;have h1:af (w.setCell (C_ q 0) (.int .i32 1)) q 143 #[.int .i32 1,U_ 0,.map (some m)]:=hp.al 0 _;have d2:=h1.k2
 go_enter_defers func191,ntmps191
 go_wp2_with (first|(go_at_call 243;refine(lock_free Et (C_ q 0) _ c0 f0).mono ?_;rintro e w' ⟨rfl,rfl⟩)|fail)
 refine hf.mono ?_;rintro e w2 ⟨rfl,hr⟩;have h2:=hR _ hr;have HR:=ac5 hr;clear hr hR hf;go_wp2;refine Qd (f:=244) (args:= #[Q_ q]) S_ (by simp [go_sem]) ?_;refine(unlock_deferred Et (C_ q 0) .returning _ (h2.cell 0) (h2.frozen 0)).mono ?_;rintro e u' CE ⟨rfl,rfl,rfl⟩;exact⟨_,G6 rfl _ _ _,rfl,_,HR.out,rfl⟩
end
def UY:cr Nat where
 enc q:=[Q_ q]
 sz:=1
 len _:=rfl
 one x u hu:=by simp at hu;subst hu;rfl
 pos:=Nat.one_pos
theorem Qu:(prog.info? 135).map (fun i=>(i.zero,i.size,i.bytes))=some (some (.pointer none),1,8):=K_
theorem HasMap.aD {P:Program}{K:TypeId}{α:Type} [DecidableEq α] {E:el P K α}{w:World}{b:Nat}{l:List (α×Value)}(h:HasMap E w b l) {g:Nat}{t:TypeId}{cs:Array Value}(hb:af w g t cs):b≠g:=by
 rintro rfl;obtain⟨D,⟨es,clock,h1,_⟩,_⟩:=h.own;unfold af at hb;rw [h1]at hb
 cases hb
structure tH(w0 w:World) (tb:Nat) (v:Value) (qs ms:List Nat):Prop where
 hd:af w tb 134 #[v]
 own:Own UY 135 w0.heap.size w v qs
 len:ms.length=qs.length
 part:∀(i q m:Nat),qs[i]? =some q->ms[i]? =some m->af w q 143 #[.int .i32 0,U_ 0,.map (some m)]
 map:∀m∈ms,HasMap ei w m []
 qge:∀q∈qs,w0.heap.size<=q
 mge:∀m∈ms,w0.heap.size<=m
 nq:qs.Nodup
 nm:ms.Nodup
 Zl:w0.heap.size<=tb
 new:ae w0 w
theorem tH.lt {w0 w:World}{tb:Nat}{v:Value}{qs ms:List Nat}(h:tH w0 w tb v qs ms):(∀q∈qs,q<w.heap.size)/\∀m∈ms,m<w.heap.size:=by
 refine⟨fun q hq=>?_,fun m hm=>(h.map m hm).lt⟩;obtain⟨i,hi⟩:=List.mem_iff_getElem?.1 hq;have hl:=(List.getElem?_eq_some_iff.1 hi).1;exact(h.part i q _ hi (DW (by rw [h.len];exact hl))).lt
theorem wR{l:List Nat}{n:Nat}(h:l.Nodup) (hn:∀x∈l,x<n):(l++[n]).Nodup:=by
 rw [Ar];refine⟨h,S_,fun a ha b hb=>?_⟩;have:=hn a ha;simp at hb;omega
theorem tH.step {w0 w w2:World}{tb:Nat}{v v2:Value}{qs ms:List Nat}(h:tH w0 w tb v qs ms) {cs:Array Value}
 (ho:Own UY 135 w0.heap.size w2 v2 (qs++[w.heap.size+1]))
 (hf:Fr (fun k=>v.ownBlock=some k) (((w.alloc (.map #[] 0)).alloc (G_ #[.int .i32 0,U_ 0,.map (some w.heap.size)] 143)).alloc (G_ cs 135)) w2):
 tH w0 (w2.setCell (C_ tb 0) v2) tb v2 (qs++[w.heap.size+1]) (ms++[w.heap.size]):=by
 obtain⟨Th,gE⟩:=h.lt;have fu:ae w (((w.alloc (.map #[] 0)).alloc (G_ #[.int .i32 0,U_ 0,.map (some w.heap.size)] 143)).alloc (G_ cs 135)):=(((ae.refl w).alloc _).alloc _).alloc _;have dU:=Fr.trans' (ae.to fu) hf fun _ _ h=>h;have gP:Fr (fun k=>v.ownBlock=some k\/k=tb) w (w2.setCell (C_ tb 0) v2):=(cz dU fun _ h=>.inl h).setCell (fun _=>.inr rfl) _
 have bV:∀b,v.ownBlock=some b->∀g t kL,af w g t kL->t≠135->g≠b:=fun b hb g t kL hg ht=>by
  obtain⟨cs2,h2⟩:=h.own.heap hb;exact hg.aU h2 ht
 have fi:=fun b hb=>(h.own.block (b:=b) hb);have b2:=dU.ai h.hd fun hs=>bV _ hs _ _ _ h.hd D_ rfl;have eE:=fu.size;have hsz':(((w.alloc (.map #[] 0)).alloc (G_ #[.int .i32 0,U_ 0,.map (some w.heap.size)] 143)).alloc (G_ cs 135)).heap.size=w.heap.size+3:=S_
 have hns:∀k,w.heap.size<=k->¬v.ownBlock=some k:=fun k hk hs=>by have:=(fi k hs).2;omega
 have uf:=h.hd.lt
 have p2:af (w2.setCell (C_ tb 0) v2) (w.heap.size+1) 143 #[.int .i32 0,U_ 0,.map (some w.heap.size)]:=
  (hf.ai ((af.cD w _ _ _).alloc _) (hns _ O_)).bL P_ _
 have m2:HasMap ei (w2.setCell (C_ tb 0) v2) w.heap.size []:=
  ((((HasMap.made ei w).alloc _).alloc _).fr hf (hns _ (aA _))).setCell P_ _
 refine⟨b2.al 0 _,?_,by simp [h.len],?_,?_,?_,?_,wR h.nq (fun x hx=>by have:=Th x hx;omega),wR h.nm gE,h.Zl,?_⟩
 ·refine ho.fr (S:=fun k=>k=tb) ((Fr.refl (fun k=>k=tb) _).setCell (p:=⟨tb,0,none⟩) (fun _=>rfl) _) fun b hb hs=>?_;subst hs;obtain⟨cs2,h2⟩:=ho.heap hb;exact b2.aU h2 D_ rfl
 ·intro i q m hq hm;rcases GA i qs.length with hi|hi
  ·rw [Ox hi]at hq;rw [Ox (by rw [h.len];exact hi)]at hm;have hb:=h.part i q m hq hm;refine gP.ai hb fun hs=>?_;rcases hs with hs|rfl
   ·exact bV _ hs _ _ _ hb D_ rfl
   ·exact hb.aU h.hd D_ rfl
  ·rw [ab4 hi]at hq;rw [ab4 (by rw [h.len];exact hi),h.len]at hm
   have gn:i-qs.length=0:=by
    have:=(List.getElem?_eq_some_iff.1 hq).1;simp at this;omega
   rw [gn]at hq hm;simp at hq hm;subst hq hm;exact p2
 ·intro m hm;rcases List.mem_append.1 hm with hm|hm
  ·have hb:=h.map m hm;refine hb.fr gP fun hs=>?_;rcases hs with hs|rfl
   ·obtain⟨cs2,h2⟩:=h.own.heap hs;exact hb.aD h2 rfl
   ·exact hb.aD h.hd rfl
  ·simp at hm;subst hm;exact m2
 ·intro q hq;rcases List.mem_append.1 hq with hq|hq
  ·exact h.qge q hq
  ·have:=h.new.size;simp at hq;omega
 ·intro m hm;rcases List.mem_append.1 hm with hm|hm
  ·exact h.mge m hm
  ·have:=h.new.size;simp at hm;omega
 ·exact ae.two h.new gP fun i hi=>by
   rcases hi with hi|rfl
   ·exact(fi i hi).1
   ·exact h.Zl
theorem UZ(n i:Nat):lH n i []=[]:=rfl
theorem tH.table {w0 w:World}{tb:Nat}{v:Value}{qs ms:List Nat}(h:tH w0 w tb v qs ms) (h0:0<qs.length) (h1:qs.length<=16):
 ∃T:Tb,T.tb=tb/\T.n=qs.length/\T.lo=w0.heap.size/\T.hi=w.heap.size/\f_ w.heap.size w T []:=by
 obtain⟨Th,gE⟩:=h.lt;obtain⟨A,c,hv,hc⟩:=h.own.form
 obtain⟨g,rfl⟩:∃g,A=some ⟨g,0,none⟩:=by
  have h2:=h.own;rw [hv]at h2;exact h2.some_ h0
 have WU:v.ownBlock=some g:=by rw [hv];rfl
 obtain⟨cs,cK⟩:=h.own.heap WU;have zM:=h.own.block WU
 have hq:∀i,i<qs.length->∃q m,qs[i]? =some q/\ms[i]? =some m/\qs.getD i 0=q/\ms.getD i 0=m:=fun i hi=>by
  refine⟨qs[i],ms[i]'(by rw [h.len];exact hi),DW hi,DW _,?_,?_⟩
  ·simp [List.getD,DW hi]
  ·simp [List.getD,DW (show i<ms.length by rw [h.len];exact hi)]
 refine⟨⟨tb,g,c,qs.length,fun i=>qs.getD i 0,fun i=>ms.getD i 0,w0.heap.size,w.heap.size,fun _=>False⟩,rfl,rfl,rfl,rfl,⟨hv▸h.hd,h0,h1,hc,⟨cs,cK,fun i hi=>?_⟩,fun i hi=>?_,fun i hi=>?_,S_,S_,S_,fun i j hi hj=>?_,fun i j hi hj=>?_,⟨h.Zl,h.hd.lt⟩,zM,fun i hi=>?_,fun i hi=>?_,aA _,S_,fun _ h=>h.elim⟩⟩
 ·obtain⟨q,m,e1,e2,e3,e4⟩:=hq i hi;have h2:=h.own;rw [hv]at h2;have h3:=h2.dG e1 (j:=0) (u:=Q_ q) rfl;rw [cK.cell]at h3
  show cs[i]? =some (.pointer (M_ (qs.getD i 0)))
  rw [e3,<-h3];simp [UY]
 ·obtain⟨q,m,e1,e2,e3,e4⟩:=hq i hi;simp only [e3,e4];exact h.part i q m e1 e2
 ·obtain⟨q,m,e1,e2,e3,e4⟩:=hq i hi;simp only [e4,UZ];exact h.map m (List.mem_iff_getElem?.2 ⟨i,e2⟩)
 ·obtain⟨q,m,e1,e2,e3,e4⟩:=hq i hi;obtain⟨q',m',e1',e2',e3',e4'⟩:=hq j hj;simp only [e3,e3'];rintro rfl;exact(gl hi h.nq).1 (e1.trans e1'.symm)
 ·obtain⟨q,m,e1,e2,e3,e4⟩:=hq i hi;obtain⟨q',m',e1',e2',e3',e4'⟩:=hq j hj;simp only [e4,e4'];rintro rfl;exact(gl (by rw [h.len];exact hi) h.nm).1 (e2.trans e2'.symm)
 ·obtain⟨q,m,e1,e2,e3,e4⟩:=hq i hi;have h5:=List.mem_iff_getElem?.2 ⟨i,e1⟩
  show w0.heap.size<=qs.getD i 0/\qs.getD i 0<w.heap.size
  rw [e3];exact⟨h.qge q h5,Th q h5⟩
 ·obtain⟨q,m,e1,e2,e3,e4⟩:=hq i hi;have h5:=List.mem_iff_getElem?.2 ⟨i,e2⟩
  show w0.heap.size<=ms.getD i 0/\ms.getD i 0<w.heap.size
  rw [e4];exact⟨h.mge m h5,gE m h5⟩
theorem Qy(n:Nat) (h0:0<n) (h1:n<=16) (w:World):
 H_ 35 #[I_ n] w fun e w'=>∃T:Tb,e=.returned (Q_ T.tb)/\T.n=n/\T.lo=w.heap.size/\T.hi=w'.heap.size/\f_ w'.heap.size w' T []/\ae w w':=by
 have hd:decide ((n:Int)<1)=false:=aP O_;have oe:decide ((16:Int)<n)=false:=aP O_;obtain⟨i0,hi,dw,cE,dy⟩:=wF Qu;have uH:= @run_makeMap prog
 go_enter func35,ntmps35
 go_wp2
 go_loopw [13] (fun vi wr=>∃(k:Nat) (v:Value) (qs ms:List Nat),vi=I_ k/\k<=n/\qs.length=k/\tH w wr w.heap.size v qs ms) (fun vi _=>n-(intOf vi).toNat)
 case atStart=>exact⟨0,Z_,[],[],rfl,Gv _,rfl,⟨af.new _ _ _,Own.nil _ _ _ _,rfl,S_,S_,S_,S_,S_,S_,aA _,(ae.refl w).alloc _⟩⟩
 case round=>
  obtain⟨k,v,qs,ms,rfl,hk,Th,HP⟩:=hrel;by_cases bJ:k<n
  ·have sD:decide ((k:Int)<n)=true:=k_ O_;have hkw:IntKind.i64.wrap ((k:Int)+1)=(k:Int)+1:=aM _ O_;have c0:=HP.hd.cell 0;have f0:=HP.hd.frozen 0;have eE:=HP.new.size;have uf:=HP.hd.lt;have hO:=((HP.own.alloc (.map #[] 0)).alloc (G_ #[.int .i32 0,U_ 0,.map (some wr.heap.size)] 143)).alloc (G_ #[Q_ (wr.heap.size+1)] 135);have fu:ae wr (((wr.alloc (.map #[] 0)).alloc (G_ #[.int .i32 0,U_ 0,.map (some wr.heap.size)] 143)).alloc (G_ #[Q_ (wr.heap.size+1)] 135)):=(((ae.refl wr).alloc _).alloc _).alloc _;have qp:=af.OA wr (.map #[] 0) (G_ #[.int .i32 0,U_ 0,.map (some wr.heap.size)] 143) 135 #[Q_ (wr.heap.size+1)];have jy:(((wr.alloc (.map #[] 0)).alloc (G_ #[.int .i32 0,U_ 0,.map (some wr.heap.size)] 143)).alloc (G_ #[Q_ (wr.heap.size+1)] 135)).heap.size=wr.heap.size+3:=S_
   obtain⟨A,N,C,rfl⟩:=bY HP.own;have Qz:=fun b hb=>HP.own.heap (g:=b) hb
   go_wp2_with (first
    |(at_builtin;refine bC (E:=UY) rfl _ _ _ rfl underlying132 hi dw cE dy rfl hO rfl (wr.heap.size+1) (wr.heap.size+2) qp 1 rfl (by unfold maxLen;omega) O_ O_ ?_;intro v2 w2 dR dU sg
      obtain⟨A2,N2,C2,rfl⟩:=bY dR;have eP:=(cz dU fun _ h=>h).ai (fu.ai HP.hd) (fun hs=>by obtain⟨cs2,h2⟩:=Qz _ hs;exact HP.hd.aU h2 D_ rfl);have d0:=eP.cell 0;have g0:=eP.frozen 0)
    |fail)
   go_roundw
   case rel=>exact⟨k+1,_,_,_,by go_num,O_,by simp;omega,HP.step dR dU⟩
   case measure=>simp [intOf];omega
  ·have sD:decide ((k:Int)<n)=false:=aP O_;obtain⟨T,e1,e2,e3,e4,e5⟩:=HP.table O_ O_;go_wp2;go_ret;exact⟨T,by first|(rw [e1];done)|(simp only [e1];done)|simp [e1],O_,e3,e4,e5,HP.new⟩
theorem qO{base:Nat}{w:World}{T:Tb}{X:List MB}(h:f_ base w T X) (k:Int) (h0:0<=k) (_h1:k<=4294967295):H_ 238 #[Q_ T.tb,U_ k] w fun e w'=>e=.returned (I_ (k %T.n))/\w'=w:=by
 have c0:=h.hd.cell 0;have e1:=h.n0;have e2:=h.n1;have hw:IntKind.u32.wrap (T.n:Int)=T.n:=by simp [IntKind.wrap_u32];omega
 have aqv:Int.tmod k (T.n:Int)=k %T.n:=adN h0;have Xf:0<=k %(T.n:Int):=Kl _ O_;have lU:k %(T.n:Int)<T.n:=Km _ O_;have AU:IntKind.i64.wrap (k %(T.n:Int))=k %T.n:=aM _ O_;have J1:IntKind.u32.wrap (k %(T.n:Int))=k %T.n:=by simp [IntKind.wrap_u32];omega
 have hz:((T.n:Int)==0)=false:=by simp;omega
 have hz':(T.n:Int)≠0:=O_
 go_enter func238,ntmps238
 go_wp2;go_ret;exact⟨rfl,rfl⟩

theorem Xg{k:Int}(h0:0<=k) (h1:k<=4294967295):ei.ok k:=by
 show(Lit.int .u32 k).wf=true
 have h2:IntKind.u32.min<=k:=by rw [show IntKind.u32.min=0 from rfl];exact h0
 have h3:k<=IntKind.u32.max:=by rw [show IntKind.u32.max=4294967295 from rfl];exact h1
 simp [Lit.wf,h2,h3]
theorem QA{w:World}{mb g eb:Nat}{l:List (Int×Value)}{x y:MB}(h:HasMap ei w mb l) (hk:ei.ok x.m.uid) (hg:af w g 238 #[U_ x.m.uid,B_ x.m.fl,x.bv]) (he:af w eb 198 #[I_ 0])
 (hl:get l x.m.uid=some y.val):
 H_ 239 #[.map (some mb),Q_ g,Q_ eb] w fun e w'=>e=.returned (.tuple #[])/\(af w' eb 198 #[I_ 8]/\One eb w w'):=by
 obtain⟨⟨uid,fl,body⟩,A,n,c⟩:=x;obtain⟨⟨eB,km,Xh⟩,A',n',c'⟩:=y;simp only [MB.bv,MB.val]at hg hl hk⊢;have eN:=h.bD (t:=136) (e:=238) underlying136 (mU w) hk;rw [hl]at eN;simp only [ON,Yf]at eN
 change (Instr.lookup 136 (.map (some mb)) (U_ uid) true).run prog w=_ at eN
 have c0:=hg.k0;have hel:=he.lt;have e1:=fun cs=>(af.alloc he (G_ cs 238));have ec:=fun cs=>(e1 cs).cell 0;have ef:=fun cs=>(e1 cs).frozen 0;clear hl
 go_enter func239,ntmps239
 go_wp2
 first|go_end0|(simp only [Exit.inBlock,Exit.then];refine r_ (G6 rfl _ _ _) rfl ?_)|refine r_ (G6 rfl _ _ _) rfl ?_
 exact⟨rfl,(he.al 0 _).alloc _,((One.refl _ _).set 0 _).alloc _⟩
theorem QB{w:World}{mb g eb:Nat}{l:List (Int×Value)}{x:MB}(h:HasMap ei w mb l) (hk:ei.ok x.m.uid) (uL:l.length<maxLen) (hg:af w g 238 #[U_ x.m.uid,B_ x.m.fl,x.bv]) (_he:af w eb 198 #[I_ 0])
 (hb:Rd (ak .u8) w x.bv x.m.body) (nV:x.m.body.length<=100000) (hl:get l x.m.uid=none):
 H_ 239 #[.map (some mb),Q_ g,Q_ eb] w fun e w'=>e=.returned (.tuple #[])/\∃y:MB,y.m=x.m/\HasMap ei w' mb (put l x.m.uid y.val)/\Own (ak .u8) 5 w.heap.size w' y.bv y.m.body/\One mb w w':=by
 have eN:=h.bD (t:=136) (e:=238) underlying136 (mU w) hk;rw [hl]at eN;simp only [ly,Bz]at eN;have HB:=ac5 hb;have HG:=ac5 hg;obtain⟨x,rfl⟩:∃x',x'=x:=⟨_,rfl⟩;have hm:=hg.cell;obtain⟨⟨uid,fl,body⟩,A,n,c⟩:=x;simp only [MB.bv]at hg eN⊢
 change (Instr.lookup 136 (.map (some mb)) (U_ uid) true).run prog w=_ at eN
 have zM:=hg.lt;have br:ae w (W_ w #[U_ 0,B_ 0,Z_] 238):=(ae.refl w).alloc _;have g1:=br.ai hg;have c0:=hg.k0;have H1:=ac5 (h.fr br id);have HB1:=ac5 (HB.out.new br);have hgm:=iX (h.aD hg);have aqw:=h.lt;clear hl hb hm h;obtain⟨wq,ir⟩:∃wq,wq=w.alloc (G_ #[U_ 0,B_ 0,Z_] 238):=⟨_,rfl⟩;have aqx:wq.heap.size=w.heap.size+1:=by rw [ir];simp
 have q0:L_ wq g 0 (U_ uid):=by rw [ir];exact g1.cell 0
 have q1:L_ wq g 1 (B_ fl):=by rw [ir];exact g1.cell 1
 have q2:L_ wq g 2 (X_ A n c):=by rw [ir];exact g1.cell 2
 go_enter func239,ntmps239
 go_wp2_with fail
 rw [<-ir]at H1 HB1 br⊢;clear ir g1 c0 eN
 go_region_held3 (fun w'=>L_ w' g 0 (U_ uid)/\L_ w' g 1 (B_ fl)/\L_ w' g 2 (X_ A n c)) (first|go_keep|(refine⟨?_,?_,?_⟩<;>assumption))
  ((first
    |(go_at_call 240
      refine(vL ⟨⟨uid,fl,body⟩,A,n,c⟩ _ (HB1.out.new ?nw) nV).mono ?_
      case nw=>repeat' first|exact ae.refl _|apply Fr.drewN|apply Fr.drew
      rintro e w3 ⟨y,rfl,hy,hoy,fu⟩;have da:ae wq w3:=Fr.trans N_ fu;have d0:=Fr.cell da q0 id;have d1:=Fr.cell da q1 id;have d2:=Fr.cell da q2 id;obtain⟨w4,QC,Py,tj⟩:=(H1.out.fr da id).mP (t:=136) (e:=238) underlying136 uL hk y.val
      change (Instr.mapUpdate 136 (.map (some mb)) (U_ uid) y.val).run prog w3=_ at QC
      have f0:=Fr.cell tj d0 hgm;have f1:=Fr.cell tj d1 hgm;have f2:=Fr.cell tj d2 hgm)
    |fail))
 go_wp2
 first|go_end0|(simp only [Exit.inBlock,Exit.then];refine r_ (G6 rfl _ _ _) rfl ?_)|refine r_ (G6 rfl _ _ _) rfl ?_
 have fi:=br.size;refine⟨rfl,y,hy,Py,(hoy.fr tj fun b hb hs=>?_).mono (by simpa using fi),Fr.trans (ae.to (br.trans da)) tj⟩;have h1:=(hoy.block hb).1;have h2:wq.drew.heap.size=wq.heap.size:=rfl;subst hs;omega
def jS:MB:=⟨rK,none,0,0⟩
theorem QD{w:World}{mb kb g ob:Nat}{l:List (Int×Value)}{k:Int}{cs:Array Value}{b0:Value}{o:Option MB}(h:HasMap ei w mb l) (hk:ei.ok k) (Bb:af w kb 28 #[U_ k]) (hg:af w g 238 cs) (cK:cs.size=3)
 (ho:af w ob 4 #[b0]) (hl:get l k=o.map MB.val):
 H_ 246 #[.map (some mb),Q_ kb,Q_ g,Q_ ob] w fun e w'=>e=.returned (.tuple #[])/\
  (af w' g 238 #[U_ (o.getD jS).m.uid,B_ (o.getD jS).m.fl,(o.getD jS).bv]/\af w' ob 4 #[R_ o.isSome]/\Fr (fun k=>k=g\/k=ob) w w'):=by
 have eN:=h.bD (t:=136) (e:=238) underlying136 (mU w) hk;have hv:(get l k).getD (.agg #[U_ 0,B_ 0,Z_])=(o.getD jS).val:=by rw [hl];cases o<;>rfl
 have hs:(get l k).isSome=o.isSome:=by rw [hl];cases o<;>rfl
 rw [hv,hs]at eN;generalize o.getD jS=x at*;generalize o.isSome=q at*;clear hv hs hl;obtain⟨⟨uid,fl,body⟩,A,n,c⟩:=x;simp only [MB.bv,MB.val]at eN⊢
 change (Instr.lookup 136 (.map (some mb)) (U_ k) true).run prog w=_ at eN
 have ck:=Bb.k0;obtain⟨l0⟩:=cs
 match l0,cK with
 |[x0,x1,x2],_=>
 have g0:=hg.k0;have g1:=hg.k1;have g2:=hg.k2;have z0:=hg.frozen 0;have z1:=hg.frozen 1;have z2:=hg.frozen 2;have o0:=ho.k0;have y0:=ho.frozen 0;have bV:=ho.aU hg D_;have h1:=((hg.al 0 (U_ uid)).al 1 (B_ fl)).al 2 (X_ A n c);have h2:=((ho.bL (p:=⟨g,0,none⟩) bV (U_ uid)).bL (p:=⟨g,1,none⟩) bV (B_ fl)).bL (p:=⟨g,2,none⟩) bV (X_ A n c);have p0:=h2.cell 0;have p1:=h2.frozen 0
 go_enter func246,ntmps246
 go_wp2
 first|go_end0|(simp only [Exit.inBlock,Exit.then];refine r_ (G6 rfl _ _ _) rfl ?_)|refine r_ (G6 rfl _ _ _) rfl ?_
 exact⟨rfl,h1.bL (by simp;exact iX bV) _,h2.al 0 _,((((Fr.refl _ _).setCell (fun _=>.inl rfl) _).setCell (fun _=>.inl rfl) _).setCell (fun _=>.inl rfl) _).setCell (fun _=>.inr rfl) _⟩
theorem Eu{w:World}{mb kb g ob:Nat}{l:List (Int×Value)}{k:Int}{cs:Array Value}{b0:Value}{o:Option MB}(h:HasMap ei w mb l) (hk:ei.ok k) (Bb:af w kb 28 #[U_ k]) (hg:af w g 238 cs) (cK:cs.size=3)
 (ho:af w ob 4 #[b0]) (hl:get l k=o.map MB.val):
 H_ 245 #[.map (some mb),Q_ kb,Q_ g,Q_ ob] w fun e w'=>e=.returned (.tuple #[])/\
  (af w' g 238 #[U_ (o.getD jS).m.uid,B_ (o.getD jS).m.fl,(o.getD jS).bv]/\af w' ob 4 #[R_ o.isSome]/\HasMap ei w' mb (del l k)/\Fr (fun k=>k=mb\/k=g\/k=ob) w w'):=by
 have eN:=h.bD (t:=136) (e:=238) underlying136 (mU w) hk;have hv:(get l k).getD (.agg #[U_ 0,B_ 0,Z_])=(o.getD jS).val:=by rw [hl];cases o<;>rfl
 have hs:(get l k).isSome=o.isSome:=by rw [hl];cases o<;>rfl
 rw [hv,hs]at eN;generalize o.getD jS=x at*;generalize o.isSome=q at*;clear hv hs hl;obtain⟨⟨uid,fl,body⟩,A,n,c⟩:=x;simp only [MB.bv,MB.val]at eN⊢
 change (Instr.lookup 136 (.map (some mb)) (U_ k) true).run prog w=_ at eN
 have ck:=Bb.k0;obtain⟨l0⟩:=cs
 match l0,cK with
 |[x0,x1,x2],_=>
 have g0:=hg.k0;have g1:=hg.k1;have g2:=hg.k2;have z0:=hg.frozen 0;have z1:=hg.frozen 1;have z2:=hg.frozen 2;have o0:=ho.k0;have y0:=ho.frozen 0;have bV:=ho.aU hg D_;have hkg:=Bb.aU hg D_;have hko:=Bb.aU ho D_;have hmg:=h.aD hg;have hmo:=h.aD ho;have h1:=(((hg.al 0 (U_ uid)).al 1 (B_ fl)).al 2 (X_ A n c)).bL (p:=⟨ob,0,none⟩) (iX bV) (R_ q);have h2:=((ho.bL (p:=⟨g,0,none⟩) bV (U_ uid)).bL (p:=⟨g,1,none⟩) bV (B_ fl)).bL (p:=⟨g,2,none⟩) bV (X_ A n c);have p0:=h2.cell 0;have p1:=h2.frozen 0;have h3:=h2.al 0 (R_ q);have Py:=(((h.setCell (a:=⟨g,0,none⟩) hmg (U_ uid)).setCell (a:=⟨g,1,none⟩) hmg (B_ fl)).setCell (a:=⟨g,2,none⟩) hmg (X_ A n c)).setCell (a:=⟨ob,0,none⟩) hmo (R_ q)
 have fL:Fr (fun k=>k=mb\/k=g\/k=ob) w ((((w.setCell (C_ g 0) (U_ uid)).setCell (C_ g 1) (B_ fl)).setCell (C_ g 2) (X_ A n c)).setCell (C_ ob 0) (R_ q)):=
  ((((Fr.refl _ _).setCell (fun _=>.inr (.inl rfl)) _).setCell (fun _=>.inr (.inl rfl)) _).setCell (fun _=>.inr (.inl rfl)) _).setCell (fun _=>.inr (.inr rfl)) _
 have H1:=ac5 h1;have H3:=ac5 h3;have HM4:=ac5 Py;have HF4:=ac5 fL;clear h1 h2 h3 Py fL
 go_enter func245,ntmps245
 go_wp2_with (first
  |(at_delete;refine oL (E:=ei) rfl _ _ 136 238 rfl underlying136 HM4.out k hk rfl rfl ?_;intro w6 hm6 Ew)
  |fail)
 first|go_end0|(simp only [Exit.inBlock,Exit.then];refine r_ (G6 rfl _ _ _) rfl ?_)|refine r_ (G6 rfl _ _ _) rfl ?_
 exact⟨rfl,Ew.ai H1.out (iX hmg),Ew.ai H3.out (iX hmo),hm6,HF4.out.trans (cz Ew fun _ h=>.inl h)⟩
theorem Mk{w:World}{mb kb eb xb fb ob:Nat}{l:List (Int×Value)}{k mode f:Int}{o:Option MB}(h:HasMap ei w mb l) (hk:ei.ok k) (Bb:af w kb 28 #[U_ k]) (he:af w eb 198 #[I_ 0])
 (hx:af w xb 3 #[I_ mode]) (NU:af w fb 45 #[B_ f]) (hl:get l k=o.map MB.val) (hf:0<=f/\f<=255) (hm:(Lit.int .i64 mode).wf=true) (hw:∀x,o=some x->0<=x.m.fl/\x.m.fl<=255)
 (db:∀x,o=some x->JB x.m.fl mode f=none):
 H_ 247 #[.map (some mb),Q_ kb,Q_ eb,Q_ xb,Q_ fb,Q_ ob] w fun e w'=>e=.returned (.tuple #[])/\
  (af w' eb 198 #[I_ (if o.isSome then 2 else 7)]/\One eb w w'):=by
 have eN:=h.bD (t:=136) (e:=238) underlying136 (mU w) hk;have hnt:∀(x:Bool) (w:World),(Op.unary .not (R_ x)).run prog w=.ok (R_ (!x)) w:=fun _ _=>rfl
 change (Instr.lookup 136 (.map (some mb)) (U_ k) true).run prog w=_ at eN
 have ck:=Bb.k0;have hel:=he.lt;have Kn:=hx.lt;have qD:=NU.lt
 cases o with
 |none=>
  rw [show get l k=none from hl]at eN;simp only [ly,Bz]at eN;have e1:=fun cs=>(af.alloc he (G_ cs 238));have ec:=fun cs=>(e1 cs).cell 0;have ef:=fun cs=>(e1 cs).frozen 0;clear db hw hl
  go_enter func247,ntmps247
  go_wp2
  first|go_end0|(simp only [Exit.inBlock,Exit.then];refine r_ (G6 rfl _ _ _) rfl ?_)|refine r_ (G6 rfl _ _ _) rfl ?_
  exact⟨rfl,(he.al 0 _).alloc _,((One.refl _ _).set 0 _).alloc _⟩
 |some x=>
  rw [show get l k=some x.val from hl]at eN;simp only [ON,Yf]at eN;have Ko:=db x rfl;have cU:=hw x rfl;obtain⟨⟨uid,fl,body⟩,A,n,c⟩:=x;simp only [MB.val]at eN Ko cU;have HC:=ac5 (fun w=>vE fl mode f cU hf hm w);rw [Ko]at HC;simp only [ly,Bz]at HC;have cx:=hx.k0;have cf:=NU.k0;have br:ae w (W_ w #[U_ uid,B_ fl,X_ A n c] 238):=(ae.refl w).alloc _;have b1:=af.new w 238 #[U_ uid,B_ fl,X_ A n c];have e1:=br.ai he;clear db hw hl Ko
  go_enter func247,ntmps247
  go_wp2_with fail
  refine(HC.out _).mono ?_;rintro e w3 ⟨rfl,fu⟩;have b3:=fu.ai b1;have c3:=b3.cell 1;have f3:=b3.frozen 1;have e3:=fu.ai e1;have e4:=e3.bL (p:=⟨w.heap.size,1,none⟩) P_ (B_ 0);have ce:=e4.cell 0;have fe:=e4.frozen 0;have HF:=ac5 (br.trans fu);go_wp2
  first|go_end0|(simp only [Exit.inBlock,Exit.then];refine r_ (G6 rfl _ _ _) rfl ?_)|refine r_ (G6 rfl _ _ _) rfl ?_
  exact⟨rfl,e4.al 0 _,One.set (Fr.setCell (ae.to HF.out:One eb w w3) (p:=⟨w.heap.size,1,none⟩) (fun h=>absurd h S_) _) 0 _⟩
theorem Is{w:World}{mb kb eb xb fb ob:Nat}{l:List (Int×Value)}{k mode f v0 v:Int}{x:MB}(h:HasMap ei w mb l) (uL:l.length<maxLen) (hk:ei.ok k) (Bb:af w kb 28 #[U_ k])
 (hx:af w xb 3 #[I_ mode]) (NU:af w fb 45 #[B_ f]) (ho:af w ob 45 #[B_ v0]) (hl:get l k=some x.val) (hf:0<=f/\f<=255) (hm:(Lit.int .i64 mode).wf=true) (hw:0<=x.m.fl/\x.m.fl<=255)
 (hc:JB x.m.fl mode f=some v):
 H_ 247 #[.map (some mb),Q_ kb,Q_ eb,Q_ xb,Q_ fb,Q_ ob] w fun e w'=>e=.returned (.tuple #[])/\
  (af w' ob 45 #[B_ v]/\HasMap ei w' mb (put l k (x.Qp v).val)/\Fr (fun k=>k=mb\/k=ob) w w'):=by
 have eN:=h.bD (t:=136) (e:=238) underlying136 (mU w) hk;have hnt:∀(x:Bool) (w:World),(Op.unary .not (R_ x)).run prog w=.ok (R_ (!x)) w:=fun _ _=>rfl
 change (Instr.lookup 136 (.map (some mb)) (U_ k) true).run prog w=_ at eN
 rw [hl]at eN;simp only [ON,Yf]at eN;have ck:=Bb.k0;obtain⟨⟨uid,fl,body⟩,A,n,c⟩:=x;simp only [MB.val,MB.Qp]at eN hc hw⊢;have HC:=ac5 (fun w=>vE fl mode f hw hf hm w);rw [hc]at HC;simp only [ON,Yf]at HC;have cx:=hx.k0;have cf:=NU.k0;have dL:=Bb.lt;have Kn:=hx.lt;have qD:=NU.lt;have Te:=ho.lt;have gE:=h.lt;have hmo:=h.aD ho;have hmk:=h.aD Bb;have br:ae w (W_ w #[U_ uid,B_ fl,X_ A n c] 238):=(ae.refl w).alloc _;have b1:=af.new w 238 #[U_ uid,B_ fl,X_ A n c];have k1:=br.ai Bb;have o1:=br.ai ho;have H1:=ac5 (h.fr br id);clear hl hc
 go_enter func247,ntmps247
 go_wp2_with fail
 refine(HC.out _).mono ?_;rintro e w3 ⟨rfl,fu⟩;have b3:=fu.ai b1;have c3:=b3.cell 1;have f3:=b3.frozen 1;have k3:=(fu.ai k1).bL (p:=⟨w.heap.size,1,none⟩) P_ (B_ v);have o3:=(fu.ai o1).bL (p:=⟨w.heap.size,1,none⟩) P_ (B_ v);have b4:=b3.al 1 (B_ v);have HM:=ac5 ((H1.out.fr fu id).setCell (a:=⟨w.heap.size,1,none⟩) P_ (B_ v));have HF:=ac5 (Fr.setCell (p:=⟨w.heap.size,1,none⟩) (ae.to (br.trans fu):Fr (fun k=>k=mb\/k=ob) w w3) (fun h=>absurd h S_) (B_ v));go_wp2_with fail
 obtain⟨wq,ir⟩:∃wq,wq=w3.setCell (C_ w 1) (B_ v):=⟨_,rfl⟩;rw [<-ir]at k3 o3 b4 HM HF⊢;have Zm:=b4.lt;clear ir br fu b1 b3 k1 o1 H1 c3 f3;obtain⟨w5,Ml,S8,kW⟩:=(HM.out.fr (w':=wq.drew) ((ae.refl wq).drew) id).mP (t:=136) (e:=238) underlying136 uL hk (.agg #[U_ uid,B_ v,X_ A n c])
 change (Instr.mapUpdate 136 (.map (some mb)) (U_ k) (.agg #[U_ uid,B_ v,X_ A n c])).run prog wq.drew=_ at Ml
 have p0:L_ wq.drew w 0 (U_ uid):=b4.cell 0;have p1:L_ wq.drew w 1 (B_ v):=b4.cell 1;have p2:L_ wq.drew w 2 (X_ A n c):=b4.cell 2;have pk:L_ wq.drew kb 0 (U_ k):=k3.cell 0;have q1:=Fr.cell kW p1 P_;have q0:=Fr.cell kW p0 P_;have q2:=Fr.cell kW p2 P_;have qk:=Fr.cell kW pk P_;have o5:=kW.ai (o3.drew) P_;have r0:=o5.cell 0;have r1:=o5.frozen 0;go_region;go_wp2
 first|go_end0|(simp only [Exit.inBlock,Exit.then];refine r_ (G6 rfl _ _ _) rfl ?_)|refine r_ (G6 rfl _ _ _) rfl ?_
 exact⟨rfl,o5.al 0 _,S8.setCell P_ _,((HF.out.drew).trans (cz kW fun _ h=>.inl h)).setCell (fun _=>.inr rfl) _⟩
section
variable{base:Nat}{w w':World}{T:Tb}{X X':List MB}
theorem f_.nk (h:f_ base w T X) {i:Nat}(hi:i<T.n):T.q i<w.heap.size/\T.mb i<w.heap.size:=⟨(h.part i hi).lt,(h.map i hi).lt⟩
theorem f_.turn {S:Nat->Prop}(h:f_ base w T X) {i:Nat}(hi:i<T.n) (hf:Fr S w w') (hS:∀k,S k->k=T.q i\/k=T.mb i\/¬T.aB k)
 (hp:af w' (T.q i) 143 #[.int .i32 0,U_ 0,.map (some (T.mb i))]) (hm:HasMap ei w' (T.mb i) (lH T.n i X')) (he:∀j,j≠i->j<T.n->lH T.n j X'=lH T.n j X)
 (hb:∀x∈X',Own (ak .u8) 5 base w' x.bv x.m.body/\NZ T x) (nd:(X'.map fun x=>x.m.uid).Nodup) (ok:∀x∈X',x.m.ok/\x.m.body.length<=65536):f_ base w' T X':=by
 obtain⟨cs,AN,Tg⟩:=h.pt;have htq:=h.hd.aU (h.part i hi) D_;have htm:=iX ((h.map i hi).aD h.hd);have hpq:=AN.aU (h.part i hi) D_;have hpm:=iX ((h.map i hi).aD AN)
 have db:∀k,T.aB k->k≠T.q i->k≠T.mb i->¬S k:=fun k hk h1 h2 hs=>by
  rcases hS k hs with h3|h3|h3
  ·exact h1 h3
  ·exact h2 h3
  ·exact h3 hk
 refine⟨hf.ai h.hd (db _ h.Xe htq htm),h.n0,h.n1,h.nc,⟨cs,hf.ai AN (db _ h.rpb hpq hpm),Tg⟩,fun j hj=>?_,fun j hj=>?_,fun x hx=>(hb x hx).1,nd,ok,h.UW,h.UX,h.Xe,h.rpb,h.rq,h.rm,gy h.top hf.size,fun x hx=>(hb x hx).2,fun k hk=>fw (h.zt k hk) hf.size⟩
 ·by_cases g_:j=i
  ·subst g_;exact hp
  ·exact hf.ai (h.part j hj) (db _ (h.rq j hj) (fun e=>g_ (h.UW _ _ hj hi e)) (iX ((h.map i hi).aD (h.part j hj))))
 ·by_cases g_:j=i
  ·subst g_;exact hm
  ·rw [he j g_ hj];exact(h.map j hj).fr hf (db _ (h.rm j hj) ((h.map j hj).aD (h.part i hi)) (fun e=>g_ (h.UX _ _ hj hi e)))
theorem f_.after (h:f_ base w T X) {i:Nat}(hi:i<T.n) (hf:Fr (fun k=>k=T.q i\/k=T.mb i) w w')
 (hp:af w' (T.q i) 143 #[.int .i32 0,U_ 0,.map (some (T.mb i))]) (hm:HasMap ei w' (T.mb i) (lH T.n i X')) (he:∀j,j≠i->j<T.n->lH T.n j X'=lH T.n j X)
 (hb:∀x∈X',(Own (ak .u8) 5 base w x.bv x.m.body\/Own (ak .u8) 5 base w' x.bv x.m.body)/\NZ T x) (nd:(X'.map fun x=>x.m.uid).Nodup) (ok:∀x∈X',x.m.ok/\x.m.body.length<=65536):f_ base w' T X'/\Fr T.aB w w':=by
 refine⟨h.turn hi hf (fun k hk=>by rcases hk with hk|hk;exact .inl hk;exact .inr (.inl hk)) hp hm he (fun x hx=>?_) nd ok,cz hf fun k hk=>by rcases hk with rfl|rfl;exact h.rq i hi;exact h.rm i hi⟩;refine⟨?_,(hb x hx).2⟩;rcases(hb x hx).1 with h1|h1
 ·refine h1.fr hf fun b hb hs=>?_;obtain⟨cs,h2⟩:=h1.heap hb;rcases hs with rfl|rfl
  ·exact h2.aU (h.part i hi) D_ rfl
  ·exact(h.map i hi).aD h2 rfl
 ·exact h1
theorem f_.wU (h:f_ base w T X) (k:Int):∃i:Nat,k %(T.n:Int)=i/\i<T.n:=by
 have h1:=h.n0;have Xf:0<=k %(T.n:Int):=Kl _ O_;have lU:k %(T.n:Int)<T.n:=Km _ O_;exact⟨(k %(T.n:Int)).toNat,O_,O_⟩
theorem f_.ptr (h:f_ base w T X) {i:Nat}(hi:i<T.n):L_ w T.pb i (Q_ (T.q i)):=by
 obtain⟨cs,AN,Tg⟩:=h.pt;rw [AN.cell,Tg i hi]
theorem f_.len (_:f_ base w T X) (i:Nat):(lH T.n i X).length<=X.length:=by
 unfold lH;rw [D9];exact cR _ _
end
theorem qP{base:Nat}{w wq:World}{T:Tb}{X:List MB}(h:f_ base w T X) (br:ae w wq) {i:Nat}(hi:i<T.n) (fn:Nat) (cap:Array Value) (Q:List MB->World->Prop)
 (hE:∀args w,(callFunc fn args).run prog w=.ok (.enter fn args) w)
 (hf:H_ fn (#[.map (some (T.mb i))]++cap) (wq.setCell (C_ (T.q i) 0) (.int .i32 1)) fun e w2=>e=.returned (.tuple #[])/\∃X',HasMap ei w2 (T.mb i) (lH T.n i X')/\
   Fr (fun k=>k=T.mb i\/w.heap.size<=k) (wq.setCell (C_ (T.q i) 0) (.int .i32 1)) w2/\(∀x∈X',(Own (ak .u8) 5 base w x.bv x.m.body\/Own (ak .u8) 5 base w2 x.bv x.m.body)/\NZ T x)/\
   (∀j,j≠i->j<T.n->lH T.n j X'=lH T.n j X)/\(X'.map fun x=>x.m.uid).Nodup/\(∀x∈X',x.m.ok/\x.m.body.length<=65536)/\Q X' w2):
 H_ 191 #[Q_ (T.q i),.func (.func fn) #[] cap] wq fun e w'=>e=.returned (.tuple #[])/\∃X' w2,w'=w2.setCell (C_ (T.q i) 0) (.int .i32 0)/\Q X' w2/\f_ base w' T X'/\Fr T.aB w w':=by
 have hT:=h.new br;have hp:=hT.part i hi;have Th:=(h.nk hi).1;have BA:=(hT.map i hi).aD hp
 refine(Qt (T.q i) (T.mb i) fn cap (fun w2=>Fr (fun k=>k=T.mb i\/w.heap.size<=k) (wq.setCell (C_ (T.q i) 0) (.int .i32 1)) w2/\∃X',HasMap ei w2 (T.mb i) (lH T.n i X')/\
  (∀x∈X',(Own (ak .u8) 5 base w x.bv x.m.body\/Own (ak .u8) 5 base w2 x.bv x.m.body)/\NZ T x)/\
  (∀j,j≠i->j<T.n->lH T.n j X'=lH T.n j X)/\(X'.map fun x=>x.m.uid).Nodup/\(∀x∈X',x.m.ok/\x.m.body.length<=65536)/\Q X' w2) wq hp hE (hf.mono ?_) ?_).mono ?_
 ·rintro e w2 ⟨rfl,X',h1,h2,h3⟩;exact⟨rfl,h2,X',h1,h3⟩
 ·rintro w2 ⟨h2,_⟩;exact h2.ai (hp.al 0 _) (fun hs=>by rcases hs with hs|hs;exact BA hs.symm;omega)
 ·rintro e w' ⟨rfl,w2,⟨h2,X',h1,h3,h4,h5,h6,h7⟩,rfl⟩;have pP:af w2 (T.q i) 143 #[.int .i32 1,U_ 0,.map (some (T.mb i))]:=h2.ai (hp.al 0 _) (fun hs=>by rcases hs with hs|hs;exact BA hs.symm;omega)
  have hF:Fr (fun k=>k=T.q i\/k=T.mb i\/w.heap.size<=k) wq (w2.setCell (C_ (T.q i) 0) (.int .i32 0)):=
   Fr.setCell (Fr.trans (((Fr.refl _ _)).setCell (fun _=>.inl rfl) _) (cz h2 fun _ h=>.inr h)) (fun _=>.inl rfl) _
  have U0:Fr (fun k=>k=T.q i\/k=T.mb i) w (w2.setCell (C_ (T.q i) 0) (.int .i32 0)):=Fr.trans' (ae.to br) hF fun k hk hs=>by
   rcases hs with hs|hs|hs
   ·exact .inl hs
   ·exact .inr hs
   ·omega
  have hd:=h.after hi U0 (pP.al 0 _) (h1.setCell (a:=⟨T.q i,0,none⟩) BA _) h4 (fun x hx=>by
   refine⟨?_,(h3 x hx).2⟩;rcases(h3 x hx).1 with h8|h8
   ·exact .inl h8
   ·refine .inr (h8.fr (S:=fun k=>k=T.q i) ((Fr.refl (fun k=>k=T.q i) _).setCell (p:=⟨T.q i,0,none⟩) (fun _=>rfl) _) fun b hb hs=>?_);subst hs;obtain⟨cs,h9⟩:=h8.heap hb;exact pP.aU h9 D_ rfl) h5 h6
  exact⟨rfl,X',w2,rfl,h7,hd.1,hd.2⟩
theorem MB.wV {w:World}{x:MB}(h:Rd (ak .u8) w x.bv x.m.body):x.n=x.m.body.length:=by
 obtain⟨A',c',he,_⟩:=h;injection he
theorem U1{M:List bU}{m:bU}(h0:m.uid≠0) (h1:m.fl<=31) (h2:m.body.length<=65536):x_ M m=if(dY M m.uid).isSome then 8 else 0:=by
 unfold x_;rw [if_neg];rintro(h|h|h)
 ·exact h0 h
 ·omega
 ·omega
theorem It(b:Nat) (x:MB) (w:World) (hb:Rd (ak .u8) w x.bv x.m.body) (hc:x.m.uid=0\/31<x.m.fl\/65536<x.m.body.length):
 H_ 188 #[Q_ b,x.val] w fun e w'=>e=.returned (I_ 2)/\ae w w':=by
 obtain⟨⟨uid,fl,body⟩,A,n,c⟩:=x;have e2:n=body.length:=MB.wV hb;subst e2;simp only [MB.val]at hc⊢;by_cases h0:uid=0
 ·have d0:(uid==0)=true:=by simp [h0]
  clear hc h0
  go_enter func188,ntmps188
  go_wp2;go_ret;exact⟨rfl,(ae.refl w).alloc _⟩
 ·have d0:(uid==0)=false:=by simp [h0]
  by_cases h1:31<fl
  ·have d1:=k_ h1;clear hc h0 h1
   go_enter func188,ntmps188
   go_wp2;go_ret;exact⟨rfl,(ae.refl w).alloc _⟩
  ·have d1:=aP h1;have d2:decide ((65536:Int)<body.length)=true:=k_ O_;clear hc h0 h1
   go_enter func188,ntmps188
   go_wp2;go_ret;exact⟨rfl,(ae.refl w).alloc _⟩
theorem QE{base:Nat}{w:World}{T:Tb}{X:List MB}(h:f_ base w T X) (x y:MB) (hx:x.m.wf) (hb:Rd (ak .u8) w x.bv x.m.body)
 (h0:x.m.uid≠0) (h1:x.m.fl<=31) (h2:x.m.body.length<=65536) (hy:di X x.m.uid=some y):
 H_ 188 #[Q_ T.tb,x.val] w fun e w'=>e=.returned (I_ 8)/\(f_ base w' T X/\Fr T.aB w w'):=by
 obtain⟨i,hi,gR⟩:=h.wU x.m.uid;have fP:=qM T.n hi X;rw [hy]at fP;obtain⟨⟨uid,fl,body⟩,A,n,c⟩:=x;have e2:n=body.length:=MB.wV hb;subst e2;have HB:=ac5 hb;simp only [MB.val,bU.wf]at hx h0 h1 h2 fP hi⊢;have d0:(uid==0)=false:=by simp [h0]
 have d1:decide (31<fl)=false:=aP O_;have d2:decide ((65536:Int)<body.length)=false:=aP O_;have hmf:=atQ;have hE:=enters _ _ _ func239 K_ rfl;obtain⟨wq,ir⟩:∃wq,wq=(w.alloc (G_ #[U_ uid,B_ fl,X_ A body.length c] 238)).alloc (G_ #[I_ 0] 198):=⟨_,rfl⟩;have br:ae w wq:=by rw [ir];exact((ae.refl w).alloc _).alloc _
 have Zm:wq.heap.size=w.heap.size+2:=by rw [ir];simp
 have bg:af wq w 238 #[U_ uid,B_ fl,X_ A body.length c]:=by rw [ir];exact(af.new _ _ _).alloc _
 have be:af wq (w.heap.size+1) 198 #[I_ 0]:=by rw [ir];exact af.cD _ _ _ _
 have hT:=h.new br;have c0:=hT.hd.k0;have cg:=bg.k0;have cp:=hT.ptr gR;have hiI:(0:Int)<=(i:Int):=O_
 have Xi:(i:Int)<(T.n:Int):=O_
 have Th:=hT.nk gR;have Xj:=h.nk gR;have Cz:=ac5 ir
 go_enter func188,ntmps188
 go_wp2_with fail
 rw [<-Cz.out];clear Cz ir;have BA:=(hT.map i gR).aD (hT.part i gR);have Mm:=bg.aU (hT.part i gR) D_;have heq:=be.aU (hT.part i gR) D_;have dx:=Xg hx.1.1 hx.1.2
 have HD:Hid (H_ 191 #[Q_ (T.q i),.func (.func 239) #[] #[Q_ w,Q_ (w.heap.size+1)]] wq.drew fun e w'=>e=.returned (.tuple #[])/\(f_ base w' T X/\Fr T.aB w w')/\
  af w' w 238 #[U_ uid,B_ fl,X_ A body.length c]/\af w' (w.heap.size+1) 198 #[I_ 8]):=by
  refine(qP h (br.drew) gR 239 #[Q_ w,Q_ (w.heap.size+1)] (fun X' w2=>X'=X/\af w2 w 238 #[U_ uid,B_ fl,X_ A body.length c]/\af w2 (w.heap.size+1) 198 #[I_ 8]) hE ?_).mono ?_
  ·refine(QA (w:=wq.drew.setCell (C_ (T.q i) 0) (.int .i32 1)) (x:=⟨⟨uid,fl,body⟩,A,body.length,c⟩) (y:=y) ((hT.map i gR).drew.setCell (a:=⟨T.q i,0,none⟩) BA _) dx (bg.drew.bL (p:=⟨T.q i,0,none⟩) Mm _) (be.drew.bL (p:=⟨T.q i,0,none⟩) heq _) fP).mono ?_;rintro e w2 ⟨rfl,h5,h6⟩;exact⟨rfl,X,((hT.map i gR).drew.setCell (a:=⟨T.q i,0,none⟩) BA _).fr h6 O_,cz h6 fun _ h=>.inr O_,fun x hx=>⟨.inl (h.body x hx),h.bz x hx⟩,fun _ _ _=>rfl,h.nd,h.ok,rfl,h6.ai (bg.drew.bL (p:=⟨T.q i,0,none⟩) Mm _) O_,h5⟩
  ·rintro e w' ⟨rfl,X',w2,rfl,⟨rfl,h5,h6⟩,h7,h8⟩;exact⟨rfl,⟨h7,h8⟩,h5.bL (p:=⟨T.q i,0,none⟩) Mm _,h6.bL (p:=⟨T.q i,0,none⟩) heq _⟩
 go_region_held3 (fun w'=>L_ w' T.tb 0 (X_ (M_ T.pb) T.n T.c)/\L_ w' w 0 (U_ uid)/\L_ w' T.pb i (Q_ (T.q i))) (first|go_keep|(refine⟨?_,?_,?_⟩<;>assumption))
  ((first
    |(go_at_call 238
      refine(qO (hT.new N_) uid O_ O_).mono ?_;rw [hi];rintro e w3 ⟨rfl,rfl⟩)
    |(go_at_call 191
      refine HD.out.mono ?_;rintro e w4 ⟨rfl,px,h5,h6⟩;have k0:L_ w4 T.tb 0 (X_ (M_ T.pb) T.n T.c):=px.1.hd.cell 0;have k1:=h5.k0;have k2:=px.1.ptr gR;have k3:=h6.k0)
    |fail))
 all_goals
  go_wp2;go_ret;exact⟨rfl,px⟩
theorem QF{base:Nat}{w:World}{T:Tb}{X:List MB}(h:f_ base w T X) (iZ:base<=w.heap.size) (hX:X.length<=100000) (x:MB) (hx:x.m.wf) (hb:Rd (ak .u8) w x.bv x.m.body)
 (h0:x.m.uid≠0) (h1:x.m.fl<=31) (h2:x.m.body.length<=65536) (hy:di X x.m.uid=none):
 H_ 188 #[Q_ T.tb,x.val] w fun e w'=>e=.returned (I_ 0)/\∃y:MB,y.m=x.m/\(f_ base w' T (X++[y])/\Fr T.aB w w'):=by
 obtain⟨i,hi,gR⟩:=h.wU x.m.uid;have fP:=qM T.n hi X;rw [hy]at fP;obtain⟨⟨uid,fl,body⟩,A,n,c⟩:=x;have e2:n=body.length:=MB.wV hb;subst e2;have HB:=ac5 hb;simp only [MB.val,bU.wf]at hx h0 h1 h2 fP hi⊢;have d0:(uid==0)=false:=by simp [h0]
 have d1:decide (31<fl)=false:=aP O_;have d2:decide ((65536:Int)<body.length)=false:=aP O_;have hmf:=atQ;have hE:=enters _ _ _ func239 K_ rfl;obtain⟨wq,ir⟩:∃wq,wq=(w.alloc (G_ #[U_ uid,B_ fl,X_ A body.length c] 238)).alloc (G_ #[I_ 0] 198):=⟨_,rfl⟩;have br:ae w wq:=by rw [ir];exact((ae.refl w).alloc _).alloc _
 have Zm:wq.heap.size=w.heap.size+2:=by rw [ir];simp
 have bg:af wq w 238 #[U_ uid,B_ fl,X_ A body.length c]:=by rw [ir];exact(af.new _ _ _).alloc _
 have be:af wq (w.heap.size+1) 198 #[I_ 0]:=by rw [ir];exact af.cD _ _ _ _
 have hT:=h.new br;have c0:=hT.hd.k0;have cg:=bg.k0;have cp:=hT.ptr gR;have hiI:(0:Int)<=(i:Int):=O_
 have Xi:(i:Int)<(T.n:Int):=O_
 have Th:=hT.nk gR;have Xj:=h.nk gR;have Cz:=ac5 ir
 go_enter func188,ntmps188
 go_wp2_with fail
 rw [<-Cz.out];clear Cz ir;have BA:=(hT.map i gR).aD (hT.part i gR);have Mm:=bg.aU (hT.part i gR) D_;have heq:=be.aU (hT.part i gR) D_;have dx:=Xg hx.1.1 hx.1.2;have xS:=hx
 have gT:∀y:MB,y.m=⟨uid,fl,body⟩->((X++[y]).map fun x=>x.m.uid).Nodup:=fun y rI=>by
  rw [ta,Ar];refine⟨h.nd,S_,fun a ha b hb=>?_⟩;obtain⟨z,hz,rfl⟩:=List.mem_map.1 ha;simp at hb;rw [hb,rI];intro he;have:=List.find?_eq_none.1 hy z hz;simp at this;exact this he
 have hlen:=h.len i;have hga:get (lH T.n i X) uid=none:=fP
 have HD:Hid (H_ 191 #[Q_ (T.q i),.func (.func 239) #[] #[Q_ w,Q_ (w.heap.size+1)]] wq.drew fun e w'=>e=.returned (.tuple #[])/\(∃y:MB,y.m=⟨uid,fl,body⟩/\f_ base w' T (X++[y])/\Fr T.aB w w')/\
  af w' w 238 #[U_ uid,B_ fl,X_ A body.length c]/\af w' (w.heap.size+1) 198 #[I_ 0]):=by
  refine(qP h (br.drew) gR 239 #[Q_ w,Q_ (w.heap.size+1)] (fun X' w2=>(∃y:MB,y.m=⟨uid,fl,body⟩/\X'=X++[y])/\af w2 w 238 #[U_ uid,B_ fl,X_ A body.length c]/\af w2 (w.heap.size+1) 198 #[I_ 0]) hE ?_).mono ?_
  ·have hbq:Rd (ak .u8) (wq.drew.setCell (C_ (T.q i) 0) (.int .i32 1)) (X_ A body.length c) body:=by
    have h9:Rd (ak .u8) wq.drew (X_ A body.length c) body:=HB.out.new br.drew;obtain⟨A',c',he,rH,aF⟩:=h9
    cases he
    refine⟨A,c,rfl,rH,fun bV=>?_⟩;obtain⟨b,off,rfl,hc⟩:=aF bV;refine⟨b,off,rfl,fun i' x hx j u hu=>?_⟩;have sH:=hc i' x hx j u hu;rw [OW _ _ _ _ (fun e=>?_)]
    ·exact sH
    ·have e1:T.q i=b:=congrArg Addr.block e;have e2:(0:Nat)=off+(i'*(ak .u8).sz+j):=congrArg Addr.off e;have Mn:=(hT.part i gR).drew.cell 0;rw [<-e1,<-e2,Mn]at sH;simp at sH;have hj:j=0:=by have:=(List.getElem?_eq_some_iff.1 hu).1;simp [ak]at this;exact this
     subst hj;simp [ak]at hu;rw [<-hu]at sH
     cases sH
   refine(QB (w:=wq.drew.setCell (C_ (T.q i) 0) (.int .i32 1)) (x:=⟨⟨uid,fl,body⟩,A,body.length,c⟩) ((hT.map i gR).drew.setCell (a:=⟨T.q i,0,none⟩) BA _) dx (by unfold maxLen;omega) (bg.drew.bL (p:=⟨T.q i,0,none⟩) Mm _) (be.drew.bL (p:=⟨T.q i,0,none⟩) heq _) hbq (by show body.length<=100000;omega) hga).mono ?_;rintro e w2 ⟨rfl,y,rI,h5,h6,h7⟩;have eE:(wq.drew.setCell (C_ (T.q i) 0) (.int .i32 1)).heap.size=w.heap.size+2:=by simp [World.setCell];exact Zm
   refine⟨rfl,X++[y],?_,cz h7 fun _ h=>.inl h,fun x hx=>?_,fun j hj hjn=>?_,gT y rI,fun x hx=>?_,⟨y,rI,rfl⟩,h7.ai (bg.drew.bL (p:=⟨T.q i,0,none⟩) Mm _) O_,h7.ai (be.drew.bL (p:=⟨T.q i,0,none⟩) heq _) O_⟩
   ·rw [Ki,rI,if_pos hi];exact h5.perm (qL hga)
   ·rcases List.mem_append.1 hx with hx|hx
    ·exact⟨.inl (h.body x hx),h.bz x hx⟩
    ·simp at hx;subst hx;exact⟨.inr (h6.mono (by rw [eE];omega)),fun b hb hz=>by have:=(h6.block hb).1;have:=h.zt b hz;omega⟩
   ·rw [Ki,rI,if_neg];simp only;rw [hi];omega
   ·rcases List.mem_append.1 hx with hx|hx
    ·exact h.ok x hx
    ·simp at hx;subst hx;rw [rI];exact⟨⟨⟨by show 1<=uid;omega,xS.1.2⟩,⟨xS.2.1,h1⟩⟩,h2⟩
  ·rintro e w' ⟨rfl,X',w2,rfl,⟨⟨y,rI,rfl⟩,h5,h6⟩,h7,h8⟩;exact⟨rfl,⟨y,rI,h7,h8⟩,h5.bL (p:=⟨T.q i,0,none⟩) Mm _,h6.bL (p:=⟨T.q i,0,none⟩) heq _⟩
 go_region_held3 (fun w'=>L_ w' T.tb 0 (X_ (M_ T.pb) T.n T.c)/\L_ w' w 0 (U_ uid)/\L_ w' T.pb i (Q_ (T.q i))) (first|go_keep|(refine⟨?_,?_,?_⟩<;>assumption))
  ((first
    |(go_at_call 238
      refine(qO (hT.new N_) uid O_ O_).mono ?_;rw [hi];rintro e w3 ⟨rfl,rfl⟩)
    |(go_at_call 191
      refine HD.out.mono ?_;rintro e w4 ⟨rfl,⟨y,rI,px⟩,h5,h6⟩;have k0:L_ w4 T.tb 0 (X_ (M_ T.pb) T.n T.c):=px.1.hd.cell 0;have k1:=h5.k0;have k2:=px.1.ptr gR;have k3:=h6.k0)
    |fail))
 all_goals
  go_wp2;go_ret;exact⟨rfl,y,rI,px⟩
theorem BB{X:List MB}{k:Int}:(di X k).isSome=(dY (X.map MB.m) k).isSome:=by
 rw [ky];cases di X k<;>rfl
theorem QG{base:Nat}{w:World}{T:Tb}{X:List MB}(h:f_ base w T X) (iZ:base<=w.heap.size) (hX:X.length<=100000) (x:MB) (hx:x.m.wf) (hb:Rd (ak .u8) w x.bv x.m.body):
 H_ 188 #[Q_ T.tb,x.val] w fun e w'=>e=.returned (I_ (x_ (X.map MB.m) x.m))/\∃X',X'.map MB.m=Lf (X.map MB.m) x.m/\X'.length<=X.length+1/\f_ base w' T X'/\Fr T.aB w w':=by
 by_cases hc:x.m.uid=0\/31<x.m.fl\/65536<x.m.body.length
 ·have hp:x_ (X.map MB.m) x.m=2:=if_pos hc;refine(It T.tb x w hb hc).mono ?_;rintro e w' ⟨rfl,hn⟩;exact⟨by rw [hp],X,by unfold Lf;rw [hp];rfl,O_,h.new hn,ae.to hn⟩
 ·have h0:x.m.uid≠0:=fun e=>hc (.inl e);have h1:x.m.fl<=31:=by rcases zJ 31 x.m.fl with h|h;exact absurd (.inr (.inl h)) hc;exact h
  have h2:x.m.body.length<=65536:=by rcases GA 65536 x.m.body.length with h|h;exact absurd (.inr (.inr h)) hc;exact h
  have hp:=U1 (M:=X.map MB.m) h0 h1 h2;rw [<-BB]at hp
  cases hy:di X x.m.uid with
  |some y=>
   rw [hy]at hp;have hp:x_ (X.map MB.m) x.m=8:=hp;refine(QE h x y hx hb h0 h1 h2 hy).mono ?_;rintro e w' ⟨rfl,hn⟩;exact⟨by rw [hp],X,by unfold Lf;rw [hp];rfl,O_,hn⟩
  |none=>
   rw [hy]at hp;have hp:x_ (X.map MB.m) x.m=0:=hp;refine(QF h iZ hX x hx hb h0 h1 h2 hy).mono ?_;rintro e w' ⟨rfl,y,rI,hn⟩;exact⟨by rw [hp],X++[y],by unfold Lf;rw [hp,if_pos rfl,ta,JI,rI],S_,hn⟩
theorem BC{w:World}{g:Nat}{a b c:Value}(h:af w g 238 #[a,b,c]):(loadVar 238 (C_ g 0)).run prog w=.ok (.agg #[a,b,c]) w:=
 kV w g _ _ _ _ _ h underlying238 rfl K_
theorem Ex{w:World}{g:Nat}{a:Value}(h:af w g 4 #[a]):(loadVar 4 (C_ g 0)).run prog w=.ok a w:=
 cJ underlying4 rfl (h.cell 0)
theorem f_.found {base:Nat}{w:World}{T:Tb}{X:List MB}(h:f_ base w T X) (k:Int):Rd (ak .u8) w ((di X k).getD jS).bv ((di X k).getD jS).m.body/\((di X k).getD jS).m.body.length<=65536/\0<=((di X k).getD jS).m.fl/\((di X k).getD jS).m.fl<=31:=by
 cases hf:di X k with
 |none=>exact⟨Rd.nil (ak .u8) w,by simp [jS,rK],by simp [jS,rK],by simp [jS,rK]⟩
 |some x=>
  have hx:=(kz hf).1;have:=h.ok x hx;exact⟨(h.body x hx).rd,this.2,this.1.2.1,this.1.2.2⟩
theorem QH{base:Nat}{w:World}{T:Tb}{X:List MB}(h:f_ base w T X) (k:Int) (lV:0<=k) (eA:k<=4294967295):
 H_ 195 #[Q_ T.tb,U_ k] w fun e w'=>∃y:MB,e=.returned (.tuple #[y.val,R_ (di X k).isSome])/\y.m=((di X k).getD jS).m/\Own (ak .u8) 5 w.heap.size w' y.bv y.m.body/\(f_ base w' T X/\Fr T.aB w w'):=by
 obtain⟨i,hi,gR⟩:=h.wU k;have fP:=qM T.n hi X;have J5:=h.found k;have hmf:=atQ;have hE:=enters _ _ _ func246 K_ rfl;obtain⟨wq,ir⟩:∃wq,wq=((w.alloc (G_ #[U_ k] 28)).alloc (G_ #[U_ 0,B_ 0,Z_] 238)).alloc (G_ #[R_ false] 4):=⟨_,rfl⟩;have br:ae w wq:=by rw [ir];exact(((ae.refl w).alloc _).alloc _).alloc _
 have Zm:wq.heap.size=w.heap.size+3:=by rw [ir];simp
 have bk:af wq w 28 #[U_ k]:=by rw [ir];exact((af.new _ _ _).alloc _).alloc _
 have bg:af wq (w.heap.size+1) 238 #[U_ 0,B_ 0,Z_]:=by rw [ir];exact(af.cD _ _ _ _).alloc _
 have bo:af wq (w.heap.size+2) 4 #[R_ false]:=by rw [ir];exact af.OA _ _ _ _ _
 have hT:=h.new br;have c0:=hT.hd.k0;have cg:=bk.k0;have cp:=hT.ptr gR;have hiI:(0:Int)<=(i:Int):=O_
 have Xi:(i:Int)<(T.n:Int):=O_
 have Th:=hT.nk gR;have Xj:=h.nk gR;have BA:=(hT.map i gR).aD (hT.part i gR);have Ti:=bk.aU (hT.part i gR) D_;have Mm:=bg.aU (hT.part i gR) D_;have QI:=bo.aU (hT.part i gR) D_;have dx:=Xg lV eA;obtain⟨o,ho⟩:∃o,di X k=o:=⟨_,rfl⟩;rw [ho]at fP J5⊢;have U2:=ac5 (fun(w4:World) (h4:f_ base w4 T X)=>(by have:=(h4.found k).1;rw [ho]at this;exact this:Rd (ak .u8) w4 (o.getD jS).bv (o.getD jS).m.body));have Mh:=h.top
 have HD:Hid (H_ 191 #[Q_ (T.q i),.func (.func 246) #[] #[Q_ w,Q_ (w.heap.size+1),Q_ (w.heap.size+2)]] wq.drew fun e w'=>e=.returned (.tuple #[])/\(f_ base w' T X/\Fr T.aB w w')/\
  af w' w 28 #[U_ k]/\af w' (w.heap.size+1) 238 #[U_ (o.getD jS).m.uid,B_ (o.getD jS).m.fl,(o.getD jS).bv]/\af w' (w.heap.size+2) 4 #[R_ o.isSome]/\w.heap.size+3<=w'.heap.size):=by
  refine(qP h (br.drew) gR 246 #[Q_ w,Q_ (w.heap.size+1),Q_ (w.heap.size+2)]
   (fun X' w2=>X'=X/\af w2 w 28 #[U_ k]/\af w2 (w.heap.size+1) 238 #[U_ (o.getD jS).m.uid,B_ (o.getD jS).m.fl,(o.getD jS).bv]/\af w2 (w.heap.size+2) 4 #[R_ o.isSome]/\w.heap.size+3<=w2.heap.size) hE ?_).mono ?_
  ·have lU:=(hT.map i gR).drew.setCell (a:=⟨T.q i,0,none⟩) BA (.int .i32 1);have eE:(wq.drew.setCell (C_ (T.q i) 0) (.int .i32 1)).heap.size=w.heap.size+3:=by simp [World.setCell];exact Zm
   refine(QD (w:=wq.drew.setCell (C_ (T.q i) 0) (.int .i32 1)) lU dx (bk.drew.bL (p:=⟨T.q i,0,none⟩) Ti _) (bg.drew.bL (p:=⟨T.q i,0,none⟩) Mm _) rfl (bo.drew.bL (p:=⟨T.q i,0,none⟩) QI _) fP).mono ?_;rintro e w2 ⟨rfl,h5,h6,h7⟩;exact⟨rfl,X,lU.fr h7 O_,cz h7 fun _ h=>.inr O_,fun x hx=>⟨.inl (h.body x hx),h.bz x hx⟩,fun _ _ _=>rfl,h.nd,h.ok,rfl,h7.ai (bk.drew.bL (p:=⟨T.q i,0,none⟩) Ti _) O_,h5,h6,by rw [<-eE];exact h7.size⟩
  ·rintro e w' ⟨rfl,X',w2,rfl,⟨rfl,h5,h6,h6',h6s⟩,h7,h8⟩;exact⟨rfl,⟨h7,h8⟩,h5.bL (p:=⟨T.q i,0,none⟩) Ti _,h6.bL (p:=⟨T.q i,0,none⟩) Mm _,h6'.bL (p:=⟨T.q i,0,none⟩) QI _,by simpa [World.setCell]using h6s⟩
 generalize o.getD jS=x at*;generalize o.isSome=q at*;obtain⟨⟨uid,fl,body⟩,A,n,c⟩:=x;simp only [MB.bv]at J5 HD U2⊢;have Cz:=ac5 ir;clear fP
 go_enter func195,ntmps195
 go_wp2_with fail
 rw [<-Cz.out];clear Cz ir
 go_region_held3 (fun w'=>L_ w' T.tb 0 (X_ (M_ T.pb) T.n T.c)/\L_ w' w 0 (U_ k)/\L_ w' T.pb i (Q_ (T.q i))) (first|go_keep|(refine⟨?_,?_,?_⟩<;>assumption))
  ((first
    |(go_at_call 238
      refine(qO (hT.new N_) k O_ O_).mono ?_;rw [hi];rintro e w3 ⟨rfl,rfl⟩)
    |(go_at_call 191
      refine HD.out.mono ?_;rintro e w4 ⟨rfl,px,h5,h6,h7,h7s⟩;have k0:L_ w4 T.tb 0 (X_ (M_ T.pb) T.n T.c):=px.1.hd.cell 0;have k1:=h5.k0;have k2:=px.1.ptr gR)
    |fail))
 all_goals
  clear cg c0 cp HD k0 k1 k2;have g0:L_ w4.drew (w.heap.size+1) 0 (U_ uid):=h6.cell 0;have g1:L_ w4.drew (w.heap.size+1) 1 (B_ fl):=h6.cell 1;have g2:L_ w4.drew (w.heap.size+1) 2 (X_ A n c):=h6.cell 2;have o0:L_ w4.drew (w.heap.size+1+1) 0 (R_ q):=h7.cell 0;have ez:=U2.out _ px.1.drew;have DN:=ac5 ez;have HBL:=ac5 J5.2.1;clear J5 ez;go_wp2_with fail
  go_region_with ((first
   |(go_at_call 240
     refine(vL ⟨⟨uid,fl,body⟩,A,n,c⟩ _ DN.out (by have:=HBL.out;show body.length<=100000;omega)).mono ?_;rintro e w5 ⟨⟨⟨eB,km,Xh⟩,A',n',c'⟩,rfl,rI,QJ,Uw⟩;simp only [MB.bv,MB.val]at rI QJ⊢;have b6:=Uw.ai h6.drew;have b7:=Uw.ai h7.drew;have p0:=b6.cell 0;have p1:=b6.cell 1;have p2:=b6.cell 2;have z0:=b6.frozen 0;have z1:=b6.frozen 1;have z2:=b6.frozen 2;have p3:L_ w5 (w.heap.size+1+1) 0 (R_ q):=b7.cell 0;have z3:w5.frozen? (C_ (w.heap.size+1+1) 0)=false:=b7.frozen 0)
   |fail))
 all_goals
  go_wp2
  have hF:Fr (fun k=>k=w.heap.size+1\/k=w.heap.size+2) w5 ((((w5.setCell (C_ (w.heap.size+1) 0) (U_ eB)).setCell (C_ (w.heap.size+1) 1) (B_ km)).setCell (C_ (w.heap.size+1) 2) (X_ A' n' c')).setCell (C_ (w.heap.size+1+1) 0) (R_ q)):=
   ((((Fr.refl _ _).setCell (fun _=>.inl rfl) _).setCell (fun _=>.inl rfl) _).setCell (fun _=>.inl rfl) _).setCell (fun _=>.inr rfl) _
  have e6:af ((((w5.setCell (C_ (w.heap.size+1) 0) (U_ eB)).setCell (C_ (w.heap.size+1) 1) (B_ km)).setCell (C_ (w.heap.size+1) 2) (X_ A' n' c')).setCell (C_ (w.heap.size+1+1) 0) (R_ q)) (w.heap.size+1) 238 #[U_ eB,B_ km,X_ A' n' c']:=
   (((b6.al 0 _).al 1 _).al 2 _).bL S_ _
  have e7:af ((((w5.setCell (C_ (w.heap.size+1) 0) (U_ eB)).setCell (C_ (w.heap.size+1) 1) (B_ km)).setCell (C_ (w.heap.size+1) 2) (X_ A' n' c')).setCell (C_ (w.heap.size+1+1) 0) (R_ q)) (w.heap.size+1+1) 4 #[R_ q]:=
   (((b7.bL S_ _).bL S_ _).bL S_ _).al 0 _
  have hT5:=px.1.drew.new Uw;have ud:=fun b hb=>(QJ.block (b:=b) hb).1;refine r_ (jC rfl _ _ rfl rfl (BC e6) (Ex e7)) rfl ?_;refine⟨⟨⟨eB,km,Xh⟩,A',n',c'⟩,rfl,rI,(QJ.fr hF fun b hb hs=>?_).mono (by show w.heap.size<=w4.heap.size;omega),hT5.fr hF (fun k hk mv=>?_) (fun v l hv b hb hs=>?_),Fr.trans' px.2 (Fr.trans' (ae.to (Fr.trans ((ae.refl w4).drew) Uw)) hF fun _ _ h=>h) (fun k hk hs=>?_)⟩
  ·have h1:=ud b hb;have h2:w4.drew.heap.size=w4.heap.size:=rfl;rcases hs with rfl|rfl<;>omega
  ·have h1:=mv.2;rcases hk with rfl|rfl<;>omega
  ·obtain⟨cs,h1⟩:=hv.heap hb;rcases hs with rfl|rfl
   ·exact h1.aU b6 D_ rfl
   ·exact h1.aU b7 D_ rfl
  ·rcases hs with rfl|rfl<;>omega
theorem Ey{base:Nat}{w:World}{T:Tb}{X:List MB}(h:f_ base w T X) (dH:T.hi<=base) (k:Int) (lV:0<=k) (eA:k<=4294967295):
 H_ 193 #[Q_ T.tb,U_ k] w fun e w'=>e=.returned (.tuple #[((di X k).getD jS).val,R_ (di X k).isSome])/\Rd (ak .u8) w' ((di X k).getD jS).bv ((di X k).getD jS).m.body/\(f_ base w' T (um X k)/\Fr T.aB w w'):=by
 obtain⟨i,hi,gR⟩:=h.wU k;have fP:=qM T.n hi X;have J5:=h.found k;have hmf:=atQ;have hE:=enters _ _ _ func245 K_ rfl;obtain⟨wq,ir⟩:∃wq,wq=((w.alloc (G_ #[U_ k] 28)).alloc (G_ #[U_ 0,B_ 0,Z_] 238)).alloc (G_ #[R_ false] 4):=⟨_,rfl⟩;have br:ae w wq:=by rw [ir];exact(((ae.refl w).alloc _).alloc _).alloc _
 have Zm:wq.heap.size=w.heap.size+3:=by rw [ir];simp
 have bk:af wq w 28 #[U_ k]:=by rw [ir];exact((af.new _ _ _).alloc _).alloc _
 have bg:af wq (w.heap.size+1) 238 #[U_ 0,B_ 0,Z_]:=by rw [ir];exact(af.cD _ _ _ _).alloc _
 have bo:af wq (w.heap.size+2) 4 #[R_ false]:=by rw [ir];exact af.OA _ _ _ _ _
 have hT:=h.new br;have c0:=hT.hd.k0;have cg:=bk.k0;have cp:=hT.ptr gR;have hiI:(0:Int)<=(i:Int):=O_
 have Xi:(i:Int)<(T.n:Int):=O_
 have Th:=hT.nk gR;have Xj:=h.nk gR;have BA:=(hT.map i gR).aD (hT.part i gR);have Ti:=bk.aU (hT.part i gR) D_;have Mm:=bg.aU (hT.part i gR) D_;have QI:=bo.aU (hT.part i gR) D_;have dx:=Xg lV eA;obtain⟨o,ho⟩:∃o,di X k=o:=⟨_,rfl⟩;rw [ho]at fP J5⊢
 have U2:=ac5 (fun(w4:World) (h4:Fr T.aB w w4)=>(by
  cases o with
  |none=>exact Rd.nil (ak .u8) w4
  |some x=>exact((h.body x (kz ho).1).fr h4 (fun b hb hs=>by have:=((h.body x (kz ho).1).block hb).1;have:=hs.2;omega)).rd:Rd (ak .u8) w4 (o.getD jS).bv (o.getD jS).m.body))
 have Mh:=h.top;have gT:((um X k).map fun x=>x.m.uid).Nodup:=h.nd.sublist (J8 _ Wi);have sI:∀x∈um X k,x∈X:=fun x hx=>(List.mem_filter.1 hx).1
 have Ez:∀j,j≠i->j<T.n->lH T.n j (um X k)=lH T.n j X:=fun j hj hjn=>by
  rw [Kj];unfold del;rw [Xd];intro p hp;have:=Mj T.n (i:=j) (X:=X) (k:=k) (by rw [hi];omega) p hp;simpa using this
 have HD:Hid (H_ 191 #[Q_ (T.q i),.func (.func 245) #[] #[Q_ w,Q_ (w.heap.size+1),Q_ (w.heap.size+2)]] wq.drew fun e w'=>e=.returned (.tuple #[])/\(f_ base w' T (um X k)/\Fr T.aB w w')/\
  af w' w 28 #[U_ k]/\af w' (w.heap.size+1) 238 #[U_ (o.getD jS).m.uid,B_ (o.getD jS).m.fl,(o.getD jS).bv]/\af w' (w.heap.size+2) 4 #[R_ o.isSome]/\w.heap.size+3<=w'.heap.size):=by
  refine(qP h (br.drew) gR 245 #[Q_ w,Q_ (w.heap.size+1),Q_ (w.heap.size+2)]
   (fun X' w2=>X'=um X k/\af w2 w 28 #[U_ k]/\af w2 (w.heap.size+1) 238 #[U_ (o.getD jS).m.uid,B_ (o.getD jS).m.fl,(o.getD jS).bv]/\af w2 (w.heap.size+2) 4 #[R_ o.isSome]/\w.heap.size+3<=w2.heap.size) hE ?_).mono ?_
  ·have lU:=(hT.map i gR).drew.setCell (a:=⟨T.q i,0,none⟩) BA (.int .i32 1);have eE:(wq.drew.setCell (C_ (T.q i) 0) (.int .i32 1)).heap.size=w.heap.size+3:=by simp [World.setCell];exact Zm
   refine(Eu (w:=wq.drew.setCell (C_ (T.q i) 0) (.int .i32 1)) lU dx (bk.drew.bL (p:=⟨T.q i,0,none⟩) Ti _) (bg.drew.bL (p:=⟨T.q i,0,none⟩) Mm _) rfl (bo.drew.bL (p:=⟨T.q i,0,none⟩) QI _) fP).mono ?_;rintro e w2 ⟨rfl,h5,h6,h7m,h7⟩;exact⟨rfl,um X k,by rw [Kj];exact h7m,cz h7 fun _ h=>by rcases h with h|h|h;exact .inl h;exact .inr O_;exact .inr O_,fun x hx=>⟨.inl (h.body x (sI x hx)),h.bz x (sI x hx)⟩,Ez,gT,fun x hx=>h.ok x (sI x hx),rfl,h7.ai (bk.drew.bL (p:=⟨T.q i,0,none⟩) Ti _) O_,h5,h6,by rw [<-eE];exact h7.size⟩
  ·rintro e w' ⟨rfl,X',w2,rfl,⟨rfl,h5,h6,h6',h6s⟩,h7,h8⟩;exact⟨rfl,⟨h7,h8⟩,h5.bL (p:=⟨T.q i,0,none⟩) Ti _,h6.bL (p:=⟨T.q i,0,none⟩) Mm _,h6'.bL (p:=⟨T.q i,0,none⟩) QI _,by simpa [World.setCell]using h6s⟩
 generalize o.getD jS=x at*;generalize o.isSome=q at*;obtain⟨⟨uid,fl,body⟩,A,n,c⟩:=x;simp only [MB.bv]at J5 HD U2⊢;have Cz:=ac5 ir;clear fP
 go_enter func193,ntmps193
 go_wp2_with fail
 rw [<-Cz.out];clear Cz ir
 go_region_held3 (fun w'=>L_ w' T.tb 0 (X_ (M_ T.pb) T.n T.c)/\L_ w' w 0 (U_ k)/\L_ w' T.pb i (Q_ (T.q i))) (first|go_keep|(refine⟨?_,?_,?_⟩<;>assumption))
  ((first
    |(go_at_call 238
      refine(qO (hT.new N_) k O_ O_).mono ?_;rw [hi];rintro e w3 ⟨rfl,rfl⟩)
    |(go_at_call 191
      refine HD.out.mono ?_;rintro e w4 ⟨rfl,px,h5,h6,h7,h7s⟩;have k0:L_ w4 T.tb 0 (X_ (M_ T.pb) T.n T.c):=px.1.hd.cell 0;have k1:=h5.k0;have k2:=px.1.ptr gR)
    |fail))
 all_goals
  clear cg c0 cp HD k0 k1 k2;have g0:L_ w4.drew (w.heap.size+1) 0 (U_ uid):=h6.cell 0;have g1:L_ w4.drew (w.heap.size+1) 1 (B_ fl):=h6.cell 1;have g2:L_ w4.drew (w.heap.size+1) 2 (X_ A n c):=h6.cell 2;have o0:L_ w4.drew (w.heap.size+1+1) 0 (R_ q):=h7.cell 0;have y0:w4.drew.frozen? (C_ (w.heap.size+1) 0)=false:=h6.frozen 0;have y1:w4.drew.frozen? (C_ (w.heap.size+1) 1)=false:=h6.frozen 1;have y2:w4.drew.frozen? (C_ (w.heap.size+1) 2)=false:=h6.frozen 2;have y3:w4.drew.frozen? (C_ (w.heap.size+1+1) 0)=false:=h7.frozen 0;have g0':=h6.k0;have g1':=h6.k1;have g2':=h6.k2;have o0':L_ w4 (w.heap.size+1+1) 0 (R_ q):=h7.cell 0;have y0':=h6.frozen 0;have y1':=h6.frozen 1;have y2':=h6.frozen 2;have y3':w4.frozen? (C_ (w.heap.size+1+1) 0)=false:=h7.frozen 0;go_wp2_with fail
  go_region
 all_goals
  go_wp2
  have hF:Fr (fun k=>k=w.heap.size+1\/k=w.heap.size+2) w4 (((((w4.setCell (C_ (w.heap.size+1) 0) (U_ uid)).setCell (C_ (w.heap.size+1) 1) (B_ fl)).setCell (C_ (w.heap.size+1) 2) (X_ A n c)).setCell (C_ (w.heap.size+1+1) 0) (R_ q)).drew):=
   (((((Fr.refl _ _).setCell (fun _=>.inl rfl) _).setCell (fun _=>.inl rfl) _).setCell (fun _=>.inl rfl) _).setCell (fun _=>.inr rfl) _).drew
  have e6:af (((((w4.setCell (C_ (w.heap.size+1) 0) (U_ uid)).setCell (C_ (w.heap.size+1) 1) (B_ fl)).setCell (C_ (w.heap.size+1) 2) (X_ A n c)).setCell (C_ (w.heap.size+1+1) 0) (R_ q)).drew) (w.heap.size+1) 238 #[U_ uid,B_ fl,X_ A n c]:=
   ((((h6.al 0 _).al 1 _).al 2 _).bL S_ _).drew
  have e7:af (((((w4.setCell (C_ (w.heap.size+1) 0) (U_ uid)).setCell (C_ (w.heap.size+1) 1) (B_ fl)).setCell (C_ (w.heap.size+1) 2) (X_ A n c)).setCell (C_ (w.heap.size+1+1) 0) (R_ q)).drew) (w.heap.size+1+1) 4 #[R_ q]:=
   ((((h7.bL S_ _).bL S_ _).bL S_ _).al 0 _).drew
  have U0:=Fr.trans' px.2 hF (fun k hk hs=>by rcases hs with rfl|rfl<;>omega);refine r_ (jC rfl _ _ rfl rfl (BC e6) (Ex e7)) rfl ?_;refine⟨rfl,U2.out _ U0,px.1.fr hF (fun k hk mv=>?_) (fun v l hv b hb hs=>?_),U0⟩
  ·have h1:=mv.2;rcases hk with rfl|rfl<;>omega
  ·obtain⟨cs,h1⟩:=hv.heap hb;rcases hs with rfl|rfl
   ·exact h1.aU h6 D_ rfl
   ·exact h1.aU h7 D_ rfl
theorem af.adR (w:World) (o o' Xk:Obj) (t:TypeId) (cs:Array Value):af ((((w.alloc o).alloc o').alloc Xk).alloc (G_ cs t)) (w.heap.size+3) t cs:=by
 have h:=af.OA (w.alloc o) o' Xk t cs
 rwa [gz]at h
theorem af.ajm (w:World) (o o' Xk o3:Obj) (t:TypeId) (cs:Array Value):af (((((w.alloc o).alloc o').alloc Xk).alloc o3).alloc (G_ cs t)) (w.heap.size+4) t cs:=by
 have h:=af.adR (w.alloc o) o' Xk o3 t cs
 rwa [gz]at h
theorem Mo{w:World}{g:Nat}{a:Value}(h:af w g 45 #[a]):(loadVar 45 (C_ g 0)).run prog w=.ok a w:=
 cJ underlying45 rfl (h.cell 0)
theorem QK{w:World}{g:Nat}{a:Value}(h:af w g 198 #[a]):(loadVar 198 (C_ g 0)).run prog w=.ok a w:=
 cJ underlying198 rfl (h.cell 0)
abbrev flW(w:World) (k mode f e:Int):World:=((((w.alloc (G_ #[U_ k] 28)).alloc (G_ #[I_ mode] 3)).alloc (G_ #[B_ f] 45)).alloc (G_ #[B_ 0] 45)).alloc (G_ #[I_ e] 198)
theorem Iu{base:Nat}{w:World}{T:Tb}{X:List MB}(h:f_ base w T X) (hX:X.length<=100000) (k mode f:Int) (lV:0<=k) (eA:k<=4294967295) (hf:0<=f/\f<=255) (hm:(Lit.int .i64 mode).wf=true):
 H_ 196 #[Q_ T.tb,U_ k,I_ mode,B_ f] w fun e w'=>e=.returned (.tuple #[B_ (flX (X.map MB.m) k mode f),I_ (JC (X.map MB.m) k mode f)])/\
  ∃X',X'.map MB.m=JD (X.map MB.m) k mode f/\X'.length=X.length/\f_ base w' T X'/\Fr T.aB w w':=by
 obtain⟨i,hi,gR⟩:=h.wU k;have fP:=qM T.n hi X;have hmf:=atQ;have hE:=enters _ _ _ func247 K_ rfl;obtain⟨wq,ir⟩:∃wq,wq=flW w k mode f 0:=⟨_,rfl⟩;have br:ae w wq:=by rw [ir];exact(((((ae.refl w).alloc _).alloc _).alloc _).alloc _).alloc _
 have Zm:wq.heap.size=w.heap.size+5:=by rw [ir];simp
 have bk:af wq w 28 #[U_ k]:=by rw [ir];exact((((af.new _ _ _).alloc _).alloc _).alloc _).alloc _
 have bm:af wq (w.heap.size+1) 3 #[I_ mode]:=by rw [ir];exact(((af.cD _ _ _ _).alloc _).alloc _).alloc _
 have bf:af wq (w.heap.size+2) 45 #[B_ f]:=by rw [ir];exact((af.OA _ _ _ _ _).alloc _).alloc _
 have bo:af wq (w.heap.size+3) 45 #[B_ 0]:=by rw [ir];exact(af.adR _ _ _ _ _ _).alloc _
 have be:af wq (w.heap.size+4) 198 #[I_ 0]:=by rw [ir];exact af.ajm _ _ _ _ _ _ _
 have hT:=h.new br;have c0:=hT.hd.k0;have cg:=bk.k0;have cp:=hT.ptr gR;have hiI:(0:Int)<=(i:Int):=O_
 have Xi:(i:Int)<(T.n:Int):=O_
 have Th:=hT.nk gR;have Xj:=h.nk gR;have Mh:=h.top;have BA:=(hT.map i gR).aD (hT.part i gR);have Ti:=bk.aU (hT.part i gR) D_;have ajn:=bm.aU (hT.part i gR) D_;have hfq:=bf.aU (hT.part i gR) D_;have QI:=bo.aU (hT.part i gR) D_;have heq:=be.aU (hT.part i gR) D_;have dx:=Xg lV eA;have hlen:=h.len i;have lU:=(hT.map i gR).drew.setCell (a:=⟨T.q i,0,none⟩) BA (.int .i32 1);have eE:(wq.drew.setCell (C_ (T.q i) 0) (.int .i32 1)).heap.size=w.heap.size+5:=by simp [World.setCell];exact Zm
 have bk1:=bk.drew.bL (p:=⟨T.q i,0,none⟩) Ti (.int .i32 1);have bm1:=bm.drew.bL (p:=⟨T.q i,0,none⟩) ajn (.int .i32 1);have bf1:=bf.drew.bL (p:=⟨T.q i,0,none⟩) hfq (.int .i32 1);have bo1:=bo.drew.bL (p:=⟨T.q i,0,none⟩) QI (.int .i32 1);have be1:=be.drew.bL (p:=⟨T.q i,0,none⟩) heq (.int .i32 1)
 have HD:Hid (H_ 191 #[Q_ (T.q i),.func (.func 247) #[] #[Q_ w,Q_ (w.heap.size+4),Q_ (w.heap.size+1),Q_ (w.heap.size+2),Q_ (w.heap.size+3)]] wq.drew fun e w'=>e=.returned (.tuple #[])/\
  (∃X',X'.map MB.m=JD (X.map MB.m) k mode f/\X'.length=X.length/\f_ base w' T X'/\Fr T.aB w w')/\
  af w' w 28 #[U_ k]/\af w' (w.heap.size+3) 45 #[B_ (flX (X.map MB.m) k mode f)]/\af w' (w.heap.size+4) 198 #[I_ (JC (X.map MB.m) k mode f)]):=by
  refine(qP h (br.drew) gR 247 #[Q_ w,Q_ (w.heap.size+4),Q_ (w.heap.size+1),Q_ (w.heap.size+2),Q_ (w.heap.size+3)]
   (fun X' w2=>(X'.map MB.m=JD (X.map MB.m) k mode f/\X'.length=X.length)/\af w2 w 28 #[U_ k]/\af w2 (w.heap.size+3) 45 #[B_ (flX (X.map MB.m) k mode f)]/\af w2 (w.heap.size+4) 198 #[I_ (JC (X.map MB.m) k mode f)]) hE ?_).mono ?_
  ·by_cases adT:∃x v,di X k=some x/\JB x.m.fl mode f=some v
   ·obtain⟨x,v,hx,hv⟩:=adT;have zK:=kz hx;have Gf:=(h.ok x zK.1).1.2;have UT:=Ot hv hf.1;have hfm:dY (X.map MB.m) k=some x.m:=by rw [ky,hx];rfl
    have e1:flX (X.map MB.m) k mode f=v:=by unfold flX;rw [hfm];simp [hv]
    have e2:JC (X.map MB.m) k mode f=0:=by unfold JC;rw [hfm];simp [hv]
    have e3:JD (X.map MB.m) k mode f=Gt (X.map MB.m) k v:=by unfold JD;rw [e2,if_pos rfl,e1]
    have huq:∀y∈X,y.m.uid=k->y=x:=fun y hy he=>by
     have h1:=pW (M:=X.map MB.m) (by rw [JJ];exact h.nd) (List.mem_map.2 ⟨y,hy,rfl⟩);obtain⟨a,ha⟩:=List.mem_iff_getElem?.1 hy;obtain⟨b,hb⟩:=List.mem_iff_getElem?.1 zK.1;have h2:(X.map fun x=>x.m.uid)[a]? =(X.map fun x=>x.m.uid)[b]? :=by rw [OX,OX,ha,hb];simp [he,zK.2]
     have h3:=(gl (by rw [D9];exact(List.getElem?_eq_some_iff.1 ha).1) h.nd).1 h2;subst h3;rw [ha]at hb
     cases hb
     rfl
    have Xl:∀y∈uo X k v,∃z∈X,y.bv=z.bv/\y.m.body=z.m.body/\y.m.uid=z.m.uid/\(y.m.fl=z.m.fl\/y.m.fl=v):=fun y hy=>by
     unfold uo at hy;obtain⟨z,hz,rfl⟩:=List.mem_map.1 hy;refine⟨z,hz,?_⟩;by_cases hzk:z.m.uid=k
     ·rw [if_pos hzk];exact⟨rfl,rfl,rfl,.inr rfl⟩
     ·rw [if_neg hzk];exact⟨rfl,rfl,rfl,.inl rfl⟩
    have gT:((uo X k v).map fun x=>x.m.uid)=X.map fun x=>x.m.uid:=by
     unfold uo;rw [JJ];refine eR fun z _=>?_;simp only [Function.comp]
     split<;>rfl
    refine(Is (w:=wq.drew.setCell (C_ (T.q i) 0) (.int .i32 1)) (eb:=w.heap.size+4) lU (by unfold maxLen;omega) dx bk1 bm1 bf1 bo1 (by rw [fP,hx];rfl) hf hm ⟨Gf.1,O_⟩ hv).mono ?_;rintro e w2 ⟨rfl,h5,h6,h7⟩;refine⟨rfl,uo X k v,?_,cz h7 fun _ h=>by rcases h with h|h;exact .inl h;exact .inr O_,fun y hy=>?_,fun j hj hjn=>yD (by rw [hi];omega) v X,by rw [gT];exact h.nd,fun y hy=>?_,⟨by rw [e3,Qr],by unfold uo;simp⟩,h7.ai bk1 O_,by rw [e1];exact h5,by rw [e2];exact h7.ai be1 O_⟩
    ·rw [UU X huq];refine h6.perm (By (v0:=x.val) lU.nd ?_);rw [fP,hx];rfl
    ·obtain⟨z,hz,e4,e5,_⟩:=Xl y hy;have e8:NZ T y:=fun b hb=>h.bz z hz b (e4▸hb);rw [e4,e5];exact⟨.inl (h.body z hz),e8⟩
    ·obtain⟨z,hz,e4,e5,e6,e7⟩:=Xl y hy;have h8:=h.ok z hz;refine⟨⟨by rw [e6];exact h8.1.1,?_⟩,by rw [e5];exact h8.2⟩;rcases e7 with e7|e7
     ·rw [e7];exact h8.1.2
     ·rw [e7];exact UT
   ·have db:∀x,di X k=some x->JB x.m.fl mode f=none:=fun x hx=>by
     cases hc:JB x.m.fl mode f with
     |none=>rfl
     |some v=>exact absurd ⟨x,v,hx,hc⟩ adT
    have gQ:∀x,di X k=some x->0<=x.m.fl/\x.m.fl<=255:=fun x hx=>by
     have:=(h.ok x (kz hx).1).1.2;omega
    have e1:flX (X.map MB.m) k mode f=0:=by
     unfold flX;rw [ky]
     cases hx:di X k with
     |none=>rfl
     |some x=>simp [db x hx]
    have e2:JC (X.map MB.m) k mode f=if(di X k).isSome then 2 else 7:=by
     unfold JC;rw [ky]
     cases hx:di X k with
     |none=>rfl
     |some x=>simp [db x hx]
    have e3:JD (X.map MB.m) k mode f=X.map MB.m:=by
     unfold JD;rw [if_neg];rw [e2]
     split<;>omega
    refine(Mk (w:=wq.drew.setCell (C_ (T.q i) 0) (.int .i32 1)) (ob:=w.heap.size+3) lU dx bk1 be1 bm1 bf1 fP hf hm gQ db).mono ?_;rintro e w2 ⟨rfl,h5,h6⟩;exact⟨rfl,X,lU.fr h6 O_,cz h6 fun _ h=>.inr O_,fun x hx=>⟨.inl (h.body x hx),h.bz x hx⟩,fun _ _ _=>rfl,h.nd,h.ok,⟨e3.symm,rfl⟩,h6.ai bk1 O_,by rw [e1];exact h6.ai bo1 O_,by rw [e2];exact h5⟩
  ·rintro e w' ⟨rfl,X',w2,rfl,⟨⟨h4,h4'⟩,h5,h6,h6'⟩,h7,h8⟩;exact⟨rfl,⟨X',h4,h4',h7,h8⟩,h5.bL (p:=⟨T.q i,0,none⟩) Ti _,h6.bL (p:=⟨T.q i,0,none⟩) QI _,h6'.bL (p:=⟨T.q i,0,none⟩) heq _⟩
 generalize flX (X.map MB.m) k mode f=rx at*;generalize JC (X.map MB.m) k mode f=rc at*;unfold flW at ir;have Cz:=ac5 ir;clear fP bk1 bm1 bf1 bo1 be1 lU hm hf
 go_enter func196,ntmps196
 go_wp2_with fail
 rw [<-Cz.out];clear Cz ir
 go_region_held3 (fun w'=>L_ w' T.tb 0 (X_ (M_ T.pb) T.n T.c)/\L_ w' w 0 (U_ k)/\L_ w' T.pb i (Q_ (T.q i))) (first|go_keep|(refine⟨?_,?_,?_⟩<;>assumption))
  ((first
    |(go_at_call 238
      refine(qO (hT.new N_) k O_ O_).mono ?_;rw [hi];rintro e w3 ⟨rfl,rfl⟩)
    |(go_at_call 191
      refine HD.out.mono ?_;rintro e w4 ⟨rfl,⟨X',hX1,hX2,px,hTf⟩,h5,h6,h7⟩;have k0:=px.hd.k0;have k1:=h5.k0;have k2:=px.ptr gR)
    |fail))
 all_goals
  clear cg c0 cp HD k0 k1 k2;have g0:L_ w4.drew (w.heap.size+1+1+1) 0 (B_ rx):=h6.cell 0;have o0:L_ w4.drew (w.heap.size+1+1+1+1) 0 (I_ rc):=h7.cell 0;have g0':L_ w4 (w.heap.size+1+1+1) 0 (B_ rx):=h6.cell 0;have o0':L_ w4 (w.heap.size+1+1+1+1) 0 (I_ rc):=h7.cell 0;have y0':w4.frozen? (C_ (w.heap.size+1+1+1) 0)=false:=h6.frozen 0;have y3':w4.frozen? (C_ (w.heap.size+1+1+1+1) 0)=false:=h7.frozen 0;have y0:w4.drew.frozen? (C_ (w.heap.size+1+1+1) 0)=false:=h6.frozen 0;have y3:w4.drew.frozen? (C_ (w.heap.size+1+1+1+1) 0)=false:=h7.frozen 0;go_wp2_with fail
  go_region
 all_goals
  go_wp2
  have hF:Fr (fun k=>k=w.heap.size+3\/k=w.heap.size+4) w4 (((w4.setCell (C_ (w.heap.size+1+1+1) 0) (B_ rx)).setCell (C_ (w.heap.size+1+1+1+1) 0) (I_ rc)).drew):=
   (((Fr.refl _ _).setCell (fun _=>.inl rfl) _).setCell (fun _=>.inr rfl) _).drew
  have e6:af (((w4.setCell (C_ (w.heap.size+1+1+1) 0) (B_ rx)).setCell (C_ (w.heap.size+1+1+1+1) 0) (I_ rc)).drew) (w.heap.size+1+1+1) 45 #[B_ rx]:=
   ((h6.al 0 _).bL S_ _).drew
  have e7:af (((w4.setCell (C_ (w.heap.size+1+1+1) 0) (B_ rx)).setCell (C_ (w.heap.size+1+1+1+1) 0) (I_ rc)).drew) (w.heap.size+1+1+1+1) 198 #[I_ rc]:=
   ((h7.bL S_ _).al 0 _).drew
  have U0:=Fr.trans' hTf hF (fun k hk hs=>by rcases hs with rfl|rfl<;>omega);refine r_ (jC rfl _ _ rfl rfl (Mo e6) (QK e7)) rfl ?_;refine⟨rfl,X',hX1,hX2,px.fr hF (fun k hk mv=>?_) (fun v l hv b hb hs=>?_),U0⟩
  ·have h1:=mv.2;rcases hk with rfl|rfl<;>omega
  ·obtain⟨cs,h1⟩:=hv.heap hb;rcases hs with rfl|rfl
   ·exact h1.aU h6 D_ rfl
   ·exact h1.aU h7 D_ rfl
theorem f_.fr2 {base:Nat}{w w':World}{T:Tb}{X:List MB}{S:Nat->Prop}(h:f_ base w T X) (hf:Fr S w w') (hS:∀k,S k->¬T.aB k) (hB:∀x∈X,∀b,x.bv.ownBlock=some b->¬S b):f_ base w' T X:=by
 obtain⟨cs,hp,Tg⟩:=h.pt
 exact⟨hf.ai h.hd fun hs=>hS _ hs h.Xe,h.n0,h.n1,h.nc,⟨cs,hf.ai hp fun hs=>hS _ hs h.rpb,Tg⟩,fun i hi=>hf.ai (h.part i hi) fun hs=>hS _ hs (h.rq i hi),fun i hi=>(h.map i hi).fr hf fun hs=>hS _ hs (h.rm i hi),
  fun x hx=>(h.body x hx).fr hf (hB x hx),h.nd,h.ok,h.UW,h.UX,h.Xe,h.rpb,h.rq,h.rm,gy h.top hf.size,h.bz,fun k hk=>fw (h.zt k hk) hf.size⟩
theorem Cu{base:Nat}{w:World}{T:Tb}{X:List MB}(h:f_ base w T X):H_ 78 #[Q_ T.tb] w fun e w'=>e=.returned (I_ T.n)/\w'=w:=by
 have c0:=h.hd.cell 0
 go_enter func78,ntmps78
 go_wp2;go_ret;exact⟨rfl,rfl⟩
end Go.Proofs.YtliimglbbiebiaaGreatDoor
