import Derived.Test.YtliimglbbiebiaaGreatDoorGTopTimeAM
import Derived.Test.YtliimglbbiebiaaGreatDoorGTopTimeAN
import Derived.Test.YtliimglbbiebiaaGreatDoorGTopTimeAK
set_option maxRecDepth 100000
set_option maxHeartbeats 6400000
set_option linter.all false
namespace Go.Proofs.YtliimglbbiebiaaGreatDoor
open Go.Proofs.Tryz Go.RowKit Go.Maps
def Qs.xU (Q:Qs) (i:Int) (v:Value) (l:List Ev):Qs:=⟨Q.ids,Q.b,fun j=>if j=i then v else Q.v j,fun j=>if j=i then l else Q.l j⟩
theorem QX.xU {w w':World}{q:Nat}{Q:Qs}(h:QX w q Q) {i:Int}(hi:i∈Q.ids) {v:Value}{l:List Ev}(hf:One (Q.b i) w w') (hq:zR w' (Q.b i) v l) (hv:∀g,v.ownBlock=some g->w.heap.size<=g):QX w' q (Q.xU i v l):=by
 have N9:=h.xm h.map;have bJ:∀j∈Q.ids,∀g,(Q.v j).ownBlock=some g->g<w.heap.size:=fun j hj g hg=>((h.nM j hj).own.block hg).2;refine⟨h.map.fr hf (fun e=>N9 ⟨i,hi,.inl e⟩),fun j hj=>?_,h.qb,fun j hj k hk g=>?_⟩
 ·have hj:j∈Q.ids:=hj;by_cases g_:j=i
  ·subst g_;simp only [Qs.xU,if_true];exact hq
  ·simp only [Qs.xU,if_neg g_];exact(h.nM j hj).fr hf (fun e=>g_ (h.qb j hj i hi e)) fun g hg e=>(h.nM j hj).own.ar (h.nM i hi).ai D_ (e▸hg)
 ·have hj:j∈Q.ids:=hj;have hk:k∈Q.ids:=hk;by_cases g_:j=i<;>by_cases EL:k=i
  ·intro _ _;rw [g_,EL]
  ·simp only [Qs.xU,if_pos g_,if_neg EL];intro h1 h2;have:=hv g h1;have:=bJ k hk g h2;omega
  ·simp only [Qs.xU,if_neg g_,if_pos EL];intro h1 h2;have:=hv g h2;have:=bJ j hj g h1;omega
  ·simp only [Qs.xU,if_neg g_,if_neg EL];exact h.qv j hj k hk g
theorem Qs.mJ {Q:Qs}{i:Int}{v:Value}{l:List Ev}{k m:Nat}(hv:∀g,v.ownBlock=some g->m<=g) (h:(Q.xU i v l).aB k):Q.aB k\/m<=k:=by
 obtain⟨j,hj,hk⟩:=h;have hj:j∈Q.ids:=hj;rcases hk with hk|hk
 ·exact .inl ⟨j,hj,.inl hk⟩
 ·by_cases g_:j=i
  ·simp only [Qs.xU,if_pos g_]at hk;exact .inr (hv k hk)
  ·simp only [Qs.xU,if_neg g_]at hk;exact .inl ⟨j,hj,.inr hk⟩
theorem Q9{w0 w:World}{base:Nat}{S:Sx}{Q:Qs}{M:List bU}{n t f:Int}(h:cn w0 base w S Q M n t f) (i:Int) (h0: -9223372036854775808<=i) (h1:i<=9223372036854775807) (hi:i∈Q.ids) (gone:Bool) (hlen:(Q.l i).length<=200000000):
 H_ 124 #[Q_ S.s,I_ i,R_ gone] w fun e w'=>∃A c v',e=.returned (X_ A (squeeze ((Q.l i).filter fun x=>gone||decide (x.k≠2))).length c)/\
  Own yx 232 w.heap.size w' (X_ A (squeeze ((Q.l i).filter fun x=>gone||decide (x.k≠2))).length c) (squeeze ((Q.l i).filter fun x=>gone||decide (x.k≠2)))/\
  cn w0 base w' S (Q.xU i v' ((Q.l i).filter fun x=> !(gone||decide (x.k≠2)))) M n t f/\Fr (S.aB Q) w w'/\∀g,v'.ownBlock=some g->w.heap.size<=g:=by
 have hk:=Vc h0 h1;have eN:=h.qx.map.eG (t:=92) (e:=280) underlying92 (Kw w) hk;rw [h.get_some hi]at eN;simp only [ON]at eN
 change (Instr.lookup 92 (.map (some S.q)) (I_ i) false).run prog w=_ at eN
 have c0:=h.hd.k4;have qD:=Mc (h.qx.nM i hi) gone hlen;obtain⟨sq,hsq⟩:∃sq,squeeze ((Q.l i).filter fun x=>gone||decide (x.k≠2))=sq:=⟨_,rfl⟩;obtain⟨rs,hrs⟩:∃rs,((Q.l i).filter fun x=> !(gone||decide (x.k≠2)))=rs:=⟨_,rfl⟩;rw [hsq,hrs]at qD;rw [hsq,hrs];have HFL:=ac5 qD;have H:=ac5 h;have HI:=ac5 hi;clear h hi qD hsq hrs
 go_enter func124,ntmps124
 go_wp2_with fail
 refine HFL.out.mono ?_;rintro e w2 ⟨o,v',rfl,ho,pa,dU,dR,_⟩;obtain⟨A,c,rfl,_⟩:=ho.form;have HO:=ac5 ho;have hqx:=H.out.qx.xU HI.out dU pa dR;have HS:=ac5 (H.out.Kv hqx dU (fun k hk=>.inl ⟨i,HI.out,.inl hk⟩) (fun k hk=>Qs.mJ dR hk));have HF:=ac5 (cz dU (T:=S.aB Q) fun k hk=>gd (.inr ⟨i,HI.out,.inl hk⟩));have HV:=ac5 dR;clear ho pa dU dR hqx;go_wp2;go_ret;exact⟨A,c,v',rfl,HO.out,HS.out,HF.out,HV.out⟩
def Qs.none:Qs:=⟨[],fun _=>0,fun _=>.slice .none 0 0,fun _=>[]⟩
theorem Ra(k:Nat) (k0:0<k) (k1:k<=16) (cap:Int) (c0:0<=cap) (c1:cap<=4096) (next:Int) (n0:0<=next) (n1:next<=4294967295) (w:World):
 H_ 15 #[I_ k,I_ cap,U_ next] w fun e w'=>∃S base,e=.returned (Q_ S.s)/\S.cap=cap/\S.T.n=k/\cn w base w' S Qs.none [] (max next 1) 0 (max next 1):=by
 have np:decide (cap<0)=false:=aP O_;have oe:decide ((4096:Int)<cap)=false:=aP O_;have uH:= @run_makeMap prog;obtain⟨mx,hmx⟩:∃mx,max next 1=mx:=⟨_,rfl⟩;have lU:1<=mx/\mx<=4294967295:=O_
 have hUN:=fun W=>Q6 next W n0 n1;rw [hmx]at hUN⊢;have HUN:=ac5 hUN;have HIN:=ac5 (fun W=>ER (v:=X_ .none 0 0) (l:=[]) (w:=W) (Rd.nil _ _) S_);have HN0:Hid (idxOf []=[]):=ac5 (by simp [idxOf,compactP]);clear hUN hmx
 go_enter func15,ntmps15
 go_wp2_with fail
 refine(Qy k k0 k1 _).mono ?_;rintro e w1 ⟨T,rfl,px,fi,hhi,hT,br⟩;have HT:=ac5 hT;have HTN:=ac5 px;have HLO:=ac5 fi;have HHI:=ac5 hhi;clear hT px fi hhi;go_wp2_with fail
 refine(HUN.out _).mono ?_;rintro e w2 ⟨rfl,uJ,iQ⟩;have HC2:=ac5 uJ;go_wp2_with fail
 refine(HIN.out _).mono ?_;rintro e w3 ⟨x,u,rfl,hx,nf,hur,hux,fu⟩;rw [HN0.out]at hur;have HBX:=ac5 nf;have HUR:=ac5 hur;have HUX:=ac5 hux;clear nf hur hux uJ;go_wp2;go_ret;have c_:ae w ((w3.alloc (.map #[] 0)).alloc (G_ #[Q_ T.tb,Q_ w1,Q_ x,I_ cap,.map (some w3.heap.size)] 94)):=((((br.trans iQ).trans fu).alloc _).alloc _);have h3:ae w3 ((w3.alloc (.map #[] 0)).alloc (G_ #[Q_ T.tb,Q_ w1,Q_ x,I_ cap,.map (some w3.heap.size)] 94)):=((ae.refl _).alloc _).alloc _;have akc:HasMap mI ((w3.alloc (.map #[] 0)).alloc (G_ #[Q_ T.tb,Q_ w1,Q_ x,I_ cap,.map (some w3.heap.size)] 94)) w3.heap.size []:=(HasMap.made mI w3).alloc _;have pN:=br.size;have AU:=iQ.size;have J1:=fu.size;have hh:=HHI.out;have hl:=HLO.out;refine⟨⟨w3.heap.size+1,T,w1.heap.size,x,u,w3.heap.size,cap,0,0⟩,w1.heap.size,S_,rfl,HTN.out,?_⟩
 refine{
  hd:=af.cD _ _ _ _
  tK:=⟨[],rfl,(HT.out.new (iQ.trans (fu.trans h3)))⟩
  tO:=h3.ai (fu.ai HC2.out)
  vd:=.inl rfl
  idx:=cQ.new ⟨HBX.out,HUR.out.mono (Gv _),HUX.out⟩ h3
  qx:=⟨akc,fun i hi=>absurd hi (by simp [Qs.none]),fun i hi=>absurd hi (by simp [Qs.none]),fun i hi=>absurd hi (by simp [Qs.none])⟩
  as_:=fun hT=>by have h1:w3.heap.size+1<T.hi:=hT.2;omega
  ac:=fun hT=>by have h1:w1.heap.size<T.hi:=hT.2;omega
  ax:=fun hT=>by have h1:x<T.hi:=hT.2;omega
  aq:=fun hT=>by have h1:w3.heap.size<T.hi:=hT.2;omega
  au:=fun g hg hT=>by have h1:g<T.hi:=hT.2;have h2:=(HUR.out.block hg).1;omega
  aQ:=fun k hk=>by obtain⟨i,hi,_⟩:=hk;exact absurd hi (by simp [Qs.none])
  lo:=fun k hk=>?_
  hi:=by show T.hi<=_;omega
  hb:=by simp;omega
  new:=c_
  len:=by simpa using c0
  cap:=c1
  kJ:=List.Pairwise.nil
  below:=fun m hm=>absurd hm S_
  n1:=lU
  t1:=by omega}
 rcases hk with hk|hk|hk|hk|hk|hk|⟨i,hi,_⟩
 ·have h1:T.lo<=k:=hk.1;omega
 ·have hk:k=w3.heap.size+1:=hk;omega
 ·have hk:k=w1.heap.size:=hk;omega
 ·have hk:k=x:=hk;omega
 ·have h2:=(HUR.out.block (b:=k) hk).1;omega
 ·have hk:k=w3.heap.size:=hk;omega
 ·exact absurd hi (by simp [Qs.none])
section
variable{w0 w w':World}{base:Nat}{S:Sx}{Q:Qs}{M:List bU}{n t f:Int}
theorem cn.aX (h:cn w0 base w S Q M n t f) {g:Nat}{ty:TypeId}{cs:Array Value}(hg:af w g ty cs) (hb:base<=g) (h1:ty≠94) (h2:ty≠155) (h3:ty≠163) (h4:ty≠28) (h5:ty≠351) (h6:ty≠232):¬S.aB Q g:=by
 rintro(hk|hk|hk|hk|hk|hk|hk)
 ·have:=hk.2;have:=h.hi;omega
 ·exact hg.aU h.hd h1 hk
 ·exact af.aU hg h.tO h2 hk
 ·exact af.aU hg h.idx.1 h3 hk
 ·obtain⟨kL,h7⟩:=h.idx.2.1.heap hk;exact hg.aU h7 h4 rfl
 ·exact h.qx.map.aD hg hk.symm
 ·exact h.qx.ne hg h5 h6 hk
theorem xq(h:cn w0 base w S Q M n t f):H_ 132 #[Q_ S.s] w fun e w'=>e=.returned (I_ M.length)/\w'=w:=by
 have e2:=h.hd.k2;have NR:=EK h.idx.at_;rw [D9]at NR;have HIL:=ac5 NR;clear h NR
 go_enter func132,ntmps132
 go_wp2_with fail
 refine HIL.out.mono ?_;rintro e w5 ⟨rfl,rfl⟩;go_wp2;go_ret;exact⟨rfl,rfl⟩
theorem Rb{M:List bU}{m:bU}(h0:m.uid≠0) (h1:m.fl<=31) (h2:m.body.length<=65536) (h3:∀x∈M,x.uid<m.uid):x_ M m=0:=by
 unfold x_;rw [if_neg O_];have:dY M m.uid=none:=Gu.2 fun x hx=>by have:=h3 x hx;omega
 rw [this];rfl
theorem MK{l:List Int}{u:Int}{k:Nat}(hk:gH l u k) (hu:u≠0) (hl:∀y∈l,y<u):qU l u k=(l++[u],true):=by
 unfold qU
 have h1:k=l.length:=by
  rcases hk.2.2 with h|⟨y,hy,hle⟩
  ·exact h
  ·have:=hl y (YX hy);omega
 rw [if_neg O_]
theorem gF.snoc {s:List Int}(h:gF s) {u:Int}(hl:∀y∈s,y<u):gF (s++[u]):=List.pairwise_append.2 ⟨h,S_,fun a ha b hb=>by rw [List.mem_singleton.1 hb];exact hl a ha⟩
def Sx.Ky (S:Sx) (k:Nat):Prop:=S.T.aB k\/k=S.c\/k=S.x\/S.u.ownBlock=some k
theorem Sx.xr {S:Sx}{Q:Qs}{k:Nat}(h:S.Ky k):S.aB Q k:=by
 rcases h with h|h|h|h
 ·exact .inl h
 ·exact cu (.inl h)
 ·exact dS (.inl h)
 ·exact iO (.inl h)
theorem Rc(h:cn w0 base w S Q M n t f) (hn:n<4294967295) (iW:(M.length:Int)<S.cap) (fl:Int) (F9:0<=fl/\fl<=31) (A:Option Addr) (len c:Nat) (body:List Int) (hb:Rd (ak .u8) w (X_ A len c) body) (hlen:body.length<=65536)
 (gh:∀b,Value.ownBlock (X_ A len c)=some b->body≠[]->¬S.aB Q b):
 H_ 133 #[Q_ S.s,B_ fl,X_ A len c] w fun e w'=>e=.returned (.tuple #[U_ n,I_ 0])/\∃u',cn w0 base w' {S with u:=u'} Q (M++[⟨n,fl,body⟩]) (n+1) (t+1) f/\Fr S.Ky w w'/\cM w S.u u':=by
 have br:=h.n1;have EU:=h.t1;have gE:=h.EV;have Kn:=MB.wV (x:=⟨⟨n,fl,body⟩,A,len,c⟩) hb;have e1:=h.hd.k1;have Gk:=ac5 (Vb h.tO O_ hn EU.1 O_);have H:=ac5 h;have HB:=ac5 hb;have ZH:=ac5 gh;dsimp only at Kn;subst Kn;clear h hb gh
 go_enter func133,ntmps133
 go_wp2_with fail
 refine Gk.out.mono ?_;rintro e w1 ⟨rfl,GW,iE⟩;have fB:=iE.size;have np:=iE.ai H.out.hd (fun e=>H.out.MJ.1 e);obtain⟨X,pE,hX⟩:=H.out.tK;have YC:=hX.fr iE (fun k hk=>by subst hk;exact H.out.ac) fun v l hv b hb hk=>(H.out.BN hv hb).2.1 hk;have iF:=H.out.idx.fr iE (fun e=>H.out.xo.1 e.symm) (fun b hb e=>H.out.xo.2.1 b hb e.symm);have lA:=HB.out.du (fun b hb bV=>iE.block b (HB.out.As hb bV) (fun e=>ZH.out b hb bV (cu (.inl e))));have e0:=np.k0;have hXl:X.length<=4096:=by rw [<-pE,D9]at gE;exact gE
 have nV:=H.out.below;have Re:=QG YC (gy H.out.hb fB) O_ ⟨⟨n,fl,body⟩,A,body.length,c⟩ (⟨⟨by show 0<=n;omega,br.2⟩,⟨F9.1,by show fl<=255;omega⟩⟩) lA;have Rf:x_ M ⟨n,fl,body⟩=0:=Rb (by show n≠0;omega) F9.2 hlen nV;have hpm:Lf M ⟨n,fl,body⟩=M++[⟨n,fl,body⟩]:=by unfold Lf;rw [Rf];rfl
 rw [pE]at Re;dsimp only at Re;rw [Rf,hpm]at Re;simp only [MB.val]at Re;have HTP:=ac5 Re;have HI1:=ac5 iF;have HD1:=ac5 np;have HC1:=ac5 GW;have HF1:=ac5 iE;clear Re Rf hpm nV lA iF YC pE hX np GW iE hXl;go_wp2_with fail
 refine HTP.out.mono ?_;rintro e w2 ⟨rfl,X',hX',ZJ,CH,dU⟩;have oe:=dU.ai HD1.out H.out.as_;have yk:=HI1.out.fr dU H.out.ax H.out.au;have e2:=oe.k2;have fW:=dU.size;have hia:=ES yk (by have:=H.out.hb;omega) (by rw [D9];omega) n;have HIA:=ac5 hia;have HX':=ac5 hX';have Hg:=ac5 CH;have Kz:=ac5 yk;have iw:=ac5 dU;clear oe yk hX' ZJ CH dU hia HTP;go_wp2_with fail
 refine HIA.out.mono ?_;rintro e w3 ⟨k,u',rfl,hk,EI,gP,yJ⟩;have pU:=MK hk O_ (fun y hy=>by obtain⟨m,hm,rfl⟩:=List.mem_map.1 hy;exact H.out.below m hm);rw [pU]at EI;have HI3:=ac5 EI;have ML:=ac5 gP;have iI:=ac5 yJ;clear EI gP yJ hk pU;go_wp2;go_ret2;have hF:Fr S.Ky w w3:=Fr.trans (Fr.trans (cz HF1.out fun k hk=>.inr (.inl hk)) (cz iw.out fun k hk=>.inl hk)) (cz ML.out fun k hk=>by rcases hk with hk|hk;exact cu (.inl hk);exact dS hk);refine⟨rfl,u',H.out.turn hF (fun k hk=>hk) ⟨X',HX'.out,Hg.out.fr ML.out (fun k hk=>?_) fun v l hv b hb hk=>?_⟩ ?_ (by rw [ta];exact HI3.out) (cM.mono iI.out O_) ?_ ?_ ?_ O_ O_,hF,cM.mono iI.out O_⟩
 ·rcases hk with hk|hk
  ·subst hk;exact H.out.ax
  ·exact H.out.au k hk
 ·obtain⟨cs,h9⟩:=hv.heap hb;rcases hk with hk|hk
  ·exact h9.aU Kz.out.1 D_ hk
  ·obtain⟨kL,sH⟩:=Kz.out.2.1.heap hk;exact h9.aU sH D_ rfl
 ·exact ML.out.ai (iw.out.ai HC1.out H.out.ac) fun hk=>by
   rcases hk with hk|hk
   ·exact H.out.xo.1 hk
   ·exact H.out.xo.2.1 _ hk rfl
 ·simp only [dr,dK];omega
 ·rw [ta];exact H.out.kJ.snoc fun y hy=>by obtain⟨m,hm,rfl⟩:=List.mem_map.1 hy;exact H.out.below m hm
 ·intro m hm;rcases List.mem_append.1 hm with hm|hm
  ·have:=H.out.below m hm;omega
  ·rw [List.mem_singleton.1 hm];show n<n+1;omega
end
section
variable{w0 w w':World}{base:Nat}{S:Sx}{Q:Qs}{M:List bU}{n t f:Int}
theorem yK(s:Nat) (w:World) (fl:Int) (A:Option Addr) (len c:Nat) (hb:31<fl\/65536<len):
 H_ 98 #[Q_ s,B_ fl,X_ A len c] w fun e w'=>e=.returned (.tuple #[U_ 0,I_ 2])/\ae w w':=by
 by_cases hf:31<fl
 ·have hd:=k_ hf;clear hb
  go_enter func98,ntmps98
  go_wp2;go_ret2;exact⟨rfl,ae.refl _⟩
 ·have hd:=aP hf;have h2:65536<len:=O_
  have oe:=k_ h2;have sD:decide ((65536:Int)<len)=true:=k_ O_;clear hb
  go_enter func98,ntmps98
  go_wp2;go_ret2;exact⟨rfl,ae.refl _⟩
theorem BO(h:cn w0 base w S Q M n t f) (hc:(M.length:Int)=S.cap) (fl:Int) (hf:fl<=31) (A:Option Addr) (len c:Nat) (hb:len<=65536):
 H_ 98 #[Q_ S.s,B_ fl,X_ A len c] w fun e w'=>e=.returned (.tuple #[U_ 0,I_ 5])/\ae w w':=by
 have hd:decide (31<fl)=false:=aP O_;have oe:decide (65536<len)=false:=aP O_;have sD:decide ((65536:Int)<len)=false:=aP O_;have c3:=h.hd.k3;have Gr:decide (S.cap<=(M.length:Int))=true:=k_ O_;have H:=ac5 h;clear h hc
 go_enter func98,ntmps98
 go_wp2_with fail
 go_quiet ((go_at_call 132;exact lG (xq (H.out.more N_))))
 go_wp2;go_ret2;exact⟨rfl,(ae.refl _).drewN _⟩
theorem Sx.EX {S:Sx}{u':Value}{k:Nat}(h:Sx.aB {S with u:=u'} Q k) (bT:cM w S.u u'):S.aB Q k\/w.heap.size<=k:=by
 rcases h with hk|hk|hk|hk|hk|hk|hk
 ·exact .inl (.inl hk)
 ·exact .inl (.inr (.inl hk))
 ·exact .inl (cu (.inl hk))
 ·exact .inl (dS (.inl hk))
 ·have hk:u'.ownBlock=some k:=hk;rcases bT with h3|⟨b,h3,h4⟩
  ·exact .inl (iO (.inl (h3▸hk)))
  ·rw [h3]at hk
   cases hk
   exact .inr h4
 ·exact .inl (gd (.inl hk))
 ·exact .inl (lX hk)
theorem EY(h:cn w0 base w S Q M n t f) (hc:(M.length:Int)<S.cap) (hn:n<4294967295) (hQ:∀i∈Q.ids,(Q.l i).length<=100000000) (fl:Int) (hf:0<=fl/\fl<=31) (A:Option Addr) (len c:Nat) (body:List Int) (hb:Rd (ak .u8) w (X_ A len c) body) (hlen:body.length<=65536)
 (gh:∀b,Value.ownBlock (X_ A len c)=some b->body≠[]->¬S.aB Q b):
 H_ 98 #[Q_ S.s,B_ fl,X_ A len c] w fun e w'=>e=.returned (.tuple #[U_ n,I_ 0])/\
  ∃u' v',cn w0 base w' {S with u:=u'} (Q.told (fun _=>true) ⟨1,n,0⟩ v') (M++[⟨n,fl,body⟩]) (n+1) (t+1) f/\Fr (S.aB Q) w w'/\cM w S.u u'/\∀i∈Q.ids,cM w (Q.v i) (v' i):=by
 have Kn:=MB.wV (x:=⟨⟨n,fl,body⟩,A,len,c⟩) hb;dsimp only at Kn;subst Kn;have br:=h.n1;have hd:decide (31<fl)=false:=aP O_;have oe:decide (65536<body.length)=false:=aP O_;have sD:decide ((65536:Int)<body.length)=false:=aP O_;have c3:=h.hd.k3;have Gr:decide (S.cap<=(M.length:Int))=false:=aP O_;have hE:=enters _ _ _ func135 K_ rfl;have H:=ac5 h;have HB:=ac5 hb;have ZH:=ac5 gh;have HQ:=ac5 hQ;have HE:=ac5 hE;have gQ:(⟨1,n,0⟩:Ev).wf:=⟨(by decide:(Lit.int .i64 1).wf=true),Xg (k:=n) O_ O_,(by decide:(Lit.int .u8 0).wf=true)⟩;have HWF:=ac5 gQ;clear h hb gh hQ gQ hE
 go_enter func98,ntmps98
 go_wp2_with fail
 go_quiet ((go_at_call 132;exact lG (xq (H.out.more N_))))
 go_wp2_with fail
 have gT:=fun a=>(ae.refl w).drewN a;refine(Rc (H.out.more (gT _)) hn hc fl hf A body.length c body (HB.out.new (gT _)) hlen ZH.out).mono ?_;rintro e w1 ⟨rfl,u',hS1,iE,uv⟩;have aeu:=hS1;have Oa:=xp hS1.hd hS1.qx HQ.out ⟨1,n,0⟩ HWF.out S_ 135 #[] (fun _=>true) HE.out (fun W i _=>by have:=qV i W;simpa using this);simp only [Ev.val]at Oa;have HTE:=ac5 Oa;have Xy:=ac5 aeu;have HF1:=ac5 iE;have iI:=ac5 uv;clear hS1 aeu Oa iE uv gT;go_wp2_with fail
 refine HTE.out.mono ?_;rintro e w2 ⟨rfl,v',pa,dU,dR⟩;have jO:=ac5 (Xy.out.told pa dU dR);have iw:=ac5 dU;have HV2:=ac5 dR;clear pa dU dR;go_wp2;go_ret2;refine⟨rfl,u',v',jO.out,?_,iI.out,fun i hi=>cM.mono (HV2.out i hi) (by have:=HF1.out.size;simpa using this)⟩;have h1:Fr (S.aB Q) w w1:=Fr.trans (ae.to ((ae.refl w).drewN _)) (cz HF1.out fun k hk=>Sx.xr hk);exact Fr.trans h1 (cz iw.out fun k hk=>lX hk)
end
section
variable{w0 w:World}{base:Nat}{S:Sx}{Q:Qs}{M:List bU}{n t f:Int}
theorem xv(h:cn w0 base w S Q M n t f):H_ 97 #[Q_ S.s] w fun e w'=>e=.returned (U_ f)/\cn w0 base w' {S with vv:=f,dd:=1} Q M n t f/\One S.c w w':=by
 have e1:=h.hd.k1;have HN:=ac5 (UV.BQ h.tO h.vd);have H:=ac5 h;clear h
 go_enter func97,ntmps97
 go_wp2_with fail
 refine HN.out.mono ?_;rintro e w5 ⟨rfl,hc,o5⟩;go_wp2;go_ret;refine⟨rfl,?_,o5⟩;have h:=H.out;obtain⟨X,pE,hX⟩:=h.tK
 exact{h with
  hd:=o5.ai h.hd h.MJ.1
  tK:=⟨X,pE,hX.fr o5 (fun k hk hT=>h.ac ((show k=S.c from hk)▸hT)) fun v l ho b hb e=>by subst e;exact(h.BN ho hb).2.1 rfl⟩
  tO:=hc
  vd:=.inr ⟨rfl,rfl⟩
  idx:=h.idx.fr o5 (fun e=>h.xo.1 e.symm) fun b hb e=>h.xo.2.1 b hb e.symm
  qx:=h.qx.fr o5 (fun e=>h.MI.2.1 e) fun k hk e=>by subst e;exact h.xo.2.2 hk
  hb:=gy h.hb o5.size
  new:=ae.two h.new o5 fun k e=>by subst e;exact h.lo _ (cu (.inl rfl))}
theorem EZ(h:cn w0 base w S Q M n t f) (i:Int) (h0:0<=i) (h1:i<=9223372036854775807) (hi:i∉Q.ids):
 H_ 125 #[Q_ S.s,I_ i] w fun e w'=>e=.returned (R_ false)/\w'=w:=by
 have hk:=Vc O_ h1;have eN:=h.qx.map.eG (t:=92) (e:=280) underlying92 (Kw w) hk;rw [h.get_none hi]at eN;simp only [ly]at eN
 change (Instr.lookup 92 (.map (some S.q)) (I_ i) false).run prog w=_ at eN
 have e2:=h.hd.k4
 go_enter func125,ntmps125
 go_wp2;go_ret;exact⟨rfl,rfl⟩
end
theorem kC(k:Int) (n:Nat) (hn:n<4294967296) (w:World):H_ 95 #[I_ k,I_ n] w fun e w'=>e=.returned (cV.val ⟨k,n,⟨#[]⟩,0,⟨#[]⟩,0,0,0,0,none,0,0⟩)/\ae w w':=by
 have hw:IntKind.u32.wrap (n:Int)=n:=by unfold IntKind.wrap;simp [IntKind.bits,IntKind.signed];omega
 go_enter func95,ntmps95
 go_wp2;exact r_ (aI rfl _ _ rfl (fS (af.new _ _ _))) rfl ⟨rfl,(ae.refl w).alloc _⟩
def aew:ByteArray:=⟨#[109,97,105,108,98,111,120,32,105,115,32,102,117,108,108]⟩
def aex:ByteArray:=⟨#[110,111,32,105,100,101,110,116,105,102,105,101,114,115,32,108,101,102,116]⟩
theorem MM(c:Int) (hc:c=5\/c=6) (w:World):H_ 136 #[I_ c] w fun e w'=>e=.returned (I_ 1)/\w'=w:=by
 rcases hc with rfl|rfl
 all_goals
  go_enter func136,ntmps136
  go_wp2;go_ret;exact⟨rfl,rfl⟩
def Ri(c:Int):ByteArray:=if c=5 then aew else aex
theorem Ve(c:Int) (hc:c=5\/c=6) (w:World):H_ 137 #[I_ c] w fun e w'=>e=.returned (T_ (Ri c))/\w'=w:=by
 rcases hc with rfl|rfl
 all_goals
  go_enter func137,ntmps137
  go_wp2;go_ret;exact⟨rfl,rfl⟩
theorem aey(x:ByteArray) (w:World):H_ 99 #[I_ 0,T_ x] w fun e w'=>e=.returned (.agg #[I_ 0,T_ x])/\ae w w':=by
 go_enter func99,ntmps99
 go_wp2;exact r_ (aI rfl _ _ rfl (dN (af.new _ _ _))) rfl ⟨rfl,(ae.refl w).alloc _⟩
theorem aez(c:Int) (hc:c=5\/c=6) (x:ByteArray) (w:World):H_ 99 #[I_ c,T_ x] w fun e w'=>e=.returned (.agg #[I_ 1,T_ (Ri c)])/\ae w w':=by
 have bV:(c==0)=false:=by rcases hc with rfl|rfl<;>rfl
 have HC:=ac5 hc
 go_enter func99,ntmps99
 go_wp2_with (first|(go_at_call 136;refine(MM c HC.out _).mono ?_;rintro e w1 ⟨rfl,rfl⟩)|(go_at_call 137;refine(Ve c HC.out _).mono ?_;rintro e w2 ⟨rfl,rfl⟩)|fail)
 exact r_ (aI rfl _ _ rfl (dN (af.new _ _ _))) rfl ⟨rfl,(ae.refl w).alloc _⟩
abbrev VW(w:World) (v x:Nat) (g:Bool):Prop:=af w v 111 #[Q_ x,R_ g]
section
variable{w:World}{v x:Nat}{g:Bool}{u:Value}{l:List Int}{base:Nat}
theorem qX(hv:VW w v x g) (hi:cQ base w x u l):H_ 96 #[Q_ v] w fun e w'=>e=.returned (I_ l.length)/\w'=w:=by
 have c0:=hv.k0;have HL:=ac5 (EK hi.at_);clear hi
 go_enter func96,ntmps96
 go_wp2_with fail
 refine HL.out.mono ?_;rintro e w1 ⟨rfl,rfl⟩;go_wp2;go_ret;exact⟨rfl,rfl⟩
end
abbrev uU(n:Nat):cV:=⟨1,n,⟨#[]⟩,0,⟨#[]⟩,0,0,0,0,none,0,0⟩
section
variable{w:World}{v x OB AB VB:Nat}{g:Bool}{u vo:Value}{l:List Int}{lo:List cV}{base:Nat}
theorem Rj(r:cV) (w:World):H_ 174 #[r.val,R_ false,Q_ OB] w fun e w'=>e=.returned (.tuple #[])/\ae w w':=by
 unfold cV.val
 go_enter func174,ntmps174
 go_wp2;go_end0;exact⟨rfl,(ae.refl w).alloc _⟩
theorem KA(r:cV) (hb:af w OB 50 #[vo]) (ho:Own cG 53 base w vo lo) (hl:lo.length<=1000000000) (dH:base<=w.heap.size):
 H_ 174 #[r.val,R_ true,Q_ OB] w fun e w'=>e=.returned (.tuple #[])/\∃i_,af w' OB 50 #[i_]/\Own cG 53 base w' i_ (lo++[r])/\Fr (fun k=>k=OB\/vo.ownBlock=some k) w w'/\(i_.ownBlock=vo.ownBlock\/∃g,i_.ownBlock=some g/\w.heap.size<=g):=by
 obtain⟨i0,hi,dw,cE,dy⟩:=wF qk;obtain⟨vA,vc,rfl,hvc⟩:=ho.form;have n0:ae w (W_ w #[I_ r.k,U_ r.n,T_ r.t,I_ r.st,T_ r.x,I_ r.it,B_ r.fl,U_ r.uid,U_ r.sz,X_ r.A r.bn r.bc] 53):=(ae.refl w).alloc _;have r0:af (W_ w #[I_ r.k,U_ r.n,T_ r.t,I_ r.st,T_ r.x,I_ r.it,B_ r.fl,U_ r.uid,U_ r.sz,X_ r.A r.bn r.bc] 53) w 53 #[I_ r.k,U_ r.n,T_ r.t,I_ r.st,T_ r.x,I_ r.it,B_ r.fl,U_ r.uid,U_ r.sz,X_ r.A r.bn r.bc]:=af.new _ _ _;have NQ:=n0.ai hb;have uV:=ho.new n0;have c0:=NQ.k0;have ee:=r0.d_;have fB:(w.alloc (G_ #[I_ r.k,U_ r.n,T_ r.t,I_ r.st,T_ r.x,I_ r.it,B_ r.fl,U_ r.uid,U_ r.sz,X_ r.A r.bn r.bc] 53)).heap.size=w.heap.size+1:=gz _ _;have hbB:af (W_ (W_ w #[I_ r.k,U_ r.n,T_ r.t,I_ r.st,T_ r.x,I_ r.it,B_ r.fl,U_ r.uid,U_ r.sz,X_ r.A r.bn r.bc] 53) #[I_ r.k,U_ r.n,T_ r.t,I_ r.st,T_ r.x,I_ r.it,B_ r.fl,U_ r.uid,U_ r.sz,X_ r.A r.bn r.bc] 53) OB 50 #[X_ vA lo.length vc]:=NQ.alloc _;have hoB:Own cG 53 base (W_ (W_ w #[I_ r.k,U_ r.n,T_ r.t,I_ r.st,T_ r.x,I_ r.it,B_ r.fl,U_ r.uid,U_ r.sz,X_ r.A r.bn r.bc] 53) #[I_ r.k,U_ r.n,T_ r.t,I_ r.st,T_ r.x,I_ r.it,B_ r.fl,U_ r.uid,U_ r.sz,X_ r.A r.bn r.bc] 53) (X_ vA lo.length vc) lo:=uV.alloc _;have ez:Rd cG (W_ (W_ w #[I_ r.k,U_ r.n,T_ r.t,I_ r.st,T_ r.x,I_ r.it,B_ r.fl,U_ r.uid,U_ r.sz,X_ r.A r.bn r.bc] 53) #[I_ r.k,U_ r.n,T_ r.t,I_ r.st,T_ r.x,I_ r.it,B_ r.fl,U_ r.uid,U_ r.sz,X_ r.A r.bn r.bc] 53) (X_ (M_ (w.heap.size+1)) 1 1) [r]:=jn (E:=cG) (x:=r) (t:=53) (af.cD _ _ _ _);have eE:base<=((w.alloc (G_ #[I_ r.k,U_ r.n,T_ r.t,I_ r.st,T_ r.x,I_ r.it,B_ r.fl,U_ r.uid,U_ r.sz,X_ r.A r.bn r.bc] 53)).alloc (G_ #[I_ r.k,U_ r.n,T_ r.t,I_ r.st,T_ r.x,I_ r.it,B_ r.fl,U_ r.uid,U_ r.sz,X_ r.A r.bn r.bc] 53)).heap.size:=by have:=n0.size;rw [gz];omega
 have nB:ae w (W_ (W_ w #[I_ r.k,U_ r.n,T_ r.t,I_ r.st,T_ r.x,I_ r.it,B_ r.fl,U_ r.uid,U_ r.sz,X_ r.A r.bn r.bc] 53) #[I_ r.k,U_ r.n,T_ r.t,I_ r.st,T_ r.x,I_ r.it,B_ r.fl,U_ r.uid,U_ r.sz,X_ r.A r.bn r.bc] 53):=n0.alloc _;have bV:∀g,(Value.slice vA lo.length vc).ownBlock=some g->g≠OB:=fun g hg e=>ho.ar hb D_ (by rw [<-e];exact hg);have HNE:=ac5 bV;obtain⟨k0,k1,k2,k3,k4,k5,k6,k7,k8,k9⟩:=ee;have HOB:=ac5 hb.lt;clear bV n0 r0 NQ uV hb ho;unfold cV.val
 go_enter func174,ntmps174
 go_wp2_with (at_builtin;refine aZ (E:=cG) rfl _ _ _ rfl underlying50 hi dw cE dy rfl hoB rfl ez rfl (by unfold maxLen;simp;omega) P_ eE ?_;intro v1 w1 fE iE pM;have gN:=Fr.ai iE hbB (fun hs=>HNE.out _ hs rfl);have c1:=gN.k0;have f1:=gN.frozen 0;obtain⟨A2,C2,rfl,_⟩:=fE.form;rw [show(lo++[r]).length=lo.length+1 from by simp]at fE pM)
 go_end0;have NO:Fr (fun k=>k=OB\/(Value.slice vA lo.length vc).ownBlock=some k) w w1:=Fr.trans (nB.mono fun _ _ h=>h.elim) (iE.mono fun k _ hk=>.inr hk);refine⟨rfl,_,gN.al 0 _,fE.fr ((One.refl OB w1).set 0 _) (fun g hg e=>?_),NO.setCell (p:=⟨OB,0,none⟩) (fun _=>.inl rfl) _,?_⟩
 ·have e:=e;exact fE.ar gN D_ (by rw [<-e];exact hg)
 ·rcases pM with h|h
  ·exact .inl h
  ·exact .inr ⟨_,h,by rw [gz];omega⟩
abbrev sS(OB:Nat):Value:=.func (.func 174) #[] #[Q_ OB]
theorem MN(hA:L_ w AB 0 (sS OB)) (hV:L_ w VB 0 (Q_ v)) (hv:VW w v x false) (hi:cQ 0 w x u l) (hl:l.length<=100000):
 H_ 175 #[Q_ AB,Q_ VB] w fun e w'=>e=.returned (.tuple #[])/\VW w' v x false/\Fr (fun k=>k=v) w w':=by
 have hg:=hv.k1;have HI:=ac5 hi;clear hi
 go_enter func175,ntmps175
 go_wp2_with fail
 go_region_held3 (fun W=>L_ W AB 0 (sS OB)/\L_ W VB 0 (Q_ v)/\L_ W v 1 (R_ false)) (first|go_keep|(refine⟨?_,?_,?_⟩<;>assumption)) ((first
  |(go_at_call 96
    refine(qX (Fr.ai (S:=fun _=>False) A_ hv id) (HI.out.new A_)).mono ?_;rintro e w1 ⟨rfl,rfl⟩)
  |(go_at_call 95
    refine(kC 1 l.length O_ _).mono ?_;rintro e w2 ⟨rfl,m2⟩;have n2:ae w w2:=Fr.trans A_ m2;have p0:=Fr.cell n2 hA id;have p1:=Fr.cell n2 hV id;have p2:=Fr.cell n2 hg id)
  |(go_at_call 174
    refine(Rj (uU l.length) _).mono ?_;rintro e w3 ⟨rfl,m3⟩;have n3:ae w w3:=Fr.trans A_ m3;have q0:=Fr.cell n3 hA id;have q1:=Fr.cell n3 hV id;have iL:=n3.ai hv;have q2:=iL.k1;have q3:=iL.frozen 1)
  |fail))
 go_wp2;go_end0;exact⟨rfl,iL.al 1 _,Fr.setCell (S:=fun k=>k=v) (n3.mono fun _ _ h=>h.elim) (p:=⟨v,1,none⟩) (fun _=>rfl) _⟩
theorem IJ(hA:L_ w AB 0 (sS OB)) (hV:L_ w VB 0 (Q_ v)) (hv:VW w v x true) (hi:cQ 0 w x u l) (hl:l.length<=100000)
 (hb:af w OB 50 #[vo]) (ho:Own cG 53 base w vo lo) (fi:lo.length<=1000000000) (dH:base<=w.heap.size) (hAn:AB≠OB) (hVn:VB≠OB) (hAo:vo.ownBlock≠some AB) (hVo:vo.ownBlock≠some VB):
 H_ 175 #[Q_ AB,Q_ VB] w fun e w'=>e=.returned (.tuple #[])/\VW w' v x false/\∃i_,af w' OB 50 #[i_]/\Own cG 53 base w' i_ (lo++[uU l.length])/\Fr (fun k=>k=v\/k=OB\/vo.ownBlock=some k) w w'/\(i_.ownBlock=vo.ownBlock\/∃g,i_.ownBlock=some g/\w.heap.size<=g):=by
 have hg:=hv.k1;have HI:=ac5 hi;have hvo:=hv.aU hb D_;have KB:=ho.ar hv D_;have HB:=ac5 hb;have HO:=ac5 ho;clear hi hb ho
 go_enter func175,ntmps175
 go_wp2_with fail
 go_region_held3 (fun W=>L_ W AB 0 (sS OB)/\L_ W VB 0 (Q_ v)/\L_ W v 1 (R_ true)) (first|go_keep|(refine⟨?_,?_,?_⟩<;>assumption)) ((first
  |(go_at_call 96
    refine(qX (Fr.ai (S:=fun _=>False) A_ hv id) (HI.out.new A_)).mono ?_;rintro e w1 ⟨rfl,rfl⟩)
  |(go_at_call 95
    refine(kC 1 l.length O_ _).mono ?_;rintro e w2 ⟨rfl,m2⟩;have n2:ae w w2:=Fr.trans A_ m2;have p0:=Fr.cell n2 hA id;have p1:=Fr.cell n2 hV id;have p2:=Fr.cell n2 hg id)
  |(go_at_call 174
    refine(KA (uU l.length) (HB.out |> fun h=>Fr.ai (S:=fun _=>False) n2 h id) (HO.out.new n2) fi (gy dH n2.size)).mono ?_;rintro e w3 ⟨rfl,i_,qp,fg,f3,MO⟩;have n3:=Fr.trans (ae.to n2) f3;have q0:=Fr.cell n3 hA (fun h=>by rcases h with h|h;exact hAn h;exact hAo h);have q1:=Fr.cell n3 hV (fun h=>by rcases h with h|h;exact hVn h;exact hVo h);have iL:=n3.ai hv (fun h=>by rcases h with h|h;exact hvo h;exact KB h);have q2:=iL.k1;have q3:=iL.frozen 1;have HB3:=ac5 qp;have Rk:=ac5 fg;have Gl:=ac5 MO;clear qp fg f3 MO)
  |fail))
 go_wp2;go_end0;refine⟨rfl,iL.al 1 _,i_,HB3.out.bL (p:=⟨v,1,none⟩) (iX hvo) _,Rk.out.fr ((One.refl v w3).set 1 (R_ false)) (fun k hk e=>?_),Fr.setCell (n3.mono fun _ _ h=>.inr h) (p:=⟨v,1,none⟩) (fun _=>.inl rfl) _,?_⟩
 ·have e:=e;exact Rk.out.ar iL D_ (by rw [<-e];exact hk)
 ·rcases Gl.out with h|⟨k,h1,h2⟩
  ·exact .inl h
  ·exact .inr ⟨k,h1,gy n2.size h2⟩
end
theorem Fr.setCells {S:Nat->Prop}{a w:World}(b:Nat) (hb:b<a.heap.size->S b):∀(vs:List Value) (o:Nat),Fr S a w->Fr S a (w.setCells b o vs)
 |[],_,h=>h
 |v::vs,o,h=>by
  have h1:=Fr.setCell h (p:=⟨b,o,none⟩) hb v;exact Fr.setCells b hb vs (o+1) h1
theorem af.setCells {g:Nat}{t:TypeId}(b:Nat):∀(vs:List Value) (o:Nat) (w:World) (cs:Array Value),af w g t cs->∃kL,af (w.setCells b o vs) g t kL
 |[],_,_,cs,h=>⟨cs,h⟩
 |v::vs,o,w,cs,h=>by
  by_cases hb:g=b
  ·subst hb;exact af.setCells g vs (o+1) _ _ (h.al o v)
  ·exact af.setCells b vs (o+1) _ _ (h.bL (p:=⟨b,o,none⟩) hb v)
section
variable{P:Program}{base:Nat}{w:World}{l:List Int}
theorem xw(t ty:TypeId) (hu:P.underlying t=some (.slice 28)) (hs:(P.info? 28).map (·.size)=some 1) {g off c:Nat}(h:eD base w (X_ (some ⟨g,off,none⟩) l.length c) l) (k:Nat) (hk:k<l.length) (A:Option Addr) (hA:k+1<l.length->A=some ⟨g,off+(k+1),none⟩) (cc:Nat):
 ∃w',(Builtin.copy_ #[t,t] ty #[X_ (some ⟨g,off+k,none⟩) (l.length-k) (c-k),X_ A (l.length-(k+1)) cc]).run P w=.ok (I_ (l.length-(k+1):Nat)) w'/\
  eD base w' (X_ (some ⟨g,off,none⟩) (l.length-1) c) (l.eraseIdx k)/\Fr (fun b=>b=g) w w':=by
 have eQ:=h;rcases h with⟨h,_⟩|⟨g',ug,c',he,hb,zM,NT,Wl,az,hj⟩
 ·cases h
 cases he
 have hel:=List.length_eraseIdx_of_lt hk;by_cases anJ:k+1=l.length
 ·have qz:=run_copy_none (P:=P) w t t ty 28 (some ⟨g,off+k,none⟩) A (l.length-k) (c-k) (l.length-(k+1)) cc hu hs (by rw [show l.length-(k+1)=0 by omega];simp);refine⟨w,?_,?_,Fr.refl _ _⟩
  ·rw [qz,show l.length-(k+1)=0 by omega];rfl
  ·refine .inr ⟨g,off,c,by rw [hel],hb,zM,O_,Wl,fun i x hx=>az i x ?_,hj⟩;rw [Qw]at hx
   split at hx
   ·exact hx
   ·have:=(List.getElem?_eq_some_iff.1 hx).1;omega
 ·obtain rfl:=hA O_;have ua:((l.drop (k+1)).map (Value.int .u32)).length=l.length-(k+1):=S_
  have Va:∀j v,((l.drop (k+1)).map (Value.int .u32))[j]? =some v->w.cell? ((⟨g,off+(k+1),none⟩:Addr).add j)=some v:=by
   intro j v hv;rw [OX,aR]at hv;obtain⟨x,hx,rfl⟩:=Option.map_eq_some_iff.1 hv;rw [kR,vh];exact az _ x hx
  have cK:∀j,j<((l.drop (k+1)).map (Value.int .u32)).length->(w.cell? (C_ g (off+k+j))).isSome=true:=by
   intro j rG;obtain⟨z,hz⟩:=(hj (k+j) O_).1;rw [vh,hz];rfl
  have hfz:∀j,j<((l.drop (k+1)).map (Value.int .u32)).length->w.frozen? (C_ g (off+k+j))=false:=by
   intro j rG;rw [vh];exact(hj (k+j) O_).2
  have qz:=run_copy_cells (P:=P) w t t ty 28 g (off+k) (l.length-k) (c-k) (C_ g (off+(k+1))) (l.length-(k+1)) cc _ hu hs (by rw [ua];exact(oN O_).symm) Va cK hfz (by
   intro v hv;obtain⟨x,_,rfl⟩:=List.mem_map.1 hv;rfl)
  refine⟨_,by rw [qz,ua];rfl,?_,Fr.setCells (S:=fun b=>b=g) g (fun _=>rfl) _ _ (Fr.refl _ w)⟩;have jx:Fr (fun b=>b=g) w (w.setCells g (off+k) ((l.drop (k+1)).map (Value.int .u32))):=Fr.setCells (S:=fun b=>b=g) g (fun _=>rfl) _ _ (Fr.refl _ w);have eE:=jx.size;refine .inr ⟨g,off,c,by rw [hel],hb,by obtain⟨cs,zM⟩:=zM;exact af.setCells _ _ _ _ _ zM,O_,Wl,fun i x hx=>?_,fun j XD=>⟨?_,?_⟩⟩
  ·rw [Qw]at hx
   split at hx
   ·rw [Oy g _ _ _ _ (fun _ _=>Or.inl (by show off+i<off+k;omega))];exact az i x hx
   ·have NR:=(List.getElem?_eq_some_iff.1 hx).1;have:=World.cell?_setCells_in g ((l.drop (k+1)).map (Value.int .u32)) (off+k) w cK (i-k) (by rw [ua];omega);rw [show off+k+(i-k)=off+i by omega]at this;rw [this];have h2:(l.drop (k+1))[i-k]? =some x:=by rw [aR,show k+1+(i-k)=i+1 by omega];exact hx
    have h3:((l.drop (k+1)).map (Value.int .u32))[i-k]? =some (.int .u32 x):=by rw [OX,h2];rfl
    rw [List.getElem?_eq_some_iff]at h3;exact congrArg some h3.2
  ·by_cases gR:k<=j/\j<l.length-1
   ·have:=World.cell?_setCells_in g ((l.drop (k+1)).map (Value.int .u32)) (off+k) w cK (j-k) (by rw [ua];omega);rw [show off+k+(j-k)=off+j by omega]at this;exact⟨_,this⟩
   ·obtain⟨z,hz⟩:=(hj j XD).1;refine⟨z,?_⟩;rw [Oy g _ _ _ _ (fun _ _=>?_)]
    ·exact hz
    ·rw [ua];by_cases hkj:j<k
     ·exact Or.inl (by show off+j<off+k;omega)
     ·exact Or.inr (by show off+k+(l.length-(k+1))<=off+j;omega)
  ·rw [World.frozen?_setCells];exact(hj j XD).2
variable{ops:Array Oper}{o:Oper}{a:Act}{K:Act->World->Prop}{Q:Exit->Act->World->Prop}
theorem uw{F:Prop}(Lh:o.guard=none) (s x:Operand) (t:TypeId) (ho:o.op=.call {callee:=.builtin .copy,args:= #[s,x],argTypes:= #[t,t]})
 (hu:P.underlying t=some (.slice 28)) (hs:(P.info? 28).map (·.size)=some 1) {g off c:Nat}(h:eD base w (X_ (some ⟨g,off,none⟩) l.length c) l) (k:Nat) (hk:k<l.length) (A:Option Addr) (hA:k+1<l.length->A=some ⟨g,off+(k+1),none⟩) (cc:Nat)
 (n2 m:Nat) (h2:l.length-(k+1)=n2) (h3:l.length-1=m)
 (hd:a.eval s=X_ (some ⟨g,off+k,none⟩) (l.length-k) (c-k)) (hx:a.eval x=X_ A (l.length-(k+1)) cc)
 (hK:∀w',eD base w' (X_ (some ⟨g,off,none⟩) m c) (l.eraseIdx k)->Fr (fun b=>b=g) w w'->K (a.put o.dst (I_ n2)) w'):
 if Region.wanted o (yielded ops a.tmps)=true then Oper.wp P o a w K Q else F:=by
 subst h2 h3;have hw:Region.wanted o (yielded ops a.tmps)=true:=by simp [Region.wanted,Lh]
 rw [if_pos hw];obtain⟨w',hr,h1,h2⟩:=xw (P:=P) t o.type hu hs h k hk A hA cc;unfold Oper.wp execOp;simp only [ho,resolve,invoke,builtin,rN,jK,oM,Hx,nR,Kf,hd,hx,hr];exact hK w' h1 h2
end
def Rl(l:List Int) (uid:Int) (k:Nat):List Int:=if l[k]? =some uid then l.eraseIdx k else l
theorem aeB:(prog.info? 28).map (·.size)=some 1:=K_
theorem KD{base x:Nat}{w:World}{u:Value}{l:List Int}(h:cQ base w x u l) (hl:l.length<=100000) (uid:Int):
 H_ 194 #[Q_ x,U_ uid] w fun e w'=>∃(k:Nat) (u':Value),e=.returned (I_ (oq l uid k))/\gH l uid k/\cQ base w' x u' (Rl l uid k)/\QZ x u w w'/\cM w u u':=by
 have HF:=ac5 (KC h.at_ hl uid);have H:=ac5 h;obtain⟨A,c,rfl,NT⟩:=h.2.1.form;have c0:L_ w x 0 (X_ A l.length c):=h.1.cell 0;have f0:=h.1.frozen 0;clear h
 go_enter func194,ntmps194
 go_wp2_with fail
 refine HF.out.mono ?_;rintro e w1 ⟨k,rfl,hk,br⟩;have H1:=ac5 (H.out.new br);have HK:=ac5 hk;have dL:=hk.1;clear hk;by_cases hq:l[k]? =some uid
 ·have U':=(List.getElem?_eq_some_iff.1 hq).1;have lh:oq l uid k=(k:Int)+1:=if_pos hq;have hrm:Rl l uid k=l.eraseIdx k:=if_pos hq;have HP:=ac5 lh;have HR:=ac5 hrm;rw [lh]
  obtain⟨g,off,rfl, -⟩:∃g off,A=some ⟨g,off,none⟩/\True:=by
   obtain⟨A',c',he,_,az⟩:=H1.out.2.1.rd
   cases he
   obtain⟨b,off,rfl,_⟩:=az (by rintro rfl;simp at U');exact⟨b,off,rfl,trivial⟩
  have c1:∀n,L_ (w1.drewN n) x 0 (X_ (some ⟨g,off,none⟩) l.length c):=fun n=>H1.out.1.cell 0;have c10:L_ w1 x 0 (X_ (some ⟨g,off,none⟩) l.length c):=c1 0;have pN:IntKind.i64.wrap ((k:Int)+1-1)=k:=by rw [aM _ O_];omega
  have AU:(k:Int)+1-1=k:=O_
  have J1:IntKind.i64.wrap (k:Int)=k:=aM _ O_;have hck:c≠k:=O_
  have Pq:decide ((0:Int)<(k:Int)+1)=true:=k_ O_;have b1:(0:Int)<=(k:Int):=O_
  have b2:(k:Int)<=(l.length:Int):=O_
  have b3:(k:Int)<=(c:Int):=O_
  have b4:(0:Int)<=(k:Int)+1:=O_
  have b5:(k:Int)+1<=(l.length:Int):=O_
  have b6:(k:Int)+1<=(c:Int):=O_
  have b7:((k:Int)+1).toNat=k+1:=O_
  clear lh hrm hq;go_wp2_with fail
  obtain⟨n3,fu⟩:∃n3,l.length-(k+1)=n3:=⟨_,rfl⟩;obtain⟨m,hm⟩:∃m,l.length-1=m:=⟨_,rfl⟩;have arY:IntKind.i64.wrap ((k:Int)+(n3:Int))=(m:Int):=by rw [aM _ O_];omega
  have anL:(k:Int)+(n3:Int)=(m:Int):=O_
  have hmc:m<=c:=O_
  have Xf:(0:Int)<=(m:Int):=O_
  have hmI:(m:Int)<=(c:Int):=O_
  have hmw:IntKind.i64.wrap (m:Int)=(m:Int):=aM _ O_;have hxb:=H1.out.1.lt;have HN3:=ac5 fu;have HM:=ac5 hm;have HXG:=ac5 (fun(e:x=g)=>H1.out.2.2 (by rw [e];rfl));clear fu hm
  go_region_held3 (fun w'=>L_ w' x 0 (X_ (some ⟨g,off,none⟩) l.length c)) (first|go_keep|assumption)
   ((first
     |(refine uw (by rfl) (.tmp 20) (.tmp 26) 58 (by rfl) underlying58 aeB (g:=g) (off:=off) (c:=c) (H1.out.2.1.new (ae.refl _).drew) k U' (if c=k+1 then some ⟨g,off,none⟩else some ⟨g,off+(k+1),none⟩) (fun h=>if_neg O_) (c-(k+1)) n3 m HN3.out HM.out (by rfl) (by rfl) ?_
       intro w2 ic dU;have b2:=ac5 (Fr.ai dU H1.out.1 HXG.out);have c2:=b2.out.k0;have f2:=b2.out.frozen 0)
     |fail))
  all_goals go_wp2
  all_goals go_ret
  all_goals (
   refine⟨k,by rw [HP.out];rfl,HK.out,?_⟩
   first
    |(have Cy:c=k+1:=by assumption
      subst Cy;refine⟨X_ (some ⟨g,off,none⟩) m (k+1),?_,?_,.inl rfl⟩)
    |(refine⟨.slice (some ⟨g,off,none⟩) m c,?_,?_,.inl rfl⟩)
   ·rw [HR.out];refine⟨?_,?_,H1.out.2.2⟩
    ·exact b2.out.al 0 _
    ·exact ic.fr (Fr.setCell (S:=fun k=>k=x) (p:=⟨x,0,none⟩) (Fr.refl _ w2) (fun _=>rfl) _) fun b hb e=>H1.out.2.2 (e▸hb)
   ·have h1:QZ x (X_ (some ⟨g,off,none⟩) l.length 0) w w2:=Fr.trans' (ae.to br.drew) dU fun i _ h=>.inr (by rw [h];rfl);exact Fr.setCell h1 (fun _=>.inl rfl) _)
 ·have lh:oq l uid k=0:=if_neg hq;have hrm:Rl l uid k=l:=if_neg hq;have HP:=ac5 lh;have HR:=ac5 hrm;rw [lh];clear lh hrm hq;go_wp2;go_ret;exact⟨k,_,by rw [HP.out];rfl,HK.out,by rw [HR.out];exact H1.out,ae.to br,.inl rfl⟩
theorem gF.filter {s:List Int}(h:gF s) (p:Int->Bool):gF (s.filter p):=List.Pairwise.filter p h
theorem ux{s:List Int}(h:gF s) {k:Nat}{u:Int}(hk:s[k]? =some u):s.eraseIdx k=s.filter fun y=>y !=u:=by
 induction s generalizing k with
 |nil=>simp at hk
 |cons x s ih=>
  cases k with
  |zero=>
   obtain rfl:x=u:=by simpa using hk
   rw [List.eraseIdx_cons_zero,ku];simp only [bne_self_eq_false,Xn,if_false];exact(List.filter_eq_self.2 fun y hy=>by have:=h.head hy;simp;omega).symm
  |succ k=>
   have Bh:s[k]? =some u:=by simpa using hk
   have:=h.head (YX Bh);rw [List.eraseIdx_cons_succ,ih h.tail Bh,ku];have hxu:(x !=u)=true:=by simp;omega
   rw [if_pos hxu]
theorem KF{s:List Int}(h:gF s) {uid:Int}{k:Nat}(hk:gH s uid k):Rl s uid k=s.filter fun y=>y !=uid:=by
 unfold Rl
 split
 ·rename_i h1
  exact ux h h1
 ·rename_i h1
  refine(List.filter_eq_self.2 fun y hy=>?_).symm
  have:y≠uid:=by
   rintro rfl;exact h1 ((hk.mem h).1 hy)
  simpa using this
def ja(s:List Int) (uid:Int):List Int×Bool:=if uid=0\/∃y,s.getLast? =some y/\uid<=y then(s,false)else(s++[uid],true)
theorem gF.last {s:List Int}(h:gF s) {y z:Int}(hy:s.getLast? =some y) (hz:z∈s):z<=y:=by
 obtain⟨i,hi⟩:=List.mem_iff_getElem?.1 hz;have hl:=(List.getElem?_eq_some_iff.1 hi).1;rw [aV]at hy;by_cases he:i=s.length-1
 ·subst he;rw [hi]at hy;cases hy;omega
 ·have:=h.get hi hy O_;omega
theorem E3{s:List Int}(h:gF s) {uid:Int}{k:Nat}(hk:gH s uid k):qU s uid k=ja s uid:=by
 unfold qU ja
 have aeD:k<s.length<->∃y,s.getLast? =some y/\uid<=y:=by
  constructor
  ·intro bJ;rcases hk.2.2 with h1|⟨y,hy,hu⟩
   ·omega
   ·obtain⟨z,hz⟩:∃z,s.getLast? =some z:=by
     rw [aV];exact⟨_,DW O_⟩
    exact⟨z,hz,Int.le_trans hu (h.last hz (YX hy))⟩
  ·rintro⟨y,hy,hu⟩;rw [aV]at hy;have hl:=(List.getElem?_eq_some_iff.1 hy).1;rcases GA (s.length-1) k with h1|h1
   ·have:=(hk.below h hy).1 h1;omega
   ·omega
 by_cases h1:uid=0\/k<s.length
 ·rw [if_pos h1,if_pos (h1.imp id aeD.1)]
 ·rw [if_neg h1,if_neg (fun h2=>h1 (h2.imp id aeD.2))]
theorem gF.app {s:List Int}(h:gF s) (uid:Int):gF (ja s uid).1:=by
 unfold ja
 split
 ·exact h
 ·rename_i hn
  refine List.pairwise_append.2 ⟨h,S_,fun a ha b hb=>?_⟩;rw [List.mem_singleton.1 hb]
  obtain⟨z,hz⟩:∃z,s.getLast? =some z:=by
   cases s with
   |nil=>simp at ha
   |cons x s=>exact⟨_,List.getLast?_cons⟩
  have h1:=h.last hz ha;rcases zJ a uid with h2|h2
  ·exact h2
  ·exact absurd (.inr ⟨z,hz,O_⟩) hn
theorem tP(s:List Int) (uid:Int):(ja s uid).1.length<=s.length+1:=by
 unfold ja
 split
 ·simp
 ·simp
theorem MP(l:List Int):(idxOf l).length<=l.length:=by
 have h:=tL (l.mergeSort fun x y=>decide (x<=y));rw [ke]at h;unfold idxOf
 split
 ·simp
 ·rename_i x t hc
  rw [hc]at h;simp at h
  split
  ·omega
  ·simp;omega
section
variable{base x:Nat}{w:World}{u:Value}{s:List Int}
theorem akf{v:Value}{l:List Int}(hv:Rd (ak .u32) w v l) (hl:l.length<=1000):
 H_ 37 #[v] w fun e w'=>∃x u,e=.returned (Q_ x)/\w.heap.size<=x/\cQ w.heap.size w' x u (idxOf l)/\ae w w':=
 (ER hv hl).mono fun _ _ ⟨x,u,h1,h2,h3,h4,h5,h6⟩=>⟨x,u,h1,h2,⟨h3,h4,h5⟩,h6⟩
theorem akg(h:cQ base w x u s) (ha:gF s) (hl:s.length<=100000) (uid:Int):
 H_ 226 #[Q_ x,U_ uid] w fun e w'=>e=.returned (I_ (placeOf s uid))/\ae w w':=
 (KC h.at_ hl uid).mono fun _ _ ⟨k,h1,h2,h3⟩=>⟨by rw [h1];exact congrArg (fun z=>Ending.returned (I_ z)) (tN ha h2),h3⟩
theorem qrm(h:cQ base w x u s) (ha:gF s) (hl:s.length<=100000) (uid:Int):
 H_ 194 #[Q_ x,U_ uid] w fun e w'=>∃u',e=.returned (I_ (placeOf s uid))/\cQ base w' x u' (s.filter fun y=>y !=uid)/\QZ x u w w'/\cM w u u':=
 (KD h hl uid).mono fun _ _ ⟨k,u',h1,h2,h3,h4,h5⟩=>⟨u',by rw [h1];exact congrArg (fun z=>Ending.returned (I_ z)) (tN ha h2),by rw [<-KF ha h2];exact h3,h4,h5⟩
theorem aeE(h:cQ base w x u s) (ha:gF s) (hb:base<=w.heap.size) (hl:s.length<=100000) (uid:Int):
 H_ 189 #[Q_ x,U_ uid] w fun e w'=>∃u',e=.returned (R_ (ja s uid).2)/\cQ base w' x u' (ja s uid).1/\QZ x u w w'/\cM w u u':=
 (ES h hb hl uid).mono fun _ _ ⟨k,u',h1,h2,h3,h4,h5⟩=>⟨u',by rw [h1,E3 ha h2],by rw [<-E3 ha h2];exact h3,h4,h5⟩
end
section
open Go.RowKit Go.Shelf Go.Proofs
attribute [local go_sem] wT
theorem MQ:(prog.info? 3).map (fun i=>(i.zero,i.size,i.bytes))=some (some (.int .i64 0),1,8):=K_
theorem MR(y:Int) (h0:0<=y) (h1:y<=4294967295) (w:World):H_ 262 #[U_ y] w fun e w'=>e=.returned (I_ y)/\w'=w:=by
 have d:IntKind.i64.wrap y=y:=aM _ O_
 go_enter func262,ntmps262
 go_wp2;go_ret;exact⟨rfl,rfl⟩
theorem Rm(A:Option Addr) (c:Nat) (l:List Int) (w:World) (hv:Rd (ak .u32) w (X_ A l.length c) l) (hl:l.length<=100000) (hb:∀y∈l,0<=y/\y<=4294967295):
 H_ 260 #[X_ A l.length c,.func (.func 262) #[] #[]] w fun e w'=>∃v,e=.returned v/\Own (ak .i64) 3 w.heap.size w' v l/\ae w w':=by
 obtain⟨i0,hi,dw,cE,dy⟩:=wF MQ;have hmx:l.length<=9223372036854775806:=O_
 have HV:=ac5 hv;have HB:=ac5 hb;clear hv hb
 go_enter func260,ntmps260
 go_wp2
 go_loopw [5,10] (fun pv iv wr=>∃k:Nat,k<=l.length/\iv=I_ k/\Hid (Own (ak .i64) 3 w.heap.size wr pv (l.take k)/\ae w wr)) (fun _ iv _=>l.length-(intOf iv).toNat)
 case atStart=>exact⟨0,Gv _,rfl,Own.nil _ _ _ _,ae.refl _⟩
 case round=>
  obtain⟨k,hk,rfl,HR⟩:=hrel;have br:=HR.out.2;obtain⟨pA,pC,rfl,_⟩:=HR.out.1.form;have UP:(l.take k).length=k:=by rw [jo];omega
  rw [UP]at HR⊢;have HPL:=ac5 UP;clear UP;by_cases dL:k<l.length
  ·obtain⟨x,hx⟩:∃x,l[k]? =some x:=⟨_,DW dL⟩;obtain⟨_,_,he,_,az⟩:=HV.out
   cases he
   obtain⟨b,off,rfl,aF⟩:=az (by rintro rfl;simp at dL)
   have c0:L_ wr b (off+k) (U_ x):=by
    have:=aF k _ hx 0 _ rfl;simp only [ak,RZ,Au]at this;exact Fr.cell br this id
   have nf:=HB.out x (YX hx);have HS:=ac5 (MR x nf.1 nf.2 wr);have nI:=gk hx;have eE:=br.size;have ic:Rd (ak .i64) (wr.alloc (G_ #[I_ x] 3)) (X_ (M_ wr) 1 1) [x]:=qK (af.new _ _ _);have yg:=ac5 ic;have Bu:=ac5 (HR.out.1.alloc (G_ #[I_ x] 3));have Gk:=ac5 nI;have Qf:=ac5 br;clear ic nI aF az hx br nf;go_wp2_with fail
   refine HS.out.mono ?_;rintro e w2 ⟨rfl,rfl⟩;go_wp2_with (at_builtin;refine aZ (E:=ak .i64) rfl _ _ _ rfl underlying31 hi dw cE dy rfl Bu.out rfl yg.out rfl (by rw [HPL.out];unfold maxLen;simp;omega) (by rw [HPL.out];simp;omega) (by rw [gz];omega) ?_;intro v3 w3 iL gP o_)
   go_roundw
   case rel=>exact⟨k+1,O_,by go_num,ac5 ⟨by rw [Gk.out];exact iL,ae.append (Qf.out.alloc _) Bu.out gP⟩⟩
   case measure=>simp [intOf];omega
  ·obtain rfl:k=l.length:=O_
   go_wp2;go_ret;have h:=HR.out;rw [iD]at h;exact⟨_,rfl,h.1,h.2⟩
theorem E6{w:World}{v x base:Nat}{g:Bool}{u:Value}{l:List Int}(KB:VW w v x g) (jd:cQ base w x u l) (hl:l.length<=50000) (A:Option Addr) (c:Nat) (s:List Rg) (hv:Rd lP w (X_ A s.length c) s) (gQ:∀r∈s,r.wf) (hs:s.length<=100000):
 H_ 199 #[Q_ v,X_ A s.length c] w fun e w'=>∃o N,e=.returned (.tuple #[o,R_ (n_ l.length s)])/\Own (ak .i64) 3 w.heap.size w' o N/\gF N/\(∀y∈N,1<=y/\y<=(l.length:Int))/\ae w w':=by
 have d:IntKind.u32.wrap (l.length:Int)=l.length:=by unfold IntKind.wrap;simp [IntKind.bits,IntKind.signed];omega
 have HL:=ac5 (qX KB jd);have HV:=ac5 (pw l.length (X_ A s.length c) s w hv O_);have HR:=ac5 hv;have HW:=ac5 gQ;clear KB jd hv gQ
 go_enter func199,ntmps199
 go_wp2_with fail
 refine HL.out.mono ?_;rintro e w1 ⟨rfl,rfl⟩;go_wp2_with fail
 refine HV.out.mono ?_;rintro e w2 ⟨rfl,n2⟩;rcases hk:n_ l.length s with _|_;all_goals have HK:=ac5 hk
 ·go_wp2;go_ret2;exact⟨_,[],by rw [HK.out];rfl,Own.nil _ _ _ _,List.Pairwise.nil,S_,n2⟩
 ·go_wp2_with fail
  refine(E5 l.length O_ O_ A c s w2 (HR.out.new n2) HW.out hs).mono ?_;rintro e w3 ⟨vn,N,rfl,cl,hN,n3⟩;obtain⟨nA,nC,rfl,_⟩:=cl.form;have hlen:=uS hN.1 hN.2.1 O_;have HE:=ac5 (Rm nA nC N w3 cl.rd O_ fun y hy=>by have:=hN.2.1 y hy;omega);have HN:=ac5 hN;clear cl hN;go_wp2_with fail
  refine HE.out.mono ?_;rintro e w4 ⟨o,rfl,ho,n4⟩;go_wp2;go_ret2;exact⟨o,N,by rw [HK.out];rfl,ho.mono (by have:=n2.size;have:=n3.size;omega),HN.out.1,HN.out.2.1,(n2.trans n3).trans n4⟩
end
section
open Go.RowKit Go.Shelf Go.Proofs
attribute [local go_sem] wT
theorem KG{w:World}{v x base:Nat}{g:Bool}{u:Value}{l:List Int}(hv:VW w v x g) (hi:cQ base w x u l) (hl:l.length<=100000) (p:Int):
 H_ 19 #[Q_ v,I_ p] w fun e w'=>e=.returned (.tuple #[U_ (jQ l p).1,R_ (jQ l p).2])/\w'=w:=by
 have c0:=hv.k0;have HA:=ac5 (U8 hi.at_ hl p);clear hv hi
 go_enter func19,ntmps19
 go_wp2_with fail
 refine HA.out.mono ?_;rintro e w1 ⟨rfl,rfl⟩;go_wp2;go_ret2;exact⟨rfl,rfl⟩
def KX(R:Nat->Prop) (W W':World):Prop:=W.heap.size<=W'.heap.size/\∀k,R k->k<W.heap.size->W'.heap[k]? =W.heap[k]?
theorem KX.refl (R:Nat->Prop) (W:World):KX R W W:=⟨aA _,fun _ _ _=>rfl⟩
theorem KX.trans {R:Nat->Prop}{A B C:World}(h:KX R A B) (k:KX R B C):KX R A C:=⟨gy h.1 k.1,fun i hi hl=>(k.2 i hi (fw hl h.1)).trans (h.2 i hi hl)⟩
theorem KX.lI {R S:Nat->Prop}{W W':World}(h:Fr S W W') (hS:∀k,k<W.heap.size->R k->¬S k):KX R W W':=⟨h.size,fun k hk hl=>h.block k hl (hS k hl hk)⟩
theorem KX.put {R:Nat->Prop}{w:World}(hR:∀k,R k->k<w.heap.size) (W:World) (l:Nat) (o o':Obj) (hl:w.heap.size<=l) (_h:W.heap[l]? =some o) (_:o.isCells=false) (_:o.isWalk=false):KX R W (W.putObj l o'):=
 have hg:=bH W l o'
 ⟨hg.size,fun k hk bJ=>hg.block k bJ fun e=>by
   cases e
   have:=hR l hk;omega⟩
theorem KX.ai {R:Nat->Prop}{W W':World}(h:KX R W W') {k:Nat}{t:TypeId}{cs:Array Value}(hb:af W k t cs) (hk:R k):af W' k t cs:=(h.2 k hk hb.lt).trans hb
structure VX(v x base bs Bs Bv:Nat) (g:Bool) (u sv:Value) (l N:List Int) (W:World):Prop where
 vw:VW W v x g
 ix:cQ base W x u l
 s:Own (ak .i64) 3 bs W sv N
 b:af W Bs 31 #[sv]
 p:af W Bv 55 #[Q_ v]
def Vg(v x Bs Bv:Nat) (u sv:Value) (k:Nat):Prop:=k=v\/k=x\/k=Bs\/k=Bv\/u.ownBlock=some k\/sv.ownBlock=some k
theorem VX.du {v x base bs Bs Bv:Nat}{g:Bool}{u sv:Value}{l N:List Int}{W W':World}(h:VX v x base bs Bs Bv g u sv l N W) (k:KX (Vg v x Bs Bv u sv) W W'):VX v x base bs Bs Bv g u sv l N W' where
 vw:=k.ai h.vw (.inl rfl)
 ix:=⟨k.ai h.ix.1 (.inr (.inl rfl)),h.ix.2.1.du k.1 fun b hb=>k.2 b (iO (.inl hb)) (h.ix.2.1.block hb).2,h.ix.2.2⟩
 s:=h.s.du fun b hb=>k.2 b (gd hb) (h.s.block hb).2
 b:=k.ai h.b (cu (.inl rfl))
 p:=k.ai h.p (dS (.inl rfl))
theorem VX.lt {v x base bs Bs Bv:Nat}{g:Bool}{u sv:Value}{l N:List Int}{W:World}(h:VX v x base bs Bs Bv g u sv l N W):∀k,Vg v x Bs Bv u sv k->k<W.heap.size:=by
 rintro k (rfl|rfl|rfl|rfl|hk|hk)
 ·exact h.vw.lt
 ·exact h.ix.1.lt
 ·exact h.b.lt
 ·exact h.p.lt
 ·exact(h.ix.2.1.block hk).2
 ·exact(h.s.block hk).2
abbrev XI(l:List Int):Type:={p:Int×Int // jQ l p.1=(p.2,true)}
theorem MS(n:Nat) (hn:1<=n) (CC:Nat) {v x base bs Bs Bv:Nat}{g:Bool}{u sv:Value}{l N:List Int}(hN:∀y∈N,1<=y/\y<=(l.length:Int)) (hl:l.length<=50000) (hNl:N.length<=50000)
 (J Jx:List (XI l)->World->Prop) (W:World)
 (hY:∀pre x' W1,J pre W1->pre.length<N.length->YieldAt Fence.wide (n-1) prog CC #[I_ x'.1.1,U_ x'.1.2] W1 fun e W'=>
   (e=.returned (R_ true)/\J (pre++[x']) W'/\KX (Vg v x Bs Bv u sv) W1 W')\/(e=.returned (R_ false)/\Jx (pre++[x']) W'))
 (hV:VX v x base bs Bs Bv g u sv l N W) (UO:J [] W):
 CallsIn Fence.wide n prog 263 #[.func (.yield CC) #[] #[],Q_ Bs,Q_ Bv] W fun e W'=>(∃v,e=.returned v)/\((∃xs:List (XI l),xs.map (fun p=>p.1.1)=N/\J xs W')\/∃pre,Jx pre W'):=by
 have cb:=hV.b.k0;obtain⟨A,c,rfl,_⟩:=hV.s.form;have HY:=ac5 hY;have HJ0:Hid (J [] W):=UO;have HN:=ac5 hN;have HV:=ac5 hV;clear hY UO hN hV;refine rW func263 rfl trivial ?_ rfl;simp only [ntmps263,PA,iU,WL,Nat.reduceAdd,Nat.reduceSub,rX,rY,eL,iY,Qv,OZ]
 gi_wp2_with fail
 gi_loopw [10] (fun iv wr=>∃pre:List (XI l),pre.length<=N.length/\iv=I_ pre.length/\Hid (pre.map (fun p=>p.1.1)=N.take pre.length/\J pre wr/\KX (Vg v x Bs Bv u (X_ A N.length c)) W wr)) (fun iv _=>N.length-(intOf iv).toNat)
 case atStart=>exact⟨[],Gv _,rfl,ac5 ⟨rfl,HJ0.out,KX.refl _ _⟩⟩
 case round=>
  obtain⟨pre,hk,rfl,HR⟩:=hrel;by_cases dL:pre.length<N.length
  ·obtain⟨y,hy⟩:∃y,N[pre.length]? =some y:=⟨_,DW dL⟩;have hVr:=HV.out.du HR.out.2.2;obtain⟨_,_,he,_,az⟩:=hVr.s.rd
   cases he
   obtain⟨b,off,rfl,aF⟩:=az (by rintro rfl;simp at dL)
   have c0:L_ wr b (off+pre.length) (I_ y):=by
    have:=aF pre.length _ hy 0 _ rfl;simpa only [ak,RZ,Au]using this
   have c1:=hVr.p.k0;have Gw:=HN.out y (YX hy);have hAt:=KG hVr.vw hVr.ix O_ y
   obtain⟨z,hz⟩:∃z,jQ l y=(z,true):=by
    unfold jQ;rw [if_pos Gw];exact⟨_,rfl⟩
   rw [hz]at hAt;obtain⟨q,hq⟩:∃q:XI l,q.1=(y,z):=⟨⟨(y,z),hz⟩,rfl⟩;obtain⟨fn,tmps,assign,body,hyy,hR⟩:=HY.out pre q wr HR.out.2.1 dL;rw [hq]at hyy;have HAT:=ac5 hAt;have HYK:=ac5 hy;have HQ:=ac5 hq;clear hAt aF az hy hVr Gw hz hq
   gi_wp2_with fail
   refine⟨trivial,?_⟩;refine(callsIn_wide.2 HAT.out).mono ?_;rintro e w2 ⟨rfl,rfl⟩
   gi_wp2
   refine hR.mono ?_;rintro e W3 (⟨rfl,hJ3,uO⟩|⟨rfl,Qi⟩)
   ·have HK3:=ac5 (And.intro uO hJ3);clear uO hJ3
    gi_wp2
    go_roundw
    ·refine⟨pre++[q],by simp;omega,S_,ac5 ⟨?_,HK3.out.2,HR.out.2.2.trans HK3.out.1⟩⟩;rw [ta,JI,HR.out.1,HQ.out,dr,dK,gk HYK.out]
    ·simp [intOf];omega
   ·gi_wp2
    refine r_ (G6 rfl _ _ _) rfl ?_;exact⟨⟨_,rfl⟩,.inr ⟨_,Qi⟩⟩
  ·have hlen:pre.length=N.length:=O_
   rw [hlen]at HR⊢
   gi_wp2
   go_end0;have h:=HR.out;rw [iD]at h;exact⟨⟨_,rfl⟩,.inl ⟨pre,h.1,h.2.1⟩⟩
end
section
open Go.RowKit Go.Shelf Go.Proofs
attribute [local go_sem] wT
theorem MT(v:Nat) (A:Option Addr) (n c:Nat) (w:World):H_ 200 #[Q_ v,X_ A n c] w fun e w'=>e=.returned (.func (.func 263) #[] #[Q_ (w.heap.size+1),Q_ w])/\
 w'=(w.alloc (G_ #[Q_ v] 55)).alloc (G_ #[X_ A n c] 31):=by
 have hmf:=atQ
 go_enter func200,ntmps200
 go_wp2;go_ret;exact⟨rfl,rfl⟩
def CI(W:World) (k:Nat):Prop:=(∃o:Obj,W.heap[k]? =some o/\o.isCells=false)\/∃t cs,af W k t cs/\(t=50\/t=198\/t=53)
structure uW(B v x:Nat) (u:Value) (W W':World):Prop where
 kf:KeepsFrom B W W'
 kx:∀k,k=v\/k=x\/u.ownBlock=some k->k<W.heap.size->W'.heap[k]? =W.heap[k]?
 kt:∀k t cs,af W k t cs->B<=k->(t=50\/t=198\/t=53\/t=246\/t=55\/t=31\/t=3)->af W' k t cs
structure kD{α:Type}(B OB EB:Nat) (PR:cV->World->Prop) (I:List α->World->Prop) (pre:List α) (vo:Value) (lo:List cV) (code:Int) (W:World):Prop where
 i:I pre W
 o:af W OB 50 #[vo]
 e:af W EB 198 #[I_ code]
 r:Own cG 53 B W vo lo
 p:∀r∈lo,PR r W
 len:lo.length<=pre.length
 code:code=0\/code=7
theorem kD.turn {α:Type}{w0:World}{OB EB B':Nat}{PR:cV->World->Prop}{I:List α->World->Prop}{pre:List α}{vo:Value}{lo:List cV}{code:Int}{W W':World}
 (h:kD w0.heap.size OB EB PR I pre vo lo code W)
 (hI:∀pre W W',I pre W->Fr (fun k=>w0.heap.size<=k/\CI W k) W W'->I pre W') (hP:∀r W W',PR r W->Fr (fun k=>w0.heap.size<=k/\CI W k) W W'->PR r W')
 (t:iH B' W W') (hB:w0.heap.size<=B'):kD w0.heap.size OB EB PR I pre vo lo code W':=
 have hf:Fr (fun k=>w0.heap.size<=k/\CI W k) W W':=t.fr fun k hk ho=>⟨O_,.inl ho⟩
 {i:=hI _ _ _ h.i hf,o:=t.ai h.o,e:=t.ai h.e,r:=t.own h.r,p:=fun r hr=>hP _ _ _ (h.p r hr) hf,len:=h.len,code:=h.code}
theorem kD.drew {α:Type}{w0:World}{OB EB:Nat}{PR:cV->World->Prop}{I:List α->World->Prop}{pre:List α}{vo:Value}{lo:List cV}{code:Int}{W:World}
 (h:kD w0.heap.size OB EB PR I pre vo lo code W)
 (hI:∀pre W W',I pre W->Fr (fun k=>w0.heap.size<=k/\CI W k) W W'->I pre W') (hP:∀r W W',PR r W->Fr (fun k=>w0.heap.size<=k/\CI W k) W W'->PR r W'):kD w0.heap.size OB EB PR I pre vo lo code W.drew:=
 {i:=hI _ _ _ h.i (Fr.drew (Fr.refl _ _)),o:=af.drew h.o,e:=af.drew h.e,r:=h.r.drew,p:=fun r hr=>hP _ _ _ (h.p r hr) (Fr.drew (Fr.refl _ _)),len:=h.len,code:=h.code}
theorem kD.after {α:Type}{w0:World}{OB EB B' v x base bs Bs Bv:Nat}{g:Bool}{u sv:Value}{l N:List Int}{PR:cV->World->Prop}{I:List α->World->Prop}{pre:List α}{vo:Value}{lo:List cV}{code:Int}{W W':World}
 (h:kD w0.heap.size OB EB PR I pre vo lo code W) (hO:w0.heap.size<=OB) (hE:w0.heap.size<=EB) (hV:VX v x base bs Bs Bv g u sv l N W)
 (hI:∀pre W W',I pre W->Fr (fun k=>w0.heap.size<=k/\CI W k) W W'->I pre W') (hP:∀r W W',PR r W->Fr (fun k=>w0.heap.size<=k/\CI W k) W W'->PR r W')
 (hf:Fr (fun k=>k=EB\/k=OB\/vo.ownBlock=some k) W W'):I pre W'/\(∀r,PR r W->PR r W')/\KX (Vg v x Bs Bv u sv) W W'/\KeepsFrom B' W W'/\∀k t cs,af W k t cs->t≠50->t≠198->t≠53->af W' k t cs:=by
 have E7:∀k,(k=EB\/k=OB\/vo.ownBlock=some k)->w0.heap.size<=k/\∃t cs,af W k t cs/\(t=50\/t=198\/t=53):=by
  rintro k (rfl|rfl|hk)
  ·exact⟨hE,_,_,h.e,.inr (.inl rfl)⟩
  ·exact⟨hO,_,_,h.o,.inl rfl⟩
  ·obtain⟨cs,hc⟩:=h.r.heap hk;exact⟨(h.r.block hk).1,_,cs,hc,.inr (.inr rfl)⟩
 have aeJ:=hf.mono (T:=fun k=>w0.heap.size<=k/\CI W k) fun k _ hk=>⟨(E7 k hk).1,.inr (E7 k hk).2⟩
 have db:∀(k:Nat) (t:TypeId) (cs:Array Value),af W k t cs->t≠50->t≠198->t≠53->¬(k=EB\/k=OB\/vo.ownBlock=some k):=by
  intro k t cs hb h1 h2 h3 hk;obtain⟨_,t',kL,ng,ht⟩:=E7 k hk;have e:=hb.symm.trans ng
  cases e
  rcases ht with rfl|rfl|rfl
  ·exact h1 rfl
  ·exact h2 rfl
  ·exact h3 rfl
 refine⟨hI _ _ _ h.i aeJ,fun r hr=>hP _ _ _ hr aeJ,KX.lI hf ?_,fy hf fun k _ hk o ho=>?_,fun k t cs hb h1 h2 h3=>hf.ai hb (db k t cs hb h1 h2 h3)⟩
 ·rintro k _ (rfl|rfl|rfl|rfl|hk|hk)
  ·exact db _ _ _ hV.vw D_ D_ D_
  ·exact db _ _ _ hV.ix.1 D_ D_ D_
  ·exact db _ _ _ hV.b D_ D_ D_
  ·exact db _ _ _ hV.p D_ D_ D_
  ·rcases hV.ix.2.1 with⟨e,_⟩|⟨g',_,_,e,_,⟨cs,hc⟩,_⟩
   ·rw [e]at hk;cases hk
   ·rw [e]at hk
    cases hk
    exact db _ _ _ hc D_ D_ D_
  ·obtain⟨cs,hc⟩:=hV.s.heap hk;exact db _ _ _ hc D_ D_ D_
 ·obtain⟨_,t,cs,hb,_⟩:=E7 k hk;exact hb.isCells o ho
theorem VX.turn {v x base bs Bs Bv B:Nat}{g:Bool}{u sv:Value}{l N:List Int}{W W':World}(h:VX v x base bs Bs Bv g u sv l N W) (t:iH B W W'):VX v x base bs Bs Bv g u sv l N W':=by
 refine h.du (KX.lI t.G3 ?_);have db:∀(k:Nat) (t:TypeId) (cs:Array Value),af W k t cs->¬∃o:Obj,W.heap[k]? =some o/\o.isCells=false:=fun k t cs hb ⟨o,ho,hc⟩=>by rw [hb.isCells o ho]at hc;cases hc
 rintro k _ (rfl|rfl|rfl|rfl|hk|hk)
 ·exact db _ _ _ h.vw
 ·exact db _ _ _ h.ix.1
 ·exact db _ _ _ h.b
 ·exact db _ _ _ h.p
 ·rcases h.ix.2.1 with⟨e,_⟩|⟨g',_,_,e,_,⟨cs,hc⟩,_⟩
  ·rw [e]at hk;cases hk
  ·rw [e]at hk
   cases hk
   exact db _ _ _ hc
 ·obtain⟨cs,hc⟩:=h.s.heap hk;exact db _ _ _ hc
theorem kD.called {α:Type}{B OB EB v x base bs Bs Bv:Nat}{g:Bool}{u sv:Value}{l N:List Int}{PR:cV->World->Prop}{I:List α->World->Prop}{pre ZP:List α}{vo:Value}{lo:List cV}{code:Int}{W W':World}
 (h:kD B OB EB PR I pre vo lo code W) (hO:B<=OB) (hE:B<=EB) (QW:B<=Bs) (hBv:B<=Bv) (iZ:B<=bs) (hV:VX v x base bs Bs Bv g u sv l N W)
 (hk:uW B v x u W W') (hi:I ZP W') (hp:∀r,PR r W->PR r W') (hl:pre.length<=ZP.length):kD B OB EB PR I ZP vo lo code W'/\KX (Vg v x Bs Bv u sv) W W':=by
 refine⟨{i:=hi,o:=hk.kt _ _ _ h.o hO (.inl rfl),e:=hk.kt _ _ _ h.e hE (.inr (.inl rfl)),r:=h.r.du fun b hb=>?_,p:=fun r hr=>hp r (h.p r hr),len:=gy h.len hl,code:=h.code},hk.kf.size,?_⟩
 ·obtain⟨cs,hc⟩:=h.r.heap hb;exact(hk.kt _ _ _ hc (h.r.block hb).1 (cu (.inl rfl))).trans hc.symm
 ·rintro k (rfl|rfl|rfl|rfl|hu|hu) bJ
  ·exact hk.kx _ (.inl rfl) bJ
  ·exact hk.kx _ (.inr (.inl rfl)) bJ
  ·exact(hk.kt _ _ _ hV.b QW (gd (.inl rfl))).trans hV.b.symm
  ·exact(hk.kt _ _ _ hV.p hBv (iO (.inl rfl))).trans hV.p.symm
  ·exact hk.kx _ (.inr (.inr hu)) bJ
  ·obtain⟨cs,hc⟩:=hV.s.heap hu;exact(hk.kt _ _ _ hc (gy iZ (hV.s.block hu).1) (lX rfl)).trans hc.symm
theorem KeepsFrom.from_ {B B':Nat}{W W':World}(h:KeepsFrom B W W') (hB:B<=B'):KeepsFrom B' W W':=⟨h.size,fun k o hk=>h.same k o (gy hB hk)⟩
theorem kD.fin {α:Type}{w0:World}{OB EB AB B' v x base bs Bs Bv:Nat}{g:Bool}{u sv av:Value}{l N:List Int}{PR:cV->World->Prop}{I:List α->World->Prop}{pre:List α}{vo:Value}{lo:List cV}{code:Int}{W0 W W':World}{T:Prop}
 (h:kD w0.heap.size OB EB PR I pre vo lo code W/\VX v x base bs Bs Bv g u sv l N W/\KX (Vg v x Bs Bv u sv) W0 W/\KeepsFrom w0.heap.size W0 W/\af W AB 246 #[av]/\T) (hO:w0.heap.size<=OB) (hE:w0.heap.size<=EB) (hB':w0.heap.size<=B')
 (hI:∀pre W W',I pre W->Fr (fun k=>w0.heap.size<=k/\CI W k) W W'->I pre W') (hP:∀r W W',PR r W->Fr (fun k=>w0.heap.size<=k/\CI W k) W W'->PR r W')
 (hf:Fr (fun k=>k=EB\/k=OB\/vo.ownBlock=some k) W W') {i_:Value}{iR:List cV}{KH:Int}(o6:af W' OB 50 #[i_]) (e6:af W' EB 198 #[I_ KH]) (r6:Own cG 53 w0.heap.size W' i_ iR)
 (p6:∀r∈iR,r∈lo\/PR r W) (l6:iR.length<=pre.length) (c6:KH=0\/KH=7):
 KeepsFrom B' W0 W'/\KX (Vg v x Bs Bv u sv) W0 W'/\∃vo lo code,kD w0.heap.size OB EB PR I pre vo lo code W'/\af W' AB 246 #[av]/\VX v x base bs Bs Bv g u sv l N W':=by
 obtain⟨h1,h2,h3,h4,h5,_⟩:=h;obtain⟨a1,a2,a3,a4,a5⟩:=h1.after (B':=B') hO hE h2 hI hP hf;exact⟨(KeepsFrom.from_ h4 hB').trans a4,h3.trans a3,i_,iR,KH,{i:=a1,o:=o6,e:=e6,r:=r6,p:=fun r hr=>(p6 r hr).elim (fun h=>a2 r (h1.p r h)) (a2 r),len:=l6,code:=c6},a5 _ _ _ h5 D_ D_ D_,h2.du a3⟩
theorem KI{v x base:Nat}{g:Bool}{u:Value}{l:List Int}(hl:l.length<=50000) (fn:Nat) (cap:Array Value) (hE:∀args w,(callFunc fn args).run prog w=.ok (.enter fn args) w)
 (A:Option Addr) (c:Nat) (s:List Rg) (gQ:∀r∈s,r.wf) (hs:s.length<=100000) (w:World)
 (I:List (XI l)->World->Prop) (PR:cV->World->Prop)
 (hI:∀pre W W',I pre W->Fr (fun k=>w.heap.size<=k/\CI W k) W W'->I pre W')
 (hP:∀r W W',PR r W->Fr (fun k=>w.heap.size<=k/\CI W k) W W'->PR r W')
 (hdo:∀pre (y:XI l) W,I pre W->pre.length<l.length->w.heap.size<=W.heap.size->H_ fn (#[.int .i64 y.1.1,.int .u32 y.1.2]++cap) W fun e W'=>∃(r:cV) (told there:Bool),e=.returned (.tuple #[r.val,R_ told,R_ there])/\(told=true->PR r W')/\
   I (pre++[y]) W'/\uW w.heap.size v x u W W'/\∀r,PR r W->PR r W')
 (KB:VW w v x g) (jd:cQ base w x u l) (hv:Rd lP w (X_ A s.length c) s) (h0:I [] w):
 H_ 145 #[.agg #[.func (.func fn) #[] cap],Q_ v,X_ A s.length c] w fun e W'=>∃vo lo code,e=.returned (.tuple #[vo,I_ code])/\Own cG 53 w.heap.size W' vo lo/\(∀r∈lo,PR r W')/\lo.length<=l.length/\(code=0\/code=3\/code=7)/\∃pre,pre.length<=l.length/\I pre W':=by
 obtain⟨i0,hi,dw,cE,dy⟩:=wF qk;have n1:ae w (W_ w #[.func (.func fn) #[] cap] 246):=(ae.refl w).alloc _;have HS:=ac5 (E6 (n1.ai KB) (jd.new n1) hl A c s (hv.new n1) gQ hs);have HI0:Hid (I [] w):=h0;have HI:=ac5 hI;have HDO:=ac5 hdo;have HP:=ac5 hP;have HV:=ac5 (And.intro KB jd);clear hv gQ h0 hI hdo hP KB jd n1;refine(ay (n:=6)).1 ?_;refine jJ func145 rfl trivial ?_ rfl;simp only [ntmps145,PA,iU,WL,Nat.reduceAdd,Nat.reduceSub,rX,rY,eL,iY,Qv,OZ]
 gi_wp2_with fail
 refine⟨trivial,?_⟩;refine(callsIn_wide.2 HS.out).mono ?_;rintro e w1 ⟨o,N,rfl,cl,Vh,hN,n1⟩;obtain⟨oA,oC,rfl,_⟩:=cl.form;have Rn:=n1.size;rw [gz]at Rn;have aeK:Fr (fun k=>w.heap.size<=k/\CI w k) w w1:=((ae.refl w).alloc _ |>.trans n1).mono fun _ _ h=>h.elim
 cases hk:n_ l.length s
 ·gi_wp2
  refine⟨_,cF rfl _ _ _,_,[],3,rfl,Own.nil _ _ _ _,S_,S_,.inr (.inl rfl),[],Gv _,HI.out _ _ _ HI0.out aeK⟩
 ·gi_wp2_with fail
  refine⟨trivial,?_⟩;refine(callsIn_wide.2 (MT v oA N.length oC _)).mono ?_;rintro e w2 ⟨rfl,AU⟩
  gi_wp2_with fail
  clear AU;have hNl:=uS Vh hN O_;have akj:N.length<=l.length:=O_
  have ba:=n1.ai (af.new _ _ _);have nW:ae w1 (W_ (W_ (W_ (W_ w1 #[Z_] 50) #[I_ 0] 198) #[Q_ v] 55) #[X_ oA N.length oC] 31):=((((ae.refl w1).alloc _).alloc _).alloc _).alloc _
  have hVX:VX v x base (w.heap.size+1) (w1.heap.size+1+1+1) (w1.heap.size+1+1) g u (X_ oA N.length oC) l N (W_ (W_ (W_ (W_ w1 #[Z_] 50) #[I_ 0] 198) #[Q_ v] 55) #[X_ oA N.length oC] 31):=
   {vw:=nW.ai (n1.ai (ae.ai ((ae.refl w).alloc _) HV.out.1)),ix:=((HV.out.2.new ((ae.refl w).alloc _)).new n1).new nW,s:=by have:=cl.new nW;rwa [gz]at this,
    b:=by
     have:=af.new (W_ (W_ (W_ w1 #[Z_] 50) #[I_ 0] 198) #[Q_ v] 55) 31 #[X_ oA N.length oC];simpa only [gz]using this
    p:=by
     have:=(af.new (W_ (W_ w1 #[Z_] 50) #[I_ 0] 198) 55 #[Q_ v]).alloc (G_ #[X_ oA N.length oC] 31);simpa only [gz]using this}
  have hS:SeqStopsK Fence.wide (6-1) prog 263 #[Q_ (w1.heap.size+1+1+1),Q_ (w1.heap.size+1+1)] (fun y:XI l=> #[I_ y.1.1,U_ y.1.2]) (KX (Vg v x (w1.heap.size+1+1+1) (w1.heap.size+1+1) u (X_ oA N.length oC))) (fun xs=>xs.map (fun p=>p.1.1)=N) (fun _=>True) N.length (W_ (W_ (W_ (W_ w1 #[Z_] 50) #[I_ 0] 198) #[Q_ v] 55) #[X_ oA N.length oC] 31):=by
   intro CC J Jx W hb hJ _ hY UO;refine(MS (6-1) O_ CC hN hl O_ J Jx W hY (hVX.du (KX.lI (ae.eF hb) fun _ _ _ h=>h)) UO).mono ?_;rintro e w' ⟨he,h⟩;exact⟨he,h.imp id fun⟨pre,hp⟩=>⟨pre,trivial,hp⟩⟩
  have bJ:=hVX.lt;have HVL:=ac5 bJ
  have Xq:kD w.heap.size w1.heap.size (w1.heap.size+1) PR I ([]:List (XI l)) Z_ [] 0 (W_ (W_ (W_ (W_ w1 #[Z_] 50) #[I_ 0] 198) #[Q_ v] 55) #[X_ oA N.length oC] 31):=
   {i:=HI.out _ _ _ HI0.out (aeK.trans (nW.mono fun _ _ h=>h.elim)),o:=(((af.new _ _ _).alloc _).alloc _).alloc _
    e:=by
     have:=((af.new (W_ w1 #[Z_] 50) 198 #[I_ 0]).alloc (G_ #[Q_ v] 55)).alloc (G_ #[X_ oA N.length oC] 31);simpa only [gz]using this
    r:=Own.nil _ _ _ _,p:=S_,len:=S_,code:=.inl rfl}
  have hba:=nW.ai ba
  refine wpIn_rangeFunc_ownH rfl O_ (gf:=263) (lb:= #[Q_ (w1.heap.size+1+1+1),Q_ (w1.heap.size+1+1)]) rfl trivial (Aw func263 K_ rfl)
   hS KX.trans (KX.put bJ) (zm _ _) (fun _=>rfl)
   (fun pre W=>∃vo lo code,kD w.heap.size w1.heap.size (w1.heap.size+1) PR I pre vo lo code W/\af W w 246 #[.func (.func fn) #[] cap]/\VX v x base (w.heap.size+1) (w1.heap.size+1+1+1) (w1.heap.size+1+1) g u (X_ oA N.length oC) l N W)
   (fun _ _ _=>False)
   (bN fun s W W' hs t=>?_)
   (fun _ _ _ _ _ hs _ _=>hs)
   ⟨_,_,_,Xq,hba,hVX⟩
   (fun y a' _=>a'={tmps:= #[.agg #[.func (.func fn) #[] cap],.pointer (M_ v),.slice A s.length c,.pointer (M_ w),undef,undef,.slice none 0 0,.int .i64 0,.slice oA N.length oC,.bool true,.pointer (M_ w1),.pointer (M_ (w1.heap.size+1)),.int .i64 y.1.1,.int .u32 y.1.2,undef,undef,undef,.tuple #[.slice oA N.length oC,.bool true],.pointer (M_ v),.slice A s.length c,.tuple #[.slice oA N.length oC,.bool true],.slice oA N.length oC,.bool true,.bool true,.bool false,.pointer (M_ v),.slice oA N.length oC,.func (.func 263) #[] #[.pointer (M_ (w1.heap.size+1+1+1)),.pointer (M_ (w1.heap.size+1+1))],.int .i64 y.1.1,.int .u32 y.1.2,undef,undef,undef,undef,undef,undef,undef,undef,undef,undef,undef,undef,undef,undef,undef,undef,undef,undef],defers:=[]})
   (fun y a'=>ownFrom_pure _ _) ?assign ?body ?done ?stop
  ·obtain⟨vo,lo,code,hr,hb,hvx⟩:=hs;exact⟨vo,lo,code,hr.turn HI.out HP.out t (by have:=nW.size;omega),t.ai hb,hvx.turn t⟩
  case assign=>
   rintro CC pre y W K hi hK
   gi_wp2
   exact hK _ _ (KeepsFrom.refl _ _) (KX.refl _ _) hi rfl
  case body=>
   rintro CC pre y a' W aeF hlr ⟨vo,lo,code,hr,hb,hvx⟩ rfl akk;have q0:=hb.k0;have nV:=hb.lt;have HD:=ac5 (HDO.out pre y W hr.i (fw akk akj) O_);have HR:=ac5 (And.intro hr (And.intro hb hvx));clear hr hb hvx hVX hS Xq hba hlr
   gi_wp2_with fail
   refine⟨trivial,?_⟩;refine(XJ CC (callsIn_wide.2 HD.out)).mono ?_;rintro e W3 ⟨⟨rk,rn,rt,de,rx,cT,cw,aY,cW,rA,dh,cY⟩,told,there,rfl,mh,EI,uO,pT⟩;dsimp only [cV.val];obtain⟨h3,kx3⟩:=HR.out.1.called O_ O_ O_ O_ O_ HR.out.2.2 uO EI pT S_;have HC:=ac5 (And.intro h3 (And.intro (HR.out.2.2.du kx3) (And.intro kx3 (And.intro uO.kf (And.intro (uO.kt _ _ _ HR.out.2.1 (aA _) (dS (.inl rfl))) (And.intro mh HR.out.1.len))))));clear h3 kx3 uO mh EI pT HR HD
   cases there<;>cases told
   ·have xV:=HC.out.1.e;have fg:=HC.out.1.o;have qe0:∀o,L_ (W3.alloc o) (w1.heap.size+1) 0 (I_ code):=fun o=>(xV.alloc o).cell 0;have qe1:∀o i,(W3.alloc o).frozen? (C_ (w1.heap.size+1) i)=false:=fun o i=>(xV.alloc o).frozen i;have Ec:Fr (fun k=>k=w1.heap.size+1\/k=w1.heap.size\/vo.ownBlock=some k) W3 ((W3.alloc (G_ #[I_ rk,U_ rn,T_ rt,I_ de,T_ rx,I_ cT,B_ cw,U_ aY,U_ cW,X_ rA dh cY] 53)).setCell (C_ (w1.heap.size+1) 0) (I_ 7)):=((Fr.refl _ W3).alloc _).setCell (p:=⟨w1.heap.size+1,0,none⟩) (fun _=>.inl rfl) _;have Ro:af ((W3.alloc (G_ #[I_ rk,U_ rn,T_ rt,I_ de,T_ rx,I_ cT,B_ cw,U_ aY,U_ cW,X_ rA dh cY] 53)).setCell (C_ (w1.heap.size+1) 0) (I_ 7)) (w1.heap.size+1) 198 #[I_ 7]:=(xV.alloc _).al 0 _;have kW:af ((W3.alloc (G_ #[I_ rk,U_ rn,T_ rt,I_ de,T_ rx,I_ cT,B_ cw,U_ aY,U_ cW,X_ rA dh cY] 53)).setCell (C_ (w1.heap.size+1) 0) (I_ 7)) w1 50 #[vo]:=(One.set (One.refl (w1.heap.size+1) _) 0 _).ai (fg.alloc _) O_;have Ml:Own cG 53 w.heap.size ((W3.alloc (G_ #[I_ rk,U_ rn,T_ rt,I_ de,T_ rx,I_ cT,B_ cw,U_ aY,U_ cW,X_ rA dh cY] 53)).setCell (C_ (w1.heap.size+1) 0) (I_ 7)) vo lo:=(HC.out.1.r.alloc _).fr (One.set (One.refl (w1.heap.size+1) _) 0 _) fun b hb e=>(HC.out.1.r.aD xV D_) (by rw [hb,e]);have HF:=ac5 (And.intro Ec (And.intro kW (And.intro Ro Ml)));clear Ec Ro kW Ml xV fg
    gi_wp2_with fail
    obtain⟨f1,f2,xa,xb,xc,f3,f4,f5⟩:=kD.fin (B':=w1.heap.size+1+1+1+1) HC.out O_ O_ O_ HI.out HP.out HF.out.1 HF.out.2.1 HF.out.2.2.1 HF.out.2.2.2 (fun r hr=>.inl hr) HC.out.1.len (.inr rfl);refine⟨?_,f2,?_⟩
    ·first|exact f1|simpa only [gz]using f1
    ·first|exact⟨xa,xb,xc,f3,f4,f5⟩|exact⟨⟨xa,xb,xc,f3⟩,f4,f5⟩
   ·have xV:=HC.out.1.e;have fg:=HC.out.1.o;have qe0:∀o,L_ (W3.alloc o) (w1.heap.size+1) 0 (I_ code):=fun o=>(xV.alloc o).cell 0;have qe1:∀o i,(W3.alloc o).frozen? (C_ (w1.heap.size+1) i)=false:=fun o i=>(xV.alloc o).frozen i;have Ec:Fr (fun k=>k=w1.heap.size+1\/k=w1.heap.size\/vo.ownBlock=some k) W3 ((W3.alloc (G_ #[I_ rk,U_ rn,T_ rt,I_ de,T_ rx,I_ cT,B_ cw,U_ aY,U_ cW,X_ rA dh cY] 53)).setCell (C_ (w1.heap.size+1) 0) (I_ 7)):=((Fr.refl _ W3).alloc _).setCell (p:=⟨w1.heap.size+1,0,none⟩) (fun _=>.inl rfl) _;have Ro:af ((W3.alloc (G_ #[I_ rk,U_ rn,T_ rt,I_ de,T_ rx,I_ cT,B_ cw,U_ aY,U_ cW,X_ rA dh cY] 53)).setCell (C_ (w1.heap.size+1) 0) (I_ 7)) (w1.heap.size+1) 198 #[I_ 7]:=(xV.alloc _).al 0 _;have kW:af ((W3.alloc (G_ #[I_ rk,U_ rn,T_ rt,I_ de,T_ rx,I_ cT,B_ cw,U_ aY,U_ cW,X_ rA dh cY] 53)).setCell (C_ (w1.heap.size+1) 0) (I_ 7)) w1 50 #[vo]:=(One.set (One.refl (w1.heap.size+1) _) 0 _).ai (fg.alloc _) O_;have Ml:Own cG 53 w.heap.size ((W3.alloc (G_ #[I_ rk,U_ rn,T_ rt,I_ de,T_ rx,I_ cT,B_ cw,U_ aY,U_ cW,X_ rA dh cY] 53)).setCell (C_ (w1.heap.size+1) 0) (I_ 7)) vo lo:=(HC.out.1.r.alloc _).fr (One.set (One.refl (w1.heap.size+1) _) 0 _) fun b hb e=>(HC.out.1.r.aD xV D_) (by rw [hb,e]);have ud:af ((W3.alloc (G_ #[I_ rk,U_ rn,T_ rt,I_ de,T_ rx,I_ cT,B_ cw,U_ aY,U_ cW,X_ rA dh cY] 53)).setCell (C_ (w1.heap.size+1) 0) (I_ 7)) W3 53 #[I_ rk,U_ rn,T_ rt,I_ de,T_ rx,I_ cT,B_ cw,U_ aY,U_ cW,X_ rA dh cY]:=(One.set (One.refl (w1.heap.size+1) _) 0 _).ai (af.new _ _ _) (by have:=xV.lt;omega);obtain⟨⟨x0,_⟩,⟨x1,_⟩,⟨x2,_⟩,⟨x3,_⟩,⟨x4,_⟩,⟨x5,_⟩,⟨x6,_⟩,⟨x7,_⟩,⟨x8,_⟩,⟨x9,_⟩⟩:=fH ud;have qo:=kW.k0
    have ez:Rd cG (((W3.alloc (G_ #[I_ rk,U_ rn,T_ rt,I_ de,T_ rx,I_ cT,B_ cw,U_ aY,U_ cW,X_ rA dh cY] 53)).setCell (C_ (w1.heap.size+1) 0) (I_ 7)).alloc (G_ #[I_ rk,U_ rn,T_ rt,I_ de,T_ rx,I_ cT,B_ cw,U_ aY,U_ cW,X_ rA dh cY] 53)) (X_ (M_ (W3.heap.size+1)) 1 1) [⟨rk,rn,rt,de,rx,cT,cw,aY,cW,rA,dh,cY⟩]:=by
     have:=qK (E:=cG) (x:=⟨rk,rn,rt,de,rx,cT,cw,aY,cW,rA,dh,cY⟩) (af.new ((W3.alloc (G_ #[I_ rk,U_ rn,T_ rt,I_ de,T_ rx,I_ cT,B_ cw,U_ aY,U_ cW,X_ rA dh cY] 53)).setCell (C_ (w1.heap.size+1) 0) (I_ 7)) 53 #[I_ rk,U_ rn,T_ rt,I_ de,T_ rx,I_ cT,B_ cw,U_ aY,U_ cW,X_ rA dh cY]);simpa only [gz,ao]using this
    have hlen:=HC.out.2.2.2.2.2.2;have fi:lo.length+1<=100000:=O_
    have Un:w.heap.size<=(((W3.alloc (G_ #[I_ rk,U_ rn,T_ rt,I_ de,T_ rx,I_ cT,B_ cw,U_ aY,U_ cW,X_ rA dh cY] 53)).setCell (C_ (w1.heap.size+1) 0) (I_ 7)).alloc (G_ #[I_ rk,U_ rn,T_ rt,I_ de,T_ rx,I_ cT,B_ cw,U_ aY,U_ cW,X_ rA dh cY] 53)).heap.size:=by have:=xV.lt;simp only [gz,ao];omega
    have DN:=ac5 (And.intro (Ml.alloc (G_ #[I_ rk,U_ rn,T_ rt,I_ de,T_ rx,I_ cT,B_ cw,U_ aY,U_ cW,X_ rA dh cY] 53)) ez);have HF:=ac5 (And.intro Ec (And.intro (kW.alloc (G_ #[I_ rk,U_ rn,T_ rt,I_ de,T_ rx,I_ cT,B_ cw,U_ aY,U_ cW,X_ rA dh cY] 53)) (And.intro (Ro.alloc (G_ #[I_ rk,U_ rn,T_ rt,I_ de,T_ rx,I_ cT,B_ cw,U_ aY,U_ cW,X_ rA dh cY] 53)) (And.intro ((HC.out.1.r.aD fg D_)) (HC.out.1.r.aD xV D_)))));clear Ec Ro kW Ml xV fg ud ez
    gi_wp2_with (gi_at_builtin;refine dV (E:=cG) rfl _ _ _ rfl underlying50 hi dw cE dy rfl DN.out.1 rfl DN.out.2 rfl (gy fi D_) (gy (eW 104 fi) D_) Un ?_;intro v6 w6 Ob KJ Vi;have q6:L_ w6 w1 0 vo:=Fr.cell KJ (HF.out.2.1.cell 0) HF.out.2.2.2.1;have q7:=(Fr.ai KJ HF.out.2.1 HF.out.2.2.2.1).dq;obtain⟨A6,C6,XH,_⟩:=Ob.form;have KL:=ac5 (And.intro Ob (And.intro KJ Vi));clear Ob KJ Vi;generalize(lo++[_]).length=m at XH;subst XH)
    have hoW:=Fr.ai KL.out.2.1 HF.out.2.1 HF.out.2.2.2.1;have heW:=Fr.ai KL.out.2.1 HF.out.2.2.1 HF.out.2.2.2.2;have hfW:Fr (fun k=>k=w1.heap.size+1\/k=w1.heap.size\/vo.ownBlock=some k) W3 (w6.setCell (C_ w1 0) (X_ A6 m C6)):=(Fr.trans' (HF.out.1.alloc _) KL.out.2.1 fun _ _ h=>.inr (.inr h)).setCell (p:=⟨w1.heap.size,0,none⟩) (fun _=>.inr (.inl rfl)) _;obtain⟨f1,f2,xa,xb,xc,f3,f4,f5⟩:=kD.fin (B':=w1.heap.size+1+1+1+1) HC.out O_ O_ O_ HI.out HP.out hfW (hoW.al 0 _) ((One.set (One.refl w1.heap.size w6) 0 _).ai heW O_) (KL.out.1.fr (One.set (One.refl w1.heap.size w6) 0 _) fun b hb e=>KL.out.1.aD hoW D_ (by rw [hb,e])) (fun r hr=>(List.mem_append.1 hr).imp id fun h=>by rw [List.mem_singleton.1 h];exact HC.out.2.2.2.2.2.1 (by first|rfl|trivial)) (by rw [dr,dr];simp only [dK];omega) (.inr rfl);refine⟨?_,f2,?_⟩
    ·first|exact f1|simpa only [gz]using f1
    ·first|exact⟨xa,xb,xc,f3,f4,f5⟩|exact⟨⟨xa,xb,xc,f3⟩,f4,f5⟩
   ·have xV:=HC.out.1.e;have fg:=HC.out.1.o;have Ec:Fr (fun k=>k=w1.heap.size+1\/k=w1.heap.size\/vo.ownBlock=some k) W3 (W_ W3 #[I_ rk,U_ rn,T_ rt,I_ de,T_ rx,I_ cT,B_ cw,U_ aY,U_ cW,X_ rA dh cY] 53):=(Fr.refl _ W3).alloc _;have Ro:af (W_ W3 #[I_ rk,U_ rn,T_ rt,I_ de,T_ rx,I_ cT,B_ cw,U_ aY,U_ cW,X_ rA dh cY] 53) (w1.heap.size+1) 198 #[I_ code]:=xV.alloc _;have kW:af (W_ W3 #[I_ rk,U_ rn,T_ rt,I_ de,T_ rx,I_ cT,B_ cw,U_ aY,U_ cW,X_ rA dh cY] 53) w1 50 #[vo]:=fg.alloc _;have Ml:Own cG 53 w.heap.size (W_ W3 #[I_ rk,U_ rn,T_ rt,I_ de,T_ rx,I_ cT,B_ cw,U_ aY,U_ cW,X_ rA dh cY] 53) vo lo:=HC.out.1.r.alloc _;have HF:=ac5 (And.intro Ec (And.intro kW (And.intro Ro Ml)));clear Ec Ro kW Ml xV fg
    gi_wp2_with fail
    obtain⟨f1,f2,xa,xb,xc,f3,f4,f5⟩:=kD.fin (B':=w1.heap.size+1+1+1+1) HC.out O_ O_ O_ HI.out HP.out HF.out.1 HF.out.2.1 HF.out.2.2.1 HF.out.2.2.2 (fun r hr=>.inl hr) HC.out.1.len (HC.out.1.code);refine⟨?_,f2,?_⟩
    ·first|exact f1|simpa only [gz]using f1
    ·first|exact⟨xa,xb,xc,f3,f4,f5⟩|exact⟨⟨xa,xb,xc,f3⟩,f4,f5⟩
   ·have xV:=HC.out.1.e;have fg:=HC.out.1.o;have Ec:Fr (fun k=>k=w1.heap.size+1\/k=w1.heap.size\/vo.ownBlock=some k) W3 (W_ W3 #[I_ rk,U_ rn,T_ rt,I_ de,T_ rx,I_ cT,B_ cw,U_ aY,U_ cW,X_ rA dh cY] 53):=(Fr.refl _ W3).alloc _;have Ro:af (W_ W3 #[I_ rk,U_ rn,T_ rt,I_ de,T_ rx,I_ cT,B_ cw,U_ aY,U_ cW,X_ rA dh cY] 53) (w1.heap.size+1) 198 #[I_ code]:=xV.alloc _;have kW:af (W_ W3 #[I_ rk,U_ rn,T_ rt,I_ de,T_ rx,I_ cT,B_ cw,U_ aY,U_ cW,X_ rA dh cY] 53) w1 50 #[vo]:=fg.alloc _;have Ml:Own cG 53 w.heap.size (W_ W3 #[I_ rk,U_ rn,T_ rt,I_ de,T_ rx,I_ cT,B_ cw,U_ aY,U_ cW,X_ rA dh cY] 53) vo lo:=HC.out.1.r.alloc _;have ud:af (W_ W3 #[I_ rk,U_ rn,T_ rt,I_ de,T_ rx,I_ cT,B_ cw,U_ aY,U_ cW,X_ rA dh cY] 53) W3 53 #[I_ rk,U_ rn,T_ rt,I_ de,T_ rx,I_ cT,B_ cw,U_ aY,U_ cW,X_ rA dh cY]:=af.new _ _ _;obtain⟨⟨x0,_⟩,⟨x1,_⟩,⟨x2,_⟩,⟨x3,_⟩,⟨x4,_⟩,⟨x5,_⟩,⟨x6,_⟩,⟨x7,_⟩,⟨x8,_⟩,⟨x9,_⟩⟩:=fH ud;have qo:=kW.k0
    have ez:Rd cG (W_ (W_ W3 #[I_ rk,U_ rn,T_ rt,I_ de,T_ rx,I_ cT,B_ cw,U_ aY,U_ cW,X_ rA dh cY] 53) #[I_ rk,U_ rn,T_ rt,I_ de,T_ rx,I_ cT,B_ cw,U_ aY,U_ cW,X_ rA dh cY] 53) (X_ (M_ (W3.heap.size+1)) 1 1) [⟨rk,rn,rt,de,rx,cT,cw,aY,cW,rA,dh,cY⟩]:=by
     have:=qK (E:=cG) (x:=⟨rk,rn,rt,de,rx,cT,cw,aY,cW,rA,dh,cY⟩) (af.new (W_ W3 #[I_ rk,U_ rn,T_ rt,I_ de,T_ rx,I_ cT,B_ cw,U_ aY,U_ cW,X_ rA dh cY] 53) 53 #[I_ rk,U_ rn,T_ rt,I_ de,T_ rx,I_ cT,B_ cw,U_ aY,U_ cW,X_ rA dh cY]);simpa only [gz,ao]using this
    have hlen:=HC.out.2.2.2.2.2.2;have fi:lo.length+1<=100000:=O_
    have Un:w.heap.size<=((W3.alloc (G_ #[I_ rk,U_ rn,T_ rt,I_ de,T_ rx,I_ cT,B_ cw,U_ aY,U_ cW,X_ rA dh cY] 53)).alloc (G_ #[I_ rk,U_ rn,T_ rt,I_ de,T_ rx,I_ cT,B_ cw,U_ aY,U_ cW,X_ rA dh cY] 53)).heap.size:=by have:=xV.lt;simp only [gz];omega
    have DN:=ac5 (And.intro (Ml.alloc (G_ #[I_ rk,U_ rn,T_ rt,I_ de,T_ rx,I_ cT,B_ cw,U_ aY,U_ cW,X_ rA dh cY] 53)) ez);have HF:=ac5 (And.intro Ec (And.intro (kW.alloc (G_ #[I_ rk,U_ rn,T_ rt,I_ de,T_ rx,I_ cT,B_ cw,U_ aY,U_ cW,X_ rA dh cY] 53)) (And.intro (Ro.alloc (G_ #[I_ rk,U_ rn,T_ rt,I_ de,T_ rx,I_ cT,B_ cw,U_ aY,U_ cW,X_ rA dh cY] 53)) (And.intro ((HC.out.1.r.aD fg D_)) (HC.out.1.r.aD xV D_)))));clear Ec Ro kW Ml xV fg ud ez
    gi_wp2_with (gi_at_builtin;refine dV (E:=cG) rfl _ _ _ rfl underlying50 hi dw cE dy rfl DN.out.1 rfl DN.out.2 rfl (gy fi D_) (gy (eW 104 fi) D_) Un ?_;intro v6 w6 Ob KJ Vi;have q6:L_ w6 w1 0 vo:=Fr.cell KJ (HF.out.2.1.cell 0) HF.out.2.2.2.1;have q7:=(Fr.ai KJ HF.out.2.1 HF.out.2.2.2.1).dq;obtain⟨A6,C6,XH,_⟩:=Ob.form;have KL:=ac5 (And.intro Ob (And.intro KJ Vi));clear Ob KJ Vi;generalize(lo++[_]).length=m at XH;subst XH)
    have hoW:=Fr.ai KL.out.2.1 HF.out.2.1 HF.out.2.2.2.1;have heW:=Fr.ai KL.out.2.1 HF.out.2.2.1 HF.out.2.2.2.2;have hfW:Fr (fun k=>k=w1.heap.size+1\/k=w1.heap.size\/vo.ownBlock=some k) W3 (w6.setCell (C_ w1 0) (X_ A6 m C6)):=(Fr.trans' (HF.out.1.alloc _) KL.out.2.1 fun _ _ h=>.inr (.inr h)).setCell (p:=⟨w1.heap.size,0,none⟩) (fun _=>.inr (.inl rfl)) _;obtain⟨f1,f2,xa,xb,xc,f3,f4,f5⟩:=kD.fin (B':=w1.heap.size+1+1+1+1) HC.out O_ O_ O_ HI.out HP.out hfW (hoW.al 0 _) ((One.set (One.refl w1.heap.size w6) 0 _).ai heW O_) (KL.out.1.fr (One.set (One.refl w1.heap.size w6) 0 _) fun b hb e=>KL.out.1.aD hoW D_ (by rw [hb,e])) (fun r hr=>(List.mem_append.1 hr).imp id fun h=>by rw [List.mem_singleton.1 h];exact HC.out.2.2.2.2.2.1 (by first|rfl|trivial)) (by rw [dr,dr];simp only [dK];omega) (HC.out.1.code);refine⟨?_,f2,?_⟩
    ·first|exact f1|simpa only [gz]using f1
    ·first|exact⟨xa,xb,xc,f3,f4,f5⟩|exact⟨⟨xa,xb,xc,f3⟩,f4,f5⟩
  case done=>
   rintro D ys W hD hS ⟨vo,lo,code,hr,hb,hvx⟩ hK;have q0:=hr.o.k0;have q1:=hr.e.k0
   gi_wp2_with fail
   gi_region
   gi_wp2
   have t:iH w.heap.size W.drew (W.drew.putObj D (.deferred none)):=⟨some D,bH W.drew D _,fun r e=>by cases e;exact⟨by simp at hD;omega,_,hK,rfl⟩⟩;have h2:=(hr.drew HI.out HP.out).turn HI.out HP.out t (aA _);have hyl:ys.length=N.length:=by rw [<-hS,D9]
   refine⟨S_,.inl ⟨_,_,rfl,Gx hK,?_⟩⟩;exact⟨_,cF rfl _ _ _,vo,lo,code,rfl,h2.r,h2.p,by have:=h2.len;omega,h2.code.imp id .inr,ys,O_,h2.i⟩
  case stop=>
   rintro D c pre W _ _ h _;exact h.elim
end
structure qZ(w w':World) (S:Sx) (Q:Qs) (S':Sx) (Q':Qs):Prop where
 fr:Fr (S.aB Q) w w'
 gr:∀k,S'.aB Q' k->S.aB Q k\/w.heap.size<=k
 s:S'.s=S.s
 cap:S'.cap=S.cap
 tt:S'.T=S.T/\S'.q=S.q
section
variable{w0 w w' CE:World}{base:Nat}{S S' S'':Sx}{Q Q' Gm:Qs}{M:List bU}{n t f:Int}
theorem qZ.new (h:ae w w'):qZ w w' S Q S Q:=⟨ae.to h,fun _ h=>.inl h,rfl,rfl,rfl,rfl⟩
theorem qZ.trans (h:qZ w w' S Q S' Q') (k:qZ w' CE S' Q' S'' Gm):qZ w CE S Q S'' Gm:=
 ⟨Fr.trans' h.fr k.fr fun i hi hs=>by rcases h.gr i hs with h1|h1;exact h1;omega,fun i hi=>by
   rcases k.gr i hi with h1|h1
   ·exact h.gr i h1
   ·exact .inr (gy h.fr.size h1),k.s.trans h.s,k.cap.trans h.cap,k.tt.1.trans h.tt.1,k.tt.2.trans h.tt.2⟩
theorem qZ.bL (h:qZ w w' S Q S' Q') {g:Nat}(hg:g<w.heap.size) (hf:¬S.aB Q g):¬S'.aB Q' g:=fun hs=>by
 rcases h.gr g hs with h1|h1
 ·exact hf h1
 ·omega
theorem results_cell_tmp{P:Program}{fn:Func}{p q:Tmp}{t:TypeId}(h:fn.results= #[.cell p t,.tmp q]) (tmps:Array Value) (w:World) {a:Addr}{v v':Value}
 (hp:tmps[p]? =some (.pointer (some a))) (hq:tmps[q]? =some v') (hv:(loadVar t a).run P w=.ok v w):(results fn tmps).run P w=.ok (.tuple #[v,v']) w:=by
 simp [results,h,hp,hq,asAddr,hv]
theorem cn.Rp (h:cn w0 base w S Q M n t f) {M':List bU}(he:M'.map bU.uid=M.map bU.uid) (ht:∃X:List MB,X.map MB.m=M'/\f_ base w' S.T X) (hf:Fr S.T.aB w w'):cn w0 base w' S Q M' n t f:=by
 have hl:M'.length=M.length:=by have:=congrArg List.length he;simpa using this
 refine h.turn (u':=S.u) hf (fun k hk=>.inl hk) ht (hf.ai h.tO h.ac) (by rw [he];exact h.idx.fr hf h.ax h.au) (.inl rfl) (by rw [hl];exact h.len) (by rw [he];exact h.kJ) (fun m hm=>?_) h.n1 h.t1;have h1:m.uid∈M'.map bU.uid:=List.mem_map.2 ⟨m,hm,rfl⟩;rw [he]at h1;obtain⟨m',hm',h2⟩:=List.mem_map.1 h1;rw [<-h2];exact h.below m' hm'
theorem cn.aeN (hf:Fr S.T.aB w w'):qZ w w' S Q S Q:=⟨cz hf fun _ hk=>.inl hk,fun _ h=>.inl h,rfl,rfl,rfl,rfl⟩
theorem Vj{X:List MB}(k:Int):(dY (X.map MB.m) k).isSome=(di X k).isSome/\(dY (X.map MB.m) k).getD rK=((di X k).getD jS).m:=by
 rw [ky]
 cases di X k<;>exact⟨rfl,rfl⟩
theorem ZQ(h:cn w0 base w S Q M n t f) {X:List MB}(pE:X.map MB.m=M) (hX0:f_ base w S.T X) (k:Int) (lV:0<=k) (eA:k<=4294967295):
 H_ 141 #[Q_ S.s,U_ k] w fun e w'=>∃y:MB,e=.returned (.tuple #[y.val,R_ (dY M k).isSome])/\y.m=(dY M k).getD rK/\Own (ak .u8) 5 w.heap.size w' y.bv y.m.body/\cn w0 base w' S Q M n t f/\qZ w w' S Q S Q/\f_ base w' S.T X:=by
 have hna:ae w (W_ w #[U_ 0,B_ 0,Z_] 238):=(ae.refl w).alloc _;have h1:=h.more hna;have hX:=hX0.new hna;have e0:=h.hd.k0;have jE:=h.hd.lt;have XK:=QH hX k lV eA;have uP:=Vj (X:=X) k;rw [pE]at uP;rw [<-uP.1,<-uP.2]at XK;obtain⟨q,hq⟩:∃q,(dY M k).isSome=q:=⟨_,rfl⟩;obtain⟨fm,hfm⟩:∃fm,(dY M k).getD rK=fm:=⟨_,rfl⟩;rw [hq,hfm]at XK⊢;have ti:af (W_ w #[U_ 0,B_ 0,Z_] 238) w 238 #[U_ 0,B_ 0,Z_]:=af.new _ _ _;have hhi:=h.hi;have lA:=h.hb;have HTG:=ac5 XK;have H1:=ac5 h1;have H:=ac5 h;have HX:=ac5 pE;clear XK h1 h hX hX0 pE uP hq hfm
 go_enter func141,ntmps141
 go_wp2_with fail
 refine HTG.out.mono ?_;rintro e w2 ⟨⟨⟨yu,yf,yb⟩,yA,yn,yc⟩,rfl,rI,QJ,CH,dU⟩;simp only [MB.val,MB.bv]at QJ⊢;have fW:=H1.out.Rp rfl ⟨X,HX.out,CH⟩ dU;have eP:=dU.ai ti (fun hk=>by have:=hk.2;omega);have p0:=eP.cell 0;have p1:=eP.cell 1;have p2:=eP.cell 2;have z0:=eP.frozen 0;have z1:=eP.frozen 1;have z2:=eP.frozen 2;have jO:=ac5 fW;have Hg:=ac5 CH;have iw:=ac5 dU;have HYO:=ac5 QJ;have HYM:=ac5 rI;clear fW dU QJ rI CH;go_wp2
 have hF:Fr (fun k=>k=w.heap.size) w2 (((w2.setCell (C_ w 0) (U_ yu)).setCell (C_ w 1) (B_ yf)).setCell (C_ w 2) (X_ yA yn yc)):=
  (((Fr.refl (fun k=>k=w.heap.size) w2).setCell (p:=⟨w.heap.size,0,none⟩) (fun _=>rfl) _).setCell (p:=⟨w.heap.size,1,none⟩) (fun _=>rfl) _).setCell (p:=⟨w.heap.size,2,none⟩) (fun _=>rfl) _
 have b3:af (((w2.setCell (C_ w 0) (U_ yu)).setCell (C_ w 1) (B_ yf)).setCell (C_ w 2) (X_ yA yn yc)) w 238 #[U_ yu,B_ yf,X_ yA yn yc]:=((eP.al 0 _).al 1 _).al 2 _;refine r_ (results_cell_tmp rfl _ _ rfl rfl (BC b3)) rfl ?_;refine⟨⟨⟨yu,yf,yb⟩,yA,yn,yc⟩,rfl,HYM.out,(HYO.out.fr hF fun b hb hs=>?_).mono S_,jO.out.du hF (fun k hk e=>?_) (fun v l hv b hb e=>?_) (fun k e=>by subst e;exact H.out.new.size),⟨?_,fun _ h=>.inl h,rfl,rfl,rfl,rfl⟩,Hg.out.fr hF (fun k e mv=>?_) (fun v l hv b hb e=>?_)⟩
 ·have:=(HYO.out.block hb).1;simp at this;omega
 ·have:=H.out.fI hk;omega
 ·obtain⟨cs,h9⟩:=hv.heap hb;subst e;exact h9.aU eP D_ rfl
 ·exact Fr.trans' (Fr.trans (ae.to hna) (cz iw.out fun k hk=>Or.inl hk)) hF fun k hk e=>O_
 ·subst e;have:=mv.2;omega
 ·obtain⟨cs,h9⟩:=hv.heap hb;subst e;exact h9.aU eP D_ rfl
theorem E8(h:cn w0 base w S Q M n t f) (k:Int) (lV:0<=k) (eA:k<=4294967295):
 H_ 141 #[Q_ S.s,U_ k] w fun e w'=>∃y:MB,e=.returned (.tuple #[y.val,R_ (dY M k).isSome])/\y.m=(dY M k).getD rK/\Own (ak .u8) 5 w.heap.size w' y.bv y.m.body/\cn w0 base w' S Q M n t f/\qZ w w' S Q S Q:=by
 obtain⟨X,pE,hX⟩:=h.tK;exact(ZQ h pE hX k lV eA).mono fun e w' ⟨y,h1,h2,h3,h4,h5,_⟩=>⟨y,h1,h2,h3,h4,h5⟩
end
section
variable{w0 w w' CE:World}{base:Nat}{S S' S'':Sx}{Q Q' Gm:Qs}{M:List bU}{n t f:Int}
theorem KM{p:Int->Bool}{ev:Ev}{v':Int->Value}(bT:∀i∈Q.ids,cM w (Q.v i) (v' i)):∀k,S.aB (Q.told p ev v') k->S.aB Q k\/w.heap.size<=k:=by
 rintro k (hk|hk|hk|hk|hk|hk|⟨i,hi,hk⟩)
 ·exact .inl (.inl hk)
 ·exact .inl (.inr (.inl hk))
 ·exact .inl (cu (.inl hk))
 ·exact .inl (dS (.inl hk))
 ·exact .inl (iO (.inl hk))
 ·exact .inl (gd (.inl hk))
 ·have hi:i∈Q.ids:=hi;rcases hk with hk|hk
  ·exact .inl (gd (.inr ⟨i,hi,.inl hk⟩))
  ·have hk:(v' i).ownBlock=some k:=hk;rcases bT i hi with h1|⟨b,h1,h2⟩
   ·exact .inl (gd (.inr ⟨i,hi,.inr (h1▸hk)⟩))
   ·rw [h1]at hk
    cases hk
    exact .inr h2
theorem E9{p:Int->Bool}{ev:Ev}{v':Int->Value}(hf:Fr Q.aB w w') (bT:∀i∈Q.ids,cM w (Q.v i) (v' i)):qZ w w' S Q S (Q.told p ev v'):=
 ⟨cz hf fun _ hk=>lX hk,KM bT,rfl,rfl,rfl,rfl⟩
theorem Vk(M:List bU) (k mode fl:Int):(JD M k mode fl).map bU.uid=M.map bU.uid:=by
 unfold JD
 split
 ·exact Ol _ _ _
 ·rfl
def BR(M:List bU) (eZ k mode fl:Int) (i:Int):List Ev:=
 if JC M k mode fl=0/\flX M k mode fl≠((dY M k).getD rK).fl/\i≠eZ then [⟨3,k,flX M k mode fl⟩]else []
theorem BS{M:List bU}{k mode fl:Int}(h0:0<=fl):0<=flX M k mode fl/\flX M k mode fl<=31:=by
 unfold flX
 split
 ·omega
 ·rename_i m hm
  cases hc:JB m.fl mode fl with
  |none=>simp
  |some z=>exact Ot hc h0
theorem Vl(h:cn w0 base w S Q M n t f) (k:Int):0<=((dY M k).getD rK).fl/\((dY M k).getD rK).fl<=31:=by
 cases hf:dY M k with
 |none=>simp [rK]
 |some m=>exact(h.ok m (rL hf).1).1.2
theorem tQ(h:cn w0 base w S Q M n t f) (hQ:∀i∈Q.ids,(Q.l i).length<=100000000) (eZ k mode fl:Int) (lV:0<=k) (eA:k<=4294967295) (hf:0<=fl/\fl<=255) (hm:(Lit.int .i64 mode).wf=true):
 H_ 143 #[Q_ S.s,I_ eZ,U_ k,I_ mode,B_ fl] w fun e w'=>e=.returned (.tuple #[B_ (flX M k mode fl),I_ (JC M k mode fl)])/\
  ∃Q',cn w0 base w' S Q' (JD M k mode fl) n t f/\qZ w w' S Q S Q'/\Q'.ids=Q.ids/\∀i,Q'.l i=Q.l i++BR M eZ k mode fl i:=by
 have hmf:=atQ;have hE:=ac5 (enters _ _ _ func197 K_ rfl);have nf:af (W_ w #[I_ eZ] 3) w 3 #[I_ eZ]:=af.new _ _ _;have hna:ae w (W_ w #[I_ eZ] 3):=(ae.refl w).alloc _;have h1:=h.more hna;have hwb:=h.hb;have hwh:=h.hi;have hold:=Vl h k;have Gf:=BS (M:=M) (k:=k) (mode:=mode) hf.1;have Vm:=Vk M k mode fl;obtain⟨fx,uP⟩:∃fx,flX M k mode fl=fx:=⟨_,rfl⟩;obtain⟨fc,hfc⟩:∃fc,JC M k mode fl=fc:=⟨_,rfl⟩;obtain⟨fM,hfM⟩:∃fM,JD M k mode fl=fM:=⟨_,rfl⟩;obtain⟨om,hom⟩:∃om,(dY M k).getD rK=om:=⟨_,rfl⟩;have gE:=h.EV;have HCE:Hid (∀i,BR M eZ k mode fl i=if fc=0/\fx≠om.fl/\i≠eZ then [⟨3,k,fx⟩]else []):=ac5 (fun i=>by unfold BR;rw [uP,hfc,hom])
 have HTF:=ac5 (fun(wz:World) (X:List MB) (pE:X.map MB.m=M) (hX:f_ base wz S.T X)=>by
  have h2:=Iu hX (by rw [<-pE,D9]at gE;omega) k mode fl lV eA hf hm;rw [pE,uP,hfc,hfM]at h2;exact h2)
 have HSG:=ac5 (fun(wz:World) (hz:cn w0 base wz S Q M n t f)=>by
  have h2:=E8 hz k lV eA;rw [hom]at h2;exact h2)
 rw [uP,hfc,hfM];rw [hom]at hold;rw [uP]at Gf;rw [hfM]at Vm;have HMU:=ac5 Vm;have H1:=ac5 h1;have HQ:=ac5 hQ;clear h h1 uP hfc hfM hom Vm hQ
 go_enter func143,ntmps143
 go_wp2_with fail
 refine(HSG.out _ H1.out).mono ?_;rintro e w2 ⟨⟨⟨yu,yf,yb⟩,yA,yn,yc⟩,rfl,rI,QJ,hS2,pP⟩;simp only [MB.val];have fW:=pP.fr.size;simp only [gz]at fW;have aeP:=pP.fr.ai nf (fun hk=>by have:=H1.out.fI hk;exact H1.out.aX nf O_ D_ D_ D_ D_ D_ D_ hk);have hyf:yf=om.fl:=congrArg bU.fl rI;have fu:ae w2 (W_ w2 #[U_ yu,B_ yf,X_ yA yn yc] 238):=(ae.refl w2).alloc _;have XL:=hS2.more fu;obtain⟨X,pE,hX⟩:=XL.tK;have e0:=hS2.hd.k0;have T5:=hS2.hd.lt;have bm3:af (W_ w2 #[U_ yu,B_ yf,X_ yA yn yc] 238) w2 238 #[U_ yu,B_ yf,X_ yA yn yc]:=af.new _ _ _;have HT:=ac5 (HTF.out _ X pE hX);have Gl:=ac5 XL;have HX3:=ac5 pE;have HN3:=ac5 fu;have Qh:=ac5 pP;have aeQ:=fu.ai aeP;have hwb2:=hS2.hb;clear rI QJ hS2 pP aeP fu XL pE hX;subst hyf;go_wp2_with fail
 refine HT.out.mono ?_;rintro e w4 ⟨rfl,X',hX',ZJ,hT4,fL⟩;have hS4:=Gl.out.Rp HMU.out ⟨X',hX',hT4⟩ fL;have akq:=fL.size;simp only [gz]at akq;have bm4:=fL.ai bm3 (fun hk=>by have:=hk.2;omega);have aeR:=fL.ai aeQ (fun hk=>by have:=hk.2;omega);have q1:=bm4.k1;have HP4:=ac5 ((((qZ.new hna).trans Qh.out).trans (qZ.new HN3.out)).trans (cn.aeN (S:=S) (Q:=Q) fL));have EJ:=ac5 hS4;have aeS:=ac5 aeR;clear hX' ZJ hT4 fL hS4 bm3 bm4 aeQ aeR;by_cases hc:fc=0
 ·by_cases hd:fx=om.fl
  ·have hcb:(fc==0)=true:=by simp [hc]
   have hdb:(fx !=om.fl)=false:=by simp [hd]
   have Cy:∀i,BR M eZ k mode fl i=[]:=fun i=>by rw [HCE.out,if_neg (fun h=>h.2.1 hd)]
   have Rq:=ac5 Cy;clear hc hd Cy HCE;go_wp2;go_ret2;exact⟨rfl,Q,EJ.out,HP4.out,rfl,fun i=>by rw [Rq.out,kg]⟩
  ·have hcb:(fc==0)=true:=by simp [hc]
   have hdb:(fx !=om.fl)=true:=by simp [hd]
   have Cy:∀i,BR M eZ k mode fl i=if i≠eZ then [⟨3,k,fx⟩]else []:=fun i=>by
    rw [HCE.out];by_cases hi:i≠eZ
    ·rw [if_pos ⟨hc,hd,hi⟩,if_pos hi]
    ·rw [if_neg (fun h=>hi h.2.2),if_neg hi]
   have Rq:=ac5 Cy;clear hc hd Cy HCE
   have gQ:(⟨3,k,fx⟩:Ev).wf:=⟨(by decide:(Lit.int .i64 3).wf=true),Xg lV eA,(by
    show(Lit.int .u8 fx).wf=true
    have h2:IntKind.u8.min<=fx:=by rw [show IntKind.u8.min=0 from rfl];exact Gf.1
    have h3:fx<=IntKind.u8.max:=by rw [show IntKind.u8.max=255 from rfl];omega
    simp [Lit.wf,h2,h3])⟩
   have Oa:=xp EJ.out.hd EJ.out.qx HQ.out ⟨3,k,fx⟩ gQ S_ 197 #[Q_ w] (fun i=>i !=eZ) hE.out (fun W i hF=>EW i eZ w.heap.size W (hF.ai aeS.out (EJ.out.qx.ne aeS.out D_ D_) |>.cell 0));simp only [Ev.val]at Oa;have HTE:=ac5 Oa;clear Oa gQ;go_wp2_with fail
   refine HTE.out.mono ?_;rintro e w5 ⟨rfl,v',hq5,Ec,oV⟩;have HS5:=ac5 (EJ.out.told hq5 Ec oV);have HP5:=ac5 (HP4.out.trans (E9 (p:=fun i=>i !=eZ) (ev:=⟨3,k,fx⟩) Ec oV));clear hq5 Ec oV;go_wp2;go_ret2;refine⟨rfl,_,HS5.out,HP5.out,rfl,fun i=>?_⟩;rw [Rq.out]
   show z_ (fun i=>i !=eZ) ⟨3,k,fx⟩ Q i=_
   unfold z_;by_cases hi:i=eZ
   ·simp [hi]
   ·simp [hi]
 ·have hcb:(fc==0)=false:=by simp [hc]
  have Cy:∀i,BR M eZ k mode fl i=[]:=fun i=>by rw [HCE.out,if_neg (fun h=>hc h.1)]
  have Rq:=ac5 Cy;clear hc Cy HCE;go_wp2;go_ret2;exact⟨rfl,Q,EJ.out,HP4.out,rfl,fun i=>by rw [Rq.out,kg]⟩
theorem Fa(M:List bU) (k:Int):(CL M k).map bU.uid=(M.map bU.uid).filter fun y=>y !=k:=by
 unfold CL;rw [Ov]
 congr 1
 refine yU fun m _=>?_;simp only [Function.comp,bne]
 cases hq:(m.uid==k)
 ·simpa using hq
 ·simpa using hq
theorem MU(h:cn w0 base w S Q M n t f) (k:Int) (lV:0<=k) (eA:k<=4294967295):
 H_ 139 #[Q_ S.s,U_ k] w fun e w'=>e=.returned (.tuple #[])/\∃u',cn w0 base w' {S with u:=u'} Q (CL M k) n t f/\qZ w w' S Q {S with u:=u'} Q:=by
 have e0:=h.hd.k0;obtain⟨X,pE,hX⟩:=h.tK;have gE:=h.EV;have HRM:=ac5 (Ey hX h.hi k lV eA);have H:=ac5 h;have HX:=ac5 pE;obtain⟨mb,hmb⟩:∃mb,(di X k).getD jS=mb:=⟨_,rfl⟩;rw [hmb]at HRM;obtain⟨⟨mu,mf,mbd⟩,mA,mn,mc⟩:=mb;simp only [MB.val,MB.bv]at HRM;clear h hX pE hmb
 go_enter func139,ntmps139
 go_wp2_with fail
 refine HRM.out.mono ?_;rintro e w2 ⟨rfl,_,CH,dU⟩;have oe:=dU.ai H.out.hd H.out.as_;have e2:=oe.k2;have yk:=H.out.idx.fr dU H.out.ax H.out.au;have fW:=dU.size;have HIR:=ac5 (KD yk (by rw [D9];omega) k);have Hg:=ac5 CH;have iw:=ac5 dU;have Kz:=ac5 yk;clear oe yk CH dU;go_wp2_with fail
 refine HIR.out.mono ?_;rintro e w3 ⟨j,u',rfl,hj,EI,gP,bT⟩;rw [KF H.out.kJ hj]at EI;have HI3:=ac5 EI;have ML:=ac5 gP;have iI:=ac5 (cM.mono bT fW);clear EI gP bT hj;go_wp2;go_end0;have hF:Fr S.Ky w w3:=Fr.trans (cz iw.out fun k hk=>.inl hk) (cz ML.out fun k hk=>by rcases hk with hk|hk;exact cu (.inl hk);exact dS hk);refine⟨rfl,u',H.out.turn hF (fun k hk=>hk) ⟨um X k,by rw [Qq,HX.out],Hg.out.fr ML.out (fun k hk=>?_) fun v l hv b hb hk=>?_⟩ ?_ (by rw [Fa];exact HI3.out) iI.out ?_ ?_ ?_ H.out.n1 H.out.t1,cz hF fun k hk=>Sx.xr hk,fun k hk=>Sx.EX hk iI.out,rfl,rfl,rfl,rfl⟩
 ·rcases hk with hk|hk
  ·subst hk;exact H.out.ax
  ·exact H.out.au k hk
 ·obtain⟨cs,h9⟩:=hv.heap hb;rcases hk with hk|hk
  ·exact h9.aU Kz.out.1 D_ hk
  ·obtain⟨kL,sH⟩:=Kz.out.2.1.heap hk;exact h9.aU sH D_ rfl
 ·exact ML.out.ai (iw.out.ai H.out.tO H.out.ac) fun hk=>by
   rcases hk with hk|hk
   ·exact H.out.xo.1 hk
   ·exact H.out.xo.2.1 _ hk rfl
 ·have h1:(CL M k).length<=M.length:=cR _ _;have h2:=H.out.len;omega
 ·rw [Fa];exact H.out.kJ.filter _
 ·intro m hm;exact H.out.below m (List.mem_filter.1 hm).1
end
section
variable{w0 W W':World}{base B v x:Nat}{S:Sx}{Q:Qs}{M:List bU}{n t f:Int}{u:Value}
theorem cn.pG (h:cn w0 base W S Q M n t f) (hB:base<=B) (hq:S.q<B) {k:Nat}(hk:S.aB Q k) (hBk:B<=k):∃t cs,af W k t cs:=by
 rcases hk with h1|rfl|rfl|rfl|h1|h1|h1
 ·have:=h1.2;have:=h.hi;omega
 ·exact⟨_,_,h.hd⟩
 ·exact⟨_,_,h.tO⟩
 ·exact⟨_,_,h.idx.1⟩
 ·obtain⟨cs,hc⟩:=h.idx.2.1.heap h1;exact⟨_,cs,hc⟩
 ·omega
 ·obtain⟨i,hi,h2⟩:=h1;have hq:=h.qx.nM i hi;rcases h2 with rfl|h2
  ·exact⟨_,_,hq.ai⟩
  ·obtain⟨cs,hc⟩:=hq.own.heap h2;exact⟨_,cs,hc⟩
theorem cn.MV (h:cn w0 base W S Q M n t f) (hf:Fr (S.aB Q) W W') (hB:base<=B) (hq:S.q<B):KeepsFrom B W W':=fy hf fun k hk hs o ho=>by
 obtain⟨_,_,hb⟩:=h.pG hB hq hs hk;exact hb.isCells o ho
theorem cn.Vn (h:cn w0 base W S Q M n t f) (hf:Fr (S.aB Q) W W') (hB:base<=B) (hq:S.q<B) (hv:∀k,(k=v\/k=x\/u.ownBlock=some k)->¬S.aB Q k):uW B v x u W W' where
 kf:=h.MV hf hB hq
 kx:=fun k hk hl=>hf.block k hl (hv k hk)
 kt:=fun k ty cs hb hBk ht=>hf.ai hb (by rcases ht with rfl|rfl|rfl|rfl|rfl|rfl|rfl<;>exact h.aX hb (gy hB hBk) D_ D_ D_ D_ D_ D_)
theorem cn.XM (h:cn w0 base W S Q M n t f) (hf:Fr (fun k=>B<=k/\CI W k) W W') (hB:base<=B) (hw:w0.heap.size<=B) (hq:S.q<B):cn w0 base W' S Q M n t f:=by
 refine h.du hf ?_ ?_ fun k hk=>gy hw hk.1
 ·rintro k hk ⟨hBk,⟨o,ho,hc⟩|⟨ty,cs,hb,ht⟩⟩
  ·obtain⟨_,_,hb⟩:=h.pG hB hq hk hBk;rw [hb.isCells o ho]at hc
   cases hc
  ·rcases ht with rfl|rfl|rfl<;>exact h.aX hb (gy hB hBk) D_ D_ D_ D_ D_ D_ hk
 ·rintro v l hv b hb ⟨hBk,⟨o,ho,hc⟩|⟨ty,cs,ng,ht⟩⟩
  ·obtain⟨cs,cK⟩:=hv.heap hb;rw [cK.isCells o ho]at hc
   cases hc
  ·obtain⟨kL,cK⟩:=hv.heap hb;rcases ht with rfl|rfl|rfl<;>exact absurd rfl (cK.aU ng D_)
def EvK(n:Int) (e:Ev):Prop:=e.k=3/\(0<=e.u/\e.u<n)/\(0<=e.f/\e.f<=31)
structure GI(w0:World) (base v x:Nat) (u:Value) (S:Sx) (Q:Qs) (M:List bU) (n t f:Int) (j:Nat) (Q':Qs) (M':List bU) (w W:World):Prop where
 st:cn w0 base W S Q' M' n t f
 ids:Q'.ids=Q.ids
 ev:∀i,∃L,Q'.l i=Q.l i++L/\L.length<=j/\∀e∈L,EvK n e
 ZR:M'.map bU.uid=M.map bU.uid
 bL:∀k,(k=v\/k=x\/u.ownBlock=some k)->¬S.aB Q' k
 gr:∀k,S.aB Q' k->S.aB Q k\/w.heap.size<=k
 sz:w.heap.size<=W.heap.size
 fr:Fr (S.aB Q) w W
theorem GI.XM {Q':Qs}{M':List bU}{j:Nat}{w:World}(h:GI w0 base v x u S Q M n t f j Q' M' w W) (hf:Fr (fun k=>B<=k/\CI W k) W W') (hB:base<=B) (hw:w0.heap.size<=B) (hq:S.q<B) (hBw:w.heap.size<=B):GI w0 base v x u S Q M n t f j Q' M' w W':=
 {h with st:=h.st.XM hf hB hw hq,sz:=gy h.sz hf.size,fr:=Fr.trans' h.fr hf fun i hi hk=>by have:=hk.1;omega}
theorem GI.step {Q' Gm:Qs}{M' M'':List bU}{j:Nat}{w:World}(h:GI w0 base v x u S Q M n t f j Q' M' w W) (hs:cn w0 base W' S Gm M'' n t f) (hp:qZ W W' S Q' S Gm) (bJ:∀k,(k=v\/k=x\/u.ownBlock=some k)->k<W.heap.size)
 (hi:Gm.ids=Q'.ids) (hl:∀i,∃L,Gm.l i=Q'.l i++L/\L.length<=1/\∀e∈L,EvK n e) (hu:M''.map bU.uid=M'.map bU.uid):GI w0 base v x u S Q M n t f (j+1) Gm M'' w W' where
 st:=hs
 ids:=hi.trans h.ids
 ev:=fun i=>by
  obtain⟨L,e1,h1,h2⟩:=h.ev i;obtain⟨K,e2,h3,h4⟩:=hl i;exact⟨L++K,by rw [e2,e1,zi],by rw [dr];omega,fun e he=>(List.mem_append.1 he).elim (h2 e) (h4 e)⟩
 ZR:=hu.trans h.ZR
 bL:=fun k hk=>hp.bL (bJ k hk) (h.bL k hk)
 gr:=fun k hk=>by
  rcases hp.gr k hk with h1|h1
  ·exact h.gr k h1
  ·exact .inr (gy h.sz h1)
 sz:=gy h.sz hp.fr.size
 fr:=Fr.trans' h.fr hp.fr fun i hi hk=>by
  rcases h.gr i hk with h1|h1
  ·exact h1
  ·omega
theorem GI.init {w:World}(h:cn w0 base w S Q M n t f) (hn:ae w W) (gh:∀k,(k=v\/k=x\/u.ownBlock=some k)->¬S.aB Q k):GI w0 base v x u S Q M n t f 0 Q M w W where
 st:=h.more hn
 ids:=rfl
 ev:=fun i=>⟨[],S_,S_,S_⟩
 ZR:=rfl
 bL:=gh
 gr:=fun _ hk=>.inl hk
 sz:=hn.size
 fr:=ae.to hn
end
theorem Fb(M:List bU) (k mode f:Int):(JD M k mode f).map bU.uid=M.map bU.uid:=by
 unfold JD
 split
 ·unfold Gt;rw [JJ];refine eR fun m _=>?_;dsimp only [Function.comp]
  split<;>rfl
 ·rfl
theorem Fc(n:Int) (M:List bU) (eZ k mode fl:Int) (i:Int) (lV:0<=k) (eA:k<n) (hf:0<=fl):(BR M eZ k mode fl i).length<=1/\∀e∈BR M eZ k mode fl i,EvK n e:=by
 unfold BR
 split
 ·exact⟨S_,fun e he=>by rw [List.mem_singleton.1 he];exact⟨rfl,⟨lV,eA⟩,BS hf⟩⟩
 ·exact⟨S_,fun e he=>by cases he⟩
section
variable{w:World}{v x:Nat}{u:Value}{l:List Int}
structure Ap(w wH:World) (v:Nat):Prop where
 n:ae w wH
 b:af wH w 55 #[Q_ v]
 o:af wH (w.heap.size+1) 50 #[Z_]
 a:af wH (w.heap.size+1+1) 275 #[sS (w.heap.size+1)]
 h:af wH (w.heap.size+1+1+1) 278 #[.func (.func 176) #[Q_ v] #[],.func (.func 177) #[Q_ v] #[],.func (.func 178) #[Q_ v] #[],.func (.func 179) #[Q_ v] #[]]
theorem Z3(w:World) (v:Nat):Ap w (W_ (W_ (W_ (W_ w #[Q_ v] 55) #[Z_] 50) #[.func (.func 174) #[] #[Q_ (w.heap.size+1)]] 275) #[.func (.func 176) #[Q_ v] #[],.func (.func 177) #[Q_ v] #[],.func (.func 178) #[Q_ v] #[],.func (.func 179) #[Q_ v] #[]] 278) v:=by
 refine⟨((((ae.refl w).alloc _).alloc _).alloc _).alloc _,(((af.new _ _ _).alloc _).alloc _).alloc _,((af.cD _ _ _ _).alloc _).alloc _,?_,?_⟩
 ·have:=af.cD (W_ w #[Q_ v] 55) (G_ #[Z_] 50) 275 #[sS (w.heap.size+1)];rw [gz]at this;exact this.alloc _
 ·have:=af.cD (W_ (W_ w #[Q_ v] 55) #[Z_] 50) (G_ #[.func (.func 174) #[] #[Q_ (w.heap.size+1)]] 275) 278 #[.func (.func 176) #[Q_ v] #[],.func (.func 177) #[Q_ v] #[],.func (.func 178) #[Q_ v] #[],.func (.func 179) #[Q_ v] #[]];rw [gz,gz]at this;exact this
end
section
variable{w0 w:World}{base:Nat}{S:Sx}{Q:Qs}{M:List bU}{n t f:Int}{x:Nat}{i:Int}
theorem IV(h:cn w0 base w S Q M n t f) (hs:mV w x (Q_ S.s) i none false) (h0:0<=i) (h1:i<=9223372036854775807) (hi:i∉Q.ids):
 H_ 90 #[Q_ x] w fun e w'=>e=.returned (.tuple #[])/\mV w' x (Q_ S.s) i none false/\One x w w':=by
 obtain⟨k0,k1,k2,k3⟩:=hs.rQ;have f2:=hs.frozen 2;have H:=ac5 (fun q=>EZ (h.more ((ae.refl w).drewN q)) i h0 h1 hi);clear h hi
 go_enter func90,ntmps90
 go_wp2_with fail
 go_quiet ((go_at_call 125;exact lG (H.out _)))
 have f2':(w.drewN nq).frozen? (C_ x 2)=false:=f2;have Z6:L_ (w.drewN nq) x 2 (.pointer none):=k2;go_wp2;go_end0;exact⟨rfl,(hs.drewN nq).al 2 _,One.set (Fr.drewN (One.refl x w) nq) 2 _⟩
end
structure FV(w0:World) (base:Nat) (w:World) (S:Sx) (Q:Qs) (M:List bU) (n t f:Int) (xs v x:Nat) (u:Value) (l:List Int):Prop where
 st:cn w0 base w S Q M n t f
 dF:mV w xs (Q_ S.s) 0 (M_ v) false
 vw:VW w v x false
 ix:cQ 0 w x u l
 bx:base<=xs
 bv:base<=v
 nx:¬S.aB Q x
 nu:∀g,u.ownBlock=some g->¬S.aB Q g
 q1:Q.ids=[0]
 lx:w0.heap.size<=xs
 lv:w0.heap.size<=v
 li:w0.heap.size<=x
 lu:∀g,u.ownBlock=some g->w0.heap.size<=g


theorem M6{w0 w:World}{base:Nat}{S:Sx}{Q:Qs}{M:List bU}{n t f:Int}(h:cn w0 base w S Q M n t f):H_ 21 #[Q_ S.s] w fun e w'=>e=.returned (U_ n)/\w=w':=by
 have e1:=h.hd.k1;have HN:=ac5 (Q7 h.tO);clear h
 go_enter func21,ntmps21
 go_wp2_with fail
 refine HN.out.mono ?_;rintro e w5 ⟨rfl,rfl⟩;go_wp2;go_ret;exact⟨rfl,rfl⟩
def Ad(a:ByteArray) (n:Nat) (b:ByteArray):ByteArray:=⟨#[91]⟩++a++⟨#[32]⟩++jZ n++⟨#[93,32]⟩++b
abbrev afb(a:ByteArray) (n:Nat) (b:ByteArray):cV:=⟨6,0,⟨#[]⟩,0,Ad a n b,0,0,0,0,none,0,0⟩
theorem RI(a b:ByteArray) (ha:a.size<=1000) (hb:b.size<=1000) (n:Nat) (hn:n<4294967296) (w:World) (hT:b_ w):H_ 93 #[T_ a,U_ n,T_ b] w fun e w'=>e=.returned (afb a n b).val/\ae w w':=by
 have HT:=ac5 hT;have hd:=fF n hn;have z1:ByteArray.size ⟨#[91]⟩=1:=rfl;have z2:ByteArray.size ⟨#[32]⟩=1:=rfl;have z3:ByteArray.size ⟨#[93,32]⟩=2:=rfl;have a1:¬9223372036854775807<1+a.size:=O_
 have a2:¬9223372036854775807<1+a.size+1:=O_
 have a3:¬9223372036854775807<1+a.size+1+(jZ n).size:=O_
 have a4:¬9223372036854775807<1+a.size+1+(jZ n).size+2:=O_
 have a5:¬9223372036854775807<1+a.size+1+(jZ n).size+2+b.size:=O_
 clear hT
 go_enter func93,ntmps93
 go_wp2_with fail
 refine(ed n hn _ (HT.out.new ((ae.refl w).alloc _))).mono ?_;rintro e w1 ⟨rfl,n1⟩;have r1:=n1.ai (af.new w 53 #[I_ 0,U_ 0,E_,I_ 0,E_,I_ 0,B_ 0,U_ 0,U_ 0,Z_]);obtain⟨q0,q1,q2,q3,q4,q5,q6,q7,q8,q9⟩:=r1.d_;have ff:=r1.dq;have N1:=ac5 (((ae.refl w).alloc _).trans n1);clear n1;go_wp2;have hR:=r1.oP (I_ 6) (U_ 0) E_ (I_ 0) (T_ (Ad a n b)) (I_ 0) (B_ 0) (U_ 0) (U_ 0) Z_;have hO:=One.oP w1 w.heap.size (I_ 6) (U_ 0) E_ (I_ 0) (T_ (Ad a n b)) (I_ 0) (B_ 0) (U_ 0) (U_ 0) Z_;exact r_ (aI rfl _ _ rfl (fS hR)) rfl ⟨rfl,ae.one N1.out hO (aA _)⟩
abbrev afc(s:ByteArray):cV:=⟨6,0,⟨#[]⟩,0,s,0,0,0,0,none,0,0⟩
section
variable{w0 w w':World}{base:Nat}{S:Sx}{Q:Qs}{M:List bU}{n t f:Int}{xs v x:Nat}{u:Value}{l:List Int}
theorem aal{α:Type}{E:cr α}{w:World}{g:Nat}{t:TypeId}{l:List α}(h:af w g t (E.cells l).toArray):Rd E w (X_ (M_ g) l.length l.length) l:=by
 refine⟨_,l.length,rfl,aA _,fun _=>⟨g,0,rfl,fun i y hy j u hu=>?_⟩⟩;have:=h.cell (i*E.sz+j);rw [aH,this];have:=E.jU hy hu;simpa using this
theorem I8(k:Int) (w:World):H_ 95 #[I_ k,I_ 0] w fun e w'=>e=.returned (.agg #[I_ k,U_ 0,E_,I_ 0,E_,I_ 0,B_ 0,U_ 0,U_ 0,Z_])/\ae w w':=kC k 0 O_ w
end
section
variable{w0 w:World}{base:Nat}{S:Sx}{Q:Qs}{M:List bU}{n t f:Int}
theorem lF(h:cn w0 base w S Q M n t f):H_ 49 #[Q_ S.s] w fun e w'=>e=.returned (I_ S.T.n)/\w'=w:=by
 obtain⟨X,hX,hT⟩:=h.tK;have c0:=h.hd.k0;have HC:=ac5 (Cu hT);clear hT
 go_enter func49,ntmps49
 go_wp2_with (go_at_call 78;refine HC.out.mono ?_;rintro e w1 ⟨rfl,rfl⟩)
 go_ret;exact⟨rfl,rfl⟩
end
theorem VR{w:World}{g:Nat}{a b:Value}(h:af w g 65 #[a,b]):(loadVar 65 (C_ g 0)).run prog w=.ok (.agg #[a,b]) w:=
 kV w g _ _ _ _ _ h underlying65 rfl K_
theorem FZ{P:Program}{fn:Func}{p q r:Tmp}{t:TypeId}(h:fn.results= #[.tmp p,.cell q t,.tmp r]) (tmps:Array Value) (w:World) {a:Addr}{u v v':Value}
 (hp:tmps[p]? =some u) (hq:tmps[q]? =some (.pointer (some a))) (hr:tmps[r]? =some v') (hv:(loadVar t a).run P w=.ok v w):
 (results fn tmps).run P w=.ok (.tuple #[u,v,v']) w:=by
 simp [results,h,hp,hq,hr,asAddr,hv]
theorem mO(k:Nat) (k0:0<k) (k1:k<=16) (cap:Int) (c0:0<=cap) (c1:cap<=4096) (next:Int) (n0:0<=next) (n1:next<=4294967295) (c:Int) (d0:1<=c) (d1:c<=16) (w:World):
 H_ 25 #[.agg #[I_ k,I_ cap,U_ next],I_ c] w fun e w'=>∃S base,e=.returned (.tuple #[Q_ S.s,.agg #[I_ k,I_ c],R_ true])/\w.heap.size<=S.s/\S.cap=cap/\S.T.n=k/\cn w base w' S Qs.none [] (max next 1) 0 (max next 1):=by
 have np:=k_ d0;have oe:=k_ d1;have HN:=ac5 (fun W=>Ra k k0 k1 cap c0 c1 next n0 n1 W)
 go_enter func25,ntmps25
 go_wp2_with fail
 refine(HN.out _).mono ?_;rintro e w1 ⟨S,base,rfl,iW,hk,hS⟩;have m1:=hS.new;have g0:=m1.ai ((af.new w 30 #[I_ k,I_ cap,U_ next]).alloc (G_ #[I_ 0,I_ 0] 65));have g1:=m1.ai (af.cD w (G_ #[I_ k,I_ cap,U_ next] 30) 65 #[I_ 0,I_ 0]);have k0':=g0.k0;have k1':=g0.k1;have Z6:=g0.k2;have p0:=g1.k0;have p1:=g1.k1;have f0:=g1.frozen 0;have f1:=g1.frozen 1;have HS:=ac5 hS;have als:=ac5 iW;have HK:=ac5 hk;have M1:=ac5 m1;have lo:=hS.lo S.s (.inr (.inl rfl));clear hS iW hk m1;go_wp2_with fail
 go_region;go_wp2;have eE:((w.alloc (G_ #[I_ k,I_ cap,U_ next] 30)).alloc (G_ #[I_ 0,I_ 0] 65)).heap.size=w.heap.size+2:=by simp only [gz]
 rw [eE]at lo;have h:=HS.out
 have h0:={h with
  lo:=fun k hk=>by have:=h.lo k hk;rw [eE]at this;omega
  new:=(((ae.refl w).alloc _).alloc _).trans h.new}
 refine r_ (FZ rfl _ _ rfl rfl rfl (VR ((g1.bP (I_ k) (I_ c)).drew))) rfl ⟨S,base,rfl,O_,als.out,HK.out,?_⟩;refine h0.du (R:=fun j=>j=w.heap.size+1) (((One.refl (w.heap.size+1) w1).set 0 _).set 1 _).drew (fun j hj e=>?_) (fun v l ho b hb e=>?_) (fun j e=>O_)
 ·have:=h.lo j hj;rw [eE]at this;omega
 ·exact ho.ar g1 D_ (by rw [<-e];exact hb)
end Go.Proofs.YtliimglbbiebiaaGreatDoor
