import Derived.Test.YtliimglbbiebiaaGreatDoorGTopTimeAU
set_option maxRecDepth 100000
set_option maxHeartbeats 6400000
set_option linter.all false
namespace Go.Proofs.YtliimglbbiebiaaGreatDoor
open Go.Proofs.Tryz Go.RowKit Go.Maps
theorem IZ{w0 W:World}{base:Nat}{S:Sx}{Q:Qs}{M:List bU}{n t f:Int}{i:Int}{xs v x:Nat}{u:Value}{l:List Int}(V:SV w0 base W S Q M n t f i xs v x u l) (hn:n<=5000) (hQ:∀i∈Q.ids,(Q.l i).length<=90000000)
 (c:fK) (s:List Rg) (hv:Rd lP W (X_ c.sA c.sn c.sc) s) (gQ:∀r∈s,r.wf) (hs:s.length<=100000) {bs OB:Nat}{vo:Value}{lo:List cV}(ho:fU bs OB vo lo W) (fi:lo.length<=1000) (lA:base<=bs) (CD:w0.heap.size<=bs) (iZ:bs<=W.heap.size) (gU:base<=OB) (B5:w0.heap.size<=OB):
 H_ 71 #[Q_ xs,c.val,rR OB] W fun e W'=>Ts w0 base W W' S Q n f i xs (some (v,x,u,l)) bs OB vo lo e:=by
 have hl:l.length<=5000:=by have:=hZ V.kJ V.bd;omega
 have LC:c.sn=s.length:=by
  obtain⟨_,_,he,_⟩:=hv;injection he
 obtain⟨WA,ox⟩:∃WA,WA=((W.alloc (G_ #[T_ c.t,I_ c.k,T_ c.m,X_ c.sA c.sn c.sc,I_ c.it,I_ c.mo,R_ c.si,B_ c.fl,X_ c.dA c.dn c.dc] 47)).alloc (G_ #[I_ 0,E_] 108)):=⟨_,rfl⟩;have nA:ae W WA:=ox▸((ae.refl W).alloc _).alloc _;have cA:=ox▸(af.new _ _ _).alloc _;have rA:=ox▸af.cD _ _ _ _;have VA:=V.new nA;have Gn:=V.st.hb;have I1:=V.st.new.size;have oR:=V.ib;have s0:=VA.dF.k0;have s1:=VA.dF.k1;have s2:=VA.dF.k2;have d3:=cA.k3;have d4:=cA.k4
 have gh:∀k,(k=v\/k=x\/u.ownBlock=some k)->¬S.aB Q k:=by
  rintro k (rfl|rfl|hk)
  ·exact VA.fv
  ·exact VA.nx
  ·exact VA.nu k hk
 have HG:=ac5 (Rv (VA.st.more (ae.refl WA).drew) (af.drew VA.vw) (VA.ix.new (ae.refl WA).drew) O_ VA.bd gh (fun j hj=>by have:=hQ j hj;omega) c.sA c.sc s (by rw [<-LC];exact(hv.new nA).new (ae.refl WA).drew) gQ hs i c.it);rw [<-LC]at HG;have H:=ac5 (And.intro VA (And.intro nA (And.intro cA (And.intro rA (And.intro (ho.new nA) hQ)))));clear V VA nA cA rA gh ho hQ hv gQ LC
 go_enter func71,ntmps71
 go_wp2_with fail
 rw [<-ox];clear ox
 go_region_held3 (fun W'=>L_ W' xs 0 (Q_ S.s)/\L_ W' xs 1 (I_ i)/\L_ W' xs 2 (Q_ v)/\L_ W' W 3 (X_ c.sA c.sn c.sc)/\L_ W' W 4 (I_ c.it)) (first|go_keep|(refine⟨?_,?_,?_,?_,?_⟩<;>assumption)) ((first
  |(go_at_call 101
    refine HG.out.mono ?_;rintro e w2 ⟨Tr,lo2,code,rfl,cl,hp,Ry,hc,j,Q1,M1,hj,hg,aac,aad⟩;have VD:=H.out.1.new (Fr.drew (ae.refl WA))
    have V2:=VD.store hg.st rfl hg.fr hg.gr (gq _) (by rw [hg.ids];exact VD.hi) (fun e he=>by
     obtain⟨L,h1,_,h3⟩:=hg.ev i;rw [h1]at he;rcases List.mem_append.1 he with he|he
     ·exact VD.ev e he
     ·obtain⟨k1,k2,k3⟩:=h3 e he;exact⟨O_,k2,O_⟩)
    have c2:=hg.fr.ai (af.drew H.out.2.2.1) (VD.st.aX (af.drew H.out.2.2.1) O_ D_ D_ D_ D_ D_ D_);have r2:=hg.fr.ai (af.drew H.out.2.2.2.1) (VD.st.aX (af.drew H.out.2.2.2.1) O_ D_ D_ D_ D_ D_ D_);have p0:=V2.dF.k0;have p1:=V2.dF.k1;have p2:=V2.dF.k2;have p3:=c2.k3;have p4:=c2.k4;have H2:=ac5 (And.intro V2 (And.intro r2 (And.intro cl (And.intro hp (And.intro Ry (And.intro hc (And.intro hj hg)))))));clear VD V2 c2 r2 cl hp Ry hc hj hg aac aad)
  |fail))
 have vm:=H2.out.2.2.2.2.2.2.2;have Ig:=vm.fr.size;have e2:WA.drew.heap.size=WA.heap.size:=rfl;have hsA:=H.out.2.1.size
 have hnf:∀k ty cs,af WA.drew k ty cs->base<=k->(ty=50\/ty=53\/ty=5)->¬S.aB Q k:=by
  rintro k ty cs hb hk (rfl|rfl|rfl)<;>exact(H.out.1.st.more (Fr.drew (ae.refl WA))).aX hb hk D_ D_ D_ D_ D_ D_
 have eY:fU bs OB vo lo w2:=by
  have uV:=H.out.2.2.2.2.1;exact(uV.new (Fr.drew (ae.refl WA))).fr vm.fr fun k ty cs hb hk ht=>hnf k ty cs hb O_ ht
 have Bu:=ac5 eY;have ae4:=H2.out.2.2.2.2.1
 have akB:(Q1.l i).length<=91000000:=by
  obtain⟨L,h1,h2,_⟩:=vm.ev i;have:=H.out.2.2.2.2.2 i H.out.1.hi;have:=H2.out.2.2.2.2.2.2.1;rw [h1,dr];omega
 clear hnf eY vm;by_cases h3:code=3
 ·subst h3;go_wp2_with fail
  refine(ri xs ⟨#[70,69,84,67,72]⟩ D_ Tr OB w2).mono ?_;rintro e w3 ⟨st,tx,rfl,bT,Od,n3⟩;have b3:=n3.ai H2.out.2.1;have c0:=b3.k0;have c1:=b3.k1;have ff:=b3.dq;go_wp2;refine r_ (aI rfl _ _ rfl (dN (b3.bP (I_ st) (T_ tx)))) rfl ?_;have one:=One.bP w3 (W.heap.size+1) (I_ st) (T_ tx)
  have V6:=(H2.out.1.new n3).apart one (fun k hk _=>by
   have e:=hk;rw [e];exact⟨O_,O_,_,.inr (.inr b3)⟩)
  have Ew:=(Bu.out.new n3).one one b3 D_ D_ D_;have g1:dJ W WA.drew S Q n i xs (some (v,x,u,l)) 0 0 (fun k=>k=OB\/vo.ownBlock=some k) S Q n (some (v,x,u,l)):=dJ.refl (Fr.drew H.out.2.1);have g2:=g1.trans (H2.out.2.2.2.2.2.2.2.ops (m:=5000) (R:=fun _=>False) (l:=l) (i:=i) (xs:=xs) (by have:=H2.out.2.2.2.2.2.2.1;omega)) fun _ h=>h.elim;have g3:=(g2.trans (dJ.refl (R:=fun _=>False) n3) fun _ h=>h.elim).trans (dJ.side one) fun k e=>by have e:=e;exact .inr O_
  exact⟨st,tx,vo,lo,S,Q1,M1,n,t,some (v,x,u,l),false,rfl,⟨bT,Od⟩,Ew,⟨rfl,V6⟩,g3.xE O_ O_ fun _ _ h=>h,fun r hr=>.inl hr,by have:=g2.own;omega⟩
 ·go_wp2_with fail
  refine(rj H2.out.1 O_ O_ ⟨#[70,69,84,67,72]⟩ D_ code H2.out.2.2.2.2.2.1 h3 Tr lo2 H2.out.2.2.1.rd O_ (fun r hr=>(H2.out.2.2.2.1 r hr).2.mono O_) Bu.out O_ lA CD O_ gU B5).mono ?_;rintro e w3 ⟨st,tx,i_,iR,rfl,bT,fg,mh,o_,v',u',l',V3,yN,iL,F3,MO⟩
  have b3:=F3.ai H2.out.2.1 (by
   rintro(e|e|e|e|e|e)
   ·exact H2.out.1.st.aX H2.out.2.1 O_ D_ D_ D_ D_ D_ D_ e
   ·exact H2.out.2.1.aU H2.out.1.vw D_ e
   ·exact H2.out.2.1.aU H2.out.1.ix.1 D_ e
   ·obtain⟨cs,hc⟩:=H2.out.1.ix.2.1.heap e;exact H2.out.2.1.aU hc D_ rfl
   ·exact H2.out.2.1.aU Bu.out.b D_ e
   ·exact Bu.out.r.aD H2.out.2.1 D_ e)
  have c0:=b3.k0;have c1:=b3.k1;have ff:=b3.dq;go_wp2;refine r_ (aI rfl _ _ rfl (dN (b3.bP (I_ st) (T_ tx)))) rfl ?_;have one:=One.bP w3 (W.heap.size+1) (I_ st) (T_ tx)
  have V6:=V3.apart one (fun k hk _=>by
   have e:=hk;rw [e];exact⟨O_,O_,_,.inr (.inr b3)⟩)
  have Ew:=fg.one one b3 D_ D_ D_;have g1:dJ W WA.drew S Q n i xs (some (v,x,u,l)) 0 0 (fun k=>k=OB\/vo.ownBlock=some k) S Q n (some (v,x,u,l)):=dJ.refl (Fr.drew H.out.2.1);have g2:=g1.trans (H2.out.2.2.2.2.2.2.2.ops (m:=5000) (R:=fun _=>False) (l:=l) (i:=i) (xs:=xs) (by have:=H2.out.2.2.2.2.2.2.1;omega)) fun _ h=>h.elim;have g3:=(g2.trans (dJ.B6 (v':=v') (L:=(Q1.l i).filter fun x=> !(false||decide (x.k≠2))) (l:=l) (l':=l') iL F3 MO (cR _ _)) fun _ h=>.inl h).trans (dJ.side one) fun k e=>by have e:=e;exact .inr O_
  exact⟨st,tx,i_,iR,S,_,M1,n,t,some (v,x,u',l'),false,rfl,bT,Ew,⟨rfl,V6⟩,g3.xE O_ O_ fun _ _ h=>h,fun r hr=>(mh r hr).imp id (fun h=>h.elim (fun h=>.inr ⟨_,_,_,_,rfl,(H2.out.2.2.2.1 r h).1.up yN⟩) .inl),by have:=g2.own;rw [Qs.xB];omega⟩
section
open Go.RowKit Go.Maps Go.Shelf Go.Proofs
def Aa:Go.Shelf.Ren:=⟨fun|7=>424|10=>451|n=>n,fun|23=>503|26=>3|3=>58|28=>80|0=>0|27=>79|33=>77|4=>4|n=>n,fun|n=>n⟩
theorem XR:Go.Proofs.SlLaysZI.n7 prog Aa:={
 mixed:=K_
 f7:=⟨Tryz.f424.name,D_,aK func424 K_⟩
 f10:=⟨Tryz.f451.name,D_,aK func451 K_⟩
 t0:=underlying0
 a0:=isAgg0
 z0:=sizeOf0
 v0:=zeroValue0
 t4:=underlying4
 a4:=isAgg4
 z4:=sizeOf4
 v4:=zeroValue4
 t23:=underlying503
 a23:=isAgg503
 z23:=sizeOf503
 v23:=zeroValue503
 t26:=underlying3
 a26:=isAgg3
 z26:=sizeOf3
 v26:=zeroValue3
 t27:=underlying79
 a27:=isAgg79
 z27:=sizeOf79
 v27:=zeroValue79
 t28:=underlying80
 a28:=isAgg80
 z28:=sizeOf80
 v28:=zeroValue80
 t33:=underlying77
 a33:=isAgg77
 z33:=sizeOf77
 v33:=zeroValue77}
theorem M3(mb:Option Nat) (w:World):H_ 424 #[.map mb] w fun e w'=>e=.returned (.func (.func 451) #[] #[Q_ w])/\w'=w.alloc (G_ #[.map mb] 503):=
 (ay (n:=5)).1 (AnyZI.keys_in XR Fence.wide 5 trivial rfl mb w)
theorem Fl{w:World}{g bm:Nat}{l:List (Int×Value)}(hg:af w g 503 #[.map (some bm)]) (hm:HasMap aL w bm l) (hl:l.length<=1000000):
 H_ 211 #[.func (.func 451) #[] #[Q_ g]] w fun e w'=>∃v s,e=.returned v/\Own (ak .i64) 3 w.heap.size w' v s/\s.Pairwise (·<·)/\(∀x,x∈s<->jf x/\(get l x).isSome)/\s.length<=l.length/\ae w w':=by
 obtain⟨D,h1,h2,h3⟩:=hm.own;have zM:=hg.lt
 have hseq:SeqGives Fence.wide 2 prog 451 #[Q_ g] encZ (fun ss=>ss.Perm (Go.intKeys D)) (Maps.size D) w:=
  AnyZI.keys_gives (ρ:=Aa) {XR with} Fence.wide _ trivial rfl O_ g bm _ D _ zM (hg.cell 0) h1
 have cS:=AnyZI.sorted_in J7 Fence.wide 5 trivial trivial trivial trivial rfl O_ (PN _) (Aw func286 K_ rfl) 451 #[Q_ g] trivial (Aw func451 K_ rfl) _ (Maps.size D) (by rw [h2];unfold maxLen;omega) (by rw [h2];omega) w hseq;refine((ay (n:=5)).1 cS).mono ?_;rintro e w' ⟨v,ss,rfl,tB,eQ,_,hb⟩;obtain⟨es,hD,hpw,_⟩:=h1.entries aL.law;obtain⟨es',hD',hko⟩:=h1.keysOf;obtain rfl:es=es':=by rw [hD]at hD';simpa using hD'
 have NN:∀p∈es,∃x:Int,p.1=.int .i64 x/\jf x:=fun p hp=>by
  obtain⟨v,hv⟩:=hko p hp;obtain⟨x,_,hx,hw⟩:=Maps.keyOf_i64 underlying3 hv;exact⟨x,hx,hw⟩
 have gT:(Go.intKeys D).Nodup:=by
  subst hD
  show(es.map fun p=>Go.intOf p.1).Nodup
  refine List.pairwise_map.2 (hpw.imp_of_mem fun{p q} Hq hq' bV e=>bV ?_);obtain⟨a,ha,_⟩:=NN p Hq;obtain⟨b,hb,_⟩:=NN q hq';rw [ha,hb]at e⊢;exact congrArg _ e
 have nK:∀x,x∈Go.intKeys D<->jf x/\(get l x).isSome:=by
  intro x;have hh:∀x,jf x->(Maps.has D (.int .i64 x)=(get l x).isSome):=fun x hx=>oJ (h3 x hx);subst hD
  show x∈es.map (fun p=>Go.intOf p.1)<->_
  rw [SE]
  constructor
  ·rintro⟨p,hp,rfl⟩;obtain⟨a,ha,hw⟩:=NN p hp;have e1:Go.intOf p.1=a:=by rw [ha];rfl
   rw [e1];refine⟨hw,?_⟩;rw [<-hh a hw,has_eq,CN];exact⟨p,hp,by rw [ha];simp [Lit.sameKey]⟩
  ·rintro⟨hw,hs⟩;rw [<-hh x hw,has_eq,CN]at hs;obtain⟨p,hp,hq⟩:=hs;obtain⟨a,ha,_⟩:=NN p hp;refine⟨p,hp,?_⟩;rw [ha]at hq⊢;simpa [Lit.sameKey,Go.intOf]using hq
 have lM:(ss.mergeSort (fun x y=>decide (x<=y))).Perm (Go.intKeys D):=(eU ss _).trans tB
 have hlen:ss.length<=l.length:=by
  have e1:=tB.length_eq;have e2:(Go.intKeys D).length=es.length:=by subst hD;exact D9 _
  have e3:es.length=l.length:=by rw [<-h2];subst hD;rfl
  omega
 refine⟨v,ss.mergeSort (fun x y=>decide (x<=y)),rfl,?_,?_,fun x=>?_,?_,ae.eF hb⟩
 ·unfold Own;rw [kT,ke];exact eQ
 ·have hs:=YW (le:=fun x y:Int=>decide (x<=y)) (fun a b c h1 h2=>by simp only [aJ]at *;omega) (fun a b=>by simp only [Bool.or_eq_true,aJ];omega) ss;have hn:=lM.nodup_iff.2 gT;exact(hs.and hn).imp fun{a b} h=>by have h4:=h.1;have h5:=h.2;simp only [aJ]at h4;omega
 ·rw [lM.mem_iff];exact nK x
 ·rw [ke];exact hlen
theorem aaf(w:World):(zeroValue 58).run prog w=.ok Z_ w:=K_
theorem Ab:(prog.info? 28).map (fun i=>(i.zero,i.size,i.bytes))=some (some (.int .u32 0),1,4):=K_
structure Tt(base:Nat) (w:World) (m:Nat) (l:List (Int×Value)) (n:Int) (N:Nat):Prop where
 map:HasMap aL w m l
 lo:base<=m
 len:l.length<=N
 ks:∀k v,get l k=some v->0<=k/\k<n
 own:∀k v,get l k=some v->∃L,Own (ak .u32) 28 base w v L/\L.length<=N
 apart:∀j k v u,j≠k->get l j=some v->get l k=some u->∀g,v.ownBlock=some g->u.ownBlock≠some g
theorem Tt.new {base m N:Nat}{w w':World}{l:List (Int×Value)}{n:Int}(h:Tt base w m l n N) (hn:ae w w'):Tt base w' m l n N:=
 ⟨h.map.fr hn id,h.lo,h.len,h.ks,fun k v hv=>by obtain⟨L,h1,h2⟩:=h.own k v hv;exact⟨L,h1.new hn,h2⟩,h.apart⟩
theorem Tt.look {base m N:Nat}{w:World}{l:List (Int×Value)}{n:Int}(h:Tt base w m l n N) (k:Int) (hk:jf k):
 ∃v L,(Instr.lookup 503 (.map (some m)) (I_ k) false).run prog w=.ok v w/\Own (ak .u32) 28 base w v L/\L.length<=N/\∀j u,j≠k->get l j=some u->∀g,v.ownBlock=some g->u.ownBlock≠some g:=by
 have hl:=h.map.eG (t:=503) (e:=58) underlying503 (aaf w) hk
 cases hg:get l k with
 |none=>rw [hg]at hl;exact⟨_,[],hl,Own.nil _ _ _ _,Gv _,fun j u _ _ g vm=>by cases vm⟩
 |some v=>
  rw [hg]at hl;obtain⟨L,h1,h2⟩:=h.own k v hg;exact⟨v,L,hl,h1,h2,fun j u hj hu g vm=>h.apart k j v u (iX hj) hg hu g vm⟩
theorem Tt.put {base m N:Nat}{w w1 w2:World}{l:List (Int×Value)}{n:Int}(h:Tt base w m l n N) {k:Int}(lV:0<=k) (eA:k<n) {v v':Value}{L':List Int}
 (pU:∀j u,j≠k->get l j=some u->∀g,v.ownBlock=some g->u.ownBlock≠some g) (hf:Fr (fun g=>v.ownBlock=some g) w w1) (hvm:v.ownBlock≠some m)
 (ho:Own (ak .u32) 28 base w1 v' L') (hL:L'.length<=N+1) (hb:v'.ownBlock=v.ownBlock\/∃g,v'.ownBlock=some g/\w.heap.size<=g) (hm:HasMap aL w2 m (put l k v')) (h2:One m w1 w2):Tt base w2 m (put l k v') n (N+1):=by
 have du:∀j u L,j≠k->get l j=some u->Own (ak .u32) 28 base w u L->Own (ak .u32) 28 base w2 u L:=fun j u L hj hu hou=>by
  have h3:=hou.fr hf fun g hg e=>pU j u hj hu g e hg;exact h3.fr h2 fun g hg (e:g=m)=>by subst e;obtain⟨cs,hc⟩:=hou.heap hg;exact h.map.aD hc rfl
 refine⟨hm,h.lo,aj h.len,fun j u hu=>?_,fun j u hu=>?_,fun j j' u u' hj hu JH g hg=>?_⟩
 ·by_cases zO:j=k
  ·subst zO;exact⟨lV,eA⟩
  ·rw [aE l v' zO]at hu;exact h.ks j u hu
 ·by_cases zO:j=k
  ·subst zO;rw [bW]at hu
   cases hu
   exact⟨L',ho.fr h2 fun g hg (e:g=m)=>by subst e;obtain⟨cs,hc⟩:=ho.heap hg;exact(h.map.fr hf hvm).aD hc rfl,hL⟩
  ·rw [aE l v' zO]at hu;obtain⟨L,h1,h3⟩:=h.own j u hu;exact⟨L,du j u L zO hu h1,O_⟩
 ·have bJ:∀j u,get l j=some u->∀g,u.ownBlock=some g->g<w.heap.size:=fun j u hu g hg=>by obtain⟨L,h1,_⟩:=h.own j u hu;exact(h1.block hg).2
  by_cases zO:j=k
  ·subst zO;rw [bW]at hu
   cases hu
   rw [aE l v' (iX hj)]at JH;rcases hb with e|⟨g',e,Gr⟩
   ·exact pU j' u' (iX hj) JH g (e▸hg)
   ·intro e';rw [e]at hg;cases hg;have:=bJ j' u' JH _ e';omega
  ·rw [aE l v' zO]at hu;by_cases ae5:j'=k
   ·subst ae5;rw [bW]at JH
    cases JH
    intro e';rcases hb with e|⟨g',e,Gr⟩
    ·exact pU j u zO hu g (e▸e') hg
    ·rw [e]at e';cases e';have:=bJ j u hu _ hg;omega
   ·rw [aE l v' ae5]at JH;exact h.apart j j' u u' hj hu JH g hg
theorem I3(A:Option Addr) (c:Nat) (l:List Int) (w:World) (hv:Rd (ak .u32) w (X_ A l.length c) l) (hl:l.length<=100000) (hb:∀y∈l,0<=y/\y<=4294967295) (n:Nat) (iP:0<n) (br:n<=1000):
 H_ 425 #[I_ n,X_ A l.length c] w fun e w'=>∃m p,e=.returned (.map (some m))/\Tt w.heap.size w' m p n l.length/\ae w w':=by
 obtain⟨i0,hi,dw,cE,dy⟩:=wF Ab;have hmx:l.length<=9223372036854775806:=O_
 have uH:= @run_makeMap prog;have ast:¬(n:Int)<1:=O_
 have hnu:IntKind.u64.wrap (n:Int)=n:=by simp [Q5];omega
 have hnz:(n:Int)≠0:=O_
 have hnN:n≠0:=O_
 have hnz':((n:Int)==0)=false:=by simp;omega
 have HV:=ac5 hv;have HB:=ac5 hb;have M0:=ac5 (And.intro (HasMap.made aL w) ((ae.refl w).alloc (.map #[] 0)));clear hv hb
 go_enter func425,ntmps425
 go_wp2
 go_loopw [14] (fun iv wr=>∃(k:Nat) (p:List (Int×Value)),k<=l.length/\iv=I_ k/\Hid (Tt w.heap.size wr w.heap.size p n k/\ae w wr)) (fun iv _=>l.length-(intOf iv).toNat)
 case atStart=>exact⟨0,[],Gv _,rfl,ac5 ⟨⟨M0.out.1,aA _,aA _,fun k v h=>(by cases h),fun k v h=>(by cases h),fun j k v u _ h=>(by cases h)⟩,M0.out.2⟩⟩
 case round=>
  obtain⟨k,p,hk,rfl,HR⟩:=hrel;by_cases dL:k<l.length
  ·obtain⟨x,hx⟩:∃x,l[k]? =some x:=⟨_,DW dL⟩;obtain⟨_,_,he,_,az⟩:=HV.out
   cases he
   obtain⟨b,off,rfl,aF⟩:=az (by rintro rfl;simp at dL)
   have c0:L_ wr b (off+k) (U_ x):=by
    have:=aF k _ hx 0 _ rfl;simp only [ak,RZ,Au]at this;exact Fr.cell HR.out.2 this id
   have nf:=HB.out x (YX hx);have hku:IntKind.u64.wrap x=x:=by simp [Q5];omega
   have ae6:0<=x %(n:Int):=Kl _ O_;have ae7:x %(n:Int)<n:=Km _ O_;have hkt:Int.tmod x (n:Int)=x %n:=adN nf.1;have hkw:IntKind.u64.wrap (x %(n:Int))=x %n:=by simp [Q5];omega
   have akC:IntKind.i64.wrap (x %(n:Int))=x %n:=aM _ O_;obtain⟨r,hr⟩:∃r:Int,r=x %n:=⟨_,rfl⟩;rw [<-hr]at ae6 ae7 hkt hkw akC;have dx:jf r:=ve O_;obtain⟨v,L,eN,ho,hL,pU⟩:=HR.out.1.look r dx;have asv:=eN;have HO:=ac5 (And.intro ho pU);have hwz:=HR.out.1.map.lt;have hvm:v.ownBlock≠some w.heap.size:=fun e=>by obtain⟨cs,hc⟩:=ho.heap e;exact HR.out.1.map.aD hc rfl
   have HVM:=ac5 hvm;clear aF az hx nf eN ho pU hr hvm;go_wp2_with (at_builtin;refine bC (E:=ak .u32) rfl _ _ _ rfl underlying58 hi dw cE dy rfl (HO.out.1.alloc _) rfl x wr.heap.size (af.new _ _ _) 1 rfl (by unfold maxLen;omega) O_ (by rw [gz];omega) ?_;intro v4 w4 lq fL Db;have F4:=ac5 (And.intro lq (And.intro fL Db));clear lq fL Db;obtain⟨w5,Vm,S8,kW⟩:=((HR.out.1.map.alloc (G_ #[U_ x] 28)).fr F4.out.2.1 (fun e=>HVM.out e)).mP (t:=503) (e:=58) underlying503 (iB HR.out.1.len (by unfold maxLen;omega)) dx v4;change (Instr.mapUpdate 503 (.map (some w.heap.size)) (I_ r) v4).run prog w4=_ at Vm;have F5:=ac5 (And.intro S8 kW);clear S8 kW)
   go_roundw
   case rel=>
    have Tj:=((Fr.refl (fun g=>v.ownBlock=some g) wr).alloc _).trans F4.out.2.1;have hP:=HR.out.1.put ae6 ae7 HO.out.2 Tj HVM.out F4.out.1 (by rw [dr];simp;omega) (F4.out.2.2.imp id fun e=>⟨_,e,by rw [gz];omega⟩) F5.out.1 F5.out.2;exact⟨k+1,_,O_,by go_num,ac5 ⟨hP,Fr.trans' (ae.append HR.out.2 HO.out.1 Tj) F5.out.2 fun i hi (e:i=w.heap.size)=>O_⟩⟩
   case measure=>simp [intOf];omega
  ·obtain rfl:k=l.length:=O_
   go_wp2;go_ret;exact⟨_,p,rfl,HR.out.1,HR.out.2⟩
theorem B7(A:Option Addr) (c:Nat) (l:List Int) (w:World) (hv:Rd (ak .u32) w (X_ A l.length c) l) (hl:l.length<=100000) (hb:∀y∈l,0<=y/\y<=4294967295) (n:Nat) (iP:0<n) (br:n<=1000):
 H_ 380 #[I_ n,X_ A l.length c] w fun e w'=>∃v s,e=.returned v/\Own (ak .i64) 3 w.heap.size w' v s/\(∀y∈s,0<=y/\y<n)/\s.length<=l.length/\ae w w':=by
 have HS:=ac5 (I3 A c l w hv hl hb n iP br);clear hv hb
 go_enter func380,ntmps380
 go_wp2_with fail
 refine HS.out.mono ?_;rintro e w1 ⟨m,p,rfl,hP,n1⟩;have HP:=ac5 (And.intro hP n1);clear hP n1;go_wp2_with fail
 refine(M3 _ _).mono ?_;rintro e w2 ⟨rfl,AU⟩;have hg:af w2 w1 503 #[.map (some m)]:=by rw [AU];exact af.new _ _ _
 have n2:ae w1 w2:=by rw [AU];exact(ae.refl _).alloc _
 have Qh:=HP.out.1.new n2;have HG:=ac5 (Fl hg Qh.map (by have:=Qh.len;omega));have XS:=ac5 (And.intro Qh (HP.out.2.trans n2));clear hg Qh AU;go_wp2_with fail
 refine HG.out.mono ?_;rintro e w3 ⟨v,s,rfl,hs,_,SZ,jE,n3⟩;have F:=ac5 (And.intro hs (And.intro SZ (And.intro jE n3)));clear hs SZ jE n3;go_wp2;go_ret;refine⟨v,s,rfl,F.out.1.mono XS.out.2.size,fun y hy=>?_,gy F.out.2.2.1 XS.out.1.len,XS.out.2.trans F.out.2.2.2⟩;obtain⟨_,hs⟩:=(F.out.2.1 y).1 hy
 cases hg:get p y with
 |none=>rw [hg]at hs;cases hs
 |some u=>exact XS.out.1.ks y u hg
end
theorem Jc{w0 W:World}{base:Nat}{S:Sx}{Q:Qs}{M:List bU}{n t f:Int}{i:Int}{xs v x:Nat}{u:Value}{l:List Int}(V:SV w0 base W S Q M n t f i xs v x u l) (hn:n<=5000) (hQ:∀i∈Q.ids,(Q.l i).length<=90000000)
 (c:fK) (F9:0<=c.fl) (s:List Rg) (hv:Rd lP W (X_ c.sA c.sn c.sc) s) (gQ:∀r∈s,r.wf) (hs:s.length<=100000) {bs OB:Nat}{vo:Value}{lo:List cV}(ho:fU bs OB vo lo W) (fi:lo.length<=1000) (lA:base<=bs) (CD:w0.heap.size<=bs) (iZ:bs<=W.heap.size) (gU:base<=OB) (B5:w0.heap.size<=OB):
 H_ 72 #[Q_ xs,c.val,rR OB] W fun e W'=>Ts w0 base W W' S Q n f i xs (some (v,x,u,l)) bs OB vo lo e:=by
 have hl:l.length<=5000:=by have:=hZ V.kJ V.bd;omega
 have LC:c.sn=s.length:=by
  obtain⟨_,_,he,_⟩:=hv;injection he
 obtain⟨WA,ox⟩:∃WA,WA=((W.alloc (G_ #[T_ c.t,I_ c.k,T_ c.m,X_ c.sA c.sn c.sc,I_ c.it,I_ c.mo,R_ c.si,B_ c.fl,X_ c.dA c.dn c.dc] 47)).alloc (G_ #[I_ 0,E_] 108)):=⟨_,rfl⟩;have nA:ae W WA:=ox▸((ae.refl W).alloc _).alloc _;have cA:=ox▸(af.new _ _ _).alloc _;have rA:=ox▸af.cD _ _ _ _;have VA:=V.new nA;have Gn:=V.st.hb;have I1:=V.st.new.size;have oR:=V.ib;have s0:=VA.dF.k0;have s1:=VA.dF.k1;have s2:=VA.dF.k2;have d3:=cA.k3;have d4:=cA.k5;have d5:=cA.k6;have d6:=cA.k7
 have gh:∀k,(k=v\/k=x\/u.ownBlock=some k)->¬S.aB Q k:=by
  rintro k (rfl|rfl|hk)
  ·exact VA.fv
  ·exact VA.nx
  ·exact VA.nu k hk
 have HG:=ac5 (Rw (VA.st.more (ae.refl WA).drew) (af.drew VA.vw) (VA.ix.new (ae.refl WA).drew) O_ VA.bd gh (fun j hj=>by have:=hQ j hj;omega) c.sA c.sc s (by rw [<-LC];exact(hv.new nA).new (ae.refl WA).drew) gQ hs i c.mo c.fl c.si F9);rw [<-LC]at HG;have H:=ac5 (And.intro VA (And.intro nA (And.intro cA (And.intro rA (And.intro (ho.new nA) hQ)))));clear V VA nA cA rA gh ho hQ hv gQ LC
 go_enter func72,ntmps72
 go_wp2_with fail
 rw [<-ox];clear ox
 go_region_held3 (fun W'=>L_ W' xs 0 (Q_ S.s)/\L_ W' xs 1 (I_ i)/\L_ W' xs 2 (Q_ v)/\L_ W' W 3 (X_ c.sA c.sn c.sc)/\L_ W' W 5 (I_ c.mo)/\L_ W' W 6 (R_ c.si)/\L_ W' W 7 (B_ c.fl)) (first|go_keep|(refine⟨?_,?_,?_,?_,?_,?_,?_⟩<;>assumption)) ((first
  |(go_at_call 103
    refine HG.out.mono ?_;rintro e w2 ⟨Tr,lo2,code,rfl,cl,hp,Ry,hc,j,Q1,M1,hj,hg,aac,aad⟩;have VD:=H.out.1.new (Fr.drew (ae.refl WA))
    have V2:=VD.store hg.st rfl hg.fr hg.gr (gq _) (by rw [hg.ids];exact VD.hi) (fun e he=>by
     obtain⟨L,h1,_,h3⟩:=hg.ev i;rw [h1]at he;rcases List.mem_append.1 he with he|he
     ·exact VD.ev e he
     ·obtain⟨k1,k2,k3⟩:=h3 e he;exact⟨O_,k2,O_⟩)
    have c2:=hg.fr.ai (af.drew H.out.2.2.1) (VD.st.aX (af.drew H.out.2.2.1) O_ D_ D_ D_ D_ D_ D_);have r2:=hg.fr.ai (af.drew H.out.2.2.2.1) (VD.st.aX (af.drew H.out.2.2.2.1) O_ D_ D_ D_ D_ D_ D_);have p0:=V2.dF.k0;have p1:=V2.dF.k1;have p2:=V2.dF.k2;have p3:=c2.k3;have p4:=c2.k5;have p5:=c2.k6;have p6:=c2.k7;have H2:=ac5 (And.intro V2 (And.intro r2 (And.intro cl (And.intro hp (And.intro Ry (And.intro hc (And.intro hj hg)))))));clear VD V2 c2 r2 cl hp Ry hc hj hg aac aad)
  |fail))
 have vm:=H2.out.2.2.2.2.2.2.2;have Ig:=vm.fr.size;have e2:WA.drew.heap.size=WA.heap.size:=rfl;have hsA:=H.out.2.1.size
 have hnf:∀k ty cs,af WA.drew k ty cs->base<=k->(ty=50\/ty=53\/ty=5)->¬S.aB Q k:=by
  rintro k ty cs hb hk (rfl|rfl|rfl)<;>exact(H.out.1.st.more (Fr.drew (ae.refl WA))).aX hb hk D_ D_ D_ D_ D_ D_
 have eY:fU bs OB vo lo w2:=by
  have uV:=H.out.2.2.2.2.1;exact(uV.new (Fr.drew (ae.refl WA))).fr vm.fr fun k ty cs hb hk ht=>hnf k ty cs hb O_ ht
 have Bu:=ac5 eY;have ae4:=H2.out.2.2.2.2.1
 have akB:(Q1.l i).length<=91000000:=by
  obtain⟨L,h1,h2,_⟩:=vm.ev i;have:=H.out.2.2.2.2.2 i H.out.1.hi;have:=H2.out.2.2.2.2.2.2.1;rw [h1,dr];omega
 clear hnf eY vm;by_cases h3:code=3
 ·subst h3;go_wp2_with fail
  refine(ri xs ⟨#[83,84,79,82,69]⟩ D_ Tr OB w2).mono ?_;rintro e w3 ⟨st,tx,rfl,bT,Od,n3⟩;have b3:=n3.ai H2.out.2.1;have c0:=b3.k0;have c1:=b3.k1;have ff:=b3.dq;go_wp2;refine r_ (aI rfl _ _ rfl (dN (b3.bP (I_ st) (T_ tx)))) rfl ?_;have one:=One.bP w3 (W.heap.size+1) (I_ st) (T_ tx)
  have V6:=(H2.out.1.new n3).apart one (fun k hk _=>by
   have e:=hk;rw [e];exact⟨O_,O_,_,.inr (.inr b3)⟩)
  have Ew:=(Bu.out.new n3).one one b3 D_ D_ D_;have g1:dJ W WA.drew S Q n i xs (some (v,x,u,l)) 0 0 (fun k=>k=OB\/vo.ownBlock=some k) S Q n (some (v,x,u,l)):=dJ.refl (Fr.drew H.out.2.1);have g2:=g1.trans (H2.out.2.2.2.2.2.2.2.ops (m:=5000) (R:=fun _=>False) (l:=l) (i:=i) (xs:=xs) (by have:=H2.out.2.2.2.2.2.2.1;omega)) fun _ h=>h.elim;have g3:=(g2.trans (dJ.refl (R:=fun _=>False) n3) fun _ h=>h.elim).trans (dJ.side one) fun k e=>by have e:=e;exact .inr O_
  exact⟨st,tx,vo,lo,S,Q1,M1,n,t,some (v,x,u,l),false,rfl,⟨bT,Od⟩,Ew,⟨rfl,V6⟩,g3.xE O_ O_ fun _ _ h=>h,fun r hr=>.inl hr,by have:=g2.own;omega⟩
 ·go_wp2_with fail
  refine(rj H2.out.1 O_ O_ ⟨#[83,84,79,82,69]⟩ D_ code H2.out.2.2.2.2.2.1 h3 Tr lo2 H2.out.2.2.1.rd O_ (fun r hr=>(H2.out.2.2.2.1 r hr).2.mono O_) Bu.out O_ lA CD O_ gU B5).mono ?_;rintro e w3 ⟨st,tx,i_,iR,rfl,bT,fg,mh,o_,v',u',l',V3,yN,iL,F3,MO⟩
  have b3:=F3.ai H2.out.2.1 (by
   rintro(e|e|e|e|e|e)
   ·exact H2.out.1.st.aX H2.out.2.1 O_ D_ D_ D_ D_ D_ D_ e
   ·exact H2.out.2.1.aU H2.out.1.vw D_ e
   ·exact H2.out.2.1.aU H2.out.1.ix.1 D_ e
   ·obtain⟨cs,hc⟩:=H2.out.1.ix.2.1.heap e;exact H2.out.2.1.aU hc D_ rfl
   ·exact H2.out.2.1.aU Bu.out.b D_ e
   ·exact Bu.out.r.aD H2.out.2.1 D_ e)
  have c0:=b3.k0;have c1:=b3.k1;have ff:=b3.dq;go_wp2;refine r_ (aI rfl _ _ rfl (dN (b3.bP (I_ st) (T_ tx)))) rfl ?_;have one:=One.bP w3 (W.heap.size+1) (I_ st) (T_ tx)
  have V6:=V3.apart one (fun k hk _=>by
   have e:=hk;rw [e];exact⟨O_,O_,_,.inr (.inr b3)⟩)
  have Ew:=fg.one one b3 D_ D_ D_;have g1:dJ W WA.drew S Q n i xs (some (v,x,u,l)) 0 0 (fun k=>k=OB\/vo.ownBlock=some k) S Q n (some (v,x,u,l)):=dJ.refl (Fr.drew H.out.2.1);have g2:=g1.trans (H2.out.2.2.2.2.2.2.2.ops (m:=5000) (R:=fun _=>False) (l:=l) (i:=i) (xs:=xs) (by have:=H2.out.2.2.2.2.2.2.1;omega)) fun _ h=>h.elim;have g3:=(g2.trans (dJ.B6 (v':=v') (L:=(Q1.l i).filter fun x=> !(false||decide (x.k≠2))) (l:=l) (l':=l') iL F3 MO (cR _ _)) fun _ h=>.inl h).trans (dJ.side one) fun k e=>by have e:=e;exact .inr O_
  exact⟨st,tx,i_,iR,S,_,M1,n,t,some (v,x,u',l'),false,rfl,bT,Ew,⟨rfl,V6⟩,g3.xE O_ O_ fun _ _ h=>h,fun r hr=>(mh r hr).imp id (fun h=>h.elim (fun h=>.inr ⟨_,_,_,_,rfl,(H2.out.2.2.2.1 r h).1.up yN⟩) .inl),by have:=g2.own;rw [Qs.xB];omega⟩
end Go.Proofs.YtliimglbbiebiaaGreatDoor
