import Derived.Test.YtliimglbbiebiaaGreatDoorGTopTimeAV
import Derived.Test.YtliimglbbiebiaaGreatDoorGTopTimeAY
set_option maxRecDepth 100000
set_option maxHeartbeats 6400000
set_option linter.all false
namespace Go.Proofs.YtliimglbbiebiaaGreatDoor
open Go.Proofs.Tryz Go.RowKit Go.Maps
def PH(w:World) (f:Nat) (c:Array Value):Prop:=(∀args w,(callFunc f args).run prog w=.ok (.enter f args) w)/\
 ((c= #[]/\ui f 100000)\/∃g,c= #[.pointer (M_ g)]/\∀(B:Nat) (r:cV) (W:World),ae w W->bF B W r->b_ W->H_ f #[r.val,Q_ g] W fun e w'=>yo 100000 W e w')
theorem yo.mono {N M:Nat}{w w':World}{e:Ending}(h:yo N w e w') (hm:N<=M):yo M w e w':=by
 obtain⟨s,a,b,c⟩:=h;exact⟨s,a,O_,c⟩
theorem YU{w:World}{g:Nat}(s:ByteArray) (hs:s.size<=20) (hg:af w g 9 #[T_ s]):PH w 404 #[Q_ g]:=
 ⟨Aw func404 K_ rfl,.inr ⟨g,rfl,fun B r W hn h ht=>(DO g s hs B r W (hn.ai hg) h ht).mono fun _ _ h=>yo.mono h O_⟩⟩
theorem Us{w:World}{g:Nat}(s:ByteArray) (hs:s.size<=20) (hg:af w g 9 #[T_ s]):PH w 408 #[Q_ g]:=
 ⟨Aw func408 K_ rfl,.inr ⟨g,rfl,fun B r W hn h _=>(LO g s hs B r W (hn.ai hg) h).mono fun _ _ h=>yo.mono h O_⟩⟩
theorem J4{w:World}{g1 g2 g3 g6 g7 g8 g10:Nat}(h:OJ w g1 g2 g3 g6 g7 g8 g10) (k:Int) (h1:1<=k) (h2:k<=10):
 ∃f1 cc f2,get (OI g1 g2 g3 g6 g7 g8 g10) k=some (.agg #[.func (.func f1) #[] cc,.func (.func f2) #[] #[]])/\PH w f1 cc/\(∀args w,(callFunc f2 args).run prog w=.ok (.enter f2 args) w)/\LP f2:=by
 obtain⟨b1,b2,b3,b6,b7,b8,WO⟩:=h;have en:∀args w,(callFunc 405 args).run prog w=.ok (.enter 405 args) w:=Aw func405 K_ rfl;have et:∀args w,(callFunc 409 args).run prog w=.ok (.enter 409 args) w:=Aw func409 K_ rfl;have:k=1\/k=2\/k=3\/k=4\/k=5\/k=6\/k=7\/k=8\/k=9\/k=10:=O_
 rcases this with rfl|rfl|rfl|rfl|rfl|rfl|rfl|rfl|rfl|rfl
 ·exact⟨_,_,405,rfl,YU _ D_ b1,en,mi⟩
 ·exact⟨_,_,405,rfl,YU _ D_ b2,en,mi⟩
 ·exact⟨_,_,405,rfl,YU _ D_ b3,en,mi⟩
 ·exact⟨_,_,407,rfl,⟨Aw func406 K_ rfl,.inl ⟨rfl,A0.mono O_⟩⟩,Aw func407 K_ rfl,Ba⟩
 ·exact⟨_,_,360,rfl,⟨Aw func359 K_ rfl,.inl ⟨rfl,Hh.mono O_⟩⟩,Aw func360 K_ rfl,Hi⟩
 ·exact⟨_,_,409,rfl,Us _ D_ b6,et,mZ⟩
 ·exact⟨_,_,409,rfl,Us _ D_ b7,et,mZ⟩
 ·exact⟨_,_,409,rfl,Us _ D_ b8,et,mZ⟩
 ·exact⟨_,_,412,rfl,⟨Aw func411 K_ rfl,.inl ⟨rfl,DR.mono O_⟩⟩,Aw func412 K_ rfl,DS⟩
 ·exact⟨_,_,409,rfl,Us _ D_ WO,et,mZ⟩
theorem DT(B:Nat) (r:cV) (w:World) (h:bF B w r):H_ 315 #[r.val] w fun e w'=>(∃b,e=.returned (R_ b))/\ae w w':=by
 obtain⟨rk,rn,rt,de,rx,cT,rf,aY,cW,rA,dh,cY⟩:=r;have eA:=h.kk.1;have kI:=h.kk.2;simp only at eA kI;have dx:aL.ok rk:=ve O_;obtain⟨w0,cU⟩:∃w0,w0=w.alloc (G_ (rC rk rn rt de rx cT rf aY cW (X_ rA dh cY)) 53):=⟨_,rfl⟩;have b0:=cU▸af.new _ _ _;have n0:ae w w0:=cU▸(ae.refl w).alloc _;have c0:=b0.k0;have l0:=b0.lt;have H:=ac5 h;clear h;unfold cV.val
 go_enter func315,ntmps315
 go_wp2_with fail
 rw [<-cU];clear cU
 go_region_held3 (fun W=>L_ W w 0 (I_ rk)) (first|go_keep|assumption|exact S0 _ _) ((first
  |(go_at_call 316
    refine(mS _).mono ?_;rintro e w2 ⟨rfl,m2,g1,g2,g3,g6,g7,g8,g10,qh,th⟩;have da:ae w0 w2:=Fr.trans N_ m2;have c2:=Fr.cell da c0 id;have s2:=da.size;obtain⟨f1,cc,f2,fP,_,hE,hF⟩:=J4 qh rk eA kI;have S0:∀u v,L_ ((w2.setCell (C_ w0 0) u).setCell (C_ w0 1) v) w 0 (I_ rk):=fun u v=>Fr.cell (((One.refl w0.heap.size w2).set 0 u).set 1 v) c2 (by show¬w.heap.size=w0.heap.size;omega);have hl:=th.bD (t:=429) (e:=428) underlying429 (jW w2) dx;rw [fP]at hl
    have Ln:∀o,(Instr.lookup 429 _ (I_ rk) true).run prog (w2.alloc o)=.ok (.tuple #[.agg #[.func (.func f1) #[] cc,.func (.func f2) #[] #[]],R_ true]) (w2.alloc o):=fun o=>by
     have:=(th.alloc o).bD (t:=429) (e:=428) underlying429 (jW _) dx;rw [fP]at this;exact this
    change (Instr.lookup 429 _ (I_ rk) true).run prog w2=.ok (.tuple #[.agg #[.func (.func f1) #[] cc,.func (.func f2) #[] #[]],R_ true]) w2 at hl
    simp only [gz,IN]at hl Ln;have HFF:=ac5 hF;clear hF fP th qh
    try(have y:=m2.ai (af.new w0.drew 428 #[.nilFunc,.nilFunc]);simp only [IN]at y;have y0:=y.k0;have y1:=y.k1;have z0:=y.frozen 0;have z1:=y.frozen 1))
  |fail))
 all_goals
  first
  |(have n2:ae w0 ((w2.setCell ⟨w0.heap.size,0,none⟩ (.func (.func f1) #[] cc)).setCell ⟨w0.heap.size,1,none⟩ (.func (.func f2) #[] #[])):=ae.one da (((One.refl w0.heap.size w2).set 0 _).set 1 _) (aA _)
    have e1:L_ ((w2.setCell (C_ w0 0) (.func (.func f1) #[] cc)).setCell (C_ w0 1) (.func (.func f2) #[] #[])) w0 1 (.func (.func f2) #[] #[]):=((y.al 0 _).al 1 _).cell 1;have b2:=n2.ai b0;generalize((w2.setCell (C_ w0 0) (.func (.func f1) #[] cc)).setCell (C_ w0 1) (.func (.func f2) #[] #[]))=w3 at n2 e1 b2⊢)
  |(have n2:ae w0 (w2.alloc (.cells #[.func (.func f1) #[] cc,.func (.func f2) #[] #[]] 428)):=da.alloc _
    have e1:L_ (W_ w2 #[.func (.func f1) #[] cc,.func (.func f2) #[] #[]] 428) w2 1 (.func (.func f2) #[] #[]):=(af.new _ _ _).cell 1;have b2:=n2.ai b0;generalize(w2.alloc (G_ #[.func (.func f1) #[] cc,.func (.func f2) #[] #[]] 428))=w3 at n2 e1 b2⊢)
  have Lo:=n0.trans n2;obtain⟨k0,k1,k2,k3,k4,k5,k6,k7,k8,k9⟩:=b2.d_;have HC:=ac5 (HFF.out B ⟨rk,rn,rt,de,rx,cT,rf,aY,cW,rA,dh,cY⟩ w3 (H.out.new Lo));unfold cV.val at HC;have HN:=ac5 (And.intro Lo b2);clear hl Ln S0 c2 n2 Lo b2 b0 n0 c0 da m2;go_wp2_with fail
  refine HC.out.mono ?_;rintro e w4 ⟨⟨sk,sn,st,sst,sx,sit,sf,apY,ssz,sA,sbn,sbc⟩,q,bl,rfl,ez,nV,m4⟩;unfold cV.val;dsimp only at ez;dsimp only;obtain⟨bl0,Pj,ap0⟩:=H.out.body;have adk:=Pj.rd.new (HN.out.1.trans m4);have DN:=ac5 (And.intro ez adk);have b4:=m4.ai HN.out.2;have HN4:=ac5 (HN.out.1.trans m4);have l4:=b4.lt;clear ez adk Pj k0 k1 k2 k3 k4 k5 k6 k7 k8 k9 m4;obtain⟨k0,k1,k2,k3,k4,k5,k6,k7,k8,k9⟩:=b4.d_;rcases q with _|_
  ·go_wp2;go_ret
   first|exact⟨⟨_,rfl⟩,HN4.out.alloc _⟩|exact⟨.inl rfl,HN4.out.alloc _⟩|exact⟨.inr rfl,HN4.out.alloc _⟩
  ·go_wp2_with (go_at_call 356;refine(LQ _ _ _ _ _ _ _ _ _ _ _ _ _ _ _ _ _ _ _ _ _ _ _ _ bl bl0 _ (DN.out.1.new ((ae.refl w4).alloc _)) (DN.out.2.new ((ae.refl w4).alloc _)) O_ O_).mono ?_;rintro e w5 ⟨⟨b5,rfl⟩,m5⟩)
   go_ret
   first|exact⟨⟨_,rfl⟩,(HN4.out.alloc _).trans m5⟩
def aiN(w:World) (f:Nat) (c:Array Value):Prop:=(∀args w,(callFunc f args).run prog w=.ok (.enter f args) w)/\∀(B:Nat) (r:cV) (W:World),ae w W->bF B W r->b_ W->H_ f (#[r.val]++c) W fun e w'=>yo 100000 W e w'
theorem PH.u {w:World}{f:Nat}{c:Array Value}(h:PH w f c):aiN w f c:=by
 obtain⟨h1,h2⟩:=h;refine⟨h1,fun B r W hn h ht=>?_⟩;rcases h2 with⟨rfl,h2⟩|⟨g,rfl,h2⟩
 ·exact h2 B r W h ht
 ·exact h2 B r W hn h ht
theorem LR(a b:Value) (W:World):(Instr.field 428 (.agg #[a,b]) 0).run prog W=.ok a W:=K_
def aiO(w:World) (e:Ending) (w':World):Prop:=∃v q L,e=.returned (.tuple #[v,R_ q])/\Rd (ak .u8) w' v L/\L.length<=100002/\ae w w'
theorem Hk(B:Nat) (r:cV) (w:World) (h:bF B w r) (hT:b_ w):H_ 272 #[r.val] w fun e w'=>aiO w e w':=by
 obtain⟨rk,rn,rt,de,rx,cT,rf,aY,cW,rA,dh,cY⟩:=r;have eA:=h.kk.1;have kI:=h.kk.2;simp only at eA kI;have dx:aL.ok rk:=ve O_;obtain⟨w0,cU⟩:∃w0,w0=w.alloc (G_ (rC rk rn rt de rx cT rf aY cW (X_ rA dh cY)) 53):=⟨_,rfl⟩;have b0:=cU▸af.new _ _ _;have n0:ae w w0:=cU▸(ae.refl w).alloc _;have HT:=ac5 (And.intro (hT.new n0) (h.new n0));have HV:=ac5 (DT B ⟨rk,rn,rt,de,rx,cT,rf,aY,cW,rA,dh,cY⟩ w0 (h.new n0));unfold cV.val at HV;clear hT h;obtain⟨k0,k1,k2,k3,k4,k5,k6,k7,k8,k9⟩:=b0.d_;unfold cV.val
 go_enter func272,ntmps272
 go_wp2_with fail
 rw [<-cU];refine HV.out.mono ?_;rintro e w1 ⟨⟨vb,rfl⟩,m1⟩;have b1:=m1.ai b0;have n1:=n0.trans m1;have WN:=ac5 (And.intro (HT.out.1.new m1) (HT.out.2.new m1));clear cU k0 k1 k2 k3 k4 k5 k6 k7 k8 k9 b0 n0 HT m1;obtain⟨k0,k1,k2,k3,k4,k5,k6,k7,k8,k9⟩:=b1.d_;rcases vb with _|_
 ·go_wp2;go_ret2;exact⟨_,_,[],rfl,Rd.nil _ _,S_,n1⟩
 ·go_wp2_with fail
  go_region_law ((first
   |(go_simp
     go_at_call 316
     refine(mS _).mono ?_;rintro e w2 ⟨rfl,m2,g1,g2,g3,g6,g7,g8,g10,qh,th⟩;have da:ae w1 w2:=Fr.trans N_ m2;have b2:=da.ai b1;obtain⟨p0,p1,p2,p3,p4,p5,p6,p7,p8,p9⟩:=b2.d_;obtain⟨f1,cc,f2,fP,hTV,_,_⟩:=J4 qh rk eA kI;have hl:=th.eG (t:=429) (e:=428) underlying429 (jW w2) dx;rw [fP]at hl
     change (Instr.lookup 429 _ (I_ rk) false).run prog w2=.ok (.agg #[.func (.func f1) #[] cc,.func (.func f2) #[] #[]]) w2 at hl
     simp only [IN]at hl;have J5:=LR (.func (.func f1) #[] cc) (.func (.func f2) #[] #[]) w2;have hE:=hTV.1;have HX:=ac5 (hTV.u.2 B ⟨rk,rn,rt,de,rx,cT,rf,aY,cW,rA,dh,cY⟩ w2 (ae.refl _) (WN.out.2.new da) (WN.out.1.new da));unfold cV.val at HX;clear fP hTV th qh;go_wp2_with fail)
   |(go_simp
     refine HX.out.mono ?_;rintro e w3 ⟨ln,rfl,hls,m3⟩;have b3:=m3.ai b2;obtain⟨q0,q1,q2,q3,q4,q5,q6,q7,q8,q9⟩:=b3.d_;obtain⟨cap,w4,kY,ez,m4⟩:=pf w3 (ln++⟨#[13,10]⟩);have b4:=m4.ai b3;obtain⟨r0,r1,r2,r3,r4,r5,r6,r7,r8,r9⟩:=b4.d_;have e2:(ln++⟨#[13,10]⟩).size=ln.size+2:=by rw [cI];rfl
     have ha1:¬9223372036854775807<ln.size+2:=O_
     have hbo:(bytesOf (ln++⟨#[13,10]⟩)).length<=100002:=by rw [il,e2];omega
     rw [e2]at ez;have DN:=ac5 (And.intro ez hbo);clear ez hbo;go_wp2_with fail)
   |fail))
  all_goals
   go_wp2;go_ret2;exact⟨_,_,_,rfl,DN.out.1,DN.out.2,((n1.trans da).trans m3).trans m4⟩
theorem wh(B:Nat) (l:List cV) (u:Value) (w:World) (hu:Rd cG w u l) (hl:l.length<=300000000) (hr:∀r∈l,bF B w r) (hT:b_ w):
 H_ 205 #[u] w fun e w'=>∃v L,e=.returned v/\Own (ak .u8) 5 w.heap.size w' v L/\L.length<=l.length*100002/\ae w w':=by
 obtain⟨i0,hi,dw,cE,dy⟩:=wF jl;obtain⟨A,C,rfl,hC,aF⟩:=hu;have HC:=ac5 aF;have HP:=ac5 (And.intro hr hT);have HCC:=ac5 hC;clear aF hr hT hC
 go_enter func205,ntmps205
 go_wp2
 go_loopw [3,10] (fun vo vi wr=>∃(k:Nat) (L:List Int),k<=l.length/\vi=I_ k/\L.length<=k*100002/\Own (ak .u8) 5 w.heap.size wr vo L/\ae w wr) (fun _ vi _=>l.length-(intOf vi).toNat)
 case atStart=>exact⟨0,[],Gv _,rfl,S_,Own.nil _ _ _ _,ae.refl w⟩
 case round=>
  obtain⟨k,fk,hk,rfl,qD,ho,hn⟩:=hrel;by_cases dL:k<l.length
  ·obtain⟨x,hx⟩:∃x,l[k]? =some x:=⟨_,DW dL⟩;obtain⟨bb,off,rfl,aF⟩:=HC.out (by rintro rfl;simp at dL);have hm:=YX hx;have mT:=HP.out.1 x hm;have c:=aF k _ hx;obtain⟨rk,rn,rt,de,rx,cT,fs,aY,cW,rA,dh,cY⟩:=x;have c0:L_ wr bb (off+k*10) (I_ rk):=Fr.cell hn (c 0 _ rfl) id;have c1:L_ wr bb (off+k*10+1) (U_ rn):=Fr.cell hn (c 1 _ rfl) id;have c2:L_ wr bb (off+k*10+2) (T_ rt):=Fr.cell hn (c 2 _ rfl) id;have c3:L_ wr bb (off+k*10+3) (I_ de):=Fr.cell hn (c 3 _ rfl) id;have c4:L_ wr bb (off+k*10+4) (T_ rx):=Fr.cell hn (c 4 _ rfl) id;have c5:L_ wr bb (off+k*10+5) (I_ cT):=Fr.cell hn (c 5 _ rfl) id;have c6:L_ wr bb (off+k*10+6) (B_ fs):=Fr.cell hn (c 6 _ rfl) id;have c7:L_ wr bb (off+k*10+7) (U_ aY):=Fr.cell hn (c 7 _ rfl) id;have c8:L_ wr bb (off+k*10+8) (U_ cW):=Fr.cell hn (c 8 _ rfl) id;have c9:L_ wr bb (off+k*10+9) (X_ rA dh cY):=Fr.cell hn (c 9 _ rfl) id;have WQ:=ac5 (fun(W:World) (hW:ae w W)=>Hk B ⟨rk,rn,rt,de,rx,cT,fs,aY,cW,rA,dh,cY⟩ W (mT.new hW) (HP.out.2.new hW));unfold cV.val at WQ;have Bb:k*100002<=30000600000000:=Nat.mul_le_mul (by omega:k<=300000000) (aA 100002);clear aF c hx hm mT;obtain⟨oA,oc,rfl,hoc⟩:=ho.form;go_wp2_with fail
   refine(WQ.out _ (hn.alloc _)).mono ?_;rintro e w3 ⟨v,q,fx,rfl,ez,uP,m3⟩;have n3:=(hn.alloc _).trans m3;have o3:=(ho.alloc _).new m3;have iZ:=n3.size;clear ho;go_wp2_with (at_builtin;refine aZ (E:=ak .u8) rfl _ _ _ rfl underlying23 hi dw cE dy rfl o3 rfl ez rfl (by unfold maxLen;omega) O_ O_ ?_;intro v1 w1 fE iE pM;have br:=ae.append n3 o3 iE)
   go_roundw
   case rel=>exact⟨k+1,_,O_,by go_num,by rw [dr,rT];omega,fE,br⟩
   case measure=>simp [intOf];omega
  ·go_wp2;go_ret;obtain rfl:k=l.length:=O_
   exact⟨_,fk,rfl,ho,qD,hn⟩
section
variable{w:World}{t:Nat}{bz:Bool}{c:fK}{ms:ByteArray}{nd:Value}{x sp lk:Nat}{a b:Int}{ah out:Value}
theorem sy(base:Nat) (u:Value) (lo:List Int) (N:Nat) (h:gO w t bz c ms nd x sp lk a b ah out) (ho:Own (ak .u8) 5 base w out lo) (hl:lo.length+N<=140000000000000) (dH:base<=w.heap.size)
 (hA:∀W,ae w W->H_ 205 #[u] W fun e W'=>∃v m,e=.returned v/\Own (ak .u8) 5 W.heap.size W' v m/\m.length<=N/\ae W W'):
 H_ 151 #[Q_ t,u] w fun e w'=>e=.returned (.tuple #[])/\∃eh iR,gO w' t bz c ms nd x sp lk a b ah eh/\Own (ak .u8) 5 base w' eh iR/\iR.length<=lo.length+N/\Fr (fun k=>k=t\/out.ownBlock=some k) w w'/\∀g,eh.ownBlock=some g->out.ownBlock=some g\/w.heap.size<=g:=by
 obtain⟨i0,hi,dw,cE,dy⟩:=wF jl;obtain⟨oA,oC,rfl,hoC⟩:=ho.form;have c18:=h.rF;have uf:=h.lt;have HO:=ac5 ho;have HA:=ac5 hA;clear ho hA
 go_enter func151,ntmps151
 go_wp2_with fail
 go_region_law ((first
  |(go_simp
    go_at_call 205
    refine(HA.out _ N_).mono ?_;rintro e w2 ⟨v2,m,rfl,dR,hmN,m2⟩;have n2:ae w w2:=Fr.trans N_ m2;have h2:=n2.ai h;have q18:=h2.rF;have O2:=ac5 (HO.out.new n2);have R2:=ac5 dR.rd;have N2:=ac5 (gy dH n2.size);obtain⟨vA,vC,rfl,_⟩:=dR.form;go_wp2_with fail)
  |(refine eI (E:=ak .u8) (l:=lo) (v:=.slice oA lo.length oC) (by rfl) (.tmp 8) (.tmp 10) 23 (by rfl) underlying23 hi dw cE dy rfl (by rfl) (by rfl) m O2.out R2.out (by unfold maxLen;omega) O_ N2.out ?_
    intro A7 C7 w7 nH vQ GO;rw [dr]at nH;have t7:=Fr.ai vQ h2 (fun e=>O2.out.ar h2 D_ e);have z18:=t7.rF;have y18:=t7.frozen 18;have O7:=ac5 nH;have F7:=ac5 (And.intro vQ GO);clear nH vQ GO)
  |fail))
 all_goals
  go_end0
  have t8:gO (w7.setCell (C_ t 18) (X_ A7 (lo.length+m.length) C7)) t bz c ms nd x sp lk a b ah (X_ A7 (lo.length+m.length) C7):=by
   have q:=t7.al 18 (X_ A7 (lo.length+m.length) C7);simpa using q
  refine⟨rfl,_,_,t8,O7.out.fr ((One.refl t w7).set 18 _) fun z hz e=>O7.out.ar t7 D_ (by have e:=e;rw [<-e];exact hz),by rw [dr];omega,Fr.trans (Fr.trans (n2.mono fun _ _ h=>h.elim) (F7.out.1.mono fun k _ hk=>.inr hk)) ((Fr.refl _ w7).setCell (p:=⟨t,18,none⟩) (fun _=>.inl rfl) _),fun g hg=>?_⟩;have fW:=n2.size;have hf:=F7.out.2;rw [dr]at hf;rcases hf with e|e
  ·rw [e]at hg;exact .inl hg
  ·rw [e]at hg;cases hg;exact .inr (by simpa using fW)
end
end Go.Proofs.YtliimglbbiebiaaGreatDoor
