import Derived.Test.YtliimglbbiebiaaGreatDoorGTopTimeAF
set_option maxRecDepth 100000
set_option maxHeartbeats 6400000
set_option linter.all false
namespace Go.Proofs.YtliimglbbiebiaaGreatDoor
open Go.Proofs.Tryz Go.RowKit Go.Maps
def J2:ByteArray:=⟨#[79,75,32,78,79,32,66,65,68]⟩
def qB:List (List UInt8):=[[79,75],[78,79],[66,65,68]]
theorem DL:Lib.fields J2.data.toList=qB:=by decide +kernel
theorem Hf:∀b∈J2.data.toList,b.toNat<128:=by decide +kernel
theorem tq(w:World) (ht:b_ w):H_ 86 #[T_ J2] w fun e w'=>e=.returned (X_ (M_ w) 3 3)/\w'=w.alloc (G_ (qB.map fun l=>Value.string ⟨l.toArray⟩).toArray 9):=by
 have h:=Tryz.strings_Fields J2 w D_ (fun j b hb=>Hf b (YX hb)) ht.sp;rw [DL]at h;exact h
def ko(k:Nat):ByteArray:=⟨((qB.getD k []).toArray)⟩
def ie(t:ByteArray) (k:Nat) (x:ByteArray):ByteArray:=t++⟨#[32]⟩++ko k++⟨#[32]⟩++x
theorem DM(t:ByteArray) (k:Nat) (hk:k<3) (x:ByteArray) (e_:t.size<=1000000) (Da:x.size<=1000000) (w:World) (hT:b_ w):
 H_ 411 #[Ll t k x] w fun e w'=>e=.returned (T_ (ie t k x))/\ae w w':=by
 obtain⟨w0,cU⟩:∃w0,w0=w.alloc (G_ #[I_ 9,U_ 0,T_ t,I_ k,T_ x,I_ 0,B_ 0,U_ 0,U_ 0,Z_] 53):=⟨_,rfl⟩;have b0:=cU▸af.new _ _ _;have n0:ae w w0:=cU▸(ae.refl w).alloc _;obtain⟨k0,k1,k2,k3,k4,k5,k6,k7,k8,k9⟩:=b0.d_;have HT:=ac5 (hT.new n0);clear hT k0 k1 k5 k6 k7 k8 k9
 have hc:∀W:World,L_ (W_ W (qB.map fun l=>Value.string ⟨l.toArray⟩).toArray 9) W k (T_ (ko k)):=by
  intro W;rw [GS];have:k=0\/k=1\/k=2:=O_
  rcases this with rfl|rfl|rfl<;>rfl
 have HC:=ac5 hc
 have hws:(ko k).size<=3:=by
  have:k=0\/k=1\/k=2:=O_
  rcases this with rfl|rfl|rfl<;>decide
 have uO:(k:Int)<3:=O_
 have z1:ByteArray.size ⟨#[32]⟩=1:=rfl;have a1:¬9223372036854775807<t.size+1:=O_
 have a2:¬9223372036854775807<t.size+1+(ko k).size:=O_
 have a3:¬9223372036854775807<t.size+1+(ko k).size+1:=O_
 have a4:¬9223372036854775807<t.size+1+(ko k).size+1+x.size:=O_
 go_enter func411,ntmps411
 go_wp2_with fail
 rw [<-cU];clear cU
 go_region_law ((first
  |(go_simp
    go_at_call 86
    refine(tq _ (HT.out.new N_)).mono ?_;rintro e w2 ⟨rfl,rfl⟩;have hx:=HC.out w0.drew;simp only [IN]at hx;have n2:ae w0 (w0.drew.alloc (G_ (qB.map fun l=>Value.string ⟨l.toArray⟩).toArray 9)):=((ae.refl w0).drew).alloc _;have d2:=Fr.cell n2 k2 id;have d3:=Fr.cell n2 k3 id;have d4:=Fr.cell n2 k4 id;generalize(w0.drew.alloc (G_ (qB.map fun l=>Value.string ⟨l.toArray⟩).toArray 9))=w2 at*;go_wp2_with fail)
  |fail))
 all_goals
  go_wp2;go_ret;exact⟨rfl,n0.trans n2⟩
theorem AY(t:ByteArray) (k:Nat) (x:ByteArray) (hk:k<3) (e_:t.size<=1000000) (Da:x.size<=1000000):(ie t k x).size<=2000005:=by
 have hws:(ko k).size<=3:=by
  have:k=0\/k=1\/k=2:=O_
  rcases this with rfl|rfl|rfl<;>decide
 have z1:ByteArray.size ⟨#[32]⟩=1:=rfl;unfold ie;rw [cI,cI,cI,cI,z1];omega
theorem pf(w:World) (s:ByteArray):∃cap w',(convert 9 23 (T_ s)).run prog w=.ok (X_ (M_ w) s.size cap) w'/\Rd (ak .u8) w' (X_ (M_ w) s.size cap) (bytesOf s)/\ae w w':=by
 refine⟨_,_,GU (P:=prog) w 9 23 5 s underlying9 underlying23 underlying5,?_,((ae.refl w).drew).alloc _⟩;refine⟨_,_,by rw [il],by rw [il];exact grownCap_ge _ _ _ _,fun _=>⟨_,_,rfl,fun i x hx j u hu=>?_⟩⟩
 have hj:j=0:=by
  rcases j with _|j
  ·rfl
  ·simp [ak]at hu
 subst hj;obtain rfl:u=B_ x:=by simp [ak]at hu;exact hu.symm
 obtain⟨y,hy,rfl⟩:∃y:UInt8,s.data.toList[i]? =some y/\x=(y.toNat:Int):=by
  unfold bytesOf at hx;rw [OX]at hx
  cases h:s.data.toList[i]? with
  |none=>rw [h]at hx;cases hx
  |some y=>rw [h]at hx;exact⟨y,rfl,by simpa using hx.symm⟩
 have h1:=bytesRow_at s (grownCap w s.size 0 5) i y hy
 show(w.alloc (.cells _ 5 (_,_))).cell? (C_ w (0+(i*1+0)))=_
 simp [World.alloc,World.cell?, -World.alloc_eq,h1]
theorem PF(W:World):(Instr.field 428 GG 0).run prog W=.ok (.func (.func 411) #[] #[]) W:=K_
theorem AZ(t:ByteArray) (ht:oO t=true) (k:Nat) (hk:k<3) (x:ByteArray) (hx:vJ x=true) (e_:t.size<=1000000) (Da:x.size<=1000000) (w:World) (hT:b_ w):
 H_ 272 #[Ll t k x] w fun e w'=>∃v,e=.returned (.tuple #[v,R_ true])/\Rd (ak .u8) w' v (bytesOf (ie t k x++⟨#[13,10]⟩))/\ae w w':=by
 have eE:=AY t k x hk e_ Da;have ha1:¬9223372036854775807<(ie t k x).size+2:=O_
 have hta:=fun W (hW:b_ W)=>DM t k hk x e_ Da W hW;obtain⟨ln,uL⟩:∃ln,ln=ie t k x:=⟨_,rfl⟩;rw [<-uL]at ha1 hta⊢;clear uL eE;obtain⟨w0,cU⟩:∃w0,w0=w.alloc (G_ #[I_ 9,U_ 0,T_ t,I_ k,T_ x,I_ 0,B_ 0,U_ 0,U_ 0,Z_] 53):=⟨_,rfl⟩;have b0:=cU▸af.new _ _ _;have n0:ae w w0:=cU▸(ae.refl w).alloc _;have HT:=ac5 (hT.new n0);clear hT;obtain⟨k0,k1,k2,k3,k4,k5,k6,k7,k8,k9⟩:=b0.d_
 go_enter func272,ntmps272
 go_wp2_with fail
 rw [<-cU];refine(AH t ht e_ k O_ O_ x hx Da w0).mono ?_;rintro e w1 ⟨rfl,m1⟩;have b1:=m1.ai b0;have n1:=n0.trans m1;have WN:=ac5 (HT.out.new m1);clear cU k0 k1 k2 k3 k4 k5 k6 k7 k8 k9 b0 n0 HT m1;obtain⟨k0,k1,k2,k3,k4,k5,k6,k7,k8,k9⟩:=b1.d_;go_wp2_with fail
 have apT:=PF
 go_region_law ((first
  |(go_simp
    go_at_call 316
    refine(mS _).mono ?_;rintro e w2 ⟨rfl,m2,g1,g2,g3,g6,g7,g8,g10,qh,th⟩;have da:ae w1 w2:=Fr.trans N_ m2;have b2:=da.ai b1;obtain⟨p0,p1,p2,p3,p4,p5,p6,p7,p8,p9⟩:=b2.d_;have hl:=th.eG (t:=429) (e:=428) underlying429 (jW w2) Yv
    change (Instr.lookup 429 _ (I_ 9) false).run prog w2=.ok GG w2 at hl
    simp only [IN]at hl;have J5:=PF w2;have Hg:=ac5 (WN.out.new da);go_wp2_with fail)
  |(go_simp
    go_at_call 411
    refine(hta _ Hg.out).mono ?_;rintro e w3 ⟨rfl,m3⟩;have b3:=m3.ai b2;obtain⟨q0,q1,q2,q3,q4,q5,q6,q7,q8,q9⟩:=b3.d_;obtain⟨cap,w4,kY,ez,m4⟩:=pf w3 (ln++⟨#[13,10]⟩);have b4:=m4.ai b3;obtain⟨r0,r1,r2,r3,r4,r5,r6,r7,r8,r9⟩:=b4.d_;have e2:(ln++⟨#[13,10]⟩).size=ln.size+2:=by rw [cI];rfl
    rw [e2]at ez;have DN:=ac5 ez;clear ez;go_wp2_with fail)
  |fail))
 all_goals
  go_wp2;go_ret2;exact⟨_,rfl,DN.out,((n1.trans da).trans m3).trans m4⟩
theorem PX{α:Type}(f:α->List Int) (l:List α) (k:Nat) (x:α) (h:l[k]? =some x):(l.take (k+1)).flatMap f=(l.take k).flatMap f++f x:=by
 rw [Gz,h];simp
theorem PY{α:Type}(f:α->List Int) (B:Nat) (l:List α) (hb:∀r∈l,(f r).length<=B):(l.flatMap f).length<=l.length*B:=by
 induction l with
 |nil=>simp
 |cons a l ih=>
  have h1:=hb a (vB ..);have h2:=ih fun r hr=>hb r (su _ hr);rw [wj,dr,iU,rT];omega
theorem PZ(l:List cV) (f:cV->List Int) (u:Value) (w:World) (hu:Rd cG w u l) (hl:l.length<=10000) (hf:∀r∈l,(f r).length<=10000000)
 (hp:∀r∈l,∀W,ae w W->H_ 272 #[r.val] W fun e W'=>∃v q,e=.returned (.tuple #[v,R_ q])/\Rd (ak .u8) W' v (f r)/\ae W W'):
 H_ 205 #[u] w fun e w'=>∃v,e=.returned v/\Own (ak .u8) 5 w.heap.size w' v (l.flatMap f)/\ae w w':=by
 obtain⟨i0,hi,dw,cE,dy⟩:=wF jl;obtain⟨A,C,rfl,hC,aF⟩:=hu;have HC:=ac5 aF;have HP:=ac5 hp;have HF:=ac5 hf;have HCC:=ac5 hC;clear aF hp hf hC
 go_enter func205,ntmps205
 go_wp2
 go_loopw [3,10] (fun vo vi wr=>∃(k:Nat),k<=l.length/\vi=I_ k/\Own (ak .u8) 5 w.heap.size wr vo ((l.take k).flatMap f)/\ae w wr) (fun _ vi _=>l.length-(intOf vi).toNat)
 case atStart=>exact⟨0,Gv _,rfl,Own.nil _ _ _ _,ae.refl w⟩
 case round=>
  obtain⟨k,hk,rfl,ho,hn⟩:=hrel;by_cases dL:k<l.length
  ·obtain⟨x,hx⟩:∃x,l[k]? =some x:=⟨_,DW dL⟩;obtain⟨bb,off,rfl,aF⟩:=HC.out (by rintro rfl;simp at dL);have hm:=YX hx;have mT:=HP.out x hm;have uP:=HF.out x hm;have mv:=PX f l k x hx;have uf:=PY f 10000000 (l.take k) fun r hr=>HF.out r (List.mem_of_mem_take hr);rw [jo,oN O_]at uf;have c:=aF k _ hx;obtain⟨rk,rn,rt,de,rx,cT,fs,aY,cW,rA,dh,cY⟩:=x;have c0:L_ wr bb (off+k*10) (I_ rk):=Fr.cell hn (c 0 _ rfl) id;have c1:L_ wr bb (off+k*10+1) (U_ rn):=Fr.cell hn (c 1 _ rfl) id;have c2:L_ wr bb (off+k*10+2) (T_ rt):=Fr.cell hn (c 2 _ rfl) id;have c3:L_ wr bb (off+k*10+3) (I_ de):=Fr.cell hn (c 3 _ rfl) id;have c4:L_ wr bb (off+k*10+4) (T_ rx):=Fr.cell hn (c 4 _ rfl) id;have c5:L_ wr bb (off+k*10+5) (I_ cT):=Fr.cell hn (c 5 _ rfl) id;have c6:L_ wr bb (off+k*10+6) (B_ fs):=Fr.cell hn (c 6 _ rfl) id;have c7:L_ wr bb (off+k*10+7) (U_ aY):=Fr.cell hn (c 7 _ rfl) id;have c8:L_ wr bb (off+k*10+8) (U_ cW):=Fr.cell hn (c 8 _ rfl) id;have c9:L_ wr bb (off+k*10+9) (X_ rA dh cY):=Fr.cell hn (c 9 _ rfl) id;have WQ:=ac5 mT;have HFT:=ac5 mv;have HTL:=ac5 uf;obtain⟨fx,Y4⟩:∃fx,fx=f ⟨rk,rn,rt,de,rx,cT,fs,aY,cW,rA,dh,cY⟩:=⟨_,rfl⟩;rw [<-Y4]at uP;have adz:=ac5 Y4;obtain⟨fk,hfk⟩:∃fk,fk=(l.take k).flatMap f:=⟨_,rfl⟩;rw [<-hfk]at ho;have HFK:=ac5 hfk;have qD:fk.length<=k*10000000:=by rw [hfk];exact uf
   clear aF c hx hm mT mv uf Y4 hfk;obtain⟨oA,oc,rfl,hoc⟩:=ho.form;go_wp2_with fail
   refine(WQ.out _ (hn.alloc _)).mono ?_;rintro e w3 ⟨v,q,rfl,ez,m3⟩;have n3:=(hn.alloc _).trans m3;have o3:=(ho.alloc _).new m3;rw [<-adz.out]at ez;have iZ:=n3.size;clear ho;go_wp2_with (at_builtin;refine aZ (E:=ak .u8) rfl _ _ _ rfl underlying23 hi dw cE dy rfl o3 rfl ez rfl (by unfold maxLen;omega) O_ O_ ?_;intro v1 w1 fE iE pM;have br:=ae.append n3 o3 iE)
   go_roundw
   case rel=>exact⟨k+1,O_,by go_num,by rw [HFT.out,<-adz.out,<-HFK.out];exact fE,br⟩
   case measure=>simp [intOf];omega
  ·go_wp2;go_ret;have e1:l.take k=l:=Hv O_;rw [e1]at ho;exact⟨_,rfl,ho,hn⟩
end Go.Proofs.YtliimglbbiebiaaGreatDoor
