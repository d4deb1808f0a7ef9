import Derived.Test.YtliimglbbiebiaaGreatDoorGTopTimeAK
import Derived.Test.YtliimglbbiebiaaGreatDoorGTopTimeAL
set_option maxRecDepth 100000
set_option maxHeartbeats 6400000
set_option linter.all false
namespace Go.Proofs.YtliimglbbiebiaaGreatDoor
open Go.Proofs.Tryz Go.RowKit Go.Maps
theorem bF.fr {B:Nat}{w w':World}{r:cV}{R:Nat->Prop}(h:bF B w r) (hf:Fr R w w') (hR:∀k cs,B<=k->af w k 5 cs->¬R k):bF B w' r:=
 have hb:∃bl,Own (ak .u8) 5 B w' (X_ r.A r.bn r.bc) bl/\bl.length<=65536:=by
  obtain⟨bl,ho,hl⟩:=h.body
  exact⟨bl,ho.fr hf (fun b hb=>by
   obtain⟨cs,hc⟩:=ho.heap hb;exact hR b cs (ho.block hb).1 hc),hl⟩
 {h with body:=hb}
theorem bF.new {B:Nat}{w w':World}{r:cV}(h:bF B w r) (hn:ae w w'):bF B w' r:=h.fr hn fun _ _ _ _ h=>h
theorem bF.mono {B B':Nat}{w:World}{r:cV}(h:bF B w r) (hB:B'<=B):bF B' w r:=
 have hb:∃bl,Own (ak .u8) 5 B' w (X_ r.A r.bn r.bc) bl/\bl.length<=65536:=by
  obtain⟨bl,ho,hl⟩:=h.body;exact⟨bl,ho.mono hB,hl⟩
 {h with body:=hb}
theorem bF.one {B g:Nat}{w w':World}{r:cV}{t:TypeId}{cs:Array Value}(h:bF B w r) (hf:One g w w') (hg:af w g t cs) (ht:t≠5):bF B w' r:=
 h.fr hf fun k kL _ hc e=>by
   have e:=e;subst e;exact hc.aU hg (iX ht) rfl
theorem bF.bare (B:Nat) (w:World) (k n:Int) (hk:1<=k/\k<=10) (hn:0<=n/\n<=4294967295):bF B w ⟨k,n,⟨#[]⟩,0,⟨#[]⟩,0,0,0,0,none,0,0⟩:=
 have h2:(0:Int)<=0/\(0:Int)<=2:=D_
 have h3:(0:Int)<=0/\(0:Int)<=31:=D_
 have h4:(0:Int)<=0/\(0:Int)<=255:=D_
 have h5:(0:Int)<=0/\(0:Int)<=4294967295:=D_
 {kk:=hk,n0:=hn,t0:=Gv _,x0:=Gv _,WJ:=h2,it0:=h3,fl0:=h4,LL:=h5,sz0:=h5,body:=⟨[],Own.nil _ _ _ _,Gv _⟩}
def LM:cr ByteArray where
 enc s:=[T_ s]
 sz:=1
 len _:=rfl
 one x u hu:=by simp at hu;subst hu;rfl
 pos:=O_
theorem DJ:(prog.info? 9).map (fun i=>(i.zero,i.size,i.bytes))=some (some (.string ⟨#[]⟩),1,16):=K_
def jt(l:List ByteArray):Nat:=(l.map ByteArray.size).sum
theorem we(l:List ByteArray) (x:ByteArray):jt (l++[x])=jt l+x.size:=by simp [jt]
theorem zE(sep:List UInt8) (hs:sep.length<=1):∀l:List ByteArray,(Lib.joinTail sep (l.map (·.data.toList))).length<=jt l+l.length
 |[]=>by simp [Lib.joinTail]
 |x::l=>by
  have ih:=zE sep hs l;have e:x.data.toList.length=x.size:=rfl;unfold Lib.joinTail jt at ih⊢;simp only [nR,List.flatten_cons,dr,iU,Hz]at ih⊢;omega
theorem PD(sep:List UInt8) (hs:sep.length<=1) (l:List ByteArray):(Lib.join (l.map (·.data.toList)) sep).length<=jt l+l.length:=by
 cases l with
 |nil=>simp [Lib.join_nil]
 |cons x l=>
  have h1:=zE sep hs l;have e:x.data.toList.length=x.size:=rfl;unfold jt at h1⊢;rw [nR,Lib.join_cons,dr,iU,nR,Hz];omega
theorem DK{w:World}{base:Nat}{v:Value}{l:List ByteArray}(h:Own LM 9 base w v l) (hl:l.length<=100) (hs:jt l<=1000000):
 H_ 307 #[v,T_ ⟨#[32]⟩] w fun e w'=>∃s:ByteArray,e=.returned (T_ s)/\s.size<=jt l+l.length/\ae w w':=by
 have hj:=PD [32] S_ l;obtain⟨A,C,rfl,hC,aF⟩:=h.rd;by_cases h0:l=[]
 ·subst h0;refine(Tryz.strings_Join_none A C ⟨#[32]⟩ w).mono ?_;rintro e w' ⟨rfl,rfl⟩;exact⟨_,rfl,Gv _,ae.refl _⟩
 ·obtain⟨b,off,rfl,hc⟩:=aF h0
  have rH:∀(j:Nat) x,l[j]? =some x->L_ w b (off+j) (T_ x):=fun j x hx=>by
   have:=hc j x hx 0 _ rfl;simpa [LM]using this
  have WD:b<w.heap.size:=(h.block rfl).2;refine(Tryz.strings_Join b off C l ⟨#[32]⟩ w rH WD O_ hC (by rw [show(⟨#[32]⟩:ByteArray).data.toList=[32] from rfl];omega)).mono ?_;rintro e w' ⟨rfl,hb⟩;exact⟨_,rfl,hj,ae.eF hb⟩
theorem zF(f:Int) (h0:0<=f) (h1:f<=255) (w:World) (ht:b_ w):H_ 250 #[B_ f] w fun e w'=>∃s:ByteArray,e=.returned (T_ s)/\s.size<=100/\ae w w':=by
 obtain⟨i0,hi,dw,cE,dy⟩:=wF DJ;have HT:=ac5 ht;clear ht
 go_enter func250,ntmps250
 go_wp2_with fail
 refine(zu f h0 h1 _).mono ?_;rintro e w1 ⟨v,l,rfl,hv,hl,_,n1⟩;obtain⟨vA,vC,rfl,_⟩:=hv.form;have HV:=ac5 (And.intro hv.rd n1);have hmx:l.length<=9223372036854775806:=O_
 clear hv n1;go_wp2_with fail
 go_loopw [3,9] (fun ov iv wr=>∃(k:Nat) (L:List ByteArray),k<=l.length/\L.length<=k/\iv=I_ k/\Hid (Own LM 9 w1.heap.size wr ov L/\jt L<=9*k/\ae w1 wr)) (fun _ iv _=>l.length-(intOf iv).toNat)
 case atStart=>exact⟨0,[],Gv _,aA _,rfl,Own.nil _ _ _ _,by simp [jt],ae.refl _⟩
 case round=>
  obtain⟨k,L,hk,hL,rfl,HR⟩:=hrel;obtain⟨oA,oC,rfl,_⟩:=HR.out.1.form;by_cases dL:k<l.length
  ·obtain⟨x,hx⟩:∃x,l[k]? =some x:=⟨_,DW dL⟩;obtain⟨_,_,he,_,az⟩:=HV.out.1
   cases he
   obtain⟨b,off,rfl,aF⟩:=az (by rintro rfl;simp at dL)
   have c0:L_ wr b (off+k) (B_ x):=by
    have:=aF k _ hx 0 _ rfl;simp only [ak,RZ,Au]at this;exact Fr.cell HR.out.2.2 this id
   have HS:=ac5 (zv x wr ((HT.out.new HV.out.2).new HR.out.2.2));clear aF az hx;go_wp2_with fail
   refine HS.out.mono ?_;rintro e w2 ⟨s,rfl,hs,n2⟩;have Gc:=ac5 (And.intro (HR.out.1.new n2) (HR.out.2.2.trans n2));have eE:=Gc.out.2.size;clear n2;go_wp2_with (at_builtin;refine bC (E:=LM) rfl _ _ _ rfl underlying187 hi dw cE dy rfl (Gc.out.1.alloc _) rfl s w2.heap.size (af.new _ _ _) 1 rfl (by unfold maxLen;omega) O_ (by rw [gz];omega) ?_;intro v3 w3 iL gP o_)
   go_roundw
   case rel=>
    refine⟨k+1,_,O_,by rw [dr];simp;omega,by go_num,ac5 ⟨iL,?_,ae.append (Gc.out.2.alloc _) (Gc.out.1.alloc _) gP⟩⟩;have:=HR.out.2.1;rw [we];omega
   case measure=>simp [intOf];omega
  ·obtain rfl:k=l.length:=O_
   have HJ:=ac5 (DK HR.out.1 O_ (by have:=HR.out.2.1;omega));go_wp2_with fail
   refine HJ.out.mono ?_;rintro e w5 ⟨s,rfl,hs,n5⟩;have n6:=(HV.out.2.trans HR.out.2.2).trans n5;have hsu:=HR.out.2.1;have a1:¬9223372036854775807<1+s.size:=O_
   have a2:¬9223372036854775807<1+s.size+1:=O_
   go_wp2;go_ret;refine⟨_,rfl,?_,n6⟩;rw [cI,cI]
   show 1+s.size+1<=100
   omega
theorem LN{w:World}{A:Option Addr}{c:Nat}(l:List Int) (h:Rd (ak .u8) w (X_ A l.length c) l):∃s:ByteArray,(convert 23 9 (X_ A l.length c)).run prog w=.ok (T_ s) w/\s.size=l.length:=by
 obtain⟨A',c',e,_,az⟩:=h
 cases e
 cases A with
 |none=>
  have hl:l=[]:=by
   refine PE fun hl=>?_;obtain⟨b,off,e,_⟩:=az hl
   cases e
  subst hl;exact⟨_,Wy w _ _ 5 c underlying23 underlying5 underlying9,rfl⟩
 |some a=>
  have hl:=run_loadCells_list (P:=prog) w a (l.map (Value.int .u8)) (fun j v hj=>by
   rw [OX]at hj
   cases hx:l[j]? with
   |none=>rw [hx]at hj;cases hj
   |some x=>
    rw [hx]at hj
    cases hj
    obtain⟨b,off,e,hc⟩:=az (by rintro rfl;simp at hx)
    cases e
    rw [kR];have:=hc j x hx 0 (B_ x) rfl;rw [show(ak .u8).sz=1 from rfl,RZ,Au]at this;exact this)
  rw [D9]at hl;refine⟨_,(run_convert_bytes_string w 23 9 5 (some a) l.length c underlying23 underlying5 underlying9).trans (run_bytesToString w a l.length c l hl),?_⟩
  have:∀(l:List Int) (r:ByteArray),(l.foldl (fun r n=>r.push (UInt8.ofNat n.toNat)) r).size=r.size+l.length:=by
   intro l
   induction l with
   |nil=>simp
   |cons x l ih=>intro r;rw [List.foldl_cons,ih,ByteArray.size_push,iU];omega
  rw [this];simp
theorem lL{P:Program}{w:World}{ops:Array Oper}{rest:List Oper}{o:Oper}{a:Act}{Q:Exit->Act->World->Prop}(Lh:o.guard=none) (d s:Operand) (dT sT:TypeId)
 (ho:o.op=.call {callee:=.builtin .copy,args:= #[d,s],argTypes:= #[dT,sT]}) (elem:TypeId) (hu:P.underlying dT=some (.slice elem)) (eE:(P.info? elem).map (·.size)=some 1)
 (g off YM adh:Nat) (t:ByteArray) (hd:a.eval d=X_ (some ⟨g,off,none⟩) YM adh) (hs:a.eval s=T_ t)
 (cur:Array Value) (ty:TypeId) (hg:w.heap[g]? =some (.cells cur ty (0,0))) (hle:t.size<=YM) (TG:off+t.size<=cur.size)
 (h:∀w',w'=w.setRow g (cur.toList.take off++(Lib.byteCells t.data.toList++cur.toList.drop (off+t.size))).toArray->wpList P ops Q rest (a.put o.dst (goInt t.size)) w'):wpList P ops Q (o::rest) a w:=by
 refine vg Lh fun K hK=>?_;have qz:=Lib.run_copy_row_string (P:=P) w dT sT o.type elem g off YM adh t cur ty hu eE hg hle TG;unfold Oper.wp;simp [execOp,ho,resolve,invoke,builtin,hd,hs,qz,Result.andThen];exact hK _ _ (h _ rfl)
def qA(w:World) (g n:Nat):Prop:=∃L:List Int,L.length=n/\w.heap[g]? =some (.cells (L.map (Value.int .u8)).toArray 5 (0,0))
theorem qA.rd {w:World}{g n:Nat}(h:qA w g n):∃L,L.length=n/\Rd (ak .u8) w (X_ (M_ g) n n) L:=by
 obtain⟨L,rfl,hg⟩:=h;refine⟨L,rfl,some ⟨g,0,none⟩,L.length,rfl,aA _,fun _=>⟨g,0,rfl,fun i x hx j u hu=>?_⟩⟩
 have hj:j=0:=by
  rcases j with _|j
  ·rfl
  ·simp [ak]at hu
 subst hj;obtain rfl:u=B_ x:=by simp [ak]at hu;exact hu.symm
 unfold World.cell?;simp [hg,hx,ak]
theorem qA.made {w:World}{base G n:Nat}(h:w.ownsRow base 5 1 (X_ (M_ G) n n) n (madeCells (Value.int .u8 0).cells (n*1)).toList):qA w G n:=by
 rcases h.2 with⟨e,_⟩|⟨g,cap,cur,e,_,hg,_,_,hs,nI⟩
 ·cases e
 ·cases e
  have Gh:cur.size=n:=by rw [hs];show n*1=n;omega
  refine⟨List.replicate n 0,OD,?_⟩;rw [hg]
  have e2:cur.toList=(List.replicate n (0:Int)).map (Value.int .u8):=by
   rw [Hv (by rw [Yh,Gh];omega)]at nI;rw [nI,List.map_replicate];refine List.ext_getElem (by simp [madeCells]) fun i h1 h2=>?_;simp [madeCells,Nat.mod_one,show(Value.int .u8 0).cells= #[Value.int .u8 0] from rfl]
  rw [<-e2]
theorem qA.str {w:World}{g n off:Nat}{L:List Int}(hL:L.length=n) (hg:w.heap[g]? =some (.cells (L.map (Value.int .u8)).toArray 5 (0,0))) (t:ByteArray) (ht:off+t.size<=n):
 qA (w.setRow g ((L.map (Value.int .u8)).toArray.toList.take off++(Lib.byteCells t.data.toList++(L.map (Value.int .u8)).toArray.toList.drop (off+t.size))).toArray) g n:=by
 refine⟨L.take off++(t.data.toList.map (fun b=>(b.toNat:Int))++L.drop (off+t.size)),?_,?_⟩
 ·have:t.data.toList.length=t.size:=rfl;simp only [dr,jo,D9,gj];omega
 ·rw [setRow_heap _ _ _ _ _ _ hg];simp [Lib.byteCells,List.map_take,List.map_drop,Function.comp_def]
theorem One.row (w:World) (g:Nat) (cs:Array Value):One g w (w.setRow g cs):=⟨rfl,rfl,rfl,by simp [World.setRow],fun k _ hk=>setRow_other w g k cs hk⟩
theorem Rd.adi {w:World}{A:Option Addr}{n c:Nat}{l:List Int}(h:Rd (ak .u8) w (X_ A n c) l) (hl:0<l.length):∃ad,A=some ad/\∀j v,(l.map (Value.int .u8))[j]? =some v->w.cell? (ad.add j)=some v:=by
 obtain⟨A',c',e,_,hc⟩:=h
 cases e
 obtain⟨b,off,rfl,uJ⟩:=hc (by rintro rfl;simp at hl);refine⟨_,rfl,fun j v hj=>?_⟩;rw [OX]at hj
 cases hx:l[j]? with
 |none=>rw [hx]at hj;cases hj
 |some x=>
  rw [hx]at hj
  cases hj
  rw [kR];have:=uJ j x hx 0 (B_ x) rfl;rw [show(ak .u8).sz=1 from rfl,RZ,Au]at this;exact this
theorem He{α β:Type}(f:α->β) (L:List α) (off:Nat) (l:List α):splice (L.map f) off (l.map f)=(splice L off l).map f:=by
 simp [splice,List.map_take,List.map_drop]
theorem ym(A:Option Addr) (c:Nat) (l:List Int) (w:World) (h:Rd (ak .u8) w (X_ A l.length c) l) (hl:l.length<=65536) (ht:b_ w):
 H_ 257 #[X_ A l.length c] w fun e w'=>∃G N,e=.returned (X_ (M_ G) N N)/\(∃L,L.length=N/\Rd (ak .u8) w' (X_ (M_ G) N N) L)/\N<=70000/\ae w w':=by
 obtain⟨i0,hi,dw,cE,dy⟩:=wF jl;have iF:(prog.info? 5).map (·.size)=some 1:=K_
 have d1:IntKind.u32.wrap (l.length:Int)=l.length:=by unfold IntKind.wrap;simp [IntKind.bits,IntKind.signed];omega
 have HD:=ac5 (ed l.length O_ w ht);have CA:=fF l.length O_;have H:=ac5 h;clear h ht
 go_enter func257,ntmps257
 go_wp2_with fail
 refine HD.out.mono ?_;rintro e w1 ⟨rfl,n1⟩;generalize jZ l.length=ds at*;have a1:¬9223372036854775807<1+ds.size:=O_
 have a2:¬9223372036854775807<1+ds.size+1:=O_
 have a3:¬9223372036854775807<1+ds.size+1+2:=O_
 have LJ:(⟨#[123]⟩++ds++⟨#[125]⟩++⟨#[13,10]⟩:ByteArray).size=ds.size+4:=by
  rw [cI,cI,cI]
  show 1+ds.size+1+2=_
  omega
 have N1:=ac5 n1;have H1:=ac5 (H.out.new n1);clear n1;by_cases h0:l=[]
 ·subst h0
  go_wp2_with (first
   |(at_make;refine wpList_make_full _ rfl _ _ 23 rfl w1.heap.size 5 i0 _ 1 underlying23 hi dw cE _ _ _ _ (ds.size+4) rfl rfl O_ O_ (by rw [dy];omega) (by unfold maxLen;omega) (aA _) ?_;intro w2 ic Uo;obtain⟨L2,YN,pP⟩:=qA.made ic;have N2:=ac5 (show ae w1 w2 from Fr.dW Uo fun _ h=>by cases h);clear ic Uo)
   |(refine lL rfl _ _ _ _ rfl 5 underlying23 iF w1.heap.size 0 (ds.size+4) (ds.size+4) _ rfl rfl _ 5 pP (by rw [LJ];omega) (by rw [LJ];simp;omega) ?_;intro w3 J1;obtain⟨L3,WM,mh⟩:qA w3 w1.heap.size (ds.size+4):=(by rw [J1];exact qA.str YN pP _ (by rw [LJ];omega));have N3:=ac5 (show ae w1 w3 from Fr.trans' N2.out (show One w1.heap.size w2 w3 from J1▸One.row _ _ _) fun k hk (e:k=w1.heap.size)=>O_);clear J1;rw [LJ])
   |(refine wpList_copy_nothing rfl _ _ _ _ rfl 5 underlying23 iF _ A _ _ 0 c rfl rfl S_ ?_))
  go_ret;exact⟨_,_,rfl,(show qA w3 w1.heap.size (ds.size+4) from⟨L3,WM,mh⟩).rd,O_,N1.out.trans N3.out⟩
 ·have vD:¬l.length=0:=fun e=>h0 (wk e)
  go_wp2_with (first
   |(at_make;refine wpList_make_full _ rfl _ _ 23 rfl w1.heap.size 5 i0 _ 1 underlying23 hi dw cE _ _ _ _ (ds.size+4+l.length) rfl rfl O_ O_ (by rw [dy];omega) (by unfold maxLen;omega) (aA _) ?_;intro w2 ic Uo;obtain⟨L2,YN,pP⟩:=qA.made ic;have N2:=ac5 (show ae w1 w2 from Fr.dW Uo fun _ h=>by cases h);clear ic Uo)
   |(refine lL rfl _ _ _ _ rfl 5 underlying23 iF w1.heap.size 0 (ds.size+4+l.length) (ds.size+4+l.length) _ rfl rfl _ 5 pP (by rw [LJ];omega) (by rw [LJ];simp;omega) ?_;intro w3 J1;obtain⟨L3,WM,mh⟩:qA w3 w1.heap.size (ds.size+4+l.length):=(by rw [J1];exact qA.str YN pP _ (by rw [LJ];omega));have N3:=ac5 (show ae w1 w3 from Fr.trans' N2.out (show One w1.heap.size w2 w3 from J1▸One.row _ _ _) fun k hk (e:k=w1.heap.size)=>O_);clear J1;rw [LJ])
   |(refine wpList_copy_splice rfl _ _ _ _ rfl 5 underlying23 iF _ A _ _ l.length c rfl rfl w1.heap.size (ds.size+4) (L3.map (Value.int .u8)) 5 mh (l.map (Value.int .u8)) (by rw [D9];simp) (fun lh=>⟨rfl,(H1.out.new N3.out).adi (by simpa using lh)⟩) P_ (by intro v hv;obtain⟨x,_,rfl⟩:=List.mem_map.1 hv;rfl) w1.heap.size w3 (zm _ _) (aA _) ?_;intro w4 Gg uc;have N4:=ac5 (show ae w1 w4 from Fr.trans' N3.out (Fr.eF (S:=fun k=>w1.heap.size<=k) uc fun i h1 h2=>h2) fun k hk e=>O_)))
  go_ret;have hr:qA w4 w1.heap.size (ds.size+4+l.length):=⟨splice L3 (ds.size+4) l,by rw [length_splice _ _ _ O_,WM],by rw [<-He];exact Gg.out⟩;exact⟨_,_,rfl,hr.rd,O_,N1.out.trans N4.out⟩
def yo(N:Nat) (w:World) (e:Ending) (w':World):Prop:=∃s:ByteArray,e=.returned (T_ s)/\s.size<=N/\ae w w'
def ui(fn N:Nat):Prop:=∀(B:Nat) (r:cV) (w:World),bF B w r->b_ w->H_ fn #[r.val] w fun e w'=>yo N w e w'
theorem YO:ui 249 200:=by
 intro B r w h ht;obtain⟨rk,rn,rt,de,rx,cT,fs,aY,cW,rA,dh,cY⟩:=r;unfold cV.val;have HL:=ac5 (fun W (hW:ae w W)=>zF fs h.fl0.1 h.fl0.2 W (ht.new hW));clear h ht
 go_enter func249,ntmps249
 go_wp2_with fail
 refine(HL.out _ ((ae.refl w).alloc _)).mono ?_;rintro e w1 ⟨s,rfl,hs,n1⟩;have a1:¬9223372036854775807<6+s.size:=O_
 go_wp2;go_ret;exact⟨_,rfl,by rw [cI];show 6+s.size<=200;omega,((ae.refl w).alloc _).trans n1⟩
theorem YP:ui 252 200:=by
 intro B r w h ht;obtain⟨rk,rn,rt,de,rx,cT,fs,aY,cW,rA,dh,cY⟩:=r;unfold cV.val;obtain⟨u,hu⟩:=tu h.LL.1;have wg:u<4294967296:=by have:=h.LL.2;simp only at hu this;omega
 simp only at hu;subst hu;have HL:=ac5 (fun W (hW:ae w W)=>ed u wg W (ht.new hW));have hs:=fF u wg;clear h ht;generalize jZ u=s at*
 go_enter func252,ntmps252
 go_wp2_with fail
 refine(HL.out _ ((ae.refl w).alloc _)).mono ?_;rintro e w1 ⟨rfl,n1⟩;have a1:¬9223372036854775807<4+s.size:=O_
 go_wp2;go_ret;exact⟨_,rfl,by rw [cI];show 4+s.size<=200;omega,((ae.refl w).alloc _).trans n1⟩
theorem YQ:ui 254 200:=by
 intro B r w h ht;obtain⟨rk,rn,rt,de,rx,cT,fs,aY,cW,rA,dh,cY⟩:=r;unfold cV.val;obtain⟨u,hu⟩:=tu h.sz0.1;have wg:u<4294967296:=by have:=h.sz0.2;simp only at hu this;omega
 simp only at hu;subst hu;have HL:=ac5 (fun W (hW:ae w W)=>ed u wg W (ht.new hW));have hs:=fF u wg;clear h ht;generalize jZ u=s at*
 go_enter func254,ntmps254
 go_wp2_with fail
 refine(HL.out _ ((ae.refl w).alloc _)).mono ?_;rintro e w1 ⟨rfl,n1⟩;have a1:¬9223372036854775807<12+s.size:=O_
 go_wp2;go_ret;exact⟨_,rfl,by rw [cI];show 12+s.size<=200;omega,((ae.refl w).alloc _).trans n1⟩
theorem YR:ui 256 80000:=by
 intro B r w h ht;obtain⟨rk,rn,rt,de,rx,cT,fs,aY,cW,rA,dh,cY⟩:=r;unfold cV.val;obtain⟨bl,hb,nV⟩:=h.body;obtain⟨_,_,he,_⟩:=hb.form;have ez:=hb.rd
 cases he
 have HL:=ac5 (fun W (hW:ae w W)=>ym rA cY bl W (ez.new hW) nV (ht.new hW));clear h ht hb ez
 go_enter func256,ntmps256
 go_wp2_with fail
 refine(HL.out _ ((ae.refl w).alloc _)).mono ?_;rintro e w1 ⟨G,N,rfl,⟨L,rfl,hL⟩,hN,n1⟩;obtain⟨s,kY,hs⟩:=LN L hL;have a1:¬9223372036854775807<7+s.size:=O_
 clear hL;go_wp2;go_ret;exact⟨_,rfl,by rw [cI];show 7+s.size<=80000;omega,((ae.refl w).alloc _).trans n1⟩
theorem DO(g:Nat) (wd:ByteArray) (hwd:wd.size<=20) (B:Nat) (r:cV) (w:World) (hg:af w g 9 #[T_ wd]) (h:bF B w r) (ht:b_ w):
 H_ 404 #[r.val,Q_ g] w fun e w'=>yo 100 w e w':=by
 obtain⟨rk,rn,rt,de,rx,cT,fs,aY,cW,rA,dh,cY⟩:=r;unfold cV.val;obtain⟨u,hu⟩:=tu h.n0.1;have wg:u<4294967296:=by have:=h.n0.2;simp only at hu this;omega
 simp only at hu;subst hu;obtain⟨w0,cU⟩:∃w0,w0=w.alloc (G_ #[I_ rk,U_ (u:Int),T_ rt,I_ de,T_ rx,I_ cT,B_ fs,U_ aY,U_ cW,X_ rA dh cY] 53):=⟨_,rfl⟩;have n0:ae w w0:=cU▸(ae.refl w).alloc _;have b0:=cU▸af.new _ _ _;have k1:=b0.k1;have g0:L_ w0 g 0 (T_ wd):=(n0.ai hg).cell 0;have HL:=ac5 (fun W (hW:ae w0 W)=>ed u wg W (ht.new (n0.trans hW)));have hs:=fF u wg;clear h ht b0 hg;generalize jZ u=s at*;have a1:¬9223372036854775807<2+s.size:=O_
 have a2:¬9223372036854775807<2+s.size+1:=O_
 have a3:¬9223372036854775807<2+s.size+1+wd.size:=O_
 go_enter func404,ntmps404
 go_wp2_with fail
 rw [<-cU];clear cU
 go_region_held3 (fun W=>L_ W w 1 (U_ (u:Int))/\L_ W g 0 (T_ wd)) (first|go_keep|(refine⟨?_,?_⟩<;>assumption)) ((first
  |(go_at_call 94
    refine(HL.out _ A_).mono ?_;rintro e w2 ⟨rfl,m2⟩;have da:ae w0 w2:=Fr.trans A_ m2;have p1:=Fr.cell da k1 id;have p2:=Fr.cell da g0 id)
  |fail))
 all_goals
  go_wp2;go_ret;refine⟨_,rfl,?_,n0.trans da⟩;rw [cI,cI,cI]
  show 2+s.size+1+wd.size<=100
  omega
theorem LO(g:Nat) (wd:ByteArray) (hwd:wd.size<=20) (B:Nat) (r:cV) (w:World) (hg:af w g 9 #[T_ wd]) (h:bF B w r):
 H_ 408 #[r.val,Q_ g] w fun e w'=>yo 10100 w e w':=by
 obtain⟨rk,rn,rt,de,rx,cT,fs,aY,cW,rA,dh,cY⟩:=r;have hx:=h.x0;simp only at hx;unfold cV.val;have g0:=hg.k0;have g1:∀o,L_ (w.alloc o) g 0 (T_ wd):=fun o=>(hg.alloc o).cell 0;clear h hg;have a2:¬9223372036854775807<wd.size+1:=O_
 have a3:¬9223372036854775807<wd.size+1+rx.size:=O_
 go_enter func408,ntmps408
 go_wp2;go_ret;refine⟨_,rfl,?_,(ae.refl w).alloc _⟩;rw [cI,cI]
 show wd.size+1+rx.size<=10100
 omega
theorem Hh:ui 359 200:=by
 intro B r w h ht;obtain⟨rk,rn,rt,de,rx,cT,fs,aY,cW,rA,dh,cY⟩:=r;unfold cV.val;have HL:=ac5 (fun W (hW:ae w W)=>zF 31 D_ D_ W (ht.new hW));clear h ht
 go_enter func359,ntmps359
 go_wp2_with fail
 refine(HL.out _ ((ae.refl w).alloc _)).mono ?_;rintro e w1 ⟨s,rfl,hs,n1⟩;have a1:¬9223372036854775807<8+s.size:=O_
 go_wp2;go_ret;exact⟨_,rfl,by rw [cI];show 8+s.size<=200;omega,((ae.refl w).alloc _).trans n1⟩
theorem ui.mono {fn N M:Nat}(h:ui fn N) (hm:N<=M):ui fn M:=fun B r w h1 h2=>(h B r w h1 h2).mono fun _ _ ⟨s,a,b,c⟩=>⟨s,a,O_,c⟩
theorem Uq{w:World}{g:Nat}(h:af w g 298 pd) (k:Nat) (hk:k<4):∃(it:Int) (f cf:Nat),L_ w g (k*3) (I_ it)/\L_ w g (k*3+1) (pF f)/\L_ w g (k*3+2) (pF cf)/\
 (∀args w,(callFunc f args).run prog w=.ok (.enter f args) w)/\ui f (if k=3 then 80000 else 200):=by
 have:k=0\/k=1\/k=2\/k=3:=O_
 rcases this with rfl|rfl|rfl|rfl
 ·exact⟨1,249,251,h.cell 0,h.cell 1,h.cell 2,Aw func249 K_ rfl,YO⟩
 ·exact⟨2,252,253,h.cell 3,h.cell 4,h.cell 5,Aw func252 K_ rfl,YP⟩
 ·exact⟨4,254,255,h.cell 6,h.cell 7,h.cell 8,Aw func254 K_ rfl,YQ⟩
 ·exact⟨16,256,258,h.cell 9,h.cell 10,h.cell 11,Aw func256 K_ rfl,YR⟩
theorem A0:ui 406 90000:=by
 intro B r w h ht;obtain⟨i0,hi,dw,cE,dy⟩:=wF DJ;obtain⟨rk,rn,rt,de,rx,cT,fs,aY,cW,rA,dh,cY⟩:=r;obtain⟨u,hu⟩:=tu h.n0.1;have wg:u<4294967296:=by have:=h.n0.2;simp only at hu this;omega
 simp only at hu;subst hu;obtain⟨w0,cU⟩:∃w0,w0=w.alloc (G_ #[I_ rk,U_ (u:Int),T_ rt,I_ de,T_ rx,I_ cT,B_ fs,U_ aY,U_ cW,X_ rA dh cY] 53):=⟨_,rfl⟩;have n0:ae w w0:=cU▸(ae.refl w).alloc _;have b0:=cU▸af.new _ _ _;have HH:=ac5 (And.intro (show bF B w0 _ from h.new n0) (ht.new n0));clear h ht;unfold cV.val
 go_enter func406,ntmps406
 go_wp2_with fail
 rw [<-cU];refine(sh _).mono ?_;rintro e w1 ⟨rfl,pN⟩;have lK:=pN▸af.new _ _ _;have n1:ae w0 w1:=pN▸(ae.refl w0).alloc _;have HB:=ac5 (And.intro (n1.ai b0) (And.intro lK (And.intro n0 n1)));clear cU pN b0 lK n0 n1;go_wp2_with fail
 go_loopw [3,8] (fun ov iv wr=>∃(k:Nat) (L:List ByteArray),k<=4/\L.length<=k/\iv=I_ k/\Hid (Own LM 9 w1.heap.size wr ov L/\jt L<=(if k=4 then 80600 else 200*k)/\ae w1 wr)) (fun _ iv _=>4-(intOf iv).toNat)
 case atStart=>exact⟨0,[],Gv _,aA _,rfl,Own.nil _ _ _ _,by simp [jt],ae.refl _⟩
 case round=>
  obtain⟨k,L,hk,hL,rfl,HR⟩:=hrel;obtain⟨oA,oC,rfl,_⟩:=HR.out.1.form;by_cases dL:k<4
  ·obtain⟨it,f,cf,c0,c1,c2,hE,hT⟩:=Uq (HR.out.2.2.ai HB.out.2.1) k dL;have nv:ae wr (wr.alloc (G_ #[I_ it,pF f,pF cf] 298)):=(ae.refl wr).alloc _;obtain⟨k0,k1,k2,k3,k4,k5,k6,k7,k8,k9⟩:=(nv.ai (HR.out.2.2.ai HB.out.1)).d_;have bv:af (wr.alloc (G_ #[I_ it,pF f,pF cf] 298)) wr 298 #[I_ it,pF f,pF cf]:=af.new _ _ _;have v0:=bv.k0;have v1:=bv.k1;have HF:=ac5 (hT B ⟨rk,u,rt,de,rx,cT,fs,aY,cW,rA,dh,cY⟩ (wr.alloc (G_ #[I_ it,pF f,pF cf] 298)) (HH.out.1.new ((HB.out.2.2.2.trans HR.out.2.2).trans nv)) (HH.out.2.new ((HB.out.2.2.2.trans HR.out.2.2).trans nv)));have HV:=ac5 (And.intro (HR.out.1.new nv) (HR.out.2.2.trans nv));have aiL:(k:Int)<4:=O_
   unfold cV.val at HF;obtain⟨y,hy⟩:∃y,bits .and .i64 cT it=y:=⟨_,rfl⟩;clear hT bv nv;rcases hz:(y !=0)with _|_
   ·go_wp2;go_roundw
    case rel=>exact⟨k+1,L,O_,O_,by go_num,ac5 ⟨HV.out.1,by have:=HR.out.2.1;split at this<;>split<;>omega,HV.out.2⟩⟩
    case measure=>simp [intOf];omega
   ·go_wp2_with fail
    refine HF.out.mono ?_;rintro e w2 ⟨s,rfl,hs,n2⟩;have Gc:=ac5 (And.intro (HV.out.1.new n2) (HV.out.2.trans n2));have eE:=Gc.out.2.size;clear n2;go_wp2_with (at_builtin;refine bC (E:=LM) rfl _ _ _ rfl underlying187 hi dw cE dy rfl (Gc.out.1.alloc _) rfl s w2.heap.size (af.new _ _ _) 1 rfl (by unfold maxLen;omega) O_ (by rw [gz];omega) ?_;intro v3 w3 iL gP o_)
    go_roundw
    case rel=>
     refine⟨k+1,_,O_,by rw [dr];simp;omega,by go_num,ac5 ⟨iL,?_,ae.append (Gc.out.2.alloc _) (Gc.out.1.alloc _) gP⟩⟩;have:=HR.out.2.1;rw [we]
     split at hs<;>split at this<;>split<;>omega
    case measure=>simp [intOf];omega
  ·obtain rfl:k=4:=O_
   obtain⟨k0,k1,k2,k3,k4,k5,k6,k7,k8,k9⟩:=(HR.out.2.2.ai HB.out.1).d_;have N1:=ac5 (HB.out.2.2.2.trans HR.out.2.2);have HD:=ac5 (ed u wg wr (HH.out.2.new N1.out));have CA:=fF u wg;generalize jZ u=ds at*;go_wp2_with fail
   refine HD.out.mono ?_;rintro e w5 ⟨rfl,n5⟩;have HJ:=ac5 (DK (HR.out.1.new n5) O_ (by have:=HR.out.2.1;split at this<;>omega));have N5:=ac5 ((HB.out.2.2.1.trans N1.out).trans n5);have a1:¬9223372036854775807<2+ds.size:=O_
   have a2:¬9223372036854775807<2+ds.size+8:=O_
   clear n5;go_wp2_with fail
   refine HJ.out.mono ?_;rintro e w6 ⟨s,rfl,hs,n6⟩;have qC:jt L<=80600:=by have:=HR.out.2.1;split at this<;>omega
   have a3:¬9223372036854775807<2+ds.size+8+s.size:=O_
   have a4:¬9223372036854775807<2+ds.size+8+s.size+1:=O_
   go_wp2;go_ret;refine⟨_,rfl,?_,N5.out.trans n6⟩;rw [cI,cI,cI,cI]
   show 2+ds.size+8+s.size+1<=90000
   omega
theorem DP(rk rn:Int) (t:ByteArray) (k:Nat) (hk:k<3) (x:ByteArray) (cT rf aY cW:Int) (rb:Value) (e_:t.size<=1000000) (Da:x.size<=1000000) (w:World) (hT:b_ w):
 H_ 411 #[rV rk rn t k x cT rf aY cW rb] w fun e w'=>e=.returned (T_ (ie t k x))/\ae w w':=by
 obtain⟨w0,cU⟩:∃w0,w0=w.alloc (G_ #[I_ rk,U_ rn,T_ t,I_ k,T_ x,I_ cT,B_ rf,U_ aY,U_ cW,rb] 53):=⟨_,rfl⟩;have b0:=cU▸af.new _ _ _;have n0:ae w w0:=cU▸(ae.refl w).alloc _;obtain⟨k0,k1,k2,k3,k4,k5,k6,k7,k8,k9⟩:=b0.d_;have HT:=ac5 (hT.new n0);clear hT k0 k1 k5 k6 k7 k8 k9
 have hc:∀W:World,L_ (W_ W (qB.map fun l=>Value.string ⟨l.toArray⟩).toArray 9) W k (T_ (ko k)):=by
  intro W;rw [GS];have:k=0\/k=1\/k=2:=O_
  rcases this with rfl|rfl|rfl<;>rfl
 have HC:=ac5 hc
 have hws:(ko k).size<=3:=by
  have:k=0\/k=1\/k=2:=O_
  rcases this with rfl|rfl|rfl<;>decide
 have uO:(k:Int)<3:=O_
 have z1:ByteArray.size ⟨#[32]⟩=1:=rfl;have a1:¬9223372036854775807<t.size+1:=O_
 have a2:¬9223372036854775807<t.size+1+(ko k).size:=O_
 have a3:¬9223372036854775807<t.size+1+(ko k).size+1:=O_
 have a4:¬9223372036854775807<t.size+1+(ko k).size+1+x.size:=O_
 go_enter func411,ntmps411
 go_wp2_with fail
 rw [<-cU];clear cU
 go_region_law ((first
  |(go_simp
    go_at_call 86
    refine(tq _ (HT.out.new N_)).mono ?_;rintro e w2 ⟨rfl,rfl⟩;have hx:=HC.out w0.drew;simp only [IN]at hx;have n2:ae w0 (w0.drew.alloc (G_ (qB.map fun l=>Value.string ⟨l.toArray⟩).toArray 9)):=((ae.refl w0).drew).alloc _;have d2:=Fr.cell n2 k2 id;have d3:=Fr.cell n2 k3 id;have d4:=Fr.cell n2 k4 id;generalize(w0.drew.alloc (G_ (qB.map fun l=>Value.string ⟨l.toArray⟩).toArray 9))=w2 at*;go_wp2_with fail)
  |fail))
 all_goals
  go_wp2;go_ret;exact⟨rfl,n0.trans n2⟩
theorem DR:ui 411 20100:=by
 intro B r w h ht;obtain⟨rk,rn,rt,de,rx,cT,fs,aY,cW,rA,dh,cY⟩:=r;obtain⟨k,hk⟩:=tu h.WJ.1;have h2:=h.WJ.2;have h3:=h.t0;have h4:=h.x0;simp only at hk h2 h3 h4;subst hk;refine(DP rk rn rt k O_ rx cT fs aY cW _ O_ O_ w ht).mono ?_;rintro e w' ⟨rfl,hn⟩
 have hws:(ko k).size<=3:=by
  have:k=0\/k=1\/k=2:=O_
  rcases this with rfl|rfl|rfl<;>decide
 refine⟨_,rfl,?_,hn⟩;unfold ie;rw [cI,cI,cI,cI,show ByteArray.size ⟨#[32]⟩=1 from rfl];omega
def YS(w:World) (e:Ending) (w':World):Prop:=∃(r:cV) (q:Bool) (bl:List Int),e=.returned (.tuple #[r.val,R_ q])/\Rd (ak .u8) w' (X_ r.A r.bn r.bc) bl/\bl.length<=65536/\ae w w'
def LP(fn:Nat):Prop:=∀(B:Nat) (r:cV) (w:World),bF B w r->H_ fn #[r.val] w fun e w'=>YS w e w'
abbrev SS:Array Value:= #[I_ 0,U_ 0,E_,I_ 0,E_,I_ 0,B_ 0,U_ 0,U_ 0,Z_]
theorem mi:LP 405:=by
 intro B r w h;obtain⟨rk,rn,rt,de,rx,cT,fs,aY,cW,rA,dh,cY⟩:=r;clear h;unfold cV.val;have n0:ae w (W_ (W_ w #[I_ rk,U_ rn,T_ rt,I_ de,T_ rx,I_ cT,B_ fs,U_ aY,U_ cW,X_ rA dh cY] 53) SS 53):=((ae.refl w).alloc _).alloc _;have b1:af (W_ (W_ w #[I_ rk,U_ rn,T_ rt,I_ de,T_ rx,I_ cT,B_ fs,U_ aY,U_ cW,X_ rA dh cY] 53) SS 53) (w.heap.size+1) 53 SS:=af.cD _ _ _ _
 go_enter func405,ntmps405
 go_wp2;exact r_ (aC rfl _ _ rfl rfl (fS (af.cD _ _ _ _))) rfl ⟨⟨0,rn,⟨#[]⟩,0,⟨#[]⟩,0,0,0,0,none,0,0⟩,true,[],rfl,Rd.nil _ _,S_,((ae.refl w).alloc _).alloc _⟩
theorem Hi:LP 360:=by
 intro B r w h;obtain⟨rk,rn,rt,de,rx,cT,fs,aY,cW,rA,dh,cY⟩:=r;clear h;unfold cV.val
 go_enter func360,ntmps360
 go_wp2;exact r_ (aC rfl _ _ rfl rfl (fS (af.cD _ _ _ _))) rfl ⟨⟨0,0,⟨#[]⟩,0,⟨#[]⟩,0,0,0,0,none,0,0⟩,true,[],rfl,Rd.nil _ _,S_,((ae.refl w).alloc _).alloc _⟩
theorem mZ:LP 409:=by
 intro B r w h;obtain⟨rk,rn,rt,de,rx,cT,fs,aY,cW,rA,dh,cY⟩:=r;have hx:=h.x0;simp only at hx;have HA:=ac5 (vK rx O_);clear h;unfold cV.val;obtain⟨w0,cU⟩:∃w0,w0=(w.alloc (G_ #[I_ rk,U_ rn,T_ rt,I_ de,T_ rx,I_ cT,B_ fs,U_ aY,U_ cW,X_ rA dh cY] 53)).alloc (G_ SS 53):=⟨_,rfl⟩;have n0:ae w w0:=cU▸((ae.refl w).alloc _).alloc _;have b0:=cU▸(af.new _ _ _).alloc _;have c0:=cU▸af.cD _ _ _ _;have k4:=b0.k4;have z0:=c0.frozen;obtain⟨q0,q1,q2,q3,q4,q5,q6,q7,q8,q9⟩:=c0.d_
 go_enter func409,ntmps409
 go_wp2_with fail
 rw [<-cU];clear cU
 go_region_law ((first
  |(go_simp
    go_at_call 61
    refine(HA.out _).mono ?_;rintro e w2 ⟨rfl,m2⟩;have da:ae w0 w2:=Fr.trans N_ m2;have c2:=da.ai c0;have k42:=Fr.cell da k4 id;have z2:=c2.frozen;obtain⟨p0,p1,p2,p3,p4,p5,p6,p7,p8,p9⟩:=c2.d_;go_wp2_with fail)
  |fail))
 all_goals
  go_wp2;exact r_ (aC rfl _ _ rfl rfl (fS (kn c2 _ _ _ _ _ _ _ _ _ _))) rfl ⟨⟨0,0,⟨#[]⟩,0,rx,0,0,0,0,none,0,0⟩,vJ rx,[],rfl,Rd.nil _ _,S_,Fr.trans' (n0.trans da) (lJ _ _ _ _ _ _ _ _ _ _) fun k hk (e:k=w.heap.size+1)=>O_⟩
theorem DS:LP 412:=by
 intro B r w h;obtain⟨rk,rn,rt,de,rx,cT,fs,aY,cW,rA,dh,cY⟩:=r;have hx:=h.x0;have ht:=h.t0;have h0:=h.WJ.1;have h2:=h.WJ.2;simp only at hx ht h0 h2;have HX:=ac5 (vK rx O_);have HT:=ac5 (kU rt O_);clear h;unfold cV.val;have b0:af (W_ (W_ w #[I_ rk,U_ rn,T_ rt,I_ de,T_ rx,I_ cT,B_ fs,U_ aY,U_ cW,X_ rA dh cY] 53) SS 53) w 53 #[I_ rk,U_ rn,T_ rt,I_ de,T_ rx,I_ cT,B_ fs,U_ aY,U_ cW,X_ rA dh cY]:=(af.new _ _ _).alloc _;have r0:af (W_ (W_ w #[I_ rk,U_ rn,T_ rt,I_ de,T_ rx,I_ cT,B_ fs,U_ aY,U_ cW,X_ rA dh cY] 53) SS 53) (w.heap.size+1) 53 SS:=af.cD _ _ _ _;have n0:ae w (W_ (W_ w #[I_ rk,U_ rn,T_ rt,I_ de,T_ rx,I_ cT,B_ fs,U_ aY,U_ cW,X_ rA dh cY] 53) SS 53):=((ae.refl w).alloc _).alloc _
 have fin:∀W q,ae w W->af W (w.heap.size+1) 53 SS->YS w (.returned (.tuple #[(rV 0 0 rt de rx 0 0 0 0 Z_),R_ q])) ((((((((((W.setCell (C_ (w.heap.size+1) 0) (I_ 0)).setCell (C_ (w.heap.size+1) 1) (U_ 0)).setCell (C_ (w.heap.size+1) 2) (T_ rt)).setCell (C_ (w.heap.size+1) 3) (I_ de)).setCell (C_ (w.heap.size+1) 4) (T_ rx)).setCell (C_ (w.heap.size+1) 5) (I_ 0)).setCell (C_ (w.heap.size+1) 6) (B_ 0)).setCell (C_ (w.heap.size+1) 7) (U_ 0)).setCell (C_ (w.heap.size+1) 8) (U_ 0)).setCell (C_ (w.heap.size+1) 9) Z_):=fun W q hn _=>
  ⟨⟨0,0,rt,de,rx,0,0,0,0,none,0,0⟩,q,[],rfl,Rd.nil _ _,S_,Fr.trans' hn (lJ _ _ _ _ _ _ _ _ _ _) fun k hk (e:k=w.heap.size+1)=>O_⟩
 have Gi:=ac5 fin;clear fin
 go_enter func412,ntmps412
 go_wp2_with fail
 refine(HT.out _).mono ?_;rintro e w1 ⟨rfl,m1⟩;have b1:=m1.ai b0;have r1:=m1.ai r0;have n1:=n0.trans m1;clear m1 b0 r0 n0;have c2:=b1.k2;have c3:=b1.k3;have c4:=b1.k4;have f0:=r1.frozen;obtain⟨p0,p1,p2,p3,p4,p5,p6,p7,p8,p9⟩:=r1.d_;rcases oO rt with _|_
 ·go_wp2;exact r_ (aC rfl _ _ rfl rfl (fS (kn r1 _ _ _ _ _ _ _ _ _ _))) rfl (Gi.out _ _ n1 r1)
 ·clear f0 p0 p1 p2 p3 p4 p5 p6 p7 p8 p9;go_wp2_with fail
  refine(HX.out _).mono ?_;rintro e w2 ⟨rfl,m2⟩;have b2:=m2.ai b1;have r2:=m2.ai r1;have n2:=n1.trans m2;clear m2 b1 r1 n1 c2 c3 c4;have c2:=b2.k2;have c3:=b2.k3;have c4:=b2.k4;have f0:=r2.frozen;obtain⟨p0,p1,p2,p3,p4,p5,p6,p7,p8,p9⟩:=r2.d_;rcases vJ rx with _|_
  ·go_wp2;exact r_ (aC rfl _ _ rfl rfl (fS (kn r2 _ _ _ _ _ _ _ _ _ _))) rfl (Gi.out _ _ n2 r2)
  ·go_wp2;exact r_ (aC rfl _ _ rfl rfl (fS (kn r2 _ _ _ _ _ _ _ _ _ _))) rfl (Gi.out _ _ n2 r2)
def CpF(cf:Nat):Prop:=(∀args w,(callFunc cf args).run prog w=.ok (.enter cf args) w)/\∀(w:World) (g:Nat) (k n:Int) (t:ByteArray) (st:Int) (x:ByteArray) (it fl uid sz:Int) (A:Option Addr) (m c:Nat) (k' n':Int) (t':ByteArray) (DG:Int) (x':ByteArray) (DH km eB mY:Int) (A':Option Addr) (m' c':Nat),af w g 53 (rC k n t st x it fl uid sz (X_ A m c))->
 H_ cf #[Q_ g,rV k' n' t' DG x' DH km eB mY (X_ A' m' c')] w fun e w'=>e=.returned (.tuple #[])/\One g w w'/\∃WK AX Pz A2 m2 c2,af w' g 53 (rC k n t st x it WK AX Pz (X_ A2 m2 c2))/\((A2=A/\m2=m/\c2=c)\/(A2=A'/\m2=m'/\c2=c'))
theorem Ur{w:World}{g:Nat}(h:af w g 298 pd) (k:Nat) (hk:k<4):∃(it:Int) (f cf:Nat),L_ w g (k*3) (I_ it)/\L_ w g (k*3+1) (pF f)/\L_ w g (k*3+2) (pF cf)/\CpF cf:=by
 have:k=0\/k=1\/k=2\/k=3:=O_
 rcases this with rfl|rfl|rfl|rfl
 ·exact⟨1,249,251,h.cell 0,h.cell 1,h.cell 2,Aw func251 K_ rfl,fun w g k n t st x it fl uid sz A m c k' n' t' DG x' DH km eB mY A' m' c' hb=>(zy k' n' t' DG x' DH km eB mY (X_ A' m' c') hb).mono fun _ _ h=>⟨h.1,h.2.2,_,_,_,_,_,_,h.2.1,.inl ⟨rfl,rfl,rfl⟩⟩⟩
 ·exact⟨2,252,253,h.cell 3,h.cell 4,h.cell 5,Aw func253 K_ rfl,fun w g k n t st x it fl uid sz A m c k' n' t' DG x' DH km eB mY A' m' c' hb=>(zA k' n' t' DG x' DH km eB mY (X_ A' m' c') hb).mono fun _ _ h=>⟨h.1,h.2.2,_,_,_,_,_,_,h.2.1,.inl ⟨rfl,rfl,rfl⟩⟩⟩
 ·exact⟨4,254,255,h.cell 6,h.cell 7,h.cell 8,Aw func255 K_ rfl,fun w g k n t st x it fl uid sz A m c k' n' t' DG x' DH km eB mY A' m' c' hb=>(zB k' n' t' DG x' DH km eB mY (X_ A' m' c') hb).mono fun _ _ h=>⟨h.1,h.2.2,_,_,_,_,_,_,h.2.1,.inl ⟨rfl,rfl,rfl⟩⟩⟩
 ·exact⟨16,256,258,h.cell 9,h.cell 10,h.cell 11,Aw func258 K_ rfl,fun w g k n t st x it fl uid sz A m c k' n' t' DG x' DH km eB mY A' m' c' hb=>(zC k' n' t' DG x' DH km eB mY A A' m c m' c' hb).mono fun _ _ h=>⟨h.1,h.2.2,_,_,_,_,_,_,h.2.1,.inr ⟨rfl,rfl,rfl⟩⟩⟩
theorem Ba:LP 407:=by
 intro B r w h;obtain⟨rk,rn,rt,de,rx,cT,fs,aY,cW,rA,dh,cY⟩:=r;obtain⟨bl,hb,nV⟩:=h.body;have ez:Rd (ak .u8) w (X_ rA dh cY) bl:=hb.rd;obtain⟨w0,cU⟩:∃w0,w0=((w.alloc (G_ (rC rk rn rt de rx cT fs aY cW (X_ rA dh cY)) 53)).alloc (G_ SS 53)).alloc (G_ (rC 0 rn ⟨#[]⟩ 0 ⟨#[]⟩ 0 0 0 0 Z_) 53):=⟨_,rfl⟩;have n0:ae w w0:=cU▸(((ae.refl w).alloc _).alloc _).alloc _;have b0:=cU▸((af.new _ _ _).alloc _).alloc _;have x0:=cU▸(af.cD _ _ _ _).alloc _;have o0:af w0 (w.heap.size+2) 53 (rC 0 rn ⟨#[]⟩ 0 ⟨#[]⟩ 0 0 0 0 Z_):=cU▸(by have:=af.new (W_ (W_ w (rC rk rn rt de rx cT fs aY cW (X_ rA dh cY)) 53) SS 53) 53 (rC 0 rn ⟨#[]⟩ 0 ⟨#[]⟩ 0 0 0 0 Z_);simpa using this);have HR:=ac5 (And.intro ez nV);clear h hb ez nV;unfold cV.val
 go_enter func407,ntmps407
 go_wp2_with fail
 rw [<-cU];refine(sh _).mono ?_;rintro e w1 ⟨rfl,pN⟩;have lK:=pN▸af.new _ _ _;have n1:ae w0 w1:=pN▸(ae.refl w0).alloc _;have HI:Hid (af w1 w 53 (rC rk rn rt de rx cT fs aY cW (X_ rA dh cY))/\af w1 (w.heap.size+1) 53 SS/\af w1 (w.heap.size+2) 53 (rC 0 rn ⟨#[]⟩ 0 ⟨#[]⟩ 0 0 0 0 Z_)/\af w1 w0 298 pd/\ae w w1):=ac5 ⟨n1.ai b0,n1.ai x0,n1.ai o0,lK,n0.trans n1⟩;generalize w0.heap.size=PB at*;clear cU pN lK n1 b0 x0 o0 n0;obtain⟨OB,gU⟩:∃OB,OB=w.heap.size+1+1:=⟨_,rfl⟩;rw [<-gU]
 change Hid (_/\_/\af w1 (w.heap.size+1+1) _ _/\_)at HI
 rw [<-gU]at HI;have pS:w.heap.size<=OB:=O_
 have nJ:OB≠w.heap.size:=O_
 have SU:OB≠w.heap.size+1:=O_
 clear gU;go_wp2_with fail
 go_loopw [12] (fun iv wr=>∃(k:Nat) (it fl uid sz:Int) (A:Option Addr) (m c:Nat),k<=4/\iv=I_ k/\((A=none/\m=0/\c=0)\/(A=rA/\m=dh/\c=cY))/\Hid (af wr w 53 (rC rk rn rt de rx cT fs aY cW (X_ rA dh cY))/\af wr (w.heap.size+1) 53 SS/\af wr OB 53 (rC 0 rn ⟨#[]⟩ 0 ⟨#[]⟩ it fl uid sz (X_ A m c))/\af wr PB 298 pd/\ae w wr)) (fun iv _=>4-(intOf iv).toNat)
 case atStart=>exact⟨0,0,0,0,0,none,0,0,Gv _,rfl,.inl ⟨rfl,rfl,rfl⟩,HI⟩
 case round=>
  obtain⟨k,it,fl,uid,sz,A,m,c,hk,rfl,hA,HW⟩:=hrel;by_cases dL:k<4
  ·obtain⟨YT,f,cf,c0,c1,c2,hE,hC⟩:=Ur HW.out.2.2.2.1 k dL;have nv:ae wr (wr.alloc (G_ #[I_ YT,pF f,pF cf] 298)):=(ae.refl wr).alloc _;have bv:af (wr.alloc (G_ #[I_ YT,pF f,pF cf] 298)) wr 298 #[I_ YT,pF f,pF cf]:=af.new _ _ _;have ho:=nv.ai HW.out.2.2.1;have hr:=nv.ai HW.out.1;have hvO:wr.heap.size≠OB:=by have:=HW.out.2.2.1.lt;omega
   have v0:=bv.k0;have k5:=hr.k5;have q5:=ho.k5;have f5:=ho.frozen 5;have l5:=ho.lt;obtain⟨y,hy⟩:∃y,bits .and .i64 cT YT=y:=⟨_,rfl⟩;obtain⟨z,hz⟩:∃z,bits .or .i64 it YT=z:=⟨_,rfl⟩;have os:=(One.refl OB (wr.alloc (G_ #[I_ YT,pF f,pF cf] 298))).set 5 (I_ z);have ic:=Fr.ai os hr (iX nJ);have bv2:=Fr.ai os bv hvO;have v2:=bv2.k2;have eY:af ((wr.alloc (G_ #[I_ YT,pF f,pF cf] 298)).setCell (C_ OB 5) (I_ z)) OB 53 (rC 0 rn ⟨#[]⟩ 0 ⟨#[]⟩ z fl uid sz (X_ A m c)):=ho.al 5 _;have HC:=ac5 (hC _ OB 0 rn ⟨#[]⟩ 0 ⟨#[]⟩ z fl uid sz A m c rk rn rt de rx cT fs aY cW rA dh cY eY);obtain⟨j0,j1,j2,j3,j4,j5,j6,j7,j8,j9⟩:=ic.d_;have HV:=ac5 (And.intro nv os);have aiL:(k:Int)<4:=O_
   clear hC nv bv ho hr ic bv2 eY os;rcases hyz:(y !=0)with _|_
   ·go_wp2;go_roundw
    case rel=>exact⟨k+1,it,fl,uid,sz,A,m,c,O_,by go_num,hA,ac5 ⟨HV.out.1.ai HW.out.1,HV.out.1.ai HW.out.2.1,HV.out.1.ai HW.out.2.2.1,HV.out.1.ai HW.out.2.2.2.1,HW.out.2.2.2.2.trans HV.out.1⟩⟩
    case measure=>simp [intOf];omega
   ·go_wp2_with fail
    refine HC.out.mono ?_;rintro e w5 ⟨rfl,o5,WK,AX,Pz,A2,m2,c2,ud,Pn⟩;have oo:One OB wr w5:=((HV.out.1.mono fun _ _ h=>h.elim).trans HV.out.2).trans o5;have HB5:=ac5 (And.intro ud oo);clear ud oo o5;go_wp2;go_roundw
    case rel=>
     exact⟨k+1,z,WK,AX,Pz,A2,m2,c2,O_,by go_num,Pn.elim (fun e=>by obtain⟨rfl,rfl,rfl⟩:=e;exact hA) .inr,ac5 ⟨Fr.ai HB5.out.2 HW.out.1 (iX nJ),Fr.ai HB5.out.2 HW.out.2.1 (iX SU),HB5.out.1,Fr.ai HB5.out.2 HW.out.2.2.2.1 (HW.out.2.2.2.1.aU HW.out.2.2.1 D_),Fr.trans' HW.out.2.2.2.2 HB5.out.2 fun i hi (e:i=OB)=>O_⟩⟩
    case measure=>simp [intOf];omega
  ·obtain rfl:k=4:=O_
   obtain⟨q0,q1,q2,q3,q4,q5,q6,q7,q8,q9⟩:=HW.out.2.2.1.d_;obtain⟨p0,p1,p2,p3,p4,p5,p6,p7,p8,p9⟩:=HW.out.2.1.d_;have z0:=HW.out.2.1.frozen;have k6:L_ wr w 6 (B_ fs):=HW.out.1.cell 6;have k9:L_ wr w 9 (X_ rA dh cY):=HW.out.1.cell 9;obtain⟨ez,nV⟩:=HR.out;obtain⟨_,_,he,J3,_⟩:=ez
   cases he
   have ti:(bl.length:Int)<=65536:=O_
   obtain⟨WX,hWX⟩:∃WX,WX=((((((((((wr.setCell (C_ (w.heap.size+1) 0) (I_ 0)).setCell (C_ (w.heap.size+1) 1) (U_ rn)).setCell (C_ (w.heap.size+1) 2) E_).setCell (C_ (w.heap.size+1) 3) (I_ 0)).setCell (C_ (w.heap.size+1) 4) E_).setCell (C_ (w.heap.size+1) 5) (I_ it)).setCell (C_ (w.heap.size+1) 6) (B_ fl)).setCell (C_ (w.heap.size+1) 7) (U_ uid)).setCell (C_ (w.heap.size+1) 8) (U_ sz)).setCell (C_ (w.heap.size+1) 9) (X_ A m c)).drew:=⟨_,rfl⟩;have hN:ae w WX:=hWX▸Fr.trans' HW.out.2.2.2.2 (Fr.drew (lJ (w:=wr) (g:=w.heap.size+1) (I_ 0) (U_ rn) E_ (I_ 0) E_ (I_ it) (B_ fl) (U_ uid) (U_ sz) (X_ A m c))) fun k hk (e:k=w.heap.size+1)=>O_
   have hX:af WX (w.heap.size+1) 53 (rC 0 rn ⟨#[]⟩ 0 ⟨#[]⟩ it fl uid sz (X_ A m c)):=hWX▸Fr.ai ((ae.refl _).drew) (kn HW.out.2.1 (I_ 0) (U_ rn) E_ (I_ 0) E_ (I_ it) (B_ fl) (U_ uid) (U_ sz) (X_ A m c)) id
   have Gi:Hid (∀q,YS w (.returned (.tuple #[(rV 0 rn ⟨#[]⟩ 0 ⟨#[]⟩ it fl uid sz (X_ A m c)),R_ q])) WX):=ac5 fun q=>by
    rcases hA with⟨rfl,rfl,rfl⟩|⟨rfl,rfl,rfl⟩
    ·exact⟨⟨0,rn,⟨#[]⟩,0,⟨#[]⟩,it,fl,uid,sz,none,0,0⟩,q,[],rfl,Rd.nil _ _,S_,hN⟩
    ·exact⟨⟨0,rn,⟨#[]⟩,0,⟨#[]⟩,it,fl,uid,sz,_,_,_⟩,q,bl,rfl,HR.out.1.new hN,nV,hN⟩
   have HX:=ac5 (And.intro (fS hX) hWX);clear hX hWX hN;rcases gM:(it !=0)with _|_
   ·go_wp2_with fail
    go_region;go_wp2;rw [<-HX.out.2];exact r_ (aC rfl _ _ rfl rfl HX.out.1) rfl (Gi.out _)
   ·rcases sj:decide (fs<=31)with _|_
    ·go_wp2_with fail
     go_region;go_wp2;rw [<-HX.out.2];exact r_ (aC rfl _ _ rfl rfl HX.out.1) rfl (Gi.out _)
    ·go_wp2_with fail
     go_region;go_wp2;rw [<-HX.out.2];exact r_ (aC rfl _ _ rfl rfl HX.out.1) rfl (Gi.out _)
end Go.Proofs.YtliimglbbiebiaaGreatDoor
