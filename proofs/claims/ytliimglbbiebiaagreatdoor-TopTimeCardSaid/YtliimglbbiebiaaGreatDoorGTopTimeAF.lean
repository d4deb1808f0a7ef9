import Derived.Test.YtliimglbbiebiaaGreatDoorGTopTimeAA
import Derived.Test.YtliimglbbiebiaaGreatDoorGTopTimeAB
set_option maxRecDepth 100000
set_option maxHeartbeats 6400000
set_option linter.all false
namespace Go.Proofs.YtliimglbbiebiaaGreatDoor
open Go.Proofs.Tryz Go.RowKit Go.Maps
theorem af.aO {w:World}{g:Nat}{t:TypeId}{cs:Array Value}{P:Program}{K:TypeId}{β:Type} [DecidableEq β] {KE:el P K β}{b:Nat}{m:List (β×Value)}(h:af w g t cs) (hm:HasMap KE w b m):g≠b:=by
 rintro rfl;obtain⟨D,⟨es,clock,h3,_⟩,_⟩:=hm.own;unfold af at h;rw [h]at h3
 cases h3
theorem aI{P:Program}{fn:Func}{p:Tmp}{t:TypeId}(h:fn.results= #[.cell p t]) (tmps:Array Value) (w:World) {a:Addr}{v:Value}
 (hp:tmps[p]? =some (.pointer (some a))) (hv:(loadVar t a).run P w=.ok v w):(results fn tmps).run P w=.ok v w:=by
 simp [results,h,hp,asAddr,hv]
theorem qa{w:World}{g:Nat}{a b:Value}(h:af w g 428 #[a,b]):(loadVar 428 (C_ g 0)).run prog w=.ok (.agg #[a,b]) w:=
 kV w g _ _ _ _ _ h underlying428 rfl K_
abbrev GD(g:Nat):Value:=.agg #[.func (.func 404) #[] #[Q_ g],.func (.func 405) #[] #[]]
abbrev AA(g:Nat):Value:=.agg #[.func (.func 408) #[] #[Q_ g],.func (.func 409) #[] #[]]
abbrev Yj:Value:=.agg #[.func (.func 406) #[] #[],.func (.func 407) #[] #[]]
abbrev GG:Value:=.agg #[.func (.func 411) #[] #[],.func (.func 412) #[] #[]]
abbrev aca:Value:=.agg #[.func (.func 359) #[] #[],.func (.func 360) #[] #[]]
theorem l9(s:ByteArray) (w:World):H_ 357 #[T_ s] w fun e w'=>e=.returned (GD w.heap.size)/\af w' w 9 #[T_ s]/\ae w w':=by
 go_enter func357,ntmps357
 go_wp2;refine r_ (aI rfl _ _ rfl (qa (af.cD _ _ _ _))) rfl ⟨rfl,(af.new _ _ _).alloc _,((ae.refl w).alloc _).alloc _⟩
theorem mR(s:ByteArray) (w:World):H_ 361 #[T_ s] w fun e w'=>e=.returned (AA w.heap.size)/\af w' w 9 #[T_ s]/\ae w w':=by
 go_enter func361,ntmps361
 go_wp2;refine r_ (aI rfl _ _ rfl (qa (af.cD _ _ _ _))) rfl ⟨rfl,(af.new _ _ _).alloc _,((ae.refl w).alloc _).alloc _⟩
theorem AD(w:World):H_ 358 #[] w fun e w'=>e=.returned Yj/\ae w w':=by
 go_enter func358,ntmps358
 go_wp2;exact r_ (aI rfl _ _ rfl (qa (af.new _ _ _))) rfl ⟨rfl,(ae.refl w).alloc _⟩
theorem CP(w:World):H_ 362 #[] w fun e w'=>e=.returned GG/\ae w w':=by
 go_enter func362,ntmps362
 go_wp2;exact r_ (aI rfl _ _ rfl (qa (af.new _ _ _))) rfl ⟨rfl,(ae.refl w).alloc _⟩
def OI(g1 g2 g3 g6 g7 g8 g10:Nat):List (Int×Value):=(put (put (put (put (put (put (put (put (put (put [] 1 (GD g1)) 2 (GD g2)) 3 (GD g3)) 4 Yj) 5 aca) 6 (AA g6)) 7 (AA g7)) 8 (AA g8)) 9 GG) 10 (AA g10))
def OJ(w:World) (g1 g2 g3 g6 g7 g8 g10:Nat):Prop:=af w g1 9 #[T_ ⟨#[69,88,73,83,84,83]⟩]/\af w g2 9 #[T_ ⟨#[82,69,67,69,78,84]⟩]/\af w g3 9 #[T_ ⟨#[69,88,80,85,78,71,69]⟩]/\af w g6 9 #[T_ ⟨#[42,32,79,75]⟩]/\af w g7 9 #[T_ ⟨#[42,32,66,89,69]⟩]/\af w g8 9 #[T_ ⟨#[42,32,66,65,68]⟩]/\af w g10 9 #[T_ ⟨#[43]⟩]
theorem mS(w:World):H_ 316 #[] w fun e w'=>e=.returned (.map (some w.heap.size))/\ae w w'/\∃g1 g2 g3 g6 g7 g8 g10,OJ w' g1 g2 g3 g6 g7 g8 g10/\HasMap aL w' w.heap.size (OI g1 g2 g3 g6 g7 g8 g10):=by
 have uH:= @run_makeMap prog;have vD:=HasMap.made aL w
 go_enter func316,ntmps316
 go_wp2_with (first
  |(go_at_call 357;refine(l9 ⟨#[69,88,73,83,84,83]⟩ _).mono ?_;rintro e cw1 ⟨rfl,cb1,cn1⟩;have ch1:=vD.fr cn1 id)
  |(refine aw (E:=aL) rfl _ _ _ 429 428 rfl underlying429 ch1 (iB (aA 0) (by unfold maxLen;decide)) 1 (by show(Lit.int .i64 1).wf=true;decide) (GD _) rfl rfl rfl ?_;intro zw1 GH CQ)
  |(go_at_call 357;refine(l9 ⟨#[82,69,67,69,78,84]⟩ _).mono ?_;rintro e cw2 ⟨rfl,cb2,cn2⟩;have ch2:=GH.fr cn2 id)
  |(refine aw (E:=aL) rfl _ _ _ 429 428 rfl underlying429 ch2 (iB (aj (aA 0)) (by unfold maxLen;decide)) 2 (by show(Lit.int .i64 2).wf=true;decide) (GD _) rfl rfl rfl ?_;intro zw2 GJ AE)
  |(go_at_call 357;refine(l9 ⟨#[69,88,80,85,78,71,69]⟩ _).mono ?_;rintro e cw3 ⟨rfl,cb3,cn3⟩;have ch3:=GJ.fr cn3 id)
  |(refine aw (E:=aL) rfl _ _ _ 429 428 rfl underlying429 ch3 (iB (aj (aj (aA 0))) (by unfold maxLen;decide)) 3 (by show(Lit.int .i64 3).wf=true;decide) (GD _) rfl rfl rfl ?_;intro zw3 GK AF)
  |(go_at_call 358;refine(AD _).mono ?_;rintro e cw4 ⟨rfl,cn4⟩;have ch4:=GK.fr cn4 id)
  |(refine aw (E:=aL) rfl _ _ _ 429 428 rfl underlying429 ch4 (iB (aj (aj (aj (aA 0)))) (by unfold maxLen;decide)) 4 (by show(Lit.int .i64 4).wf=true;decide) Yj rfl rfl rfl ?_;intro zw4 Ga CR)
  |(refine aw (E:=aL) rfl _ _ _ 429 428 rfl underlying429 Ga (iB (aj (aj (aj (aj (aA 0))))) (by unfold maxLen;decide)) 5 (by show(Lit.int .i64 5).wf=true;decide) aca rfl rfl rfl ?_;intro ub Lj CS)
  |(go_at_call 361;refine(mR ⟨#[42,32,79,75]⟩ _).mono ?_;rintro e cw6 ⟨rfl,cb6,cn6⟩;have ch6:=Lj.fr cn6 id)
  |(refine aw (E:=aL) rfl _ _ _ 429 428 rfl underlying429 ch6 (iB (aj (aj (aj (aj (aj (aA 0)))))) (by unfold maxLen;decide)) 6 (by show(Lit.int .i64 6).wf=true;decide) (AA _) rfl rfl rfl ?_;intro zw6 Yk OK)
  |(go_at_call 361;refine(mR ⟨#[42,32,66,89,69]⟩ _).mono ?_;rintro e cw7 ⟨rfl,cb7,cn7⟩;have ch7:=Yk.fr cn7 id)
  |(refine aw (E:=aL) rfl _ _ _ 429 428 rfl underlying429 ch7 (iB (aj (aj (aj (aj (aj (aj (aA 0))))))) (by unfold maxLen;decide)) 7 (by show(Lit.int .i64 7).wf=true;decide) (AA _) rfl rfl rfl ?_;intro zw7 Yl NM)
  |(go_at_call 361;refine(mR ⟨#[42,32,66,65,68]⟩ _).mono ?_;rintro e cw8 ⟨rfl,cb8,Ym⟩;have Yn:=Yl.fr Ym id)
  |(refine aw (E:=aL) rfl _ _ _ 429 428 rfl underlying429 Yn (iB (aj (aj (aj (aj (aj (aj (aj (aA 0)))))))) (by unfold maxLen;decide)) 8 (by show(Lit.int .i64 8).wf=true;decide) (AA _) rfl rfl rfl ?_;intro zw8 Yo Lk)
  |(go_at_call 362;refine(CP _).mono ?_;rintro e cw9 ⟨rfl,Wm⟩;have Yp:=Yo.fr Wm id)
  |(refine aw (E:=aL) rfl _ _ _ 429 428 rfl underlying429 Yp (iB (aj (aj (aj (aj (aj (aj (aj (aj (aA 0))))))))) (by unfold maxLen;decide)) 9 (by show(Lit.int .i64 9).wf=true;decide) GG rfl rfl rfl ?_;intro zw9 zm9 Yq)
  |(go_at_call 361;refine(mR ⟨#[43]⟩ _).mono ?_;rintro e aps ⟨rfl,acg,CT⟩;have CU:=zm9.fr CT id)
  |(refine aw (E:=aL) rfl _ _ _ 429 428 rfl underlying429 CU (iB (aj (aj (aj (aj (aj (aj (aj (aj (aj (aA 0)))))))))) (by unfold maxLen;decide)) 10 (by show(Lit.int .i64 10).wf=true;decide) (AA _) rfl rfl rfl ?_;intro Yr ahI CV))
 have ahJ:=CQ.ai cb1 (af.aO cb1 ch1);have ach:=cn2.ai ahJ;have ahK:=AE.ai ach (af.aO ach ch2);have aci:=cn3.ai ahK;have ahL:=AF.ai aci (af.aO aci ch3);have acj:=cn4.ai ahL;have ack:=CR.ai acj (af.aO acj ch4);have ahM:=CS.ai ack (af.aO ack Ga);have acm:=cn6.ai ahM;have ahN:=OK.ai acm (af.aO acm ch6);have Wn:=cn7.ai ahN;have acn:=NM.ai Wn (af.aO Wn ch7);have Wo:=Ym.ai acn;have aco:=Lk.ai Wo (af.aO Wo Yn);have Wp:=Wm.ai aco;have acp:=Yq.ai Wp (af.aO Wp Yp);have Wq:=CT.ai acp;have Wr:=CV.ai Wq (af.aO Wq CU);have ahO:=AE.ai cb2 (af.aO cb2 ch2);have acq:=cn3.ai ahO;have ahP:=AF.ai acq (af.aO acq ch3);have acr:=cn4.ai ahP;have acs:=CR.ai acr (af.aO acr ch4);have ahQ:=CS.ai acs (af.aO acs Ga);have acu:=cn6.ai ahQ;have ahR:=OK.ai acu (af.aO acu ch6);have acv:=cn7.ai ahR;have ahS:=NM.ai acv (af.aO acv ch7);have Ws:=Ym.ai ahS;have acw:=Lk.ai Ws (af.aO Ws Yn);have Wt:=Wm.ai acw;have acx:=Yq.ai Wt (af.aO Wt Yp);have Wu:=CT.ai acx;have acy:=CV.ai Wu (af.aO Wu CU);have ahT:=AF.ai cb3 (af.aO cb3 ch3);have acz:=cn4.ai ahT;have acA:=CR.ai acz (af.aO acz ch4);have ahU:=CS.ai acA (af.aO acA Ga);have acB:=cn6.ai ahU;have ahV:=OK.ai acB (af.aO acB ch6);have acC:=cn7.ai ahV;have ahW:=NM.ai acC (af.aO acC ch7);have acD:=Ym.ai ahW;have ahX:=Lk.ai acD (af.aO acD Yn);have Wv:=Wm.ai ahX;have acE:=Yq.ai Wv (af.aO Wv Yp);have Ww:=CT.ai acE;have acF:=CV.ai Ww (af.aO Ww CU);have ahY:=OK.ai cb6 (af.aO cb6 ch6);have acG:=cn7.ai ahY;have ahZ:=NM.ai acG (af.aO acG ch7);have acH:=Ym.ai ahZ;have ah0:=Lk.ai acH (af.aO acH Yn);have acI:=Wm.ai ah0;have ah1:=Yq.ai acI (af.aO acI Yp);have acJ:=CT.ai ah1;have ah2:=CV.ai acJ (af.aO acJ CU);have ah3:=NM.ai cb7 (af.aO cb7 ch7);have acK:=Ym.ai ah3;have ah4:=Lk.ai acK (af.aO acK Yn);have acL:=Wm.ai ah4;have ah5:=Yq.ai acL (af.aO acL Yp);have acM:=CT.ai ah5;have ah6:=CV.ai acM (af.aO acM CU);have ah7:=Lk.ai cb8 (af.aO cb8 Yn);have acN:=Wm.ai ah7;have ah8:=Yq.ai acN (af.aO acN Yp);have acO:=CT.ai ah8;have ah9:=CV.ai acO (af.aO acO CU);have acP:=CV.ai acg (af.aO acg CU);rw [gz]at Wr;go_ret;exact⟨rfl,(ae.one (Fr.trans (ae.one (Fr.trans (ae.one (Fr.trans (ae.one (Fr.trans (ae.one (Fr.trans (ae.one (ae.one (Fr.trans (ae.one (Fr.trans (ae.one (Fr.trans (ae.one (Fr.trans ((ae.refl w).alloc _) cn1) CQ (aA _)) cn2) AE (aA _)) cn3) AF (aA _)) cn4) CR (aA _)) CS (aA _)) cn6) OK (aA _)) cn7) NM (aA _)) Ym) Lk (aA _)) Wm) Yq (aA _)) CT) CV (aA _)),_,_,_,_,_,_,_,⟨Wr,acy,acF,ah2,ah6,ah9,acP⟩,ahI⟩
def bytesOf(s:ByteArray):List Int:=s.data.toList.map fun b=>(b.toNat:Int)
theorem il(s:ByteArray):(bytesOf s).length=s.size:=by
 unfold bytesOf;rw [D9];rfl
theorem vI(s:ByteArray) (k:Nat) (h:k<s.size):(bytesOf s)[k]? =some ((s[k].toNat:Nat):Int):=by
 unfold bytesOf;rw [OX,DW (show k<s.data.toList.length from h)];rfl
def Wx(w:World) (f:Nat) (p:Int->Bool):Prop:=∀(W:World) (x:Int),0<=x->x<256->ae w W->H_ f #[B_ x] W fun e w'=>e=.returned (R_ (p x))/\ae W w'
theorem TP(f:Nat) (p:Int->Bool) (hE:∀args w,(callFunc f args).run prog w=.ok (.enter f args) w) (s:ByteArray) (hs:s.size<=1000000) (w:World) (hp:Wx w f p):
 H_ 84 #[.agg #[.func (.func f) #[] #[]],T_ s] w fun e w'=>e=.returned (R_ ((bytesOf s).all p))/\ae w w':=by
 obtain⟨r,hr⟩:∃r,r=(bytesOf s).all p:=⟨_,rfl⟩;rw [<-hr];have HR:=ac5 hr;clear hr
 go_enter func84,ntmps84
 go_wp2_with fail
 go_loopw [8] (fun vi wr=>∃k:Nat,k<=s.size/\vi=I_ k/\((bytesOf s).take k).all p=true/\ae w wr/\af wr w 185 #[.func (.func f) #[] #[]]) (fun vi _=>s.size-(intOf vi).toNat)
 case atStart=>exact⟨0,Gv _,rfl,rfl,(ae.refl w).alloc _,af.new _ _ _⟩
 case round=>
  obtain⟨k,hk,rfl,iK,c_,hb⟩:=hrel;by_cases NN:k<s.size
  ·have c0:=hb.k0;have bZ:=fun n=>hp (wr.drewN n) ((s[k].toNat:Nat):Int) O_ (by have:=s[k].toNat_lt;omega) (c_.drewN n);have HB:=ac5 hb;have ah_:=ac5 iK;have HAT:=ac5 (gk (vI s k NN));have HM:=ac5 (YX (vI s k NN));have eH:=ac5 bZ;clear hb iK bZ
   have hr:p ((s[k].toNat:Nat):Int)=false->r=false:=by
    intro h;rw [HR.out,List.all_eq_false];exact⟨_,HM.out,by rw [h];simp⟩
   have yg:=ac5 hr;clear hr
   cases mT:p ((s[k].toNat:Nat):Int)
   all_goals
    rw [mT]at eH;go_wp2_with fail
    go_region_held3 (fun w'=>L_ w' w 0 (.func (.func f) #[] #[])) (first|go_keep|assumption)
     ((first
       |(refine(eH.out _).mono ?_
         rintro e w1 ⟨rfl,br⟩;have iQ:ae wr w1:=((ae.refl wr).drewN _).trans br;have c1:=Fr.cell iQ c0 id)
       |fail))
   ·have hr:=yg.out mT;subst hr;go_wp2;go_ret;exact⟨rfl,c_.trans iQ⟩
   ·go_wp2;go_roundw
    case rel=>
     refine⟨k+1,O_,by go_num,?_,c_.trans iQ,iQ.ai HB.out⟩;rw [HAT.out,List.all_append,ah_.out];simp [mT]
    case measure=>simp [intOf];omega
  ·have hr:r=true:=by
    rw [HR.out,<-iK,Hv (by rw [il];omega)]
   subst hr;go_wp2;go_ret;exact⟨rfl,c_⟩
theorem CX(s:ByteArray):s.toList.isEmpty=(bytesOf s).isEmpty:=by
 rw [CY];unfold bytesOf;rw [List.isEmpty_map]
def OM(s:ByteArray) (p:Int->Bool):Bool:= !(bytesOf s).isEmpty&&(bytesOf s).all p
theorem AG(f:Nat) (p:Int->Bool) (hE:∀args w,(callFunc f args).run prog w=.ok (.enter f args) w) (s:ByteArray) (hs:s.size<=1000000) (w:World) (hp:Wx w f p):
 H_ 61 #[T_ s,.func (.func f) #[] #[]] w fun e w'=>e=.returned (R_ (OM s p))/\ae w w':=by
 unfold OM;rw [<-CX];by_cases h:s.toList=[]
 ·have h2:s.toList.isEmpty=true:=by rw [h];rfl
  rw [h2]
  go_enter func61,ntmps61
  go_wp2;go_ret;exact⟨rfl,ae.refl _⟩
 ·have h2:s.toList.isEmpty=false:=by simpa using h
  rw [h2]
  go_enter func61,ntmps61
  go_wp2_with (go_at_call 84;refine(TP f p hE s hs _ hp).mono ?_;rintro e w1 ⟨rfl,n1⟩)
  go_ret;exact⟨S_,n1⟩
def oO(s:ByteArray):Bool:=OM s TK
def vJ(s:ByteArray):Bool:=OM s vG
theorem kU(s:ByteArray) (hs:s.size<=1000000) (w:World):H_ 61 #[T_ s,.func (.func 62) #[] #[]] w fun e w'=>e=.returned (R_ (oO s))/\ae w w':=
 AG _ TK (enters _ _ _ func62 K_ rfl) s hs w fun W x h0 _ _=>TO x h0 W
theorem vK(s:ByteArray) (hs:s.size<=1000000) (w:World):H_ 61 #[T_ s,.func (.func 410) #[] #[]] w fun e w'=>e=.returned (R_ (vJ s))/\ae w w':=
 AG _ vG (enters _ _ _ func410 K_ rfl) s hs w fun W x h0 _ _=>CW x W
abbrev rV(k n:Int) (t:ByteArray) (st:Int) (x:ByteArray) (it fl uid sz:Int) (b:Value):Value:=.agg #[I_ k,U_ n,T_ t,I_ st,T_ x,I_ it,B_ fl,U_ uid,U_ sz,b]
abbrev Ll(t:ByteArray) (st:Int) (x:ByteArray):Value:=rV 9 0 t st x 0 0 0 0 Z_
theorem fS{w:World}{g:Nat}{a0 a1 a2 a3 a4 a5 a6 a7 a8 a9:Value}(h:af w g 53 #[a0,a1,a2,a3,a4,a5,a6,a7,a8,a9]):(loadVar 53 (C_ g 0)).run prog w=.ok (.agg #[a0,a1,a2,a3,a4,a5,a6,a7,a8,a9]) w:=
 kV w g _ _ _ _ _ h underlying53 rfl K_
theorem GN(w:World):H_ 403 #[Z_,Z_] w fun e w'=>e=.returned (R_ true)/\w=w':=by
 go_enter func403,ntmps403
 go_wp2_with fail
 refine jD 1 ?_;rw [O0];go_wp2;go_ret;exact⟨rfl,rfl⟩
theorem Lm(k n:Int) (t:ByteArray) (st:Int) (x:ByteArray) (it fl uid sz:Int) (w:World):
 H_ 356 #[rV k n t st x it fl uid sz Z_,rV k n t st x it fl uid sz Z_] w fun e w'=>e=.returned (R_ true)/\ae w w':=by
 go_enter func356,ntmps356
 go_wp2_with (go_at_call 403;refine(GN _).mono ?_;rintro e w1 ⟨rfl,rfl⟩)
 go_ret;exact⟨rfl,((ae.refl _).alloc _).alloc _⟩
theorem C0(t:ByteArray) (ht:oO t=true) (e_:t.size<=1000000) (st:Int) (h0:0<=st) (h2:st<=2) (x:ByteArray) (hx:vJ x=true) (Da:x.size<=1000000) (w:World):
 H_ 412 #[Ll t st x] w fun e w'=>e=.returned (.tuple #[rV 0 0 t st x 0 0 0 0 Z_,R_ true])/\ae w w':=by
 have yX:=kU t e_;rw [ht]at yX;have hax:=vK x Da;rw [hx]at hax;have b0:af (W_ (W_ w #[I_ 9,U_ 0,T_ t,I_ st,T_ x,I_ 0,B_ 0,U_ 0,U_ 0,Z_] 53) #[I_ 0,U_ 0,E_,I_ 0,E_,I_ 0,B_ 0,U_ 0,U_ 0,Z_] 53) w 53 #[I_ 9,U_ 0,T_ t,I_ st,T_ x,I_ 0,B_ 0,U_ 0,U_ 0,Z_]:=(af.new _ _ _).alloc _;have r0:af (W_ (W_ w #[I_ 9,U_ 0,T_ t,I_ st,T_ x,I_ 0,B_ 0,U_ 0,U_ 0,Z_] 53) #[I_ 0,U_ 0,E_,I_ 0,E_,I_ 0,B_ 0,U_ 0,U_ 0,Z_] 53) (w.heap.size+1) 53 #[I_ 0,U_ 0,E_,I_ 0,E_,I_ 0,B_ 0,U_ 0,U_ 0,Z_]:=af.cD _ _ _ _;have n0:ae w (W_ (W_ w #[I_ 9,U_ 0,T_ t,I_ st,T_ x,I_ 0,B_ 0,U_ 0,U_ 0,Z_] 53) #[I_ 0,U_ 0,E_,I_ 0,E_,I_ 0,B_ 0,U_ 0,U_ 0,Z_] 53):=((ae.refl w).alloc _).alloc _
 go_enter func412,ntmps412
 go_wp2_with fail
 refine(yX _).mono ?_;rintro e w1 ⟨rfl,m1⟩;have b1:=m1.ai b0;have r1:=m1.ai r0;have n1:=n0.trans m1;clear m1 b0 r0 n0;have c4:=b1.k4;go_wp2_with fail
 refine(hax _).mono ?_;rintro e w2 ⟨rfl,m2⟩;have b2:=m2.ai b1;have r2:=m2.ai r1;have n2:=n1.trans m2;clear m2 b1 r1 n1 c4;have c2:=b2.k2;have c3:=b2.k3;have c4:=b2.k4;have f0:=r2.frozen;have q0:=r2.k0;have q1:=r2.k1;have q2:=r2.k2;have q3:=r2.k3;have q4:=r2.k4;have q5:=r2.k5;have q6:=r2.k6;have q7:=r2.k7;have q8:=r2.k8;have q9:=r2.k9;go_wp2;have hR:=(((((((((r2.al 0 (I_ 0)).al 1 (U_ 0)).al 2 (T_ t)).al 3 (I_ st)).al 4 (T_ x)).al 5 (I_ 0)).al 6 (B_ 0)).al 7 (U_ 0)).al 8 (U_ 0)).al 9 Z_;have hF:=((((((((((One.refl (w.heap.size+1) w2).set 0 (I_ 0)).set 1 (U_ 0)).set 2 (T_ t)).set 3 (I_ st)).set 4 (T_ x)).set 5 (I_ 0)).set 6 (B_ 0)).set 7 (U_ 0)).set 8 (U_ 0)).set 9 Z_;refine r_ (aC rfl _ _ rfl rfl (fS hR)) rfl ⟨?_,ae.one n2 hF O_⟩;simp
theorem jW(w:World):(zeroValue 428).run prog w=.ok (.agg #[.nilFunc,.nilFunc]) w:=K_
theorem Yv:aL.ok 9:=by show(Lit.int .i64 9).wf=true;decide
theorem AH(t:ByteArray) (ht:oO t=true) (e_:t.size<=1000000) (st:Int) (h0:0<=st) (h2:st<=2) (x:ByteArray) (hx:vJ x=true) (Da:x.size<=1000000) (w:World):
 H_ 315 #[Ll t st x] w fun e w'=>e=.returned (R_ true)/\ae w w':=by
 obtain⟨w0,cU⟩:∃w0,w0=w.alloc (G_ #[I_ 9,U_ 0,T_ t,I_ st,T_ x,I_ 0,B_ 0,U_ 0,U_ 0,Z_] 53):=⟨_,rfl⟩;have b0:=cU▸af.new _ _ _;have n0:ae w w0:=cU▸(ae.refl w).alloc _;have c0:=b0.k0;have l0:=b0.lt
 go_enter func315,ntmps315
 go_wp2_with fail
 rw [<-cU];clear cU
 go_region_held3 (fun W=>L_ W w 0 (I_ 9)) (first|go_keep|assumption|exact S0 _ _) ((first
  |(go_at_call 316
    refine(mS _).mono ?_;rintro e w2 ⟨rfl,m2,g1,g2,g3,g6,g7,g8,g10,qh,th⟩;have da:ae w0 w2:=Fr.trans N_ m2;have c2:=Fr.cell da c0 id;have S0:∀u v,L_ ((w2.setCell (C_ w0 0) u).setCell (C_ w0 1) v) w 0 (I_ 9):=fun u v=>Fr.cell (((One.refl w0.heap.size w2).set 0 u).set 1 v) c2 (by show¬w.heap.size=w0.heap.size;omega);have hl:=th.bD (t:=429) (e:=428) underlying429 (jW w2) Yv
    change (Instr.lookup 429 _ (I_ 9) true).run prog w2=.ok (.tuple #[GG,R_ true]) w2 at hl
    have Ln:∀o,(Instr.lookup 429 _ (I_ 9) true).run prog (w2.alloc o)=.ok (.tuple #[GG,R_ true]) (w2.alloc o):=fun o=>(th.alloc o).bD (t:=429) (e:=428) underlying429 (jW _) Yv;simp only [gz,IN]at hl Ln
    try(have y:=m2.ai (af.new w0.drew 428 #[.nilFunc,.nilFunc]);simp only [IN]at y;have y0:=y.k0;have y1:=y.k1;have z0:=y.frozen 0;have z1:=y.frozen 1))
  |fail))
 all_goals
  first
  |(have n2:ae w0 ((w2.setCell ⟨w0.heap.size,0,none⟩ (.func (.func 411) #[] #[])).setCell ⟨w0.heap.size,1,none⟩ (.func (.func 412) #[] #[])):=ae.one da (((One.refl w0.heap.size w2).set 0 _).set 1 _) (aA _)
    have e1:L_ ((w2.setCell (C_ w0 0) (.func (.func 411) #[] #[])).setCell (C_ w0 1) (.func (.func 412) #[] #[])) w0 1 (.func (.func 412) #[] #[]):=((y.al 0 _).al 1 _).cell 1;have b2:=n2.ai b0;generalize((w2.setCell (C_ w0 0) (.func (.func 411) #[] #[])).setCell (C_ w0 1) (.func (.func 412) #[] #[]))=w3 at n2 e1 b2⊢)
  |(have n2:ae w0 (w2.alloc (.cells #[.func (.func 411) #[] #[],.func (.func 412) #[] #[]] 428)):=da.alloc _
    have e1:L_ (W_ w2 #[.func (.func 411) #[] #[],.func (.func 412) #[] #[]] 428) w2 1 (.func (.func 412) #[] #[]):=(af.new _ _ _).cell 1;have b2:=n2.ai b0;generalize(w2.alloc (G_ #[.func (.func 411) #[] #[],.func (.func 412) #[] #[]] 428))=w3 at n2 e1 b2⊢)
  have Lo:=n0.trans n2;obtain⟨k0,k1,k2,k3,k4,k5,k6,k7,k8,k9⟩:=b2.d_;go_wp2_with fail
  refine(C0 t ht e_ st h0 h2 x hx Da _).mono ?_;rintro e w4 ⟨rfl,m4⟩;have b4:=m4.ai b2;have n4:=Lo.trans m4;have l4:=b4.lt;clear k0 k1 k2 k3 k4 k5 k6 k7 k8 k9;obtain⟨k0,k1,k2,k3,k4,k5,k6,k7,k8,k9⟩:=b4.d_;go_wp2_with (go_at_call 356;refine(Lm 9 0 t st x 0 0 0 0 _).mono ?_;rintro e w5 ⟨rfl,m5⟩)
  go_ret;exact⟨rfl,(n4.alloc _).trans m5⟩
abbrev mV(w:World) (x:Nat) (bx:Value) (id:Int) (pv:Option Addr) (dn:Bool):Prop:=af w x 98 #[bx,I_ id,.pointer pv,R_ dn]
theorem OP(s:Addr) (id:Int) (h:0<=id) (w:World):H_ 16 #[.pointer (some s),I_ id] w fun e w'=>e=.returned (Q_ w)/\w'=w.alloc (G_ #[.pointer (some s),I_ id,.pointer none,R_ false] 98):=by
 have h0:¬id<0:=O_
 go_enter func16,ntmps16
 go_wp2;go_ret;exact⟨rfl,rfl⟩
theorem jm(x:Nat) (bx:Value) (id:Int) (pv:Option Addr) (dn:Bool) (w:World) (h:mV w x bx id pv dn):H_ 114 #[Q_ x] w fun e w'=>e=.returned (I_ id)/\w'=w:=by
 have c1:=h.k1
 go_enter func114,ntmps114
 go_wp2;go_ret;exact⟨rfl,rfl⟩
theorem yY(x:Nat) (bx:Value) (id:Int) (pv:Option Addr) (dn:Bool) (w:World) (h:mV w x bx id pv dn):H_ 18 #[Q_ x] w fun e w'=>e=.returned (.pointer pv)/\w'=w:=by
 have c2:=h.k2
 go_enter func18,ntmps18
 go_wp2;go_ret;exact⟨rfl,rfl⟩
theorem jX(x:Nat) (bx:Value) (id:Int) (pv:Option Addr) (dn:Bool) (w:World) (h:mV w x bx id pv dn):H_ 108 #[Q_ x] w fun e w'=>e=.returned (R_ dn)/\w'=w:=by
 have c3:=h.k3
 go_enter func108,ntmps108
 go_wp2;go_ret;exact⟨rfl,rfl⟩
theorem vO(x:Nat) (bx:Value) (id:Int) (dn g:Bool) (w:World) (h:mV w x bx id none dn):H_ 88 #[Q_ x,R_ g] w fun e w'=>e=.returned Z_/\w'=w:=by
 have c2:=h.k2
 go_enter func88,ntmps88
 go_wp2;go_ret;exact⟨rfl,rfl⟩
theorem uI(OB base:Nat) (u v:Value) (l m:List cV) (w:World) (hb:af w OB 50 #[v]) (ho:Own cG 53 base w v l) (hu:Rd cG w u m) (hl:l.length+m.length<=1000000000) (dH:base<=w.heap.size):
 H_ 39 #[u,Q_ OB] w fun e w'=>e=.returned (.tuple #[])/\∃v',af w' OB 50 #[v']/\Own cG 53 base w' v' (l++m)/\Fr (fun k=>k=OB\/v.ownBlock=some k) w w'/\(v'.ownBlock=v.ownBlock\/∃g,v'.ownBlock=some g/\w.heap.size<=g):=by
 obtain⟨i0,hi,dw,cE,dy⟩:=wF qk;obtain⟨vA,vc,rfl,hvc⟩:=ho.form;have c0:=hb.k0;have bV:∀g,(Value.slice vA l.length vc).ownBlock=some g->g≠OB:=fun g hg e=>ho.ar hb D_ (by rw [<-e];exact hg);have HNE:=ac5 bV;clear bV
 go_enter func39,ntmps39
 go_wp2_with (at_builtin;refine aZ (E:=cG) rfl _ _ _ rfl underlying50 hi dw cE dy rfl ho rfl hu rfl (by unfold maxLen;omega) O_ dH ?_;intro v1 w1 fE iE pM;have gN:=Fr.ai iE hb (fun hs=>HNE.out _ hs rfl);have c1:=gN.k0;have f1:=gN.frozen 0;obtain⟨A2,C2,rfl,_⟩:=fE.form)
 go_end0;rw [dr]at fE pM;have NO:Fr (fun k=>k=OB\/(Value.slice vA l.length vc).ownBlock=some k) w w1:=iE.mono fun k _ hk=>.inr hk;refine⟨rfl,_,gN.al 0 _,fE.fr ((One.refl OB w1).set 0 _) (fun g hg e=>?_),NO.setCell (p:=⟨OB,0,none⟩) (fun _=>.inl rfl) _,?_⟩
 ·have e:=e;exact fE.ar gN D_ (by rw [<-e];exact hg)
 ·rcases pM with h|h
  ·exact .inl h
  ·exact .inr ⟨_,h,aA _⟩
theorem yZ(t:ByteArray) (st:Int) (x:ByteArray) (w:World):H_ 42 #[T_ t,I_ st,T_ x] w fun e w'=>e=.returned (Ll t st x)/\ae w w':=by
 go_enter func42,ntmps42
 go_wp2;exact r_ (aI rfl _ _ rfl (fS (af.new _ _ _))) rfl ⟨rfl,(ae.refl w).alloc _⟩
def y_(f:Nat) (b:Bool):Value:=.agg #[.func (.func f) #[] #[],R_ b]
def opsL:List (Int×Value):=put (put (put (put (put (put (put (put [] 1 (y_ 65 false)) 2 (y_ 66 false)) 5 (y_ 67 false)) 6 (y_ 68 false)) 3 (y_ 69 true)) 4 (y_ 70 true)) 7 (y_ 71 true)) 8 (y_ 72 true)
theorem vP(w:World):H_ 40 #[] w fun e w'=>e=.returned (.map (some w.heap.size))/\HasMap aL w' w.heap.size opsL/\ae w w':=by
 have uH:= @run_makeMap prog;have vD:=HasMap.made aL w
 go_enter func40,ntmps40
 go_wp2_with (first
  |(refine aw (E:=aL) rfl _ _ _ 104 103 rfl underlying104 vD (iB (aA 0) (by unfold maxLen;decide)) 1 (by show(Lit.int .i64 1).wf=true;decide) (y_ 65 false) rfl rfl rfl ?_;intro zw1 GH CQ)
  |(refine aw (E:=aL) rfl _ _ _ 104 103 rfl underlying104 GH (iB (aj (aA 0)) (by unfold maxLen;decide)) 2 (by show(Lit.int .i64 2).wf=true;decide) (y_ 66 false) rfl rfl rfl ?_;intro zw2 GJ AE)
  |(refine aw (E:=aL) rfl _ _ _ 104 103 rfl underlying104 GJ (iB (aj (aj (aA 0))) (by unfold maxLen;decide)) 5 (by show(Lit.int .i64 5).wf=true;decide) (y_ 67 false) rfl rfl rfl ?_;intro zw3 GK AF)
  |(refine aw (E:=aL) rfl _ _ _ 104 103 rfl underlying104 GK (iB (aj (aj (aj (aA 0)))) (by unfold maxLen;decide)) 6 (by show(Lit.int .i64 6).wf=true;decide) (y_ 68 false) rfl rfl rfl ?_;intro zw4 Ga CR)
  |(refine aw (E:=aL) rfl _ _ _ 104 103 rfl underlying104 Ga (iB (aj (aj (aj (aj (aA 0))))) (by unfold maxLen;decide)) 3 (by show(Lit.int .i64 3).wf=true;decide) (y_ 69 true) rfl rfl rfl ?_;intro ub Lj CS)
  |(refine aw (E:=aL) rfl _ _ _ 104 103 rfl underlying104 Lj (iB (aj (aj (aj (aj (aj (aA 0)))))) (by unfold maxLen;decide)) 4 (by show(Lit.int .i64 4).wf=true;decide) (y_ 70 true) rfl rfl rfl ?_;intro zw6 Yk OK)
  |(refine aw (E:=aL) rfl _ _ _ 104 103 rfl underlying104 Yk (iB (aj (aj (aj (aj (aj (aj (aA 0))))))) (by unfold maxLen;decide)) 7 (by show(Lit.int .i64 7).wf=true;decide) (y_ 71 true) rfl rfl rfl ?_;intro zw7 Yl NM)
  |(refine aw (E:=aL) rfl _ _ _ 104 103 rfl underlying104 Yl (iB (aj (aj (aj (aj (aj (aj (aj (aA 0)))))))) (by unfold maxLen;decide)) 8 (by show(Lit.int .i64 8).wf=true;decide) (y_ 72 true) rfl rfl rfl ?_;intro zw8 Yo Lk))
 go_ret;exact⟨rfl,Yo,ae.one ((ae.refl w).alloc _) (CQ.trans (AE.trans (AF.trans (CR.trans (CS.trans (OK.trans (NM.trans Lk))))))) (aA _)⟩
def Cx(c:UInt8):UInt8:=if 97<=c/\c<=122 then c-32 else c
theorem OU:∀c:Fin 256,97<=c.val->c.val<=122->bits .andNot .u8 (c.val:Int) 32=(((Cx (UInt8.ofNat c.val)).toNat:Nat):Int):=by decide +kernel
theorem Yw:∀c:Fin 256,(c.val<97\/122<c.val)->((c.val:Nat):Int)=(((Cx (UInt8.ofNat c.val)).toNat:Nat):Int):=by decide +kernel
theorem GQ(c:UInt8) (w:World):H_ 182 #[B_ (c.toNat:Int)] w fun e w'=>e=.returned (B_ ((Cx c).toNat:Int))/\w=w':=by
 have hc:UInt8.ofNat c.toNat=c:=S_
 have h1:=OU ⟨c.toNat,c.toNat_lt⟩;have h2:=Yw ⟨c.toNat,c.toNat_lt⟩;simp only [hc]at h1 h2;have h3:97<=(c.toNat:Int)->(c.toNat:Int)<=122->bits .andNot .u8 (c.toNat:Int) 32=((Cx c).toNat:Int):=fun ha hb=>h1 O_ O_;have h4:((c.toNat:Int)<97\/122<(c.toNat:Int))->(c.toNat:Int)=((Cx c).toNat:Int):=fun h=>h2 O_;clear h1 h2 hc;generalize(c.toNat:Int)=x at*;generalize((Cx c).toNat:Int)=y at*;by_cases h97:97<=x
 ·by_cases aif:x<=122
  ·have hb:=h3 h97 aif;clear h3 h4
   go_enter func182,ntmps182
   go_wp2;go_ret;rw [<-hb];exact⟨rfl,rfl⟩
  ·have hb:=h4 O_;subst hb;clear h3 h4
   go_enter func182,ntmps182
   go_wp2;go_ret;exact⟨rfl,rfl⟩
 ·have hb:=h4 O_;subst hb;clear h3 h4
  go_enter func182,ntmps182
  go_wp2;go_ret;exact⟨rfl,rfl⟩
def Dc(w:World) (g:Nat) (l:List UInt8):Prop:=∀i x,l[i]? =some x->L_ w g i (B_ (x.toNat:Int))/\w.frozen? (C_ g i)=false
theorem Dc.al {w:World}{g:Nat}{l:List UInt8}(h:Dc w g l) (k:Nat) (y:UInt8):Dc (w.setCell (C_ g k) (B_ (y.toNat:Int))) g (l.set k y):=by
 intro i x hx;rw [World.frozen?_setCell];by_cases Yx:k=i
 ·subst Yx;have hl:=(List.getElem?_eq_some_iff.1 hx).1;rw [xj]at hl;rw [acW hl]at hx;injection hx with hx;subst hx;obtain⟨z,hz⟩:∃z,l[k]? =some z:=⟨_,DW hl⟩;exact⟨ZM _ _ _ (h k z hz).1,(h k z hz).2⟩
 ·rw [OV Yx]at hx;refine⟨?_,(h i x hx).2⟩;rw [OW _ _ _ _ (fun e=>Yx (Addr.mk.inj e).2.1)];exact(h i x hx).1
theorem mW(l:List UInt8) (k:Nat) (h:k<l.length):((l.take k).map Cx).length=k:=by
 rw [D9,jo];omega
theorem OY(l:List UInt8) (k:Nat) (h:k<l.length):((l.take k).map Cx++l.drop k)[k]? =some l[k]:=by
 rw [ab4 (by rw [mW l k h];exact aA _),mW l k h,Nat.sub_self,aR,Au,DW h]
theorem Lr(l:List UInt8) (k:Nat) (h:k<l.length):((l.take k).map Cx++l.drop k).set k (Cx l[k])=(l.take (k+1)).map Cx++l.drop (k+1):=by
 rw [List.set_append_right _ _ (by rw [mW l k h];exact aA _),mW l k h,Nat.sub_self,wt h,ta,acZ h,fY];simp
theorem GR(b g:Nat) (l:List UInt8) (c:Nat) (hl:l.length<=1000000) (hbg:b≠g) (w:World) (hb:L_ w b 0 (X_ (M_ g) l.length c)) (hr:Dc w g l):
 H_ 181 #[.func (.func 182) #[] #[],Q_ b] w fun e w'=>e=.returned (.tuple #[])/\Dc w' g (l.map Cx)/\One g w w':=by
 go_enter func181,ntmps181
 go_wp2_with fail
 go_loopw [7] (fun vi wr=>∃k:Nat,k<=l.length/\vi=I_ k/\Dc wr g ((l.take k).map Cx++l.drop k)/\One g w wr) (fun vi _=>l.length-(intOf vi).toNat)
 case atStart=>exact⟨0,Gv _,rfl,by simpa using hr,One.refl _ _⟩
 case round=>
  obtain⟨k,hk,rfl,eQ,a_⟩:=hrel;by_cases dL:k<l.length
  ·have c0:=Fr.cell a_ hb (fun e=>hbg e);have yX:=OY l k dL;have Yy:=Lr l k dL;obtain⟨x,ex⟩:∃x,x=l[k]:=⟨_,rfl⟩;rw [<-ex]at yX Yy;have c1:=(eQ k x yX).1;have f1:=(eQ k x yX).2;have cst:∀v,(wr.setCell (C_ g k) v).drew.cell? (C_ b 0)=some (X_ (M_ g) l.length c):=fun v=>(OW wr (C_ g k) (C_ b 0) v (by intro e;injection e with e;exact hbg e.symm)).trans c0;have Ls:=ac5 eQ;have aih:=ac5 Yy;clear eQ yX Yy ex;go_wp2_with fail
   go_region_held3 (fun w'=>L_ w' b 0 (X_ (M_ g) l.length c)) (first|go_keep|assumption|exact cst _)
    ((first
      |(go_at_call 182
        refine(GQ x _).mono ?_;rintro e w1 ⟨rfl,rfl⟩;have c1:L_ wr.drew b 0 (X_ (M_ g) l.length c):=c0)
      |fail))
   go_wp2;go_roundw
   case rel=>
    refine⟨k+1,O_,by go_num,?_,(a_.set k _).drew⟩;rw [<-aih.out];exact(Ls.out.al k _)
   case measure=>simp [intOf];omega
  ·go_wp2;go_end0;have e1:l.take k=l:=Hv O_;have e2:l.drop k=[]:=PU O_;rw [e1,e2,kg]at eQ;exact⟨rfl,eQ,a_⟩
theorem bytesRow_at(s:ByteArray) (cap i:Nat) (x:UInt8) (h:s.data.toList[i]? =some x):(bytesRow s cap)[i]? =some (B_ (x.toNat:Int)):=by
 have hi:=(List.getElem?_eq_some_iff.1 h).1;unfold bytesRow;rw [TR (by simpa using hi),Array.getElem?_map];rw [ab8]at h;rw [h];rfl
def zj(s:ByteArray):ByteArray:=⟨(s.data.toList.map Cx).toArray⟩
theorem gV(s:ByteArray) (hs:s.size<=1000000) (w:World):H_ 126 #[T_ s] w fun e w'=>e=.returned (T_ (zj s))/\ae w w':=by
 have ac0:=GU (P:=prog) w 9 23 5 s underlying9 underlying23 underlying5;have jE:s.data.toList.length=s.size:=rfl;obtain⟨C,hC⟩:∃C,C=bytesRow s (grownCap w s.size 0 5):=⟨_,rfl⟩;obtain⟨cap,iW⟩:∃cap,cap=grownCap w s.size 0 5:=⟨_,rfl⟩
 have Wz:Dc (w.drew.alloc (.cells C 5 (C.size,C.size+1))) w.heap.size s.data.toList:=by
  intro i x hx;have h1:C[i]? =some (B_ (x.toNat:Int)):=by rw [hC];exact bytesRow_at s _ i x hx
  have h2:=(Array.getElem?_eq_some_iff.1 h1).1;refine⟨?_,?_⟩
  ·show(w.alloc (.cells C 5 (C.size,C.size+1))).cell? (C_ w i)=_
   simp [World.alloc,World.cell?, -World.alloc_eq,h1]
  ·show(w.alloc (.cells C 5 (C.size,C.size+1))).frozen? (C_ w i)=_
   rw [World.frozen?_alloc_mark];simp;omega
 rw [<-hC,<-iW]at ac0;have Ls:=ac5 Wz;clear Wz hC iW;have jY:af ((w.alloc (.cells C 5 (C.size,C.size+1))).alloc (G_ #[X_ (M_ w) s.size cap] 23)).drew (w.heap.size+1) 23 #[X_ (M_ w) s.size cap]:=(af.cD _ _ _ _)
 have De:Dc ((w.alloc (.cells C 5 (C.size,C.size+1))).alloc (G_ #[X_ (M_ w) s.size cap] 23)).drew w.heap.size s.data.toList:=by
  intro i x hx;obtain⟨h1,h2⟩:=Ls.out i x hx;refine⟨?_,?_⟩
  ·show((w.alloc _).alloc _).cell? _=_
   rw [Aq _ _ _ S_];exact h1
  ·show((w.alloc _).alloc _).frozen? _=_
   rw [World.frozen?_alloc_past _ _ _ S_];exact h2
 have JO:ae w ((w.alloc (.cells C 5 (C.size,C.size+1))).alloc (G_ #[X_ (M_ w) s.size cap] 23)).drew:=(((ae.refl w).alloc _).alloc _).drew;have bZ:=GR (w.heap.size+1) w.heap.size s.data.toList cap (by rw [jE];exact hs) O_ _ (jY.cell 0) De;have eH:=ac5 bZ;clear Ls bZ De
 go_enter func126,ntmps126
 go_wp2_with fail
 refine eH.out.mono ?_;rintro e w1 ⟨rfl,hr,ho⟩;have c0:L_ w1 (w.heap.size+1) 0 (X_ (M_ w) s.size cap):=(ho.ai jY O_).cell 0
 have al9:(convert 23 9 (X_ (M_ w) s.size cap)).run prog w1=.ok (T_ (zj s)) w1:=by
  have h:=l7 (P:=prog) w1 23 9 5 (C_ w 0) cap (s.data.toList.map Cx) underlying23 underlying5 underlying9 (fun j hj=>by
   rw [kR,aH];exact(hr j _ (DW hj)).1)
  rw [D9]at h;exact h
 go_wp2;go_ret;exact⟨rfl,JO.one ho (aA _)⟩
def JP(a b:ByteArray):Bool:=a.data.toList.map Cx==b.data.toList.map Cx
theorem vR(a b:ByteArray) (ha:a.size<=1000000) (hb:b.size<=1000000) (w:World):H_ 91 #[T_ a,T_ b] w fun e w'=>e=.returned (R_ (JP a b))/\ae w w':=by
 go_enter func91,ntmps91
 go_wp2_with fail
 refine(gV a ha w).mono ?_;rintro e w1 ⟨rfl,n1⟩;go_wp2_with fail
 refine(gV b hb w1).mono ?_;rintro e w2 ⟨rfl,n2⟩;go_wp2;go_ret;refine⟨?_,n1.trans n2⟩
 show Ending.returned (Value.bool ((zj a).toList==(zj b).toList))=_
 rw [CY,CY];rfl
section
open Go.RowKit Go.Lib Go.Sort
structure b_(w:World):Prop where
 sp:Lib.TabIs prog w "strings.asciiSpace" .u8 Lib.asciiSpaceTab
 pow:Lib.TabIs prog w "internal/strconv.uint64pow10" .u64 Lib.pow10Tab
 ml:∃m,L_ w 2 0 (I_ m)
theorem Dq{P:Program}{n:String}{k:IntKind}{zs:List Int}{w w':World}(h:Lib.TabIs P w n k zs) (hn:ae w w'):Lib.TabIs P w' n k zs:=by
 unfold Lib.TabIs World.var? at h⊢
 cases hg:P.globalNamed n with
 |none=>rw [hg]at h;cases h
 |some g=>
  rw [hg]at h;simp only [Option.bind_some]at h⊢
  have bJ:g<w.heap.size:=by
   rcases GA g w.heap.size with h1|h1
   ·exact h1
   ·rw [ab2 h1]at h;cases h
  rw [hn.block g bJ id];exact h
theorem b_.new {w w':World}(h:b_ w) (hn:ae w w'):b_ w':=
 ⟨Dq h.sp hn,Dq h.pow hn,by obtain⟨m,hm⟩:=h.ml;exact⟨m,Fr.cell hn hm id⟩⟩
theorem ae.ac2 (w:World) (os:Array Obj):ae w (grow w os):=
 ⟨rfl,rfl,rfl,by simp [grow],fun k hk _=>by simp [grow,TR hk]⟩
def jZ(n:Nat):ByteArray:=⟨(Lib.decDigits n).toArray⟩
theorem O9(u:Nat) (h64:u<18446744073709551616) (w:World) (ht:b_ w):H_ 184 #[.int .u64 u,I_ 10] w fun e w'=>e=.returned (T_ (jZ u))/\ae w w':=by
 by_cases hs:u<100
 ·go_enter func184,ntmps184
  go_wp2_with (go_at_call 230;refine(Tryz.internal_strconv_small u hs _).mono ?_;rintro e w' ⟨rfl,rfl⟩)
  go_ret;exact⟨rfl,ae.refl _⟩
 ·have GX:1<=u:=O_
  have oQ:=ht.pow;have al_:Lib.nDigits u<=20:=by have:=Lib.numDigits_eq u GX h64;split at this<;>omega
  have T3:prog.arrayLen 354=24:=by simp [Program.arrayLen,underlying354]
  have apE:∀W,(Instr.sliceAt 354 (Q_ w) none (some (I_ (Lib.nDigits u:Int))) none).run prog W=.ok (X_ (M_ w) (Lib.nDigits u) 24) W:=fun W=>by
   rw [run_sliceAt_array_h W 354 (C_ w 0) (by simp [Program.arrayLen,Program.elem,underlying354]) .i64 (Lib.nDigits u:Int) O_ (by rw [T3];omega)]
   go_simp
  have hH0:Holds (fun(b:UInt8)=>Value.int .u8 (b.toNat:Int)) (W_ w Lib.zeros24 354) w.heap.size 0 (Array.replicate (Lib.nDigits u) (0:UInt8)):=fun j hj=>by
   have rG:j<Lib.nDigits u:=by simpa using hj
   refine⟨?_,World.frozen?_alloc_new _ _ _ _⟩;rw [GS,Lib.zeros24_at _ O_,oU _ j hj];simp
  have ac4:=Tryz.internal_strconv_formatBase10 w.heap.size 0 24 u (Array.replicate (Lib.nDigits u) 0) (W_ w Lib.zeros24 354) hH0 (by rw [YA];exact Lib.lt_pow_nDigits u) h64 (by rw [YA];omega);rw [YA]at ac4;have HH0:=ac5 hH0;clear hH0 T3
  go_enter func184,ntmps184
  go_wp2_with (go_at_call 231;refine(Tryz.internal_strconv_numDigits u GX h64 _ (Lib.tabIs_alloc oQ _)).mono ?_;rintro e w' ⟨rfl,rfl⟩)
  go_at_call 232
  refine ac4.mono ?_;rintro e w' ⟨rfl,k,v',dk,rfl,hF⟩
  have kY:(convert 23 9 (X_ (M_ w) (Lib.nDigits u) 24)).run prog ((putRow (fun(b:UInt8)=>Value.int .u8 (b.toNat:Int)) (W_ w Lib.zeros24 354) w.heap.size 0 dk).drewN k)=.ok (T_ ⟨(Lib.decDigits u).toArray⟩) ((putRow (fun(b:UInt8)=>Value.int .u8 (b.toNat:Int)) (W_ w Lib.zeros24 354) w.heap.size 0 dk).drewN k):=by
   have h:=l7 (P:=prog) ((putRow (fun(b:UInt8)=>Value.int .u8 (b.toNat:Int)) (W_ w Lib.zeros24 354) w.heap.size 0 dk).drewN k) 23 9 5 (C_ w 0) 24 (Lib.decDigits u) underlying23 underlying5 underlying9 (fun j hj=>by
    rw [Lib.row_is_numeral hF j hj,Lib.add_plain,World.cell?_drewN];exact cell?_putRow (fun(b:UInt8)=>Value.int .u8 (b.toNat:Int)) _ w.heap.size 0 _ dk HH0.out (by rw [hF.size,YA]) j (by rw [hF.size];rw [ab]at hj;exact hj))
   rw [ab]at h;exact h
  go_wp2;go_ret;refine⟨rfl,?_⟩;rw [alloc_eq_grow];obtain⟨os',_,e⟩:=putRow_grow_new (fun(b:UInt8)=>Value.int .u8 (b.toNat:Int)) w #[.cells Lib.zeros24 354] w.heap.size 0 dk (aA _);rw [e];exact(ae.ac2 w os').drewN k
theorem Lu(u:Nat) (h64:u<18446744073709551616) (w:World) (ht:b_ w):H_ 129 #[.int .u64 u,I_ 10] w fun e w'=>e=.returned (T_ (jZ u))/\ae w w':=by
 go_enter func129,ntmps129
 go_wp2_with (go_at_call 184;refine(O9 u h64 _ ht).mono ?_;rintro e w1 ⟨rfl,n1⟩)
 go_ret;exact⟨rfl,n1⟩
theorem ed(u:Nat) (h32:u<4294967296) (w:World) (ht:b_ w):H_ 94 #[U_ u] w fun e w'=>e=.returned (T_ (jZ u))/\ae w w':=by
 go_enter func94,ntmps94
 go_wp2_with (go_at_call 129;refine(Lu u O_ _ ht).mono ?_;rintro e w1 ⟨rfl,n1⟩)
 go_ret;exact⟨rfl,n1⟩
theorem fF(u:Nat) (h32:u<4294967296):(jZ u).size<=20:=by
 have h:(jZ u).size=(Lib.decDigits u).length:=rfl;rw [h,ab];by_cases hu:1<=u
 ·have:=Lib.numDigits_eq u hu O_
  split at this<;>omega
 ·obtain rfl:u=0:=O_
  decide +kernel
end
def AK:ByteArray:=⟨#[78,79,79,80,32,76,79,71,79,85,84,32,67,76,79,83,69,32,69,88,80,85,78,71,69,32,83,69,76,69,67,84,32,65,80,80,69,78,68,32,70,69,84,67,72,32,83,84,79,82,69]⟩
def iG:List (List UInt8):=[[78,79,79,80],[76,79,71,79,85,84],[67,76,79,83,69],[69,88,80,85,78,71,69],[83,69,76,69,67,84],[65,80,80,69,78,68],[70,69,84,67,72],[83,84,79,82,69]]
theorem AL:Lib.fields AK.data.toList=iG:=by decide +kernel
theorem Dr:∀b∈AK.data.toList,b.toNat<128:=by decide +kernel
theorem ma(w:World) (ht:b_ w):H_ 86 #[T_ AK] w fun e w'=>e=.returned (X_ (M_ w) 8 8)/\w'=w.alloc (G_ (iG.map fun l=>Value.string ⟨l.toArray⟩).toArray 9):=by
 have h:=Tryz.strings_Fields AK w D_ (fun j b hb=>Dr b (YX hb)) ht.sp;rw [AL]at h;exact h
def Ds(k:Nat):ByteArray:=⟨((iG.getD (k-1) []).toArray)⟩
theorem Dt(k:Nat) (h1:1<=k) (h8:k<=8) (w:World) (ht:b_ w):H_ 63 #[I_ k] w fun e w'=>e=.returned (T_ (Ds k))/\ae w w':=by
 have hf:=ma w ht
 have hc:L_ (W_ w (iG.map fun l=>Value.string ⟨l.toArray⟩).toArray 9) w (k-1) (T_ (Ds k)):=by
  rw [GS]
  have hk:∀k:Fin 9,1<=k.val->(iG.map fun l=>Value.string ⟨l.toArray⟩).toArray[k.val-1]? =some (T_ (Ds k.val)):=by
   intro⟨k,hk⟩ h1;have h2:1<=k:=h1;have:k=1\/k=2\/k=3\/k=4\/k=5\/k=6\/k=7\/k=8:=O_
   rcases this with rfl|rfl|rfl|rfl|rfl|rfl|rfl|rfl<;>rfl
  exact hk ⟨k,O_⟩ h1
 obtain⟨j,rfl⟩:∃j,k=j+1:=⟨k-1,O_⟩;rw [aaH]at hc
 go_enter func63,ntmps63
 go_wp2_with fail
 refine hf.mono ?_;rintro e w1 ⟨rfl,rfl⟩;have hn:ae w (W_ w (iG.map fun l=>Value.string ⟨l.toArray⟩).toArray 9):=(ae.refl w).alloc _;generalize(w.alloc (G_ (iG.map fun l=>Value.string ⟨l.toArray⟩).toArray 9))=w1 at*;clear hf;go_wp2;go_ret;exact⟨rfl,hn⟩
def kZ:List ByteArray:=iG.map fun l=>⟨l.toArray⟩
def qn(s:ByteArray):Int:=Lib.idxOfS kZ (zj s)
theorem jq(x:ByteArray):∀(zs:List ByteArray) (i:Nat), -1<=Lib.idxFromS zs x i/\Lib.idxFromS zs x i<(i:Int)+zs.length
 |[],i=>by simp [Lib.idxFromS];omega
 |z::zs,i=>by
  have h:=jq x zs (i+1);simp only [Lib.idxFromS,iU]
  split<;>omega
theorem Du(s:ByteArray) (hs:s.size<=1000000) (w:World) (ht:b_ w):H_ 276 #[T_ s] w fun e w'=>e=.returned (.tuple #[I_ (qn s+1),R_ (decide (0<=qn s))])/\ae w w':=by
 have hf:=ma w ht;obtain⟨i,hi⟩:∃i,i=qn s:=⟨_,rfl⟩;rw [<-hi];have HI:=ac5 hi;clear hi;have hz:kZ.length=8:=rfl
 have hc:∀j,j<kZ.length->L_ (W_ w (iG.map fun l=>Value.string ⟨l.toArray⟩).toArray 9) w (0+j) (T_ (kZ.getD j ByteArray.empty)):=by
  intro j hj;rw [hz]at hj;rw [aH,GS];have:j=0\/j=1\/j=2\/j=3\/j=4\/j=5\/j=6\/j=7:=O_
  rcases this with rfl|rfl|rfl|rfl|rfl|rfl|rfl|rfl<;>rfl
 have hn:ae w (W_ w (iG.map fun l=>Value.string ⟨l.toArray⟩).toArray 9):=(ae.refl w).alloc _;have HC:=ac5 hc;clear hc
 go_enter func276,ntmps276
 go_wp2_with fail
 refine hf.mono ?_;rintro e w1 ⟨rfl,rfl⟩;generalize(w.alloc (G_ (iG.map fun l=>Value.string ⟨l.toArray⟩).toArray 9))=w1 at*;clear hf;go_wp2_with fail
 refine(gV s hs w1).mono ?_;rintro e w2 ⟨rfl,n2⟩;go_wp2_with fail
 refine(Tryz.slices_Index_string w.heap.size 0 8 8 kZ (zj s) w2 (by rw [hz];exact aA _) D_ (fun j hj=>Fr.cell n2 (HC.out j hj) id)).mono ?_;rintro e w3 ⟨rfl,rfl⟩;have hk:Lib.idxOfS (kZ.take 8) (zj s)=i:=HI.out.symm
 have hb: -1<=i/\i<8:=by
  rw [HI.out];have h:=jq (zj s) kZ 0;rw [hz]at h;unfold qn Lib.idxOfS;omega
 rw [hk];clear hk HI;go_wp2;go_ret2;exact⟨rfl,hn.trans n2⟩
def Pa:Value:=.agg #[E_,I_ 0,E_,Z_,I_ 0,I_ 0,R_ false,B_ 0,Z_]
theorem GY(w:World):H_ 87 #[Z_,Z_] w fun e w'=>e=.returned (R_ true)/\w=w':=by
 go_enter func87,ntmps87
 go_wp2_with fail
 refine jD 1 ?_;rw [O0];go_wp2;go_ret;exact⟨rfl,rfl⟩
theorem Lv(w:World):H_ 64 #[Pa,Pa] w fun e w'=>e=.returned (R_ true)/\ae w w':=by
 have kY:=fun w=>Wy (P:=prog) w 23 9 5 0 underlying23 underlying5 underlying9;unfold Pa
 go_enter func64,ntmps64
 go_wp2_with (go_at_call 87;refine(GY _).mono ?_;rintro e w1 ⟨rfl,rfl⟩)
 go_ret;exact⟨rfl,((ae.refl _).alloc _).alloc _⟩
def Lw(t:ByteArray) (k:Int) (m:ByteArray) (fl:Int) (d:Value):Value:=.agg #[T_ t,I_ k,T_ m,Z_,I_ 0,I_ 0,R_ false,B_ fl,d]
def AM:ByteArray:=⟨#[73,78,66,79,88]⟩
theorem GZ(t:ByteArray) (ht:oO t=true) (e_:t.size<=1000000) (w:World) (hT:b_ w):H_ 38 #[Lw t 1 ⟨#[]⟩ 0 Z_] w fun e w'=>e=.returned (R_ true)/\ae w w':=by
 have iK:=kU t e_;rw [ht]at iK;have HT:=ac5 hT;have b0:af (W_ w #[T_ t,I_ 1,E_,Z_,I_ 0,I_ 0,R_ false,B_ 0,Z_] 47) w 47 #[T_ t,I_ 1,E_,Z_,I_ 0,I_ 0,R_ false,B_ 0,Z_]:=af.new _ _ _;have n0:ae w (W_ w #[T_ t,I_ 1,E_,Z_,I_ 0,I_ 0,R_ false,B_ 0,Z_] 47):=(ae.refl w).alloc _;clear hT;unfold Lw
 go_enter func38,ntmps38
 go_wp2_with fail
 refine(iK _).mono ?_;rintro e w1 ⟨rfl,n1⟩;have b1:=n1.ai b0;have c1:=b1.k1;go_wp2_with fail
 refine(Dt 1 D_ D_ w1 (HT.out.new (n0.trans n1))).mono ?_;rintro e w2 ⟨rfl,n2⟩;have b2:=n2.ai b1;have Lo:=(n0.trans n1).trans n2;have d0:=b2.k0;have d1:=b2.k1;have d2:=b2.k2;have d3:=b2.k3;have d4:=b2.k4;have d5:=b2.k5;have d6:=b2.k6;have d7:=b2.k7;have d8:=b2.k8;have f0:=b2.frozen 0;have f1:=b2.frozen 1;have hvs:(Ds 1).toList=[78,79,79,80]:=by rw [CY];rfl
 clear c1 n1 n2 b1;go_wp2_with fail
 refine(Lv _).mono ?_;rintro e w3 ⟨rfl,n3⟩;go_wp2;go_ret;exact⟨rfl,(ae.one Lo (((One.refl w.heap.size w2).set 0 _).set 1 _) (aA _)).trans n3⟩
structure fG(w:World):Prop where
 t:b_ w
 s:∃ev,L_ w 6 0 ev/\(ev=.nilIface\/∃te pe,ev=.iface te pe)
 r:∃ev,L_ w 7 0 ev/\(ev=.nilIface\/∃te pe,ev=.iface te pe)
theorem fG.new {w w':World}(h:fG w) (hn:ae w w'):fG w':=
 ⟨h.t.new hn,by obtain⟨ev,hv,h2⟩:=h.s;exact⟨ev,Fr.cell hn hv id,h2⟩,by obtain⟨ev,hv,h2⟩:=h.r;exact⟨ev,Fr.cell hn hv id,h2⟩⟩
theorem vZ(w:World) (e:TypeId) (s:ByteArray):ae w (Lib.bytesWorld w e s):=
 ae.eF (Go.Joins.below_bytesWorld _ w e s (aA _))
theorem LF(s:ByteArray) (hs:s.size<=1000000) (w:World) (hT:fG w):
 H_ 271 #[T_ s,I_ 10,I_ 32] w fun e w'=>ae w w'/\∃(u:Nat) (ev:Value),e=.returned (.tuple #[.int .u64 u,ev])/\u<4294967296/\(ev=.nilIface\/∃te pe,ev=.iface te pe):=by
 cases h:Lib.parseUintB 32 s.data.toList
 case ok u=>
  refine(Tryz.strconv_ParseUint_10_at32_ok s O_ u h w).mono ?_;rintro e w' ⟨rfl,hw⟩;have hu:=Lib.parseUintB_le h;refine⟨?_,u,_,rfl,O_,.inl rfl⟩;rcases hw with rfl|rfl
  ·exact ae.refl _
  ·exact vZ _ _ _
 case range=>
  obtain⟨ev,hv,h2⟩:=hT.r;refine(Tryz.strconv_ParseUint_10_at32_range s O_ h ev w hv h2).mono ?_;rintro e w' ⟨N,rfl,_,_,hb⟩;exact⟨ae.eF hb,4294967295,_,rfl,O_,.inr ⟨_,_,rfl⟩⟩
 obtain⟨ev,hv,h2⟩:=hT.s;refine(Any.strconv_ParseUint_10_at32_syntax Tryz.vY s O_ h ev w hv h2).mono ?_;rintro e w' ⟨N,rfl,_,_,hb⟩;exact⟨ae.eF hb,0,_,rfl,O_,.inr ⟨_,_,rfl⟩⟩
theorem oY(s:ByteArray) (hs:s.size<=1000000) (w:World) (hT:fG w):
 H_ 204 #[T_ s] w fun e w'=>ae w w'/\∃(u:Nat) (q:Bool),e=.returned (.tuple #[U_ u,R_ q])/\u<4294967296:=by
 have HP:=ac5 (LF s hs w hT);have HT:=ac5 hT;clear hT
 go_enter func204,ntmps204
 go_wp2_with fail
 refine HP.out.mono ?_;rintro e w1 ⟨n1,u,ev,rfl,hu,WE⟩;have hw:IntKind.u32.wrap (u:Int)=u:=IntWalk.u32_in _ O_;rcases WE with rfl|⟨te,pe,rfl⟩
 ·have HD:=ac5 (ed u hu w1 (HT.out.t.new n1));go_wp2_with (first|go_region|fail)
  refine HD.out.mono ?_;rintro e w2 ⟨rfl,n2⟩;go_wp2
  all_goals
   go_ret2
   first
   |exact⟨n1.trans n2,u,true,rfl,hu⟩
   |exact⟨n1.trans n2,0,false,rfl,O_⟩
 ·go_wp2;go_ret2;exact⟨n1,0,false,rfl,O_⟩
theorem tn(sep:ByteArray):∀(k:Nat) (s:ByteArray),∀x∈Lib.splitB sep 0 k s,x.size<=s.size
 |0,s,x,hx=>by
  rw [Lib.splitB_zero]at hx;rw [List.mem_singleton.1 hx];exact aA _
 |k+1,s,x,hx=>by
  rcases Lib.indexB_cases s sep with jd|⟨i,jd,_⟩
  ·rw [Lib.splitB_miss _ _ _ _ jd]at hx;rw [List.mem_singleton.1 hx];exact aA _
  ·rw [Lib.splitB_hit _ _ _ _ i jd]at hx;rcases List.mem_cons.1 hx with rfl|hx
   ·rw [adb];omega
   ·have h1:=tn sep k _ x hx;rw [adb]at h1;omega
def aiy(w w':World) (s:ByteArray) (e:Ending):Prop:=
 ∃xs:List ByteArray,e=.returned (X_ (M_ w) xs.length xs.length)/\w'=w.alloc (G_ (xs.map Value.string).toArray 9)/\(∀x∈xs,x.size<=s.size)/\xs.length<=s.size+1
theorem v_(s sep:ByteArray) (hs:s.size<=1000000) (h1:1<=sep.size) (w:World) (hT:b_ w):H_ 445 #[T_ s,T_ sep] w fun e w'=>aiy w w' s e:=by
 obtain⟨m,hm⟩:=hT.ml;refine(Tryz.strings_Split s sep m w O_ hm h1).mono ?_;rintro e w' ⟨rfl,rfl⟩;have hl:=Lib.splitB_all sep h1 0 _ s rfl;have hc:=Lib.countB_le sep h1 _ s (aA _);exact⟨Lib.splitB sep 0 (Lib.countB s sep) s,by rw [hl],rfl,tn sep _ s,O_⟩
theorem Ps(s sep:ByteArray) (hs:s.size<=1000000) (w:World) (hT:b_ w):H_ 446 #[T_ s,T_ sep] w fun e w'=>∃(a b:ByteArray) (q:Bool),e=.returned (.tuple #[T_ a,T_ b,R_ q])/\a.size<=s.size/\b.size<=s.size/\ae w w':=by
 obtain⟨m,hm⟩:=hT.ml;refine(Tryz.strings_Cut s sep m w O_ hm).mono ?_;rintro e w' ⟨rfl,n,rfl⟩;have LJ:=(Ou s).symm;refine⟨_,_,_,rfl,?_,?_,Fr.drewN (ae.refl w) n⟩
 ·show(Lib.cut s.data.toList sep.data.toList).1.length<=s.size
  unfold Lib.cut
  split
  ·simp only;rw [jo];omega
  ·simp only;omega
 ·show(Lib.cut s.data.toList sep.data.toList).2.1.length<=s.size
  unfold Lib.cut
  split
  ·simp only;rw [gj];omega
  ·simp
theorem zr(w:World) (xs:List ByteArray) {k:Nat}{x:ByteArray}(hx:xs[k]? =some x) {w':World}(hn:ae (W_ w (xs.map Value.string).toArray 9) w'):L_ w' w k (T_ x):=by
 refine Fr.cell hn ?_ id;rw [GS];simp [hx]
section
open Go.RowKit Go.Maps Go.WideMaps
theorem Ha:(prog.info? 45).map (fun i=>(i.zero,i.size,i.bytes))=some (some (.int .u8 0),1,1):=K_
def qw(x:Int):Prop:=0<=x/\x<=31
theorem Ui{f:Int}(h0:0<=f) (h1:f<=255) {i:Int}(hi:qw i):qw (bits .and .u8 f i):=by
 rw [JE h0 h1 hi.1 (by have:=hi.2;omega)];unfold Gs;have:= @Nat.and_le_right f.toNat i.toNat;have:=hi.1;have:=hi.2;exact⟨O_,O_⟩
theorem Pt{a b:Int}(ha:qw a) (hb:qw b):qw (bits .or .u8 a b):=by
 have:=ha.1;have:=ha.2;have:=hb.1;have:=hb.2;rw [Om O_ O_ O_ O_];exact Oo O_ O_
theorem zu(f:Int) (h0:0<=f) (h1:f<=255) (w:World):
 H_ 305 #[B_ f] w fun e w'=>∃v l,e=.returned v/\Own (ak .u8) 45 w.heap.size w' v l/\l.length<=5/\(∀x∈l,qw x)/\ae w w':=by
 obtain⟨i0,hi,dw,cE,dy⟩:=wF Ha
 go_enter func305,ntmps305
 go_wp2
 go_loopw [3,6] (fun ov iv wr=>∃(k:Nat) (l:List Int),k<=5/\l.length<=k/\iv=I_ k/\Hid (Own (ak .u8) 45 w.heap.size wr ov l/\(∀x∈l,qw x)/\ae w wr)) (fun _ iv _=>5-(intOf iv).toNat)
 case atStart=>exact⟨0,[],Gv _,aA _,rfl,Own.nil _ _ _ _,S_,ae.refl _⟩
 case round=>
  obtain⟨k,l,hk,hl,rfl,HR⟩:=hrel;have ho:=HR.out.1;have hn:=HR.out.2.2;obtain⟨oA,oC,rfl,_⟩:=ho.form;have eE:=hn.size;by_cases gX:k<5
  ·obtain⟨b,hb,NU⟩:∃b:Int,qw b/\((k=0/\b=1)\/(k=1/\b=2)\/(k=2/\b=4)\/(k=3/\b=8)\/(k=4/\b=16)):=by
    have:k=0\/k=1\/k=2\/k=3\/k=4:=O_
    rcases this with rfl|rfl|rfl|rfl|rfl
    ·exact⟨1,⟨D_,D_⟩,S_⟩
    ·exact⟨2,⟨D_,D_⟩,S_⟩
    ·exact⟨4,⟨D_,D_⟩,S_⟩
    ·exact⟨8,⟨D_,D_⟩,S_⟩
    ·exact⟨16,⟨D_,D_⟩,S_⟩
   obtain⟨y,hy⟩:∃y,bits .and .u8 f b=y:=⟨_,rfl⟩;have hx:=Ui h0 h1 hb;rw [hy]at hx;have HX:=ac5 (And.intro ho hx);have HN:=ac5 hn;clear ho hx hb hn;rcases NU with⟨eA,rfl⟩|⟨eA,rfl⟩|⟨eA,rfl⟩|⟨eA,rfl⟩|⟨eA,rfl⟩
   all_goals
    by_cases hz:y=0
    ·have d:(y !=0)=false:=by rw [hz];rfl
     clear hz;go_wp2;go_roundw
     case rel=>exact⟨k+1,l,O_,O_,by rw [eA];go_num,HR⟩
     case measure=>rw [eA];simp [intOf]
    ·have d:=bne_iff_ne.2 hz;clear hz;go_wp2_with (at_builtin;refine bC (E:=ak .u8) rfl _ _ _ rfl underlying414 hi dw cE dy rfl (HX.out.1.alloc _) rfl y wr.heap.size (af.new _ _ _) 1 rfl (by unfold maxLen;omega) O_ (by rw [gz];omega) ?_;intro v3 w3 iL gP o_)
     go_roundw
     case rel=>exact⟨k+1,_,O_,by rw [dr];simp;omega,by rw [eA];go_num,ac5 ⟨iL,fun r hr=>(List.mem_append.1 hr).elim (HR.out.2.1 r) (fun hr=>by rw [List.mem_singleton.1 hr];exact HX.out.2),ae.append (HN.out.alloc _) (HX.out.1.alloc _) gP⟩⟩
     case measure=>rw [eA];simp [intOf]
  ·obtain rfl:k=5:=O_
   go_wp2;go_ret;exact⟨_,l,rfl,HR.out.1,hl,HR.out.2.1,HR.out.2.2⟩
def uM:ByteArray:=⟨#[92,65,110,115,119,101,114,101,100,32,92,70,108,97,103,103,101,100,32,92,68,101,108,101,116,101,100,32,92,83,101,101,110,32,92,68,114,97,102,116]⟩
def qy:List (List UInt8):=[[92,65,110,115,119,101,114,101,100],[92,70,108,97,103,103,101,100],[92,68,101,108,101,116,101,100],[92,83,101,101,110],[92,68,114,97,102,116]]
theorem yl:Lib.fields uM.data.toList=qy:=by decide +kernel
theorem AW:∀b∈uM.data.toList,b.toNat<128:=by decide +kernel
theorem DE(w:World) (ht:b_ w):H_ 86 #[T_ uM] w fun e w'=>e=.returned (X_ (M_ w) 5 5)/\w'=w.alloc (G_ (qy.map fun l=>Value.string ⟨l.toArray⟩).toArray 9):=by
 have h:=Tryz.strings_Fields uM w D_ (fun j b hb=>AW b (YX hb)) ht.sp;rw [yl]at h;exact h
theorem zv(f:Int) (w:World) (ht:b_ w):H_ 306 #[B_ f] w fun e w'=>∃s:ByteArray,e=.returned (T_ s)/\s.size<=9/\ae w w':=by
 have HF:=ac5 (DE w ht);have n0:ae w (W_ w (qy.map fun l=>Value.string ⟨l.toArray⟩).toArray 9):=(ae.refl w).alloc _
 have hc:∀k,k<5->∃s:ByteArray,s.size<=9/\L_ (W_ w (qy.map fun l=>Value.string ⟨l.toArray⟩).toArray 9) w k (T_ s):=fun k hk=>by
  rw [GS];have:k=0\/k=1\/k=2\/k=3\/k=4:=O_
  rcases this with rfl|rfl|rfl|rfl|rfl<;>exact⟨_,D_,rfl⟩
 have HC:=ac5 hc;clear hc
 go_enter func306,ntmps306
 go_wp2_with fail
 refine HF.out.mono ?_;rintro e w1 ⟨rfl,rfl⟩;generalize(w.alloc (G_ (qy.map fun l=>Value.string ⟨l.toArray⟩).toArray 9))=w1 at*;go_wp2_with fail
 go_loopw [7] (fun iv wr=>∃k:Nat,k<=5/\iv=I_ k/\wr=w1) (fun iv _=>5-(intOf iv).toNat)
 case atStart=>exact⟨0,Gv _,rfl,rfl⟩
 case round=>
  obtain⟨k,hk,rfl,rfl⟩:=hrel;by_cases gX:k<5
  ·obtain⟨s,hs,c0⟩:=HC.out k gX;have:k=0\/k=1\/k=2\/k=3\/k=4:=O_
   rcases this with eA|eA|eA|eA|eA
   all_goals
    rw [eA]at c0;go_wp2
    ·go_ret
     first|exact⟨s,rfl,hs,n0⟩|exact⟨hs,n0⟩
    ·go_roundw
     case rel=>
      exact⟨k+1,O_,by rw [eA];go_num,by first|rfl|trivial⟩
     case measure=>rw [eA];simp [intOf]
  ·obtain rfl:k=5:=O_
   go_wp2;go_ret;exact⟨⟨#[]⟩,rfl,Gv _,n0⟩
def Pv:el prog 9 ByteArray where
 law:=string_keyed underlying9
 kv:=Value.string
 kl:=fun s=>Lit.string s.data.toList
 ok:=fun s=>s.size<=maxLen
 key:=fun _ h=>keyOf_string_mk underlying9 h
 inj:=fun _ _ h=>by injection h
def zx(w:World) (b:Nat):Prop:=∃l,HasMap Pv w b l/\l.length<=5/\∀p∈l,∃x:Int,p.2=B_ x/\qw x
theorem zx.fr {S:Nat->Prop}{w w':World}{b:Nat}(h:zx w b) (hf:Fr S w w') (hb:¬S b):zx w' b:=by
 obtain⟨l,h1,h2⟩:=h;exact⟨l,h1.fr hf hb,h2⟩
theorem wa(s:ByteArray):(zj s).size=s.size:=by
 show((s.data.toList.map Cx).toArray).size=s.size
 rw [PA,D9];exact(Ou s).symm
theorem Pw(s:ByteArray) (p:List UInt8):(⟨(Lib.trimPrefix s.data.toList p).toArray⟩:ByteArray).size<=s.size:=by
 rw [Ou s]
 show(Lib.trimPrefix s.data.toList p).length<=_
 unfold Lib.trimPrefix
 split
 ·rw [gj];omega
 ·exact aA _
theorem Px(s:ByteArray) (p:List UInt8):(⟨(Lib.trimSuffix s.data.toList p).toArray⟩:ByteArray).size<=s.size:=by
 rw [Ou s]
 show(Lib.trimSuffix s.data.toList p).length<=_
 unfold Lib.trimSuffix
 split
 ·rw [jo];omega
 ·exact aA _
theorem YH(w:World):(zeroValue 45).run prog w=.ok (B_ 0) w:=K_
theorem zx.look {w:World}{b:Nat}(h:zx w b) (s:ByteArray) (hs:s.size<=1000000):∃(x:Int) (q:Bool),qw x/\(Instr.lookup 525 (.map (some b)) (T_ s) true).run prog w=.ok (.tuple #[B_ x,R_ q]) w:=by
 obtain⟨l,h1,_,h2⟩:=h;have hr:=h1.bD (t:=525) (e:=45) underlying525 (YH w) (k:=s) (by show s.size<=maxLen;unfold maxLen;omega)
 cases hg:get l s with
 |none=>
  rw [hg]at hr;exact⟨0,false,⟨D_,D_⟩,hr⟩
 |some u=>
  rw [hg]at hr;obtain⟨x,rfl,hx⟩:=h2 _ (kP hg);exact⟨x,true,hx,hr⟩
theorem DF(w:World) (hT:b_ w):H_ 450 #[] w fun e w'=>e=.returned (.map (some w.heap.size))/\zx w' w.heap.size/\ae w w':=by
 have uH:= @run_makeMap prog;have vD:=HasMap.made Pv w;have n0:ae w (w.alloc (.map #[] 0)):=(ae.refl w).alloc _;have HE:=ac5 (zu 31 D_ D_ (w.alloc (.map #[] 0)));have HT:=ac5 hT;clear hT
 go_enter func450,ntmps450
 go_wp2_with fail
 refine HE.out.mono ?_;rintro e w1 ⟨v,l,rfl,ho,hl,hx,n1⟩;obtain⟨A,C,rfl,_⟩:=ho.form;have h1:=vD.fr n1 id;have HO:=ac5 (And.intro ho (And.intro hx (n0.trans n1)));clear vD ho hx n0;go_wp2_with fail
 go_loopw [7] (fun iv wr=>∃(k:Nat) (m:List (ByteArray×Value)),k<=l.length/\m.length<=k/\iv=I_ k/\Hid (HasMap Pv wr w.heap.size m/\(∀p∈m,∃x:Int,p.2=B_ x/\qw x)/\One w.heap.size w1 wr)) (fun iv _=>l.length-(intOf iv).toNat)
 case atStart=>exact⟨0,[],Gv _,aA _,rfl,h1,S_,One.refl _ _⟩
 case round=>
  obtain⟨k,m,hk,hm,rfl,HR⟩:=hrel;have Ge:=ae.one HO.out.2.2 HR.out.2.2 (aA _);by_cases dL:k<l.length
  ·obtain⟨x,hx⟩:∃x,l[k]? =some x:=⟨_,DW dL⟩;have Gf:=HO.out.2.1 x (YX hx);obtain⟨g,rfl⟩:=HO.out.1.some_ O_
   have c0:L_ wr g (0+k) (B_ x):=Fr.cell HR.out.2.2 (by have h:=HO.out.1.dG hx (j:=0) (u:=B_ x) rfl;have e1:(ak .u8).sz=1:=rfl;rw [e1,RZ,Au]at h;rw [aH];exact h) (by
    intro e;obtain⟨cs,hc⟩:=HO.out.1.heap rfl;exact af.aO hc h1 e)
   rw [aH]at c0;have HN:=ac5 (zv x wr (HT.out.new Ge));have HX:=ac5 (And.intro hx Gf);clear hx Gf Ge;go_wp2_with fail
   refine HN.out.mono ?_;rintro e w2 ⟨s,rfl,hs,n2⟩;go_wp2_with fail
   refine(gV s O_ w2).mono ?_;rintro e w3 ⟨rfl,n3⟩;have JK:=(HR.out.1.fr n2 id).fr n3 id;have n23:=n2.trans n3;go_wp2_with (refine oK rfl _ _ _ 525 45 rfl underlying525 JK (by unfold maxLen;omega) (zj s) (by show(zj s).size<=maxLen;rw [wa];unfold maxLen;omega) (B_ x) rfl rfl rfl ?_;intro w4 Py tj)
   go_roundw
   case rel=>exact⟨k+1,_,O_,aj hm,by go_num,ac5 ⟨Py,fun p hp=>by
    rcases List.mem_cons.1 hp with rfl|hp
    ·exact⟨x,rfl,HX.out.2⟩
    ·exact HR.out.2.1 p (List.mem_filter.1 hp).1,(HR.out.2.2.trans (ae.to n23)).trans tj⟩⟩
   case measure=>simp [intOf];omega
  ·obtain rfl:k=l.length:=O_
   go_wp2;go_ret;exact⟨rfl,⟨m,HR.out.1,O_,HR.out.2.1⟩,Ge⟩
theorem Hb(s:ByteArray) (hs:s.size<=1000000) (w:World) (hT:b_ w):H_ 421 #[T_ s] w fun e w'=>∃(f:Int) (q:Bool),e=.returned (.tuple #[B_ f,R_ q])/\qw f/\ae w w':=by
 have f0:qw 0:=⟨D_,D_⟩;have H1:=Tryz.strings_CutPrefix s ⟨#[40]⟩;generalize oZ:Lib.hasPrefix s.data.toList (⟨#[40]⟩:ByteArray).data.toList=q1 at H1;obtain⟨s1,fB⟩:∃s1:ByteArray,s1=⟨(Lib.trimPrefix s.data.toList (⟨#[40]⟩:ByteArray).data.toList).toArray⟩:=⟨_,rfl⟩;have cE:=fB▸Pw s _;rw [<-fB]at H1;have H2:=fun w=>Tryz.strings_CutSuffix s1 ⟨#[41]⟩ w O_;generalize pa:Lib.hasSuffix s1.data.toList (⟨#[41]⟩:ByteArray).data.toList=q2 at H2;obtain⟨s2,fW⟩:∃s2:ByteArray,s2=⟨(Lib.trimSuffix s1.data.toList (⟨#[41]⟩:ByteArray).data.toList).toArray⟩:=⟨_,rfl⟩;have dy:=fW▸Px s1 _;rw [<-fW]at H2;have HB:=ac5 (DF w hT);have HT:=ac5 hT;clear hT oZ pa fB fW
 go_enter func421,ntmps421
 go_wp2_with fail
 refine(H1 w).mono ?_;rintro e w1 ⟨rfl,rfl⟩;go_wp2_with fail
 refine(H2 w1).mono ?_;rintro e w2 ⟨rfl,rfl⟩
 cases q1
 ·go_wp2;go_ret2;exact⟨0,false,rfl,f0,ae.refl _⟩
 cases q2
 ·go_wp2;go_ret2;exact⟨0,false,rfl,f0,ae.refl _⟩
 rcases he:s2.toList.isEmpty with _|_
 rotate_left
 ·go_wp2;go_ret2;exact⟨0,true,rfl,f0,ae.refl _⟩
 go_wp2_with fail
 refine HB.out.mono ?_;rintro e w3 ⟨rfl,JK,n3⟩;have HM:=ac5 JK;clear JK;go_wp2_with fail
 refine(v_ s2 ⟨#[32]⟩ O_ D_ w3 (HT.out.new n3)).mono ?_;rintro e w4 ⟨xs,rfl,Gg,eE,hlen⟩;have n4:ae w3 w4:=Gg▸(ae.refl w3).alloc _;have HW:=ac5 (And.intro Gg (And.intro eE n4));have n34:=n3.trans n4;clear Gg eE n4;go_wp2_with fail
 go_loopw [7,35] (fun ov iv wr=>∃(k:Nat) (f:Int),k<=xs.length/\ov=B_ f/\iv=I_ k/\Hid (qw f/\ae w4 wr)) (fun _ iv _=>xs.length-(intOf iv).toNat)
 case atStart=>exact⟨0,0,Gv _,rfl,rfl,f0,ae.refl _⟩
 case round=>
  obtain⟨k,f,hk,rfl,rfl,HR⟩:=hrel;by_cases dL:k<xs.length
  ·obtain⟨x,hx⟩:∃x,xs[k]? =some x:=⟨_,DW dL⟩;have c0:=zr w3 xs hx (HW.out.1▸HR.out.2);have Da:x.size<=1000000:=gy (HW.out.2.1 x (YX hx)) O_;have HU:=ac5 (gV x Da wr);clear hx;go_wp2_with fail
   refine HU.out.mono ?_;rintro e w5 ⟨rfl,n5⟩;obtain⟨y,q,hy,eN⟩:=(((HM.out.fr HW.out.2.2 id).fr HR.out.2 id).fr n5 id).look (zj x) (by rw [wa];exact Da);have HY:=ac5 (Pt HR.out.1 hy);have HN:=ac5 (HR.out.2.trans n5);clear hy n5
   cases q
   ·go_wp2;go_ret2;exact⟨0,false,rfl,f0,n34.trans HN.out⟩
   ·go_wp2;go_roundw
    case rel=>exact⟨k+1,_,O_,rfl,by go_num,HY.out,HN.out⟩
    case measure=>simp [intOf];omega
  ·obtain rfl:k=xs.length:=O_
   go_wp2;go_ret2;exact⟨f,true,rfl,HR.out.1,n34.trans HR.out.2⟩
end
def Ce:ByteArray:=⟨#[70,76,65,71,83,32,85,73,68,32,82,70,67,56,50,50,46,83,73,90,69,32,66,79,68,89,46,80,69,69,75,91,93,32,66,79,68,89,91,93]⟩
def sY:List (List UInt8):=[[70,76,65,71,83],[85,73,68],[82,70,67,56,50,50,46,83,73,90,69],[66,79,68,89,46,80,69,69,75,91,93],[66,79,68,89,91,93]]
def mM:List ByteArray:=sY.map fun l=>⟨l.toArray⟩
theorem Cf:Lib.fields Ce.data.toList=sY:=by decide +kernel
theorem Fu:∀b∈Ce.data.toList,b.toNat<128:=by decide +kernel
theorem Fv(w:World) (ht:b_ w):H_ 86 #[T_ Ce] w fun e w'=>e=.returned (X_ (M_ w) 5 5)/\w'=w.alloc (G_ (sY.map fun l=>Value.string ⟨l.toArray⟩).toArray 9):=by
 have h:=Tryz.strings_Fields Ce w D_ (fun j b hb=>Fu b (YX hb)) ht.sp;rw [Cf]at h;exact h
theorem RS(s:ByteArray) (hs:s.size<=1000000) (w:World) (ht:b_ w):H_ 419 #[T_ s] w fun e w'=>∃(n:Int) (q:Bool),e=.returned (.tuple #[I_ n,R_ q])/\ae w w':=by
 have hf:=Fv w ht;have hz:mM.length=5:=rfl
 have hc:∀j,j<mM.length->L_ (W_ w (sY.map fun l=>Value.string ⟨l.toArray⟩).toArray 9) w (0+j) (T_ (mM.getD j ByteArray.empty)):=by
  intro j hj;rw [hz]at hj;rw [aH,GS];have:j=0\/j=1\/j=2\/j=3\/j=4:=O_
  rcases this with rfl|rfl|rfl|rfl|rfl<;>rfl
 have hn:ae w (W_ w (sY.map fun l=>Value.string ⟨l.toArray⟩).toArray 9):=(ae.refl w).alloc _;have HC:=ac5 hc;clear hc
 go_enter func419,ntmps419
 go_wp2_with fail
 refine hf.mono ?_;rintro e w1 ⟨rfl,rfl⟩;generalize(w.alloc (G_ (sY.map fun l=>Value.string ⟨l.toArray⟩).toArray 9))=w1 at*;clear hf;go_wp2_with fail
 refine(gV s hs w1).mono ?_;rintro e w2 ⟨rfl,n2⟩;go_wp2_with fail
 refine(Tryz.slices_Index_string w.heap.size 0 5 5 mM (zj s) w2 (by rw [hz];exact aA _) D_ (fun j hj=>Fr.cell n2 (HC.out j hj) id)).mono ?_;rintro e w3 ⟨rfl,rfl⟩;have hb:=jq (zj s) mM 0;obtain⟨i,hi⟩:∃i,i=Lib.idxOfS (mM.take 5) (zj s):=⟨_,rfl⟩
 have eP: -1<=i/\i<5:=by
  rw [hi];rw [hz]at hb
  show -1<=Lib.idxOfS mM (zj s)/\Lib.idxOfS mM (zj s)<5
  unfold Lib.idxOfS;omega
 rw [<-hi];clear hi hb;have:i= -1\/i=0\/i=1\/i=2\/i=3\/i=4:=O_
 rcases this with rfl|rfl|rfl|rfl|rfl|rfl
 all_goals
  go_wp2;go_ret2;exact⟨_,_,rfl,hn.trans n2⟩
end Go.Proofs.YtliimglbbiebiaaGreatDoor
