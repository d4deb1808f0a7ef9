import Derived.Test.YtliimglbbiebiaaGreatDoorGTopTimeAA
import Derived.Test.YtliimglbbiebiaaGreatDoorGTopTimeAC
set_option maxRecDepth 100000
set_option maxHeartbeats 6400000
set_option linter.all false
namespace Go.Proofs.YtliimglbbiebiaaGreatDoor
open Go.Proofs.Tryz Go.RowKit Go.Maps
section
open Go.RowKit Go.Sort
theorem Mq(x:Int) (w:World):H_ 223 #[U_ x] w fun e w'=>e=.returned (R_ false)/\w'=w:=by
 go_enter func223,ntmps223
 go_wp2;go_ret;exact⟨S_,rfl⟩
theorem dD(x y:Int) (w:World):H_ 168 #[U_ x,U_ y] w fun e w'=>e=.returned (R_ (ltInt x y))/\w'=w:=by
 go_enter func168,ntmps168
 go_wp2_with (go_at_call 223;refine(Mq _ _).mono ?_;rintro e w' ⟨rfl,rfl⟩)
 go_ret;exact⟨rfl,rfl⟩
theorem cN{P:Program}{f:FuncId}{args:Array Value}{w:World}{a n:Nat}{v:Value}(h:∀W,Calls P f args W fun e w'=>e=.returned v/\w'=W):
 Calls P f args (w.drewN (a+n)) fun e CE=>e=.returned v/\∃m,CE=w.drewN (a+m):=
 (h _).mono fun _ _ ⟨he,hw⟩=>⟨he,n,hw⟩
theorem cO{P:Program}{f:FuncId}{args:Array Value}{w:World}{n:Nat}{v:Value}(h:∀W,Calls P f args W fun e w'=>e=.returned v/\w'=W):
 Calls P f args (w.drewN n) fun e CE=>e=.returned v/\∃m,CE=w.drewN m:=
 (h _).mono fun _ _ ⟨he,hw⟩=>⟨he,n,hw⟩
theorem cP{P:Program}{f:FuncId}{args:Array Value}{w:World}{a n:Nat}{v:Value}(h:∀W,Calls P f args W fun e w'=>e=.returned v/\w'=W):
 Calls P f args (w.drewN (a+n)) fun e CE=>e=.returned v/\∃m,CE=(w.drewN a).drewN m:=
 (h _).mono fun _ _ ⟨he,hw⟩=>⟨he,n,by rw [hw,World.drewN_drewN]⟩
theorem yE{te:TypeId}{base g c:Nat}{w:World}{d:Array Int}(h:bj te base w g c d) (a b:Nat) (hab:a<=b) (hb:b<=d.size) (hn:d.size<=1000000):
 H_ 162 #[X_ (M_ g) d.size c,I_ a,I_ b] w fun e w'=>e=.returned (.tuple #[])/\bj te base w' g c (insertionSort ltInt d a b)/\(insertionSort ltInt d a b).size=d.size/\One g w w':=by
 go_enter func162,ntmps162
 go_wp2
 go_loopw [6] (fun vi wr=>∃(i:Nat) (dk:Array Int),vi=I_ i/\a<i/\i<=b+1/\dk.size=d.size/\bj te base wr g c dk/\One g w wr/\Hid (insOuter ltInt a b i dk=insertionSort ltInt d a b)) (fun vi _=>b+1-(intOf vi).toNat)
 case atStart=>exact⟨a+1,d,by go_num,O_,O_,rfl,h,One.refl _ _,rfl⟩
 case round=>
  obtain⟨i,dk,rfl,WH,oR,jg,hR,hO,HE⟩:=hrel;clear h;by_cases bJ:i<b
  ·go_wp2;obtain⟨wo,rfl⟩:∃wo:World,wo=wr:=⟨_,rfl⟩
   go_loopw [7] (fun vj wr=>∃(j:Nat) (dj:Array Int),vj=I_ j/\a<=j/\j<=i/\dj.size=d.size/\bj te base wr g c dj/\One g w wr/\Hid (insInner ltInt a j dj=insInner ltInt a i dk)) (fun vj _=>(intOf vj).toNat)
   case atStart=>exact⟨i,dk,rfl,O_,aA _,jg,hR,hO,rfl⟩
   case round=>
    obtain⟨j,dj,rfl,haj,g_,Iv,EC,hOj,HI⟩:=hrel;clear hR hO;have HE':=ac5 (BE (lt:=ltInt) a b i dk bJ);by_cases hja:a<j
    ·have hjd:j<dj.size:=O_
     have hcw:=fun n=>(EC.drewN n).cell (t:=j) hjd;have kY:=fun n=>(EC.drewN n).cell (t:=j-1) O_;have Tj:=fun n=>(EC.drewN n).frozen j;have hfv:=fun n=>(EC.drewN n).frozen (j-1);have hj1:IntKind.i64.wrap ((j:Int)-1)=(j:Int)-1:=aM _ O_;have hj2:((j:Int)-1).toNat=j-1:=O_
     have hj3:0<=(j:Int)-1:=O_
     have eC:=fun n=>EC.two n j (j-1);have a_:=fun n=>One.two hOj n j (j-1) (.int .u32 dj[j-1]!) (.int .u32 dj[j]!);have jz:=ac5 eC;have dP:=ac5 a_;have wX:=fun(h:ltInt dj[j]! dj[j-1]! =false)=>mE (lt:=ltInt) a j dj (.inr h);have iu:=fun(h:ltInt dj[j]! dj[j-1]! =true)=>BD (lt:=ltInt) a j dj hja h;have Mr:=ac5 wX;have uT:=ac5 iu;clear eC wX iu a_;obtain⟨x,hx⟩:∃x,dj[j]! =x:=⟨_,rfl⟩;obtain⟨y,hy⟩:∃y,dj[j-1]! =y:=⟨_,rfl⟩;rw [hx]at hcw jz Mr uT dP;rw [hy]at kY jz Mr uT dP;clear hx hy;obtain⟨q,hq⟩:∃q,ltInt x y=q:=⟨_,rfl⟩;rw [hq]at Mr uT;have cm:∀n,H_ 168 #[U_ x,U_ y] (wr.drewN n) fun e w'=>e=.returned (R_ q)/\w'=wr.drewN n:=fun n=>by rw [<-hq];exact dD x y _
     have dE:=ac5 cm;clear cm hq
     cases q
     ·go_wp2_with fail
      go_quiet (first|(go_at_call 168;refine lG (dE.out _)))
      go_wp2;go_roundw
      case rel=>
       refine⟨i+1,dj,by go_num,O_,O_,Iv,EC.drewN _,hOj.drewN _,?_⟩
       show insOuter ltInt a b (i+1) dj=_
       rw [<-HE.out,HE'.out,<-HI.out,Mr.out trivial]
      case measure=>simp [intOf];omega
     ·go_wp2_with fail
      go_quiet (first|(go_at_call 168;refine lG (dE.out _)))
      go_wp2;go_region;all_goals go_wp2
      go_roundw
      case rel=>
       refine⟨j-1,swp dj j (j-1),by congr 1;omega,O_,O_,by rw [swp_size];exact Iv,?_,dP.out _,?_⟩
       ·exact jz.out _
       ·show insInner ltInt a (j-1) (swp dj j (j-1))=_
        rw [<-HI.out,uT.out trivial]
      case measure=>simp [intOf];omega
    ·have CF:decide ((a:Int)<j)=false:=aP O_;have wX:=mE (lt:=ltInt) a j dj (.inl O_);have Mr:=ac5 wX;clear wX;go_wp2_with fail
     go_quiet (fail)
     go_wp2;go_roundw
     case rel=>
      refine⟨i+1,dj,by go_num,O_,O_,Iv,EC.drewN _,hOj.drewN _,?_⟩
      show insOuter ltInt a b (i+1) dj=_
      rw [<-HE.out,HE'.out,<-HI.out,Mr.out]
     case measure=>simp [intOf];omega
  ·have hE:=HE.out;rw [wW _ _ _ _ bJ]at hE;have ED:=ac5 hE;clear hE;go_wp2;go_end0;exact⟨rfl,by rw [<-ED.out];exact hR,by rw [<-ED.out];exact jg,hO⟩
end
section
open Go.RowKit Go.Sort
theorem pz{te:TypeId}{base g c s:Nat}{w:World}{d:Array Int}(h:bj te base w g c d) (a b sw:Nat) (hs:af w s 3 #[I_ sw]) (ha:a<d.size) (hb:b<d.size) (eC:sw<=1000):
 H_ 289 #[X_ (M_ g) d.size c,I_ a,I_ b,Q_ s] w fun e w'=>
  e=.returned (.tuple #[I_ (order2 ltInt d a b sw).1,I_ (order2 ltInt d a b sw).2.1])/\af w' s 3 #[I_ (order2 ltInt d a b sw).2.2]/\One s w w':=by
 obtain⟨x,hx⟩:∃x,d[a]! =x:=⟨_,rfl⟩;obtain⟨y,hy⟩:∃y,d[b]! =y:=⟨_,rfl⟩;have sJ:=fun n=>(h.drewN n).cell (t:=a) ha;have pV:=fun n=>(h.drewN n).cell (t:=b) hb;have cK:=fun n=>(hs.drewN n).cell 0;have hfs:=fun n=>(hs.drewN n).frozen 0;have lW:∀n,L_ (w.drewN n) s 0 (I_ sw):=cK;rw [hx]at sJ;rw [hy]at pV;clear cK;obtain⟨q,hq⟩:∃q,ltInt y x=q:=⟨_,rfl⟩;have hr:order2 ltInt d a b sw=if q then(b,a,sw+1)else(a,b,sw):=by unfold order2;rw [hx,hy,hq]
 rw [hr];have cm:∀W,H_ 168 #[U_ y,U_ x] W fun e w'=>e=.returned (R_ q)/\w'=W:=fun W=>by rw [<-hq];exact dD y x _
 have dE:=ac5 cm;clear cm hq hr hx hy
 cases q
 ·go_enter func289,ntmps289
  go_wp2_with fail
  go_quiet ((go_at_call 168;with_reducible (first|exact cO dE.out|exact cN dE.out|exact cP dE.out)))
  go_wp2;go_ret2;exact⟨rfl,hs.drewN _,(One.refl _ _).drewN _⟩
 ·go_enter func289,ntmps289
  go_wp2_with fail
  go_quiet ((go_at_call 168;with_reducible (first|exact cO dE.out|exact cN dE.out|exact cP dE.out)))
  go_wp2;go_ret2;refine⟨rfl,?_,?_⟩
  ·show af _ s 3 #[I_ ((sw+1:Nat):Int)]
   exact(hs.drewN _).al 0 _
  ·exact One.set ((One.refl s w).drewN _) 0 _
theorem af.i {w:World}{s:Nat}{v:Int}(h:af w s 3 #[I_ v]):L_ w s 0 (I_ v):=h.cell 0
theorem pB{te:TypeId}{base g c s:Nat}{w:World}{d:Array Int}(h:bj te base w g c d) (se:g≠s) (i j k sw:Nat) (hs:af w s 3 #[I_ sw]) (hi:i<d.size) (hj:j<d.size) (hk:k<d.size) (eC:sw<=100):
 H_ 222 #[X_ (M_ g) d.size c,I_ i,I_ j,I_ k,Q_ s] w fun e w'=>
  e=.returned (I_ (median ltInt d i j k sw).1)/\af w' s 3 #[I_ (median ltInt d i j k sw).2]/\One s w w':=by
 obtain⟨p1,lK⟩:∃p,p=order2 ltInt d i j sw:=⟨_,rfl⟩;obtain⟨p2,pP⟩:∃p,p=order2 ltInt d p1.2.1 k p1.2.2:=⟨_,rfl⟩;obtain⟨p3,mh⟩:∃p,p=order2 ltInt d p1.1 p2.1 p2.2.2:=⟨_,rfl⟩;have hr:median ltInt d i j k sw=(p3.2.1,p3.2.2):=by subst mh pP lK;rfl
 rw [hr];have c1:=order2_count ltInt d i j sw;have c2:=order2_count ltInt d p1.2.1 k p1.2.2;rw [<-lK]at c1;rw [<-pP]at c2
 have m1:p1.1<d.size/\p1.2.1<d.size:=by
  have:=order2_mem ltInt d i j sw;rw [<-lK]at this;omega
 have m2:p2.1<d.size/\p2.2.1<d.size:=by
  have:=order2_mem ltInt d p1.2.1 k p1.2.2;rw [<-pP]at this;omega
 have o1:=pz h i j sw hs hi hj O_;rw [<-lK]at o1;have O1:=ac5 o1;have o2:=fun w' (h':bj te base w' g c d) (Gh:af w' s 3 #[I_ p1.2.2])=>pz h' p1.2.1 k p1.2.2 Gh m1.2 hk O_;rw [<-pP]at o2;have O2:=ac5 o2;have o3:=fun w' (h':bj te base w' g c d) (Gh:af w' s 3 #[I_ p2.2.2])=>pz h' p1.1 p2.1 p2.2.2 Gh m1.1 m2.1 O_;rw [<-mh]at o3;have O3:=ac5 o3;clear o1 o2 o3 lK pP mh hr
 go_enter func222,ntmps222
 go_wp2_with fail
 refine O1.out.mono ?_;rintro e w1 ⟨rfl,fB,fV⟩;have h1:=h.fr fV (fun e=>se e);go_wp2_with fail
 refine(O2.out _ h1 fB).mono ?_;rintro e w2 ⟨rfl,fW,eY⟩;have h2:=h1.fr eY (fun e=>se e);go_wp2_with fail
 refine(O3.out _ h2 fW).mono ?_;rintro e w3 ⟨rfl,jy,fg⟩;go_wp2;go_ret;exact⟨rfl,jy,(fV.trans eY).trans fg⟩
theorem jN{te:TypeId}{base g c s:Nat}{w:World}{d:Array Int}(h:bj te base w g c d) (se:g≠s) (i sw:Nat) (hs:af w s 3 #[I_ sw]) (h1:1<=i) (hi:i+1<d.size) (hn:d.size<=1000000) (eC:sw<=100):
 H_ 221 #[X_ (M_ g) d.size c,I_ i,Q_ s] w fun e w'=>
  e=.returned (I_ (medianAdjacent ltInt d i sw).1)/\af w' s 3 #[I_ (medianAdjacent ltInt d i sw).2]/\One s w w':=by
 have hc:=pB h se (i-1) i (i+1) sw hs O_ O_ O_ eC;rw [show(((i-1:Nat)):Int)=(i:Int)-1 by omega,show(((i+1:Nat)):Int)=(i:Int)+1 by omega]at hc;have HC:=ac5 hc;have hr:medianAdjacent ltInt d i sw=median ltInt d (i-1) i (i+1) sw:=rfl;rw [hr];clear hc hr
 go_enter func221,ntmps221
 go_wp2_with fail
 refine HC.out.mono ?_;rintro e w1 ⟨rfl,fB,fV⟩;go_wp2;go_ret;exact⟨rfl,fB,fV⟩
theorem Iw{te:TypeId}{base g c:Nat}{w:World}{d:Array Int}(h:bj te base w g c d) (a b:Nat) (hab:a<b) (hb:b<=d.size) (hn:d.size<=1000000):
 H_ 165 #[X_ (M_ g) d.size c,I_ a,I_ b] w fun e w'=>
  e=.returned (.tuple #[I_ (choosePivot ltInt d a b).1,I_ (hintCode (choosePivot ltInt d a b).2)])/\ae w w':=by
 rw [choosePivot_eq];obtain⟨l,hl⟩:∃l,l=b-a:=⟨_,rfl⟩;have hlI:(b:Int)-(a:Int)=l:=O_
 obtain⟨q,hq⟩:∃q,q=l/4:=⟨_,rfl⟩;have hqI:(l:Int)/4=q:=O_
 have LB:=h.lt;have jY:af (W_ w #[I_ 0] 3) w 3 #[I_ ((0:Nat):Int)]:=af.new _ _ _;have h0:=h.new ((ae.refl w).alloc (G_ #[I_ 0] 3));have Ge:ae w (W_ w #[I_ 0] 3):=(ae.refl w).alloc _
 have BF:rawPivot ltInt d a b=if l>=8 then(if l>=50 then median ltInt d (medianAdjacent ltInt d (a+q*1) 0).1 (medianAdjacent ltInt d (a+q*2) (medianAdjacent ltInt d (a+q*1) 0).2).1 (medianAdjacent ltInt d (a+q*3) (medianAdjacent ltInt d (a+q*2) (medianAdjacent ltInt d (a+q*1) 0).2).2).1 (medianAdjacent ltInt d (a+q*3) (medianAdjacent ltInt d (a+q*2) (medianAdjacent ltInt d (a+q*1) 0).2).2).2 else median ltInt d (a+q*1) (a+q*2) (a+q*3) 0)else(a+q*2,0):=by
  unfold rawPivot;rw [<-hl,<-hq]
 have e1:((a+q*1:Nat):Int)=(a:Int)+q:=O_
 have e2:((a+q*2:Nat):Int)=(a:Int)+q*2:=O_
 have e3:((a+q*3:Nat):Int)=(a:Int)+q*3:=O_
 have se:g≠w.heap.size:=O_
 by_cases h8:l<8
 ·rw [BF,if_neg O_];have hd8:decide (8<=(l:Int))=false:=aP O_
  show Calls _ _ _ _ fun e w'=>e=.returned (.tuple #[I_ ((a+q*2:Nat):Int),I_ 1])/\_
  rw [e2];have Ko:L_ (W_ w #[I_ 0] 3) w 0 (I_ 0):=jY.cell 0;clear BF e1 e2 e3 hl hq
  go_enter func165,ntmps165
  go_wp2;go_ret2;exact⟨rfl,Ge⟩
 ·have hd8:decide (8<=(l:Int))=true:=k_ O_;obtain⟨raw,hrw⟩:∃raw,raw=rawPivot ltInt d a b:=⟨_,rfl⟩;rw [<-hrw];rw [<-hrw,if_pos O_]at BF;by_cases h50:l<50
  ·rw [if_neg O_]at BF;have ajv:decide (50<=(l:Int))=false:=aP O_;have hm:=pB h0 se (a+q*1) (a+q*2) (a+q*3) 0 jY O_ O_ O_ O_;rw [<-BF,e1,e2,e3]at hm;have HM:=ac5 hm;obtain⟨r1,r2⟩:=raw;clear hm BF hrw e1 e2 e3 hl hq;dsimp only at HM⊢;have ajw:(r2=0\/r2=12)\/(r2≠0/\r2≠12):=O_
   rcases ajw with(rfl|rfl)|⟨cE,dy⟩
   ·go_enter func165,ntmps165
    go_wp2_with fail
    refine HM.out.mono ?_;rintro e w2 ⟨rfl,fW,eY⟩;have uJ:L_ w2 w 0 (I_ 0):=fW.cell 0;go_wp2;go_ret2;exact⟨rfl,ae.one Ge eY (aA _)⟩
   ·go_enter func165,ntmps165
    go_wp2_with fail
    refine HM.out.mono ?_;rintro e w2 ⟨rfl,fW,eY⟩;have uJ:L_ w2 w 0 (I_ 12):=fW.cell 0;go_wp2;go_ret2;exact⟨rfl,ae.one Ge eY (aA _)⟩
   ·have gN:((r2:Int)==0)=false:=by simp;omega
    have eP:((r2:Int)==12)=false:=by simp;omega
    have hho:hintOf r2=.unknown:=by unfold hintOf;rw [if_neg cE,if_neg dy]
    rw [hho];clear hho cE dy
    go_enter func165,ntmps165
    go_wp2_with fail
    refine HM.out.mono ?_;rintro e w2 ⟨rfl,fW,eY⟩;have uJ:=fW.k0;go_wp2;go_ret2;exact⟨rfl,ae.one Ge eY (aA _)⟩
  ·rw [if_pos O_]at BF;have ajv:decide (50<=(l:Int))=true:=k_ O_;obtain⟨m1,lU⟩:∃m,m=medianAdjacent ltInt d (a+q*1) 0:=⟨_,rfl⟩;obtain⟨m2,NL⟩:∃m,m=medianAdjacent ltInt d (a+q*2) m1.2:=⟨_,rfl⟩;obtain⟨m3,JK⟩:∃m,m=medianAdjacent ltInt d (a+q*3) m2.2:=⟨_,rfl⟩;have Xm:raw=median ltInt d m1.1 m2.1 m3.1 m3.2:=by rw [BF];subst JK NL lU;rfl
   have k1:=medianAdjacent_count ltInt d (a+q*1) 0;have k2:=medianAdjacent_count ltInt d (a+q*2) m1.2;have k3:=medianAdjacent_count ltInt d (a+q*3) m2.2;have l1:=medianAdjacent_mem ltInt d (a+q*1) 0;have l2:=medianAdjacent_mem ltInt d (a+q*2) m1.2;have l3:=medianAdjacent_mem ltInt d (a+q*3) m2.2;rw [<-lU]at k1 l1;rw [<-NL]at k2 l2;rw [<-JK]at k3 l3;have c1:=jN h0 se (a+q*1) 0 jY O_ O_ O_ O_;have c2:=fun w' (h':bj te base w' g c d) (Gh:af w' w 3 #[I_ m1.2])=>jN h' se (a+q*2) m1.2 Gh O_ O_ O_ O_;have c3:=fun w' (h':bj te base w' g c d) (Gh:af w' w 3 #[I_ m2.2])=>jN h' se (a+q*3) m2.2 Gh O_ O_ O_ O_;have c4:=fun w' (h':bj te base w' g c d) (Gh:af w' w 3 #[I_ m3.2])=>pB h' se m1.1 m2.1 m3.1 m3.2 Gh O_ O_ O_ O_;rw [<-lU,e1]at c1;rw [<-NL,e2]at c2;rw [<-JK,e3]at c3;rw [<-Xm]at c4;have C1:=ac5 c1;have C2:=ac5 c2;have C3:=ac5 c3;have C4:=ac5 c4;obtain⟨r1,r2⟩:=raw;clear c1 c2 c3 c4 BF Xm hrw lU NL JK e1 e2 e3 hl hq k1 k2 k3 l1 l2 l3;dsimp only at C4⊢;obtain⟨b1,gN⟩:∃b1,((r2:Int)==0)=b1:=⟨_,rfl⟩;obtain⟨b2,eP⟩:∃b2,((r2:Int)==12)=b2:=⟨_,rfl⟩
   have hh:hintCode (hintOf r2)=if b1 then 1 else if b2 then 2 else 0:=by
    rw [<-gN,<-eP];unfold hintOf;by_cases h1:r2=0
    ·subst h1;rfl
    ·by_cases h2:r2=12
     ·subst h2;rfl
     ·rw [if_neg h1,if_neg h2,if_neg P_,if_neg P_];rfl
   rw [hh]
   cases b1<;>cases b2
   all_goals simp only [if_true,if_false,Xn]
   all_goals clear hh
   all_goals
    go_enter func165,ntmps165
    go_wp2_with fail
    refine C1.out.mono ?_;rintro e w2 ⟨rfl,fW,eY⟩;have h2:=h0.fr eY (fun e=>se e);go_wp2_with fail
    refine(C2.out _ h2 fW).mono ?_;rintro e w3 ⟨rfl,jy,fg⟩;have h3:=h2.fr fg (fun e=>se e);go_wp2_with fail
    refine(C3.out _ h3 jy).mono ?_;rintro e w4 ⟨rfl,qC,tj⟩;have h4:=h3.fr tj (fun e=>se e);go_wp2_with fail
    refine(C4.out _ h4 qC).mono ?_;rintro e w5 ⟨rfl,Iy,kW⟩;have hc5:=Iy.i;go_wp2;go_ret2;exact⟨rfl,ae.one Ge (((eY.trans fg).trans tj).trans kW) (aA _)⟩
end
section
open Go.RowKit Go.Sort
def gG(lt:Int->Int->Bool) (hi first root:Nat) (d:Array Int):Nat:=if 2*root+1+1<hi&&lt d[first+(2*root+1)]! d[first+(2*root+1)+1]! then 2*root+1+1 else 2*root+1
theorem mF(lt:Int->Int->Bool) (hi first root:Nat) (d:Array Int) (h:hi<=2*root+1):siftDown lt hi first root d=d:=by
 unfold siftDown;rw [dif_pos O_]
theorem mG(lt:Int->Int->Bool) (hi first root:Nat) (d:Array Int) (h:2*root+1<hi) {ch:Nat}(hc:gG lt hi first root d=ch):
 siftDown lt hi first root d=if lt d[first+root]! d[first+ch]! then siftDown lt hi first ch (swp d (first+root) (first+ch))else d:=by
 subst hc
 conv=>lhs;unfold siftDown
 rw [dif_neg O_];unfold gG;by_cases h1:(decide (2*root+1+1<hi)&&lt d[first+(2*root+1)]! d[first+(2*root+1)+1]!)=true
 ·rw [if_pos h1,if_pos h1];have h2:2*root+2<hi:=by simp at h1;omega
  rw [dif_pos h2]
  show(if(!lt d[first+root]! d[first+(2*root+2)]!)=true then d else siftDown lt hi first (2*root+2) (swp d (first+root) (first+(2*root+2))))=if lt d[first+root]! d[first+(2*root+2)]! =true then siftDown lt hi first (2*root+2) (swp d (first+root) (first+(2*root+2)))else d
  cases lt d[first+root]! d[first+(2*root+2)]! <;>simp
 ·rw [if_neg h1,if_neg h1]
  cases lt d[first+root]! d[first+(2*root+1)]! <;>simp
theorem EE{te:TypeId}{base g c:Nat}{w:World}{d:Array Int}(h:bj te base w g c d) (lo hi first:Nat) (fi:lo<=1000000) (hhi:first+hi<=d.size) (hn:d.size<=1000000):
 H_ 218 #[X_ (M_ g) d.size c,I_ lo,I_ hi,I_ first] w fun e w'=>e=.returned (.tuple #[])/\bj te base w' g c (siftDown ltInt hi first lo d)/\(siftDown ltInt hi first lo d).size=d.size/\One g w w':=by
 go_enter func218,ntmps218
 go_wp2
 go_loopw [8] (fun vr wr=>∃(root:Nat) (dk:Array Int),vr=I_ root/\root<=1000000/\dk.size=d.size/\bj te base wr g c dk/\One g w wr/\Hid (siftDown ltInt hi first root dk=siftDown ltInt hi first lo d)) (fun vr _=>hi-(intOf vr).toNat)
 case atStart=>exact⟨lo,d,rfl,fi,rfl,h,One.refl _ _,rfl⟩
 case round=>
  obtain⟨root,dk,rfl,hr,jg,hR,hO,HE⟩:=hrel;clear h;by_cases GW:hi<=2*root+1
  ·have hE:=HE.out;rw [mF _ _ _ _ _ GW]at hE;have ED:=ac5 hE;clear hE;go_wp2;go_end0;exact⟨rfl,by rw [<-ED.out];exact hR,by rw [<-ED.out];exact jg,hO⟩
  ·have hf:=fun ch hc=>mG ltInt hi first root dk O_ (ch:=ch) hc
   have Xo:=ac5 hf;clear hf;obtain⟨x,hx⟩:∃x,dk[first+root]! =x:=⟨_,rfl⟩;have sJ:=fun m=>(hR.drewN m).cell (t:=first+root) O_;have uP:=fun m=>(hR.drewN m).frozen (first+root);rw [hx]at sJ;have np:decide ((hi:Int)<=2*(root:Int)+1)=false:=aP O_;by_cases uJ:2*root+1+1<hi
   ·obtain⟨u,hu⟩:∃u,dk[first+(2*root+1)]! =u:=⟨_,rfl⟩;obtain⟨v,hv⟩:∃v,dk[first+(2*root+1)+1]! =v:=⟨_,rfl⟩;have hcu:=fun m=>(hR.drewN m).cell (t:=first+(2*root+1)) O_;have kY:=fun m=>(hR.drewN m).cell (t:=first+(2*root+1)+1) O_;rw [hu]at hcu;rw [hv]at kY;have oe:decide (2*(root:Int)+1+1<hi)=true:=k_ O_;obtain⟨q1,oZ⟩:∃q,ltInt u v=q:=⟨_,rfl⟩;have QL:∀n,H_ 168 #[U_ u,U_ v] (wr.drewN n) fun e w'=>e=.returned (R_ q1)/\w'=wr.drewN n:=fun n=>by rw [<-oZ];exact dD u v _
    have U3:=ac5 QL
    have Ig:gG ltInt hi first root dk=if q1 then 2*root+1+1 else 2*root+1:=by
     unfold gG;rw [hu,hv,oZ,k_ uJ,tc]
    have HSD:=ac5 Ig;have HU:=ac5 hu;clear QL oZ hu hv Ig
    cases q1
    ·have HF:=ac5 (fun(_:True)=>Xo.out (2*root+1) HSD.out);clear Xo HSD;have hF:=HF.out trivial;obtain⟨y,hy⟩:∃y,dk[first+(2*root+1)]! =y:=⟨_,rfl⟩;obtain rfl:y=u:=hy.symm.trans HU.out;have pV:=fun m=>(hR.drewN m).cell (t:=first+(2*root+1)) O_;have hfy:=fun m=>(hR.drewN m).frozen (first+(2*root+1));have eC:=fun m=>hR.two m (first+root) (first+(2*root+1));have a_:=fun m=>One.two hO m (first+root) (first+(2*root+1)) (.int .u32 dk[first+(2*root+1)]!) (.int .u32 dk[first+root]!);have jz:=ac5 eC;have dP:=ac5 a_;have iw:=ac5 hF;clear eC a_ hF;rw [hy]at pV jz dP iw;rw [hx]at jz dP iw;clear hx hy;have s1:IntKind.i64.wrap ((first:Int)+root)=(first:Int)+root:=aM _ O_;have s2:((first:Int)+root).toNat=first+root:=O_
     have s3:0<=(first:Int)+root:=O_
     have s4:IntKind.i64.wrap ((first:Int)+(2*(root:Int)+1))=(first:Int)+(2*(root:Int)+1):=aM _ O_;have s5:((first:Int)+(2*(root:Int)+1)).toNat=first+(2*root+1):=O_
     have s6:0<=(first:Int)+(2*(root:Int)+1):=O_
     have s7:(first:Int)+root<(d.size:Int):=O_
     have s8:(first:Int)+(2*(root:Int)+1)<(d.size:Int):=O_
     obtain⟨q,hq⟩:∃q,ltInt x y=q:=⟨_,rfl⟩;rw [hq]at iw;have cm:∀W,H_ 168 #[U_ x,U_ y] W fun e w'=>e=.returned (R_ q)/\w'=W:=fun W=>by rw [<-hq];exact dD x y _
     have dE:=ac5 cm;clear cm hq
     cases q
     ·go_wp2_with fail
      go_quiet (first|(go_at_call 168;refine lG (U3.out _)))
      go_wp2_with fail
      go_quiet ((go_at_call 168;with_reducible (first|exact cO dE.out|exact cN dE.out|exact cP dE.out)))
      go_wp2;refine r_ (G6 rfl _ _ _) rfl ?_;have hf:=iw.out;rw [if_neg S_]at hf;have hfs:siftDown ltInt hi first lo d=dk:=by rw [<-HE.out,hf]
      rw [hfs]
      first
       |exact⟨rfl,hR.drewN _,jg,Fr.drewN hO _⟩
       |exact⟨rfl,(hR.drewN _).drewN _,jg,Fr.drewN (Fr.drewN hO _) _⟩
     ·go_wp2_with fail
      go_quiet (first|(go_at_call 168;refine lG (U3.out _)))
      go_wp2_with fail
      go_quiet ((go_at_call 168;with_reducible (first|exact cO dE.out|exact cN dE.out|exact cP dE.out)))
      go_wp2;go_region;all_goals go_wp2
      go_roundw
      case rel=>
       refine⟨2*root+1,swp dk (first+root) (first+(2*root+1)),by go_num,O_,by rw [swp_size];exact jg,jz.out _,dP.out _,?_⟩;have hf:=iw.out
       first|rw [if_pos rfl]at hf|rw [if_pos True.intro]at hf
       show siftDown ltInt hi first (2*root+1) (swp dk (first+root) (first+(2*root+1)))=_
       rw [<-HE.out,hf]
      case measure=>simp [intOf];omega
    ·have HF:=ac5 (fun(_:True)=>Xo.out (2*root+1+1) HSD.out);clear Xo HSD;have hF:=HF.out trivial;obtain⟨y,hy⟩:∃y,dk[first+(2*root+1+1)]! =y:=⟨_,rfl⟩;have pV:=fun m=>(hR.drewN m).cell (t:=first+(2*root+1+1)) O_;have hfy:=fun m=>(hR.drewN m).frozen (first+(2*root+1+1));have eC:=fun m=>hR.two m (first+root) (first+(2*root+1+1));have a_:=fun m=>One.two hO m (first+root) (first+(2*root+1+1)) (.int .u32 dk[first+(2*root+1+1)]!) (.int .u32 dk[first+root]!);have jz:=ac5 eC;have dP:=ac5 a_;have iw:=ac5 hF;clear eC a_ hF;rw [hy]at pV jz dP iw;rw [hx]at jz dP iw;clear hx hy;have s1:IntKind.i64.wrap ((first:Int)+root)=(first:Int)+root:=aM _ O_;have s2:((first:Int)+root).toNat=first+root:=O_
     have s3:0<=(first:Int)+root:=O_
     have s4:IntKind.i64.wrap ((first:Int)+(2*(root:Int)+1+1))=(first:Int)+(2*(root:Int)+1+1):=aM _ O_;have s5:((first:Int)+(2*(root:Int)+1+1)).toNat=first+(2*root+1+1):=O_
     have s6:0<=(first:Int)+(2*(root:Int)+1+1):=O_
     have s7:(first:Int)+root<(d.size:Int):=O_
     have s8:(first:Int)+(2*(root:Int)+1+1)<(d.size:Int):=O_
     obtain⟨q,hq⟩:∃q,ltInt x y=q:=⟨_,rfl⟩;rw [hq]at iw;have cm:∀W,H_ 168 #[U_ x,U_ y] W fun e w'=>e=.returned (R_ q)/\w'=W:=fun W=>by rw [<-hq];exact dD x y _
     have dE:=ac5 cm;clear cm hq
     cases q
     ·go_wp2_with fail
      go_quiet (first|(go_at_call 168;refine lG (U3.out _)))
      go_wp2_with fail
      go_quiet ((go_at_call 168;with_reducible (first|exact cO dE.out|exact cN dE.out|exact cP dE.out)))
      go_wp2;refine r_ (G6 rfl _ _ _) rfl ?_;have hf:=iw.out;rw [if_neg S_]at hf;have hfs:siftDown ltInt hi first lo d=dk:=by rw [<-HE.out,hf]
      rw [hfs]
      first
       |exact⟨rfl,hR.drewN _,jg,Fr.drewN hO _⟩
       |exact⟨rfl,(hR.drewN _).drewN _,jg,Fr.drewN (Fr.drewN hO _) _⟩
     ·go_wp2_with fail
      go_quiet (first|(go_at_call 168;refine lG (U3.out _)))
      go_wp2_with fail
      go_quiet ((go_at_call 168;with_reducible (first|exact cO dE.out|exact cN dE.out|exact cP dE.out)))
      go_wp2;go_region;all_goals go_wp2
      go_roundw
      case rel=>
       refine⟨2*root+1+1,swp dk (first+root) (first+(2*root+1+1)),by go_num,O_,by rw [swp_size];exact jg,jz.out _,dP.out _,?_⟩;have hf:=iw.out
       first|rw [if_pos rfl]at hf|rw [if_pos True.intro]at hf
       show siftDown ltInt hi first (2*root+1+1) (swp dk (first+root) (first+(2*root+1+1)))=_
       rw [<-HE.out,hf]
      case measure=>simp [intOf];omega
   ·have oe:decide (2*(root:Int)+1+1<hi)=false:=aP O_
    have Ig:gG ltInt hi first root dk=2*root+1:=by
     unfold gG;rw [aP uJ,yW,if_neg S_]
    have HF:=ac5 (fun(_:True)=>Xo.out (2*root+1) Ig);clear Xo Ig;have hF:=HF.out trivial;obtain⟨y,hy⟩:∃y,dk[first+(2*root+1)]! =y:=⟨_,rfl⟩;have pV:=fun m=>(hR.drewN m).cell (t:=first+(2*root+1)) O_;have hfy:=fun m=>(hR.drewN m).frozen (first+(2*root+1));have eC:=fun m=>hR.two m (first+root) (first+(2*root+1));have a_:=fun m=>One.two hO m (first+root) (first+(2*root+1)) (.int .u32 dk[first+(2*root+1)]!) (.int .u32 dk[first+root]!);have jz:=ac5 eC;have dP:=ac5 a_;have iw:=ac5 hF;clear eC a_ hF;rw [hy]at pV jz dP iw;rw [hx]at jz dP iw;clear hx hy;have s1:IntKind.i64.wrap ((first:Int)+root)=(first:Int)+root:=aM _ O_;have s2:((first:Int)+root).toNat=first+root:=O_
    have s3:0<=(first:Int)+root:=O_
    have s4:IntKind.i64.wrap ((first:Int)+(2*(root:Int)+1))=(first:Int)+(2*(root:Int)+1):=aM _ O_;have s5:((first:Int)+(2*(root:Int)+1)).toNat=first+(2*root+1):=O_
    have s6:0<=(first:Int)+(2*(root:Int)+1):=O_
    have s7:(first:Int)+root<(d.size:Int):=O_
    have s8:(first:Int)+(2*(root:Int)+1)<(d.size:Int):=O_
    obtain⟨q,hq⟩:∃q,ltInt x y=q:=⟨_,rfl⟩;rw [hq]at iw;have cm:∀W,H_ 168 #[U_ x,U_ y] W fun e w'=>e=.returned (R_ q)/\w'=W:=fun W=>by rw [<-hq];exact dD x y _
    have dE:=ac5 cm;clear cm hq
    cases q
    ·go_wp2_with fail
     go_quiet (fail)
     go_wp2_with fail
     go_quiet ((go_at_call 168;with_reducible (first|exact cO dE.out|exact cN dE.out|exact cP dE.out)))
     go_wp2;refine r_ (G6 rfl _ _ _) rfl ?_;have hf:=iw.out;rw [if_neg S_]at hf;have hfs:siftDown ltInt hi first lo d=dk:=by rw [<-HE.out,hf]
     rw [hfs]
     first
      |exact⟨rfl,hR.drewN _,jg,Fr.drewN hO _⟩
      |exact⟨rfl,(hR.drewN _).drewN _,jg,Fr.drewN (Fr.drewN hO _) _⟩
    ·go_wp2_with fail
     go_quiet (fail)
     go_wp2_with fail
     go_quiet ((go_at_call 168;with_reducible (first|exact cO dE.out|exact cN dE.out|exact cP dE.out)))
     go_wp2;go_region;all_goals go_wp2
     go_roundw
     case rel=>
      refine⟨2*root+1,swp dk (first+root) (first+(2*root+1)),by go_num,O_,by rw [swp_size];exact jg,jz.out _,dP.out _,?_⟩;have hf:=iw.out
      first|rw [if_pos rfl]at hf|rw [if_pos True.intro]at hf
      show siftDown ltInt hi first (2*root+1) (swp dk (first+root) (first+(2*root+1)))=_
      rw [<-HE.out,hf]
     case measure=>simp [intOf];omega
end
section
open Go.RowKit Go.Sort
theorem og(lt:Int->Int->Bool) (hi first root:Nat) (d:Array Int):(siftDown lt hi first root d).size=d.size:=by
 induction hm:hi-root using Nat.strongRecOn generalizing root d with
 |ind m ih=>
  by_cases h:hi<=2*root+1
  ·rw [mF _ _ _ _ _ h]
  ·have hc:root<gG lt hi first root d:=by unfold gG;split<;>omega
   have uJ:gG lt hi first root d<hi:=by
    unfold gG
    split
    ·rename_i h1;simp at h1;omega
    ·omega
   rw [mG _ _ _ _ _ O_ rfl]
   split
   ·rw [ih (hi-gG lt hi first root d) O_ _ _ rfl,swp_size]
   ·rfl
theorem QM{te:TypeId}{base g c:Nat}{w:World}{d:Array Int}(h:bj te base w g c d) (a b m:Nat) (hm:b=a+m) (hb:b<=d.size) (hn:d.size<=1000000):
 H_ 163 #[X_ (M_ g) d.size c,I_ a,I_ b] w fun e w'=>e=.returned (.tuple #[])/\bj te base w' g c (heapSort ltInt d a b)/\(heapSort ltInt d a b).size=d.size/\One g w w':=by
 have Tl:(b:Int)-(a:Int)=m:=O_
 have gD:heapSort ltInt d a b=heapPop ltInt a m (heapBuild ltInt m a ((m-1)/2+1) d):=by
  unfold heapSort;rw [show b-a=m by omega]
 rw [gD];have hq:IntKind.i64.wrap ((m:Int)-1)=(m:Int)-1:=aM _ O_
 have pa:((m:Int)-1).tdiv 2=(((m-1)/2+1:Nat):Int)-1:=by
  rcases Pl m with rfl|hp
  ·decide
  ·obtain⟨j,rfl⟩:∃j,m=j+1:=⟨m-1,O_⟩;rw [show((j+1:Nat):Int)-1=(j:Int) by omega,Int.tdiv_eq_ediv_of_nonneg O_];simp
 obtain⟨r,hr⟩:∃r,r=heapPop ltInt a m (heapBuild ltInt m a ((m-1)/2+1) d):=⟨_,rfl⟩;rw [<-hr];have HR:=ac5 hr;have eA:(m-1)/2+1<=m+1:=O_
 generalize(m-1)/2+1=k1 at*;clear gD hm hr
 go_enter func163,ntmps163
 go_wp2
 go_loopw [9] (fun vi wr=>∃(k:Nat) (dk:Array Int),vi=I_ ((k:Int)-1)/\k<=k1/\dk.size=d.size/\bj te base wr g c dk/\One g w wr/\Hid (heapBuild ltInt m a k dk=heapBuild ltInt m a k1 d)) (fun vi _=>(intOf vi+1).toNat)
 case atStart=>exact⟨k1,d,rfl,aA _,rfl,h,One.refl _ _,rfl⟩
 case round=>
  obtain⟨k,dk,rfl,hk,jg,QN,hO,HE⟩:=hrel;clear h;rcases Pl k with rfl|hkp
  ·rw [show(((0:Nat):Int)-1)= -1 from rfl];have hE:dk=heapBuild ltInt m a k1 d:=HE.out;have ED:=ac5 hE;clear hE;obtain⟨wo,rfl⟩:∃wo:World,wo=wr:=⟨_,rfl⟩;go_wp2
   go_loopw [10] (fun vi wr=>∃(k:Nat) (dj:Array Int),vi=I_ ((k:Int)-1)/\k<=m/\dj.size=d.size/\bj te base wr g c dj/\One g w wr/\Hid (heapPop ltInt a k dj=r)) (fun vi _=>(intOf vi+1).toNat)
   case atStart=>exact⟨m,dk,rfl,aA _,jg,QN,hO,by show heapPop ltInt a m dk=r;rw [ED.out,HR.out]⟩
   case round=>
    obtain⟨k,dj,rfl,hk,Iv,EC,hOj,HP⟩:=hrel;clear QN hO;rcases Pl k with rfl|hkp
    ·rw [show(((0:Nat):Int)-1)= -1 from rfl];have hE:dj=r:=HP.out;subst hE;go_wp2;go_end0;exact⟨rfl,EC,Iv,hOj⟩
    ·obtain⟨j,rfl⟩:∃j,k=j+1:=⟨k-1,O_⟩;rw [show((j+1:Nat):Int)-1=(j:Int) by omega];obtain⟨x,hx⟩:∃x,dj[a]! =x:=⟨_,rfl⟩;obtain⟨y,hy⟩:∃y,dj[a+j]! =y:=⟨_,rfl⟩;have sJ:=fun n=>(EC.drewN n).cell (t:=a) O_;have pV:=fun n=>(EC.drewN n).cell (t:=a+j) O_;have iy:wr.cell? (C_ g a)=_:=EC.cell (t:=a) O_;have iz:wr.cell? (C_ g (a+j))=_:=EC.cell (t:=a+j) O_;have qQ:=EC.frozen a;have eC:=EC.iJ a (a+j);have a_:=One.iJ hOj a (a+j) (.int .u32 dj[a+j]!) (.int .u32 dj[a]!);rw [hx]at sJ eC a_ iy;rw [hy]at pV eC a_ iz;have dz:heapPop ltInt a (j+1) dj=heapPop ltInt a j (siftDown ltInt j a 0 (swp dj a (a+j))):=rfl;have iI:=ac5 dz;have dP:=ac5 a_;obtain⟨z,hz⟩:=EC.again a (a+j) y O_;have tI:(wr.setCell (C_ g a) (U_ y)).frozen? (C_ g (a+j))=false:=(EC.one a y).frozen _;have fB:(a:Int)+j<d.size:=O_
     have oW:0<=(a:Int)+j:=O_
     have bT:((a:Int)+j).toNat=a+j:=O_
     have fW:(a:Int)<d.size:=O_
     have jy:IntKind.i64.wrap ((a:Int)+j)=(a:Int)+j:=aM _ O_;have hc:=EE eC 0 j a O_ (by rw [swp_size];omega) (by rw [swp_size];omega);rw [swp_size,Iv,show((0:Nat):Int)=0 from rfl]at hc;have eH:=ac5 hc;have dw:=og ltInt j a 0 (swp dj a (a+j));rw [swp_size]at dw;have HZ0:=ac5 dw;clear hx hy eC a_ dz hc dw;go_wp2_with fail
     go_region;all_goals go_wp2_with fail
     refine eH.out.mono ?_;rintro e w2 ⟨rfl,fQ,_,nJ⟩;go_wp2;go_roundw
     case rel=>exact⟨j,_,by go_num,O_,by rw [HZ0.out];exact Iv,fQ,dP.out.trans nJ,by show heapPop ltInt a j (siftDown ltInt j a 0 (swp dj a (a+j)))=r;rw [<-HP.out,iI.out]⟩
     case measure=>simp [intOf]
  ·obtain⟨j,rfl⟩:∃j,k=j+1:=⟨k-1,O_⟩;rw [show((j+1:Nat):Int)-1=(j:Int) by omega];have dz:heapBuild ltInt m a (j+1) dk=heapBuild ltInt m a j (siftDown ltInt m a j dk):=rfl;have hz:=og ltInt m a j dk;have HZ:=ac5 hz;have iI:=ac5 dz;clear dz hz;have hc:=EE QN j m a O_ O_ O_;rw [jg]at hc;have eH:=ac5 hc;clear hc;go_wp2_with fail
   refine eH.out.mono ?_;rintro e w2 ⟨rfl,fQ,_,nJ⟩;go_wp2;go_roundw
   case rel=>exact⟨j,_,by go_num,O_,by rw [HZ.out];exact jg,fQ,hO.trans nJ,by show heapBuild ltInt m a j (siftDown ltInt m a j dk)=_;rw [<-HE.out,iI.out]⟩
   case measure=>simp [intOf]
theorem wY(i j:Nat) (d:Array Int) (h:i<j):reverseLoop i j d=reverseLoop (i+1) (j-1) (swp d i j):=by
 conv=>lhs;unfold reverseLoop
 rw [if_pos h]
theorem sK(i j:Nat) (d:Array Int) (h:¬i<j):reverseLoop i j d=d:=by
 unfold reverseLoop;rw [if_neg h]
theorem EF{te:TypeId}{base g c:Nat}{w:World}{d:Array Int}(h:bj te base w g c d) (a b:Nat) (hab:a<b) (hb:b<=d.size) (hn:d.size<=1000000):
 H_ 166 #[X_ (M_ g) d.size c,I_ a,I_ b] w fun e w'=>e=.returned (.tuple #[])/\bj te base w' g c (reverseRange d a b)/\(reverseRange d a b).size=d.size/\One g w w':=by
 obtain⟨m,rfl⟩:∃m,b=m+1:=⟨b-1,O_⟩;have Tl:((m+1:Nat):Int)-1=m:=O_
 have gD:reverseRange d a (m+1)=reverseLoop a m d:=rfl;obtain⟨r,hr⟩:∃r,r=reverseLoop a m d:=⟨_,rfl⟩;rw [gD,<-hr];have HR:=ac5 hr;obtain⟨bI,Xp⟩:∃bI:Int,bI=((m+1:Nat):Int):=⟨_,rfl⟩;rw [<-Xp]at Tl⊢;have eP:bI<=1000001:=O_
 clear gD hr Xp
 go_enter func166,ntmps166
 go_wp2
 go_loopw [6,7] (fun vi vj wr=>∃(i j:Nat) (dk:Array Int),vi=I_ i/\vj=I_ j/\i<=j+1/\j<=m/\dk.size=d.size/\bj te base wr g c dk/\One g w wr/\Hid (reverseLoop i j dk=r)) (fun vi vj _=>(intOf vj-intOf vi).toNat)
 case atStart=>exact⟨a,m,d,rfl,rfl,O_,aA _,rfl,h,One.refl _ _,HR.out.symm⟩
 case round=>
  obtain⟨i,j,dk,rfl,rfl,G9,hjm,jg,QN,hO,HE⟩:=hrel;clear h;by_cases bJ:i<j
  ·obtain⟨x,hx⟩:∃x,dk[i]! =x:=⟨_,rfl⟩;obtain⟨y,hy⟩:∃y,dk[j]! =y:=⟨_,rfl⟩;have iy:wr.cell? (C_ g i)=_:=QN.cell (t:=i) O_;have iz:wr.cell? (C_ g j)=_:=QN.cell (t:=j) O_;have qQ:=QN.frozen i;have eC:=QN.iJ i j;have a_:=One.iJ hO i j (.int .u32 dk[j]!) (.int .u32 dk[i]!);obtain⟨z,hz⟩:=QN.again i j dk[j]! O_;have tI:(wr.setCell (C_ g i) (.int .u32 dk[j]!)).frozen? (C_ g j)=false:=(QN.one i dk[j]!).frozen _;rw [hx]at iy eC a_;rw [hy]at iz eC a_ hz tI;have dz:=wY i j dk bJ;have iI:=ac5 dz;have jz:=ac5 eC;have dP:=ac5 a_;clear hx hy eC a_ dz;go_wp2_with fail
   go_region;all_goals go_wp2
   go_roundw
   case rel=>exact⟨i+1,j-1,_,by go_num,by congr 1;omega,O_,O_,by rw [swp_size];exact jg,jz.out,dP.out,by show reverseLoop (i+1) (j-1) (swp dk i j)=r;rw [<-HE.out,iI.out]⟩
   case measure=>simp [intOf];omega
  ·have hE:=HE.out;rw [sK _ _ _ bJ]at hE;subst hE;go_wp2;go_end0;exact⟨rfl,QN,jg,hO⟩
end
section
open Go.RowKit Go.Sort
theorem scanUp_go(p:Int->Bool) (d:Array Int) (j i:Nat) (h:i<=j) (hp:p d[i]! =true):scanUp p d j i=scanUp p d j (i+1):=by
 conv=>lhs;unfold scanUp
 rw [hp,k_ h];rfl
theorem gv(p:Int->Bool) (d:Array Int) (j i:Nat) (h:¬i<=j\/p d[i]! =false):scanUp p d j i=i:=by
 unfold scanUp;rcases h with h|h
 ·rw [aP h];rfl
 ·rw [h,JL];rfl
theorem scanDown_go(p:Int->Bool) (d:Array Int) (i j:Nat) (h:i<=j) (hj:0<j) (hp:p d[j]! =true):scanDown p d i j=scanDown p d i (j-1):=by
 obtain⟨k,rfl⟩:∃k,j=k+1:=⟨j-1,O_⟩
 conv=>lhs;unfold scanDown
 rw [hp,k_ h];rfl
theorem fa(p:Int->Bool) (d:Array Int) (i j:Nat) (h:¬i<=j\/p d[j]! =false):scanDown p d i j=j:=by
 cases j with
 |zero=>rfl
 |succ k=>
  unfold scanDown;rcases h with h|h
  ·rw [aP h];rfl
  ·rw [h,JL];rfl
theorem Iz{te:TypeId}{base g c:Nat}{w:World}{d:Array Int}(h:bj te base w g c d) (a b pv:Nat) (ha:a<=pv) (hp:pv<b) (hb:b<=d.size) (hn:d.size<=1000000):
 H_ 169 #[X_ (M_ g) d.size c,I_ a,I_ b,I_ pv] w fun e w'=>e=.returned (I_ (partitionEqual ltInt d a b pv).1)/\bj te base w' g c (partitionEqual ltInt d a b pv).2/\(partitionEqual ltInt d a b pv).2.size=d.size/\One g w w':=by
 obtain⟨m,rfl⟩:∃m,b=m+1:=⟨b-1,O_⟩;have Tl:((m+1:Nat):Int)-1=m:=O_
 have gD:partitionEqual ltInt d a (m+1) pv=partEqLoop ltInt a (a+1) m (swp d a pv):=rfl;obtain⟨r,hr⟩:∃r,r=partEqLoop ltInt a (a+1) m (swp d a pv):=⟨_,rfl⟩;rw [gD,<-hr];have HR:=ac5 hr;obtain⟨bI,Xp⟩:∃bI:Int,bI=((m+1:Nat):Int):=⟨_,rfl⟩;rw [<-Xp]at Tl⊢;have eP:bI<=1000001:=O_
 have Kp:=One.refl g w;have pU:(a:Int)<d.size:=O_
 have hpp:(pv:Int)<d.size:=O_
 clear gD hr Xp;obtain⟨x1,jF⟩:∃x,d[a]! =x:=⟨_,rfl⟩;obtain⟨y1,gM⟩:∃y,d[pv]! =y:=⟨_,rfl⟩;have iy:w.cell? (C_ g a)=_:=h.cell (t:=a) O_;have iz:w.cell? (C_ g pv)=_:=h.cell (t:=pv) O_;have qQ:=h.frozen a;have eC:=h.iJ a pv;have a_:=One.iJ Kp a pv (.int .u32 d[pv]!) (.int .u32 d[a]!);obtain⟨z,hz⟩:=h.again a pv d[pv]! O_;have tI:(w.setCell (C_ g a) (.int .u32 d[pv]!)).frozen? (C_ g pv)=false:=(h.one a d[pv]!).frozen _;rw [jF]at iy eC a_;rw [gM]at iz eC a_ hz tI;have jz:=ac5 eC;have dP:=ac5 a_;clear jF gM eC a_
 go_enter func169,ntmps169
 go_wp2_with fail
 go_region;all_goals go_wp2
 go_loopg [9,10] (m+1-a) (fun k vi vj wr=>∃(i j:Nat) (dk:Array Int),vi=I_ i/\vj=I_ j/\a<i/\i<=j+1/\j<=m/\j+1-i<=k/\dk.size=d.size/\bj te base wr g c dk/\One g w wr/\Hid (partEqLoop ltInt a i j dk=r))
 case atStart=>
  exact⟨a+1,m,_,by go_num,rfl,O_,O_,aA _,O_,swp_size _ _ _,jz.out,dP.out,HR.out.symm⟩
 case round=>
  obtain⟨i,j,dk,rfl,rfl,WH,G9,hjm,hk,jg,hR,hO,HE⟩:=hrel;obtain⟨wo,rfl⟩:∃wo:World,wo=wr:=⟨_,rfl⟩;clear h Kp;obtain⟨x,hx⟩:∃x,dk[a]! =x:=⟨_,rfl⟩;obtain⟨u,hu⟩:∃u,scanUp (fun y=> !ltInt x y) dk j i=u:=⟨_,rfl⟩;obtain⟨v,hv⟩:∃v,scanDown (fun y=>ltInt x y) dk u j=v:=⟨_,rfl⟩;have dz:=partEqLoop_eq ltInt a i j dk;rw [hx,hu,hv]at dz;have pO:=scanUp_spec (fun y=> !ltInt x y) dk j _ i rfl;have ic:=scanDown_spec (fun y=>ltInt x y) dk u j;rw [hu]at pO;rw [hv]at ic;have GX:=pO.1;have Ut:=pO.2.1 G9;have fE:=ic.1
  have Ms:u<=v->u<v:=by
   intro h;rcases GA u v with h'|h'
   ·exact h'
   ·obtain rfl:u=v:=O_
    have f1:=pO.2.2.2 O_;have f2:=ic.2.2.2 h O_;rw [f2]at f1
    cases f1
  have HU:=ac5 hu;have HV:=ac5 hv;have HX:=ac5 hx;have iI:=ac5 dz;clear pO ic dz hu hv hx
  go_upto_block 2 with fail
  go_cut [9] (fun s9 wx=>s9=I_ u/\bj te base wx g c dk/\One g w wx)
  case first=>
   go_wp2_with fail
   go_loopw [9] (fun vi wr=>∃i':Nat,vi=I_ i'/\i<=i'/\i'<=j+1/\bj te base wr g c dk/\One g w wr/\Hid (scanUp (fun y=> !ltInt x y) dk j i'=u)) (fun vi _=>j+1-(intOf vi).toNat)
   case atStart=>exact⟨i,rfl,aA _,O_,hR,hO,HU⟩
   case round=>
    obtain⟨i',rfl,fE,dR,gS,lS,sM⟩:=hrel;clear hR hO;by_cases hle:i'<=j
    ·have CF:decide ((i':Int)<=j)=true:=k_ O_;have EG:i'<dk.size:=O_
     obtain⟨y,hy⟩:∃y,dk[i']! =y:=⟨_,rfl⟩;have sJ:=fun n=>(gS.drewN n).cell (t:=a) O_;have pV:=fun n=>(gS.drewN n).cell (t:=i') EG;have iu:=scanUp_go (fun y=> !ltInt x y) dk j i' hle;have hstop:=fun h=>gv (fun y=> !ltInt x y) dk j i' (.inr h);rw [HX.out]at sJ;rw [hy]at pV iu hstop;clear hy;obtain⟨q,hq⟩:∃q,ltInt x y=q:=⟨_,rfl⟩;simp only [hq]at iu hstop;have cm:∀W,H_ 168 #[U_ x,U_ y] W fun e w'=>e=.returned (R_ q)/\w'=W:=fun W=>by rw [<-hq];exact dD _ _ _
     have dE:=ac5 cm;have uT:=ac5 iu;have dM:=ac5 hstop;clear cm iu hstop hq;have fB:IntKind.i64.wrap ((i':Int)+1)=(i':Int)+1:=aM _ O_
     cases q
     ·go_wp2_with fail
      go_quiet ((go_at_call 168;with_reducible (first|exact cO dE.out|exact cN dE.out|exact cP dE.out)))
      go_wp2;go_roundw
      case rel=>exact⟨i'+1,by first|rfl|(congr 1;omega),O_,O_,gS.drewN _,lS.drewN _,by show scanUp (fun y=> !ltInt x y) dk j (i'+1)=u;rw [<-sM.out,uT.out (by first|exact trivial|exact rfl)]⟩
      case measure=>simp [intOf]<;>omega
     ·go_wp2_with fail
      go_quiet ((go_at_call 168;with_reducible (first|exact cO dE.out|exact cN dE.out|exact cP dE.out)))
      go_wp2
      go_meet
      have hu:=sM.out;rw [dM.out (by first|exact trivial|exact rfl)]at hu;exact⟨congrArg (fun n:Nat=>Value.int .i64 n) hu,gS.drewN _,lS.drewN _⟩
    ·have CF:decide ((i':Int)<=j)=false:=aP O_;have hstop:=gv (fun y=> !ltInt x y) dk j i' (.inl hle);have dM:=ac5 hstop;clear hstop;go_wp2_with fail
     go_quiet (fail)
     go_wp2
     go_meet
     have hu:=sM.out;rw [dM.out]at hu;exact⟨congrArg (fun n:Nat=>Value.int .i64 n) hu,gS.drewN _,lS.drewN _⟩
  case rest=>
   obtain⟨rfl,mH,pS⟩:=hcut;clear hR hO
   go_upto_block 4 with fail
   go_cut [10] (fun s10 wx=>s10=I_ v/\bj te base wx g c dk/\One g w wx)
   case first=>
    go_wp2_with fail
    go_loopw [10] (fun vi wr=>∃j':Nat,vi=I_ j'/\j'<=j/\u<=j'+1/\bj te base wr g c dk/\One g w wr/\Hid (scanDown (fun y=>ltInt x y) dk u j'=v)) (fun vi _=>(intOf vi).toNat)
    case atStart=>exact⟨j,rfl,aA _,O_,mH,pS,HV⟩
    case round=>
     obtain⟨j',rfl,fE,dR,gS,lS,sM⟩:=hrel;clear mH pS;by_cases hle:u<=j'
     ·have CF:decide ((u:Int)<=j')=true:=k_ O_;have EG:j'<dk.size:=O_
      obtain⟨y,hy⟩:∃y,dk[j']! =y:=⟨_,rfl⟩;have sJ:=fun n=>(gS.drewN n).cell (t:=a) O_;have pV:=fun n=>(gS.drewN n).cell (t:=j') EG;have iu:=scanDown_go (fun y=>ltInt x y) dk u j' hle O_;have hstop:=fun h=>fa (fun y=>ltInt x y) dk u j' (.inr h);rw [HX.out]at sJ;rw [hy]at pV iu hstop;clear hy;obtain⟨q,hq⟩:∃q,ltInt x y=q:=⟨_,rfl⟩;simp only [hq]at iu hstop;have cm:∀W,H_ 168 #[U_ x,U_ y] W fun e w'=>e=.returned (R_ q)/\w'=W:=fun W=>by rw [<-hq];exact dD _ _ _
      have dE:=ac5 cm;have uT:=ac5 iu;have dM:=ac5 hstop;clear cm iu hstop hq;have fB:IntKind.i64.wrap ((j':Int)-1)=(j':Int)-1:=aM _ O_
      cases q
      ·go_wp2_with fail
       go_quiet ((go_at_call 168;with_reducible (first|exact cO dE.out|exact cN dE.out|exact cP dE.out)))
       go_wp2
       go_meet
       have hu:=sM.out;rw [dM.out (by first|exact trivial|exact rfl)]at hu;exact⟨congrArg (fun n:Nat=>Value.int .i64 n) hu,gS.drewN _,lS.drewN _⟩
      ·go_wp2_with fail
       go_quiet ((go_at_call 168;with_reducible (first|exact cO dE.out|exact cN dE.out|exact cP dE.out)))
       go_wp2;go_roundw
       case rel=>exact⟨j'-1,by first|rfl|(congr 1;omega),O_,O_,gS.drewN _,lS.drewN _,by show scanDown (fun y=>ltInt x y) dk u (j'-1)=v;rw [<-sM.out,uT.out (by first|exact trivial|exact rfl)]⟩
       case measure=>simp [intOf]<;>omega
     ·have CF:decide ((u:Int)<=j')=false:=aP O_;have hstop:=fa (fun y=>ltInt x y) dk u j' (.inl hle);have dM:=ac5 hstop;clear hstop;go_wp2_with fail
      go_quiet (fail)
      go_wp2
      go_meet
      have hu:=sM.out;rw [dM.out]at hu;exact⟨congrArg (fun n:Nat=>Value.int .i64 n) hu,gS.drewN _,lS.drewN _⟩
   case rest=>
    obtain⟨rfl,fQ,nJ⟩:=hcut;clear mH pS;by_cases U4:v<u
    ·have hE:=iI.out;rw [if_pos U4,HE.out]at hE;have ED:=ac5 hE;clear hE;go_wp2;go_ret;rw [ED.out];exact⟨rfl,fQ,jg,nJ⟩
    ·have Zp:=Ms O_;have hE:=iI.out;rw [if_neg U4,HE.out]at hE;have ED:=ac5 hE;clear hE;obtain⟨wo,rfl⟩:∃wo:World,wo=wc:=⟨_,rfl⟩;obtain⟨x1,jF⟩:∃x,dk[u]! =x:=⟨_,rfl⟩;obtain⟨y1,gM⟩:∃y,dk[v]! =y:=⟨_,rfl⟩;have iy:wo.cell? (C_ g u)=_:=fQ.cell (t:=u) O_;have iz:wo.cell? (C_ g v)=_:=fQ.cell (t:=v) O_;have qQ:=fQ.frozen u;have eC:=fQ.iJ u v;have a_:=One.iJ nJ u v (.int .u32 dk[v]!) (.int .u32 dk[u]!);obtain⟨z,hz⟩:=fQ.again u v dk[v]! O_;have tI:(wo.setCell (C_ g u) (.int .u32 dk[v]!)).frozen? (C_ g v)=false:=(fQ.one u dk[v]!).frozen _;rw [jF]at iy eC a_;rw [gM]at iz eC a_ hz tI;have jz:=ac5 eC;have dP:=ac5 a_;clear jF gM eC a_;go_wp2_with fail
     go_region;all_goals go_wp2
     go_roundg (v-1+1-(u+1))
     case measure=>omega
     case rel=>exact⟨u+1,v-1,_,by go_num,by congr 1;omega,O_,O_,O_,aA _,by rw [swp_size];exact jg,jz.out,dP.out,ED.out.symm⟩
end
section
open Go.RowKit Go.Sort
section
variable(lt:Int->Int->Bool)
theorem scanSorted_go(d:Array Int) (b i:Nat) (h:i<b) (hl:lt d[i]! d[i-1]! =false):scanSorted lt d b i=scanSorted lt d b (i+1):=by
 conv=>lhs;unfold scanSorted
 rw [hl,k_ h];rfl
theorem scanSorted_stop(d:Array Int) (b i:Nat) (h:¬i<b\/lt d[i]! d[i-1]! =true):scanSorted lt d b i=i:=by
 unfold scanSorted;rcases h with h|h
 ·rw [aP h];rfl
 ·rw [h,Xr,JL];rfl
theorem kB(d:Array Int) (b:Nat):∀(n i:Nat),b-i=n->i<=b->i<=scanSorted lt d b i/\scanSorted lt d b i<=b
 |0,i,hn,h=>by
  rw [scanSorted_stop lt d b i (.inl O_)];omega
 |n+1,i,hn,h=>by
  by_cases hl:lt d[i]! d[i-1]! =true
  ·rw [scanSorted_stop lt d b i (.inr hl)];omega
  ·rw [scanSorted_go lt d b i O_ (by simpa using hl)];have:=kB d b n (i+1) O_ O_;omega
theorem shiftDown_go(j:Nat) (d:Array Int) (h:1<=j) (hl:lt d[j]! d[j-1]! =true):shiftDown lt j d=shiftDown lt (j-1) (swp d j (j-1)):=by
 obtain⟨k,rfl⟩:∃k,j=k+1:=⟨j-1,O_⟩;rw [aaH]at hl⊢
 conv=>lhs;unfold shiftDown
 rw [hl];rfl
theorem shiftDown_stop(j:Nat) (d:Array Int) (h:¬1<=j\/lt d[j]! d[j-1]! =false):shiftDown lt j d=d:=by
 cases j with
 |zero=>rfl
 |succ k=>
  rcases h with h|h
  ·omega
  ·rw [aaH]at h;unfold shiftDown;rw [h];rfl
theorem shiftUp_go(b j:Nat) (d:Array Int) (h:j<b) (hl:lt d[j]! d[j-1]! =true):shiftUp lt b j d=shiftUp lt b (j+1) (swp d j (j-1)):=by
 conv=>lhs;unfold shiftUp
 rw [if_pos h,hl];rfl
theorem shiftUp_stop(b j:Nat) (d:Array Int) (h:¬j<b\/lt d[j]! d[j-1]! =false):shiftUp lt b j d=d:=by
 unfold shiftUp;rcases h with h|h
 ·rw [if_neg h]
 ·by_cases hj:j<b
  ·rw [if_pos hj,h];rfl
  ·rw [if_neg hj]
theorem ur(a b s i u:Nat) (d d1 d2 d3:Array Int) (hu:scanSorted lt d b i=u) (h1:swp d u (u-1)=d1) (h2:(if u-a>=2 then shiftDown lt (u-1) d1 else d1)=d2) (h3:(if b-u>=2 then shiftUp lt b (u+1) d2 else d2)=d3):
 partialIns lt a b (s+1) i d=if u=b then(d,true)else if b-a<50 then(d,false)else partialIns lt a b s u d3:=by
 subst hu h1 h2 h3;rfl
end
theorem EH{te:TypeId}{base g c:Nat}{w:World}{d:Array Int}(h:bj te base w g c d) (a b:Nat) (hab:a<b) (hb:b<=d.size) (hn:d.size<=1000000):
 H_ 167 #[X_ (M_ g) d.size c,I_ a,I_ b] w fun e w'=>e=.returned (R_ (partialInsertionSort ltInt d a b).2)/\bj te base w' g c (partialInsertionSort ltInt d a b).1/\(partialInsertionSort ltInt d a b).1.size=d.size/\One g w w':=by
 have gD:partialInsertionSort ltInt d a b=partialIns ltInt a b 5 (a+1) d:=rfl;obtain⟨r,hr⟩:∃r,partialIns ltInt a b 5 (a+1) d=r:=⟨_,rfl⟩;rw [gD,hr];have HR:=ac5 hr;clear gD hr
 go_enter func167,ntmps167
 go_wp2_with fail
 go_loopg [7,8] 5 (fun k vi vj wr=>∃(i t:Nat) (dk:Array Int),vi=I_ i/\vj=I_ t/\a<i/\i<=b/\t<=5/\5-t<=k/\dk.size=d.size/\bj te base wr g c dk/\One g w wr/\Hid (partialIns ltInt a b (5-t) i dk=r))
 case atStart=>exact⟨a+1,0,d,by go_num,rfl,O_,O_,O_,O_,rfl,h,One.refl _ _,HR.out⟩
 case round=>
  obtain⟨i,t,dk,rfl,rfl,WH,oR,ht5,hk,jg,hR,hO,HE⟩:=hrel;obtain⟨wo,rfl⟩:∃wo:World,wo=wr:=⟨_,rfl⟩;clear h HR;by_cases ht:t<5
  ·have htd:decide ((t:Int)<5)=true:=k_ O_;obtain⟨u,hu⟩:∃u,scanSorted ltInt dk b i=u:=⟨_,rfl⟩;obtain⟨d1,np⟩:∃d1,swp dk u (u-1)=d1:=⟨_,rfl⟩;obtain⟨d2,oe⟩:∃d2,(if u-a>=2 then shiftDown ltInt (u-1) d1 else d1)=d2:=⟨_,rfl⟩;obtain⟨d3,sD⟩:∃d3,(if b-u>=2 then shiftUp ltInt b (u+1) d2 else d2)=d3:=⟨_,rfl⟩;have dz:=ur ltInt a b (5-(t+1)) i u dk d1 d2 d3 hu np oe sD;rw [show 5-(t+1)+1=5-t by omega,HE.out]at dz;have wZ:=kB ltInt dk b _ i rfl oR;rw [hu]at wZ;have Mt:d1.size=d.size:=by rw [<-np,swp_size];exact jg
   have ajy:=ac5 Mt;have GX:=wZ.1;have Ut:=wZ.2;have HU:=ac5 hu;have iI:=ac5 dz;have Zq:=ac5 oe;have Zr:=ac5 sD;clear wZ hu dz oe sD HE Mt
   go_upto_block 2 with fail
   go_cut [7] (fun s7 wx=>s7=I_ u/\bj te base wx g c dk/\One g w wx)
   case first=>
    clear np;go_wp2_with fail
    go_loopw [7] (fun vi wr=>∃i':Nat,vi=I_ i'/\i<=i'/\i'<=b/\bj te base wr g c dk/\One g w wr/\Hid (scanSorted ltInt dk b i'=u)) (fun vi _=>b-(intOf vi).toNat)
    case atStart=>exact⟨i,rfl,aA _,oR,hR,hO,HU⟩
    case round=>
     obtain⟨i',rfl,fE,dR,gS,lS,sM⟩:=hrel;clear hR hO;by_cases hle:i'<b
     ·have CF:decide ((i':Int)<b)=true:=k_ O_;have EG:i'<dk.size:=O_
      have hvI:(i':Int)<d.size:=O_
      have fB:IntKind.i64.wrap ((i':Int)-1)=(i':Int)-1:=aM _ O_;have fW:((i':Int)-1).toNat=i'-1:=O_
      have jy:0<=(i':Int)-1:=O_
      obtain⟨y1,gM⟩:∃y,dk[i']! =y:=⟨_,rfl⟩;obtain⟨y2,sj⟩:∃y,dk[i'-1]! =y:=⟨_,rfl⟩;have sJ:=fun n=>(gS.drewN n).cell (t:=i') EG;have pV:=fun n=>(gS.drewN n).cell (t:=i'-1) O_;rw [gM]at sJ;rw [sj]at pV;have iu:=scanSorted_go ltInt dk b i' hle;have hstop:=fun h=>scanSorted_stop ltInt dk b i' (.inr h);rw [gM,sj]at iu hstop;clear gM sj;obtain⟨q,hq⟩:∃q,ltInt y1 y2=q:=⟨_,rfl⟩;rw [hq]at iu;simp only [hq]at hstop;have uT:=ac5 iu;have dM:=ac5 hstop;clear iu hstop;have cm:∀W,H_ 168 #[U_ y1,U_ y2] W fun e w'=>e=.returned (R_ q)/\w'=W:=fun W=>by rw [<-hq];exact dD _ _ _
      have dE:=ac5 cm;clear cm hq
      cases q
      ·go_wp2_with fail
       go_quiet ((go_at_call 168;with_reducible (first|exact cO dE.out|exact cN dE.out|exact cP dE.out)))
       go_wp2;go_roundw
       case rel=>exact⟨i'+1,by go_num,O_,O_,gS.drewN _,lS.drewN _,by show scanSorted ltInt dk b (i'+1)=u;rw [<-sM.out,uT.out (by first|exact trivial|exact rfl)]⟩
       case measure=>simp [intOf]<;>omega
      ·go_wp2_with fail
       go_quiet ((go_at_call 168;with_reducible (first|exact cO dE.out|exact cN dE.out|exact cP dE.out)))
       go_wp2
       go_meet
       have hu:=sM.out;rw [dM.out (by first|exact trivial|exact rfl)]at hu;exact⟨congrArg (fun n:Nat=>Value.int .i64 n) hu,gS.drewN _,lS.drewN _⟩
     ·have CF:decide ((i':Int)<b)=false:=aP O_;have hstop:=scanSorted_stop ltInt dk b i' (.inl hle);have dM:=ac5 hstop;clear hstop;go_wp2_with fail
      go_quiet (fail)
      go_wp2
      go_meet
      have hu:=sM.out;rw [dM.out]at hu;exact⟨congrArg (fun n:Nat=>Value.int .i64 n) hu,gS.drewN _,lS.drewN _⟩
   case rest=>
    obtain⟨rfl,mH,pS⟩:=hcut;clear hR hO;obtain⟨wo,rfl⟩:∃wo:World,wo=wc:=⟨_,rfl⟩;by_cases Xs:u=b
    ·have hE:=iI.out;rw [if_pos Xs]at hE;subst Xs hE;clear np;go_wp2;go_ret
     first|exact⟨rfl,mH,jg,pS⟩|exact⟨rfl,mH,pS⟩
    ·have aqU:((u:Int)==(b:Int))=false:=by simp;omega
     have hE:=iI.out;rw [if_neg Xs]at hE;have sI:IntKind.i64.wrap ((b:Int)-a)=(b:Int)-a:=aM _ O_;by_cases h50:b-a<50
     ·have h5d:decide ((b:Int)-a<50)=true:=k_ O_;rw [if_pos h50]at hE;subst hE;clear np;go_wp2;go_ret
      first|exact⟨rfl,mH,jg,pS⟩|exact⟨rfl,mH,pS⟩
     ·have h5d:decide ((b:Int)-a<50)=false:=aP O_;rw [if_neg h50]at hE;have Zs:=ac5 hE;clear hE iI;have fB:IntKind.i64.wrap ((u:Int)-1)=(u:Int)-1:=aM _ O_;have fW:((u:Int)-1).toNat=u-1:=O_
      have jy:0<=(u:Int)-1:=O_
      have qC:(u:Int)-1<d.size:=O_
      have Iy:(u:Int)<d.size:=O_
      have hs6:IntKind.i64.wrap ((u:Int)-a)=(u:Int)-a:=aM _ O_;have P6:IntKind.i64.wrap ((b:Int)-u)=(b:Int)-u:=aM _ O_;have hs8:IntKind.i64.wrap ((u:Int)+1)=(u:Int)+1:=aM _ O_;obtain⟨x1,jF⟩:∃x,dk[u]! =x:=⟨_,rfl⟩;obtain⟨y1,gM⟩:∃y,dk[u-1]! =y:=⟨_,rfl⟩;have iy:wo.cell? (C_ g u)=_:=mH.cell (t:=u) O_;have iz:wo.cell? (C_ g (u-1))=_:=mH.cell (t:=u-1) O_;have qQ:=mH.frozen (u);have eC:=mH.iJ (u) (u-1);have a_:=One.iJ pS (u) (u-1) (.int .u32 dk[u-1]!) (.int .u32 dk[u]!);obtain⟨z,hz⟩:=mH.again (u) (u-1) dk[u-1]! O_;have tI:(wo.setCell (C_ g u) (.int .u32 dk[u-1]!)).frozen? (C_ g (u-1))=false:=(mH.one (u) dk[u-1]!).frozen _;rw [jF]at iy eC a_;rw [gM]at iz eC a_ hz tI;rw [np]at eC;have jz:=ac5 eC;have dP:=ac5 a_;clear jF gM eC a_;clear np
      go_upto_if 61 with(first|go_region|fail)
      have fQ:=jz.out;have nJ:=dP.out;have Mt:=ajy.out
      go_cut [] (fun wx=>bj te base wx g c d2/\One g w wx/\d2.size=d.size)
      case first=>
       by_cases h2:u-a>=2
       ·have h2d:decide (2<=(u:Int)-a)=true:=k_ O_;have oe:=Zq.out;rw [if_pos h2]at oe;have HD2:=ac5 oe;clear oe;clear Zq
        try simp only [h2d]
        go_wp2_with fail
        go_loopg [9] ((u-1)) (fun k vi wr=>∃(j:Nat) (dj:Array Int),vi=I_ j/\j<=k/\j<=(u-1)/\dj.size=d.size/\bj te base wr g c dj/\One g w wr/\Hid (shiftDown ltInt j dj=d2))
        case atStart=>exact⟨(u-1),d1,by first|rfl|go_num|(congr 1;omega),O_,aA _,Mt,fQ,nJ,HD2.out⟩
        case round=>
         obtain⟨j,dj,rfl,zO,hj1,Iv,gS,lS,HJ⟩:=hrel;clear fQ nJ;by_cases hle:1<=j
         ·have CF:decide ((1:Int)<=j)=true:=k_ O_;have EG:j<dj.size:=O_
          have hvI:(j:Int)<d.size:=O_
          have fB:IntKind.i64.wrap ((j:Int)-1)=(j:Int)-1:=aM _ O_;have fW:((j:Int)-1).toNat=j-1:=O_
          obtain⟨y1,gM⟩:∃y,dj[j]! =y:=⟨_,rfl⟩;obtain⟨y2,sj⟩:∃y,dj[j-1]! =y:=⟨_,rfl⟩;have sJ:=fun n=>(gS.drewN n).cell (t:=j) EG;have pV:=fun n=>(gS.drewN n).cell (t:=j-1) O_;rw [gM]at sJ;rw [sj]at pV;have Tj:=fun n=>(gS.drewN n).frozen j;have hfv:=fun n=>(gS.drewN n).frozen (j-1);have eC:=fun n=>gS.two n j (j-1);have a_:=fun n=>One.two lS n j (j-1) (.int .u32 dj[j-1]!) (.int .u32 dj[j]!);have iu:=shiftDown_go ltInt j dj hle;have hstop:=fun h=>shiftDown_stop ltInt j dj (.inr h);rw [gM,sj]at iu hstop a_;simp only [gM,sj]at eC;have jz:=ac5 eC;have dP:=ac5 a_;clear gM sj eC a_;obtain⟨q,hq⟩:∃q,ltInt y1 y2=q:=⟨_,rfl⟩;rw [hq]at iu;simp only [hq]at hstop;have uT:=ac5 iu;have dM:=ac5 hstop;clear iu hstop;have cm:∀W,H_ 168 #[U_ y1,U_ y2] W fun e w'=>e=.returned (R_ q)/\w'=W:=fun W=>by rw [<-hq];exact dD _ _ _
          have dE:=ac5 cm;clear cm hq
          cases q
          ·go_wp2_with fail
           go_quiet ((go_at_call 168;with_reducible (first|exact cO dE.out|exact cN dE.out|exact cP dE.out)))
           go_wp2;have hE:=HJ.out;rw [dM.out (by first|exact trivial|exact rfl)]at hE;subst hE
           go_meet
           exact⟨(gS.drewN _),(lS.drewN _),Iv⟩
          ·go_wp2_with fail
           go_quiet ((go_at_call 168;with_reducible (first|exact cO dE.out|exact cN dE.out|exact cP dE.out)))
           go_wp2;go_region;all_goals go_wp2
           go_roundg (j-1)
           case measure=>omega
           case rel=>
            refine⟨j-1,swp dj j (j-1),by first|rfl|go_num|(congr 1;omega),aA _,O_,by rw [swp_size];exact Iv,jz.out _,dP.out _,?_⟩
            show shiftDown ltInt (j-1) (swp dj j (j-1))=d2
            rw [<-HJ.out,uT.out (by first|exact trivial|exact rfl)]
         ·have CF:decide ((1:Int)<=j)=false:=aP O_;have hE:=HJ.out;rw [shiftDown_stop ltInt j dj (.inl hle)]at hE;subst hE;go_wp2
          go_meet
          exact⟨gS,lS,Iv⟩
       ·have oe:=Zq.out;rw [if_neg h2]at oe;subst oe;go_wp2
        go_meet
        exact⟨fQ,nJ,Mt⟩
      case rest=>
       obtain⟨Xt,SU,ad3⟩:=hcut;clear fQ nJ iy iz qQ hz tI jz dP mH pS Mt;obtain⟨wo,rfl⟩:∃wo:World,wo=wc:=⟨_,rfl⟩;have Mu:=ac5 Zs.out.symm;by_cases h2:b-u>=2
       ·have h2d:decide (2<=(b:Int)-u)=true:=k_ O_;have sD:=Zr.out;rw [if_pos h2]at sD;have HD3:=ac5 sD;clear sD Zr;go_wp2_with fail
        go_loopg [10] (b) (fun k vi wr=>∃(j:Nat) (dj:Array Int),vi=I_ j/\b-j<=k/\(u+1)<=j/\j<=b/\dj.size=d.size/\bj te base wr g c dj/\One g w wr/\Hid (shiftUp ltInt b j dj=d3))
        case atStart=>exact⟨(u+1),d2,by first|rfl|go_num|(congr 1;omega),O_,aA _,O_,ad3,Xt,SU,HD3.out⟩
        case round=>
         obtain⟨j,dj,rfl,zO,hj1,hj2,Iv,gS,lS,HJ⟩:=hrel;clear Xt SU;by_cases hle:j<b
         ·have CF:decide ((j:Int)<b)=true:=k_ O_;have EG:j<dj.size:=O_
          have hvI:(j:Int)<d.size:=O_
          have fB:IntKind.i64.wrap ((j:Int)-1)=(j:Int)-1:=aM _ O_;have fW:((j:Int)-1).toNat=j-1:=O_
          have jy:0<=(j:Int)-1:=O_
          obtain⟨y1,gM⟩:∃y,dj[j]! =y:=⟨_,rfl⟩;obtain⟨y2,sj⟩:∃y,dj[j-1]! =y:=⟨_,rfl⟩;have sJ:=fun n=>(gS.drewN n).cell (t:=j) EG;have pV:=fun n=>(gS.drewN n).cell (t:=j-1) O_;rw [gM]at sJ;rw [sj]at pV;have Tj:=fun n=>(gS.drewN n).frozen j;have hfv:=fun n=>(gS.drewN n).frozen (j-1);have eC:=fun n=>gS.two n j (j-1);have a_:=fun n=>One.two lS n j (j-1) (.int .u32 dj[j-1]!) (.int .u32 dj[j]!);have iu:=shiftUp_go ltInt b j dj hle;have hstop:=fun h=>shiftUp_stop ltInt b j dj (.inr h);rw [gM,sj]at iu hstop a_;simp only [gM,sj]at eC;have jz:=ac5 eC;have dP:=ac5 a_;clear gM sj eC a_;obtain⟨q,hq⟩:∃q,ltInt y1 y2=q:=⟨_,rfl⟩;rw [hq]at iu;simp only [hq]at hstop;have uT:=ac5 iu;have dM:=ac5 hstop;clear iu hstop;have cm:∀W,H_ 168 #[U_ y1,U_ y2] W fun e w'=>e=.returned (R_ q)/\w'=W:=fun W=>by rw [<-hq];exact dD _ _ _
          have dE:=ac5 cm;clear cm hq
          cases q
          ·go_wp2_with fail
           go_quiet ((go_at_call 168;with_reducible (first|exact cO dE.out|exact cN dE.out|exact cP dE.out)))
           go_wp2;have hE:=HJ.out;rw [dM.out (by first|exact trivial|exact rfl)]at hE;subst hE
           go_roundg (5-(t+1))
           case measure=>omega
           case rel=>exact⟨u,t+1,_,rfl,by go_num,O_,O_,O_,aA _,Iv,(gS.drewN _),(lS.drewN _),Mu.out⟩
          ·go_wp2_with fail
           go_quiet ((go_at_call 168;with_reducible (first|exact cO dE.out|exact cN dE.out|exact cP dE.out)))
           go_wp2;go_region;all_goals go_wp2
           go_roundg (b-(j+1))
           case measure=>omega
           case rel=>
            refine⟨j+1,swp dj j (j-1),by first|rfl|go_num|(congr 1;omega),aA _,O_,O_,by rw [swp_size];exact Iv,jz.out _,dP.out _,?_⟩
            show shiftUp ltInt b (j+1) (swp dj j (j-1))=d3
            rw [<-HJ.out,uT.out (by first|exact trivial|exact rfl)]
         ·have CF:decide ((j:Int)<b)=false:=aP O_;have hE:=HJ.out;rw [shiftUp_stop ltInt b j dj (.inl hle)]at hE;subst hE;go_wp2
          go_roundg (5-(t+1))
          case measure=>omega
          case rel=>exact⟨u,t+1,_,rfl,by go_num,O_,O_,O_,aA _,Iv,gS,lS,Mu.out⟩
       ·have h2d:decide (2<=(b:Int)-u)=false:=aP O_;have sD:=Zr.out;rw [if_neg h2]at sD;subst sD;go_wp2
        go_roundg (5-(t+1))
        case measure=>omega
        case rel=>exact⟨u,t+1,_,rfl,by go_num,O_,O_,O_,aA _,ad3,Xt,SU,Mu.out⟩
  ·have htd:decide ((t:Int)<5)=false:=aP O_;have hE:=HE.out;rw [show 5-t=0 by omega]at hE;have hE2:(dk,false)=r:=hE;subst hE2;clear hE;go_wp2;go_ret
   first|exact⟨rfl,hR,jg,hO⟩|exact⟨rfl,hR,hO⟩
end
section
open Go.RowKit Go.Sort
def bpRest(a L M i0:Nat):Nat->Nat->UInt64×Array Int->Array Int
 |0,_,st=>st.2
 |k+1,t,st=>bpRest a L M i0 k (t+1) (breakStep a L M st (i0+t))
theorem QP(d:Array Int) (a b L i0:Nat) (hL:b-a=L) (h8:8<=L) (hi:i0=a+L/4*2-1):breakPatterns d a b=bpRest a L (1 <<< bitsLen L) i0 3 0 (UInt64.ofNat L,d):=by
 subst hL hi;unfold breakPatterns;rw [if_pos h8];rfl
theorem tJ(a L M i0 t:Nat) (r:UInt64) (d:Array Int) (o:Nat) (ht:t<3) (ho:(if(xorNext r).toNat&&&(M-1)>=L then((xorNext r).toNat&&&(M-1))-L else(xorNext r).toNat&&&(M-1))=o):
 bpRest a L M i0 (3-t) t (r,d)=bpRest a L M i0 (3-(t+1)) (t+1) (xorNext r,swp d (i0+t) (a+o)):=by
 obtain⟨k,hk⟩:∃k,k=3-(t+1):=⟨_,rfl⟩;rw [show 3-t=k+1 by omega,<-hk];subst ho;rfl
theorem Mv{te:TypeId}{base g c:Nat}{w:World}{d:Array Int}(h:bj te base w g c d) (a b:Nat) (hab:a<=b) (hb:b<=d.size) (hn:d.size<=1000000):
 H_ 164 #[X_ (M_ g) d.size c,I_ a,I_ b] w fun e w'=>e=.returned (.tuple #[])/\bj te base w' g c (breakPatterns d a b)/\(breakPatterns d a b).size=d.size/\One g w w':=by
 obtain⟨L,hL⟩:∃L,L=b-a:=⟨_,rfl⟩;have hLI:(b:Int)-(a:Int)=L:=O_
 by_cases h8:L<8
 ·have hr:breakPatterns d a b=d:=by unfold breakPatterns;simp only [];rw [if_neg O_]
  have hd8:decide (8<=(L:Int))=false:=aP O_;rw [hr];clear hr hL
  go_enter func164,ntmps164
  go_wp2;go_end0;exact⟨by trivial,h,by trivial,One.refl _ _⟩
 ·have hd8:decide (8<=(L:Int))=true:=k_ O_;obtain⟨q,hq⟩:∃q,q=L/4:=⟨_,rfl⟩;have hqI:(L:Int)/4=q:=O_
  obtain⟨i0,gn⟩:∃i0,i0=a+L/4*2-1:=⟨_,rfl⟩;obtain⟨res,gD⟩:∃res,breakPatterns d a b=res:=⟨_,rfl⟩;have he:=QP d a b L i0 hL.symm O_ gn;rw [gD]at he⊢;have iF:i0+1=a+q*2:=O_
  have oZ:2<=q:=O_
  have yk:a<i0:=O_
  have EI:i0+2<a+L:=O_
  have e0:IntKind.i64.wrap ((q:Int)*2)=(q:Int)*2:=aM _ O_;have e1:IntKind.i64.wrap ((a:Int)+q*2)=(a:Int)+q*2:=aM _ O_;have e2:IntKind.i64.wrap ((a:Int)+q*2-1)=(i0:Int):=by rw [aM _ O_];omega
  have e3:IntKind.i64.wrap ((a:Int)+q*2+1)=(a:Int)+q*2+1:=aM _ O_;have e4:IntKind.u64.wrap (L:Int)=L:=by simp [IntKind.wrap,IntKind.bits,IntKind.signed];omega
  obtain⟨M,hM⟩:∃M:Nat,M=1 <<< bitsLen L:=⟨_,rfl⟩;have hM1:1<=M:=by rw [hM,Nat.one_shiftLeft];exact Nat.two_pow_pos _
  have th:M<=2*L:=by rw [hM,Nat.one_shiftLeft];exact two_pow_bitsLen_le O_
  have hNP:∀w,H_ 219 #[I_ (L:Int)] w fun e w'=>e=.returned (.int .u64 (M:Int))/\w'=w:=by rw [hM];exact fun w=>AnyF.nextPowerOfTwo npA L O_ w
  rw [<-hM]at he;have HNP:=ac5 hNP;have HE:=ac5 he;have LB:=h.lt;have se:g≠w.heap.size:=O_
  have jY:af (W_ w #[.int .u64 (L:Int)] 331) w 331 #[.int .u64 (L:Int)]:=af.new _ _ _;have CG:(UInt64.ofNat L).toNat=L:=by simp;omega
  have h0:=h.new ((ae.refl w).alloc (G_ #[.int .u64 (L:Int)] 331));have Pj:One g w (W_ w #[.int .u64 (L:Int)] 331):=(One.refl g w).alloc _;have ajB:=ac5 jY;have HU0:=ac5 CG;have aq0:i0+1<=a+q*2:=O_
  have aq1:a+q*2<=i0+1:=O_
  clear hNP he hM gn hq hL gD jY CG iF
  go_enter func164,ntmps164
  go_wp2_with (go_at_call 219;refine(HNP.out _).mono ?_;rintro e w' ⟨rfl,rfl⟩)
  go_loopw [9] (fun vi wr=>∃(x t:Nat) (r:UInt64) (dk:Array Int),vi=I_ x/\x<=i0+t/\i0+t<=x/\t<=3/\0<=t/\dk.size=d.size/\bj te base wr g c dk/\af wr w 331 #[.int .u64 (r.toNat:Int)]/\One g w wr/\Hid (bpRest a L M i0 (3-t) t (r,dk)=res)) (fun vi _=>i0+3-(intOf vi).toNat)
  case atStart=>exact⟨i0,0,UInt64.ofNat L,d,by go_num,O_,O_,O_,O_,rfl,h0,by rw [HU0.out];exact ajB.out,Pj,HE.out.symm⟩
  case round=>
   obtain⟨x,t,r,dk,rfl,jF,UN,ht3,_,jg,hR,hB,hO,HR⟩:=hrel;clear h h0 Pj;by_cases ht:t<3
   ·have hdl:decide ((x:Int)<=(a:Int)+q*2+1)=true:=k_ O_;obtain⟨R,hRr⟩:∃R:Nat,R=r.toNat:=⟨_,rfl⟩;have lR:R<18446744073709551616:=by rw [hRr];exact r.toNat_lt
    obtain⟨R',Xu⟩:∃R':Nat,R'=xorNextN R:=⟨_,rfl⟩;have lR':R'<18446744073709551616:=by rw [Xu];exact xorNextN_lt R lR
    obtain⟨O,hOo⟩:∃O:Nat,O=R'&&&(M-1):=⟨_,rfl⟩;have lO:O<=M-1:=by rw [hOo];exact Nat.and_le_right
    have aq3:bits .and .u64 (R':Int) ((M:Int)-1)=(O:Int):=by
     rw [show((M:Int)-1)=((M-1:Nat):Int) by omega,bits_and_u64_nat _ _ lR' O_,hOo]
    have eM:IntKind.u64.wrap ((M:Int)-1)=(M:Int)-1:=by simp [IntKind.wrap,IntKind.bits,IntKind.signed];omega
    have eO:IntKind.i64.wrap (O:Int)=O:=aM _ O_
    have HN:Hid ((xorNext r).toNat=R'/\O=(xorNext r).toNat&&&(M-1)):=by
     have e:R'=(xorNext r).toNat:=by rw [Xu,hRr,xorNext_toNat]
     exact⟨e.symm,by rw [hOo,e]⟩
    rw [<-hRr]at hB
    have Xv:H_ 220 #[Q_ w] wr fun e w'=>e=.returned (.int .u64 (R':Int))/\bj te base w' g c dk/\af w' w 331 #[.int .u64 (R':Int)]/\One g w w':=by
     refine(AnyF.xorshift_Next xsA w.heap.size 0 R lR wr (hB.cell 0) (hB.frozen 0)).mono ?_;rintro e w' ⟨rfl,rfl⟩;have lS:One w.heap.size wr ((wr.setCell (C_ w 0) (.int .u64 (xorNextN R:Nat))).drewN 3):=Fr.drewN (One.set (One.refl _ _) 0 _) 3;rw [Xu];refine⟨rfl,hR.fr lS (fun e=>se e),?_,Fr.trans' hO lS (fun _ hi e=>by subst e;omega)⟩;exact(hB.al 0 (.int .u64 (xorNextN R:Nat))).drewN 3
    have Xw:=ac5 Xv;clear Xv hRr Xu hOo hB hR hO;by_cases hLO:L<=O
    ·go_wp2_with (go_at_call 220;refine Xw.out.mono ?_;rintro e w2 ⟨rfl,fQ,qh,nJ⟩)
     have bT:=tJ a L M i0 t r dk (O-L) ht (by rw [<-HN.out.2];rw [if_pos hLO]);rw [HR.out]at bT;have iI:=ac5 bT;clear bT;have hj0:a+(O-L)<dk.size:=O_
     have fB:IntKind.i64.wrap ((O:Int)-L)=(O:Int)-L:=aM _ O_;have fW:IntKind.i64.wrap ((a:Int)+((O:Int)-L))=(a:Int)+((O:Int)-L):=aM _ O_;have jy:((a:Int)+((O:Int)-L)).toNat=a+(O-L):=O_
     have qC:0<=(a:Int)+((O:Int)-L):=O_
     have Iy:(a:Int)+((O:Int)-L)<d.size:=O_
     have hs6:(x:Int)<d.size:=O_
     have P6:IntKind.i64.wrap ((x:Int)+1)=(x:Int)+1:=aM _ O_;obtain⟨x1,jF⟩:∃xx,dk[x]! =xx:=⟨_,rfl⟩;obtain⟨y1,gM⟩:∃y,dk[a+(O-L)]! =y:=⟨_,rfl⟩;have iy:w2.cell? (C_ g x)=_:=fQ.cell (t:=x) O_;have iz:w2.cell? (C_ g (a+(O-L)))=_:=fQ.cell (t:=a+(O-L)) O_;have qQ:=fQ.frozen (x);have eC:=fQ.iJ (x) (a+(O-L));have a_:=One.iJ nJ (x) (a+(O-L)) (.int .u32 dk[a+(O-L)]!) (.int .u32 dk[x]!);obtain⟨z,hz⟩:=fQ.again (x) (a+(O-L)) dk[a+(O-L)]! O_;have tI:(w2.setCell (C_ g x) (.int .u32 dk[a+(O-L)]!)).frozen? (C_ g (a+(O-L)))=false:=(fQ.one (x) dk[a+(O-L)]!).frozen _;rw [jF]at iy eC a_;rw [gM]at iz eC a_ hz tI;have jz:=ac5 eC;have dP:=ac5 a_;clear jF gM eC a_;have nf:=(((qh.bL (p:=⟨g,x,none⟩) (fun e=>se e.symm) (U_ y1)).bL (p:=⟨g,a+(O-L),none⟩) (fun e=>se e.symm) (U_ x1))).drew;have HBX:=ac5 nf;clear nf;go_wp2_with fail
     go_region;all_goals go_wp2
     go_roundw
     case rel=>
      refine⟨x+1,t+1,xorNext r,_,by go_num,O_,O_,O_,O_,by rw [swp_size];exact jg,jz.out,by rw [HN.out.1];exact HBX.out,dP.out,?_⟩;rw [show x=i0+t by omega];exact iI.out.symm
     case measure=>simp [intOf]<;>omega
    ·go_wp2_with (go_at_call 220;refine Xw.out.mono ?_;rintro e w2 ⟨rfl,fQ,qh,nJ⟩)
     have bT:=tJ a L M i0 t r dk (O) ht (by rw [<-HN.out.2];rw [if_neg hLO]);rw [HR.out]at bT;have iI:=ac5 bT;clear bT;have hj0:a+O<dk.size:=O_
     have fB:IntKind.i64.wrap ((O:Int)-L)=(O:Int)-L:=aM _ O_;have fW:IntKind.i64.wrap ((a:Int)+O)=(a:Int)+O:=aM _ O_;have jy:((a:Int)+O).toNat=a+O:=O_
     have qC:0<=(a:Int)+O:=O_
     have Iy:(a:Int)+O<d.size:=O_
     have hs6:(x:Int)<d.size:=O_
     have P6:IntKind.i64.wrap ((x:Int)+1)=(x:Int)+1:=aM _ O_;obtain⟨x1,jF⟩:∃xx,dk[x]! =xx:=⟨_,rfl⟩;obtain⟨y1,gM⟩:∃y,dk[a+O]! =y:=⟨_,rfl⟩;have iy:w2.cell? (C_ g x)=_:=fQ.cell (t:=x) O_;have iz:w2.cell? (C_ g (a+O))=_:=fQ.cell (t:=a+O) O_;have qQ:=fQ.frozen (x);have eC:=fQ.iJ (x) (a+O);have a_:=One.iJ nJ (x) (a+O) (.int .u32 dk[a+O]!) (.int .u32 dk[x]!);obtain⟨z,hz⟩:=fQ.again (x) (a+O) dk[a+O]! O_;have tI:(w2.setCell (C_ g x) (.int .u32 dk[a+O]!)).frozen? (C_ g (a+O))=false:=(fQ.one (x) dk[a+O]!).frozen _;rw [jF]at iy eC a_;rw [gM]at iz eC a_ hz tI;have jz:=ac5 eC;have dP:=ac5 a_;clear jF gM eC a_;have nf:=(((qh.bL (p:=⟨g,x,none⟩) (fun e=>se e.symm) (U_ y1)).bL (p:=⟨g,a+O,none⟩) (fun e=>se e.symm) (U_ x1))).drew;have HBX:=ac5 nf;clear nf;go_wp2_with fail
     go_region;all_goals go_wp2
     go_roundw
     case rel=>
      refine⟨x+1,t+1,xorNext r,_,by go_num,O_,O_,O_,O_,by rw [swp_size];exact jg,jz.out,by rw [HN.out.1];exact HBX.out,dP.out,?_⟩;rw [show x=i0+t by omega];exact iI.out.symm
     case measure=>simp [intOf]<;>omega
   ·have hdl:decide ((x:Int)<=(a:Int)+q*2+1)=false:=aP O_;have hE:=HR.out;rw [show 3-t=0 by omega]at hE;have hE2:dk=res:=hE;subst hE2;clear hE;go_wp2;go_end0
    first|exact⟨rfl,hR,jg,hO⟩|exact⟨trivial,hR,jg,hO⟩|exact⟨rfl,hR,hO⟩|exact⟨trivial,hR,trivial,hO⟩
end
end Go.Proofs.YtliimglbbiebiaaGreatDoor
