import Derived.Test.YtliimglbbiebiaaGreatDoorGTopTimeAG
import Derived.Test.YtliimglbbiebiaaGreatDoorGTopTimeAH
import Derived.Test.YtliimglbbiebiaaGreatDoorGTopTimeAJ
import Derived.Test.YtliimglbbiebiaaGreatDoorGTopTimeAI
set_option maxRecDepth 100000
set_option maxHeartbeats 6400000
set_option linter.all false
namespace Go.Proofs.YtliimglbbiebiaaGreatDoor
open Go.Proofs.Tryz Go.RowKit Go.Maps
section
open Go.RowKit Go.Sort
theorem sN(d:Array Int) (a m pv:Nat) (d1:Array Int) (hd:swp d a pv=d1) (x:Int) (hx:d1[a]! =x) (u v:Nat)
 (hu:scanUp (fun y=>ltInt y x) d1 m (a+1)=u) (hv:scanDown (fun y=> !ltInt y x) d1 u m=v):
 partition ltInt d a (m+1) pv=if v<u then(v,true,swp d1 v a)else((partLoop ltInt a (u+1) (v-1) (swp d1 u v)).1,false,swp (partLoop ltInt a (u+1) (v-1) (swp d1 u v)).2 (partLoop ltInt a (u+1) (v-1) (swp d1 u v)).1 a):=by
 subst hd hx hu hv;rfl
theorem QO{te:TypeId}{base g c:Nat}{w:World}{d:Array Int}(h:bj te base w g c d) (a b pv:Nat) (ha:a<=pv) (hp:pv<b) (hb:b<=d.size) (hn:d.size<=1000000):
 H_ 170 #[X_ (M_ g) d.size c,I_ a,I_ b,I_ pv] w fun e w'=>e=.returned (.tuple #[I_ (partition ltInt d a b pv).1,R_ (partition ltInt d a b pv).2.1])/\bj te base w' g c (partition ltInt d a b pv).2.2/\(partition ltInt d a b pv).2.2.size=d.size/\One g w w':=by
 obtain⟨m,rfl⟩:∃m,b=m+1:=⟨b-1,O_⟩;have Tl:((m+1:Nat):Int)-1=m:=O_
 obtain⟨d1,np⟩:∃d1,swp d a pv=d1:=⟨_,rfl⟩;have fB:d1.size=d.size:=by rw [<-np,swp_size]
 obtain⟨x,hx⟩:∃x,d1[a]! =x:=⟨_,rfl⟩;obtain⟨u,hu⟩:∃u,scanUp (fun y=>ltInt y x) d1 m (a+1)=u:=⟨_,rfl⟩;obtain⟨v,hv⟩:∃v,scanDown (fun y=> !ltInt y x) d1 u m=v:=⟨_,rfl⟩;have gD:=sN d a m pv d1 np x hx u v hu hv;obtain⟨r,hr⟩:∃r,partition ltInt d a (m+1) pv=r:=⟨_,rfl⟩;rw [hr]at gD⊢;have Bg:=ac5 gD;clear gD hr;obtain⟨bI,Xp⟩:∃bI:Int,bI=((m+1:Nat):Int):=⟨_,rfl⟩;rw [<-Xp]at Tl⊢;have eP:bI<=1000001:=O_
 have Kp:=One.refl g w;have pU:(a:Int)<d.size:=O_
 have hpp:(pv:Int)<d.size:=O_
 clear Xp;obtain⟨x1,jF⟩:∃x,d[a]! =x:=⟨_,rfl⟩;obtain⟨y1,gM⟩:∃y,d[pv]! =y:=⟨_,rfl⟩;have iy:w.cell? (C_ g a)=_:=h.cell (t:=a) O_;have iz:w.cell? (C_ g pv)=_:=h.cell (t:=pv) O_;have qQ:=h.frozen a;have eC:=h.iJ a pv;have a_:=One.iJ Kp a pv (.int .u32 d[pv]!) (.int .u32 d[a]!);obtain⟨z,hz⟩:=h.again a pv d[pv]! O_;have tI:(w.setCell (C_ g a) (.int .u32 d[pv]!)).frozen? (C_ g pv)=false:=(h.one a d[pv]!).frozen _;rw [jF]at iy eC a_;rw [gM]at iz eC a_ hz tI;rw [np]at eC;have jz:=ac5 eC;have dP:=ac5 a_;clear jF gM eC a_;have pO:=scanUp_spec (fun y=>ltInt y x) d1 m _ (a+1) rfl;have ic:=scanDown_spec (fun y=> !ltInt y x) d1 u m;rw [hu]at pO;rw [hv]at ic;have GX:=pO.1;have Ut:=pO.2.1 O_;have fE:=ic.1
 have Ms:u<=v->u<v:=by
  intro h;rcases GA u v with h'|h'
  ·exact h'
  ·obtain rfl:u=v:=O_
   have f1:=pO.2.2.2 O_;have f2:=ic.2.2.2 h O_;rw [f1]at f2
   cases f2
 have HU:=ac5 hu;have HV:=ac5 hv;have HX:=ac5 hx;clear np pO ic hu hv hx;have lU:a+1<=m+1:=O_
 go_enter func170,ntmps170
 go_upto_block 0 with(first|go_region|fail)
 have Xq:=jz.out;have hO0:=dP.out
 go_cut [10] (fun s10 wx=>s10=I_ u/\bj te base wx g c d1/\One g w wx)
 case first=>
  go_wp2_with fail
  go_loopw [10] (fun vi wr=>∃i':Nat,vi=I_ i'/\(a+1)<=i'/\i'<=m+1/\bj te base wr g c d1/\One g w wr/\Hid (scanUp (fun y=>ltInt y x) d1 m i'=u)) (fun vi _=>m+1-(intOf vi).toNat)
  case atStart=>exact⟨(a+1),by first|rfl|go_num,aA _,O_,Xq,hO0,HU⟩
  case round=>
   obtain⟨i',rfl,fE,dR,gS,lS,sM⟩:=hrel;clear Xq hO0;by_cases hle:i'<=m
   ·have CF:decide ((i':Int)<=m)=true:=k_ O_;have EG:i'<d1.size:=O_
    obtain⟨y,hy⟩:∃y,d1[i']! =y:=⟨_,rfl⟩;have sJ:=fun n=>(gS.drewN n).cell (t:=a) O_;have pV:=fun n=>(gS.drewN n).cell (t:=i') EG;have iu:=scanUp_go (fun y=>ltInt y x) d1 m i' hle;have hstop:=fun h=>gv (fun y=>ltInt y x) d1 m i' (.inr h);rw [HX.out]at sJ;rw [hy]at pV iu hstop;clear hy;obtain⟨q,hq⟩:∃q,ltInt y x=q:=⟨_,rfl⟩;simp only [hq]at iu hstop;have cm:∀W,H_ 168 #[U_ y,U_ x] W fun e w'=>e=.returned (R_ q)/\w'=W:=fun W=>by rw [<-hq];exact dD _ _ _
    have dE:=ac5 cm;have uT:=ac5 iu;have dM:=ac5 hstop;clear cm iu hstop hq;have fB:IntKind.i64.wrap ((i':Int)+1)=(i':Int)+1:=aM _ O_
    cases q
    ·go_wp2_with fail
     go_quiet ((go_at_call 168;with_reducible (first|exact cO dE.out|exact cN dE.out|exact cP dE.out)))
     go_wp2
     go_meet
     have hu:=sM.out;rw [dM.out (by first|exact trivial|exact rfl)]at hu;exact⟨congrArg (fun n:Nat=>Value.int .i64 n) hu,gS.drewN _,lS.drewN _⟩
    ·go_wp2_with fail
     go_quiet ((go_at_call 168;with_reducible (first|exact cO dE.out|exact cN dE.out|exact cP dE.out)))
     go_wp2;go_roundw
     case rel=>exact⟨i'+1,by first|rfl|(congr 1;omega),O_,O_,gS.drewN _,lS.drewN _,by show scanUp (fun y=>ltInt y x) d1 m (i'+1)=u;rw [<-sM.out,uT.out (by first|exact trivial|exact rfl)]⟩
     case measure=>simp [intOf]<;>omega
   ·have CF:decide ((i':Int)<=m)=false:=aP O_;have hstop:=gv (fun y=>ltInt y x) d1 m i' (.inl hle);have dM:=ac5 hstop;clear hstop;go_wp2_with fail
    go_quiet (fail)
    go_wp2
    go_meet
    have hu:=sM.out;rw [dM.out]at hu;exact⟨congrArg (fun n:Nat=>Value.int .i64 n) hu,gS.drewN _,lS.drewN _⟩
 case rest=>
  obtain⟨rfl,mH,pS⟩:=hcut;clear Xq hO0 h
  go_upto_block 2 with fail
  go_cut [11] (fun s11 wx=>s11=I_ v/\bj te base wx g c d1/\One g w wx)
  case first=>
   go_wp2_with fail
   go_loopw [11] (fun vi wr=>∃j':Nat,vi=I_ j'/\j'<=m/\u<=j'+1/\bj te base wr g c d1/\One g w wr/\Hid (scanDown (fun y=> !ltInt y x) d1 u j'=v)) (fun vi _=>(intOf vi).toNat)
   case atStart=>exact⟨m,by first|rfl|go_num,aA _,O_,mH,pS,HV⟩
   case round=>
    obtain⟨j',rfl,fE,dR,gS,lS,sM⟩:=hrel;clear mH pS;by_cases hle:u<=j'
    ·have CF:decide ((u:Int)<=j')=true:=k_ O_;have EG:j'<d1.size:=O_
     obtain⟨y,hy⟩:∃y,d1[j']! =y:=⟨_,rfl⟩;have sJ:=fun n=>(gS.drewN n).cell (t:=a) O_;have pV:=fun n=>(gS.drewN n).cell (t:=j') EG;have iu:=scanDown_go (fun y=> !ltInt y x) d1 u j' hle O_;have hstop:=fun h=>fa (fun y=> !ltInt y x) d1 u j' (.inr h);rw [HX.out]at sJ;rw [hy]at pV iu hstop;clear hy;obtain⟨q,hq⟩:∃q,ltInt y x=q:=⟨_,rfl⟩;simp only [hq]at iu hstop;have cm:∀W,H_ 168 #[U_ y,U_ x] W fun e w'=>e=.returned (R_ q)/\w'=W:=fun W=>by rw [<-hq];exact dD _ _ _
     have dE:=ac5 cm;have uT:=ac5 iu;have dM:=ac5 hstop;clear cm iu hstop hq;have fB:IntKind.i64.wrap ((j':Int)-1)=(j':Int)-1:=aM _ O_
     cases q
     ·go_wp2_with fail
      go_quiet ((go_at_call 168;with_reducible (first|exact cO dE.out|exact cN dE.out|exact cP dE.out)))
      go_wp2;go_roundw
      case rel=>exact⟨j'-1,by first|rfl|(congr 1;omega),O_,O_,gS.drewN _,lS.drewN _,by show scanDown (fun y=> !ltInt y x) d1 u (j'-1)=v;rw [<-sM.out,uT.out (by first|exact trivial|exact rfl)]⟩
      case measure=>simp [intOf]<;>omega
     ·go_wp2_with fail
      go_quiet ((go_at_call 168;with_reducible (first|exact cO dE.out|exact cN dE.out|exact cP dE.out)))
      go_wp2
      go_meet
      have hu:=sM.out;rw [dM.out (by first|exact trivial|exact rfl)]at hu;exact⟨congrArg (fun n:Nat=>Value.int .i64 n) hu,gS.drewN _,lS.drewN _⟩
    ·have CF:decide ((u:Int)<=j')=false:=aP O_;have hstop:=fa (fun y=> !ltInt y x) d1 u j' (.inl hle);have dM:=ac5 hstop;clear hstop;go_wp2_with fail
     go_quiet (fail)
     go_wp2
     go_meet
     have hu:=sM.out;rw [dM.out]at hu;exact⟨congrArg (fun n:Nat=>Value.int .i64 n) hu,gS.drewN _,lS.drewN _⟩
  case rest=>
   obtain⟨rfl,fQ,nJ⟩:=hcut;clear mH pS;obtain⟨wo,rfl⟩:∃wo:World,wo=wc:=⟨_,rfl⟩;clear iy iz qQ hz tI jz dP;by_cases U4:v<u
   ·have hE:=Bg.out;rw [if_pos U4]at hE;subst hE;obtain⟨x1,jF⟩:∃x,d1[v]! =x:=⟨_,rfl⟩;obtain⟨y1,gM⟩:∃y,d1[a]! =y:=⟨_,rfl⟩;have iy:wo.cell? (C_ g v)=_:=fQ.cell (t:=v) O_;have iz:wo.cell? (C_ g a)=_:=fQ.cell (t:=a) O_;have qQ:=fQ.frozen v;have eC:=fQ.iJ v a;have a_:=One.iJ nJ v a (.int .u32 d1[a]!) (.int .u32 d1[v]!);obtain⟨z,hz⟩:=fQ.again v a d1[a]! O_;have tI:(wo.setCell (C_ g v) (.int .u32 d1[a]!)).frozen? (C_ g a)=false:=(fQ.one v d1[a]!).frozen _;rw [jF]at iy eC a_;rw [gM]at iz eC a_ hz tI;have jz:=ac5 eC;have dP:=ac5 a_;clear jF gM eC a_;go_wp2_with fail
    go_region;all_goals go_wp2
    go_ret2;exact⟨rfl,jz.out,by rw [swp_size];exact fB,dP.out⟩
   ·have Zp:=Ms O_;have hE:=Bg.out;rw [if_neg U4]at hE;obtain⟨rl,hrl⟩:∃rl,partLoop ltInt a (u+1) (v-1) (swp d1 u v)=rl:=⟨_,rfl⟩;rw [hrl]at hE;subst hE;have HRL:=ac5 hrl;clear hrl;obtain⟨x1,jF⟩:∃x,d1[u]! =x:=⟨_,rfl⟩;obtain⟨y1,gM⟩:∃y,d1[v]! =y:=⟨_,rfl⟩;have iy:wo.cell? (C_ g u)=_:=fQ.cell (t:=u) O_;have iz:wo.cell? (C_ g v)=_:=fQ.cell (t:=v) O_;have qQ:=fQ.frozen u;have eC:=fQ.iJ u v;have a_:=One.iJ nJ u v (.int .u32 d1[v]!) (.int .u32 d1[u]!);obtain⟨z,hz⟩:=fQ.again u v d1[v]! O_;have tI:(wo.setCell (C_ g u) (.int .u32 d1[v]!)).frozen? (C_ g v)=false:=(fQ.one u d1[v]!).frozen _;rw [jF]at iy eC a_;rw [gM]at iz eC a_ hz tI;have jz:=ac5 eC;have dP:=ac5 a_;clear jF gM eC a_
    go_upto_block 4 with(first|go_region|fail)
    go_wp2_with fail
    go_loopg [10,11] (m+1) (fun k vi vj wr=>∃(i j:Nat) (dk:Array Int),vi=I_ i/\vj=I_ j/\a<i/\i<=j+1/\j<=m/\j+1-i<=k/\dk.size=d.size/\bj te base wr g c dk/\One g w wr/\Hid (partLoop ltInt a i j dk=rl))
    case atStart=>
     exact⟨u+1,v-1,_,by go_num,by congr 1;omega,O_,O_,O_,O_,by rw [swp_size];exact fB,jz.out,dP.out,HRL⟩
    case round=>
     obtain⟨i,j,dk,rfl,rfl,WH,G9,hjm,hk,jg,hR,hO,HE⟩:=hrel;obtain⟨wo,rfl⟩:∃wo:World,wo=wr:=⟨_,rfl⟩;clear fQ nJ iy iz qQ hz tI jz dP HU HV HX HRL Ms U4 Zp GX Ut fE;obtain⟨x,hx⟩:∃x,dk[a]! =x:=⟨_,rfl⟩;obtain⟨u,hu⟩:∃u,scanUp (fun y=>ltInt y x) dk j i=u:=⟨_,rfl⟩;obtain⟨v,hv⟩:∃v,scanDown (fun y=> !ltInt y x) dk u j=v:=⟨_,rfl⟩;have dz:=partLoop_eq ltInt a i j dk;rw [hx,hu,hv]at dz;have iI:=ac5 dz;clear dz;have pO:=scanUp_spec (fun y=>ltInt y x) dk j _ (i) rfl;have ic:=scanDown_spec (fun y=> !ltInt y x) dk u j;rw [hu]at pO;rw [hv]at ic;have GX:=pO.1;have Ut:=pO.2.1 O_;have fE:=ic.1
     have Ms:u<=v->u<v:=by
      intro h;rcases GA u v with h'|h'
      ·exact h'
      ·obtain rfl:u=v:=O_
       have f1:=pO.2.2.2 O_;have f2:=ic.2.2.2 h O_;rw [f1]at f2
       cases f2
     have HU:=ac5 hu;have HV:=ac5 hv;have HX:=ac5 hx;clear pO ic hu hv hx
     go_upto_block 6 with fail
     go_cut [10] (fun s10 wx=>s10=I_ u/\bj te base wx g c dk/\One g w wx)
     case first=>
      go_wp2_with fail
      go_loopw [10] (fun vi wr=>∃i':Nat,vi=I_ i'/\i<=i'/\i'<=j+1/\bj te base wr g c dk/\One g w wr/\Hid (scanUp (fun y=>ltInt y x) dk j i'=u)) (fun vi _=>j+1-(intOf vi).toNat)
      case atStart=>exact⟨i,by first|rfl|go_num,aA _,O_,hR,hO,HU⟩
      case round=>
       obtain⟨i',rfl,fE,dR,gS,lS,sM⟩:=hrel;clear hR hO;by_cases hle:i'<=j
       ·have CF:decide ((i':Int)<=j)=true:=k_ O_;have EG:i'<dk.size:=O_
        obtain⟨y,hy⟩:∃y,dk[i']! =y:=⟨_,rfl⟩;have sJ:=fun n=>(gS.drewN n).cell (t:=a) O_;have pV:=fun n=>(gS.drewN n).cell (t:=i') EG;have iu:=scanUp_go (fun y=>ltInt y x) dk j i' hle;have hstop:=fun h=>gv (fun y=>ltInt y x) dk j i' (.inr h);rw [HX.out]at sJ;rw [hy]at pV iu hstop;clear hy;obtain⟨q,hq⟩:∃q,ltInt y x=q:=⟨_,rfl⟩;simp only [hq]at iu hstop;have cm:∀W,H_ 168 #[U_ y,U_ x] W fun e w'=>e=.returned (R_ q)/\w'=W:=fun W=>by rw [<-hq];exact dD _ _ _
        have dE:=ac5 cm;have uT:=ac5 iu;have dM:=ac5 hstop;clear cm iu hstop hq;have fB:IntKind.i64.wrap ((i':Int)+1)=(i':Int)+1:=aM _ O_
        cases q
        ·go_wp2_with fail
         go_quiet ((go_at_call 168;with_reducible (first|exact cO dE.out|exact cN dE.out|exact cP dE.out)))
         go_wp2
         go_meet
         have hu:=sM.out;rw [dM.out (by first|exact trivial|exact rfl)]at hu;exact⟨congrArg (fun n:Nat=>Value.int .i64 n) hu,gS.drewN _,lS.drewN _⟩
        ·go_wp2_with fail
         go_quiet ((go_at_call 168;with_reducible (first|exact cO dE.out|exact cN dE.out|exact cP dE.out)))
         go_wp2;go_roundw
         case rel=>exact⟨i'+1,by first|rfl|(congr 1;omega),O_,O_,gS.drewN _,lS.drewN _,by show scanUp (fun y=>ltInt y x) dk j (i'+1)=u;rw [<-sM.out,uT.out (by first|exact trivial|exact rfl)]⟩
         case measure=>simp [intOf]<;>omega
       ·have CF:decide ((i':Int)<=j)=false:=aP O_;have hstop:=gv (fun y=>ltInt y x) dk j i' (.inl hle);have dM:=ac5 hstop;clear hstop;go_wp2_with fail
        go_quiet (fail)
        go_wp2
        go_meet
        have hu:=sM.out;rw [dM.out]at hu;exact⟨congrArg (fun n:Nat=>Value.int .i64 n) hu,gS.drewN _,lS.drewN _⟩
     case rest=>
      obtain⟨rfl,mH,pS⟩:=hcut;clear hR hO
      go_upto_block 8 with fail
      go_cut [11] (fun s11 wx=>s11=I_ v/\bj te base wx g c dk/\One g w wx)
      case first=>
       go_wp2_with fail
       go_loopw [11] (fun vi wr=>∃j':Nat,vi=I_ j'/\j'<=j/\u<=j'+1/\bj te base wr g c dk/\One g w wr/\Hid (scanDown (fun y=> !ltInt y x) dk u j'=v)) (fun vi _=>(intOf vi).toNat)
       case atStart=>exact⟨j,by first|rfl|go_num,aA _,O_,mH,pS,HV⟩
       case round=>
        obtain⟨j',rfl,fE,dR,gS,lS,sM⟩:=hrel;clear mH pS;by_cases hle:u<=j'
        ·have CF:decide ((u:Int)<=j')=true:=k_ O_;have EG:j'<dk.size:=O_
         obtain⟨y,hy⟩:∃y,dk[j']! =y:=⟨_,rfl⟩;have sJ:=fun n=>(gS.drewN n).cell (t:=a) O_;have pV:=fun n=>(gS.drewN n).cell (t:=j') EG;have iu:=scanDown_go (fun y=> !ltInt y x) dk u j' hle O_;have hstop:=fun h=>fa (fun y=> !ltInt y x) dk u j' (.inr h);rw [HX.out]at sJ;rw [hy]at pV iu hstop;clear hy;obtain⟨q,hq⟩:∃q,ltInt y x=q:=⟨_,rfl⟩;simp only [hq]at iu hstop;have cm:∀W,H_ 168 #[U_ y,U_ x] W fun e w'=>e=.returned (R_ q)/\w'=W:=fun W=>by rw [<-hq];exact dD _ _ _
         have dE:=ac5 cm;have uT:=ac5 iu;have dM:=ac5 hstop;clear cm iu hstop hq;have fB:IntKind.i64.wrap ((j':Int)-1)=(j':Int)-1:=aM _ O_
         cases q
         ·go_wp2_with fail
          go_quiet ((go_at_call 168;with_reducible (first|exact cO dE.out|exact cN dE.out|exact cP dE.out)))
          go_wp2;go_roundw
          case rel=>exact⟨j'-1,by first|rfl|(congr 1;omega),O_,O_,gS.drewN _,lS.drewN _,by show scanDown (fun y=> !ltInt y x) dk u (j'-1)=v;rw [<-sM.out,uT.out (by first|exact trivial|exact rfl)]⟩
          case measure=>simp [intOf]<;>omega
         ·go_wp2_with fail
          go_quiet ((go_at_call 168;with_reducible (first|exact cO dE.out|exact cN dE.out|exact cP dE.out)))
          go_wp2
          go_meet
          have hu:=sM.out;rw [dM.out (by first|exact trivial|exact rfl)]at hu;exact⟨congrArg (fun n:Nat=>Value.int .i64 n) hu,gS.drewN _,lS.drewN _⟩
        ·have CF:decide ((u:Int)<=j')=false:=aP O_;have hstop:=fa (fun y=> !ltInt y x) dk u j' (.inl hle);have dM:=ac5 hstop;clear hstop;go_wp2_with fail
         go_quiet (fail)
         go_wp2
         go_meet
         have hu:=sM.out;rw [dM.out]at hu;exact⟨congrArg (fun n:Nat=>Value.int .i64 n) hu,gS.drewN _,lS.drewN _⟩
      case rest=>
       obtain⟨rfl,fQ,nJ⟩:=hcut;clear mH pS;obtain⟨wo,rfl⟩:∃wo:World,wo=wc:=⟨_,rfl⟩;by_cases U4:v<u
       ·have hE:=iI.out;rw [if_pos U4,HE.out]at hE;subst hE;obtain⟨x1,jF⟩:∃x,dk[v]! =x:=⟨_,rfl⟩;obtain⟨y1,gM⟩:∃y,dk[a]! =y:=⟨_,rfl⟩;have iy:wo.cell? (C_ g v)=_:=fQ.cell (t:=v) O_;have iz:wo.cell? (C_ g a)=_:=fQ.cell (t:=a) O_;have qQ:=fQ.frozen v;have eC:=fQ.iJ v a;have a_:=One.iJ nJ v a (.int .u32 dk[a]!) (.int .u32 dk[v]!);obtain⟨z,hz⟩:=fQ.again v a dk[a]! O_;have tI:(wo.setCell (C_ g v) (.int .u32 dk[a]!)).frozen? (C_ g a)=false:=(fQ.one v dk[a]!).frozen _;rw [jF]at iy eC a_;rw [gM]at iz eC a_ hz tI;have jz:=ac5 eC;have dP:=ac5 a_;clear jF gM eC a_;go_wp2_with fail
        go_region;all_goals go_wp2
        go_ret2;exact⟨rfl,jz.out,by show(swp dk v a).size=_;rw [swp_size];exact jg,dP.out⟩
       ·have Zp:=Ms O_;have hE:=iI.out;rw [if_neg U4,HE.out]at hE;have ED:=ac5 hE;clear hE;obtain⟨x1,jF⟩:∃x,dk[u]! =x:=⟨_,rfl⟩;obtain⟨y1,gM⟩:∃y,dk[v]! =y:=⟨_,rfl⟩;have iy:wo.cell? (C_ g u)=_:=fQ.cell (t:=u) O_;have iz:wo.cell? (C_ g v)=_:=fQ.cell (t:=v) O_;have qQ:=fQ.frozen u;have eC:=fQ.iJ u v;have a_:=One.iJ nJ u v (.int .u32 dk[v]!) (.int .u32 dk[u]!);obtain⟨z,hz⟩:=fQ.again u v dk[v]! O_;have tI:(wo.setCell (C_ g u) (.int .u32 dk[v]!)).frozen? (C_ g v)=false:=(fQ.one u dk[v]!).frozen _;rw [jF]at iy eC a_;rw [gM]at iz eC a_ hz tI;have jz:=ac5 eC;have dP:=ac5 a_;clear jF gM eC a_;go_wp2_with fail
        go_region;all_goals go_wp2
        go_roundg (v-1+1-(u+1))
        case measure=>omega
        case rel=>exact⟨u+1,v-1,_,by go_num,by congr 1;omega,O_,O_,O_,aA _,by rw [swp_size];exact jg,jz.out,dP.out,ED.out.symm⟩
end
section
open Go.RowKit Go.Sort
theorem eighth{x y p q:Nat}(h1:q<=p) (h2:y<=x):decide (((x:Int)-(y:Int))/8<=(p:Int)-(q:Int))=decide (p-q>=(x-y)/8):=
 decide_eq_decide.2 ⟨fun h=>O_,fun h=>O_⟩
theorem U6{te:TypeId}{base g c:Nat}:∀(N:Nat) (w:World) (d:Array Int) (a b limit:Nat),b-a<N->bj te base w g c d->a<=b->b<=d.size->d.size<=1000000->limit<=1000->Below ltInt a b d->
 H_ 117 #[X_ (M_ g) d.size c,I_ a,I_ b,I_ limit] w fun e w'=>e=.returned (.tuple #[])/\bj te base w' g c (pdq ltInt d a b limit true true)/\(pdq ltInt d a b limit true true).size=d.size/\One g w w':=by
 intro N
 induction N with
 |zero=>intro _ _ _ _ _ h;exact absurd h (Nat.not_lt_zero _)
 |succ N ih=>
  intro w d a b limit hN h hab hb hn ajJ Xx;obtain⟨res,gD⟩:∃res,pdq ltInt d a b limit true true=res:=⟨_,rfl⟩;rw [gD];have Bg:=ac5 gD;clear gD
  go_enter func117,ntmps117
  go_wp2
  go_loopg [1,2,3,8,9] (b-a) (fun k s1 s2 s3 s8 s9 wr=>∃(a' b' lim:Nat) (wb wp:Bool) (dk:Array Int),s1=I_ a'/\s2=I_ b'/\s3=I_ lim/\s8=R_ wb/\s9=R_ wp/\
   a'<=b'/\b'<=d.size/\b'-a'<=k/\k<=b-a/\lim<=limit/\dk.size=d.size/\Below ltInt a' b' dk/\bj te base wr g c dk/\One g w wr/\Hid (pdq ltInt dk a' b' lim wb wp=res))
  case atStart=>exact⟨a,b,limit,true,true,d,rfl,rfl,rfl,rfl,rfl,hab,hb,aA _,aA _,aA _,rfl,Xx,h,One.refl _ _,Bg⟩
  case round=>
   obtain⟨a',b',lim,wb,wp,dk,rfl,rfl,rfl,rfl,rfl,ad7,ng,eA,kI,Ud,CA,ajK,hR,hO,HE⟩:=hrel;obtain⟨wo,rfl⟩:∃wo:World,wo=wr:=⟨_,rfl⟩;clear h Xx;have sI:IntKind.i64.wrap ((b':Int)-a')=(b':Int)-a':=aM _ O_;by_cases IA:b'-a'<=12
   ·have ajL:decide ((b':Int)-(a':Int)<=12)=true:=k_ O_;have hc:=yE hR a' b' ad7 O_ O_;have hE:=HE.out;rw [pdq_small IA]at hE;rw [hE,CA]at hc;have HC:=ac5 hc;clear hc hE;go_wp2_with (go_at_call 162;refine HC.out.mono ?_;rintro e w1 ⟨rfl,mH,fB,pS⟩)
    (try simp only [Exit.inBlock,Exit.then]);refine r_ (G6 rfl _ _ _) rfl ?_
    exact⟨rfl,mH,fB,hO.trans pS⟩
   ·have ajL:decide ((b':Int)-(a':Int)<=12)=false:=aP O_;by_cases pQ:lim=0
    ·subst pQ;have hc:=QM hR a' b' (b'-a') O_ O_ O_;have hE:=HE.out;rw [pdq_heap IA rfl]at hE;rw [hE,CA]at hc;have HC:=ac5 hc;clear hc hE;go_wp2_with (go_at_call 163;refine HC.out.mono ?_;rintro e w1 ⟨rfl,mH,fB,pS⟩)
     (try simp only [Exit.inBlock,Exit.then]);refine r_ (G6 rfl _ _ _) rfl ?_
     exact⟨rfl,mH,fB,hO.trans pS⟩
    ·have aq7:((lim:Int)==0)=false:=by simp;omega
     have aq8:¬((lim:Int)=0):=O_
     obtain⟨d1,lm,cc,ch,d2,pv,ht,d3,dn,F⟩:=RdF.make dk a' b' lim wb wp IA pQ O_ ajK;have NS:=F.ad5;have aq9:=F.ajD;have aq_:=F.ajE;have ad8:=F.ajG;have QQ:=F.ajH;have fB:=F.s1.trans CA;have fW:=F.s2.trans CA;have jy:=F.s3.trans CA;have Xy:=ac5 fB;have jO:=ac5 fW;have Gl:=ac5 jy;have Tm:=ac5 CA;clear fB fW jy CA
     go_upto_if 35 with fail
     go_cut [3] from 19 (fun s3 wc=>s3=I_ lm/\bj te base wc g c d1/\One g w wc)
     case first=>
      cases wb
      ·obtain⟨e1,e2⟩:=F.brk rfl;have hc:=Mv hR a' b' ad7 (by rw [Tm.out];omega) (by rw [Tm.out];omega);rw [e1,Tm.out]at hc;have HC:=ac5 hc;clear hc e1;go_wp2_with (go_at_call 164;refine HC.out.mono ?_;rintro e w1 ⟨rfl,mH,fB,pS⟩)
       go_meet
       case rel=>
        refine⟨?_,mH,hO.trans pS⟩
        show Value.int .i64 ((lim:Int)-1)=Value.int .i64 (lm:Int)
        congr 1
        omega
      ·obtain⟨e1,e2⟩:=F.bal rfl;subst e1 e2;go_wp2_with fail
       go_meet
       case rel=>exact⟨rfl,hR,hO⟩
     case rest=>
      obtain⟨rfl,mH,pS⟩:=hcut;clear hR hO;have hc:=Iw mH a' b' O_ (by rw [Xy.out];omega) (by rw [Xy.out];omega);rw [F.cp,Xy.out]at hc;have HC:=ac5 hc;clear hc
      go_upto_if 50 with(go_at_call 165;refine HC.out.mono ?_;rintro e w2 ⟨rfl,iQ⟩)
      have fQ:=mH.new iQ;have nJ:One g w w2:=Fr.trans' pS iQ (fun _ _ e=>e.elim);clear mH pS
      go_cut [11,12] from 19 (fun s11 s12 wc=>s11=I_ pv/\s12=I_ (hintCode ht)/\bj te base wc g c d2/\One g w wc)
      case first=>
       by_cases hh:ch=.decreasing
       ·obtain⟨e2,epv,eht⟩:=F.dec hh;have hcd:(hintCode ch==2)=true:=by rw [hh];rfl
        have Xz:hintCode ch=2:=by rw [hh];rfl
        have hc:=EF fQ a' b' O_ (by rw [Xy.out];omega) (by rw [Xy.out];omega);rw [e2,Xy.out]at hc;have HC2:=ac5 hc;have HEH:=ac5 eht;have HPV:=ac5 epv;clear hc e2 eht epv;go_wp2_with (go_at_call 166;refine HC2.out.mono ?_;rintro e w3 ⟨rfl,Xt,jy,SU⟩)
        go_meet
        case rel=>
         refine⟨?_,by rw [HEH.out];rfl,Xt,nJ.trans SU⟩;have:=HPV.out
         congr 1
         omega
       ·obtain⟨e2,epv,eht⟩:=F.ajF hh;have hcd:(hintCode ch==2)=false:=by cases ch<;>simp [hintCode]at hh⊢
        have Xz:¬hintCode ch=2:=by cases ch<;>simp [hintCode]at hh⊢
        subst e2 epv eht;go_wp2_with fail
        go_meet
        case rel=>exact⟨rfl,rfl,fQ,nJ⟩
      case rest=>
       obtain⟨rfl,rfl,Xt,SU⟩:=hcut;clear fQ nJ
       go_upto_region 15 with fail
       go_cut [12,68] from 19 (fun s12 s68 wx=>s12=I_ (hintCode ht)/\s68=R_ (wb&&wp&&decide (ht=.increasing))/\bj te base wx g c d2/\One g w wx)
       case first=>
        cases wb<;>cases wp<;>cases ht<;>
         (simp only [hintCode]
          go_wp2_with fail
          go_meet
          exact⟨rfl,S_,Xt,SU⟩)
       case rest=>
        obtain⟨rfl,rfl,hR4,hO4⟩:=hcut;clear Xt SU
        go_upto_if 68 with fail
        go_cut [] from 19 (fun wx=>dn=false/\bj te base wx g c d3/\One g w wx)
        case first=>
         cases h68:(wb&&wp&&decide (ht=.increasing))
         ·obtain⟨e3,e4⟩:=F.ajI h68;subst e3;have E4:=ac5 e4;clear e4;go_wp2_with fail
          go_meet
          case rel=>exact⟨E4.out,hR4,hO4⟩
         ·have e3:=F.par h68;have hc:=EH hR4 a' b' O_ (by rw [jO.out];omega) (by rw [jO.out];omega);rw [e3,jO.out]at hc;have HC3:=ac5 hc;clear hc e3
          cases dn
          ·go_wp2_with (go_at_call 167;refine HC3.out.mono ?_;rintro e w4 ⟨rfl,Tn,Iy,XA⟩)
           go_meet
           case rel=>exact⟨by first|rfl|trivial,Tn,hO4.trans XA⟩
          ·have hE:=F.fin rfl;rw [HE.out]at hE;subst hE;go_wp2_with (go_at_call 167;refine HC3.out.mono ?_;rintro e w4 ⟨rfl,Tn,Iy,XA⟩)
           (try simp only [Exit.inBlock,Exit.then]);refine r_ (G6 rfl _ _ _) rfl ?_
           exact⟨rfl,Tn,Iy,hO4.trans XA⟩
        case rest=>
         obtain⟨hdn,Tn,XA⟩:=hcut;have HDN:=ac5 hdn;clear hR4 hO4 hdn;obtain⟨T,hT⟩:∃T,(decide (a'>0)&& !ltInt d3[a'-1]! d3[pv]!)=T:=⟨_,rfl⟩;have FT:=F.eq_ HDN.out;have FP:=F.part HDN.out;rw [hT]at FT FP;have hpe:=Iz (w:=wc) Tn a' b' pv ad8 QQ (by rw [Gl.out];omega) (by rw [Gl.out];omega)
         go_upto_region 17 with fail
         go_cut [87] from 19 (fun s87 wx=>s87=R_ T/\bj te base wx g c d3/\One g w wx)
         case first=>
          clear hpe;have HFT:=ac5 FT;have HFP:=ac5 FP;clear FT FP;rcases Pl a' with ha0|ha0
          ·have ha0z:decide ((a':Int)>0)=false:=aP O_;have ajO:decide (0<(a':Int))=false:=aP O_;have are:decide (0<a')=false:=aP O_;have ajP:¬0<a':=O_
           have hTf:T=false:=by rw [<-hT,aP (by omega:¬a'>0)];rfl
           clear hT ha0 ajP;subst hTf
           go_quiet (fail)
           go_wp2
           go_meet
           case rel=>exact⟨by first|rfl|simp,Tn.drewN _,XA.drewN _⟩
          ·have ha0z:decide ((a':Int)>0)=true:=k_ O_;have ajO:decide (0<(a':Int))=true:=k_ O_;have are:decide (0<a')=true:=k_ O_;have oZ:IntKind.i64.wrap ((a':Int)-1)=(a':Int)-1:=aM _ O_;have pa:((a':Int)-1).toNat=a'-1:=O_
           have hq3:0<=(a':Int)-1:=O_
           have hq4:(a':Int)-1<d.size:=O_
           have hq5:(pv:Int)<d.size:=O_
           obtain⟨y1,gM⟩:∃y,d3[a'-1]! =y:=⟨_,rfl⟩;obtain⟨y2,sj⟩:∃y,d3[pv]! =y:=⟨_,rfl⟩;have sJ:=fun n=>(Tn.drewN n).cell (t:=a'-1) (by rw [Gl.out];omega);have pV:=fun n=>(Tn.drewN n).cell (t:=pv) (by rw [Gl.out];omega);rw [gM]at sJ hT;rw [sj]at pV hT;clear gM sj;obtain⟨q,hq⟩:∃q,ltInt y1 y2=q:=⟨_,rfl⟩;rw [hq,k_ (by omega:a'>0)]at hT;have cm:∀W,H_ 168 #[U_ y1,U_ y2] W fun e w'=>e=.returned (R_ q)/\w'=W:=fun W=>by rw [<-hq];exact dD _ _ _
           have dE:=ac5 cm;have HT:=ac5 hT;clear cm hq hT
           go_quiet ((go_at_call 168;with_reducible (first|exact cO dE.out|exact cN dE.out|exact cP dE.out)))
           go_wp2
           go_meet
           case rel=>exact⟨by rw [<-HT.out];cases q<;>rfl,Tn.drewN _,XA.drewN _⟩
         case rest=>
          obtain⟨rfl,hR6,hO6⟩:=hcut;clear hpe
          cases T
          ·obtain⟨ga,ap,d4,hx⟩:∃ga ap d4,partition ltInt d3 a' b' pv=(ga,ap,d4):=⟨_,_,_,rfl⟩;obtain⟨r1,r2,qC,SZ,hlg⟩:=FP rfl ga ap d4 hx;have hc:=QO hR6 a' b' pv ad8 QQ (by rw [Gl.out];omega) (by rw [Gl.out];omega);rw [hx,Gl.out]at hc;have HC:=ac5 hc;have EJ:=ac5 (qC.trans Tm.out);have Kr:=ac5 SZ;have HLG:=ac5 hlg;clear hc hx qC SZ hlg FT FP hT Tn XA;have lU:IntKind.i64.wrap ((ga:Int)-a')=(ga:Int)-a':=aM _ O_;have NL:IntKind.i64.wrap ((b':Int)-ga)=(b':Int)-ga:=aM _ O_;have JK:IntKind.i64.wrap ((ga:Int)+1)=(ga:Int)+1:=aM _ O_
           go_upto_if 113 with(go_at_call 170;refine HC.out.mono ?_;rintro e w7 ⟨rfl,hR7,P6,hO7⟩)
           by_cases h4:ga-a'<b'-ga
           ·have h4d:decide ((ga:Int)-(a':Int)<(b':Int)-(ga:Int))=true:=k_ O_;obtain⟨B1,z1,B2,hE⟩:=Kr.out h4;rw [HE.out]at hE;have hih:=ih w7 d4 a' ga lm O_ hR7 O_ (by rw [EJ.out];omega) (by rw [EJ.out];omega) O_ B1;rw [EJ.out]at hih;have HIH:=ac5 hih;have HEE:=ac5 hE;have XC:=ac5 (z1.trans Tm.out);clear hih hE z1;go_wp2_with (go_at_call 117;refine HIH.out.mono ?_;rintro e w8 ⟨rfl,hR8,hs8,hO8⟩)
            go_roundg (b'-(ga+1))
            case measure=>omega
            case rel=>
             refine⟨ga+1,b',lm,decide (ga-a'>=(b'-a')/8),ap,pdq ltInt d4 a' ga lm true true,by first|rfl|go_num,rfl,rfl,?_,rfl,O_,O_,aA _,O_,O_,XC.out,B2,hR8,(hO6.trans hO7).trans hO8,HEE.out.symm⟩;exact congrArg Value.bool (eighth O_ O_)
           ·have h4d:decide ((ga:Int)-(a':Int)<(b':Int)-(ga:Int))=false:=aP O_;obtain⟨B1,z1,B2,hE⟩:=HLG.out h4;rw [HE.out]at hE;have hih:=ih w7 d4 (ga+1) b' lm O_ hR7 O_ (by rw [EJ.out];omega) (by rw [EJ.out];omega) O_ B1;rw [EJ.out,show((ga+1:Nat):Int)=(ga:Int)+1 by omega]at hih;have HIH:=ac5 hih;have HEE:=ac5 hE;have XC:=ac5 (z1.trans Tm.out);clear hih hE z1;go_wp2_with (go_at_call 117;refine HIH.out.mono ?_;rintro e w8 ⟨rfl,hR8,hs8,hO8⟩)
            go_roundg (ga-a')
            case measure=>omega
            case rel=>
             refine⟨a',ga,lm,decide (b'-ga>=(b'-a')/8),ap,pdq ltInt d4 (ga+1) b' lm true true,rfl,rfl,rfl,?_,rfl,O_,O_,aA _,O_,O_,XC.out,B2,hR8,(hO6.trans hO7).trans hO8,HEE.out.symm⟩;exact congrArg Value.bool (eighth O_ O_)
          ·obtain⟨ga,d4,hx⟩:∃ga d4,partitionEqual ltInt d3 a' b' pv=(ga,d4):=⟨_,_,rfl⟩;obtain⟨r1,r2,qC,B4,hE⟩:=FT rfl ga d4 hx;have hc:=Iz hR6 a' b' pv ad8 QQ (by rw [Gl.out];omega) (by rw [Gl.out];omega);rw [hx,Gl.out]at hc;rw [HE.out]at hE;have HC:=ac5 hc;have HEE:=ac5 hE;have EJ:=ac5 (qC.trans Tm.out);clear hc hx qC hE FT FP hT Tn XA;go_wp2_with (go_at_call 169;refine HC.out.mono ?_;rintro e w7 ⟨rfl,hR7,P6,hO7⟩)
           go_roundg (b'-ga)
           case measure=>omega
           case rel=>exact⟨ga,b',lm,wb,wp,d4,rfl,rfl,rfl,rfl,rfl,O_,O_,aA _,O_,O_,EJ.out,B4,hR7,hO6.trans hO7,HEE.out.symm⟩
end
section
open Go.RowKit Go.Sort
theorem w_(w:World):H_ 162 #[Z_,I_ 0,I_ 0] w fun e w'=>e=.returned (.tuple #[])/\w'=w:=by
 go_enter func162,ntmps162
 go_wp2
 go_loopg [6] 0 (fun _ vi wr=>vi=I_ 1/\wr=w)
 case atStart=>exact⟨by go_num,rfl⟩
 case round=>
  obtain⟨rfl,rfl⟩:=hrel;go_wp2;go_end0
  first|exact⟨rfl,rfl⟩|trivial
theorem QR(w:World):H_ 117 #[Z_,I_ 0,I_ 0,I_ 0] w fun e w'=>e=.returned (.tuple #[])/\w'=w:=by
 go_enter func117,ntmps117
 go_wp2
 go_loopg [1,2,3,8,9] 0 (fun _ s1 s2 s3 s8 s9 wr=>s1=I_ 0/\s2=I_ 0/\s3=I_ 0/\s8=R_ true/\s9=R_ true/\wr=w)
 case atStart=>exact⟨rfl,rfl,rfl,rfl,rfl,rfl⟩
 case round=>
  obtain⟨rfl,rfl,rfl,rfl,rfl,rfl⟩:=hrel;go_wp2_with (go_at_call 162;refine(w_ _).mono ?_;rintro e w1 ⟨rfl,rfl⟩)
  (try simp only [Exit.inBlock,Exit.then]);refine r_ (G6 rfl _ _ _) rfl ?_
  exact⟨rfl,rfl⟩
theorem Ks(n:Nat) (hn:n<4611686018427387904) (w:World):H_ 118 #[.int .u64 (n:Int)] w fun e w'=>e=.returned (I_ (bitsLen n:Nat))/\w'=w:=by
 have h:=Any.bits_Len (SlLaysF0.n15.bits (P:=prog) (ρ:=Kq) {npA with}) (n:Int) w O_ O_
 rwa [Int.toNat_natCast,bitLen_eq _ O_]at h
theorem zW{base:Nat}{w:World}{v:Value}{l:List Int}(hv:Own (ak .u32) 28 base w v l) (hl:l.length<=1000000):
 H_ 82 #[v] w fun e w'=>e=.returned (.tuple #[])/\Own (ak .u32) 28 base w' v (l.mergeSort fun x y=>decide (x<=y))/\Fr (fun k=>v.ownBlock=some k) w w':=by
 have xR:=hv;rcases hv.2 with⟨rfl,hz⟩|⟨g,cap,cur,rfl,dH,WU,r1,r2,r3,r4⟩
 ·obtain rfl:l=[]:=wk hz;have hlen:=fun w=>Ks 0 O_ w;rw [show bitsLen 0=0 from rfl,show((0:Nat):Int)=0 from rfl]at hlen;have HL:=ac5 hlen;clear hlen hv
  go_enter func82,ntmps82
  go_wp2_with (first
   |(go_at_call 118;refine(HL.out _).mono ?_;rintro e w1 ⟨rfl,rfl⟩)
   |(go_at_call 117;refine(QR _).mono ?_;rintro e w1 ⟨rfl,rfl⟩))
  go_end0;exact⟨rfl,by rw [List.mergeSort_nil];exact xR,Fr.refl _ _⟩
 ·obtain⟨d,hd⟩:∃d:Array Int,d=l.toArray:=⟨_,rfl⟩;have CA:d.size=l.length:=by rw [hd];simp
  have hR:bj 28 base w g cap d:=by unfold bj;rw [hd];simpa using xR
  have hlen:=fun w=>Ks l.length O_ w;have Ud:bitsLen l.length<=1000:=gy ((bitsLen_le_iff _ 62).2 O_) O_;obtain⟨m,hm⟩:∃m,bitsLen l.length=m:=⟨_,rfl⟩;have hp:=U6 (d.size+1) w d 0 d.size m O_ hR (Gv _) (aA _) O_ O_ (.inl rfl)
  have gD:(pdq ltInt d 0 d.size m true true).toList=l.mergeSort (fun x y=>decide (x<=y)):=by
   rw [<-hm,<-CA,hd];exact sortInt l
  rw [hm]at hlen;rw [CA,show((0:Nat):Int)=0 from rfl]at hp;rw [CA]at gD;have Ge:IntKind.u64.wrap (l.length:Int)=(l.length:Int):=by simp [IntKind.wrap,IntKind.bits,IntKind.signed];omega
  have HL:=ac5 hlen;have HP:=ac5 hp;have Bg:=ac5 gD;clear hlen hp gD hm CA hd hR Ud hv xR r4;obtain⟨n,hn⟩:∃n,n=l.length:=⟨_,rfl⟩;rw [<-hn]at HL HP Bg Ge hl⊢;clear r1 r2 r3 WU;have V_:=ac5 hn;clear hn
  go_enter func82,ntmps82
  go_wp2_with (first
   |(go_at_call 118;refine(HL.out _).mono ?_;rintro e w1 ⟨rfl,rfl⟩)
   |(go_at_call 117;refine HP.out.mono ?_;rintro e w1 ⟨rfl,mH,fB,pS⟩))
  go_end0;refine⟨rfl,?_,pS.mono fun i _ hi=>by subst hi;rfl⟩;have h:=mH;unfold bj at h;rw [Bg.out,fB]at h;exact h
end
def gw(f:Int) (X:List MB):List Int:=(X.filter fun x:MB=>decide (Gs x.m.fl f=f)).map fun x:MB=>x.m.uid
theorem zX(f:Int) (X Y:List MB):gw f (X++Y)=gw f X++gw f Y:=by simp [gw]
theorem zY(f:Int) (X:List MB):(gw f X).length<=X.length:=by unfold gw;rw [D9];exact cR _ _
theorem xd(f:Int) {X Y:List MB}(h:X.Perm Y):(gw f X).Perm (gw f Y):=(h.filter _).map _
section
variable{H:Type}{P:Program}{k:TypeId}{R:Value->Option (DataW H×List MemPlace)}{w w':World}{b r n:Nat}{D:DataW H}{left:Lit->Bool}{yF:Nat}
theorem sO{S:Nat->Prop}(h:w.ranges P k R b r n D left yF) (hf:Fr S w w') (ng:¬S b) (hr':¬S r):w'.ranges P k R b r n D left yF:=by
 have h1:=h.owns.lt;have h2:=h.lt;obtain⟨es,clock,since,seen,c0,hb,F,hs,hD,hr,rest⟩:=h;exact⟨es,clock,since,seen,c0,(hf.block b h1 ng).trans hb,F,hs,hD,(hf.block r h2 hr').trans hr,rest⟩
theorem iS(h:w.ranges P k R b r n D left yF) {g:Nat}{t:TypeId}{cs:Array Value}(hb:af w g t cs):g≠r:=by
 rintro rfl;obtain⟨es,clock,since,seen,c0,_,_,_,_,hr,_⟩:=h;unfold af at hb;rw [hr]at hb
 cases hb
theorem jP(h:w.ranges P k R b r n D left yF) {g:Nat}{t:TypeId}{cs:Array Value}(hb:af w g t cs):g≠b:=by
 rintro rfl;obtain⟨es,clock,since,seen,c0,hm,_⟩:=h;unfold af at hb;rw [hm]at hb
 cases hb
end
structure Seen(w0 wr:World) (mb r n:Nat) (D:DataW Value) (SX:List MB) (ob base:Nat) (v0 v:Value) (acc:List Int) (f:Int) (dX:List MB) (yF:Nat):Prop where
 rng:∃left,wr.ranges prog 28 R0 mb r n D left yF/\∀z,z∈dX<->z∈SX/\left (.int .u32 z.m.uid)=false
 nd:(dX.map fun x=>x.m.uid).Nodup
 box:af wr ob 58 #[v]
 row:Own (ak .u32) 28 base wr v (acc++gw f dX)
 stay:v.ownBlock=v0.ownBlock\/∃b,v.ownBlock=some b/\w0.heap.size<=b
 fr:Fr (fun k=>k=ob\/v0.ownBlock=some k) w0 wr
theorem Seen.sub {w0 wr mb r n D SX ob base v0 v acc f dX yF}(h:Seen w0 wr mb r n D SX ob base v0 v acc f dX yF):∀z∈dX,z∈SX:=by
 obtain⟨left,_,h2⟩:=h.rng;exact fun z hz=>((h2 z).1 hz).1
theorem lz{X:List MB}(h:(X.map fun x=>x.m.uid).Nodup):X.Nodup:=by
 unfold List.Nodup at*;rw [List.pairwise_map]at h;exact h.imp fun bV e=>bV (by rw [e])
theorem Kt{X:List MB}(h:(X.map fun x=>x.m.uid).Nodup) {y z:MB}(hy:y∈X) (hz:z∈X) (he:y.m.uid=z.m.uid):y=z:=by
 obtain⟨a,ha⟩:=List.mem_iff_getElem?.1 hy;obtain⟨b,hb⟩:=List.mem_iff_getElem?.1 hz;have h2:(X.map fun x=>x.m.uid)[a]? =(X.map fun x=>x.m.uid)[b]? :=by rw [OX,OX,ha,hb];simp [he]
 have h3:=(gl (by rw [D9];exact(List.getElem?_eq_some_iff.1 ha).1) h).1 h2;subst h3;rw [ha]at hb
 cases hb
 rfl
theorem IC{X Y:List MB}(hX:X.Nodup) (hY:Y.Nodup) (h:∀z,z∈X<->z∈Y):X.Perm Y:=by
 classical
 exact(Ru hX hY).2 h
theorem Seen.step {w0 wr w' mb r n D SX ob base v0 v v' acc f dX yF pD}{left:Lit->Bool}{z:MB}(h:Seen w0 wr mb r n D SX ob base v0 v acc f dX yF) (nK:∀z,z∈dX<->z∈SX/\left (.int .u32 z.m.uid)=false)
 (gT:(SX.map fun x=>x.m.uid).Nodup) (hz:z∈SX) (hl:left (.int .u32 z.m.uid)=true) (wZ:w'.ranges prog 28 R0 mb r n D (fun k=>left k&& !k.sameKey (.int .u32 z.m.uid)) pD)
 (jY:af w' ob 58 #[v']) (eQ:Own (ak .u32) 28 base w' v' (acc++gw f (dX++[z]))) (bT:v'.ownBlock=v.ownBlock\/∃b,v'.ownBlock=some b/\w0.heap.size<=b)
 (hf:Fr (fun k=>k=ob\/v.ownBlock=some k\/w0.heap.size<=k) wr w'):Seen w0 w' mb r n D SX ob base v0 v' acc f (dX++[z]) pD:=by
 refine⟨⟨_,wZ,fun y=>?_⟩,?_,jY,eQ,?_,Fr.trans' h.fr hf fun k hk hs=>?_⟩
 ·rw [xg,List.mem_singleton,nK y];have jg:Lit.sameKey (.int .u32 y.m.uid) (.int .u32 z.m.uid)=decide (y.m.uid=z.m.uid):=by simp [Lit.sameKey]
  constructor
  ·rintro(⟨h1,h2⟩|rfl)
   ·exact⟨h1,by simp [h2]⟩
   ·exact⟨hz,by simp [jg]⟩
  ·rintro⟨h1,h2⟩;rw [jg]at h2;by_cases he:y.m.uid=z.m.uid
   ·exact .inr (Kt gT h1 hz he)
   ·exact .inl ⟨h1,by simpa [he]using h2⟩
 ·rw [ta,Ar];refine⟨h.nd,S_,fun a ha b hb=>?_⟩;obtain⟨y,hy,rfl⟩:=List.mem_map.1 ha;simp at hb;subst hb;intro he;obtain rfl:=Kt gT ((nK y).1 hy).1 hz he;have:=((nK y).1 hy).2;rw [hl]at this
  cases this
 ·rcases bT with h1|h1
  ·rw [h1];exact h.stay
  ·exact .inr h1
 ·rcases hs with hs|hs|hs
  ·exact .inl hs
  ·rcases h.stay with h1|⟨b,h1,h2⟩
   ·exact .inr (h1▸hs)
   ·rw [h1]at hs;cases hs;omega
  ·omega
theorem My{w:World}{mb fb ob base:Nat}{SX:List MB}{f:Int}{v0:Value}{acc:List Int}(h:HasMap ei w mb (SX.map fun x=>(x.m.uid,x.val))) (gT:(SX.map fun x=>x.m.uid).Nodup) (gQ:∀x∈SX,0<=x.m.fl/\x.m.fl<=255)
 (NU:af w fb 45 #[B_ f]) (hf:0<=f/\f<=255) (AQ:af w ob 58 #[v0]) (eQ:Own (ak .u32) 28 base w v0 acc) (iZ:base<=w.heap.size) (hlen:acc.length+SX.length<=1000000):
 H_ 192 #[.map (some mb),Q_ fb,Q_ ob] w fun e w'=>e=.returned (.tuple #[])/\∃v dX,dX.Perm SX/\af w' ob 58 #[v]/\Own (ak .u32) 28 base w' v (acc++gw f dX)/\
  (v.ownBlock=v0.ownBlock\/∃b,v.ownBlock=some b/\w.heap.size<=b)/\Fr (fun k=>k=ob\/v0.ownBlock=some k) w w':=by
 obtain⟨D,cl,hD1,Lz⟩:=h.own;obtain⟨i0,hi,dw,cE,dy⟩:=wF qR;have aqw:=h.lt;have hmo:=h.aD AQ;have hmf:=h.aD NU
 have hmv:∀b,v0.ownBlock=some b->b≠mb/\b≠ob/\b≠fb/\b<w.heap.size:=fun b hb=>by
  obtain⟨cs,h1⟩:=eQ.heap hb;exact⟨iX (h.aD h1),h1.aU AQ D_,h1.aU NU D_,h1.lt⟩
 have QS:=h.oks;have fP:∀x∈SX,get (SX.map fun x=>(x.m.uid,x.val)) x.m.uid=some x.val:=fun x hx=>get_of_mem (by rw [JJ];exact gT) (List.mem_map.2 ⟨x,hx,rfl⟩);have Zw:=ac5 cl
 have oW:∀z,z∈([]:List MB)<->z∈SX/\Maps.has D (.int .u32 z.m.uid)=false:=fun z=>by
  refine⟨fun hz=>absurd hz S_,fun⟨hz,hh⟩=>?_⟩;have h1:=oJ (Lz z.m.uid (QS _ (List.mem_map.2 ⟨z,hz,rfl⟩)));rw [fP z hz]at h1
  change Maps.has D (.int .u32 z.m.uid)=true at h1
  rw [h1]at hh
  cases hh
 have HS0:=ac5 oW
 have QT:Hid (∀(x:Int) (c:Value),ei.ok x->(∀zd,D.atKey (.int .u32 x) zd=.held c)->∃z∈SX,z.m.uid=x/\c=z.val):=fun x c hx yX=>by
  have h1:=Lz x hx
  cases hg:get (SX.map fun x=>(x.m.uid,x.val)) x with
  |none=>
   rw [hg]at h1;have h2:=(yX (.held (R_ true))).symm.trans (h1 _);have h3:=(yX (.held (R_ false))).symm.trans (h1 _);rw [h2]at h3
   cases h3
  |some u=>
   rw [hg]at h1;have h2:=(yX (.held (R_ true))).symm.trans (h1 _);have h3:=kP hg;obtain⟨z,hz,hzz⟩:=List.mem_map.1 h3;injection hzz with e1 e2;injection h2 with h2;exact⟨z,hz,e1,by rw [h2,<-e2]⟩
 generalize hnn:(SX.map fun x:MB=>(x.m.uid,x.val)).length=nn at*;clear Lz fP QS cl oW
 go_enter func192,ntmps192
 go_wp2_with (first
  |(at_range;refine wpList_range_own _ rfl _ 136 rfl 28 238 ei.law underlying136 _ mb nn D rfl Zw.out ?_;intro w0 Zx hg0 oW)
  |fail)
 go_frame
 go_loopw [4] (fun _ wr=>∃(v:Value) (dX:List MB) (yF:Nat),Hid (Seen w wr mb w.heap.size nn D SX ob base v0 v acc f dX yF)) (fun _ wr=>wr.rangeLeft mb w.heap.size)
 case atStart=>
  have iP:ae w w0:=Fr.dW hg0 fun _ h=>by cases h
  exact⟨v0,[],_,⟨_,Zx,HS0.out⟩,S_,iP.ai AQ,by simpa [gw]using eQ.new iP,.inl rfl,ae.to iP⟩
 case round=>
  obtain⟨v,dX,yF,HR⟩:=hrel;obtain⟨left,wZ,nK⟩:=HR.out.rng;have Qg:=ac5 nK;have HRG:=ac5 wZ;have ari:=HR.out.fr.size;obtain⟨vA,vn,vc,rfl⟩:=bY HR.out.row;clear nK
  go_wp2_with (first
   |(at_next;refine wpList_next_ranges _ rfl _ rfl 28 ei.law R0 (Value.int .u32) (fun c:Value=>c) (fun key kl hk=>by obtain⟨x,hx,_⟩:=rU underlying28 hk;exact⟨x,hx⟩) (fun v y _=>⟨v,rfl⟩) mb w.heap.size nn _ _ _ rfl wZ ?_ ?_)
   |fail)
  ·intro Ko pQ;have tB:=IC (lz HR.out.nd) (lz gT) fun z=>by rw [Qg.out z,pQ];simp
   have ad_:=ac5 tB;clear tB;go_wp2;go_end0;exact⟨rfl,_,dX,ad_.out,HR.out.box,HR.out.row,HR.out.stay,HR.out.fr⟩
  ·intro x c kl y py w1 pD Zy eN hRc yX qS bJ NO fB hen;obtain⟨x',NY,rfl,UG⟩:=rU underlying28 Zy;injection NY with _ NY;subst NY;simp only [R0,rM,vt]at hRc;obtain⟨rfl,rfl⟩:=hRc;obtain⟨z,hz,rfl,rfl⟩:=QT.out x c UG yX;obtain⟨⟨uid,fl,body⟩,A,n,c⟩:=z;have br:Fr (fun k=>k=w.heap.size) wr w1:=Fr.dW NO fun i hi=>by injection hi with hi;exact hi.symm
   have arj:=AQ.lt;have ark:=NU.lt;have gN:=br.ai HR.out.box O_;have Tj:=HR.out.fr.ai NU (fun hs=>by rcases hs with hs|hs;exact NU.aU AQ D_ hs;exact(hmv _ hs).2.2.1 rfl);have iE:=br.ai Tj O_;have cf:=iE.k0;have arl:=iE.lt;have arn:=gN.lt;have co:=gN.k0;have zo:=gN.frozen 0
   have De:=HR.out.row.fr br (fun b hb hs=>by
    obtain⟨cs,h1⟩:=HR.out.row.heap hb;exact iS wZ h1 hs)
   have Qz:=fun b hb=>HR.out.row.heap (g:=b) hb;have hvl:=fun b hb=>(HR.out.row.block (b:=b) hb).2;have HVL:=ac5 hvl;have hdl:=(lz HR.out.nd).length_le_of_subset HR.out.sub;have Xj:=zY f dX;have Xy:=ac5 fB;have ajW:wr.heap.size<=w1.heap.size:=O_
   clear fB;have cU:=gQ _ hz;simp only [MB.val]at hen cU⊢;obtain⟨aa,haa⟩:∃aa,Gs fl f=aa:=⟨_,rfl⟩;have anu:=(JE cU.1 cU.2 hf.1 hf.2).trans haa
   have hwx:gw f (dX++[⟨⟨uid,fl,body⟩,A,n,c⟩])=gw f dX++(if aa==f then [uid]else []):=by
    rw [zX]
    congr 1
    unfold gw;by_cases h1:aa=f
    ·subst haa;simp [h1]
    ·subst haa;simp [h1]
   have HWX:=ac5 hwx;clear hwx haa;have hobr:ob≠w.heap.size:=O_
   cases hq:(aa==f)
   ·rw [hq]at HWX;go_wp2_with fail
    go_roundw
    case rel=>
     refine⟨_,_,pD,HR.out.step Qg.out gT hz eN (qS.alloc _) (gN.alloc _) ?_ (.inl rfl) ((cz br fun k hk=>cu O_).alloc _)⟩;rw [HWX.out];simpa using De.alloc _
    case measure=>rw [(qS.alloc _).left_eq,wZ.left_eq];exact bJ
   ·rw [hq]at HWX;have hO:=(De.alloc (G_ #[U_ uid,B_ fl,X_ A n c] 238)).alloc (G_ #[U_ uid] 28);have Zd:((w1.alloc (G_ #[U_ uid,B_ fl,X_ A n c] 238)).alloc (G_ #[U_ uid] 28)).heap.size=w1.heap.size+2:=S_
    go_wp2_with (first
     |(at_builtin;refine bC (E:=ak .u32) rfl _ _ _ rfl underlying58 hi dw cE dy rfl hO rfl uid (w1.heap.size+1) (af.cD _ _ _ _) 1 rfl (by unfold maxLen;simp;omega) P_ O_ ?_;intro v2 w2 dR dU sg
       obtain⟨A2,n2,c2,rfl⟩:=bY dR;have eP:=dU.ai ((gN.alloc _).alloc _) (fun hs=>by obtain⟨cs,h1⟩:=Qz _ hs;exact h1.aU HR.out.box D_ rfl);have co2:=eP.cell 0;have AE:=eP.frozen 0)
     |fail)
    have hF2:Fr (fun k=>k=ob\/(Value.slice vA vn vc).ownBlock=some k\/w.heap.size<=k) wr (w2.setCell (C_ ob 0) (X_ A2 n2 c2)):=
     (Fr.trans (((cz br fun k hk=>.inr (.inr (by omega))).alloc _).alloc _) (cz dU fun k hk=>.inr (.inl hk))).setCell (fun _=>.inl rfl) _
    have aeb:(w2.setCell (C_ ob 0) (X_ A2 n2 c2)).ranges prog 28 R0 mb w.heap.size nn D (fun k=>left k&& !k.sameKey (.int .u32 uid)) pD:=by
     refine sO ((qS.alloc _).alloc _) (Fr.setCell (p:=⟨ob,0,none⟩) (cz dU fun _ h=>.inl h:Fr (fun k=>(Value.slice vA vn vc).ownBlock=some k\/k=ob) _ _) (fun _=>.inr rfl) _) (fun hs=>?_) (fun hs=>?_)
     ·rcases hs with hs|hs
      ·obtain⟨cs,h1⟩:=Qz _ hs;exact jP wZ h1 rfl
      ·exact hmo hs
     ·rcases hs with hs|hs
      ·obtain⟨cs,h1⟩:=Qz _ hs;exact iS wZ h1 rfl
      ·omega
    go_roundw
    case rel=>
     refine⟨_,_,pD,HR.out.step Qg.out gT hz eN aeb (eP.al 0 _) ?_ ?_ hF2⟩
     ·rw [HWX.out,if_pos rfl,<-zi];refine dR.fr (S:=fun k=>k=ob) ((Fr.refl (fun k=>k=ob) _).setCell (p:=⟨ob,0,none⟩) (fun _=>rfl) _) fun b hb hs=>?_;obtain⟨cs,h1⟩:=dR.heap hb;exact h1.aU eP D_ hs
     ·rcases sg with h1|h1
      ·exact .inl h1
      ·exact .inr ⟨_,h1,by rw [Zd];omega⟩
    case measure=>rw [aeb.left_eq,wZ.left_eq];exact bJ
theorem QU{base:Nat}{w:World}{T:Tb}{X:List MB}(h:f_ base w T X) {i:Nat}(hi:i<T.n) (fn:Nat) (cap:Array Value) (S:Nat->Prop) (hS:∀k,S k->¬T.aB k)
 (hSB:∀v l,Own (ak .u8) 5 base w v l->∀b,v.ownBlock=some b->¬S b) (Q:World->Prop) (hE:∀args w,(callFunc fn args).run prog w=.ok (.enter fn args) w)
 (hf:H_ fn (#[.map (some (T.mb i))]++cap) (w.setCell (C_ (T.q i) 0) (.int .i32 1)) fun e w2=>e=.returned (.tuple #[])/\Fr S (w.setCell (C_ (T.q i) 0) (.int .i32 1)) w2/\Q w2):
 H_ 191 #[Q_ (T.q i),.func (.func fn) #[] cap] w fun e w'=>e=.returned (.tuple #[])/\∃w2,w'=w2.setCell (C_ (T.q i) 0) (.int .i32 0)/\Q w2/\f_ base w' T X/\Fr (fun k=>k=T.q i\/S k) w w':=by
 have hp:=h.part i hi;have BA:=(h.map i hi).aD hp;refine(Qt (T.q i) (T.mb i) fn cap (fun w2=>Fr S (w.setCell (C_ (T.q i) 0) (.int .i32 1)) w2/\Q w2) w hp hE hf ?_).mono ?_
 ·rintro w2 ⟨h2,_⟩;exact h2.ai (hp.al 0 _) (fun hs=>hS _ hs (h.rq i hi))
 ·rintro e w' ⟨rfl,w2,⟨h2,h7⟩,rfl⟩;have pP:af w2 (T.q i) 143 #[.int .i32 1,U_ 0,.map (some (T.mb i))]:=h2.ai (hp.al 0 _) (fun hs=>hS _ hs (h.rq i hi))
  have hF:Fr (fun k=>k=T.q i\/S k) w (w2.setCell (C_ (T.q i) 0) (.int .i32 0)):=
   Fr.setCell (Fr.trans (((Fr.refl _ _)).setCell (fun _=>.inl rfl) _) (cz h2 fun _ h=>.inr h)) (fun _=>.inl rfl) _
  refine⟨rfl,w2,rfl,h7,h.turn hi hF (fun k hk=>?_) (pP.al 0 _) ((((h.map i hi).setCell (a:=⟨T.q i,0,none⟩) BA _).fr h2 (fun hs=>hS _ hs (h.rm i hi))).setCell (a:=⟨T.q i,0,none⟩) BA _) (fun _ _ _=>rfl) (fun x hx=>?_) h.nd h.ok,hF⟩
  ·rcases hk with hk|hk
   ·exact .inl hk
   ·exact cu (hS k hk)
  ·refine⟨(h.body x hx).fr hF fun b hb hs=>?_,h.bz x hx⟩;rcases hs with rfl|hs
   ·obtain⟨cs,h9⟩:=(h.body x hx).heap hb;exact hp.aU h9 D_ rfl
   ·exact hSB _ _ (h.body x hx) b hb hs
theorem BH{α:Type}(p q:α->Bool) (l:List α) (hpq:∀x∈l,¬(p x=true/\q x=true)):(l.filter fun x=>p x||q x).Perm (l.filter p++l.filter q):=by
 induction l with
 |nil=>exact List.Perm.refl _
 |cons x l ih=>
  have ih:=ih fun y hy=>hpq y (su _ hy);have hx:=hpq x vB
  cases hp:p x with
  |true=>
   have hq:q x=false:=by cases hq:q x with
    |false=>rfl
    |true=>exact absurd ⟨hp,hq⟩ hx
   simp only [ku,hp,hq,WR,if_true];simpa using ih.cons x
  |false=>
   cases hq:q x with
   |true=>
    simp only [ku,hp,hq,Bool.or_true,if_true];simpa using(ih.cons x).trans (List.perm_middle (a:=x)).symm
   |false=>
    simp only [ku,hp,hq];simpa using ih
theorem BI{n k:Nat}(X:List MB):(X.filter fun x:MB=>decide (x.m.uid %(n:Int)<((k+1:Nat):Int))).Perm ((X.filter fun x:MB=>decide (x.m.uid %(n:Int)<(k:Int)))++X.filter fun x:MB=>decide (x.m.uid %(n:Int)=(k:Int))):=by
 refine List.Perm.trans (List.Perm.of_eq (yU fun x _=>?_)) (BH (fun x:MB=>decide (x.m.uid %(n:Int)<(k:Int))) (fun x:MB=>decide (x.m.uid %(n:Int)=(k:Int))) X fun x _ h=>?_)
 ·rw [Bool.eq_iff_iff];simp;omega
 ·simp at h;omega
theorem Mz(f:Int) (X:List MB):gw f X=fR (X.map MB.m) f:=by
 unfold gw fR;rw [Ov,JJ];rfl
theorem MA{l l':List Int}(h:l.Perm l'):(l.mergeSort fun x y=>decide (x<=y))=l'.mergeSort fun x y=>decide (x<=y):=by
 have tr:∀a b c:Int,decide (a<=b)=true->decide (b<=c)=true->decide (a<=c)=true:=fun a b c h1 h2=>by simp at *;omega
 have tt:∀a b:Int,(decide (a<=b)||decide (b<=a))=true:=fun a b=>by simp;omega
 refine List.Perm.eq_of_pairwise (le:=fun a b=>decide (a<=b)=true) (fun a b _ _ h1 h2=>?_) (YW tr tt l) (YW tr tt l') (((eU l _).trans h).trans (eU l' _).symm);simp at h1 h2;omega
structure WiR(w0 wr:World) (base:Nat) (T:Tb) (X:List MB) (f:Int) (k:Nat) (v:Value) (acc:List Int):Prop where
 tK:f_ base wr T X
 fb:af wr w0 45 #[B_ f]
 box:af wr (w0.heap.size+1) 58 #[v]
 row:Own (ak .u32) 28 w0.heap.size wr v acc
 perm:acc.Perm (gw f (X.filter fun x:MB=>decide (x.m.uid %(T.n:Int)<(k:Int))))
 fr:Fr T.aB w0 wr
theorem WiR.len {w0 wr base T X f k v acc}(h:WiR w0 wr base T X f k v acc):acc.length<=X.length:=by
 rw [h.perm.length_eq];exact gy (zY _ _) (cR _ _)
theorem MC{base:Nat}{w:World}{T:Tb}{X:List MB}(h:f_ base w T X) (hX:X.length<=100000) (f:Int) (hf:0<=f/\f<=255):
 H_ 138 #[Q_ T.tb,B_ f] w fun e w'=>∃o,e=.returned o/\Own (ak .u32) 28 w.heap.size w' o ((fR (X.map MB.m) f).mergeSort fun x y=>decide (x<=y))/\f_ base w' T X/\Fr T.aB w w':=by
 have hmf:=atQ;have hE:=enters _ _ _ func192 K_ rfl;have c0:=h.hd.k0;have uf:=h.hd.lt;have br:=h.n1;have Mh:=h.top
 have H1:Hid (WiR w (W_ (W_ w #[B_ f] 45) #[Z_] 58) base T X f 0 Z_ []):=
  ⟨h.new (((ae.refl w).alloc _).alloc _),(af.new _ _ _).alloc _,af.cD _ _ _ _,Own.nil _ _ _ _,by
    have:(X.filter fun x:MB=>decide (x.m.uid %(T.n:Int)<((0:Nat):Int)))=[]:=by
     rw [List.filter_eq_nil_iff];intro x _;have h0:=h.n0;have:=Kl x.m.uid (b:=(T.n:Int)) O_;simp;omega
    rw [this];exact List.Perm.refl _,ae.to (((ae.refl w).alloc _).alloc _)⟩
 go_enter func138,ntmps138
 go_wp2
 go_loopw [15] (fun vi wr=>∃(k:Nat) (v:Value) (acc:List Int),vi=I_ k/\k<=T.n/\Hid (WiR w wr base T X f k v acc)) (fun vi _=>T.n-(intOf vi).toNat)
 case atStart=>exact⟨0,_,_,rfl,Gv _,H1.out⟩
 case round=>
  obtain⟨k,v,acc,rfl,hk,HR⟩:=hrel;clear H1;have eE:=HR.out.fr.size;have T3:=HR.out.len;by_cases bJ:k<T.n
  ·have hd:decide ((k:Int)<T.n)=true:=k_ O_;have Xi:(k:Int)<(T.n:Int):=O_
   have hkw:IntKind.i64.wrap ((k:Int)+1)=(k:Int)+1:=aM _ O_;have hp:=HR.out.tK.ptr bJ;have AN:=HR.out.tK.part k bJ;have BA:=(HR.out.tK.map k bJ).aD AN;have QI:=HR.out.box.aU AN D_;have hfq:=HR.out.fb.aU AN D_;have U7:=fun b hb=>(HR.out.row.block (b:=b) hb).1;have hrh:=fun b hb=>HR.out.row.heap (g:=b) hb
   have HD:Hid (H_ 191 #[Q_ (T.q k),.func (.func 192) #[] #[Q_ w,Q_ (w.heap.size+1)]] wr fun e w'=>e=.returned (.tuple #[])/\∃v' Zz,WiR w w' base T X f (k+1) v' Zz):=by
    refine(QU HR.out.tK bJ 192 #[Q_ w,Q_ (w.heap.size+1)] (fun k=>k=w.heap.size+1\/v.ownBlock=some k) (fun b hb mv=>?_) (fun u l hu b hb hs=>?_)
     (fun w2=>∃v' dX,dX.Perm (X.filter fun x:MB=>decide (x.m.uid %(T.n:Int)=(k:Int)))/\af w2 w 45 #[B_ f]/\af w2 (w.heap.size+1) 58 #[v']/\Own (ak .u32) 28 w.heap.size w2 v' (acc++gw f dX)) hE ?_).mono ?_
    ·have h2:=mv.2;rcases hb with rfl|hb
     ·omega
     ·have:=U7 _ hb;omega
    ·obtain⟨cs,h9⟩:=hu.heap hb;rcases hs with rfl|hs
     ·exact h9.aU HR.out.box D_ rfl
     ·obtain⟨kL,sH⟩:=hrh _ hs;exact h9.aU sH D_ rfl
    ·have gN:=HR.out.box.bL (p:=⟨T.q k,0,none⟩) QI (.int .i32 1);have iE:=HR.out.fb.bL (p:=⟨T.q k,0,none⟩) hfq (.int .i32 1);have pO:=HR.out.row.fr ((Fr.refl (fun k'=>k'=T.q k) wr).setCell (p:=⟨T.q k,0,none⟩) (fun _=>rfl) (.int .i32 1)) (fun b hb hs=>by obtain⟨cs,h9⟩:=hrh b hb;exact h9.aU AN D_ hs);have gT:((X.filter fun x:MB=>decide (x.m.uid %(T.n:Int)=(k:Int))).map fun x=>x.m.uid).Nodup:=h.nd.sublist (J8 _ Wi);have qD:(X.filter fun x:MB=>decide (x.m.uid %(T.n:Int)=(k:Int))).length<=X.length:=cR _ _;refine(My (SX:=X.filter fun x:MB=>decide (x.m.uid %(T.n:Int)=(k:Int))) ((HR.out.tK.map k bJ).setCell (a:=⟨T.q k,0,none⟩) BA _) gT (fun x hx=>by have:=(h.ok x (List.mem_filter.1 hx).1).1.2;omega) iE hf gN pO (by simpa [World.setCell]using eE) O_).mono ?_;rintro e w2 ⟨rfl,v',dX,h5,h6,h7,h8,h9⟩;exact⟨rfl,h9,v',dX,h5,h9.ai iE (fun hs=>by rcases hs with hs|hs;(omega);have sH:=hrh _ hs;obtain⟨cs,sH⟩:=sH;exact sH.aU HR.out.fb D_ rfl),h6,h7⟩
    ·rintro e w' ⟨rfl,w2,rfl,⟨v',dX,h5,h6,h7,h8⟩,h9,sH⟩;refine⟨rfl,v',acc++gw f dX,h9,h6.bL (p:=⟨T.q k,0,none⟩) hfq _,h7.bL (p:=⟨T.q k,0,none⟩) QI _,?_,?_,Fr.trans' HR.out.fr sH fun b hb hs=>?_⟩
     ·refine h8.fr (S:=fun b=>b=T.q k) ((Fr.refl (fun b=>b=T.q k) _).setCell (p:=⟨T.q k,0,none⟩) (fun _=>rfl) _) fun b hb hs=>?_;obtain⟨cs,Mn⟩:=h8.heap hb;subst hs;have IA:=h9.part k bJ;unfold af at IA Mn;simp [World.setCell,Yd,Mn]at IA
     ·have Mn:=xd f (BI (n:=T.n) (k:=k) X);rw [zX]at Mn;exact(List.Perm.append HR.out.perm (xd f h5)).trans Mn.symm
     ·rcases hs with rfl|rfl|hs
      ·exact HR.out.tK.rq k bJ
      ·omega
      ·have:=U7 _ hs;omega
   have cwr:=HR.out.tK.hd.k0;clear U7 hrh;go_wp2_with fail
   refine HD.out.mono ?_;rintro e w2 ⟨rfl,v',Zz,h2⟩;have H2:=ac5 h2;clear h2;go_wp2;go_roundw
   case rel=>exact⟨k+1,v',Zz,by go_num,O_,H2.out⟩
   case measure=>simp [intOf];omega
  ·have hd:decide ((k:Int)<T.n)=false:=aP O_;have hc:=HR.out.box.k0
   have pP:acc.Perm (fR (X.map MB.m) f):=by
    have h1:=HR.out.perm;rw [<-Mz]
    have:(X.filter fun x:MB=>decide (x.m.uid %(T.n:Int)<(k:Int)))=X:=by
     rw [Xd];intro x _;have h0:=h.n0;have:=Km x.m.uid (b:=(T.n:Int)) O_;simp;omega
    rw [this]at h1;exact h1
   have Qh:=ac5 pP;clear pP;go_wp2_with fail
   refine(zW HR.out.row O_).mono ?_;rintro e w2 ⟨rfl,eQ,jx⟩;rw [MA Qh.out]at eQ;have eP:=jx.ai HR.out.box (fun hs=>by obtain⟨cs,sH⟩:=HR.out.row.heap hs;exact sH.aU HR.out.box D_ rfl);have uJ:=eP.k0;have Ls:=ac5 eQ;have U7:=fun b hb=>(HR.out.row.block (b:=b) hb).1;have HRB:=ac5 U7;clear eQ eP U7;go_wp2;go_ret;refine⟨_,rfl,Ls.out,HR.out.tK.fr jx (fun b hb mv=>?_) (fun u l hu b hb hs=>?_),Fr.trans' HR.out.fr jx fun b hb hs=>?_⟩
   ·have h1:=HRB.out b hb;have h2:=mv.2;omega
   ·obtain⟨cs,h9⟩:=hu.heap hb;obtain⟨kL,sH⟩:=HR.out.row.heap hs;exact h9.aU sH D_ rfl
   ·have h1:=HRB.out b hs;omega
section
open Go.RowKit Go.Shelf Go.Proofs
attribute [local go_sem] wT
theorem aef:(prog.info? 28).map (fun i=>(i.zero,i.size,i.bytes))=some (some (.int .u32 0),1,4):=K_
theorem IF(F:Fence) (n:Nat) (h36:F.fn 116) (h32:F.fn 83) (JW:F.round=none) (hn:3<=n) (Bs:Nat) (sv:Value) (zs:List Int) (hlen:zs.length<=1000000) (w:World) (QW:Bs<w.heap.size)
 (hc:L_ w Bs 0 sv) (hI:gI w.heap.size w sv zs):
 CallsIn F n prog 116 #[Z_,.func (.func 83) #[] #[Q_ Bs]] w fun e W'=>∃v,e=.returned v/\W'.ownsRow w.heap.size 28 1 v zs.length (zs.map (Value.int .u32))/\(v=Z_<->zs=[])/\Below w.heap.size w W':=by
 have h1:1<=n:=O_
 obtain⟨i0,hi,dw,cE,dy⟩:=wF aef;refine jJ func116 rfl h36 ?_ JW;simp only [ntmps116,PA,iU,WL,Nat.reduceAdd,Nat.reduceSub,rX,rY,eL,iY,Qv,OZ]
 gi_wp2
 have bO:=Boxed.new w 58 Z_;have hB0:Below w.heap.size w (W_ w #[Z_] 58):=(zm _ w).alloc (aA _) _
 refine wpIn_rangeFunc_ownG JW h1 (gf:=83) (lb:= #[Q_ Bs]) rfl h32 (Aw func83 K_ rfl)
  (yG F (n-1) h32 JW O_ Bs w.heap.size sv zs hlen _ P_ S_ ((hB0.cell (p:=⟨Bs,0,none⟩) QW).trans hc) (hI.below hB0)) belowK_t (belowK_b S_) (zm _ _) (fun _=>rfl)
  (fun pre W=>(∃v,Boxed W w.heap.size 58 v/\W.ownsRow w.heap.size 28 1 v pre.length (pre.map (Value.int .u32))/\(v=Z_<->pre=[]))/\Below w.heap.size w W)
  (fun _ _ _=>False)
  (OwnFrom.and (Own.from (holdsRow_own w.heap.size w.heap.size 58 28 1 (fun pre=>pre.length) (fun pre=>pre.map (Value.int .u32)) (fun pre v=>v=Z_<->pre=[])) _) (ownFrom_below (aA _) S_))
  (fun _ _ _ _ _ hs _ _=>hs)
  ⟨⟨_,bO,World.ownsRow_nil _ _ _ _,S_⟩,hB0⟩
  (fun x=>{tmps:= #[Z_,.func (.func 83) #[] #[Q_ Bs],Q_ w,undef,Z_,U_ x,.func (.func 83) #[] #[Q_ Bs],U_ x,undef,undef,undef,undef,undef],defers:=[]}) ?assign ?body ?done ?stop
 case assign=>
  intro l x W K hK
  gi_wp2
  exact hK
 case body=>
  rintro l pre x W ⟨⟨v,hv,eQ,aeg⟩,hB⟩ bJ;have kY:=hv.cell
  gi_wp2_with (gi_at_builtin;refine wpListIn_append_own _ rfl _ _ 58 rfl w.heap.size 28 i0 (U_ 0) 1 4 underlying58 hi dw cE dy rfl D_ _ _ _ rfl (eQ.alloc _) (C_ W 0) 1 1 [U_ x] rfl rfl (cell_one_new _ _ _) (by simp [Value.oneCell']) (by unfold maxLen;omega) O_ (by have:=hB.size;simp;omega) ?_;intro v' w1 hown' hgrow _;obtain⟨g',ahC,rfl⟩:=ownsRow_succ hown';obtain⟨fE,dR,ic,kI,eP⟩:=hv.appended D_ eQ hB.size (aA _) hown' hgrow;have GW:=fE.cell;have iE:=fE.frozen)
  exact⟨kI.from _,eP,⟨_,dR,by simpa using ic,S_⟩,hB.trans eP⟩
 case done=>
  rintro D ys W hD rfl ⟨⟨v,hv,eQ,aeg⟩,hB⟩ hK;have kY:=hv.cell
  gi_wp2
  refine⟨S_,.inl ⟨_,_,rfl,Gx hK,?_⟩⟩;exact⟨_,results_tmp rfl _ _ _,v,rfl,ownsRow_putObj eQ _ hK rfl,aeg,hB.trans (belowK_b (w:=w) (aA _) W D _ _ (by simp at hD;omega) hK rfl rfl)⟩
 case stop=>
  rintro D c pre W _ _ h _;exact h.elim
theorem BJ(Bs:Nat) (sv:Value) (zs:List Int) (hlen:zs.length<=1000000) (w:World) (QW:Bs<w.heap.size) (hc:L_ w Bs 0 sv) (hI:gI w.heap.size w sv zs):
 H_ 81 #[.func (.func 83) #[] #[Q_ Bs]] w fun e W'=>∃v,e=.returned v/\Go.Proofs.YtliimglbbiebiaaGreatDoor.Own (ak .u32) 28 w.heap.size W' v zs/\ae w W':=by
 have hA:=(ay (n:=5)).1 (IF Fence.wide 5 trivial trivial rfl O_ Bs sv zs hlen w QW hc hI);have HA:=ac5 hA;clear hA hI hc
 go_enter func81,ntmps81
 go_wp2_with fail
 refine HA.out.mono ?_;rintro e w1 ⟨v,rfl,eQ,_,hb⟩;go_wp2;go_ret;refine⟨_,rfl,?_,ae.eF hb⟩;unfold Go.Proofs.YtliimglbbiebiaaGreatDoor.Own;rw [kT];exact eQ
theorem EP(Bs:Nat) (sv:Value) (zs:List Int) (hlen:zs.length<=1000000) (w:World) (QW:Bs<w.heap.size) (hc:L_ w Bs 0 sv) (hI:gI w.heap.size w sv zs):
 H_ 59 #[.func (.func 83) #[] #[Q_ Bs]] w fun e W'=>∃v,e=.returned v/\Go.Proofs.YtliimglbbiebiaaGreatDoor.Own (ak .u32) 28 w.heap.size W' v (zs.mergeSort fun x y=>decide (x<=y))/\ae w W':=by
 have HA:=ac5 (BJ Bs sv zs hlen w QW hc hI);clear hI hc
 go_enter func59,ntmps59
 go_wp2_with fail
 refine HA.out.mono ?_;rintro e w1 ⟨v,rfl,cl,hn⟩;have HS:=ac5 (zW cl O_);obtain⟨A,n,c,rfl⟩:=bY cl;have bJ:=fun b hb=>(cl.block (b:=b) hb).1;have HLT:=ac5 bJ;clear bJ;go_wp2_with fail
 refine HS.out.mono ?_;rintro e w2 ⟨rfl,zZ,dU⟩;go_wp2;go_ret;exact⟨_,rfl,zZ,ae.two hn dU HLT.out⟩
end
def idxOf(l:List Int):List Int:=match compactP (l.mergeSort fun x y=>decide (x<=y))with
 |[]=>[]
 |x::t=>if x=0 then t else x::t
theorem eD.xe {base:Nat}{w:World}{v:Value}{l:List Int}(h:eD base w v l):v.ownBlock≠some w.heap.size:=fun e=>absurd (h.block e).2 (bh _)
theorem tL(l:List Int):(compactP l).length<=l.length:=by
 induction l with
 |nil=>simp [compactP]
 |cons x l ih=>
  unfold compactP
  split
  ·simp;omega
  ·simp;omega
theorem ER{v:Value}{l:List Int}{w:World}(hv:Rd (ak .u32) w v l) (hl:l.length<=1000):
 H_ 37 #[v] w fun e w'=>∃x u,e=.returned (Q_ x)/\w.heap.size<=x/\af w' x 163 #[u]/\Go.Proofs.YtliimglbbiebiaaGreatDoor.eD w.heap.size w' u (idxOf l)/\u.ownBlock≠some x/\ae w w':=by
 obtain⟨A,c,rfl,_,_⟩:=hv.ints;have br:ae w (W_ w #[X_ A l.length c] 58):=(ae.refl w).alloc _;have nf:af (W_ w #[X_ A l.length c] 58) w 58 #[X_ A l.length c]:=af.new _ _ _;have aeh:=fun b hb bV=>Rd.As hv (b:=b) hb bV
 have U7:gI (w.alloc (G_ #[X_ A l.length c] 58)).heap.size (W_ w #[X_ A l.length c] 58) (X_ A l.length c) l:=
  gI.of (hv.new br) fun bV b hb=>by have:=aeh b hb bV;simp;omega
 have MF:=EP w.heap.size (X_ A l.length c) l O_ _ nf.lt (nf.cell 0) U7;have HSO:=ac5 MF;have HV:=fun a n cp W=>ac5 (EO a n cp W);obtain⟨s,hs⟩:∃s,l.mergeSort (fun x y=>decide (x<=y))=s:=⟨_,rfl⟩;have jE:s.length=l.length:=by rw [<-hs,ke]
 rw [hs]at HSO;have ua:=tL s
 have LS:idxOf l=match compactP s with
  |[]=>[]
  |x::t=>if x=0 then t else x::t:=by unfold idxOf;rw [hs]
 obtain⟨m,hm⟩:∃m,compactP s=m:=⟨_,rfl⟩;rw [hm]at ua LS;have gE:m.length<=1000:=O_
 have HSL:=ac5 jE;have HM:=ac5 hm;rw [LS];clear MF LS hs U7 aeh hv jE hm ua
 go_enter func37,ntmps37
 go_wp2_with fail
 refine(HV _ _ _ _).out.mono ?_;rintro e w1 ⟨rfl,rfl⟩;go_wp2_with fail
 refine HSO.out.mono ?_;rintro e w2 ⟨v2,rfl,zZ,iQ⟩;have HC:=ac5 (BK _ _ _ _ zZ (by have:=HSL.out;omega));have ajY:=br.trans iQ;obtain⟨A2,n2,c2,rfl⟩:=bY zZ;have HOB:=ac5 (fun b hb=>(zZ.block (b:=b) hb).1);go_wp2_with fail
 refine HC.out.mono ?_;rintro e w3 ⟨o,rfl,fT,gP,fg⟩;rw [HM.out]at fT;have fu:=ae.two ajY gP (fun b hb=>gy S_ (HOB.out b hb));have tM:Go.Proofs.YtliimglbbiebiaaGreatDoor.Own (ak .u32) 28 w.heap.size w3 o m:=fT.mono S_;clear fT gP fg zZ HOB;have eQ:=eD.vX tM
 cases m with
 |nil=>
  obtain⟨A3,c3,rfl,_⟩:=tM.form;have HR:=ac5 eQ;clear tM eQ;go_wp2;go_ret;exact⟨_,rfl,fu.size,_,af.new _ _ _,HR.out.new ((ae.refl _).alloc _),HR.out.xe,fu.alloc _⟩
 |cons x t=>
  obtain⟨A3,c3,rfl,hc3⟩:=tM.form;obtain⟨g,rfl⟩:=tM.OC S_;have Ko:=tM.pZ (k:=0) rfl;have hlen:(((x::t).length:Nat):Int)=(t.length:Int)+1:=S_
  have HR:=ac5 eQ;by_cases hx:x=0
  ·subst hx;have ht:=eD.tail eQ;rw [aH,show(0::t).length-1=t.length by simp]at ht;have HT:=ac5 ht
   have hT0:c3=1->Go.Proofs.YtliimglbbiebiaaGreatDoor.eD w.heap.size w3 (X_ (M_ g) t.length 0) t:=fun h1=>by
    obtain rfl:t=[]:=wk (by simp at hc3;omega);have hb:=eQ.block (b:=g) rfl;exact .inr ⟨g,0,0,rfl,hb.1,eQ.heap (b:=g) rfl,aA _,Gv _,fun i x hx=>by simp at hx,fun j hj=>O_⟩
   have HT0:=ac5 hT0;simp only [iU]at*;clear tM eQ ht hT0;go_wp2;all_goals go_ret
   all_goals first
    |exact⟨_,rfl,fu.size,_,af.new _ _ _,HT.out.new ((ae.refl _).alloc _),HT.out.xe,fu.alloc _⟩
    |exact⟨_,rfl,fu.size,_,af.new _ _ _,(HT0.out (by first|assumption|omega)).new ((ae.refl _).alloc _),(HT0.out (by first|assumption|omega)).xe,fu.alloc _⟩
  ·have xS:(x==0)=false:=by simp [hx]
   clear tM eQ;simp only [iU]at*;go_wp2;go_ret;have hR:=HR.out
   first
    |exact⟨_,rfl,fu.size,_,af.new _ _ _,hR.new ((ae.refl _).alloc _),hR.xe,fu.alloc _⟩
    |(rw [if_neg hx];exact⟨_,rfl,fu.size,_,af.new _ _ _,hR.new ((ae.refl _).alloc _),hR.xe,fu.alloc _⟩)
theorem qT(l:List Int) (x:Int):x∈compactP l<->x∈l:=by
 induction l with
 |nil=>simp [compactP]
 |cons y l ih=>
  unfold compactP
  cases l with
  |nil=>simp [compactP]
  |cons z l=>
   by_cases h:y=z
   ·subst h;simp only [List.head?_cons,if_true];rw [ih];simp
   ·simp only [List.head?_cons,rM,iX h,if_false,wu]at ih⊢;rw [ih]
theorem BL(l:List Int) (h:l.Pairwise (·<=·)):gF (compactP l):=by
 induction l with
 |nil=>exact gF.nil
 |cons y l ih=>
  have h1:=(List.pairwise_cons.1 h).1;have h2:=ih (List.pairwise_cons.1 h).2;unfold compactP
  split
  ·exact h2
  ·rename_i bV
   refine List.pairwise_cons.2 ⟨fun z hz=>?_,h2⟩;have hzl:=(qT l z).1 hz;have hle:=h1 z hzl;rcases zJ y z with bJ|Gr
   ·exact bJ
   ·exfalso
    obtain rfl:z=y:=O_
    cases l with
    |nil=>simp at hzl
    |cons u l=>
     have hu:=h1 u S_
     have hul:u<=z:=by
      rcases List.mem_cons.1 hzl with h3|h3
      ·omega
      ·exact(List.pairwise_cons.1 (List.pairwise_cons.1 h).2).1 z h3
     exact bV P_
theorem MG(l:List Int) (h0:∀x∈l,0<=x):adK l (idxOf l):=by
 have hs:(l.mergeSort fun x y=>decide (x<=y)).Pairwise (·<=·):=by
  have:=YW (le:=fun x y:Int=>decide (x<=y)) (by intro a b c h1 h2;simp at *;omega) (by intro a b;simp;omega) l;exact this.imp fun h=>by simpa using h
 have ha:=BL _ hs;have hm:∀x,x∈compactP (l.mergeSort fun x y=>decide (x<=y))<->x∈l:=fun x=>(qT _ x).trans List.mem_mergeSort;unfold idxOf
 cases hc:compactP (l.mergeSort fun x y=>decide (x<=y))with
 |nil=>
  rw [hc]at hm;refine⟨gF.nil,fun x=>?_⟩;have:=hm x;simp at this⊢;intro h;exact absurd h this
 |cons y t=>
  rw [hc]at hm ha;simp only
  split
  ·rename_i hy
   subst hy;refine⟨ha.tail,fun x=>?_⟩;rw [<-hm x]
   constructor
   ·intro hx;have:=ha.head hx;exact⟨by simp [hx],O_⟩
   ·rintro⟨h1,h2⟩;rcases List.mem_cons.1 h1 with h1|h1
    ·exact absurd h1 h2
    ·exact h1
  ·rename_i hy
   refine⟨ha,fun x=>?_⟩;rw [hm x];refine⟨fun h=>⟨h,?_⟩,fun h=>h.1⟩;rintro rfl;rcases List.mem_cons.1 ((hm 0).2 h)with h1|h1
   ·exact hy h1.symm
   ·have:=ha.head h1;have:=h0 y ((hm y).1 S_);omega
theorem gH.mem {s:List Int}(h:gF s) {u:Int}{k:Nat}(hk:gH s u k):u∈s<->s[k]? =some u:=by
 obtain⟨h1,h2,h3⟩:=hk
 constructor
 ·intro hm;obtain⟨i,hi⟩:=List.mem_iff_getElem?.1 hm;have NR:=(List.getElem?_eq_some_iff.1 hi).1;rcases Nat.lt_trichotomy i k with bJ|rfl|Uv
  ·rcases h2 with h2|⟨y,hy,hyu⟩
   ·omega
   ·by_cases he:i=k-1
    ·subst he;rw [hi]at hy;cases hy;omega
    ·have:=h.get hi hy O_;omega
  ·exact hi
  ·rcases h3 with h3|⟨y,hy,hyu⟩
   ·omega
   ·have:=h.get hy hi Uv;omega
 ·intro hs;exact List.mem_iff_getElem?.2 ⟨k,hs⟩
theorem gH.below {s:List Int}(h:gF s) {u:Int}{k:Nat}(hk:gH s u k) {i:Nat}{x:Int}(hi:s[i]? =some x):i<k<->x<u:=by
 obtain⟨h1,h2,h3⟩:=hk;have NR:=(List.getElem?_eq_some_iff.1 hi).1
 constructor
 ·intro bJ;rcases h2 with h2|⟨y,hy,hyu⟩
  ·omega
  ·by_cases he:i=k-1
   ·subst he;rw [hi]at hy;cases hy;omega
   ·have:=h.get hi hy O_;omega
 ·intro hx;rcases GA i k with h4|h4
  ·exact h4
  ·exfalso
   rcases h3 with h3|⟨y,hy,hyu⟩
   ·omega
   ·rcases Nat.eq_or_lt_of_le h4 with rfl|h4
    ·rw [hi]at hy;cases hy;omega
    ·have:=h.get hy hi h4;omega
def placeOf(s:List Int) (u:Int):Int:=if u∈s then(s.idxOf u:Int)+1 else 0
theorem QY{s:List Int}{u:Int}{k:Nat}(hk:s[k]? =some u) (hn:u∉s.take k):s.idxOf u=k:=by
 have dL:=(List.getElem?_eq_some_iff.1 hk).1
 have h1:s=s.take k++u::s.drop (k+1):=by
  have h2:s.drop k=u::s.drop (k+1):=by
   rw [acZ dL,(List.getElem?_eq_some_iff.1 hk).2]
  rw [<-h2,Yg]
 rw [h1,List.idxOf_append,if_neg hn];simp;omega
theorem IG{s:List Int}(h:gF s) {u:Int}{k:Nat}(hk:s[k]? =some u):placeOf s u=k+1:=by
 have hm:=List.mem_iff_getElem?.2 ⟨k,hk⟩
 have hn:u∉s.take k:=by
  intro hm;obtain⟨i,hi⟩:=List.mem_iff_getElem?.1 hm;have Yx:i<k:=by have:=(List.getElem?_eq_some_iff.1 hi).1;rw [jo]at this;omega
  rw [ab7 Yx]at hi;have:=h.inj hi hk;omega
 unfold placeOf;rw [if_pos hm,QY hk hn]
theorem BM{s:List Int}{u:Int}(h:u∉s):placeOf s u=0:=if_neg h
theorem tN{s:List Int}(h:gF s) {u:Int}{k:Nat}(hk:gH s u k):(if s[k]? =some u then(k:Int)+1 else 0)=placeOf s u:=by
 by_cases hm:u∈s
 ·have h1:=(hk.mem h).1 hm;rw [if_pos h1,IG h h1]
 ·rw [if_neg (fun h1=>hm ((hk.mem h).2 h1)),BM hm]
section
variable{P:Program}{base:Nat}{w:World}{v:Value}{l:List Int}
theorem yI(t ty:TypeId) {i:TypeInfo}{bytes:Nat}(ht:P.underlying t=some (.slice 28)) (hi:P.info? 28=some i) (hz:i.zero=some (.int .u32 0)) (ik:i.size=1) (Gw:i.bytes=bytes) (aej:bytes<=8)
 (h:eD base w v l) (y:Int) (g:Nat) (hg:af w g 28 #[U_ y]) (c:Nat) (hl:l.length<=1000000) (dH:base<=w.heap.size):
 ∃v' w',(Builtin.append_ #[t,t] ty #[v,X_ (M_ g) 1 c]).run P w=.ok v' w'/\eD base w' v' (l++[y])/\Fr (fun k=>v.ownBlock=some k) w w'/\(∃A n c,v'=X_ A n c)/\(v'.ownBlock=v.ownBlock\/v'.ownBlock=some w.heap.size):=by
 have Va:Src P i.size t (X_ (M_ g) 1 c) 1 [U_ y] w:=by
  refine Src.ofSlice w ht (C_ g 0) 1 c _ (by simp [ik]) (fun j u hu=>?_) (by simp [Value.oneCell']);rw [kR,hg.cell];simpa using hu
 have grow:∀(A:Option Addr) (cp:Nat),v=X_ A l.length cp->cp<l.length+1->(Builtin.firstCells i.size l.length v).run P w.drew=.ok (l.map (Value.int .u32)).toArray w.drew->
  ∃v' w',(Builtin.append_ #[t,t] ty #[v,X_ (M_ g) 1 c]).run P w=.ok v' w'/\eD base w' v' (l++[y])/\Fr (fun k=>v.ownBlock=some k) w w'/\(∃A n c,v'=X_ A n c)/\(v'.ownBlock=v.ownBlock\/v'.ownBlock=some w.heap.size):=by
  rintro A cp rfl hcp hold;have Gr:=grownCap_ge w (l.length+1) cp 28;have hle:=grownCap_le_maxLen w (l.length+1) cp 28 (by unfold maxLen;omega)
  have qz:=run_append_grow_src (P:=P) w t t ty 28 i (U_ 0) ht hi hz A l.length cp _ hold _ 1 _ Va hcp O_ (growslice_fits hcp (by
   have h1:(l.length+1)*i.bytes<=1000001*8:=Nat.mul_le_mul O_ O_;omega))
  have hcn:∀j,(w.drew.alloc (G_ ((l.map (Value.int .u32)++[Value.int .u32 y]).toArray++Builtin.zeroCells (Value.int .u32 0).cells (grownCap w (l.length+1) cp 28-(l.length+1))) 28)).cell? (C_ w j)=((l.map (Value.int .u32)++[Value.int .u32 y]).toArray++Builtin.zeroCells (Value.int .u32 0).cells (grownCap w (l.length+1) cp 28-(l.length+1)))[j]? :=fun j=>GS w.drew _ _ j;refine⟨_,_,qz,?_,((Fr.refl _ w).drew).alloc _,⟨_,_,_,rfl⟩,.inr rfl⟩;refine .inr ⟨w.heap.size,0,_,by rw [dr];rfl,dH,⟨_,af.new w.drew _ _⟩,by rw [dr];exact Gr,hle,fun j x hx=>?_,fun j hj=>⟨?_,?_⟩⟩
  ·rw [aH,hcn]
   rw [TR (by
    have:=(List.getElem?_eq_some_iff.1 hx).1;simp only [dr,dK]at this;simp;omega),XG]
   have e1:l.map (Value.int .u32)++[Value.int .u32 y]=(l++[y]).map (Value.int .u32):=S_
   rw [e1,OX,hx];rfl
  ·rw [aH,hcn];refine⟨_,adV ?_⟩;rw [Array.size_append,size_zeroCells];simp [Value.cells];omega
  ·exact World.frozen?_alloc_new w.drew _ _ _
 rcases h with⟨rfl,rfl⟩|⟨gb,off,cp,rfl,hb,zM,NT,Wl,az,hj⟩
 ·exact grow none 0 rfl S_ (run_firstCells_none _ _ _ _ _)
 ·by_cases XE:l.length+1<=cp
  ·obtain⟨⟨z,hz⟩,hf⟩:=hj l.length O_
   have qz:=run_append_room_src (P:=P) w t t ty 28 i ht hi gb off l.length cp _ 1 _ Va XE
    (fun j rG=>by
      obtain rfl:j=0:=by simpa using rG
      rw [ik,RZ,Au,hz];rfl)
    (fun j rG=>by
      obtain rfl:j=0:=by simpa using rG
      rw [ik,RZ,Au,hf])
   rw [ik,RZ]at qz;refine⟨_,_,qz,?_,?_,⟨_,_,_,rfl⟩,.inl rfl⟩
   ·refine .inr ⟨gb,off,cp,by rw [dr];rfl,hb,by obtain⟨cs,zM⟩:=zM;exact⟨_,zM.al _ _⟩,by rw [dr];exact XE,Wl,fun j x hx=>?_,fun j XD=>⟨?_,?_⟩⟩
    ·simp only [World.setCells];by_cases NK:j=l.length
     ·subst NK;have NV:x=y:=by simpa using hx.symm
      subst NV;exact ZM _ _ _ (by rw [hz]<;>rfl)
     ·rw [OW _ _ _ _ (by simp<;>omega)];have aj0:j<l.length:=by have:=(List.getElem?_eq_some_iff.1 hx).1;simp at this;omega
      rw [Ox aj0]at hx;exact az j x hx
    ·simp only [World.setCells];obtain⟨⟨z',hz'⟩,_⟩:=hj j XD;by_cases NK:j=l.length
     ·subst NK;exact⟨_,ZM _ _ _ (by rw [hz]<;>rfl)⟩
     ·rw [OW _ _ _ _ (by simp<;>omega)];exact⟨z',hz'⟩
    ·simp only [World.setCells,World.frozen?_setCell];exact(hj j XD).2
   ·simp only [World.setCells];exact Fr.setCell (S:=fun k=>Value.ownBlock (X_ (some ⟨gb,off,none⟩) l.length cp)=some k) (p:=⟨gb,off+l.length,none⟩) (Fr.refl _ w) (fun _=>rfl) _
  ·refine grow (some ⟨gb,off,none⟩) cp rfl O_ ?_;refine run_firstCells_some (P:=P) w.drew i.size l.length (C_ gb off) l.length cp _ (by simp [ik]) fun j u hu=>?_;rw [OX]at hu;obtain⟨x,hx,rfl⟩:=Option.map_eq_some_iff.1 hu;rw [kR];exact az j x hx
variable{ops:Array Oper}{rest:List Oper}{o:Oper}{a:Act}{Q:Exit->Act->World->Prop}
theorem sP(Lh:o.guard=none) (s x:Operand) (t:TypeId) (ho:o.op=.call {callee:=.builtin .append,args:= #[s,x],argTypes:= #[t,t]})
 {i:TypeInfo}{bytes:Nat}(ht:P.underlying t=some (.slice 28)) (hi:P.info? 28=some i) (hz:i.zero=some (.int .u32 0)) (ik:i.size=1) (Gw:i.bytes=bytes) (aej:bytes<=8)
 (h:eD base w v l) (hs:a.eval s=v) (y:Int) (g:Nat) (hg:af w g 28 #[U_ y]) (c:Nat) (hx:a.eval x=X_ (M_ g) 1 c) (hl:l.length<=1000000) (dH:base<=w.heap.size)
 (hK:∀A n c w',eD base w' (X_ A n c) (l++[y])->Fr (fun k=>v.ownBlock=some k) w w'->Hid (Value.ownBlock (X_ A n c)=v.ownBlock\/Value.ownBlock (X_ A n c)=some w.heap.size)->wpList P ops Q rest (a.put o.dst (X_ A n c)) w'):
 wpList P ops Q (o::rest) a w:=by
 obtain⟨v',w',hr,h1,h2,⟨A,n,c,rfl⟩,h3⟩:=yI (P:=P) t o.type ht hi hz ik Gw aej h y g hg c hl dH;refine vg Lh fun K' Ow=>?_;unfold Oper.wp execOp;simp only [ho,resolve,invoke,builtin,rN,jK,oM,Hx,nR,Kf,hs,hx,hr];exact Ow _ _ (hK A n c w' h1 h2 h3)
end
theorem MH(l:List Int) (u:Int):∃k,gH l u k:=by
 suffices h:∀n k,l.length-k=n->k<=l.length->(k=0\/∃y,l[k-1]? =some y/\¬u<=y)->∃k,gH l u k from h _ 0 rfl (Gv _) (.inl rfl)
 intro n
 induction n with
 |zero=>
  intro k hk dL h1;exact⟨k,dL,h1,.inl O_⟩
 |succ n ih=>
  intro k hk dL h1;have h2:k<l.length:=O_
  obtain⟨y,hy⟩:∃y,l[k]? =some y:=⟨_,DW h2⟩;have h3:l.length-(k+1)=n:=by clear h1;omega
  by_cases hu:u<=y
  ·exact⟨k,dL,h1,.inr ⟨y,hy,hu⟩⟩
  ·exact ih (k+1) h3 h2 (.inr ⟨y,by simpa using hy,hu⟩)
def qU(l:List Int) (uid:Int) (k:Nat):List Int×Bool:=if uid=0\/k<l.length then(l,false)else(l++[uid],true)
def cQ(base:Nat) (w:World) (x:Nat) (u:Value) (l:List Int):Prop:=af w x 163 #[u]/\eD base w u l/\u.ownBlock≠some x
theorem cQ.fr {base x:Nat}{w w':World}{u:Value}{l:List Int}{S:Nat->Prop}(h:cQ base w x u l) (hf:Fr S w w') (h1:¬S x) (h2:∀b,u.ownBlock=some b->¬S b):cQ base w' x u l:=
 ⟨Fr.ai hf h.1 h1,h.2.1.fr hf h2,h.2.2⟩
theorem cQ.new {base x:Nat}{w w':World}{u:Value}{l:List Int}(h:cQ base w x u l) (hf:ae w w'):cQ base w' x u l:=h.fr hf id fun _ _=>id
theorem cQ.at_ {base x:Nat}{w:World}{u:Value}{l:List Int}(h:cQ base w x u l):oh base w x l:=⟨u,h.1,h.2.1⟩
abbrev QZ(x:Nat) (u:Value) (w w':World):Prop:=Fr (fun k=>k=x\/u.ownBlock=some k) w w'
def cM(w:World) (u u':Value):Prop:=u'.ownBlock=u.ownBlock\/∃b,u'.ownBlock=some b/\w.heap.size<=b
theorem ES{base x:Nat}{w:World}{u:Value}{l:List Int}(h:cQ base w x u l) (dH:base<=w.heap.size) (hl:l.length<=100000) (uid:Int):
 H_ 189 #[Q_ x,U_ uid] w fun e w'=>∃(k:Nat) (u':Value),e=.returned (R_ (qU l uid k).2)/\gH l uid k/\cQ base w' x u' (qU l uid k).1/\QZ x u w w'/\cM w u u':=by
 obtain⟨i0,hi,dw,cE,dy⟩:=wF qR;have HF:=ac5 (fun n=>EM (h.at_.new ((ae.refl w).drewN n)) hl uid);have H:=ac5 h;obtain⟨A,c,rfl,NT⟩:=h.2.1.form;have c0:L_ w x 0 (X_ A l.length c):=h.1.cell 0;have f0:=h.1.frozen 0;clear h
 cases CG:(uid==0)
 ·go_enter func189,ntmps189
  go_wp2_with fail
  go_region_held3 (fun w'=>L_ w' x 0 (X_ A l.length c)) (first|go_keep|assumption)
   ((first
     |(go_at_call 241
       refine(HF.out _).mono ?_;rintro e w1 ⟨k,rfl,hk,br⟩;have iQ:ae w w1:=((ae.refl w).drewN _).trans br;have c1:=Fr.cell iQ c0 id;have HK:=ac5 hk;have dL:=hk.1;clear hk)
     |fail))
  have hU0:=ac5 (show uid≠0 by simpa using CG);by_cases bJ:k<l.length
  ·have hd:=k_ bJ;have ET:qU l uid k=(l,false):=if_pos (.inr bJ);have Q0:=ac5 ET;clear ET;rw [hd];go_wp2;go_ret;refine⟨k,_,by rw [Q0.out];rfl,HK.out,?_,iQ.to,.inl rfl⟩;rw [Q0.out];exact H.out.new iQ
  ·have hd:=aP bJ
   have ET:qU l uid k=(l++[uid],true):=if_neg (by
    rintro(h1|h1)
    ·exact hU0.out h1
    ·exact bJ h1)
   have Q0:=ac5 ET;have f1:=(ae.ai iQ H.out.1).frozen 0;have eQ:=ac5 (H.out.2.1.new (iQ.alloc (G_ #[U_ uid] 28)));have hblk:=ac5 (ae.ai (iQ.alloc (G_ #[U_ uid] 28)) H.out.1);have eE:=iQ.size;have Kn:=H.out.1.lt;have HX:=ac5 (fun(e:Value.ownBlock (X_ A l.length c)=some x)=>H.out.2.2 e);clear ET;rw [hd];go_wp2_with (at_builtin;refine sP rfl _ _ _ rfl underlying58 hi dw cE dy O_ eQ.out rfl uid w1.heap.size (af.new _ _ _) 1 rfl O_ P_ ?_;intro A2 n2 c2 w2 ic dU fW;have b2:=ac5 (Fr.ai dU hblk.out HX.out);have c2x:=b2.out.k0;have f2x:=b2.out.frozen 0)
   go_ret
   have To:Value.ownBlock (X_ A2 n2 c2)≠some x:=fun e=>by
    rcases fW.out with h|h
    ·exact HX.out (h▸e)
    ·rw [h]at e;injection e with e;simp at e;omega
   refine⟨k,X_ A2 n2 c2,by rw [Q0.out];rfl,HK.out,?_,?_,?_⟩
   ·rw [Q0.out];refine⟨?_,?_,To⟩
    ·exact b2.out.al 0 _
    ·exact ic.fr (Fr.setCell (S:=fun k=>k=x) (p:=⟨x,0,none⟩) (Fr.refl _ w2) (fun _=>rfl) _) fun b hb e=>To (e▸hb)
   ·have h1:QZ x (X_ A l.length c) w w2:=Fr.trans' (ae.to (iQ.alloc _)) dU fun i _ h=>.inr h;exact Fr.setCell h1 (fun _=>.inl rfl) _
   ·rcases fW.out with h|h
    ·exact .inl h
    ·exact .inr ⟨_,h,by simp;omega⟩
 ·have HU:=ac5 (show uid=0 by simpa using CG);have lV:=MH l uid
  go_enter func189,ntmps189
  go_wp2_with fail
  go_quiet (fail)
  go_wp2;go_ret;obtain⟨k,hk⟩:=lV;have ET:qU l uid k=(l,false):=if_pos (.inl HU.out);exact⟨k,_,by rw [ET];rfl,hk,by rw [ET];exact H.out.new ((ae.refl w).drewN _),ae.to ((ae.refl w).drewN _),.inl rfl⟩
abbrev mI:el prog 3 Int:=intKeys underlying3
structure Sx where
 s:Nat
 T:Tb
 c:Nat
 x:Nat
 u:Value
 q:Nat
 cap:Int
 vv:Int
 dd:Int
structure Qs where
 ids:List Int
 b:Int->Nat
 v:Int->Value
 l:Int->List Ev
def Qs.aB (Q:Qs) (k:Nat):Prop:=∃i∈Q.ids,k=Q.b i\/(Q.v i).ownBlock=some k
def Sx.aB (S:Sx) (Q:Qs) (k:Nat):Prop:=S.T.aB k\/k=S.s\/k=S.c\/k=S.x\/S.u.ownBlock=some k\/k=S.q\/Q.aB k
structure QX(w:World) (q:Nat) (Q:Qs):Prop where
 map:HasMap mI w q (Q.ids.map fun i=>(i,Q_ (Q.b i)))
 nM:∀i∈Q.ids,zR w (Q.b i) (Q.v i) (Q.l i)
 qb:∀i∈Q.ids,∀j∈Q.ids,Q.b i=Q.b j->i=j
 qv:∀i∈Q.ids,∀j∈Q.ids,∀g,(Q.v i).ownBlock=some g->(Q.v j).ownBlock=some g->i=j
theorem Qs.lt {w:World}{q:Nat}{Q:Qs}(h:QX w q Q) {k:Nat}(hk:Q.aB k):k<w.heap.size:=by
 obtain⟨i,hi,rfl|hv⟩:=hk
 ·exact(h.nM i hi).ai.lt
 ·exact((h.nM i hi).own.block hv).2
theorem QX.ZC {w:World}{q:Nat}{Q:Qs}(h:QX w q Q):Q.ids.Nodup:=by
 have:=h.map.nd;rw [JJ]at this;simpa [Function.comp_def]using this
theorem QX.fr {S:Nat->Prop}{w w':World}{q:Nat}{Q:Qs}(h:QX w q Q) (hf:Fr S w w') (hq:¬S q) (hS:∀k,Q.aB k->¬S k):QX w' q Q:=
 ⟨h.map.fr hf hq,fun i hi=>(h.nM i hi).fr hf (hS _ ⟨i,hi,.inl rfl⟩) fun _ hg=>hS _ ⟨i,hi,.inr hg⟩,h.qb,h.qv⟩
theorem QX.ne {w:World}{q:Nat}{Q:Qs}(h:QX w q Q) {g:Nat}{t:TypeId}{cs:Array Value}(hg:af w g t cs) (h1:t≠351) (h2:t≠232):¬Q.aB g:=by
 rintro⟨i,hi,rfl|hv⟩
 ·exact hg.aU (h.nM i hi).ai h1 rfl
 ·exact(h.nM i hi).own.ar hg (iX h2) hv
theorem QX.xm {w:World}{q:Nat}{Q:Qs}(h:QX w q Q) {P':Program}{K:TypeId}{α:Type} [DecidableEq α] {E:el P' K α}{g:Nat}{l:List (α×Value)}(hg:HasMap E w g l):¬Q.aB g:=by
 rintro⟨i,hi,rfl|hv⟩
 ·exact hg.aD (h.nM i hi).ai rfl
 ·obtain⟨cs,h1⟩:=(h.nM i hi).own.heap hv;exact hg.aD h1 rfl
structure cn(w0:World) (base:Nat) (w:World) (S:Sx) (Q:Qs) (M:List bU) (n t f:Int):Prop where
 hd:af w S.s 94 #[Q_ S.T.tb,Q_ S.c,Q_ S.x,I_ S.cap,.map (some S.q)]
 tK:∃X:List MB,X.map MB.m=M/\f_ base w S.T X
 tO:sQ w S.c n t f S.vv S.dd
 vd:S.dd=0\/S.dd=1/\S.vv=f
 idx:cQ 0 w S.x S.u (M.map bU.uid)
 qx:QX w S.q Q
 as_:¬S.T.aB S.s
 ac:¬S.T.aB S.c
 ax:¬S.T.aB S.x
 aq:¬S.T.aB S.q
 au:∀g,S.u.ownBlock=some g->¬S.T.aB g
 aQ:∀k,Q.aB k->¬S.T.aB k
 lo:∀k,S.aB Q k->w0.heap.size<=k
 hi:S.T.hi<=base
 hb:base<=w.heap.size
 new:ae w0 w
 len:(M.length:Int)<=S.cap
 cap:S.cap<=4096
 kJ:gF (M.map bU.uid)
 below:∀m∈M,m.uid<n
 n1:1<=n/\n<=4294967295
 t1:0<=t/\t<n
section
variable{w0 w w':World}{base:Nat}{S:Sx}{Q:Qs}{M:List bU}{n t f:Int}
theorem cn.EV (h:cn w0 base w S Q M n t f):M.length<=4096:=by have:=h.len;have:=h.cap;omega
theorem cn.ok (h:cn w0 base w S Q M n t f):∀m∈M,m.ok/\m.body.length<=65536:=by
 obtain⟨X,rfl,hX⟩:=h.tK;intro m hm;obtain⟨x,hx,rfl⟩:=List.mem_map.1 hm;exact hX.ok x hx
theorem cn.nd (h:cn w0 base w S Q M n t f):(M.map bU.uid).Nodup:=h.kJ.imp fun h=>Int.ne_of_lt h
theorem cn.MI (h:cn w0 base w S Q M n t f):S.q≠S.s/\S.q≠S.c/\S.q≠S.x/\(∀g,S.u.ownBlock=some g->S.q≠g)/\¬Q.aB S.q:=
 ⟨h.qx.map.aD h.hd,h.qx.map.aD h.tO,h.qx.map.aD h.idx.1,fun g hg=>by obtain⟨cs,h1⟩:=h.idx.2.1.heap hg;exact h.qx.map.aD h1,h.qx.xm h.qx.map⟩
theorem cn.MJ (h:cn w0 base w S Q M n t f):S.s≠S.c/\S.s≠S.x/\(∀g,S.u.ownBlock=some g->S.s≠g)/\¬Q.aB S.s:=
 ⟨h.hd.aU h.tO D_,h.hd.aU h.idx.1 D_,fun g hg=>by obtain⟨cs,h1⟩:=h.idx.2.1.heap hg;exact h.hd.aU h1 D_,h.qx.ne h.hd D_ D_⟩
theorem cn.xo (h:cn w0 base w S Q M n t f):S.c≠S.x/\(∀g,S.u.ownBlock=some g->S.c≠g)/\¬Q.aB S.c:=
 ⟨af.aU h.tO h.idx.1 D_,fun g hg=>by obtain⟨cs,h1⟩:=h.idx.2.1.heap hg;exact af.aU h.tO h1 D_,h.qx.ne h.tO D_ D_⟩
theorem cn.aem (h:cn w0 base w S Q M n t f):(∀g,S.u.ownBlock=some g->S.x≠g)/\¬Q.aB S.x:=
 ⟨fun g hg=>by obtain⟨cs,h1⟩:=h.idx.2.1.heap hg;exact af.aU h.idx.1 h1 D_,h.qx.ne h.idx.1 D_ D_⟩
theorem cn.aen (h:cn w0 base w S Q M n t f):∀g,S.u.ownBlock=some g->¬Q.aB g:=fun g hg=>by
 obtain⟨cs,h1⟩:=h.idx.2.1.heap hg;exact h.qx.ne h1 D_ D_
theorem cn.fI (h:cn w0 base w S Q M n t f) {k:Nat}(hk:S.aB Q k):k<w.heap.size:=by
 have hb:=h.hb;have hi:=h.hi;rcases hk with hk|rfl|rfl|rfl|hk|rfl|hk
 ·have:=hk.2;omega
 ·exact h.hd.lt
 ·exact af.lt h.tO
 ·exact h.idx.1.lt
 ·exact(h.idx.2.1.block hk).2
 ·exact h.qx.map.lt
 ·exact Qs.lt h.qx hk
theorem cn.du {R:Nat->Prop}(h:cn w0 base w S Q M n t f) (hf:Fr R w w') (hR:∀k,S.aB Q k->¬R k) (hRb:∀v l,Own (ak .u8) 5 base w v l->∀b,v.ownBlock=some b->¬R b) (Xq:∀k,R k->w0.heap.size<=k):cn w0 base w' S Q M n t f:=by
 obtain⟨X,pE,hX⟩:=h.tK
 refine{h with
  hd:=hf.ai h.hd (hR _ (.inr (.inl rfl)))
  tK:=⟨X,pE,hX.fr hf (fun k hk hT=>hR k (.inl hT) hk) hRb⟩
  tO:=hf.ai h.tO (hR _ (cu (.inl rfl)))
  idx:=h.idx.fr hf (hR _ (dS (.inl rfl))) fun b hb=>hR _ (iO (.inl hb))
  qx:=h.qx.fr hf (hR _ (gd (.inl rfl))) fun k hk=>hR k (lX hk)
  hb:=gy h.hb hf.size
  new:=ae.two h.new hf Xq}
theorem cn.more (h:cn w0 base w S Q M n t f) (hn:ae w w'):cn w0 base w' S Q M n t f:=h.du hn (fun _ _ h=>h.elim) (fun _ _ _ _ _ h=>h) fun _ h=>h.elim
end
theorem qV(i:Int) (w:World):H_ 135 #[I_ i] w fun e w'=>e=.returned (R_ true)/\w'=w:=by
 go_enter func135,ntmps135
 go_wp2;go_ret;exact⟨rfl,rfl⟩
theorem EW(i eZ:Int) (g:Nat) (w:World) (hg:L_ w g 0 (I_ eZ)):H_ 197 #[I_ i,Q_ g] w fun e w'=>e=.returned (R_ (i !=eZ))/\w'=w:=by
 go_enter func197,ntmps197
 go_wp2;go_ret;exact⟨rfl,rfl⟩
def z_(p:Int->Bool) (ev:Ev) (Q:Qs):Int->List Ev:=fun i=>if p i then Q.l i++[ev]else Q.l i
def Qs.told (Q:Qs) (p:Int->Bool) (ev:Ev) (v':Int->Value):Qs:={Q with v:=v',l:=z_ p ev Q}
structure Told(w0 wr:World) (q r nn:Nat) (D:DataW Value) (Q:Qs) (p:Int->Bool) (ev:Ev) (v':Int->Value) (left:Lit->Bool) (yF:Nat):Prop where
 rng:wr.ranges prog 3 R0 q r nn D left yF
 nM:∀i∈Q.ids,zR wr (Q.b i) (v' i) (if left (.int .i64 i)=false/\p i=true then Q.l i++[ev]else Q.l i)
 inj:∀i∈Q.ids,∀j∈Q.ids,∀g,(v' i).ownBlock=some g->(v' j).ownBlock=some g->i=j
 stay:∀i∈Q.ids,cM w0 (Q.v i) (v' i)
 fr:Fr (fun k=>Q.aB k\/k=r) w0 wr
section
variable{w0 wr w1:World}{q r nn:Nat}{D:DataW Value}{Q:Qs}{p:Int->Bool}{ev:Ev}{v':Int->Value}{left:Lit->Bool}{yF pD:Nat}{x:Int}
theorem Told.skip (h:Told w0 wr q r nn D Q p ev v' left yF) (hr:∀i∈Q.ids,Q.b i≠r/\(v' i).ownBlock≠some r) (hf:Fr (fun k=>k=r) wr w1) (hp:p x=false)
 (wZ:w1.ranges prog 3 R0 q r nn D (fun k=>left k&& !k.sameKey (.int .i64 x)) pD):Told w0 w1 q r nn D Q p ev v' (fun k=>left k&& !k.sameKey (.int .i64 x)) pD:=by
 refine⟨wZ,fun i hi=>?_,h.inj,h.stay,Fr.trans h.fr (cz hf fun k hk=>.inr hk)⟩;have h1:=(h.nM i hi).fr hf (fun hs=>(hr i hi).1 hs) (fun g hg hs=>(hr i hi).2 (by rw [hg,hs]));have jg:Lit.sameKey (.int .i64 i) (.int .i64 x)=decide (i=x):=by simp [Lit.sameKey]
 have e:(if((left (.int .i64 i)&& !Lit.sameKey (.int .i64 i) (.int .i64 x))=false/\p i=true)then Q.l i++[ev]else Q.l i)=if left (.int .i64 i)=false/\p i=true then Q.l i++[ev]else Q.l i:=by
  rw [jg];by_cases jd:i=x
  ·subst jd;simp [hp]
  ·simp [jd]
 rw [e];exact h1
theorem Told.push (h:Told w0 wr q r nn D Q p ev v' left yF) (hqb:∀i∈Q.ids,∀j∈Q.ids,Q.b i=Q.b j->i=j) (hq:∀i∈Q.ids,(v' i).ownBlock≠some (Q.b x)) (pa:∀i∈Q.ids,(v' x).ownBlock≠some (Q.b i)) (hlv:∀i∈Q.ids,∀g,(v' i).ownBlock=some g->g<wr.heap.size)
 (hr:∀i∈Q.ids,Q.b i≠r/\(v' i).ownBlock≠some r) (hx:x∈Q.ids) (hp:p x=true) (hlx:left (.int .i64 x)=true) {vx:Value}(aj2:zR w1 (Q.b x) vx (Q.l x++[ev]))
 (hf:Fr (fun k=>k=r\/k=Q.b x\/(v' x).ownBlock=some k) wr w1) (bT:cM wr (v' x) vx)
 (wZ:w1.ranges prog 3 R0 q r nn D (fun k=>left k&& !k.sameKey (.int .i64 x)) pD):Told w0 w1 q r nn D Q p ev (fun i=>if i=x then vx else v' i) (fun k=>left k&& !k.sameKey (.int .i64 x)) pD:=by
 have eE:=h.fr.size;refine⟨wZ,fun i hi=>?_,fun i hi j hj g h1 h2=>?_,fun i hi=>?_,Fr.trans' h.fr hf fun k hk hs=>?_⟩
 ·have jg:Lit.sameKey (.int .i64 i) (.int .i64 x)=decide (i=x):=by simp [Lit.sameKey]
  by_cases jd:i=x
  ·subst jd;simp only [jg,hlx,hp];simpa using aj2
  ·have h1:=(h.nM i hi).fr hf (fun hs=>?_) (fun g hg hs=>?_)
   ·simp only [jg,jd,if_false];simpa [jd]using h1
   ·rcases hs with hs|hs|hs
    ·exact(hr i hi).1 hs
    ·exact jd (hqb i hi x hx hs)
    ·exact pa i hi hs
   ·rcases hs with hs|hs|hs
    ·exact(hr i hi).2 (by rw [hg,hs])
    ·exact hq i hi (by rw [hg,hs])
    ·exact jd (h.inj i hi x hx g hg hs)
 ·by_cases jd:i=x
  ·by_cases Ta:j=x
   ·rw [jd,Ta]
   ·simp only [jd,if_true]at h1;simp only [Ta,if_false]at h2;rcases bT with h3|⟨b,h3,h4⟩
    ·rw [h3]at h1;rw [jd];exact h.inj x hx j hj g h1 h2
    ·rw [h3]at h1
     cases h1
     have:=hlv j hj g h2;omega
  ·simp only [jd,if_false]at h1;by_cases Ta:j=x
   ·simp only [Ta,if_true]at h2;rcases bT with h3|⟨b,h3,h4⟩
    ·rw [h3]at h2;rw [Ta];exact h.inj i hi x hx g h1 h2
    ·rw [h3]at h2
     cases h2
     have:=hlv i hi g h1;omega
   ·simp only [Ta,if_false]at h2;exact h.inj i hi j hj g h1 h2
 ·by_cases jd:i=x
  ·subst jd;simp only [if_true];rcases bT with h3|⟨b,h3,h4⟩
   ·rcases h.stay i hi with h5|⟨b,h5,h6⟩
    ·exact .inl (h3.trans h5)
    ·exact .inr ⟨b,h3.trans h5,h6⟩
   ·exact .inr ⟨b,h3,O_⟩
  ·simp only [jd,if_false];exact h.stay i hi
 ·rcases hs with hs|hs|hs
  ·exact .inr hs
  ·exact .inl ⟨x,hx,.inl hs⟩
  ·rcases h.stay x hx with h5|⟨b,h5,h6⟩
   ·exact .inl ⟨x,hx,.inr (by rw [<-h5];exact hs)⟩
   ·rw [h5]at hs
    cases hs
    omega
end
theorem cM.mono {w w':World}{u u':Value}(h:cM w' u u') (hs:w.heap.size<=w'.heap.size):cM w u u':=by
 rcases h with h|⟨b,h1,h2⟩
 ·exact .inl h
 ·exact .inr ⟨b,h1,gy hs h2⟩
theorem xp{w:World}{s q:Nat}{Q:Qs}{c0 c1 c2 c3:Value}(hs:af w s 94 #[c0,c1,c2,c3,.map (some q)]) (h:QX w q Q) (hl:∀i∈Q.ids,(Q.l i).length<=100000000)
 (ev:Ev) (hw:ev.wf) (hk:1<=ev.k/\ev.k<=3) (fn:Nat) (cap:Array Value) (p:Int->Bool) (hE:∀args w,(callFunc fn args).run prog w=.ok (.enter fn args) w)
 (aeo:∀W i,Fr Q.aB w W->H_ fn (#[.int .i64 i]++cap) W fun e w'=>e=.returned (R_ (p i))/\w'=W):
 H_ 134 #[Q_ s,ev.val,.func (.func fn) #[] cap] w fun e w'=>e=.returned (.tuple #[])/\∃v',QX w' q (Q.told p ev v')/\Fr Q.aB w w'/\∀i∈Q.ids,cM w (Q.v i) (v' i):=by
 obtain⟨D,cl,hD1,Lz⟩:=h.map.own;have jE:=hs.lt;have cs4:=hs.k4;have QS:∀i∈Q.ids,mI.ok i:=fun i hi=>h.map.oks _ (List.mem_map.2 ⟨i,hi,rfl⟩);have Uv:∀i∈Q.ids,get (Q.ids.map fun i=>(i,Value.pointer (M_ (Q.b i)))) i=some (.pointer (M_ (Q.b i))):=fun i hi=>get_of_mem h.map.nd (List.mem_map.2 ⟨i,hi,rfl⟩)
 have aj3:Hid (∀i∈Q.ids,Maps.has D (.int .i64 i)=true):=ac5 (fun i hi=>by
  have h1:=oJ (Lz i (QS i hi));rw [Uv i hi]at h1;exact h1)
 have QT:Hid (∀(x:Int) (c:Value),mI.ok x->(∀zd,D.atKey (.int .i64 x) zd=.held c)->x∈Q.ids/\c=Q_ (Q.b x)):=fun x c hx yX=>by
  have h1:=Lz x hx
  cases hg:get (Q.ids.map fun i=>(i,Value.pointer (M_ (Q.b i)))) x with
  |none=>
   rw [hg]at h1;have h2:=(yX (.held (R_ true))).symm.trans (h1 _);have h3:=(yX (.held (R_ false))).symm.trans (h1 _);rw [h2]at h3
   cases h3
  |some u=>
   rw [hg]at h1;have h2:=(yX (.held (R_ true))).symm.trans (h1 _);have h3:=kP hg;obtain⟨i,hi,hzz⟩:=List.mem_map.1 h3;injection hzz with e1 e2;injection h2 with h2;subst e1;exact⟨hi,by rw [h2,<-e2]⟩
 have hqv:∀i∈Q.ids,∀g,(Q.v i).ownBlock=some g->g<w.heap.size:=fun i hi g hg=>((h.nM i hi).own.block hg).2;have aep:∀i∈Q.ids,Q.b i<w.heap.size:=fun i hi=>(h.nM i hi).ai.lt;have Th:=h.map.lt;obtain⟨k,u,f⟩:=ev;have ti:af (W_ w #[I_ k,U_ u,B_ f] 232) w 232 #[I_ k,U_ u,B_ f]:=af.new _ _ _;generalize hnn:(Q.ids.map fun i=>(i,Value.pointer (M_ (Q.b i)))).length=nn at*
 have XF:(w.alloc (G_ #[I_ k,U_ u,B_ f] 232)).ownsMap prog 3 R0 q nn D:=by
  have h1:=(Fr.alloc (Fr.refl (fun _=>False) w) (G_ #[I_ k,U_ u,B_ f] 232)).block q Th id;obtain⟨es,clock,h2,h3⟩:=cl;exact⟨es,clock,h1.trans h2,h3⟩
 have Zw:=ac5 XF;have H:=ac5 h;have HW:=ac5 hw;have HK:=ac5 hk;have HL:=ac5 hl;have aj4:=ac5 aeo;have HQV:=ac5 hqv;have HQB:=ac5 aep;clear Lz Uv cl XF QS h hw hk hl aeo hqv aep hnn hD1;simp only [Ev.val]
 go_enter func134,ntmps134
 go_wp2_with (first
  |(at_range;refine wpList_range_own _ rfl _ 92 rfl 3 280 mI.law underlying92 _ q nn D rfl Zw.out ?_;intro wz Zx hg0 oW)
  |fail)
 have hnz:ae (W_ w #[I_ k,U_ u,B_ f] 232) wz:=Fr.dW hg0 fun _ h=>by cases h
 have HNZ:=ac5 (((ae.refl w).alloc _).trans hnz);have eE:w.heap.size+1<wz.heap.size:=by simp at oW;omega
 have HS0:=ac5 oW
 have HT0:Hid (Told wz wz q (w.heap.size+1) nn D Q p ⟨k,u,f⟩ Q.v (Maps.has D) (Maps.size D)):=ac5 (by
  have qS:=Zx;simp only [gz]at qS;refine⟨qS,fun i hi=>?_,H.out.qv,fun i hi=>.inl rfl,Fr.refl _ _⟩;rw [if_neg (by rw [aj3.out i hi];simp)];exact(H.out.nM i hi).new HNZ.out)
 clear oW
 try go_frame
 go_loopw [6] (fun _ wr=>∃(v':Int->Value) (left:Lit->Bool) (yF:Nat),Hid (Told wz wr q (w.heap.size+1) nn D Q p ⟨k,u,f⟩ v' left yF)) (fun _ wr=>wr.rangeLeft q (w.heap.size+1))
 case atStart=>exact⟨Q.v,_,_,HT0.out⟩
 case round=>
  obtain⟨v',left,yF,HR⟩:=hrel;clear HT0;have wZ:=HR.out.rng;have ari:=HR.out.fr.size
  have SQ:=HR.out.fr.ai (hnz.ai ti) (fun hs=>by
   rcases hs with⟨i,hi,hs|hs⟩|hs
   ·have:=HQB.out i hi;omega
   ·have:=HQV.out i hi _ hs;omega
   ·omega)
  go_wp2_with (first
   |(at_next;refine wpList_next_ranges _ rfl _ rfl 3 mI.law R0 (Value.int .i64) (fun c:Value=>c) (fun key kl hk=>by obtain⟨x,hx,_⟩:=rU underlying3 hk;exact⟨x,hx⟩) (fun v y _=>⟨v,rfl⟩) q (w.heap.size+1) nn _ _ _ rfl wZ ?_ ?_)
   |fail)
  ·intro Ko pQ;have W7:=ac5 pQ;clear pQ Ko;go_wp2;go_end0;refine⟨rfl,v',⟨?_,fun i hi=>?_,H.out.qb,HR.out.inj⟩,Fr.trans' (ae.to HNZ.out) HR.out.fr fun k hk hs=>?_,fun i hi=>(HR.out.stay i hi).mono O_⟩
   ·exact H.out.map.fr (Fr.trans' (ae.to HNZ.out) HR.out.fr fun k hk hs=>hs) (fun hs=>by
     rcases hs with hs|hs
     ·exact H.out.xm H.out.map hs
     ·omega)
   ·have h1:=HR.out.nM i hi
    show zR _ (Q.b i) (v' i) (z_ p _ Q i)
    unfold z_;simpa [W7.out]using h1
   ·rcases hs with hs|hs
    ·exact hs
    ·omega
  ·intro x c kl y py w1 pD Zy eN hRc yX qS bJ NO fB hen;obtain⟨x',NY,rfl,UG⟩:=rU underlying3 Zy;injection NY with _ NY;subst NY;simp only [R0,rM,vt]at hRc;obtain⟨rfl,rfl⟩:=hRc;obtain⟨hx,rfl⟩:=QT.out x c UG yX;have aeq:∀i∈Q.ids,Q.b i≠w.heap.size+1/\(v' i).ownBlock≠some (w.heap.size+1):=fun i hi=>⟨iS wZ (HR.out.nM i hi).ai,fun hs=>by obtain⟨cs,h1⟩:=(HR.out.nM i hi).own.heap hs;exact iS wZ h1 rfl⟩;have br:Fr (fun k=>k=w.heap.size+1) wr w1:=Fr.dW NO fun i hi=>by injection hi with hi;exact hi.symm
   have U0:=Fr.trans' (Fr.trans' (ae.to HNZ.out) HR.out.fr fun k hk hs=>by rcases hs with hs|hs;exact hs;omega) br fun k hk hs=>O_
   have HA:=ac5 (aj4.out w1 x U0);have HRN:=ac5 aeq;have Xy:=ac5 fB;have ajW:=br.size;have gN:=br.ai SQ O_;have hb1l:=gN.lt;clear fB aeq U0
   cases hp:p x with
   |false=>
    rw [hp]at HA;have HP:=ac5 hp;clear hp;go_wp2_with fail
    refine HA.out.mono ?_;rintro e w2 ⟨rfl,rfl⟩;go_wp2;go_roundw
    case rel=>exact⟨v',_,pD,HR.out.skip HRN.out br HP.out qS⟩
    case measure=>rw [qS.left_eq,wZ.left_eq];exact bJ
   |true=>
    rw [hp]at HA;have HP:=ac5 hp;clear hp;go_wp2_with fail
    refine HA.out.mono ?_;rintro e w2 ⟨rfl,rfl⟩;have oZ:=(HR.out.nM x hx).fr br (fun hs=>(HRN.out x hx).1 hs) (fun g hg hs=>(HRN.out x hx).2 (by rw [hg,hs]));rw [if_neg (by rw [eN];simp)]at oZ;have d0:=gN.k0;have d1:=gN.k1;have d2:=gN.k2;have hqa:=oZ.new ((ae.refl w2).alloc (G_ #[I_ k,U_ u,B_ f] 232));have hpu:=Qb hqa (X_ (M_ w2) 1 1) [⟨k,u,f⟩] (OF yx (af.new _ _ _) [⟨k,u,f⟩] rfl) S_ (by have:=HL.out x hx;omega) (fun y hy=>by rw [List.mem_singleton.1 hy];exact HW.out);rw [show([⟨k,u,f⟩]:List Ev).filter (fun x=>decide (1<=x.k/\x.k<=3))=[⟨k,u,f⟩] by simpa using HK.out]at hpu;have HPU:=ac5 hpu;have HQ1:=ac5 oZ;clear hpu hqa oZ;go_wp2_with fail
    refine HPU.out.mono ?_;rintro e w3 ⟨rfl,vx,hq3,gP,bT⟩;have hF:Fr (fun k=>k=w.heap.size+1\/k=Q.b x\/(v' x).ownBlock=some k) wr w3:=Fr.trans ((cz br fun k hk=>.inl hk).alloc _) (cz gP fun k hk=>.inr hk)
    have ZE:w3.ranges prog 3 R0 q (w.heap.size+1) nn D (fun k=>left k&& !k.sameKey (.int .i64 x)) pD:=by
     refine sO (sO qS ((ae.refl w2).alloc _) id id) gP (fun hs=>?_) (fun hs=>?_)
     ·rcases hs with hs|hs
      ·exact jP qS HQ1.out.ai hs.symm
      ·obtain⟨cs,h1⟩:=HQ1.out.own.heap hs;exact jP qS h1 rfl
     ·rcases hs with hs|hs
      ·exact iS qS HQ1.out.ai hs.symm
      ·obtain⟨cs,h1⟩:=HQ1.out.own.heap hs;exact iS qS h1 rfl
    have HT3:=ac5 (HR.out.push H.out.qb (fun i hi=>(HR.out.nM i hi).own.ar (HR.out.nM x hx).ai D_) (fun i hi=>(HR.out.nM x hx).own.ar (HR.out.nM i hi).ai D_)
     (fun i hi g hg=>((HR.out.nM i hi).own.block hg).2) HRN.out hx HP.out eN hq3 hF (cM.mono bT P_) ZE)
    have Tp:=ac5 ZE.left_eq;have aj7:=ac5 wZ.left_eq;clear hq3 gP bT hF ZE;go_wp2;go_roundw
    case rel=>exact⟨_,_,pD,HT3.out⟩
    case measure=>rw [Tp.out,aj7.out];exact bJ
section
variable{w0 w w':World}{base:Nat}{S:Sx}{Q:Qs}{M:List bU}{n t f:Int}
theorem cn.BN (h:cn w0 base w S Q M n t f) {v:Value}{l:List Int}(hv:Own (ak .u8) 5 base w v l) {b:Nat}(hb:v.ownBlock=some b):b≠S.s/\b≠S.c/\b≠S.x/\S.u.ownBlock≠some b/\b≠S.q/\¬Q.aB b/\¬S.T.aB b:=by
 obtain⟨cs,h1⟩:=hv.heap hb;have h2:=(hv.block hb).1;refine⟨h1.aU h.hd D_,af.aU h1 h.tO D_,af.aU h1 h.idx.1 D_,fun hu=>?_,iX (h.qx.map.aD h1),h.qx.ne h1 D_ D_,fun hf=>?_⟩
 ·obtain⟨kL,h3⟩:=h.idx.2.1.heap hu;exact h1.aU h3 D_ rfl
 ·have:=hf.2;have:=h.hi;omega
theorem cn.Kv {R:Nat->Prop}(h:cn w0 base w S Q M n t f) {Q':Qs}(hq:QX w' S.q Q') (hf:Fr R w w') (hR:∀k,R k->Q.aB k\/k=S.q) (hQ':∀k,Q'.aB k->Q.aB k\/w.heap.size<=k):cn w0 base w' S Q' M n t f:=by
 obtain⟨X,pE,hX⟩:=h.tK;have N9:=h.MI;have fi:∀k,R k->w0.heap.size<=k:=fun k hk=>h.lo k (by rcases hR k hk with hk|hk;exact lX hk;exact gd (.inl hk))
 refine{h with
  hd:=hf.ai h.hd fun hs=>?_
  tK:=⟨X,pE,hX.fr hf (fun k hk hT=>?_) (fun v l hv b hb hk=>?_)⟩
  tO:=hf.ai h.tO fun hs=>?_
  idx:=h.idx.fr hf (fun hs=>?_) fun b hb hs=>?_
  qx:=hq
  aQ:=fun k hk=>?_
  lo:=fun k hk=>?_
  hb:=gy h.hb hf.size
  new:=ae.two h.new hf fi}
 ·rcases hR _ hs with hs|hs
  ·exact h.MJ.2.2.2 hs
  ·exact N9.1 hs.symm
 ·rcases hR _ hk with hk|hk
  ·exact h.aQ _ hk hT
  ·subst hk;exact h.aq hT
 ·have h1:=h.BN hv hb;rcases hR _ hk with hk|hk
  ·exact h1.2.2.2.2.2.1 hk
  ·exact h1.2.2.2.2.1 hk
 ·rcases hR _ hs with hs|hs
  ·exact h.xo.2.2 hs
  ·exact N9.2.1 hs.symm
 ·rcases hR _ hs with hs|hs
  ·exact h.aem.2 hs
  ·exact N9.2.2.1 hs.symm
 ·rcases hR _ hs with hs|hs
  ·exact h.aen b hb hs
  ·exact N9.2.2.2.1 b hb hs.symm
 ·rcases hQ' k hk with hk|hk
  ·exact h.aQ k hk
  ·intro hT;have h1:=hT.2;have h2:=h.hi;have h3:=h.hb;omega
 ·have c_:=h.new.size;rcases hk with hk|hk|hk|hk|hk|hk|hk
  ·exact h.lo k (.inl hk)
  ·exact h.lo k (.inr (.inl hk))
  ·exact h.lo k (cu (.inl hk))
  ·exact h.lo k (dS (.inl hk))
  ·exact h.lo k (iO (.inl hk))
  ·exact h.lo k (gd (.inl hk))
  ·rcases hQ' k hk with hk|hk
   ·exact h.lo k (lX hk)
   ·omega
theorem cn.turn {R:Nat->Prop}(h:cn w0 base w S Q M n t f) (hf:Fr R w w') (hR:∀k,R k->S.T.aB k\/k=S.c\/k=S.x\/S.u.ownBlock=some k) {u':Value}{M':List bU}{n' t':Int}(ht:∃X:List MB,X.map MB.m=M'/\f_ base w' S.T X)
 (hc:sQ w' S.c n' t' f S.vv S.dd) (hi:cQ 0 w' S.x u' (M'.map bU.uid)) (bT:cM w S.u u') (hl:(M'.length:Int)<=S.cap) (ha:gF (M'.map bU.uid)) (nV:∀m∈M',m.uid<n') (h1:1<=n'/\n'<=4294967295) (h2:0<=t'/\t'<n'):
 cn w0 base w' {S with u:=u'} Q M' n' t' f:=by
 have fi:∀k,R k->w0.heap.size<=k:=fun k hk=>h.lo k (by
  rcases hR k hk with hk|hk|hk|hk
  ·exact .inl hk
  ·exact cu (.inl hk)
  ·exact dS (.inl hk)
  ·exact iO (.inl hk))
 refine{h with
  hd:=hf.ai h.hd fun hs=>?_
  tK:=ht
  tO:=hc
  vd:=h.vd
  idx:=hi
  qx:=h.qx.fr hf (fun hs=>?_) fun k hk hs=>?_
  au:=fun g hg=>?_
  lo:=fun k hk=>?_
  hb:=gy h.hb hf.size
  new:=ae.two h.new hf fi
  len:=hl
  kJ:=ha
  below:=nV
  n1:=h1
  t1:=h2}
 ·rcases hR _ hs with hs|hs|hs|hs
  ·exact h.as_ hs
  ·exact h.MJ.1 hs
  ·exact h.MJ.2.1 hs
  ·exact h.MJ.2.2.1 _ hs rfl
 ·rcases hR _ hs with hs|hs|hs|hs
  ·exact h.aq hs
  ·exact h.MI.2.1 hs
  ·exact h.MI.2.2.1 hs
  ·exact h.MI.2.2.2.1 _ hs rfl
 ·rcases hR _ hs with hs|hs|hs|hs
  ·exact h.aQ _ hk hs
  ·subst hs;exact h.xo.2.2 hk
  ·subst hs;exact h.aem.2 hk
  ·exact h.aen _ hs hk
 ·rcases bT with h3|⟨b,h3,h4⟩
  ·exact h.au g (h3▸hg)
  ·have h3:=h3;have hg:u'.ownBlock=some g:=hg;rw [h3]at hg
   cases hg
   intro hT;have hT:S.T.aB g:=hT;have:=hT.2;have:=h.hi;have:=h.hb;omega
 ·have c_:=h.new.size;rcases hk with hk|hk|hk|hk|hk|hk|hk
  ·exact h.lo k (.inl hk)
  ·exact h.lo k (.inr (.inl hk))
  ·exact h.lo k (cu (.inl hk))
  ·exact h.lo k (dS (.inl hk))
  ·have hk:u'.ownBlock=some k:=hk;rcases bT with h3|⟨b,h3,h4⟩
   ·exact h.lo k (iO (.inl (h3▸hk)))
   ·rw [h3]at hk
    cases hk
    omega
  ·exact h.lo k (gd (.inl hk))
  ·exact h.lo k (lX hk)
end
theorem cn.told {w0 w w':World}{base:Nat}{S:Sx}{Q:Qs}{M:List bU}{n t f:Int}(h:cn w0 base w S Q M n t f) {p:Int->Bool}{ev:Ev}{v':Int->Value}(hq:QX w' S.q (Q.told p ev v')) (hf:Fr Q.aB w w') (bT:∀i∈Q.ids,cM w (Q.v i) (v' i)):
 cn w0 base w' S (Q.told p ev v') M n t f:=by
 refine h.Kv hq hf (fun k hk=>.inl hk) fun k hk=>?_;obtain⟨i,hi,hk⟩:=hk;rcases hk with hk|hk
 ·exact .inl ⟨i,hi,.inl hk⟩
 ·have hk:(v' i).ownBlock=some k:=hk;rcases bT i hi with h1|⟨b,h1,h2⟩
  ·exact .inl ⟨i,hi,.inr (h1▸hk)⟩
  ·rw [h1]at hk
   cases hk
   exact .inr h2
def Qs.add (Q:Qs) (i:Int) (b:Nat):Qs:=⟨Q.ids++[i],fun j=>if j=i then b else Q.b j,fun j=>if j=i then .slice none 0 0 else Q.v j,fun j=>if j=i then []else Q.l j⟩
theorem HasMap.congr {P:Program}{K:TypeId}{α:Type} [DecidableEq α] {E:el P K α}{w:World}{b:Nat}{l l':List (α×Value)}(h:HasMap E w b l) (he:l=l'):HasMap E w b l':=he▸h
theorem QX.add {w w1 w':World}{q:Nat}{Q:Qs}(h:QX w q Q) {i:Int}(hi:i∉Q.ids) {b:Nat}(hn:ae w w1) (hb:w.heap.size<=b) (hq:zR w1 b Z_ []) (hm:HasMap mI w' q (put (Q.ids.map fun i=>(i,Q_ (Q.b i))) i (Q_ b))) (hf:One q w1 w'):QX w' q (Q.add i b):=by
 have bV:∀j∈Q.ids,j≠i:=fun j hj e=>hi (e▸hj)
 have lU:get (Q.ids.map fun i=>(i,Value.pointer (M_ (Q.b i)))) i=none:=by
  rw [dZ,JJ];intro hh;obtain⟨j,hj,he⟩:=List.mem_map.1 hh;exact hi (by simpa using he▸hj)
 have h1:=hm.perm (qL lU);have N9:=h.xm h.map;refine⟨h1.congr ?_,fun j hj=>?_,fun j hj k hk=>?_,fun j hj k hk g=>?_⟩
 ·show _=(Q.ids++[i]).map fun j=>(j,Value.pointer (M_ (if j=i then b else Q.b j)))
  rw [ta]
  congr 1
  ·refine eR fun j hj=>?_;rw [if_neg (bV j hj)]
  ·simp
 ·have hj:j∈Q.ids++[i]:=hj;by_cases g_:j=i
  ·subst g_;simp only [Qs.add,if_true];exact hq.fr hf (fun e=>(hm.aD (hf.ai hq.ai fun e2=>((h.map.fr hn id).aD hq.ai) e2.symm)) e.symm) fun g hg=>by cases hg
  ·simp only [Qs.add,if_neg g_];rcases List.mem_append.1 hj with hj|hj
   ·refine((h.nM j hj).new hn).fr hf (fun e=>N9 ⟨j,hj,.inl e.symm⟩) fun g hg e=>N9 ⟨j,hj,.inr (e▸hg)⟩
   ·exact absurd (List.mem_singleton.1 hj) g_
 ·have hj:j∈Q.ids++[i]:=hj;have hk:k∈Q.ids++[i]:=hk;have bJ:∀j∈Q.ids,Q.b j<w.heap.size:=fun j hj=>(h.nM j hj).ai.lt;by_cases g_:j=i<;>by_cases EL:k=i
  ·intro _;rw [g_,EL]
  ·simp only [Qs.add,g_,EL,if_true,if_false];rcases List.mem_append.1 hk with hk|hk
   ·intro e;have:=bJ k hk;omega
   ·exact absurd (List.mem_singleton.1 hk) EL
  ·simp only [Qs.add,g_,EL,if_true,if_false];rcases List.mem_append.1 hj with hj|hj
   ·intro e;have:=bJ j hj;omega
   ·exact absurd (List.mem_singleton.1 hj) g_
  ·simp only [Qs.add,g_,EL,if_false];rcases List.mem_append.1 hj with hj|hj
   ·rcases List.mem_append.1 hk with hk|hk
    ·exact h.qb j hj k hk
    ·exact absurd (List.mem_singleton.1 hk) EL
   ·exact absurd (List.mem_singleton.1 hj) g_
 ·have hj:j∈Q.ids++[i]:=hj;have hk:k∈Q.ids++[i]:=hk;by_cases g_:j=i<;>by_cases EL:k=i
  ·intro _ _;rw [g_,EL]
  ·simp only [Qs.add,g_,if_true];intro e;cases e
  ·simp only [Qs.add,EL,if_true];intro _ e;cases e
  ·simp only [Qs.add,g_,EL,if_false];rcases List.mem_append.1 hj with hj|hj
   ·rcases List.mem_append.1 hk with hk|hk
    ·exact h.qv j hj k hk g
    ·exact absurd (List.mem_singleton.1 hk) EL
   ·exact absurd (List.mem_singleton.1 hj) g_
theorem Qs.qW {Q:Qs}{i:Int}{b k:Nat}(h:(Q.add i b).aB k):Q.aB k\/k=b:=by
 obtain⟨j,hj,hk⟩:=h;have hj:j∈Q.ids++[i]:=hj;by_cases g_:j=i
 ·simp only [Qs.add,if_pos g_]at hk;rcases hk with hk|hk
  ·exact .inr hk
  ·cases hk
 ·simp only [Qs.add,if_neg g_]at hk;rcases List.mem_append.1 hj with hj|hj
  ·exact .inl ⟨j,hj,hk⟩
  ·exact absurd (List.mem_singleton.1 hj) g_
theorem Kw(w:World):(zeroValue 280).run prog w=.ok (.pointer none) w:=K_
theorem cn.get_none {w0 w:World}{base:Nat}{S:Sx}{Q:Qs}{M:List bU}{n t f:Int}(_h:cn w0 base w S Q M n t f) {i:Int}(hi:i∉Q.ids):get (Q.ids.map fun i=>(i,Value.pointer (M_ (Q.b i)))) i=none:=by
 rw [dZ,JJ];intro hh;obtain⟨j,hj,he⟩:=List.mem_map.1 hh;exact hi (by simpa using he▸hj)
theorem cn.get_some {w0 w:World}{base:Nat}{S:Sx}{Q:Qs}{M:List bU}{n t f:Int}(h:cn w0 base w S Q M n t f) {i:Int}(hi:i∈Q.ids):get (Q.ids.map fun i=>(i,Value.pointer (M_ (Q.b i)))) i=some (.pointer (M_ (Q.b i))):=
 get_of_mem h.qx.map.nd (List.mem_map.2 ⟨i,hi,rfl⟩)
theorem Vc{i:Int}(h0: -9223372036854775808<=i) (h1:i<=9223372036854775807):mI.ok i:=by
 show(Lit.int .i64 i).wf=true
 have h2:IntKind.i64.min<=i:=by rw [show IntKind.i64.min= -9223372036854775808 from rfl];exact h0
 have h3:i<=IntKind.i64.max:=by rw [show IntKind.i64.max=9223372036854775807 from rfl];exact h1
 simp [Lit.wf,h2];exact h1
theorem Q8{w0 w:World}{base:Nat}{S:Sx}{Q:Qs}{M:List bU}{n t f:Int}(h:cn w0 base w S Q M n t f) (i:Int) (h0:0<=i) (h1:i<=9223372036854775807) (hi:i∉Q.ids) (hlen:Q.ids.length<=100000):
 H_ 127 #[Q_ S.s,I_ i] w fun e w'=>∃A c b,e=.returned (.tuple #[X_ A M.length c,I_ 0])/\Own (ak .u32) 28 w.heap.size w' (X_ A M.length c) (M.map bU.uid)/\cn w0 base w' S (Q.add i b) M n t f/\w.heap.size<=b/\Fr (S.aB Q) w w':=by
 have hk:=Vc O_ h1;have eN:=h.qx.map.eG (t:=92) (e:=280) underlying92 (Kw w) hk;rw [h.get_none hi]at eN;simp only [ly]at eN
 change (Instr.lookup 92 (.map (some S.q)) (I_ i) false).run prog w=_ at eN
 have c0:=h.hd.k4;have jE:=h.hd.lt;have arG:decide (i<0)=false:=aP O_;have gE:=h.EV;have NS:(Q.ids.map fun i=>(i,Value.pointer (M_ (Q.b i)))).length<maxLen:=by rw [D9];unfold maxLen;omega
 have hsq:=h.MI.1;have H:=ac5 h;have HI:=ac5 hi;clear h hi
 go_enter func127,ntmps127
 go_wp2_with fail
 go_region_held3 (fun w'=>L_ w' S.s 4 (.map (some S.q))) (first|go_keep|assumption)
  ((first
    |(go_at_call 183
      refine(Qa _).mono ?_;rintro e w3 ⟨rfl,hq3,fu⟩;have da:ae w w3:=Fr.trans N_ fu;have d0:=Fr.cell da c0 id;obtain⟨w4,QC,Py,tj⟩:=(H.out.qx.map.fr da id).mP (t:=92) (e:=280) underlying92 NS hk (Q_ w)
      change (Instr.mapUpdate 92 (.map (some S.q)) (I_ i) (Q_ w)).run prog w3=_ at QC
      have f0:=Fr.cell tj d0 (iX hsq))
    |fail))
 have hqx:=QX.add H.out.qx HI.out da (aA _) hq3 Py tj;have hF:=Fr.trans (ae.to da) tj
 have qC:=H.out.Kv hqx hF (fun k hk=>.inr hk) (fun k hk=>by
  rcases Qs.qW hk with hk|hk
  ·exact .inl hk
  ·exact .inr O_)
 have EJ:=ac5 qC;have e2:=qC.hd.k2;have Gg:=hF.size;have HF:=ac5 hF;have hia:=QV qC.idx.at_ (by rw [D9];omega);have HIA:=ac5 hia;clear hqx qC hq3 fu Py tj QC hF hia eN;go_wp2_with fail
 refine HIA.out.mono ?_;rintro e w5 ⟨o,rfl,kW,Uw⟩;obtain⟨A,c,rfl,_⟩:=kW.form;have HO:=ac5 kW;go_wp2;go_ret2;have ho:=HO.out;rw [D9]at ho;exact⟨A,c,_,rfl,ho.mono Gg,EJ.out.more Uw,aA _,Fr.trans (cz HF.out fun k hk=>gd (.inl hk)) (ae.to Uw)⟩
section
open Go.RowKit Go.Shelf Go.Proofs
end
section
open Go.RowKit Go.Shelf Go.Proofs
attribute [local go_sem] wT
end
end Go.Proofs.YtliimglbbiebiaaGreatDoor
