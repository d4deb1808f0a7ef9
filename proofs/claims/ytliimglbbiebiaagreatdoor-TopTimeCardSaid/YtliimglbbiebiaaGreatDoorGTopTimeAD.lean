import Derived.Test.YtliimglbbiebiaaGreatDoorGTopTime0
import Derived.Test.YtliimglbbiebiaaGreatDoorProg
set_option maxRecDepth 100000
set_option maxHeartbeats 6400000
set_option linter.all false
namespace Go.Proofs.YtliimglbbiebiaaGreatDoor
open Go.Proofs.Tryz Go.RowKit Go.Maps
section
open Go.Shelf Go.Proofs
def zL:Go.Shelf.Ren:=⟨fun|7=>212|10=>287|n=>n,fun|23=>113|26=>3|3=>3|28=>80|0=>0|27=>79|33=>77|4=>4|n=>n,fun|n=>n⟩
theorem WS:Go.Proofs.SlLaysZI.n7 prog zL:={
 mixed:=K_
 f7:=⟨Tryz.f212.name,D_,aK func212 K_⟩
 f10:=⟨Tryz.f287.name,D_,aK func287 K_⟩
 t0:=underlying0
 a0:=isAgg0
 z0:=sizeOf0
 v0:=zeroValue0
 t4:=underlying4
 a4:=isAgg4
 z4:=sizeOf4
 v4:=zeroValue4
 t23:=underlying113
 a23:=isAgg113
 z23:=sizeOf113
 v23:=zeroValue113
 t26:=underlying3
 a26:=isAgg3
 z26:=sizeOf3
 v26:=zeroValue3
 t27:=underlying79
 a27:=isAgg79
 z27:=sizeOf79
 v27:=zeroValue79
 t28:=underlying80
 a28:=isAgg80
 z28:=sizeOf80
 v28:=zeroValue80
 t33:=underlying77
 a33:=isAgg77
 z33:=sizeOf77
 v33:=zeroValue77}
def tz:Go.Shelf.Ren:=⟨fun|6=>211|8=>285|9=>286|11=>329|13=>118|12=>330|23=>171|24=>172|14=>381|15=>382|16=>383|17=>384|18=>385|19=>386|20=>387|21=>388|22=>389|25=>426|26=>219|27=>220|28=>427|29=>428|30=>429|31=>452|n=>n,fun|26=>3|28=>80|24=>31|0=>0|3=>3|37=>214|48=>28|50=>146|4=>4|40=>261|39=>260|45=>124|5=>5|9=>9|51=>331|55=>335|57=>391|58=>392|33=>77|n=>n,fun|n=>n⟩
theorem J7:Go.Proofs.SlLaysZI.n6 prog tz:={
 mixed:=K_
 f6:=⟨Tryz.f211.name,D_,aK func211 K_⟩
 f8:=⟨Tryz.f285.name,D_,aK func285 K_⟩
 f11:=⟨Tryz.f329.name,D_,aK func329 K_⟩
 t0:=underlying0
 a0:=isAgg0
 z0:=sizeOf0
 v0:=zeroValue0
 t24:=underlying31
 a24:=isAgg31
 z24:=sizeOf31
 v24:=zeroValue31
 t26:=underlying3
 a26:=isAgg3
 z26:=sizeOf3
 v26:=zeroValue3
 t28:=underlying80
 a28:=isAgg80
 z28:=sizeOf80
 v28:=zeroValue80
 i26:=by kernel_rfl}
def LV:Go.Shelf.Ren:=⟨fun|5=>286|8=>118|7=>330|19=>171|20=>172|10=>381|11=>382|12=>383|13=>384|14=>385|15=>386|16=>387|17=>388|18=>389|30=>426|31=>219|32=>220|33=>427|34=>428|35=>429|40=>452|n=>n,fun|23=>31|25=>3|3=>3|32=>214|22=>31|0=>0|44=>28|46=>146|4=>4|36=>261|35=>260|41=>124|5=>5|9=>9|53=>331|57=>335|63=>391|64=>392|n=>n,fun|n=>n⟩
theorem WT:Go.Proofs.SlLaysM.n5 prog LV:={
 mixed:=K_
 f5:=⟨Tryz.f286.name,D_,aK func286 K_⟩
 f7:=⟨Tryz.f330.name,D_,aK func330 K_⟩
 f8:=aK func118 K_
 f10:=⟨Tryz.f381.name,D_,aK func381 K_⟩
 f11:=⟨Tryz.f382.name,D_,aK func382 K_⟩
 f12:=⟨Tryz.f383.name,D_,aK func383 K_⟩
 f13:=⟨Tryz.f384.name,D_,aK func384 K_⟩
 f14:=⟨Tryz.f385.name,D_,aK func385 K_⟩
 f15:=⟨Tryz.f386.name,D_,aK func386 K_⟩
 f16:=⟨Tryz.f387.name,D_,aK func387 K_⟩
 f17:=⟨Tryz.f388.name,D_,aK func388 K_⟩
 f18:=⟨Tryz.f389.name,D_,aK func389 K_⟩
 f19:=aK func171 K_
 f20:=aK func172 K_
 f30:=⟨Tryz.f426.name,D_,aK func426 K_⟩
 f31:=aK func219 K_
 f32:=aK func220 K_
 f33:=⟨Tryz.f427.name,D_,aK func427 K_⟩
 f34:=⟨Tryz.f428.name,D_,aK func428 K_⟩
 f35:=⟨Tryz.f429.name,D_,aK func429 K_⟩
 f40:=⟨Tryz.f452.name,D_,aK func452 K_⟩
 t0:=underlying0
 a0:=isAgg0
 z0:=sizeOf0
 v0:=zeroValue0
 t3:=underlying3
 a3:=isAgg3
 z3:=sizeOf3
 v3:=zeroValue3
 t4:=underlying4
 a4:=isAgg4
 z4:=sizeOf4
 v4:=zeroValue4
 t5:=underlying5
 a5:=isAgg5
 z5:=sizeOf5
 v5:=zeroValue5
 t9:=underlying9
 a9:=isAgg9
 z9:=sizeOf9
 v9:=zeroValue9
 t22:=underlying31
 a22:=isAgg31
 z22:=sizeOf31
 v22:=zeroValue31
 t23:=underlying31
 a23:=isAgg31
 z23:=sizeOf31
 v23:=zeroValue31
 t25:=underlying3
 a25:=isAgg3
 z25:=sizeOf3
 v25:=zeroValue3
 t32:=underlying214
 a32:=isAgg214
 z32:=sizeOf214
 v32:=zeroValue214
 t35:=underlying260
 a35:=isAgg260
 z35:=sizeOf260
 v35:=zeroValue260
 t36:=underlying261
 a36:=isAgg261
 z36:=sizeOf261
 v36:=zeroValue261
 t41:=underlying124
 a41:=isAgg124
 z41:=sizeOf124
 v41:=zeroValue124
 t44:=underlying28
 a44:=isAgg28
 z44:=sizeOf28
 v44:=zeroValue28
 t46:=underlying146
 a46:=isAgg146
 z46:=sizeOf146
 v46:=zeroValue146
 t53:=underlying331
 a53:=isAgg331
 z53:=sizeOf331
 v53:=zeroValue331
 t57:=underlying335
 a57:=isAgg335
 z57:=sizeOf335
 v57:=zeroValue335
 t63:=underlying391
 a63:=isAgg391
 z63:=sizeOf391
 v63:=zeroValue391
 t64:=underlying392
 a64:=isAgg392
 z64:=sizeOf392
 v64:=zeroValue392}
end
section
open Go.Sort
structure RdF(dk:Array Int) (a b lim:Nat) (wb wp:Bool) (d1:Array Int) (lm c:Nat) (ch:Hint) (d2:Array Int) (pv:Nat) (ht:Hint) (d3:Array Int) (dn:Bool):Prop where
 s1:d1.size=dk.size
 brk:wb=false->breakPatterns dk a b=d1/\lm=lim-1
 bal:wb=true->dk=d1/\lm=lim
 ad5:lm<=lim
 cp:choosePivot ltInt d1 a b=(c,ch)
 ajD:a<=c
 ajE:c<b
 s2:d2.size=dk.size
 dec:ch=.decreasing->reverseRange d1 a b=d2/\pv=(b-1)-(c-a)/\ht=.increasing
 ajF:ch≠ .decreasing->d1=d2/\pv=c/\ht=ch
 ajG:a<=pv
 ajH:pv<b
 par:(wb&&wp&&decide (ht=.increasing))=true->partialInsertionSort ltInt d2 a b=(d3,dn)
 ajI:(wb&&wp&&decide (ht=.increasing))=false->d2=d3/\dn=false
 s3:d3.size=dk.size
 bel:Below ltInt a b d3
 fin:dn=true->pdq ltInt dk a b lim wb wp=d3
 eq_:dn=false->(decide (a>0)&& !ltInt d3[a-1]! d3[pv]!)=true->∀ga d4,partitionEqual ltInt d3 a b pv=(ga,d4)->
  a<ga/\ga<=b/\d4.size=dk.size/\Below ltInt ga b d4/\pdq ltInt dk a b lim wb wp=pdq ltInt d4 ga b lm wb wp
 part:dn=false->(decide (a>0)&& !ltInt d3[a-1]! d3[pv]!)=false->∀ga ap d4,partition ltInt d3 a b pv=(ga,ap,d4)->
  a<=ga/\ga<b/\d4.size=dk.size/\
  (ga-a<b-ga->Below ltInt a ga d4/\(pdq ltInt d4 a ga lm true true).size=dk.size/\Below ltInt (ga+1) b (pdq ltInt d4 a ga lm true true)/\
    pdq ltInt dk a b lim wb wp=pdq ltInt (pdq ltInt d4 a ga lm true true) (ga+1) b lm (decide (ga-a>=(b-a)/8)) ap)/\
  (¬ga-a<b-ga->Below ltInt (ga+1) b d4/\(pdq ltInt d4 (ga+1) b lm true true).size=dk.size/\Below ltInt a ga (pdq ltInt d4 (ga+1) b lm true true)/\
    pdq ltInt dk a b lim wb wp=pdq ltInt (pdq ltInt d4 (ga+1) b lm true true) a ga lm (decide (b-ga>=(b-a)/8)) ap)
theorem RdF.make (dk:Array Int) (a b lim:Nat) (wb wp:Bool) (IA:¬b-a<=12) (pQ:¬lim=0) (hb:b<=dk.size) (hB:Below ltInt a b dk):
 ∃d1 lm c ch d2 pv ht d3 dn,RdF dk a b lim wb wp d1 lm c ch d2 pv ht d3 dn:=by
 obtain⟨s1,_,hc,s2,_,Mw,s3,B3⟩:=rd_facts (limit:=lim) (wb:=wb) (wp:=wp) swo_ltInt partialInsertionSort_holds reverseRange_holds (show a<b by omega) hb hB;refine⟨(rd ltInt dk a b lim wb wp).d1,(rd ltInt dk a b lim wb wp).lim,(rd ltInt dk a b lim wb wp).c.1,(rd ltInt dk a b lim wb wp).c.2,(rd ltInt dk a b lim wb wp).d2,(rd ltInt dk a b lim wb wp).pivot,(rd ltInt dk a b lim wb wp).hint,(rd ltInt dk a b lim wb wp).pi.1,(rd ltInt dk a b lim wb wp).pi.2,?_⟩;refine⟨s1,fun h=>?_,fun h=>?_,rd_lim_le,rd_c.symm,hc.1,hc.2,s2,fun h=>?_,fun h=>?_,Mw.1,Mw.2,fun h=>?_,fun h=>?_,s3,B3,fun h=>pdq_done IA pQ h,fun h1 h2 ga d4 hx=>?_,fun h1 h2 ga ap d4 hx=>?_⟩
 ·subst h;exact⟨rfl,rfl⟩
 ·subst h;exact⟨rfl,rfl⟩
 ·obtain⟨e1,e2,e3⟩:=rd_dec h;exact⟨e1.symm,e2,e3⟩
 ·obtain⟨e1,e2,e3⟩:=rd_not h;exact⟨e1.symm,e2,e3⟩
 ·exact(rd_pi_yes h).symm
 ·have:=rd_pi_no h;rw [this];exact⟨rfl,rfl⟩
 ·have h2':=h2;simp only [JU,aJ,Bool.not_eq_true']at h2';obtain⟨r1,r2,r3,r4,_⟩:=round_eq swo_ltInt (partitionEqual_holds ltInt) h2'.1 Mw.1 Mw.2 (by rw [s3];exact hb) B3 h2'.2 hx;exact⟨r1,r2,r3.trans s3,r4,by rw [pdq_eq IA pQ h1 h2 (by rw [hx];exact⟨r1,r2⟩),hx]⟩
 ·obtain⟨r1,r2,r3,r4,r5,r6,r7⟩:=round_part swo_ltInt (partition_holds ltInt) Mw.1 Mw.2 (by rw [s3];exact hb) B3 hx;have hd4:=r3.trans s3;refine⟨r1,r2,hd4,fun h4=>?_,fun h4=>?_⟩
  ·obtain⟨pL,sL⟩:=pdq_sorts ltInt swo_ltInt d4 a ga (rd ltInt dk a b lim wb wp).lim true true r1 O_ r4;exact⟨r4,by rw [pL.1];exact hd4,(r6 _ pL sL).1,by rw [pdq_left IA pQ h1 h2 (by rw [hx];exact⟨r1,r2⟩) (by rw [hx];exact h4),hx]⟩
  ·obtain⟨pL,sL⟩:=pdq_sorts ltInt swo_ltInt d4 (ga+1) b (rd ltInt dk a b lim wb wp).lim true true O_ O_ r5;exact⟨r5,by rw [pL.1];exact hd4,(r7 _ pL sL).1,by rw [pdq_right IA pQ h1 h2 (by rw [hx];exact⟨r1,r2⟩) (by rw [hx];exact h4),hx]⟩
end
end Go.Proofs.YtliimglbbiebiaaGreatDoor
