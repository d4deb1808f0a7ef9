import Derived.Test.YtliimglbbiebiaaGreatDoorGTopTimeAQ
import Derived.Test.YtliimglbbiebiaaGreatDoorGTopTimeAP
set_option maxRecDepth 100000
set_option maxHeartbeats 6400000
set_option linter.all false
namespace Go.Proofs.YtliimglbbiebiaaGreatDoor
open Go.Proofs.Tryz Go.RowKit Go.Maps
theorem ej{P:Program}{fn:Func}{p q r:Tmp}{t:TypeId}(h:fn.results= #[.cell p t,.tmp q,.tmp r]) (tmps:Array Value) (w:World) {a:Addr}{v v' v'':Value}
 (hp:tmps[p]? =some (.pointer (some a))) (hq:tmps[q]? =some v') (hr:tmps[r]? =some v'') (hv:(loadVar t a).run P w=.ok v w):(results fn tmps).run P w=.ok (.tuple #[v,v',v'']) w:=by
 simp [results,h,hp,hq,hr,asAddr,hv]
theorem cn.IP {w0 W W':World}{base g:Nat}{S:Sx}{Q:Qs}{M:List bU}{n t f:Int}{ty:TypeId}{cs:Array Value}(h:cn w0 base W S Q M n t f) (o:One g W W') (hb:af W g ty cs) (hg:base<=g) (hw:w0.heap.size<=g)
 (h1:ty≠94) (h2:ty≠155) (h3:ty≠163) (h4:ty≠28) (h5:ty≠351) (h6:ty≠232) (h7:ty≠5):cn w0 base W' S Q M n t f:=
 h.du o (fun k hk e=>by have e:=e;subst e;exact h.aX hb hg h1 h2 h3 h4 h5 h6 hk)
   (fun v l hv b ng e=>by have e:=e;subst e;obtain⟨kL,hc⟩:=hv.heap ng;exact absurd rfl (hc.aU hb (iX h7)))
   (fun k e=>by have e:=e;omega)
theorem ny(items:Int) (w:World):H_ 142 #[I_ items] w fun e w'=>e=.returned (R_ (bits .and .i64 items 16 !=0))/\w'=w:=by
 go_enter func142,ntmps142
 go_wp2;go_ret;exact⟨rfl,rfl⟩
theorem MW{w0 w W:World}{base v x:Nat}{u:Value}{S:Sx}{Q Q':Qs}{M M':List bU}{n t f:Int}{j:Nat}(h:GI w0 base v x u S Q M n t f j Q' M' w W)
 (bJ:∀k,(k=v\/k=x\/u.ownBlock=some k)->k<W.heap.size) (hQ:∀i∈Q'.ids,(Q'.l i).length<=100000000)
 {sb ib bb:Nat}{items eZ:Int}(hs:af W sb 39 #[Q_ S.s]) (hi:af W ib 3 #[I_ items]) (hb:af W bb 3 #[I_ eZ])
 (Uh:base<=sb) (oR:base<=ib) (lA:base<=bb) (seq uid:Int) (LI:0<=seq) (oZ:seq<=4294967295) (CG:0<=uid) (GX:uid<n):
 H_ 140 #[I_ seq,U_ uid,Q_ sb,Q_ ib,Q_ bb] W fun e W'=>∃(r:cV) (told there:Bool) (Gm:Qs) (M'':List bU),e=.returned (.tuple #[r.val,R_ told,R_ there])/\
  (told=true->(r.k=4/\r.n=seq/\(bits .and .i64 r.it 2≠0->r.uid=uid))/\bF W.heap.size W' r)/\GI w0 base v x u S Q M n t f (j+1) Gm M'' w W'/\Fr (S.aB Q') W W':=by
 have n0:ae W (W_ W #[I_ 0,U_ 0,E_,I_ 0,E_,I_ 0,B_ 0,U_ 0,U_ 0,Z_] 53):=(ae.refl W).alloc _;have q0:∀o,L_ (W.alloc o) sb 0 (Q_ S.s):=fun o=>(hs.alloc o).cell 0;have IQ:uid<=4294967295:=by have:=h.st.n1;omega
 have HG:=ac5 (E8 (h.st.more n0) uid CG IQ);have H:=ac5 h;have HC:=ac5 (And.intro hs (And.intro hi (And.intro hb (And.intro bJ hQ))));clear h hs hi hb bJ hQ n0
 go_enter func140,ntmps140
 go_wp2_with fail
 refine HG.out.mono ?_;rintro e W1 ⟨⟨⟨yu,yf,yb⟩,yA,yn,yc⟩,rfl,rI,cl,uv,lK⟩;dsimp only at rI cl;dsimp only [MB.bv]at cl;dsimp only [MB.val];have hn6:∀{wx:World}{Qx:Qs}{Mx:List bU}{g:Nat}{cs:Array Value},cn w0 base wx S Qx Mx n t f->af wx g 53 cs->base<=g->¬S.aB Qx g:=fun hx hb hg=>hx.aX hb hg D_ D_ D_ D_ D_ D_;have XN:∀{wx:World}{Qx:Qs}{Mx:List bU}{g:Nat}{cs:Array Value},cn w0 base wx S Qx Mx n t f->af wx g 39 cs->base<=g->¬S.aB Qx g:=fun hx hb hg=>hx.aX hb hg D_ D_ D_ D_ D_ D_;have IS:∀{wx:World}{Qx:Qs}{Mx:List bU}{g:Nat}{cs:Array Value},cn w0 base wx S Qx Mx n t f->af wx g 3 cs->base<=g->¬S.aB Qx g:=fun hx hb hg=>hx.aX hb hg D_ D_ D_ D_ D_ D_;have TZ:∀{wx:World}{Qx:Qs}{Mx:List bU}{g:Nat}{cs:Array Value},cn w0 base wx S Qx Mx n t f->af wx g 238 cs->base<=g->¬S.aB Qx g:=fun hx hb hg=>hx.aX hb hg D_ D_ D_ D_ D_ D_;have n0:ae W (W_ W #[I_ 0,U_ 0,E_,I_ 0,E_,I_ 0,B_ 0,U_ 0,U_ 0,Z_] 53):=(ae.refl W).alloc _;have q_:=H.out.st.more n0;have bX:af (W_ W #[I_ 0,U_ 0,E_,I_ 0,E_,I_ 0,B_ 0,U_ 0,U_ 0,Z_] 53) W 53 #[I_ 0,U_ 0,E_,I_ 0,E_,I_ 0,B_ 0,U_ 0,U_ 0,Z_]:=af.new _ _ _;have Vp:=Fr.ai lK.fr bX (hn6 q_ bX H.out.st.hb);have bs1:=Fr.ai lK.fr (n0.ai HC.out.1) (XN q_ (n0.ai HC.out.1) Uh);have bi1:=Fr.ai lK.fr (n0.ai HC.out.2.1) (IS q_ (n0.ai HC.out.2.1) oR);have bb1:=Fr.ai lK.fr (n0.ai HC.out.2.2.1) (IS q_ (n0.ai HC.out.2.2.1) lA);have Rn:W.heap.size+1<=W1.heap.size:=by have:=lK.fr.size;rwa [gz]at this
 have Fe:=(qZ.new n0).trans lK;have n2:ae W1 (W_ W1 #[U_ yu,B_ yf,X_ yA yn yc] 238):=(ae.refl W1).alloc _;have bM:af (W_ W1 #[U_ yu,B_ yf,X_ yA yn yc] 238) W1 238 #[U_ yu,B_ yf,X_ yA yn yc]:=af.new _ _ _;have c1:∀o,L_ (W1.alloc o) ib 0 (I_ items):=fun o=>(bi1.alloc o).cell 0;have c2:∀o,L_ (W1.alloc o) sb 0 (Q_ S.s):=fun o=>(bs1.alloc o).cell 0;have c3:∀o,L_ (W1.alloc o) bb 0 (I_ eZ):=fun o=>(bb1.alloc o).cell 0;have KN:=H.out.st.hb;have cU:=H.out.st.new.size
 cases hfo:(dY M' uid).isSome
 ·obtain⟨⟨x0,y0⟩,⟨x1,y1⟩,⟨x2,y2⟩,⟨x3,y3⟩,⟨x4,y4⟩,⟨x5,y5⟩,⟨x6,y6⟩,⟨x7,y7⟩,⟨x8,y8⟩,⟨x9,y9⟩⟩:=fH (Vp.alloc (G_ #[U_ yu,B_ yf,X_ yA yn yc] 238));have HF:=ac5 (And.intro uv (And.intro Fe (And.intro (Vp.alloc (G_ #[U_ yu,B_ yf,X_ yA yn yc] 238)) n2)));clear hn6 XN IS TZ uv lK Fe Vp bs1 bi1 bb1 bX q_ n0 n2 bM c1 c2 c3 cl;go_wp2_with fail
  have BU:=kn HF.out.2.2.1 (I_ 0) (U_ 0) E_ (I_ 0) E_ (I_ 0) (B_ 0) (U_ 0) (U_ 0) Z_;have jR:=lJ (w:=W1.alloc (G_ #[U_ yu,B_ yf,X_ yA yn yc] 238)) (g:=W.heap.size) (I_ 0) (U_ 0) E_ (I_ 0) E_ (I_ 0) (B_ 0) (U_ 0) (U_ 0) Z_;have nQ:=(HF.out.1.more HF.out.2.2.2).IP jR HF.out.2.2.1 KN cU D_ D_ D_ D_ D_ D_ D_;have i6:=Fr.trans' (HF.out.2.1.fr.alloc _) jR fun i hi e=>by have e:=e;omega
  refine r_ (ej rfl _ _ rfl rfl rfl (fS BU)) rfl ?_;refine⟨⟨0,0,⟨#[]⟩,0,⟨#[]⟩,0,0,0,0,none,0,0⟩,false,false,Q',M',rfl,(fun e=>by cases e),H.out.step nQ ⟨i6,fun _ h=>.inl h,rfl,rfl,rfl,rfl⟩ HC.out.2.2.2.1 rfl (fun i=>⟨[],S_,S_,S_⟩) rfl,i6⟩
 ·obtain⟨m,hm⟩:=Option.isSome_iff_exists.1 hfo;have ZV:=rI;rw [hm]at ZV;have Vm:=(rL hm).2;have dx:=uv.ok m (rL hm).1;dsimp only [Option.getD_some]at ZV;subst ZV;dsimp only at Vm dx;have aku:=Vm.symm;clear Vm;subst aku;obtain⟨⟨_,qD⟩,nV⟩:=dx;dsimp only at qD;rcases hmk:(bits .and .i64 items 16 !=0)with _|_
  ·have HT:Hid (cn w0 base (W_ W1 #[U_ uid,B_ yf,X_ yA yn yc] 238) S Q' M' n t f/\qZ W (W_ W1 #[U_ uid,B_ yf,X_ yA yn yc] 238) S Q' S Q'/\af (W_ W1 #[U_ uid,B_ yf,X_ yA yn yc] 238) W 53 #[I_ 0,U_ 0,E_,I_ 0,E_,I_ 0,B_ 0,U_ 0,U_ 0,Z_]):=ac5 ⟨uv.more n2,Fe.trans (qZ.new n2),Vp.alloc _⟩;have HMS:=ac5 (iq seq LI oZ items uid yf ⟨CG,IQ⟩ ⟨qD.1,O_⟩ yA yn yc yb (W_ W1 #[U_ uid,B_ yf,X_ yA yn yc] 238) (cl.alloc _).rd nV);clear hn6 XN IS TZ uv lK Fe Vp bs1 bi1 bb1 bX q_ n0 n2 bM cl rI hm hfo
   go_wp2_with (first
    |(go_at_call 142
      refine(ny items _).mono ?_;rintro e w3 ⟨rfl,rfl⟩)
    |fail)
   refine HMS.out.mono ?_;rintro e W4 ⟨⟨rk,rn,rt,de,rx,cT,cw,aY,cW,rA,dh,cY⟩,rfl,ra,pR,yr,lC,n4⟩;dsimp only at pR yr lC;dsimp only [cV.val];have IT:=n4.ai HT.out.2.2;obtain⟨⟨x0,y0⟩,⟨x1,y1⟩,⟨x2,y2⟩,⟨x3,y3⟩,⟨x4,y4⟩,⟨x5,y5⟩,⟨x6,y6⟩,⟨x7,y7⟩,⟨x8,y8⟩,⟨x9,y9⟩⟩:=fH IT;have HX:=ac5 (And.intro n4 (And.intro IT (And.intro pR (And.intro yr lC))));have PW:=ac5 ra;clear n4 IT pR yr lC ra;go_wp2_with fail
   have BU:=kn HX.out.2.1 (I_ rk) (U_ rn) (T_ rt) (I_ de) (T_ rx) (I_ cT) (B_ cw) (U_ aY) (U_ cW) (X_ rA dh cY);have jR:=lJ (w:=W4) (g:=W.heap.size) (I_ rk) (U_ rn) (T_ rt) (I_ de) (T_ rx) (I_ cT) (B_ cw) (U_ aY) (U_ cW) (X_ rA dh cY);have nQ:=(HT.out.1.more HX.out.1).IP jR HX.out.2.1 KN cU D_ D_ D_ D_ D_ D_ D_;have i6:=Fr.trans' (Fr.trans' HT.out.2.1.fr HX.out.1 fun _ _ h=>h.elim) jR fun i hi e=>by have e:=e;omega
   refine r_ (ej rfl _ _ rfl rfl rfl (fS BU)) rfl ?_;exact⟨⟨rk,rn,rt,de,rx,cT,cw,aY,cW,rA,dh,cY⟩,true,true,Q',M',rfl,fun _=>⟨⟨HX.out.2.2.1,HX.out.2.2.2.1,fun h=>(HX.out.2.2.2.2 h).1⟩,(PW.out.mono HT.out.2.1.fr.size).one jR HX.out.2.1 D_⟩,H.out.step nQ ⟨i6,HT.out.2.1.gr,rfl,rfl,rfl,rfl⟩ HC.out.2.2.2.1 rfl (fun i=>⟨[],S_,S_,S_⟩) (rfl),i6⟩
  ·rcases LC:(bits .and .u8 yf 8==0)with _|_
   ·have HT:Hid (cn w0 base (W_ W1 #[U_ uid,B_ yf,X_ yA yn yc] 238) S Q' M' n t f/\qZ W (W_ W1 #[U_ uid,B_ yf,X_ yA yn yc] 238) S Q' S Q'/\af (W_ W1 #[U_ uid,B_ yf,X_ yA yn yc] 238) W 53 #[I_ 0,U_ 0,E_,I_ 0,E_,I_ 0,B_ 0,U_ 0,U_ 0,Z_]):=ac5 ⟨uv.more n2,Fe.trans (qZ.new n2),Vp.alloc _⟩;have HMS:=ac5 (iq seq LI oZ items uid yf ⟨CG,IQ⟩ ⟨qD.1,O_⟩ yA yn yc yb (W_ W1 #[U_ uid,B_ yf,X_ yA yn yc] 238) (cl.alloc _).rd nV);clear hn6 XN IS TZ uv lK Fe Vp bs1 bi1 bb1 bX q_ n0 n2 bM cl rI hm hfo
    go_wp2_with (first
     |(go_at_call 142
       refine(ny items _).mono ?_;rintro e w3 ⟨rfl,rfl⟩)
     |fail)
    refine HMS.out.mono ?_;rintro e W4 ⟨⟨rk,rn,rt,de,rx,cT,cw,aY,cW,rA,dh,cY⟩,rfl,ra,pR,yr,lC,n4⟩;dsimp only at pR yr lC;dsimp only [cV.val];have IT:=n4.ai HT.out.2.2;obtain⟨⟨x0,y0⟩,⟨x1,y1⟩,⟨x2,y2⟩,⟨x3,y3⟩,⟨x4,y4⟩,⟨x5,y5⟩,⟨x6,y6⟩,⟨x7,y7⟩,⟨x8,y8⟩,⟨x9,y9⟩⟩:=fH IT;have HX:=ac5 (And.intro n4 (And.intro IT (And.intro pR (And.intro yr lC))));have PW:=ac5 ra;clear n4 IT pR yr lC ra;go_wp2_with fail
    have BU:=kn HX.out.2.1 (I_ rk) (U_ rn) (T_ rt) (I_ de) (T_ rx) (I_ cT) (B_ cw) (U_ aY) (U_ cW) (X_ rA dh cY);have jR:=lJ (w:=W4) (g:=W.heap.size) (I_ rk) (U_ rn) (T_ rt) (I_ de) (T_ rx) (I_ cT) (B_ cw) (U_ aY) (U_ cW) (X_ rA dh cY);have nQ:=(HT.out.1.more HX.out.1).IP jR HX.out.2.1 KN cU D_ D_ D_ D_ D_ D_ D_;have i6:=Fr.trans' (Fr.trans' HT.out.2.1.fr HX.out.1 fun _ _ h=>h.elim) jR fun i hi e=>by have e:=e;omega
    refine r_ (ej rfl _ _ rfl rfl rfl (fS BU)) rfl ?_;exact⟨⟨rk,rn,rt,de,rx,cT,cw,aY,cW,rA,dh,cY⟩,true,true,Q',M',rfl,fun _=>⟨⟨HX.out.2.2.1,HX.out.2.2.2.1,fun h=>(HX.out.2.2.2.2 h).1⟩,(PW.out.mono HT.out.2.1.fr.size).one jR HX.out.2.1 D_⟩,H.out.step nQ ⟨i6,HT.out.2.1.gr,rfl,rfl,rfl,rfl⟩ HC.out.2.2.2.1 rfl (fun i=>⟨[],S_,S_,S_⟩) (rfl),i6⟩
   ·have nQ:=uv.more n2;have HCH:=ac5 (tQ nQ HC.out.2.2.2.2 eZ uid 1 8 CG IQ ⟨O_,O_⟩ D_);have HFT:Hid (∀b,W.heap.size+1<=b->S.aB Q' b->False):=ac5 fun b hb hk=>absurd (H.out.st.fI hk) O_;have HZ:=ac5 (And.intro nQ (And.intro bM (And.intro (Vp.alloc (G_ #[U_ uid,B_ yf,X_ yA yn yc] 238)) (And.intro (cl.alloc (G_ #[U_ uid,B_ yf,X_ yA yn yc] 238)) (Fe.trans (qZ.new n2))))));have uP:0<=(flX M' uid 1 8)/\(flX M' uid 1 8)<=31:=BS O_;have HFX:=ac5 (And.intro uP (And.intro nV Rn));clear XN IS uv lK Fe Vp bs1 bi1 bb1 bX q_ n0 n2 bM cl rI hm hfo nQ uP nV Rn
    go_wp2_with (first
     |(go_at_call 142
       refine(ny items _).mono ?_;rintro e w3 ⟨rfl,rfl⟩)
     |(go_at_call 143
       refine HCH.out.mono ?_;rintro e W3 ⟨rfl,Q3,yJ,mh,Rr,o_⟩;have Rn:=HFX.out.2.2;have XO:=Fr.ai mh.fr HZ.out.2.1 (TZ HZ.out.1 HZ.out.2.1 O_);have bX3:=Fr.ai mh.fr HZ.out.2.2.1 (hn6 HZ.out.1 HZ.out.2.2.1 KN);have ZX:=HZ.out.2.2.2.1.fr mh.fr (fun b hb hk=>HFT.out b (by have:=(HZ.out.2.2.2.1.block hb).1;rwa [gz]at this) hk);have m0:∀v,L_ (W3.setCell (C_ W1 1) v) W1 0 (U_ uid):=fun v=>(XO.al 1 v).cell 0;have m1:∀v,L_ (W3.setCell (C_ W1 1) v) W1 1 v:=fun v=>(XO.al 1 v).cell 1;have m2:∀v,L_ (W3.setCell (C_ W1 1) v) W1 2 (X_ yA yn yc):=fun v=>(XO.al 1 v).cell 2;have m3:=XO.k1;have m4:=XO.dq;have a_:=One.set (One.refl W1.heap.size W3) 1 (B_ (flX M' uid 1 8));have ZY:=HZ.out.2.2.2.2.trans mh;have HT:Hid (cn w0 base (W3.setCell (C_ W1 1) (B_ (flX M' uid 1 8))) S Q3 (JD M' uid 1 8) n t f/\qZ W (W3.setCell (C_ W1 1) (B_ (flX M' uid 1 8))) S Q' S Q3/\af (W3.setCell (C_ W1 1) (B_ (flX M' uid 1 8))) W 53 #[I_ 0,U_ 0,E_,I_ 0,E_,I_ 0,B_ 0,U_ 0,U_ 0,Z_]):=ac5 ⟨yJ.IP a_ XO O_ O_ D_ D_ D_ D_ D_ D_ D_,⟨Fr.trans' ZY.fr a_ fun i hi e=>by have e:=e;omega,ZY.gr,rfl,rfl,rfl,rfl⟩,One.ai a_ bX3 O_⟩;have HMS:=ac5 (iq seq LI oZ (bits .or .i64 items 1) uid (flX M' uid 1 8) ⟨CG,IQ⟩ ⟨HFX.out.1.1,by have:=HFX.out.1.2;omega⟩ yA yn yc yb (W3.setCell (C_ W1 1) (B_ (flX M' uid 1 8))) (ZX.fr a_ fun b hb e=>ZX.aD XO D_ (by have e:=e;rw [hb,e])).rd HFX.out.2.1);have HE:=ac5 (And.intro Rr o_);clear yJ mh Rr o_ XO bX3 ZX a_ ZY)
     |fail)
    refine HMS.out.mono ?_;rintro e W4 ⟨⟨rk,rn,rt,de,rx,cT,cw,aY,cW,rA,dh,cY⟩,rfl,ra,pR,yr,lC,n4⟩;dsimp only at pR yr lC;dsimp only [cV.val];have IT:=n4.ai HT.out.2.2;obtain⟨⟨x0,y0⟩,⟨x1,y1⟩,⟨x2,y2⟩,⟨x3,y3⟩,⟨x4,y4⟩,⟨x5,y5⟩,⟨x6,y6⟩,⟨x7,y7⟩,⟨x8,y8⟩,⟨x9,y9⟩⟩:=fH IT;have HX:=ac5 (And.intro n4 (And.intro IT (And.intro pR (And.intro yr lC))));have PW:=ac5 ra;clear n4 IT pR yr lC ra;go_wp2_with fail
    have BU:=kn HX.out.2.1 (I_ rk) (U_ rn) (T_ rt) (I_ de) (T_ rx) (I_ cT) (B_ cw) (U_ aY) (U_ cW) (X_ rA dh cY);have jR:=lJ (w:=W4) (g:=W.heap.size) (I_ rk) (U_ rn) (T_ rt) (I_ de) (T_ rx) (I_ cT) (B_ cw) (U_ aY) (U_ cW) (X_ rA dh cY);have nQ:=(HT.out.1.more HX.out.1).IP jR HX.out.2.1 KN cU D_ D_ D_ D_ D_ D_ D_;have i6:=Fr.trans' (Fr.trans' HT.out.2.1.fr HX.out.1 fun _ _ h=>h.elim) jR fun i hi e=>by have e:=e;omega
    refine r_ (ej rfl _ _ rfl rfl rfl (fS BU)) rfl ?_;exact⟨⟨rk,rn,rt,de,rx,cT,cw,aY,cW,rA,dh,cY⟩,true,true,Q3,_,rfl,fun _=>⟨⟨HX.out.2.2.1,HX.out.2.2.2.1,fun h=>(HX.out.2.2.2.2 h).1⟩,(PW.out.mono HT.out.2.1.fr.size).one jR HX.out.2.1 D_⟩,H.out.step nQ ⟨i6,HT.out.2.1.gr,rfl,rfl,rfl,rfl⟩ HC.out.2.2.2.1 HE.out.1 (fun i=>⟨_,HE.out.2 i,Fc _ _ _ _ _ _ _ CG GX O_⟩) (Fb _ _ _ _),i6⟩
def Tq(r:cV):Prop:=bits .and .i64 r.it 2=0
def EvO(B:Nat) (W:World) (r:cV) (ok:Bool):Prop:=Tq r/\(ok=true->bF B W r)
structure VwS(P2:Prop) (w w':World) (v x:Nat) (u:Value) (l:List Int) (uid:Int) (g':Bool) (u':Value) (l':List Int):Prop where
 vw:VW w' v x g'
 ix:cQ 0 w' x u' l'
 kJ:gF l'
 len:l'.length<=l.length+1
 mem:∀y∈l',y∈l\/y=uid
 fr:Fr (fun k=>k=v\/k=x\/u.ownBlock=some k) w w'
 st:cM w u u'
 pre:P2->l <+:l'
section
variable{w:World}{v x:Nat}{g:Bool}{u:Value}{l:List Int}
theorem xy(l:List Int) (u:Int):0<=placeOf l u/\placeOf l u<=l.length:=by
 unfold placeOf
 split
 ·rename_i h
  have:=List.idxOf_lt_length_iff.2 h;omega
 ·omega
theorem Rs(hv:VW w v x g) (hi:cQ 0 w x u l) (ha:gF l) (hl:l.length<=50000) (k uid fl:Int):
 H_ 178 #[Q_ v,.agg #[I_ k,U_ uid,B_ fl]] w fun e w'=>∃(r:cV) (ok:Bool),e=.returned (.tuple #[r.val,R_ ok])/\EvO w.heap.size w' r ok/\∃u' l',VwS False w w' v x u l uid g u' l':=by
 have Kd:=xy l uid;obtain⟨wA,nY⟩:∃wA,wA=(w.alloc (G_ #[I_ k,U_ uid,B_ fl] 232)).alloc (G_ #[I_ 0,U_ 0,E_,I_ 0,E_,I_ 0,B_ 0,U_ 0,U_ 0,Z_] 53):=⟨_,rfl⟩;have n0:ae w wA:=nY▸((ae.refl w).alloc _).alloc _;have e0:=nY▸(af.new _ _ _).alloc _;have r0:=nY▸af.cD _ _ _ _;have BV:=n0.ai hv;have Rt:=hi.new n0;have a0:=BV.k0;have a1:=e0.k1;have HI:=ac5 hi;have HA:=ac5 Rt;clear hi Rt
 go_enter func178,ntmps178
 go_wp2_with fail
 rw [<-nY];clear nY
 go_region_held3 (fun W=>L_ W v 0 (Q_ x)/\L_ W w 1 (U_ uid)) (first|go_keep|(refine⟨?_,?_⟩<;>assumption)) ((first
  |(go_at_call 194
    refine(qrm (HA.out.new A_) ha O_ uid).mono ?_;rintro e w2 ⟨u',rfl,yk,f2,st2⟩;have F2:QZ x u wA w2:=Fr.trans (ae.to A_) f2
    have dR:=F2.ai BV (by
     rintro(e|e)
     ·exact BV.aU HA.out.1 D_ e
     ·obtain⟨cs,cK⟩:=HA.out.2.1.heap e;exact BV.aU cK D_ rfl)
    have r2:=F2.ai r0 (by
     rintro(e|e)
     ·exact r0.aU HA.out.1 D_ e
     ·obtain⟨cs,cK⟩:=HA.out.2.1.heap e;exact r0.aU cK D_ rfl)
    have e2:=F2.ai e0 (by
     rintro(e|e)
     ·exact e0.aU HA.out.1 D_ e
     ·obtain⟨cs,cK⟩:=HA.out.2.1.heap e;exact e0.aU cK D_ rfl)
    have p2:=e2.k1;have p3:=e2.k2;have p0:=dR.k0;have Kz:=ac5 yk;have iw:=ac5 F2;have jO:=ac5 st2;clear yk f2 F2 st2)
  |fail))
 have bT:cM w u u':=by
  rcases jO.out with e1|⟨b',e1,e2⟩
  ·exact .inl e1
  ·exact .inr ⟨b',e1,by have:=n0.size;have e3:wA.drew.heap.size=wA.heap.size:=rfl;omega⟩
 have Uv:decide (0<placeOf l uid)=decide (0<placeOf l uid):=rfl;clear Uv;obtain⟨q,hq⟩:∃q:Nat,placeOf l uid=q:=⟨(placeOf l uid).toNat,O_⟩;rw [hq]at Kd⊢;clear hq;have HF:=ac5 (And.intro dR (And.intro r2 (And.intro n0 bT)));have hq4:(q:Int)<=50000:=O_
 clear dR r2 e2 p2 p3 p0 jO bT BV r0 e0 a0 a1 n0 Kd;go_wp2_with fail
 refine(kC 3 q O_ _).mono ?_;rintro e w3 ⟨rfl,n3⟩;dsimp only [cV.val];have r3:=n3.ai HF.out.2.1;obtain⟨⟨x0,y0⟩,⟨x1,y1⟩,⟨x2,y2⟩,⟨x3,y3⟩,⟨x4,y4⟩,⟨x5,y5⟩,⟨x6,y6⟩,⟨x7,y7⟩,⟨x8,y8⟩,⟨x9,y9⟩⟩:=fH r3;have HX:=ac5 (And.intro n3 r3);clear n3 r3;go_wp2_with fail
 have hR:=kn HX.out.2 (I_ 3) (U_ q) E_ (I_ 0) E_ (I_ 0) (B_ 0) (U_ 0) (U_ 0) Z_;have hO:=lJ (w:=w3) (g:=w.heap.size+1) (I_ 3) (U_ q) E_ (I_ 0) E_ (I_ 0) (B_ 0) (U_ 0) (U_ 0) Z_;have xW:=hv.lt;have hsx:=HI.out.1.lt;refine r_ (aC rfl _ _ rfl rfl (fS hR)) rfl ?_;refine⟨⟨3,q,⟨#[]⟩,0,⟨#[]⟩,0,0,0,0,none,0,0⟩,_,rfl,⟨(show bits .and .i64 0 2=0 by decide),fun _=>bF.bare _ _ 3 q D_ ⟨O_,O_⟩⟩,u',_,{vw:=hO.ai (HX.out.1.ai HF.out.1) O_,ix:=(Kz.out.new HX.out.1).fr hO O_ (fun b hb e=>?_),kJ:=ha.filter _,len:=Nat.le_succ_of_le (cR _ _),mem:=fun y hy=>.inl (List.mem_filter.1 hy).1,fr:=Fr.trans' (Fr.trans' (Fr.trans (ae.to HF.out.2.2.1) (iw.out.mono fun k _ h=>.inr h)) HX.out.1 fun _ _ h=>h.elim) hO (fun i hi e=>by have e:=e;omega),st:=HF.out.2.2.2,pre:=fun h=>h.elim}⟩;have e:=e;subst e;obtain⟨cs,cK⟩:=(Kz.out.new HX.out.1).2.1.heap hb;exact cK.aU (HX.out.1.ai HF.out.2.1) D_ rfl
theorem Ff(hv:VW w v x g) (hi:cQ 0 w x u l) (ha:gF l) (hl:l.length<=50000) (k uid fl:Int) (hf:0<=fl/\fl<=255):
 H_ 179 #[Q_ v,.agg #[I_ k,U_ uid,B_ fl]] w fun e w'=>∃(r:cV) (ok:Bool),e=.returned (.tuple #[r.val,R_ ok])/\EvO w.heap.size w' r ok/\∃u' l',VwS True w w' v x u l uid g u' l':=by
 have Kd:=xy l uid;obtain⟨wA,nY⟩:∃wA,wA=(w.alloc (G_ #[I_ k,U_ uid,B_ fl] 232)).alloc (G_ #[I_ 0,U_ 0,E_,I_ 0,E_,I_ 0,B_ 0,U_ 0,U_ 0,Z_] 53):=⟨_,rfl⟩;have n0:ae w wA:=nY▸((ae.refl w).alloc _).alloc _;have e0:=nY▸(af.new _ _ _).alloc _;have r0:=nY▸af.cD _ _ _ _;have BV:=n0.ai hv;have Rt:=hi.new n0;have a0:=BV.k0;have a1:=e0.k1;have HI:=ac5 hi;have HA:=ac5 Rt;clear hi Rt
 go_enter func179,ntmps179
 go_wp2_with fail
 rw [<-nY];clear nY
 go_region_held3 (fun W=>L_ W v 0 (Q_ x)/\L_ W w 1 (U_ uid)) (first|go_keep|(refine⟨?_,?_⟩<;>assumption)) ((first
  |(go_at_call 226
    refine(akg (HA.out.new A_) ha O_ uid).mono ?_;rintro e w2 ⟨rfl,f2⟩;have F2:ae wA w2:=Fr.trans A_ f2;have dR:=F2.ai BV;have r2:=F2.ai r0;have e2:=F2.ai e0;have p2:=e2.k1;have p3:=e2.k2;have p0:=dR.k0;have iw:=ac5 (n0.trans F2);clear F2)
  |fail))
 obtain⟨q,hq⟩:∃q:Nat,placeOf l uid=q:=⟨(placeOf l uid).toNat,O_⟩;rw [hq]at Kd⊢;clear hq;have HF:=ac5 (And.intro dR (And.intro r2 (HI.out.new iw.out)));have hq4:(q:Int)<=50000:=O_
 clear dR r2 e2 p2 p0 BV r0 e0 a0 a1 n0 Kd;go_wp2_with fail
 refine(iq q O_ O_ 1 0 fl ⟨O_,O_⟩ hf none 0 0 [] _ (Rd.nil _ _) S_).mono ?_;rintro e w3 ⟨⟨rk,rn,rt,de,rx,cT,cw,aY,cW,rA,dh,cY⟩,rfl,ra,pR,yr,lC,n3⟩;dsimp only at pR yr lC;dsimp only [cV.val];have r3:=n3.ai HF.out.2.1;obtain⟨⟨x0,y0⟩,⟨x1,y1⟩,⟨x2,y2⟩,⟨x3,y3⟩,⟨x4,y4⟩,⟨x5,y5⟩,⟨x6,y6⟩,⟨x7,y7⟩,⟨x8,y8⟩,⟨x9,y9⟩⟩:=fH r3;have HX:=ac5 (And.intro n3 (And.intro r3 lC));have PW:=ac5 ra;clear n3 r3 pR yr lC p3 ra;go_wp2_with fail
 have hR:=kn HX.out.2.1 (I_ rk) (U_ rn) (T_ rt) (I_ de) (T_ rx) (I_ cT) (B_ cw) (U_ aY) (U_ cW) (X_ rA dh cY);have hO:=lJ (w:=w3) (g:=w.heap.size+1) (I_ rk) (U_ rn) (T_ rt) (I_ de) (T_ rx) (I_ cT) (B_ cw) (U_ aY) (U_ cW) (X_ rA dh cY);have xW:=hv.lt;have hsx:=HI.out.1.lt;have hit:=PE fun h=>absurd (by decide:bits .and .i64 1 2=0) ((HX.out.2.2 h).2 D_);refine r_ (aC rfl _ _ rfl rfl (fS hR)) rfl ?_;refine⟨⟨rk,rn,rt,de,rx,cT,cw,aY,cW,rA,dh,cY⟩,_,rfl,⟨hit,fun _=>(PW.out.mono iw.out.size).one hO HX.out.2.1 D_⟩,u,l,{vw:=hO.ai (HX.out.1.ai HF.out.1) O_,ix:=(HF.out.2.2.new HX.out.1).fr hO O_ (fun b hb e=>?_),kJ:=ha,len:=Nat.le_succ _,mem:=fun y hy=>.inl hy,fr:=Fr.trans' (ae.to (iw.out.trans HX.out.1)) hO (fun i hi e=>by have e:=e;omega),st:=.inl rfl,pre:=fun _=>gW}⟩;have e:=e;subst e;obtain⟨cs,cK⟩:=(HF.out.2.2.new HX.out.1).2.1.heap hb;exact cK.aU (HX.out.1.ai HF.out.2.1) D_ rfl
theorem BW(hv:VW w v x g) (hi:cQ 0 w x u l) (ha:gF l) (hl:l.length<=50000) (k uid fl:Int) (hb:(ja l uid).2=true):
 H_ 177 #[Q_ v,.agg #[I_ k,U_ uid,B_ fl]] w fun e w'=>∃(r:cV) (ok:Bool),e=.returned (.tuple #[r.val,R_ ok])/\EvO w.heap.size w' r ok/\∃u' l',VwS True w w' v x u l uid true u' l':=by
 obtain⟨wA,nY⟩:∃wA,wA=(w.alloc (G_ #[I_ k,U_ uid,B_ fl] 232)).alloc (G_ #[I_ 0,U_ 0,E_,I_ 0,E_,I_ 0,B_ 0,U_ 0,U_ 0,Z_] 53):=⟨_,rfl⟩;have n0:ae w wA:=nY▸((ae.refl w).alloc _).alloc _;have e0:=nY▸(af.new _ _ _).alloc _;have r0:=nY▸af.cD _ _ _ _;have BV:=n0.ai hv;have Rt:=hi.new n0;have a0:=BV.k0;have a1:=e0.k1;have HI:=ac5 hi;have HA:=ac5 Rt;clear hi Rt
 have HQ:Hid (∀W,cQ 0 W x u l->H_ 189 #[Q_ x,U_ uid] W fun e w'=>∃u',e=.returned (R_ true)/\cQ 0 w' x u' (ja l uid).1/\QZ x u W w'/\cM W u u'):=ac5 fun W hW=>by
  have:=aeE hW ha (Gv _) O_ uid
  rwa [hb]at this
 have T3:=ha.app uid;have uL:=tP l uid
 have uH:∀y∈(ja l uid).1,y∈l\/y=uid:=by
  intro y hy;unfold ja at hy
  split at hy
  ·exact .inl hy
  ·exact(List.mem_append.1 hy).imp id List.mem_singleton.1
 have hpp:l <+:(ja l uid).1:=by
  unfold ja
  split
  ·exact gW
  ·exact IU _ _
 generalize(ja l uid).1=la at*;have HM:=ac5 (And.intro T3 (And.intro uL (And.intro uH hpp)));clear T3 uL uH hb hpp
 go_enter func177,ntmps177
 go_wp2_with fail
 rw [<-nY];clear nY
 go_region_held3 (fun W=>L_ W v 0 (Q_ x)/\L_ W w 1 (U_ uid)) (first|go_keep|(refine⟨?_,?_⟩<;>assumption)) ((first
  |(go_at_call 189
    refine(HQ.out _ (HA.out.new A_)).mono ?_;rintro e w2 ⟨u',rfl,yk,f2,st2⟩;have F2:QZ x u wA w2:=Fr.trans (ae.to A_) f2
    have dR:=F2.ai BV (by
     rintro(e|e)
     ·exact BV.aU HA.out.1 D_ e
     ·obtain⟨cs,cK⟩:=HA.out.2.1.heap e;exact BV.aU cK D_ rfl)
    have r2:=F2.ai r0 (by
     rintro(e|e)
     ·exact r0.aU HA.out.1 D_ e
     ·obtain⟨cs,cK⟩:=HA.out.2.1.heap e;exact r0.aU cK D_ rfl)
    have e2:=F2.ai e0 (by
     rintro(e|e)
     ·exact e0.aU HA.out.1 D_ e
     ·obtain⟨cs,cK⟩:=HA.out.2.1.heap e;exact e0.aU cK D_ rfl)
    have p2:=e2.k1;have p3:=e2.k2;have p0:=dR.k0;have p1:=dR.k1;have f1:=dR.frozen 1;have Kz:=ac5 yk;have iw:=ac5 F2;have jO:=ac5 st2;clear yk f2 F2 st2)
  |fail))
 have hvs:VW (w2.setCell (C_ v 1) (R_ true)) v x true:=dR.al 1 _;have rs:=r2.bL (p:=⟨v,1,none⟩) (by show w.heap.size+1≠v;have:=hv.lt;omega) (R_ true);have xW:=hv.lt;have hsx:=HI.out.1.lt;have ZZ:One v w2 (w2.setCell (C_ v 1) (R_ true)):=(One.refl v w2).set 1 _
 have his:=Kz.out.fr ZZ (HI.out.1.aU hv D_) (fun b hb e=>by
  subst e;rcases jO.out with e1|⟨b',e1,e2⟩
  ·rw [e1]at hb;obtain⟨cs,cK⟩:=HI.out.2.1.heap hb;exact cK.aU hv D_ rfl
  ·rw [e1]at hb;injection hb with hb;have:=n0.size;have e3:wA.drew.heap.size=wA.heap.size:=rfl;omega)
 have bT:cM w u u':=by
  rcases jO.out with e1|⟨b',e1,e2⟩
  ·exact .inl e1
  ·exact .inr ⟨b',e1,by have:=n0.size;have e3:wA.drew.heap.size=wA.heap.size:=rfl;omega⟩
 have ML:Fr (fun k=>k=v\/k=x\/u.ownBlock=some k) w (w2.setCell (C_ v 1) (R_ true)):=Fr.trans (Fr.trans (ae.to n0) (iw.out.mono fun k _ h=>.inr h)) (ZZ.mono fun k _ h=>.inl h);have Un:=rs.lt;have HIS:=ac5 his;have iI:=ac5 bT;have Z2:=ac5 ML;clear dR r2 p2 p3 e2 jO iw Kz his bT ML ZZ;obtain⟨q0,q1,q2,q3,q4,q5,q6,q7,q8,q9⟩:=rs.d_;have ff:=rs.dq;go_wp2;clear q0 q1 q2 q3 q4 q5 q6 q7 q8 q9 ff p0 p1 f1;generalize(w2.setCell (C_ v 1) (R_ true))=w3 at*;have hR:=rs.oP (I_ 0) (U_ 0) E_ (I_ 0) E_ (I_ 0) (B_ 0) (U_ 0) (U_ 0) Z_;have hO:=One.oP w3 (w.heap.size+1) (I_ 0) (U_ 0) E_ (I_ 0) E_ (I_ 0) (B_ 0) (U_ 0) (U_ 0) Z_;refine r_ (aC rfl _ _ rfl rfl (fS hR)) rfl ?_;refine⟨⟨0,0,⟨#[]⟩,0,⟨#[]⟩,0,0,0,0,none,0,0⟩,false,rfl,⟨(show bits .and .i64 0 2=0 by decide),fun h=>by cases h⟩,u',la,{vw:=hO.ai hvs O_,ix:=HIS.out.fr hO O_ (fun b hb e=>?_),kJ:=HM.out.1,len:=HM.out.2.1,mem:=HM.out.2.2.1,fr:=Fr.trans' Z2.out hO (fun i hi e=>by have e:=e;omega),st:=iI.out,pre:=fun _=>HM.out.2.2.2}⟩;have e:=e;subst e;obtain⟨cs,cK⟩:=HIS.out.2.1.heap hb;exact cK.aU rs D_ rfl
theorem yM(hv:VW w v x g) (hi:cQ 0 w x u l) (ha:gF l) (hl:l.length<=50000) (k uid fl:Int) (hb:(ja l uid).2=false):
 H_ 177 #[Q_ v,.agg #[I_ k,U_ uid,B_ fl]] w fun e w'=>∃(r:cV) (ok:Bool),e=.returned (.tuple #[r.val,R_ ok])/\EvO w.heap.size w' r ok/\∃u' l',VwS True w w' v x u l uid g u' l':=by
 obtain⟨wA,nY⟩:∃wA,wA=(w.alloc (G_ #[I_ k,U_ uid,B_ fl] 232)).alloc (G_ #[I_ 0,U_ 0,E_,I_ 0,E_,I_ 0,B_ 0,U_ 0,U_ 0,Z_] 53):=⟨_,rfl⟩;have n0:ae w wA:=nY▸((ae.refl w).alloc _).alloc _;have e0:=nY▸(af.new _ _ _).alloc _;have r0:=nY▸af.cD _ _ _ _;have BV:=n0.ai hv;have Rt:=hi.new n0;have a0:=BV.k0;have a1:=e0.k1;have HI:=ac5 hi;have HA:=ac5 Rt;clear hi Rt
 have HQ:Hid (∀W,cQ 0 W x u l->H_ 189 #[Q_ x,U_ uid] W fun e w'=>∃u',e=.returned (R_ false)/\cQ 0 w' x u' (ja l uid).1/\QZ x u W w'/\cM W u u'):=ac5 fun W hW=>by
  have:=aeE hW ha (Gv _) O_ uid
  rwa [hb]at this
 have T3:=ha.app uid;have uL:=tP l uid
 have uH:∀y∈(ja l uid).1,y∈l\/y=uid:=by
  intro y hy;unfold ja at hy
  split at hy
  ·exact .inl hy
  ·exact(List.mem_append.1 hy).imp id List.mem_singleton.1
 have hpp:l <+:(ja l uid).1:=by
  unfold ja
  split
  ·exact gW
  ·exact IU _ _
 generalize(ja l uid).1=la at*;have HM:=ac5 (And.intro T3 (And.intro uL (And.intro uH hpp)));clear T3 uL uH hb hpp
 go_enter func177,ntmps177
 go_wp2_with fail
 rw [<-nY];clear nY
 go_region_held3 (fun W=>L_ W v 0 (Q_ x)/\L_ W w 1 (U_ uid)) (first|go_keep|(refine⟨?_,?_⟩<;>assumption)) ((first
  |(go_at_call 189
    refine(HQ.out _ (HA.out.new A_)).mono ?_;rintro e w2 ⟨u',rfl,yk,f2,st2⟩;have F2:QZ x u wA w2:=Fr.trans (ae.to A_) f2
    have dR:=F2.ai BV (by
     rintro(e|e)
     ·exact BV.aU HA.out.1 D_ e
     ·obtain⟨cs,cK⟩:=HA.out.2.1.heap e;exact BV.aU cK D_ rfl)
    have r2:=F2.ai r0 (by
     rintro(e|e)
     ·exact r0.aU HA.out.1 D_ e
     ·obtain⟨cs,cK⟩:=HA.out.2.1.heap e;exact r0.aU cK D_ rfl)
    have e2:=F2.ai e0 (by
     rintro(e|e)
     ·exact e0.aU HA.out.1 D_ e
     ·obtain⟨cs,cK⟩:=HA.out.2.1.heap e;exact e0.aU cK D_ rfl)
    have p2:=e2.k1;have p3:=e2.k2;have p0:=dR.k0;have p1:=dR.k1;have f1:=dR.frozen 1;have Kz:=ac5 yk;have iw:=ac5 F2;have jO:=ac5 st2;clear yk f2 F2 st2)
  |fail))
 have hvs:VW w2 v x g:=dR;have rs:=r2;have xW:=hv.lt;have hsx:=HI.out.1.lt
 have bT:cM w u u':=by
  rcases jO.out with e1|⟨b',e1,e2⟩
  ·exact .inl e1
  ·exact .inr ⟨b',e1,by have:=n0.size;have e3:wA.drew.heap.size=wA.heap.size:=rfl;omega⟩
 have ML:Fr (fun k=>k=v\/k=x\/u.ownBlock=some k) w w2:=Fr.trans (ae.to n0) (iw.out.mono fun k _ h=>.inr h);have Un:=rs.lt;have HIS:=Kz;have iI:=ac5 bT;have Z2:=ac5 ML;clear dR r2 p2 p3 e2 jO iw Kz bT ML;obtain⟨q0,q1,q2,q3,q4,q5,q6,q7,q8,q9⟩:=rs.d_;have ff:=rs.dq;go_wp2;clear q0 q1 q2 q3 q4 q5 q6 q7 q8 q9 ff p0 p1 f1;generalize w2=w3 at*;have hR:=rs.oP (I_ 0) (U_ 0) E_ (I_ 0) E_ (I_ 0) (B_ 0) (U_ 0) (U_ 0) Z_;have hO:=One.oP w3 (w.heap.size+1) (I_ 0) (U_ 0) E_ (I_ 0) E_ (I_ 0) (B_ 0) (U_ 0) (U_ 0) Z_;refine r_ (aC rfl _ _ rfl rfl (fS hR)) rfl ?_;refine⟨⟨0,0,⟨#[]⟩,0,⟨#[]⟩,0,0,0,0,none,0,0⟩,false,rfl,⟨(show bits .and .i64 0 2=0 by decide),fun h=>by cases h⟩,u',la,{vw:=hO.ai hvs O_,ix:=HIS.out.fr hO O_ (fun b hb e=>?_),kJ:=HM.out.1,len:=HM.out.2.1,mem:=HM.out.2.2.1,fr:=Fr.trans' Z2.out hO (fun i hi e=>by have e:=e;omega),st:=iI.out,pre:=fun _=>HM.out.2.2.2}⟩;have e:=e;subst e;obtain⟨cs,cK⟩:=HIS.out.2.1.heap hb;exact cK.aU rs D_ rfl
end
structure CJ(T:Prop) (tp:Int) (w W:World) (v x:Nat) (u0:Value) (l0:List Int) (g:Bool) (u:Value) (l:List Int) (vo:Value) (lo:List cV) (q:Nat):Prop where
 b:af W w 55 #[Q_ v]
 o:af W (w.heap.size+1) 50 #[vo]
 a:af W (w.heap.size+1+1) 275 #[sS (w.heap.size+1)]
 h:af W (w.heap.size+1+1+1) 278 #[.func (.func 176) #[Q_ v] #[],.func (.func 177) #[Q_ v] #[],.func (.func 178) #[Q_ v] #[],.func (.func 179) #[Q_ v] #[]]
 vw:VW W v x g
 ix:cQ 0 W x u l
 kJ:gF l
 bd:∀y∈l,0<=y/\y<tp
 r:Own cG 53 w.heap.size W vo lo
 p:∀r∈lo,Tq r/\bF w.heap.size W r
 ll:lo.length<=q
 fr:Fr (fun k=>k=v\/k=x\/u0.ownBlock=some k) w W
 st:cM w u0 u
 pre:T->l0 <+:l
theorem hZ{tp:Int}{l:List Int}(ha:gF l) (hb:∀y∈l,0<=y/\y<tp):l.length<=tp.toNat:=by
 cases l with
 |nil=>exact Gv _
 |cons y t=>
  have h0:=hb y (vB ..);have:=uS (lo:=0) (hi:=tp-1) ha (fun z hz=>by have:=hb z hz;omega) O_;omega
section
variable{T:Prop}{w W W':World}{v x:Nat}{u0:Value}{l0:List Int}{g:Bool}{u:Value}{l:List Int}{vo:Value}{lo:List cV}{q:Nat}{tp:Int}
theorem CJ.du (h:CJ T tp w W v x u0 l0 g u l vo lo q) {R:Nat->Prop}(hf:Fr R W W') (hR:∀k,R k->k=v\/k=x\/u.ownBlock=some k\/k=w.heap.size+1\/vo.ownBlock=some k):
 (∀k t cs,af W k t cs->t≠111->t≠163->t≠28->t≠50->t≠53->af W' k t cs)/\Fr (fun k=>k=v\/k=x\/u0.ownBlock=some k) w W':=by
 refine⟨fun k t cs hb n1 n2 n3 n4 n5=>hf.ai hb fun hk=>?_,Fr.trans' h.fr hf fun i hi hk=>?_⟩
 ·rcases hR k hk with e|e|e|e|e
  ·exact hb.aU h.vw n1 e
  ·exact hb.aU h.ix.1 n2 e
  ·obtain⟨kL,hc⟩:=h.ix.2.1.heap e;exact hb.aU hc n3 rfl
  ·exact hb.aU h.o n4 e
  ·obtain⟨kL,hc⟩:=h.r.heap e;exact hb.aU hc n5 rfl
 ·rcases hR i hk with e|e|e|e|e
  ·exact .inl e
  ·exact .inr (.inl e)
  ·rcases h.st with e1|⟨b',e1,e2⟩
   ·rw [e1]at e;exact .inr (.inr e)
   ·rw [e1]at e;injection e with e;omega
  ·omega
  ·have:=(h.r.block e).1;omega
theorem pH(h:CJ T tp w W v x u0 l0 g u l vo lo q) (Re:tp<=50000) (hq:q<=900000000):
 H_ 175 #[Q_ (w.heap.size+1+1),Q_ w] W fun e W'=>e=.returned (.tuple #[])/\(∃i_ iR,CJ T tp w W' v x u0 l0 false u l i_ iR (q+1))/\∀k t cs,af W k t cs->t≠111->t≠163->t≠28->t≠50->t≠53->af W' k t cs:=by
 have hlen:=hZ h.kJ h.bd;have gK:=h.ll
 cases g
 ·refine(MN (h.a.cell 0) (h.b.cell 0) h.vw h.ix O_).mono ?_;rintro e W' ⟨rfl,xR,hf⟩;obtain⟨hk,jx⟩:=h.du hf fun k hk=>.inl hk
  exact⟨rfl,⟨vo,lo,{b:=hk _ _ _ h.b D_ D_ D_ D_ D_,o:=hf.ai h.o (fun e=>h.o.aU h.vw D_ e),a:=hk _ _ _ h.a D_ D_ D_ D_ D_,h:=hk _ _ _ h.h D_ D_ D_ D_ D_,vw:=xR,ix:=h.ix.fr hf (fun e=>h.ix.1.aU h.vw D_ e) (fun b hb e=>by
   obtain⟨cs,hc⟩:=h.ix.2.1.heap hb;exact hc.aU h.vw D_ e),kJ:=h.kJ,bd:=h.bd,r:=h.r.fr hf (fun b hb e=>h.r.aD h.vw D_ (by rw [hb,e])),p:=fun r hr=>⟨(h.p r hr).1,(h.p r hr).2.one hf h.vw D_⟩,ll:=O_,fr:=jx,st:=h.st,pre:=h.pre}⟩,hk⟩
 ·refine(IJ (h.a.cell 0) (h.b.cell 0) h.vw h.ix O_ h.o h.r O_ (by have:=h.o.lt;omega) O_ O_ (h.r.aD h.a D_) (h.r.aD h.b D_)).mono ?_;rintro e W' ⟨rfl,xR,i_,Ea,hr',hf,_⟩;obtain⟨hk,jx⟩:=h.du hf fun k hk=>by rcases hk with e|e|e;exact .inl e;exact dS (.inl e);exact iO e
  have hx:∀k t cs,af W k t cs->t≠111->t≠50->t≠53->¬(k=v\/k=w.heap.size+1\/vo.ownBlock=some k):=by
   rintro k t cs hb n1 n2 n3 (e|e|e)
   ·exact hb.aU h.vw n1 e
   ·exact hb.aU h.o n2 e
   ·exact h.r.aD hb (iX n3) e
  exact⟨rfl,⟨i_,lo++[uU l.length],{b:=hk _ _ _ h.b D_ D_ D_ D_ D_,o:=Ea,a:=hk _ _ _ h.a D_ D_ D_ D_ D_,h:=hk _ _ _ h.h D_ D_ D_ D_ D_,vw:=xR,ix:=h.ix.fr hf (hx _ _ _ h.ix.1 D_ D_ D_) (fun b hb=>by
   obtain⟨cs,hc⟩:=h.ix.2.1.heap hb;exact hx _ _ _ hc D_ D_ D_),kJ:=h.kJ,bd:=h.bd,r:=hr',p:=fun r hr=>(List.mem_append.1 hr).elim (fun hr=>⟨(h.p r hr).1,(h.p r hr).2.fr hf fun k cs _ hc=>hx _ _ _ hc D_ D_ D_⟩) fun hr=>by rw [List.mem_singleton.1 hr];exact⟨(show bits .and .i64 0 2=0 by decide),bF.bare _ _ 1 l.length D_ ⟨O_,O_⟩⟩,ll:=by rw [dr,dK];omega,fr:=jx,st:=h.st,pre:=h.pre}⟩,hk⟩
end
section
variable{T:Prop}{w W W':World}{v x:Nat}{u0:Value}{l0:List Int}{g:Bool}{u:Value}{l:List Int}{vo:Value}{lo:List cV}{q:Nat}{tp:Int}
theorem CJ.new (h:CJ T tp w W v x u0 l0 g u l vo lo q) (hn:ae W W'):CJ T tp w W' v x u0 l0 g u l vo lo q:=
 {h with b:=hn.ai h.b,o:=hn.ai h.o,a:=hn.ai h.a,h:=hn.ai h.h,vw:=hn.ai h.vw,ix:=h.ix.new hn,r:=h.r.new hn,p:=fun r hr=>⟨(h.p r hr).1,(h.p r hr).2.new hn⟩,fr:=Fr.trans' h.fr hn fun _ _ e=>e.elim}
theorem CJ.hand (h:CJ T tp w W v x u0 l0 g u l vo lo q) {uid:Int}(hu:0<=uid/\uid<tp) {g':Bool}{u':Value}{l':List Int}{P2:Prop}(hP:T->P2) (s:VwS P2 W W' v x u l uid g' u' l'):CJ T tp w W' v x u0 l0 g' u' l' vo lo q:=by
 have hR:∀k,(k=v\/k=x\/u.ownBlock=some k)->k=v\/k=x\/u.ownBlock=some k\/k=w.heap.size+1\/vo.ownBlock=some k:=fun k hk=>by
  rcases hk with e|e|e
  ·exact .inl e
  ·exact .inr (.inl e)
  ·exact cu (.inl e)
 obtain⟨hk,jx⟩:=h.du s.fr hR
 have hx:∀k t cs,af W k t cs->t≠111->t≠163->t≠28->¬(k=v\/k=x\/u.ownBlock=some k):=by
  rintro k t cs hb n1 n2 n3 (e|e|e)
  ·exact hb.aU h.vw n1 e
  ·exact hb.aU h.ix.1 n2 e
  ·obtain⟨kL,hc⟩:=h.ix.2.1.heap e;exact hb.aU hc n3 rfl
 exact{b:=hk _ _ _ h.b D_ D_ D_ D_ D_,o:=s.fr.ai h.o (hx _ _ _ h.o D_ D_ D_),a:=hk _ _ _ h.a D_ D_ D_ D_ D_,h:=hk _ _ _ h.h D_ D_ D_ D_ D_,
       vw:=s.vw,ix:=s.ix,kJ:=s.kJ,bd:=fun y hy=>(s.mem y hy).elim (h.bd y) fun e=>by rw [e];exact hu,
       r:=h.r.fr s.fr (fun b hb e=>by
        obtain⟨cs,hc⟩:=h.r.heap hb;exact hx _ _ _ hc D_ D_ D_ e),p:=fun r hr=>⟨(h.p r hr).1,(h.p r hr).2.fr s.fr fun k cs _ hc=>hx _ _ _ hc D_ D_ D_⟩,ll:=h.ll,fr:=jx,
       st:=by
        rcases s.st with e1|⟨b',e1,e2⟩
        ·rcases h.st with e3|⟨b'',e3,e4⟩
         ·exact .inl (e1.trans e3)
         ·exact .inr ⟨b'',e1.trans e3,e4⟩
        ·exact .inr ⟨b',e1,by have:=h.fr.size;omega⟩
       pre:=fun ht=>(h.pre ht).trans (s.pre (hP ht))}
theorem CJ.said (h:CJ T tp w W v x u0 l0 g u l vo lo q) (hq:q<=900000000) (r:cV) (ok:Bool) {B:Nat}(hB:w.heap.size<=B) (hr:EvO B W r ok):
 H_ 174 #[r.val,R_ ok,Q_ (w.heap.size+1)] W fun e W'=>e=.returned (.tuple #[])/\(∃i_ iR,CJ T tp w W' v x u0 l0 g u l i_ iR (q+1))/\∀k t cs,af W k t cs->t≠111->t≠163->t≠28->t≠50->t≠53->af W' k t cs:=by
 have gK:=h.ll
 cases ok
 ·refine(Rj r W).mono ?_;rintro e W' ⟨rfl,hn⟩;have h':=h.new hn;exact⟨rfl,⟨vo,lo,{h' with ll:=by have:=h'.ll;omega}⟩,fun _ _ _ hb _ _ _ _ _=>hn.ai hb⟩
 ·refine(KA r h.o h.r O_ (by have:=h.o.lt;omega)).mono ?_;rintro e W' ⟨rfl,i_,Ea,hr',hf,_⟩;obtain⟨hk,jx⟩:=h.du hf fun k hk=>by rcases hk with e|e;exact dS (.inl e);exact iO e
  have hx:∀k t cs,af W k t cs->t≠50->t≠53->¬(k=w.heap.size+1\/vo.ownBlock=some k):=by
   rintro k t cs hb n2 n3 (e|e)
   ·exact hb.aU h.o n2 e
   ·exact h.r.aD hb (iX n3) e
  exact⟨rfl,⟨i_,lo++[r],{b:=hk _ _ _ h.b D_ D_ D_ D_ D_,o:=Ea,a:=hk _ _ _ h.a D_ D_ D_ D_ D_,h:=hk _ _ _ h.h D_ D_ D_ D_ D_,vw:=hf.ai h.vw (hx _ _ _ h.vw D_ D_),ix:=h.ix.fr hf (hx _ _ _ h.ix.1 D_ D_) (fun b hb=>by
   obtain⟨cs,hc⟩:=h.ix.2.1.heap hb;exact hx _ _ _ hc D_ D_),kJ:=h.kJ,bd:=h.bd,r:=hr',p:=fun r' ic=>(List.mem_append.1 ic).elim (fun h'=>⟨(h.p r' h').1,(h.p r' h').2.fr hf fun k cs _ hc=>hx _ _ _ hc D_ D_⟩) fun h'=>by rw [List.mem_singleton.1 h'];exact⟨hr.1,((hr.2 rfl).mono hB).fr hf fun k cs _ hc=>hx _ _ _ hc D_ D_⟩,ll:=by rw [dr,dK];omega,fr:=jx,st:=h.st,pre:=h.pre}⟩,hk⟩
end
theorem BX{w:World}{v x:Nat}{g:Bool}{u:Value}{l:List Int}(hv:VW w v x g) (hi:cQ 0 w x u l) (ha:gF l) (hl:l.length<=50000) (k uid fl:Int):
 H_ 177 #[Q_ v,.agg #[I_ k,U_ uid,B_ fl]] w fun e w'=>∃(r:cV) (ok:Bool),e=.returned (.tuple #[r.val,R_ ok])/\EvO w.heap.size w' r ok/\∃g' u' l',VwS True w w' v x u l uid g' u' l':=by
 cases hb:(ja l uid).2
 ·exact(yM hv hi ha hl k uid fl hb).mono fun e w' ⟨r,ok,h1,h2,u',l',h3⟩=>⟨r,ok,h1,h2,_,u',l',h3⟩
 ·exact(BW hv hi ha hl k uid fl hb).mono fun e w' ⟨r,ok,h1,h2,u',l',h3⟩=>⟨r,ok,h1,h2,_,u',l',h3⟩
theorem MX{tp:Int}(Re:tp<=50000) {w:World}{v x bs:Nat}{u0:Value}{l0:List Int}(hv:VW w v x false) (hi:cQ 0 w x u0 l0) (ha:gF l0) (Ke:∀y∈l0,0<=y/\y<tp) (A:Option Addr) (c:Nat) (L:List Ev) (he:Own yx 232 bs w (X_ A L.length c) L)
 (hL:∀e∈L,(1<=e.k/\e.k<=3)/\(0<=e.u/\e.u<tp)/\(0<=e.f/\e.f<=255)) (hl:L.length<=200000000):
 H_ 123 #[Q_ v,X_ A L.length c] w fun e w'=>∃o lo,e=.returned o/\Own cG 53 w.heap.size w' o lo/\(∀r∈lo,Tq r/\bF w.heap.size w' r)/\lo.length<=2*L.length+1/\
  ∃u' l',VW w' v x false/\cQ 0 w' x u' l'/\gF l'/\(∀y∈l',0<=y/\y<tp)/\Fr (fun k=>k=v\/k=x\/u0.ownBlock=some k) w w'/\cM w u0 u'/\((∀e∈L,e.k≠2)->l0 <+:l'):=by
 have hmf:=atQ;have pU:=Z3 w v;have H:=ac5 (And.intro hv (And.intro hi (And.intro ha (And.intro Ke (And.intro he hL)))));clear hi ha Ke he hL
 go_enter func123,ntmps123
 go_wp2_with fail
 generalize hwH:((((w.alloc (G_ #[Q_ v] 55)).alloc (G_ #[Z_] 50)).alloc (G_ #[.func (.func 174) #[] #[Q_ (w.heap.size+1)]] 275)).alloc (G_ #[.func (.func 176) #[Q_ v] #[],.func (.func 177) #[Q_ v] #[],.func (.func 178) #[Q_ v] #[],.func (.func 179) #[Q_ v] #[]] 278))=wH at pU⊢;clear hwH
 have H0:Hid (CJ (∀e∈L,e.k≠2) tp w wH v x u0 l0 false u0 l0 Z_ [] 0):=ac5
  {b:=pU.b,o:=pU.o,a:=pU.a,h:=pU.h,vw:=pU.n.ai H.out.1,ix:=H.out.2.1.new pU.n,kJ:=H.out.2.2.1,bd:=H.out.2.2.2.1,r:=Own.nil _ _ _ _,p:=S_,ll:=S_,fr:=ae.to pU.n,st:=.inl rfl,pre:=fun _=>gW}
 clear pU
 go_loopw [26] (fun iv wr=>∃(i:Nat) (g:Bool) (u:Value) (l:List Int) (vo:Value) (lo:List cV),iv=I_ i/\i<=L.length/\Hid (CJ (∀e∈L,e.k≠2) tp w wr v x u0 l0 g u l vo lo (2*i))) (fun iv _=>L.length-(intOf iv).toNat)
 case atStart=>exact⟨0,_,_,_,_,_,rfl,Gv _,H0⟩
 case round=>
  obtain⟨i,g,u,l,vo,lo,rfl,hiL,HR⟩:=hrel;by_cases dL:i<L.length
  ·obtain⟨ev,hx⟩:∃ev,L[i]? =some ev:=⟨_,DW dL⟩;obtain⟨hk,Z4,qD⟩:=H.out.2.2.2.2.2 ev (YX hx)
   have her:=H.out.2.2.2.2.1.fr HR.out.fr (fun b hb e=>by
    rcases e with e|e|e
    ·exact H.out.2.2.2.2.1.aD H.out.1 D_ (by rw [hb,e])
    ·exact H.out.2.2.2.2.1.aD H.out.2.1.1 D_ (by rw [hb,e])
    ·obtain⟨cs,hc⟩:=H.out.2.1.2.1.heap e;exact H.out.2.2.2.2.1.aD hc D_ hb)
   obtain⟨_,_,hq,_,az⟩:=her.rd
   cases hq
   obtain⟨b,off,rfl,aF⟩:=az (by rintro rfl;simp at dL);obtain⟨ek,eu,ef⟩:=ev;dsimp only at hk Z4 qD;have c0:L_ wr b (off+i*3) (I_ ek):=aF i _ hx 0 _ rfl;have c1:L_ wr b (off+i*3+1) (U_ eu):=aF i _ hx 1 _ rfl;have c2:L_ wr b (off+i*3+2) (B_ ef):=aF i _ hx 2 _ rfl;have HKM:Hid ((∀e∈L,e.k≠2)->ek≠2):=ac5 fun hh=>hh _ (YX hx);have HE:=ac5 (And.intro Z4 qD);clear aF az hx her Z4 qD H0;have nE:ae wr (wr.alloc (G_ #[I_ ek,U_ eu,B_ ef] 232)):=(ae.refl wr).alloc _;have bE:af (wr.alloc (G_ #[I_ ek,U_ eu,B_ ef] 232)) wr 232 #[I_ ek,U_ eu,B_ ef]:=af.new _ _ _;have HA:=ac5 (And.intro (HR.out.new nE) bE);clear nE bE;obtain rfl|rfl|rfl:ek=1\/ek=2\/ek=3:=O_
   ·go_upto_region 13 with fail
    generalize(wr.alloc (G_ #[I_ 1,U_ eu,B_ ef] 232))=wE at HA⊢;generalize wr.heap.size=EB at HA⊢;have k0:L_ wE (w.heap.size+1+1) 0 (sS (w.heap.size+1)):=HA.out.1.a.cell 0;have k1:L_ wE (w.heap.size+1+1+1) 1 (.func (.func 177) #[Q_ v] #[]):=HA.out.1.h.cell 1;have k2:L_ wE EB 0 (I_ 1):=HA.out.2.cell 0;have k3:L_ wE EB 1 (U_ eu):=HA.out.2.cell 1;have k4:L_ wE EB 2 (B_ ef):=HA.out.2.cell 2;have hAl:=hZ HA.out.1.kJ HA.out.1.bd;have HLN:Hid (l.length<=50000):=ac5 O_;clear hAl
    go_region_held3 (fun W=>L_ W (w.heap.size+1+1) 0 (sS (w.heap.size+1))/\L_ W (w.heap.size+1+1+1) 1 (.func (.func 177) #[Q_ v] #[])/\L_ W EB 0 (I_ 1)/\L_ W EB 1 (U_ eu)/\L_ W EB 2 (B_ ef)) (first|go_keep|(refine⟨?_,?_,?_,?_,?_⟩<;>assumption)) ((first
     |(go_at_call 177
       have mK:=HA.out.1.new (W':=wE.drew) ((ae.refl wE).drew);refine(BX mK.vw mK.ix mK.kJ HLN.out 1 eu ef).mono ?_;rintro e w2 ⟨r,ok,rfl,hr,g',u',l',hs⟩;have A2:=mK.hand HE.out.1 (fun _=>trivial) hs
       have Fg:=hs.fr.ai (af.drew HA.out.2) (by
        rintro(e|e|e)
        ·exact HA.out.2.aU HA.out.1.vw D_ e
        ·exact HA.out.2.aU HA.out.1.ix.1 D_ e
        ·obtain⟨cs,hc⟩:=HA.out.1.ix.2.1.heap e;exact HA.out.2.aU hc D_ rfl)
       have p0:=A2.a.k0;have p1:=A2.h.k1;have p2:=Fg.k0;have p3:=Fg.k1;have p4:=Fg.k2;have KO:=ac5 (And.intro A2 (And.intro Fg hr));clear A2 Fg hr hs mK)
     |(go_at_call 174
       refine(CJ.said KO.out.1 O_ r ok (by have:=HA.out.1.fr.size;exact this) KO.out.2.2).mono ?_;rintro e w3 ⟨rfl,⟨vo3,XP,h3⟩,uO⟩;have KP:=uO _ _ _ KO.out.2.1 D_ D_ D_ D_ D_;have q0:=h3.a.k0;have q1:=h3.h.k1;have q2:=KP.k0;have q3:=KP.k1;have q4:=KP.k2;have H3:=ac5 h3;clear h3 KP uO)
     |fail))
    go_wp2;go_roundw
    ·exact⟨i+1,_,_,_,vo3,XP,rfl,O_,ac5 {H3.out with ll:=by have:=H3.out.ll;omega}⟩
    ·simp [intOf];omega
   ·have XQ:=pH HA.out.1 Re O_;have Vq:=ac5 XQ;have x0:L_ (wr.alloc (G_ #[I_ 2,U_ eu,B_ ef] 232)) wr 0 (I_ 2):=HA.out.2.cell 0;clear XQ
    go_upto_region 12 with(first
     |(go_at_call 175
       refine Vq.out.mono ?_;rintro e wE ⟨rfl,⟨vo9,lo9,h9⟩,hk9⟩;have b9:=hk9 _ _ _ HA.out.2 D_ D_ D_ D_ D_;have z0:=b9.k0;have HA9:=ac5 (And.intro h9 b9);clear h9 b9 hk9)
     |fail)
    clear Vq HA;have HA:=HA9;clear HA9 x0;generalize wr.heap.size=EB at HA⊢z0
    go_upto_region 13 with fail
    have k0:L_ wE (w.heap.size+1+1) 0 (sS (w.heap.size+1)):=HA.out.1.a.cell 0;have k1:L_ wE (w.heap.size+1+1+1) 2 (.func (.func 178) #[Q_ v] #[]):=HA.out.1.h.cell 2;have k2:L_ wE EB 0 (I_ 2):=HA.out.2.cell 0;have k3:L_ wE EB 1 (U_ eu):=HA.out.2.cell 1;have k4:L_ wE EB 2 (B_ ef):=HA.out.2.cell 2;have hAl:=hZ HA.out.1.kJ HA.out.1.bd;have HLN:Hid (l.length<=50000):=ac5 O_;clear hAl
    go_region_held3 (fun W=>L_ W (w.heap.size+1+1) 0 (sS (w.heap.size+1))/\L_ W (w.heap.size+1+1+1) 2 (.func (.func 178) #[Q_ v] #[])/\L_ W EB 0 (I_ 2)/\L_ W EB 1 (U_ eu)/\L_ W EB 2 (B_ ef)) (first|go_keep|(refine⟨?_,?_,?_,?_,?_⟩<;>assumption)) ((first
     |(go_at_call 178
       have mK:=HA.out.1.new (W':=wE.drew) ((ae.refl wE).drew);refine(Rs mK.vw mK.ix mK.kJ HLN.out 2 eu ef).mono ?_;rintro e w2 ⟨r,ok,rfl,hr,u',l',hs⟩;have A2:=mK.hand HE.out.1 (fun hh=>absurd rfl (HKM.out hh)) hs
       have Fg:=hs.fr.ai (af.drew HA.out.2) (by
        rintro(e|e|e)
        ·exact HA.out.2.aU HA.out.1.vw D_ e
        ·exact HA.out.2.aU HA.out.1.ix.1 D_ e
        ·obtain⟨cs,hc⟩:=HA.out.1.ix.2.1.heap e;exact HA.out.2.aU hc D_ rfl)
       have p0:=A2.a.k0;have p1:=A2.h.k2;have p2:=Fg.k0;have p3:=Fg.k1;have p4:=Fg.k2;have KO:=ac5 (And.intro A2 (And.intro Fg hr));clear A2 Fg hr hs mK)
     |(go_at_call 174
       refine(CJ.said KO.out.1 O_ r ok (by have:=HA.out.1.fr.size;exact this) KO.out.2.2).mono ?_;rintro e w3 ⟨rfl,⟨vo3,XP,h3⟩,uO⟩;have KP:=uO _ _ _ KO.out.2.1 D_ D_ D_ D_ D_;have q0:=h3.a.k0;have q1:=h3.h.k2;have q2:=KP.k0;have q3:=KP.k1;have q4:=KP.k2;have H3:=ac5 h3;clear h3 KP uO)
     |fail))
    go_wp2;go_roundw
    ·exact⟨i+1,_,_,_,vo3,XP,rfl,O_,ac5 {H3.out with ll:=by have:=H3.out.ll;omega}⟩
    ·simp [intOf];omega
   ·have XQ:=pH HA.out.1 Re O_;have Vq:=ac5 XQ;have x0:L_ (wr.alloc (G_ #[I_ 3,U_ eu,B_ ef] 232)) wr 0 (I_ 3):=HA.out.2.cell 0;clear XQ
    go_upto_region 12 with(first
     |(go_at_call 175
       refine Vq.out.mono ?_;rintro e wE ⟨rfl,⟨vo9,lo9,h9⟩,hk9⟩;have b9:=hk9 _ _ _ HA.out.2 D_ D_ D_ D_ D_;have z0:=b9.k0;have HA9:=ac5 (And.intro h9 b9);clear h9 b9 hk9)
     |fail)
    clear Vq HA;have HA:=HA9;clear HA9 x0;generalize wr.heap.size=EB at HA⊢z0
    go_upto_region 13 with fail
    have k0:L_ wE (w.heap.size+1+1) 0 (sS (w.heap.size+1)):=HA.out.1.a.cell 0;have k1:L_ wE (w.heap.size+1+1+1) 3 (.func (.func 179) #[Q_ v] #[]):=HA.out.1.h.cell 3;have k2:L_ wE EB 0 (I_ 3):=HA.out.2.cell 0;have k3:L_ wE EB 1 (U_ eu):=HA.out.2.cell 1;have k4:L_ wE EB 2 (B_ ef):=HA.out.2.cell 2;have hAl:=hZ HA.out.1.kJ HA.out.1.bd;have HLN:Hid (l.length<=50000):=ac5 O_;clear hAl
    go_region_held3 (fun W=>L_ W (w.heap.size+1+1) 0 (sS (w.heap.size+1))/\L_ W (w.heap.size+1+1+1) 3 (.func (.func 179) #[Q_ v] #[])/\L_ W EB 0 (I_ 3)/\L_ W EB 1 (U_ eu)/\L_ W EB 2 (B_ ef)) (first|go_keep|(refine⟨?_,?_,?_,?_,?_⟩<;>assumption)) ((first
     |(go_at_call 179
       have mK:=HA.out.1.new (W':=wE.drew) ((ae.refl wE).drew);refine(Ff mK.vw mK.ix mK.kJ HLN.out 3 eu ef HE.out.2).mono ?_;rintro e w2 ⟨r,ok,rfl,hr,u',l',hs⟩;have A2:=mK.hand HE.out.1 (fun _=>trivial) hs
       have Fg:=hs.fr.ai (af.drew HA.out.2) (by
        rintro(e|e|e)
        ·exact HA.out.2.aU HA.out.1.vw D_ e
        ·exact HA.out.2.aU HA.out.1.ix.1 D_ e
        ·obtain⟨cs,hc⟩:=HA.out.1.ix.2.1.heap e;exact HA.out.2.aU hc D_ rfl)
       have p0:=A2.a.k0;have p1:=A2.h.k3;have p2:=Fg.k0;have p3:=Fg.k1;have p4:=Fg.k2;have KO:=ac5 (And.intro A2 (And.intro Fg hr));clear A2 Fg hr hs mK)
     |(go_at_call 174
       refine(CJ.said KO.out.1 O_ r ok (by have:=HA.out.1.fr.size;exact this) KO.out.2.2).mono ?_;rintro e w3 ⟨rfl,⟨vo3,XP,h3⟩,uO⟩;have KP:=uO _ _ _ KO.out.2.1 D_ D_ D_ D_ D_;have q0:=h3.a.k0;have q1:=h3.h.k3;have q2:=KP.k0;have q3:=KP.k1;have q4:=KP.k2;have H3:=ac5 h3;clear h3 KP uO)
     |fail))
    go_wp2;go_roundw
    ·exact⟨i+1,_,_,_,vo3,XP,rfl,O_,ac5 {H3.out with ll:=by have:=H3.out.ll;omega}⟩
    ·simp [intOf];omega
  ·obtain rfl:i=L.length:=O_
   have XQ:=pH HR.out Re O_;have Vq:=ac5 XQ;clear XQ;go_wp2_with fail
   refine Vq.out.mono ?_;rintro e w4 ⟨rfl,⟨vo4,lo4,h4⟩,_⟩;have r0:=h4.o.k0;have H4:=ac5 h4;clear h4;go_wp2;go_ret;exact⟨vo4,lo4,rfl,H4.out.r,H4.out.p,by have:=H4.out.ll;omega,u,l,H4.out.vw,H4.out.ix,H4.out.kJ,H4.out.bd,H4.out.fr,H4.out.st,H4.out.pre⟩
def pI(n:Int) (e:Ev):Prop:=(1<=e.k/\e.k<=3)/\(0<=e.u/\e.u<n)/\(0<=e.f/\e.f<=255)
theorem pI.up {n n':Int}{e:Ev}(h:pI n e) (hn:n<=n'):pI n' e:=⟨h.1,⟨h.2.1.1,by have:=h.2.1.2;omega⟩,h.2.2⟩
theorem lD{e:Ev}:∀{l:List Ev},e∈squeeze l->e∈l
 |[],h=>h
 |x::l,h=>by
  unfold squeeze at h
  split at h
  ·exact su _ (lD h)
  ·rcases List.mem_cons.1 h with rfl|h
   ·exact vB ..
   ·exact su _ (lD h)
structure SV(w0:World) (base:Nat) (w:World) (S:Sx) (Q:Qs) (M:List bU) (n t f:Int) (i:Int) (xs v x:Nat) (u:Value) (l:List Int):Prop where
 st:cn w0 base w S Q M n t f
 dF:mV w xs (Q_ S.s) i (M_ v) false
 vw:VW w v x false
 ix:cQ 0 w x u l
 kJ:gF l
 bd:∀y∈l,0<=y/\y<n
 bx:base<=xs
 bv:base<=v
 nx:¬S.aB Q x
 nu:∀g,u.ownBlock=some g->¬S.aB Q g
 hi:i∈Q.ids
 ib:0<=i/\i<=1000000
 ev:∀e∈Q.l i,pI n e
 lx:w0.heap.size<=xs
 lv:w0.heap.size<=v
 li:w0.heap.size<=x
 lu:∀g,u.ownBlock=some g->w0.heap.size<=g
section
variable{w0 w w':World}{base:Nat}{S S':Sx}{Q Q':Qs}{M M':List bU}{n t f n' t' f':Int}{i:Int}{xs v x:Nat}{u:Value}{l:List Int}
theorem SV.fx (h:SV w0 base w S Q M n t f i xs v x u l):¬S.aB Q xs:=h.st.aX h.dF h.bx D_ D_ D_ D_ D_ D_
theorem SV.fv (h:SV w0 base w S Q M n t f i xs v x u l):¬S.aB Q v:=h.st.aX h.vw h.bv D_ D_ D_ D_ D_ D_
theorem SV.turn (h:SV w0 base w S Q M n t f i xs v x u l) (bT:cn w0 base w' S' Q' M' n' t' f') (hS:S'.s=S.s) {R:Nat->Prop}(hf:Fr R w w') (hR:∀k,(k=xs\/k=v\/k=x\/u.ownBlock=some k)->¬R k) (mv:∀k,S'.aB Q' k->S.aB Q k\/w.heap.size<=k) (hn:n<=n') (hq:i∈Q'.ids) (he:∀e∈Q'.l i,pI n' e):SV w0 base w' S' Q' M' n' t' f' i xs v x u l where
 st:=bT
 dF:=by rw [hS];exact hf.ai h.dF (hR _ (.inl rfl))
 vw:=hf.ai h.vw (hR _ (.inr (.inl rfl)))
 ix:=h.ix.fr hf (hR _ (cu (.inl rfl))) fun b hb=>hR _ (dS hb)
 kJ:=h.kJ
 bd:=fun y hy=>⟨(h.bd y hy).1,by have:=(h.bd y hy).2;omega⟩
 bx:=h.bx
 bv:=h.bv
 nx:=fun hk=>by
  rcases mv _ hk with hk|hk
  ·exact h.nx hk
  ·have:=h.ix.1.lt;omega
 nu:=fun g hg hk=>by
  rcases mv _ hk with hk|hk
  ·exact h.nu g hg hk
  ·have:=(h.ix.2.1.block hg).2;omega
 hi:=hq
 ib:=h.ib
 ev:=he
 lx:=h.lx
 lv:=h.lv
 li:=h.li
 lu:=h.lu
theorem SV.store (h:SV w0 base w S Q M n t f i xs v x u l) (bT:cn w0 base w' S' Q' M' n' t' f') (hS:S'.s=S.s) (hf:Fr (S.aB Q) w w') (mv:∀k,S'.aB Q' k->S.aB Q k\/w.heap.size<=k) (hn:n<=n') (hq:i∈Q'.ids) (he:∀e∈Q'.l i,pI n' e):SV w0 base w' S' Q' M' n' t' f' i xs v x u l:=
 h.turn bT hS hf (fun k hk=>by
   rcases hk with rfl|rfl|rfl|hk
   ·exact h.fx
   ·exact h.fv
   ·exact h.nx
   ·exact h.nu k hk) mv hn hq he
theorem SV.new (h:SV w0 base w S Q M n t f i xs v x u l) (hn:ae w w'):SV w0 base w' S Q M n t f i xs v x u l:=
 h.store (h.st.more hn) rfl (ae.to hn) (fun _ hk=>.inl hk) (gq _) h.hi h.ev
theorem SV.view (h:SV w0 base w S Q M n t f i xs v x u l) {u':Value}{l':List Int}(hv:VW w' v x false) (hi:cQ 0 w' x u' l') (ha:gF l') (hb:∀y∈l',0<=y/\y<n) (hf:Fr (fun k=>k=v\/k=x\/u.ownBlock=some k) w w') (bT:cM w u u'):SV w0 base w' S Q M n t f i xs v x u' l' where
 st:=h.st.du hf (fun k hk e=>by
    rcases e with e|e|e
    ·subst e;exact h.fv hk
    ·subst e;exact h.nx hk
    ·exact h.nu k e hk) (fun vv ll ho b hb e=>by
    obtain⟨cs,cK⟩:=ho.heap hb;rcases e with e|e|e
    ·subst e;exact cK.aU h.vw D_ rfl
    ·subst e;exact cK.aU h.ix.1 D_ rfl
    ·obtain⟨kL,lW⟩:=h.ix.2.1.heap e;exact cK.aU lW D_ rfl) (fun k e=>by
    rcases e with e|e|e
    ·subst e;exact h.lv
    ·subst e;exact h.li
    ·exact h.lu k e)
 dF:=hf.ai h.dF (fun e=>by
   rcases e with e|e|e
   ·exact h.dF.aU h.vw D_ e
   ·exact h.dF.aU h.ix.1 D_ e
   ·obtain⟨kL,lW⟩:=h.ix.2.1.heap e;exact h.dF.aU lW D_ rfl)
 vw:=hv
 ix:=hi
 kJ:=ha
 bd:=hb
 bx:=h.bx
 bv:=h.bv
 nx:=h.nx
 nu:=fun g hg hk=>by
  rcases bT with e|⟨b,e,hb⟩
  ·rw [e]at hg;exact h.nu g hg hk
  ·rw [e]at hg;injection hg with hg;have:=h.st.fI hk;omega
 hi:=h.hi
 ib:=h.ib
 ev:=h.ev
 lx:=h.lx
 lv:=h.lv
 li:=h.li
 lu:=fun g hg=>by
  rcases bT with e|⟨b,e,hb⟩
  ·rw [e]at hg;exact h.lu g hg
  ·rw [e]at hg;injection hg with hg;have:=h.st.new.size;omega
theorem xz{α:Type}(p:α->Bool):∀l:List α,(l.filter p).length+(l.filter fun x=> !p x).length=l.length
 |[]=>rfl
 |x::t=>by
  have:=xz p t
  cases hp:p x
  ·rw [mD (by simp [hp]),Qo (by simp [hp]),iU,iU];omega
  ·rw [Qo hp,mD (by simp [hp]),iU,iU];omega
theorem Qs.xB (Q:Qs) (i:Int) (v:Value) (L:List Ev):(Q.xU i v L).l i=L:=by simp [Qs.xU]
theorem xC(h:SV w0 base w S Q M n t f i xs v x u l) (gone:Bool) (hn:n<=50000) (hl:(Q.l i).length<=100000000):
 H_ 88 #[Q_ xs,R_ gone] w fun e w'=>∃o lo,e=.returned o/\Own cG 53 w.heap.size w' o lo/\(∀r∈lo,Tq r/\bF w.heap.size w' r)/\lo.length+2*((Q.l i).filter fun x=> !(gone||decide (x.k≠2))).length<=2*(Q.l i).length+1/\
  ∃v' u' l',SV w0 base w' S (Q.xU i v' ((Q.l i).filter fun x=> !(gone||decide (x.k≠2)))) M n t f i xs v x u' l'/\(∀g,v'.ownBlock=some g->w.heap.size<=g)/\Fr (fun k=>S.aB Q k\/k=v\/k=x\/u.ownBlock=some k) w w'/\cM w u u'/\(gone=false->l <+:l'):=by
 obtain⟨k0,k1,k2,k3⟩:=h.dF.rQ;have H:=ac5 h;have oR:=h.ib;obtain⟨L,hL⟩:∃L,squeeze ((Q.l i).filter fun x=>gone||decide (x.k≠2))=L:=⟨_,rfl⟩;have hLe:∀e∈L,pI n e:=fun e he=>h.ev e (by rw [<-hL]at he;exact(List.mem_filter.1 (lD he)).1)
 have hLg:gone=false->∀e∈L,e.k≠2:=fun hg e he=>by
  rw [<-hL]at he;have:=(List.mem_filter.1 (lD he)).2;rw [hg]at this;simpa using this
 obtain⟨R,hR⟩:∃R,((Q.l i).filter fun x=> !(gone||decide (x.k≠2)))=R:=⟨_,rfl⟩
 have hLl:L.length+R.length<=(Q.l i).length:=by
  rw [<-hL,<-hR];have h1:=wG ((Q.l i).filter fun x=>gone||decide (x.k≠2));have h2:=xz (fun x:Ev=>gone||decide (x.k≠2)) (Q.l i);omega
 have hRe:∀e∈R,pI n e:=fun e he=>h.ev e (by rw [<-hR]at he;exact(List.mem_filter.1 he).1)
 have HF:Hid (∀W,cn w0 base W S Q M n t f->H_ 124 #[Q_ S.s,I_ i,R_ gone] W fun e w'=>∃A c v',e=.returned (X_ A L.length c)/\Own yx 232 W.heap.size w' (X_ A L.length c) L/\
  cn w0 base w' S (Q.xU i v' R) M n t f/\Fr (S.aB Q) W w'/\∀g,v'.ownBlock=some g->W.heap.size<=g):=ac5 fun W hW=>by
  have:=Q9 hW i O_ O_ h.hi gone O_;rw [hL,hR]at this;exact this
 rw [hR];have HLL:=ac5 (And.intro hLl (And.intro hLe (And.intro hRe hLg)));clear h hL hR hLl hLe hRe hLg
 go_enter func88,ntmps88
 go_wp2_with fail
 go_region_held3 (fun W=>L_ W xs 0 (Q_ S.s)/\L_ W xs 1 (I_ i)/\L_ W xs 2 (Q_ v)) (first|go_keep|(refine⟨?_,?_,?_⟩<;>assumption)) ((first
  |(go_at_call 124
    refine(HF.out _ (H.out.st.more N_)).mono ?_;rintro e w2 ⟨A,c,v',rfl,ho,bT,f2,xR⟩;have F2:Fr (S.aB Q) w w2:=Fr.trans (ae.to N_) f2
    have mv:∀k,S.aB (Q.xU i v' R) k->S.aB Q k\/w.heap.size<=k:=fun k hk=>by
     rcases hk with hk|hk|hk|hk|hk|hk|hk
     ·exact .inl (.inl hk)
     ·exact .inl (.inr (.inl hk))
     ·exact .inl (cu (.inl hk))
     ·exact .inl (dS (.inl hk))
     ·exact .inl (iO (.inl hk))
     ·exact .inl (gd (.inl hk))
     ·rcases Qs.mJ (m:=w.heap.size) (fun g hg=>xR g hg) hk with hk|hk
      ·exact .inl (lX hk)
      ·exact .inr hk
    have V2:=H.out.store bT rfl F2 mv (gq _) H.out.hi (by simpa [Qs.xU]using HLL.out.2.2.1);have fW:=V2.dF;have p0:=fW.k0;have p1:=fW.k1;have p2:=fW.k2;have iw:=ac5 F2;have HV2:=ac5 V2;have HEV:=ac5 (And.intro ho xR);clear ho bT f2 F2 mv V2 xR)
  |(go_at_call 123
    refine(MX hn HV2.out.vw HV2.out.ix HV2.out.kJ HV2.out.bd A c L HEV.out.1 (fun e he=>HLL.out.2.1 e he) (by have:=HLL.out.1;omega)).mono ?_;rintro e w3 ⟨o,lo,rfl,fg,mh,o_,u',l',iL,EI,ha3,qp,F3,MO,pr3⟩;have V3:=HV2.out.view iL EI ha3 qp F3 MO;have Rk:=ac5 (And.intro fg (And.intro mh (And.intro o_ (And.intro MO pr3))));clear fg EI MO mh o_ ha3 qp pr3;have jy:=V3.dF;have q0:=jy.k0;have q1:=jy.k1;have q2:=jy.k2)
  |fail))
 go_wp2;go_ret;have gK:=HLL.out.1;refine⟨o,lo,rfl,Rk.out.1.mono iw.out.size,fun r hr=>⟨(Rk.out.2.1 r hr).1,(Rk.out.2.1 r hr).2.mono iw.out.size⟩,by have:=Rk.out.2.2.1;omega,v',u',l',V3,HEV.out.2,Fr.trans (iw.out.mono fun _ _ h=>.inl h) (F3.mono fun _ _ h=>.inr h),?_⟩;exact⟨Rk.out.2.2.2.1.mono iw.out.size,fun hg=>Rk.out.2.2.2.2 (HLL.out.2.2.2 hg)⟩
end
def Fh(l:List Int) (r:cV):Prop:=r.k=4/\(bits .and .i64 r.it 2≠0->jQ l r.n=(r.uid,true))
structure FI(w0:World) (base v x:Nat) (g:Bool) (u:Value) (l:List Int) (S:Sx) (Q:Qs) (M:List bU) (n t f:Int) (j:Nat) (w:World) (bs:List (Nat×TypeId×Value)) (W:World):Prop where
 gi:∃Q' M',GI w0 base v x u S Q M n t f j Q' M' w W
 vw:VW W v x g
 ix:cQ 0 W x u l
 bx:∀b∈bs,af W b.1 b.2.1 #[b.2.2]
theorem sU{W:World}{k:Nat}{ty:TypeId}{cs:Array Value}{B:Nat}(hb:af W k ty cs) (h1:ty≠50) (h2:ty≠198) (h3:ty≠53):¬(B<=k/\CI W k):=by
 rintro⟨_,⟨o,ho,hc⟩|⟨ty',kL,ng,ht⟩⟩
 ·rw [hb.isCells o ho]at hc
  cases hc
 ·have e:=hb.symm.trans ng
  cases e
  rcases ht with rfl|rfl|rfl
  ·exact h1 rfl
  ·exact h2 rfl
  ·exact h3 rfl
theorem cQ.XM {base x B:Nat}{W W':World}{u:Value}{l:List Int}(h:cQ base W x u l) (hf:Fr (fun k=>B<=k/\CI W k) W W'):cQ base W' x u l:=
 h.fr hf (sU h.1 D_ D_ D_) fun b hb=>by
   obtain⟨cs,hc⟩:=h.2.1.heap hb;exact sU hc D_ D_ D_
theorem FI.XM {w0:World}{base v x B:Nat}{g:Bool}{u:Value}{l:List Int}{S:Sx}{Q:Qs}{M:List bU}{n t f:Int}{j:Nat}{w W W':World}{bs:List (Nat×TypeId×Value)}(h:FI w0 base v x g u l S Q M n t f j w bs W)
 (iZ:∀b∈bs,b.2.1≠50/\b.2.1≠198/\b.2.1≠53) (hf:Fr (fun k=>B<=k/\CI W k) W W') (hB:base<=B) (hw:w0.heap.size<=B) (hq:S.q<B) (hBw:w.heap.size<=B):FI w0 base v x g u l S Q M n t f j w bs W':=by
 obtain⟨Q',M',hg⟩:=h.gi;exact{gi:=⟨Q',M',hg.XM hf hB hw hq hBw⟩,vw:=hf.ai h.vw (sU h.vw D_ D_ D_),ix:=h.ix.XM hf,bx:=fun b hb=>hf.ai (h.bx b hb) (sU (h.bx b hb) (iZ b hb).1 (iZ b hb).2.1 (iZ b hb).2.2)}
theorem KQ{n:Int}{l:List Int}(hl:l.length<=50000) (IW:∀y∈l,0<=y/\y<n) {p z:Int}(h:jQ l p=(z,true)):(0<=p/\p<=4294967295)/\(0<=z/\z<n):=by
 unfold jQ at h
 split at h
 ·rename_i hp
  have hz:=(vt _ _ _ _▸h).1;refine⟨O_,?_⟩;have hi:(p-1).toNat<l.length:=O_
  rw [DW hi,ON]at hz;have:=IW _ (List.getElem_mem hi);rw [hz]at this;exact this
 ·cases(vt _ _ _ _▸h).2
theorem FI.next {w0:World}{base v x B:Nat}{g:Bool}{u:Value}{l:List Int}{S:Sx}{Q Q1 Q2:Qs}{M M1 M2:List bU}{n t f:Int}{j:Nat}{w W1 W2:World}{bs:List (Nat×TypeId×Value)}(h:FI w0 base v x g u l S Q M n t f j w bs W1)
 (hg:GI w0 base v x u S Q M n t f j Q1 M1 w W1) (iZ:∀b∈bs,base<=b.1/\b.2.1≠94/\b.2.1≠155/\b.2.1≠163/\b.2.1≠28/\b.2.1≠351/\b.2.1≠232)
 (hg':GI w0 base v x u S Q M n t f (j+1) Q2 M2 w W2) (hf:Fr (S.aB Q1) W1 W2) (hB:base<=B) (hq:S.q<B):FI w0 base v x g u l S Q M n t f (j+1) w bs W2/\uW B v x u W1 W2:=
 ⟨{gi:=⟨Q2,M2,hg'⟩,vw:=hf.ai h.vw (hg.bL _ (.inl rfl)),ix:=h.ix.fr hf (hg.bL _ (.inr (.inl rfl))) fun _ hb=>hg.bL _ (.inr (.inr hb)),
   bx:=fun b hb=>hf.ai (h.bx b hb) (hg.st.aX (h.bx b hb) (iZ b hb).1 (iZ b hb).2.1 (iZ b hb).2.2.1 (iZ b hb).2.2.2.1 (iZ b hb).2.2.2.2.1 (iZ b hb).2.2.2.2.2.1 (iZ b hb).2.2.2.2.2.2)},
  hg.st.Vn hf hB hq hg.bL⟩
theorem FI.lt {w0:World}{base v x:Nat}{g:Bool}{u:Value}{l:List Int}{S:Sx}{Q:Qs}{M:List bU}{n t f:Int}{j:Nat}{w W1:World}{bs:List (Nat×TypeId×Value)}(h:FI w0 base v x g u l S Q M n t f j w bs W1):
 ∀k,(k=v\/k=x\/u.ownBlock=some k)->k<W1.heap.size:=by
 rintro k (rfl|rfl|hk)
 ·exact h.vw.lt
 ·exact h.ix.1.lt
 ·exact(h.ix.2.1.block hk).2
theorem GI.room {w0:World}{base v x:Nat}{u:Value}{l:List Int}{S:Sx}{Q Q1:Qs}{M M1:List bU}{n t f:Int}{j:Nat}{w W1:World}(h:GI w0 base v x u S Q M n t f j Q1 M1 w W1) (hQ:∀i∈Q.ids,(Q.l i).length+l.length<=100000000) (hj:j<l.length):∀i∈Q1.ids,(Q1.l i).length<=100000000:=by
 intro i hi;rw [h.ids]at hi;obtain⟨L,e,h1,_⟩:=h.ev i;have:=hQ i hi;rw [e,dr];omega
theorem Rv{w0 W:World}{base v x:Nat}{g:Bool}{u:Value}{l:List Int}{S:Sx}{Q:Qs}{M:List bU}{n t f:Int}(h:cn w0 base W S Q M n t f) (KB:VW W v x g) (jd:cQ 0 W x u l) (hl:l.length<=50000) (IW:∀y∈l,0<=y/\y<n)
 (gh:∀k,(k=v\/k=x\/u.ownBlock=some k)->¬S.aB Q k) (hQ:∀i∈Q.ids,(Q.l i).length+l.length<=100000000)
 (A:Option Addr) (c:Nat) (s:List Rg) (hv:Rd lP W (X_ A s.length c) s) (gQ:∀r∈s,r.wf) (hs:s.length<=100000) (eZ items:Int):
 H_ 101 #[Q_ S.s,Q_ v,I_ eZ,X_ A s.length c,I_ items] W fun e W'=>∃vo lo code,e=.returned (.tuple #[vo,I_ code])/\Own cG 53 W.heap.size W' vo lo/\(∀r∈lo,Fh l r/\bF W.heap.size W' r)/\lo.length<=l.length/\(code=0\/code=2\/code=3\/code=7)/\
  ∃j Q' M',j<=l.length/\GI w0 base v x u S Q M n t f j Q' M' W W'/\VW W' v x g/\cQ 0 W' x u l:=by
 have hmf:=atQ;have hE:∀args w,(callFunc 140 args).run prog w=.ok (.enter 140 args) w:=Aw func140 K_ rfl;have H:=ac5 (And.intro h (And.intro KB (And.intro jd (And.intro gh hQ))));have HV:=ac5 (And.intro hv gQ);have HLU:=ac5 IW;clear h KB jd gh hQ hv gQ IW
 go_enter func101,ntmps101
 by_cases h1:items<1
 ·have d1:=k_ h1;clear h1;go_wp2_with fail
  go_ret2;have n3:ae W (W_ (W_ (W_ W #[Q_ S.s] 39) #[I_ eZ] 3) #[I_ items] 3):=(((ae.refl W).alloc _).alloc _).alloc _;exact⟨_,[],2,rfl,Own.nil _ _ _ _,S_,S_,.inr (.inl rfl),0,Q,M,Gv _,GI.init H.out.1 n3 H.out.2.2.2.1,n3.ai H.out.2.1,H.out.2.2.1.new n3⟩
 have d1:=aP h1;by_cases h2:31<items
 ·have d2:=k_ h2;clear h1 h2;go_wp2_with fail
  go_ret2;have n3:ae W (W_ (W_ (W_ W #[Q_ S.s] 39) #[I_ eZ] 3) #[I_ items] 3):=(((ae.refl W).alloc _).alloc _).alloc _;exact⟨_,[],2,rfl,Own.nil _ _ _ _,S_,S_,.inr (.inl rfl),0,Q,M,Gv _,GI.init H.out.1 n3 H.out.2.2.2.1,n3.ai H.out.2.1,H.out.2.2.1.new n3⟩
 have d2:=aP h2;go_wp2_with fail
 have n3:ae W (W_ (W_ (W_ W #[Q_ S.s] 39) #[I_ eZ] 3) #[I_ items] 3):=(((ae.refl W).alloc _).alloc _).alloc _;have hW3:(((W.alloc (G_ #[Q_ S.s] 39)).alloc (G_ #[I_ eZ] 3)).alloc (G_ #[I_ items] 3)).heap.size=W.heap.size+3:=S_
 have KN:=H.out.1.hb;have cU:=H.out.1.new.size;have hsq:=H.out.1.fI (gd (.inl rfl));have b1:af (W_ (W_ (W_ W #[Q_ S.s] 39) #[I_ eZ] 3) #[I_ items] 3) W 39 #[Q_ S.s]:=((af.new _ _ _).alloc _).alloc _
 have b2:af (W_ (W_ (W_ W #[Q_ S.s] 39) #[I_ eZ] 3) #[I_ items] 3) (W.heap.size+1) 3 #[I_ eZ]:=by
  have:=(af.new (W_ W #[Q_ S.s] 39) 3 #[I_ eZ]).alloc (G_ #[I_ items] 3)
  rwa [gz]at this
 have b3:af (W_ (W_ (W_ W #[Q_ S.s] 39) #[I_ eZ] 3) #[I_ items] 3) (W.heap.size+1+1) 3 #[I_ items]:=by
  have:=af.new (W_ (W_ W #[Q_ S.s] 39) #[I_ eZ] 3) 3 #[I_ items]
  rwa [gz,gz]at this
 obtain⟨bs,iZ⟩:∃bs:List (Nat×TypeId×Value),bs=[(W.heap.size,39,.pointer (M_ S.s)),(W.heap.size+1,3,.int .i64 eZ),(W.heap.size+1+1,3,.int .i64 items)]:=⟨_,rfl⟩
 have E7:∀b∈bs,(base<=b.1/\b.2.1≠94/\b.2.1≠155/\b.2.1≠163/\b.2.1≠28/\b.2.1≠351/\b.2.1≠232)/\(b.2.1≠50/\b.2.1≠198/\b.2.1≠53):=by
  intro b hb;rw [iZ]at hb;simp only [wu,Bf,or_false]at hb;rcases hb with rfl|rfl|rfl<;>dsimp only<;>exact⟨⟨O_,D_,D_,D_,D_,D_,D_⟩,D_,D_,D_⟩
 have h0:FI w0 base v x g u l S Q M n t f 0 W bs (W_ (W_ (W_ W #[Q_ S.s] 39) #[I_ eZ] 3) #[I_ items] 3):=
  {gi:=⟨Q,M,GI.init H.out.1 n3 H.out.2.2.2.1⟩,vw:=n3.ai H.out.2.1,ix:=H.out.2.2.1.new n3,bx:=by
    intro b hb;rw [iZ]at hb;simp only [wu,Bf,or_false]at hb;rcases hb with rfl|rfl|rfl
    ·exact b1
    ·exact b2
    ·exact b3}
 have Z7:=KI (g:=g) hl 140 #[Q_ W,Q_ (W.heap.size+1+1),Q_ (W.heap.size+1)] hE A c s HV.out.2 hs (W_ (W_ (W_ W #[Q_ S.s] 39) #[I_ eZ] 3) #[I_ items] 3)
  (fun pre W'=>FI w0 base v x g u l S Q M n t f pre.length W bs W') (fun r W'=>Fh l r/\bF W.heap.size W' r)
  (fun pre W1 W2 hi hf=>hi.XM (fun b hb=>(E7 b hb).2) hf O_ O_ O_ O_) (fun r W1 W2 h hf=>⟨h.1,h.2.fr hf fun k cs _ hc=>sU hc D_ D_ D_⟩)
  (by
    intro pre y W1 hi hlen eE;obtain⟨Q1,M1,hg⟩:=hi.gi;have Oc:=KQ hl HLU.out y.2;have e1:=hi.bx (W.heap.size,39,Q_ S.s) (by rw [iZ];simp);have e2:=hi.bx (W.heap.size+1,3,I_ eZ) (by rw [iZ];simp);have e3:=hi.bx (W.heap.size+1+1,3,I_ items) (by rw [iZ];simp);refine(MW hg hi.lt (hg.room H.out.2.2.2.2 hlen) e1 e3 e2 O_ O_ O_ y.1.1 y.1.2 Oc.1.1 Oc.1.2 Oc.2.1 Oc.2.2).mono ?_;rintro e W2 ⟨r,told,there,Q2,M2,he,re,Uo,dU⟩;obtain⟨a1,a2⟩:=hi.next hg (fun b hb=>(E7 b hb).1) Uo dU (B:=(((W.alloc (G_ #[Q_ S.s] 39)).alloc (G_ #[I_ eZ] 3)).alloc (G_ #[I_ items] 3)).heap.size) O_ O_;refine⟨r,told,there,he,fun ht=>⟨⟨(re ht).1.1,fun hit=>?_⟩,(re ht).2.mono O_⟩,by rw [dr];exact a1,a2,fun r h=>⟨h.1,h.2.fr dU fun k cs hk hc=>hg.st.aX hc O_ D_ D_ D_ D_ D_ D_⟩⟩;rw [(re ht).1.2.1,(re ht).1.2.2 hit];exact y.2)
  (n3.ai H.out.2.1) (H.out.2.2.1.new n3) (HV.out.1.new n3) h0
 refine Z7.mono ?_;rintro e W' ⟨vo,lo,code,rfl,cl,hp,fi,Xz,pre,yN,hi⟩;obtain⟨Q1,M1,hg⟩:=hi.gi;go_wp2;go_ret2;exact⟨vo,lo,code,rfl,cl.mono O_,hp,fi,O_,pre.length,Q1,M1,yN,hg,hi.vw,hi.ix⟩
theorem MY{w0 w W:World}{base v x:Nat}{u:Value}{S:Sx}{Q Q':Qs}{M M':List bU}{n t f:Int}{j:Nat}(h:GI w0 base v x u S Q M n t f j Q' M' w W)
 (bJ:∀k,(k=v\/k=x\/u.ownBlock=some k)->k<W.heap.size) (hQ:∀i∈Q'.ids,(Q'.l i).length<=100000000)
 {sb bb mb fb ib:Nat}{eZ mode fl:Int}{rh:Bool}(hs:af W sb 39 #[Q_ S.s]) (hb:af W bb 3 #[I_ eZ]) (hm:af W mb 3 #[I_ mode]) (hf:af W fb 45 #[B_ fl]) (hi:af W ib 4 #[R_ rh])
 (oR:base<=ib) (an6:0<=mode/\mode<=2) (qD:0<=fl/\fl<=31) (seq uid:Int) (LI:0<=seq) (oZ:seq<=4294967295) (CG:0<=uid) (GX:uid<n):
 H_ 146 #[I_ seq,U_ uid,Q_ sb,Q_ bb,Q_ mb,Q_ fb,Q_ ib] W fun e W'=>∃(r:cV) (told there:Bool) (Gm:Qs) (M'':List bU),e=.returned (.tuple #[r.val,R_ told,R_ there])/\
  (told=true->(r.k=4/\r.n=seq/\(bits .and .i64 r.it 2≠0->r.uid=uid))/\bF W.heap.size W' r)/\GI w0 base v x u S Q M n t f (j+1) Gm M'' w W'/\Fr (S.aB Q') W W':=by
 have n0:ae W (W_ W #[I_ 0,U_ 0,E_,I_ 0,E_,I_ 0,B_ 0,U_ 0,U_ 0,Z_] 53):=(ae.refl W).alloc _;have q0:∀o,L_ (W.alloc o) sb 0 (Q_ S.s):=fun o=>(hs.alloc o).cell 0;have q1:∀o,L_ (W.alloc o) bb 0 (I_ eZ):=fun o=>(hb.alloc o).cell 0;have q2:∀o,L_ (W.alloc o) mb 0 (I_ mode):=fun o=>(hm.alloc o).cell 0;have q3:∀o,L_ (W.alloc o) fb 0 (B_ fl):=fun o=>(hf.alloc o).cell 0;have q_:=h.st.more n0;have bX:af (W_ W #[I_ 0,U_ 0,E_,I_ 0,E_,I_ 0,B_ 0,U_ 0,U_ 0,Z_] 53) W 53 #[I_ 0,U_ 0,E_,I_ 0,E_,I_ 0,B_ 0,U_ 0,U_ 0,Z_]:=af.new _ _ _
 have UR:(Lit.int .i64 mode).wf=true:=by
  have:mode=0\/mode=1\/mode=2:=O_
  rcases this with rfl|rfl|rfl<;>rfl
 have IQ:uid<=4294967295:=by have:=h.st.n1;omega
 have HCH:=ac5 (tQ q_ hQ eZ uid mode fl CG IQ ⟨O_,O_⟩ UR);have uP:0<=flX M' uid mode fl/\flX M' uid mode fl<=31:=BS O_;have HFX:=ac5 uP;have hiW:=n0.ai hi;have HZ:=ac5 (And.intro q_ (And.intro bX (And.intro hiW ((qZ.new n0:qZ W (W_ W #[I_ 0,U_ 0,E_,I_ 0,E_,I_ 0,B_ 0,U_ 0,U_ 0,Z_] 53) S Q' S Q')))));have KN:=h.st.hb;have cU:=h.st.new.size;have H:=ac5 (And.intro h bJ);have hnX:=q_.aX bX h.st.hb D_ D_ D_ D_ D_ D_;have Xi:=q_.aX hiW oR D_ D_ D_ D_ D_ D_;have HN:=ac5 (And.intro hnX Xi);have bV:ib≠W.heap.size:=by have:=hi.lt;omega
 clear h bJ hQ hs hb hm hf hi q_ bX uP hiW hnX Xi n0
 go_enter func146,ntmps146
 go_wp2_with fail
 refine HCH.out.mono ?_;rintro e W3 ⟨rfl,Q3,yJ,mh,Rr,o_⟩;have bX3:=Fr.ai mh.fr HZ.out.2.1 HN.out.1;have bI3:=Fr.ai mh.fr HZ.out.2.2.1 HN.out.2;have HT:=ac5 (And.intro yJ (And.intro (HZ.out.2.2.2.trans mh) (And.intro bX3 (And.intro bI3 (And.intro Rr o_)))));clear yJ mh bX3 bI3 Rr o_ q0 q1 q2 q3;generalize hfX:flX M' uid mode fl=fX at*;rcases hcz:(JC M' uid mode fl==0)with _|_
 all_goals
  generalize JC M' uid mode fl=cX at*
  go_upto_region 3 with fail
  go_region_law ((first
   |(go_simp
     go_at_call 144
     refine(iq seq LI oZ 1 0 fX ⟨O_,O_⟩ ⟨HFX.out.1,by have:=HFX.out.2;omega⟩ none 0 0 [] _ (Rd.nil _ _) S_).mono ?_;rintro e W4 ⟨⟨rk,rn,rt,de,rx,cT,cw,aY,cW,rA,dh,cY⟩,rfl,ra,pR,yr,lC,n4⟩;dsimp only at pR yr lC;dsimp only [cV.val];have IT:=n4.ai (af.drew HT.out.2.2.1);have bI4:=n4.ai (af.drew HT.out.2.2.2.1);obtain⟨⟨x0,y0⟩,⟨x1,y1⟩,⟨x2,y2⟩,⟨x3,y3⟩,⟨x4,y4⟩,⟨x5,y5⟩,⟨x6,y6⟩,⟨x7,y7⟩,⟨x8,y8⟩,⟨x9,y9⟩⟩:=fH IT;have jR:=lJ (w:=W4) (g:=W.heap.size) (I_ rk) (U_ rn) (T_ rt) (I_ de) (T_ rx) (I_ cT) (B_ cw) (U_ aY) (U_ cW) (X_ rA dh cY);have qi:=bI4.k0;have qj:L_ ((((((((((W4.setCell (C_ W 0) (I_ rk)).setCell (C_ W 1) (U_ rn)).setCell (C_ W 2) (T_ rt)).setCell (C_ W 3) (I_ de)).setCell (C_ W 4) (T_ rx)).setCell (C_ W 5) (I_ cT)).setCell (C_ W 6) (B_ cw)).setCell (C_ W 7) (U_ aY)).setCell (C_ W 8) (U_ cW)).setCell (C_ W 9) (X_ rA dh cY)) ib 0 (R_ rh):=(One.ai jR bI4 bV).cell 0;have PW:=ac5 ra;have HX:=ac5 (And.intro n4 (And.intro IT (And.intro bI4 (And.intro pR (And.intro yr lC)))));clear n4 IT bI4 pR yr lC jR ra;go_wp2_with fail)
   |fail))
 all_goals
  go_wp2;have BU:=kn HX.out.2.1 (I_ rk) (U_ rn) (T_ rt) (I_ de) (T_ rx) (I_ cT) (B_ cw) (U_ aY) (U_ cW) (X_ rA dh cY);have jR:=lJ (w:=W4) (g:=W.heap.size) (I_ rk) (U_ rn) (T_ rt) (I_ de) (T_ rx) (I_ cT) (B_ cw) (U_ aY) (U_ cW) (X_ rA dh cY);have n4:ae W3 W4:=Fr.trans (Fr.drew (ae.refl W3)) HX.out.1;have nQ:=(HT.out.1.more n4).IP jR HX.out.2.1 KN cU D_ D_ D_ D_ D_ D_ D_;have i6:=Fr.trans' (Fr.trans' HT.out.2.1.fr n4 fun _ _ h=>h.elim) jR fun i hi e=>by have e:=e;omega
  refine r_ (ej rfl _ _ rfl rfl rfl (fS BU)) rfl ?_;exact⟨⟨rk,rn,rt,de,rx,cT,cw,aY,cW,rA,dh,cY⟩,_,_,Q3,_,rfl,fun _=>⟨⟨HX.out.2.2.2.1,HX.out.2.2.2.2.1,fun h=>absurd (by decide:bits .and .i64 1 2=0) ((HX.out.2.2.2.2.2 h).2 D_)⟩,(PW.out.mono HT.out.2.1.fr.size).one jR HX.out.2.1 D_⟩,H.out.1.step nQ ⟨i6,HT.out.2.1.gr,rfl,rfl,rfl,rfl⟩ H.out.2 HT.out.2.2.2.2.1 (fun i=>⟨_,HT.out.2.2.2.2.2 i,Fc _ _ _ _ _ _ _ CG GX O_⟩) (Fb _ _ _ _),i6⟩
theorem Rw{w0 W:World}{base v x:Nat}{g:Bool}{u:Value}{l:List Int}{S:Sx}{Q:Qs}{M:List bU}{n t f:Int}(h:cn w0 base W S Q M n t f) (KB:VW W v x g) (jd:cQ 0 W x u l) (hl:l.length<=50000) (IW:∀y∈l,0<=y/\y<n)
 (gh:∀k,(k=v\/k=x\/u.ownBlock=some k)->¬S.aB Q k) (hQ:∀i∈Q.ids,(Q.l i).length+l.length<=100000000)
 (A:Option Addr) (c:Nat) (s:List Rg) (hv:Rd lP W (X_ A s.length c) s) (gQ:∀r∈s,r.wf) (hs:s.length<=100000) (eZ mode fl:Int) (rh:Bool) (akz:0<=fl):
 H_ 103 #[Q_ S.s,Q_ v,I_ eZ,X_ A s.length c,I_ mode,B_ fl,R_ rh] W fun e W'=>∃vo lo code,e=.returned (.tuple #[vo,I_ code])/\Own cG 53 W.heap.size W' vo lo/\(∀r∈lo,Fh l r/\bF W.heap.size W' r)/\lo.length<=l.length/\(code=0\/code=2\/code=3\/code=7)/\
  ∃j Q' M',j<=l.length/\GI w0 base v x u S Q M n t f j Q' M' W W'/\VW W' v x g/\cQ 0 W' x u l:=by
 have hmf:=atQ;have hE:∀args w,(callFunc 146 args).run prog w=.ok (.enter 146 args) w:=Aw func146 K_ rfl;have H:=ac5 (And.intro h (And.intro KB (And.intro jd (And.intro gh hQ))));have HV:=ac5 (And.intro hv gQ);have HLU:=ac5 IW;clear h KB jd gh hQ hv gQ IW
 go_enter func103,ntmps103
 by_cases h1:mode<0
 ·have d1:=k_ h1;clear h1;go_wp2_with fail
  go_ret2;have n3:ae W (W_ (W_ (W_ (W_ (W_ W #[Q_ S.s] 39) #[I_ eZ] 3) #[I_ mode] 3) #[B_ fl] 45) #[R_ rh] 4):=(((((ae.refl W).alloc _).alloc _).alloc _).alloc _).alloc _;exact⟨_,[],2,rfl,Own.nil _ _ _ _,S_,S_,.inr (.inl rfl),0,Q,M,Gv _,GI.init H.out.1 n3 H.out.2.2.2.1,n3.ai H.out.2.1,H.out.2.2.1.new n3⟩
 have d1:=aP h1;by_cases h2:2<mode
 ·have d2:=k_ h2;clear h1 h2;go_wp2_with fail
  go_ret2;have n3:ae W (W_ (W_ (W_ (W_ (W_ W #[Q_ S.s] 39) #[I_ eZ] 3) #[I_ mode] 3) #[B_ fl] 45) #[R_ rh] 4):=(((((ae.refl W).alloc _).alloc _).alloc _).alloc _).alloc _;exact⟨_,[],2,rfl,Own.nil _ _ _ _,S_,S_,.inr (.inl rfl),0,Q,M,Gv _,GI.init H.out.1 n3 H.out.2.2.2.1,n3.ai H.out.2.1,H.out.2.2.1.new n3⟩
 have d2:=aP h2;by_cases h3:31<fl
 ·have d3:=k_ h3;clear h1 h2 h3;go_wp2_with fail
  go_ret2;have n3:ae W (W_ (W_ (W_ (W_ (W_ W #[Q_ S.s] 39) #[I_ eZ] 3) #[I_ mode] 3) #[B_ fl] 45) #[R_ rh] 4):=(((((ae.refl W).alloc _).alloc _).alloc _).alloc _).alloc _;exact⟨_,[],2,rfl,Own.nil _ _ _ _,S_,S_,.inr (.inl rfl),0,Q,M,Gv _,GI.init H.out.1 n3 H.out.2.2.2.1,n3.ai H.out.2.1,H.out.2.2.1.new n3⟩
 have d3:=aP h3;go_wp2_with fail
 have n3:ae W (W_ (W_ (W_ (W_ (W_ W #[Q_ S.s] 39) #[I_ eZ] 3) #[I_ mode] 3) #[B_ fl] 45) #[R_ rh] 4):=(((((ae.refl W).alloc _).alloc _).alloc _).alloc _).alloc _;have hW3:(((((W.alloc (G_ #[Q_ S.s] 39)).alloc (G_ #[I_ eZ] 3)).alloc (G_ #[I_ mode] 3)).alloc (G_ #[B_ fl] 45)).alloc (G_ #[R_ rh] 4)).heap.size=W.heap.size+5:=S_
 have KN:=H.out.1.hb;have cU:=H.out.1.new.size;have hsq:=H.out.1.fI (gd (.inl rfl))
 have b1:af (W_ (W_ (W_ (W_ (W_ W #[Q_ S.s] 39) #[I_ eZ] 3) #[I_ mode] 3) #[B_ fl] 45) #[R_ rh] 4) (W.heap.size) 39 #[Q_ S.s]:=by
  have:=((((af.new W 39 #[Q_ S.s]).alloc (G_ #[I_ eZ] 3)).alloc (G_ #[I_ mode] 3)).alloc (G_ #[B_ fl] 45)).alloc (G_ #[R_ rh] 4);simpa only [gz]using this
 have b2:af (W_ (W_ (W_ (W_ (W_ W #[Q_ S.s] 39) #[I_ eZ] 3) #[I_ mode] 3) #[B_ fl] 45) #[R_ rh] 4) (W.heap.size+1) 3 #[I_ eZ]:=by
  have:=(((af.new (W_ W #[Q_ S.s] 39) 3 #[I_ eZ]).alloc (G_ #[I_ mode] 3)).alloc (G_ #[B_ fl] 45)).alloc (G_ #[R_ rh] 4);simpa only [gz]using this
 have b3:af (W_ (W_ (W_ (W_ (W_ W #[Q_ S.s] 39) #[I_ eZ] 3) #[I_ mode] 3) #[B_ fl] 45) #[R_ rh] 4) (W.heap.size+1+1) 3 #[I_ mode]:=by
  have:=((af.new (W_ (W_ W #[Q_ S.s] 39) #[I_ eZ] 3) 3 #[I_ mode]).alloc (G_ #[B_ fl] 45)).alloc (G_ #[R_ rh] 4);simpa only [gz]using this
 have b4:af (W_ (W_ (W_ (W_ (W_ W #[Q_ S.s] 39) #[I_ eZ] 3) #[I_ mode] 3) #[B_ fl] 45) #[R_ rh] 4) (W.heap.size+1+1+1) 45 #[B_ fl]:=by
  have:=(af.new (W_ (W_ (W_ W #[Q_ S.s] 39) #[I_ eZ] 3) #[I_ mode] 3) 45 #[B_ fl]).alloc (G_ #[R_ rh] 4);simpa only [gz]using this
 have b5:af (W_ (W_ (W_ (W_ (W_ W #[Q_ S.s] 39) #[I_ eZ] 3) #[I_ mode] 3) #[B_ fl] 45) #[R_ rh] 4) (W.heap.size+1+1+1+1) 4 #[R_ rh]:=by
  have:=af.new (W_ (W_ (W_ (W_ W #[Q_ S.s] 39) #[I_ eZ] 3) #[I_ mode] 3) #[B_ fl] 45) 4 #[R_ rh];simpa only [gz]using this
 obtain⟨bs,iZ⟩:∃bs:List (Nat×TypeId×Value),bs=[(W.heap.size,39,.pointer (M_ S.s)),(W.heap.size+1,3,.int .i64 eZ),(W.heap.size+1+1,3,.int .i64 mode),(W.heap.size+1+1+1,45,.int .u8 fl),(W.heap.size+1+1+1+1,4,.bool rh)]:=⟨_,rfl⟩
 have E7:∀b∈bs,(base<=b.1/\b.2.1≠94/\b.2.1≠155/\b.2.1≠163/\b.2.1≠28/\b.2.1≠351/\b.2.1≠232)/\(b.2.1≠50/\b.2.1≠198/\b.2.1≠53):=by
  intro b hb;rw [iZ]at hb;simp only [wu,Bf,or_false]at hb;rcases hb with rfl|rfl|rfl|rfl|rfl<;>dsimp only<;>exact⟨⟨O_,D_,D_,D_,D_,D_,D_⟩,D_,D_,D_⟩
 have h0:FI w0 base v x g u l S Q M n t f 0 W bs (W_ (W_ (W_ (W_ (W_ W #[Q_ S.s] 39) #[I_ eZ] 3) #[I_ mode] 3) #[B_ fl] 45) #[R_ rh] 4):=
  {gi:=⟨Q,M,GI.init H.out.1 n3 H.out.2.2.2.1⟩,vw:=n3.ai H.out.2.1,ix:=H.out.2.2.1.new n3,bx:=by
    intro b hb;rw [iZ]at hb;simp only [wu,Bf,or_false]at hb;rcases hb with rfl|rfl|rfl|rfl|rfl
    ·exact b1
    ·exact b2
    ·exact b3
    ·exact b4
    ·exact b5}
 have Z7:=KI (g:=g) hl 146 #[Q_ W,Q_ (W.heap.size+1),Q_ (W.heap.size+1+1),Q_ (W.heap.size+1+1+1),Q_ (W.heap.size+1+1+1+1)] hE A c s HV.out.2 hs (W_ (W_ (W_ (W_ (W_ W #[Q_ S.s] 39) #[I_ eZ] 3) #[I_ mode] 3) #[B_ fl] 45) #[R_ rh] 4)
  (fun pre W'=>FI w0 base v x g u l S Q M n t f pre.length W bs W') (fun r W'=>Fh l r/\bF W.heap.size W' r)
  (fun pre W1 W2 hi hf=>hi.XM (fun b hb=>(E7 b hb).2) hf O_ O_ O_ O_) (fun r W1 W2 h hf=>⟨h.1,h.2.fr hf fun k cs _ hc=>sU hc D_ D_ D_⟩)
  (by
    intro pre y W1 hi hlen eE;obtain⟨Q1,M1,hg⟩:=hi.gi;have Oc:=KQ hl HLU.out y.2;have e1:=hi.bx (W.heap.size,39,Q_ S.s) (by rw [iZ];simp);have e2:=hi.bx (W.heap.size+1,3,I_ eZ) (by rw [iZ];simp);have e3:=hi.bx (W.heap.size+1+1,3,I_ mode) (by rw [iZ];simp);have e4:=hi.bx (W.heap.size+1+1+1,45,B_ fl) (by rw [iZ];simp);have e5:=hi.bx (W.heap.size+1+1+1+1,4,R_ rh) (by rw [iZ];simp);refine(MY hg hi.lt (hg.room H.out.2.2.2.2 hlen) e1 e2 e3 e4 e5 O_ ⟨O_,O_⟩ ⟨akz,O_⟩ y.1.1 y.1.2 Oc.1.1 Oc.1.2 Oc.2.1 Oc.2.2).mono ?_;rintro e W2 ⟨r,told,there,Q2,M2,he,re,Uo,dU⟩;obtain⟨a1,a2⟩:=hi.next hg (fun b hb=>(E7 b hb).1) Uo dU (B:=(((((W.alloc (G_ #[Q_ S.s] 39)).alloc (G_ #[I_ eZ] 3)).alloc (G_ #[I_ mode] 3)).alloc (G_ #[B_ fl] 45)).alloc (G_ #[R_ rh] 4)).heap.size) O_ O_;refine⟨r,told,there,he,fun ht=>⟨⟨(re ht).1.1,fun hit=>?_⟩,(re ht).2.mono O_⟩,by rw [dr];exact a1,a2,fun r h=>⟨h.1,h.2.fr dU fun k cs hk hc=>hg.st.aX hc O_ D_ D_ D_ D_ D_ D_⟩⟩;rw [(re ht).1.2.1,(re ht).1.2.2 hit];exact y.2)
  (n3.ai H.out.2.1) (H.out.2.2.1.new n3) (HV.out.1.new n3) h0
 refine Z7.mono ?_;rintro e W' ⟨vo,lo,code,rfl,cl,hp,fi,Xz,pre,yN,hi⟩;obtain⟨Q1,M1,hg⟩:=hi.gi;go_wp2;go_ret2;exact⟨vo,lo,code,rfl,cl.mono O_,hp,fi,O_,pre.length,Q1,M1,yN,hg,hi.vw,hi.ix⟩
def Fi(c:Int):Prop:=c=0\/c=2\/c=3\/c=7
theorem IX(c:Int) (hc:Fi c) (w:World):H_ 136 #[I_ c] w fun e w'=>∃st,e=.returned (I_ st)/\(0<=st/\st<=2)/\w'=w:=by
 obtain rfl|rfl|rfl|rfl:=hc
 all_goals
  go_enter func136,ntmps136
  go_wp2;go_ret;exact⟨_,rfl,O_,rfl⟩
theorem MZ(c:Int) (hc:Fi c) (w:World):H_ 137 #[I_ c] w fun e w'=>∃tx,e=.returned (T_ tx)/\tx.size<=100/\w'=w:=by
 obtain rfl|rfl|rfl|rfl:=hc
 all_goals
  go_enter func137,ntmps137
  go_wp2;go_ret;exact⟨_,rfl,D_,rfl⟩
theorem BZ(c:Int) (hc:Fi c) (x:ByteArray) (w:World):H_ 99 #[I_ c,T_ x] w fun e w'=>∃st tx,e=.returned (.agg #[I_ st,T_ tx])/\(0<=st/\st<=2)/\tx.size<=x.size+100/\ae w w':=by
 by_cases h0:c=0
 ·subst h0;exact(aey x w).mono fun e w' h=>⟨0,x,h.1,O_,O_,h.2⟩
 ·have bV:=beq_eq_false_iff_ne.2 h0;have HC:=ac5 hc;clear hc h0
  go_enter func99,ntmps99
  go_wp2_with (first|(go_at_call 136;refine(IX c HC.out _).mono ?_;rintro e w1 ⟨st,rfl,bT,rfl⟩)|(go_at_call 137;refine(MZ c HC.out _).mono ?_;rintro e w2 ⟨tx,rfl,Od,rfl⟩)|fail)
  exact r_ (aI rfl _ _ rfl (dN (af.new _ _ _))) rfl ⟨st,tx,rfl,bT,O_,(ae.refl w).alloc _⟩
theorem SV.apart {w0 w w':World}{base:Nat}{S:Sx}{Q:Qs}{M:List bU}{n t f:Int}{i:Int}{xs v x:Nat}{u:Value}{l:List Int}{R:Nat->Prop}(h:SV w0 base w S Q M n t f i xs v x u l) (hf:Fr R w w')
 (hR:∀k,R k->k<w.heap.size->base<=k/\w0.heap.size<=k/\∃cs,af w k 50 cs\/af w k 53 cs\/af w k 108 cs):SV w0 base w' S Q M n t f i xs v x u l:=by
 have db:∀k e cs,af w k e cs->e≠50->e≠53->e≠108->¬R k:=fun k e cs hb n1 n2 n3 hk=>by
  obtain⟨_,_,kL,cK|cK|cK⟩:=hR k hk hb.lt
  ·exact absurd rfl (hb.aU cK n1)
  ·exact absurd rfl (hb.aU cK n2)
  ·exact absurd rfl (hb.aU cK n3)
 have hnf:∀k,S.aB Q k->¬R k:=fun k hs hk=>by
  obtain⟨hb,_,cs,cK|cK|cK⟩:=hR k hk (h.st.fI hs)
  ·exact h.st.aX cK hb D_ D_ D_ D_ D_ D_ hs
  ·exact h.st.aX cK hb D_ D_ D_ D_ D_ D_ hs
  ·exact h.st.aX cK hb D_ D_ D_ D_ D_ D_ hs
 have vU:Fr (fun k=>R k/\k<w.heap.size) w w':=hf.mono fun k hl hk=>⟨hk,hl⟩
 exact{h with
  st:=h.st.du vU (fun k hs hk=>hnf k hs hk.1) (fun vv ll ho b hb hk=>by
   obtain⟨cs,hc⟩:=ho.heap hb;exact db b _ cs hc D_ D_ D_ hk.1) (fun k hk=>(hR k hk.1 hk.2).2.1)
  dF:=hf.ai h.dF (db _ _ _ h.dF D_ D_ D_)
  vw:=hf.ai h.vw (db _ _ _ h.vw D_ D_ D_)
  ix:=h.ix.fr hf (db _ _ _ h.ix.1 D_ D_ D_) fun b hb=>by
   obtain⟨cs,hc⟩:=h.ix.2.1.heap hb;exact db b _ cs hc D_ D_ D_}
structure fU(bs OB:Nat) (vo:Value) (lo:List cV) (W:World):Prop where
 b:af W OB 50 #[vo]
 r:Own cG 53 bs W vo lo
 ok:∀r∈lo,bF bs W r
section
variable{bs OB:Nat}{vo:Value}{lo:List cV}{W W':World}
theorem fU.fr (h:fU bs OB vo lo W) {R:Nat->Prop}(hf:Fr R W W') (hR:∀k t cs,af W k t cs->(k=OB\/bs<=k)->(t=50\/t=53\/t=5)->¬R k):fU bs OB vo lo W':=
 ⟨hf.ai h.b (hR _ _ _ h.b (.inl rfl) (.inl rfl)),h.r.fr hf fun b hb=>by
   obtain⟨cs,hc⟩:=h.r.heap hb;exact hR b _ cs hc (.inr (h.r.block hb).1) (.inr (.inl rfl)),fun r hr=>(h.ok r hr).fr hf fun k cs hk hc=>hR k _ cs hc (.inr hk) (.inr (.inr rfl))⟩
theorem fU.new (h:fU bs OB vo lo W) (hn:ae W W'):fU bs OB vo lo W':=h.fr hn fun _ _ _ _ _ _ h=>h
theorem fU.one (h:fU bs OB vo lo W) {g:Nat}{t:TypeId}{cs:Array Value}(hf:One g W W') (hg:af W g t cs) (h1:t≠50) (h2:t≠53) (h3:t≠5):fU bs OB vo lo W':=
 h.fr hf fun k t' kL hb _ ht e=>by
   have e:=e;subst e;rcases ht with rfl|rfl|rfl
   ·exact hb.aU hg (iX h1) rfl
   ·exact hb.aU hg (iX h2) rfl
   ·exact hb.aU hg (iX h3) rfl
theorem fU.add (h:fU bs OB vo lo W) {i_:Value}{ll:List cV}(hl:∀r∈ll,bF bs W r) (hb:af W' OB 50 #[i_]) (hr:Own cG 53 bs W' i_ (lo++ll)) (hf:Fr (fun k=>k=OB\/vo.ownBlock=some k) W W'):fU bs OB i_ (lo++ll) W':=by
 have db:∀k cs,bs<=k->af W k 5 cs->¬(k=OB\/vo.ownBlock=some k):=by
  rintro k cs _ hc (e|e)
  ·exact hc.aU h.b D_ e
  ·exact h.r.aD hc D_ e
 exact⟨hb,hr,fun r hr=>(List.mem_append.1 hr).elim (fun h'=>(h.ok r h').fr hf db) fun h'=>(hl r h').fr hf db⟩
end
theorem ri(xs:Nat) (xD:ByteArray) (Qz:xD.size<=100) (vl:Value) (OB:Nat) (W:World):
 H_ 102 #[Q_ xs,T_ xD,vl,I_ 3,rR OB] W fun e W'=>∃st tx,e=.returned (.agg #[I_ st,T_ tx])/\(0<=st/\st<=2)/\tx.size<=300/\ae W W':=by
 have z1:ByteArray.size ⟨#[32,99,111,109,112,108,101,116,101,100]⟩=10:=rfl;have a1:¬9223372036854775807<xD.size+10:=O_
 go_enter func102,ntmps102
 go_wp2_with fail
 refine(BZ 3 (cu (.inl rfl)) _ _).mono ?_;rintro e w2 ⟨st,tx,rfl,bT,Od,n2⟩;have n1:ae W (W_ W #[I_ 0,E_] 108):=(ae.refl W).alloc _;have b2:af w2 W 108 #[I_ 0,E_]:=n2.ai (af.new _ _ _);have c0:=b2.k0;have c1:=b2.k1;have ff:=b2.dq;have eE:(xD++⟨#[32,99,111,109,112,108,101,116,101,100]⟩).size=xD.size+10:=by rw [cI];rfl
 rw [eE]at Od;go_wp2;refine r_ (aI rfl _ _ rfl (dN (b2.bP (I_ st) (T_ tx)))) rfl ?_;exact⟨st,tx,rfl,bT,O_,Fr.trans' (n1.trans n2) (One.bP w2 W.heap.size (I_ st) (T_ tx)) fun k hk e=>by have e:=e;omega⟩
theorem rj{w0 W:World}{base:Nat}{S:Sx}{Q:Qs}{M:List bU}{n t f:Int}{i:Int}{xs v x:Nat}{u:Value}{l:List Int}(V:SV w0 base W S Q M n t f i xs v x u l) (hn:n<=50000) (hl:(Q.l i).length<=100000000) (xD:ByteArray) (Qz:xD.size<=100) (code:Int) (hc:Fi code) (h3:code≠3)
 {bs OB:Nat}(vl:Value) (ll:List cV) (hvl:Rd cG W vl ll) (gK:ll.length<=100000) (eN:∀r∈ll,bF bs W r) {vo:Value}{lo:List cV}(ho:fU bs OB vo lo W) (fi:lo.length<=100000) (lA:base<=bs) (CD:w0.heap.size<=bs) (iZ:bs<=W.heap.size) (gU:base<=OB) (B5:w0.heap.size<=OB):
 H_ 102 #[Q_ xs,T_ xD,vl,I_ code,rR OB] W fun e W'=>∃st tx i_ iR,e=.returned (.agg #[I_ st,T_ tx])/\((0<=st/\st<=2)/\tx.size<=300)/\fU bs OB i_ iR W'/\(∀r∈iR,r∈lo\/r∈ll\/Tq r)/\iR.length+2*((Q.l i).filter fun x=> !(false||decide (x.k≠2))).length<=lo.length+ll.length+2*(Q.l i).length+1/\
  ∃v' u' l',SV w0 base W' S (Q.xU i v' ((Q.l i).filter fun x=> !(false||decide (x.k≠2)))) M n t f i xs v x u' l'/\l <+:l'/\(∀g,v'.ownBlock=some g->W.heap.size<=g)/\Fr (fun k=>S.aB Q k\/k=v\/k=x\/u.ownBlock=some k\/k=OB\/vo.ownBlock=some k) W W'/\cM W u u':=by
 have z1:ByteArray.size ⟨#[32,99,111,109,112,108,101,116,101,100]⟩=10:=rfl;have a1:¬9223372036854775807<xD.size+10:=O_
 have bV:=bne_iff_ne.2 h3;have n1:ae W (W_ W #[I_ 0,E_] 108):=(ae.refl W).alloc _;have bR:af (W_ W #[I_ 0,E_] 108) W 108 #[I_ 0,E_]:=af.new _ _ _;have fV:=ho.new n1;have HA1:=ac5 (uI OB bs vl vo lo ll _ fV.b fV.r (hvl.new n1) O_ (by rw [gz];omega));have H:=ac5 (And.intro V (And.intro n1 (And.intro bR (And.intro fV (And.intro hc fun r hr=>(eN r hr).new n1)))));have KN:=V.st.hb;clear V hvl ho fV bR n1 hc h3 eN
 go_enter func102,ntmps102
 go_wp2_with fail
 refine HA1.out.mono ?_;rintro e w2 ⟨rfl,Tr,eP,ic,f2,st2⟩;have V1:=H.out.1.new H.out.2.1
 have fQ:∀k,(k=OB\/vo.ownBlock=some k)->base<=k/\w0.heap.size<=k/\∃cs,af (W_ W #[I_ 0,E_] 108) k 50 cs\/af (W_ W #[I_ 0,E_] 108) k 53 cs\/af (W_ W #[I_ 0,E_] 108) k 108 cs:=by
  rintro k (rfl|hk)
  ·exact⟨gU,B5,_,.inl H.out.2.2.2.1.b⟩
  ·obtain⟨cs,cK⟩:=H.out.2.2.2.1.r.heap hk;have:=(H.out.2.2.2.1.r.block hk).1;exact⟨O_,O_,cs,.inr (.inl cK)⟩
 have V2:=V1.apart f2 fun k hk _=>fQ k hk
 have bR2:=f2.ai H.out.2.2.1 (by
  rintro(e|e)
  ·exact H.out.2.2.1.aU H.out.2.2.2.1.b D_ e
  ·exact H.out.2.2.2.1.r.aD H.out.2.2.1 D_ e)
 have HFL:=ac5 (xC V2 false hn hl);have eY:=H.out.2.2.2.1.add H.out.2.2.2.2.2 eP ic f2;have H2:=ac5 (And.intro V2 (And.intro bR2 (And.intro eY (And.intro f2 st2))));clear V1 V2 bR2 eP ic eY f2 st2 fQ HA1;go_wp2_with fail
 refine HFL.out.mono ?_;rintro e w3 ⟨o,XP,rfl,fg,mh,o_,v3,u3,l3,V3,iL,F3,MO,pr3⟩
 have Z9:∀k ty cs,af w2 k ty cs->base<=k->(ty=50\/ty=53\/ty=108\/ty=5)->¬(S.aB Q k\/k=v\/k=x\/u.ownBlock=some k):=by
  rintro k ty cs hb hk ht (e|e|e|e)
  ·rcases ht with rfl|rfl|rfl|rfl<;>exact H2.out.1.st.aX hb hk D_ D_ D_ D_ D_ D_ e
  ·rcases ht with rfl|rfl|rfl|rfl<;>exact hb.aU H2.out.1.vw D_ e
  ·rcases ht with rfl|rfl|rfl|rfl<;>exact hb.aU H2.out.1.ix.1 D_ e
  ·obtain⟨kL,hc⟩:=H2.out.1.ix.2.1.heap e;rcases ht with rfl|rfl|rfl|rfl<;>exact hb.aU hc D_ rfl
 have i3:=H2.out.2.2.1.fr F3 (fun k ty cs hb hk ht=>Z9 k ty cs hb O_ (by
  rcases ht with rfl|rfl|rfl
  ·exact .inl rfl
  ·exact .inr (.inl rfl)
  ·exact dS rfl))
 have R3:=F3.ai H2.out.2.1 (Z9 _ _ _ H2.out.2.1 KN (cu (.inl rfl)));have fW:=H2.out.2.2.2.1.size;rw [gz]at fW;have jy:=F3.size;have KO:=ac5 (uI OB bs o Tr (lo++ll) XP _ i3.b i3.r fg.rd (by rw [dr];omega) O_);have H3:=ac5 (And.intro V3 (And.intro R3 (And.intro i3 (And.intro F3 (And.intro mh (And.intro o_ (And.intro iL (And.intro MO pr3))))))));clear V3 R3 i3 F3 mh o_ iL MO pr3 fg Z9 HFL;go_wp2_with fail
 refine KO.out.mono ?_;rintro e w4 ⟨rfl,vo4,uc,QC,f4,st4⟩
 have hR4:∀k,(k=OB\/Tr.ownBlock=some k)->base<=k/\w0.heap.size<=k/\∃cs,af w3 k 50 cs\/af w3 k 53 cs\/af w3 k 108 cs:=by
  rintro k (rfl|hk)
  ·exact⟨gU,B5,_,.inl H3.out.2.2.1.b⟩
  ·obtain⟨cs,cK⟩:=H3.out.2.2.1.r.heap hk;have:=(H3.out.2.2.1.r.block hk).1;exact⟨O_,O_,cs,.inr (.inl cK)⟩
 have V4:=H3.out.1.apart f4 fun k hk _=>hR4 k hk
 have R4:=f4.ai H3.out.2.1 (by
  rintro(e|e)
  ·exact H3.out.2.1.aU H3.out.2.2.1.b D_ e
  ·exact H3.out.2.2.1.r.aD H3.out.2.1 D_ e)
 have qC:=f4.size;have i4:=H3.out.2.2.1.add (fun r hr=>((H3.out.2.2.2.2.1 r hr).2.mono O_)) uc QC f4;have H4:=ac5 (And.intro V4 (And.intro R4 (And.intro i4 f4)));clear V4 R4 uc QC i4 f4 hR4 KO st4;go_wp2_with fail
 refine(BZ code H.out.2.2.2.2.1 _ _).mono ?_;rintro e w5 ⟨st,tx,rfl,bT,Od,n5⟩;have b5:=n5.ai H4.out.2.1;have c0:=b5.k0;have c1:=b5.k1;have ff:=b5.dq;have eE:(xD++⟨#[32,99,111,109,112,108,101,116,101,100]⟩).size=xD.size+10:=by rw [cI];rfl
 rw [eE]at Od;go_wp2;refine r_ (aI rfl _ _ rfl (dN (b5.bP (I_ st) (T_ tx)))) rfl ?_;have one:=One.bP w5 W.heap.size (I_ st) (T_ tx)
 have V6:=(H4.out.1.new n5).apart one fun k hk _=>by
  have e:=hk;rw [e];exact⟨KN,H.out.1.st.new.size,_,.inr (.inr b5)⟩
 have asr:=H3.out.2.2.2.2.2.1;refine⟨st,tx,vo4,(lo++ll)++XP,rfl,⟨bT,O_⟩,(H4.out.2.2.1.new n5).one one b5 D_ D_ D_,fun r hr=>?_,by rw [dr,dr];omega,v3,u3,l3,V6,H3.out.2.2.2.2.2.2.2.2 (by first|rfl|trivial),fun g hg=>?_,?_,?_⟩
 ·rcases List.mem_append.1 hr with hr|hr
  ·rcases List.mem_append.1 hr with hr|hr
   ·exact .inl hr
   ·exact .inr (.inl hr)
  ·exact .inr (.inr (H3.out.2.2.2.2.1 r hr).1)
 ·have:=H3.out.2.2.2.2.2.2.1 g hg;omega
 ·have g2:Fr (fun k=>S.aB Q k\/k=v\/k=x\/u.ownBlock=some k\/k=OB\/vo.ownBlock=some k) W w2:=Fr.trans' (ae.to H.out.2.1) H2.out.2.2.2.1 fun k _ hk=>iO hk
  have g3:=Fr.trans' g2 H3.out.2.2.2.1 fun k _ hk=>by
   rcases hk with e|e|e|e
   ·exact .inl e
   ·exact .inr (.inl e)
   ·exact cu (.inl e)
   ·exact dS (.inl e)
  have g4:=Fr.trans' g3 H4.out.2.2.2 fun k hk he=>by
   rcases he with e|e
   ·exact iO (.inl e)
   ·rcases H2.out.2.2.2.2 with e1|⟨b,e1,e2⟩
    ·rw [e1]at e;exact gd e
    ·rw [e1]at e;injection e with e;rw [gz]at e2;omega
  exact Fr.trans' (Fr.trans' g4 n5 fun _ _ h=>h.elim) one fun k hk e=>by have e:=e;omega
 ·rcases H3.out.2.2.2.2.2.2.2.1 with e1|⟨b,e1,e2⟩
  ·exact .inl e1
  ·exact .inr ⟨b,e1,O_⟩
def Qs.rm (Q:Qs) (i:Int):Qs:=⟨Q.ids.filter fun j=>decide (j≠i),Q.b,Q.v,Q.l⟩
theorem Qs.uX {Q:Qs}{i:Int}{k:Nat}(h:(Q.rm i).aB k):Q.aB k:=by
 obtain⟨j,hj,hk⟩:=h;exact⟨j,(List.mem_filter.1 hj).1,hk⟩
theorem Qs.Z' (Q:Qs) (i:Int):i∉(Q.rm i).ids:=fun h=>by
 have:=(List.mem_filter.1 h).2;simp at this
theorem Qs.aaa {Q:Qs}{i j:Int}(h:j≠i):j∈(Q.rm i).ids<->j∈Q.ids:=by
 unfold Qs.rm;simp [h]
theorem QX.rm {w w':World}{q:Nat}{Q:Qs}(h:QX w q Q) {i:Int}(hm:HasMap mI w' q (del (Q.ids.map fun i=>(i,Q_ (Q.b i))) i)) (hf:One q w w'):QX w' q (Q.rm i):=by
 have N9:=h.xm h.map;have sI:∀j∈(Q.rm i).ids,j∈Q.ids:=fun j hj=>(List.mem_filter.1 hj).1;refine⟨hm.congr ?_,fun j hj=>(h.nM j (sI j hj)).fr hf (fun e=>N9 ⟨j,sI j hj,.inl e.symm⟩) fun g hg e=>N9 ⟨j,sI j hj,.inr (e▸hg)⟩,fun j hj k hk=>h.qb j (sI j hj) k (sI k hk),fun j hj k hk=>h.qv j (sI j hj) k (sI k hk)⟩;unfold del;rw [Ov];rfl
section
variable{w0 w w':World}{base:Nat}{S S':Sx}{Q Q':Qs}{M M':List bU}{n t f n' t' f':Int}{i:Int}
theorem Fj(h:cn w0 base w S Q M n t f) (i:Int) (h0:0<=i) (h1:i<=9223372036854775807) (hi:i∈Q.ids):
 H_ 125 #[Q_ S.s,I_ i] w fun e w'=>e=.returned (R_ true)/\cn w0 base w' S (Q.rm i) M n t f/\Fr (S.aB Q) w w':=by
 have hk:=Vc O_ h1;have eN:=h.qx.map.eG (t:=92) (e:=280) underlying92 (Kw w) hk;rw [h.get_some hi]at eN;simp only [ON]at eN
 change (Instr.lookup 92 (.map (some S.q)) (I_ i) false).run prog w=_ at eN
 have e2:=h.hd.k4;have H:=ac5 h;have HM:=ac5 h.qx.map;clear h hi
 go_enter func125,ntmps125
 go_wp2_with (at_delete;refine oL (E:=mI) rfl _ _ 92 280 rfl underlying92 HM.out i hk rfl rfl ?_;intro w6 hm6 Ew)
 go_ret;refine⟨rfl,H.out.Kv (H.out.qx.rm hm6 Ew) Ew (fun k hk=>.inr hk) (fun k hk=>.inl (Qs.uX hk)),Ew.mono fun k _ e=>gd (.inl e)⟩
theorem Sx.uX {k:Nat}(h:S.aB (Q.rm i) k):S.aB Q k:=by
 rcases h with h|h|h|h|h|h|h
 ·exact .inl h
 ·exact .inr (.inl h)
 ·exact cu (.inl h)
 ·exact dS (.inl h)
 ·exact iO (.inl h)
 ·exact gd (.inl h)
 ·exact lX (Qs.uX h)
theorem Sx.mJ {v':Value}{l':List Ev}{k m:Nat}(hv:∀g,v'.ownBlock=some g->m<=g) (h:S.aB (Q.xU i v' l') k):S.aB Q k\/m<=k:=by
 rcases h with h|h|h|h|h|h|h
 ·exact .inl (.inl h)
 ·exact .inl (.inr (.inl h))
 ·exact .inl (cu (.inl h))
 ·exact .inl (dS (.inl h))
 ·exact .inl (iO (.inl h))
 ·exact .inl (gd (.inl h))
 ·rcases Qs.mJ hv h with h|h
  ·exact .inl (lX h)
  ·exact .inr h
theorem Sx.qW {b k m:Nat}(hb:m<=b) (h:S.aB (Q.add i b) k):S.aB Q k\/m<=k:=by
 rcases h with h|h|h|h|h|h|h
 ·exact .inl (.inl h)
 ·exact .inl (.inr (.inl h))
 ·exact .inl (cu (.inl h))
 ·exact .inl (dS (.inl h))
 ·exact .inl (iO (.inl h))
 ·exact .inl (gd (.inl h))
 ·rcases Qs.qW h with h|h
  ·exact .inl (lX h)
  ·subst h;exact .inr hb
end
abbrev Vo:=Option (Nat×Nat×Value×List Int)
def dp(xs:Nat):Vo->Nat->Prop
 |none,k=>k=xs
 |some (v,x,u,_),k=>k=xs\/k=v\/k=x\/u.ownBlock=some k
structure SN(w0:World) (base:Nat) (w:World) (S:Sx) (Q:Qs) (M:List bU) (n t f:Int) (i:Int) (xs:Nat) (d:Bool):Prop where
 st:cn w0 base w S Q M n t f
 dF:mV w xs (Q_ S.s) i none d
 bx:base<=xs
 lx:w0.heap.size<=xs
 ib:0<=i/\i<=1000000
 hi:i∉Q.ids
def SO(w0:World) (base:Nat) (w:World) (S:Sx) (Q:Qs) (M:List bU) (n t f:Int) (i:Int) (xs:Nat):Vo->Bool->Prop
 |none,d=>SN w0 base w S Q M n t f i xs d
 |some (v,x,u,l),d=>d=false/\SV w0 base w S Q M n t f i xs v x u l
structure dJ(W W':World) (S:Sx) (Q:Qs) (n:Int) (i:Int) (xs:Nat) (o:Vo) (m d:Nat) (R:Nat->Prop) (S':Sx) (Q':Qs) (n':Int) (o':Vo):Prop where
 s:S'.s=S.s
 cap:S'.cap=S.cap
 tt:S'.T=S.T/\S'.q=S.q
 fr:Fr (fun k=>S.aB Q k\/dp xs o k\/R k) W W'
 gr:∀k,S'.aB Q' k->S.aB Q k\/W.heap.size<=k
 mg:∀k,dp xs o' k->dp xs o k\/W.heap.size<=k
 nn:n<=n'/\n'<=n+d
 yO:∀j,j≠i->(j∈Q'.ids<->j∈Q.ids)/\∃L,Q'.l j=Q.l j++L/\L.length<=m/\∀e∈L,pI n' e
 own:(Q'.l i).length<=(Q.l i).length+m
section
variable{w0 w w' W W' W'':World}{base:Nat}{S S' S'':Sx}{Q Q' Gm:Qs}{M M':List bU}{n t f n' t' f' n'':Int}{i:Int}{xs:Nat}{o o' Xk:Vo}{m d m' d':Nat}{R R':Nat->Prop}{b:Bool}
theorem SO.st:∀{o:Vo},SO w0 base w S Q M n t f i xs o b->cn w0 base w S Q M n t f
 |none,h=>SN.st h
 |some (_,_,_,_),h=>h.2.st
theorem SO.ib:∀{o:Vo},SO w0 base w S Q M n t f i xs o b->0<=i/\i<=1000000
 |none,h=>SN.ib h
 |some (_,_,_,_),h=>h.2.ib
def ot:Vo->Option Addr
 |none=>none
 |some (v,_,_,_)=>some ⟨v,0,none⟩
theorem SO.dF:∀{o:Vo},SO w0 base w S Q M n t f i xs o b->mV w xs (Q_ S.s) i (ot o) b
 |none,h=>SN.dF h
 |some (_,_,_,_),h=>by rw [h.1];exact h.2.dF
theorem SN.fx (h:SN w0 base w S Q M n t f i xs b):¬S.aB Q xs:=h.st.aX h.dF h.bx D_ D_ D_ D_ D_ D_
theorem SO.bL:∀{o:Vo},SO w0 base w S Q M n t f i xs o b->∀k,dp xs o k->¬S.aB Q k
 |none,h,k,hk=>by
  have e:k=xs:=hk;subst e;exact SN.fx h
 |some (v,x,u,l),h,k,hk=>by
  rcases(show k=xs\/k=v\/k=x\/u.ownBlock=some k from hk)with rfl|rfl|rfl|hk
  ·exact h.2.fx
  ·exact h.2.fv
  ·exact h.2.nx
  ·exact h.2.nu k hk
theorem SO.lt:∀{o:Vo},SO w0 base w S Q M n t f i xs o b->∀k,dp xs o k->k<w.heap.size
 |none,h,k,hk=>by
  have e:k=xs:=hk;subst e;exact(SN.dF h).lt
 |some (v,x,u,l),h,k,hk=>by
  rcases(show k=xs\/k=v\/k=x\/u.ownBlock=some k from hk)with rfl|rfl|rfl|hk
  ·exact h.2.dF.lt
  ·exact h.2.vw.lt
  ·exact h.2.ix.1.lt
  ·exact(h.2.ix.2.1.block hk).2
theorem SO.cells:∀{o:Vo},SO w0 base w S Q M n t f i xs o b->∀k,dp xs o k->w0.heap.size<=k/\∃ty cs,af w k ty cs/\(ty=98\/ty=111\/ty=163\/ty=28)
 |none,h,k,hk=>by
  have e:k=xs:=hk;subst e;exact⟨SN.lx h,_,_,SN.dF h,.inl rfl⟩
 |some (v,x,u,l),h,k,hk=>by
  rcases(show k=xs\/k=v\/k=x\/u.ownBlock=some k from hk)with rfl|rfl|rfl|hk
  ·exact⟨h.2.lx,_,_,h.2.dF,.inl rfl⟩
  ·exact⟨h.2.lv,_,_,h.2.vw,.inr (.inl rfl)⟩
  ·exact⟨h.2.li,_,_,h.2.ix.1,cu (.inl rfl)⟩
  ·obtain⟨cs,hc⟩:=h.2.ix.2.1.heap hk;exact⟨h.2.lu k hk,_,cs,hc,dS rfl⟩
theorem SO.kE (h:SO w0 base w S Q M n t f i xs o b) {k:Nat}{ty:TypeId}{cs:Array Value}(hb:af w k ty cs) (h1:ty≠98) (h2:ty≠111) (h3:ty≠163) (h4:ty≠28):¬dp xs o k:=fun hk=>by
 obtain⟨_,ty',kL,hc,ht⟩:=h.cells k hk;rcases ht with rfl|rfl|rfl|rfl
 ·exact hb.aU hc h1 rfl
 ·exact hb.aU hc h2 rfl
 ·exact hb.aU hc h3 rfl
 ·exact hb.aU hc h4 rfl
theorem SO.turn:∀{o:Vo},SO w0 base w S Q M n t f i xs o b->cn w0 base w' S' Q' M' n' t' f'->S'.s=S.s->Fr R w w'->(∀k,dp xs o k->¬R k)->(∀k,S'.aB Q' k->S.aB Q k\/w.heap.size<=k)->n<=n'->(i∈Q'.ids<->i∈Q.ids)->(∀e∈Q'.l i,e∈Q.l i\/pI n' e)->SO w0 base w' S' Q' M' n' t' f' i xs o b
 |none,h,bT,hS,hf,hR,_,_,hq,_=>{st:=bT,dF:=by rw [hS];exact hf.ai (SN.dF h) (hR _ rfl),bx:=SN.bx h,lx:=SN.lx h,ib:=SN.ib h,hi:=fun hh=>SN.hi h (hq.1 hh)}
 |some (_,_,_,_),h,bT,hS,hf,hR,mv,hn,hq,he=>⟨h.1,h.2.turn bT hS hf (fun k hk=>hR k hk) mv hn (hq.2 h.2.hi) fun e h'=>(he e h').elim (fun h''=>(h.2.ev e h'').up hn) id⟩
theorem SO.new (h:SO w0 base w S Q M n t f i xs o b) (hn:ae w w'):SO w0 base w' S Q M n t f i xs o b:=
 h.turn (h.st.more hn) rfl hn (fun _ _ h=>h) (fun _ h=>.inl h) (gq _) ou fun _ h=>.inl h
theorem SO.apart (h:SO w0 base w S Q M n t f i xs o b) (hf:Fr R w w')
 (hR:∀k,R k->k<w.heap.size->base<=k/\w0.heap.size<=k/\∃cs,af w k 50 cs\/af w k 53 cs\/af w k 108 cs):SO w0 base w' S Q M n t f i xs o b:=by
 have vU:Fr (fun k=>R k/\k<w.heap.size) w w':=hf.mono fun k hl hk=>⟨hk,hl⟩
 have hm:∀k,dp xs o k->¬(R k/\k<w.heap.size):=fun k hk hr=>by
  obtain⟨_,_,cs,hc|hc|hc⟩:=hR k hr.1 hr.2
  ·exact h.kE hc D_ D_ D_ D_ hk
  ·exact h.kE hc D_ D_ D_ D_ hk
  ·exact h.kE hc D_ D_ D_ D_ hk
 refine h.turn (h.st.du vU (fun k hk hr=>?_) (fun vv ll ho b hb hr=>?_) fun k hr=>(hR k hr.1 hr.2).2.1) rfl vU hm (fun _ h=>.inl h) (gq _) ou fun _ h=>.inl h
 ·obtain⟨hb,_,cs,hc|hc|hc⟩:=hR k hr.1 hr.2
  ·exact h.st.aX hc hb D_ D_ D_ D_ D_ D_ hk
  ·exact h.st.aX hc hb D_ D_ D_ D_ D_ D_ hk
  ·exact h.st.aX hc hb D_ D_ D_ D_ D_ D_ hk
 ·obtain⟨cs,hc⟩:=ho.heap hb;obtain⟨_,_,kL,rH|rH|rH⟩:=hR b hr.1 hr.2
  ·exact absurd rfl (hc.aU rH D_)
  ·exact absurd rfl (hc.aU rH D_)
  ·exact absurd rfl (hc.aU rH D_)
theorem dJ.refl (hn:ae W W'):dJ W W' S Q n i xs o 0 0 R S Q n o where
 s:=rfl
 cap:=rfl
 tt:=⟨rfl,rfl⟩
 fr:=ae.to hn
 gr:=fun _ h=>.inl h
 mg:=fun _ h=>.inl h
 nn:=O_
 yO:=fun j _=>⟨ou,[],S_,S_,S_⟩
 own:=O_
theorem dJ.trans (h:dJ W W' S Q n i xs o m d R S' Q' n' o') (k:dJ W' W'' S' Q' n' i xs o' m' d' R' S'' Gm n'' Xk) (hR:∀k,R' k->R k\/W.heap.size<=k):dJ W W'' S Q n i xs o (m+m') (d+d') R S'' Gm n'' Xk where
 s:=k.s.trans h.s
 cap:=k.cap.trans h.cap
 tt:=⟨k.tt.1.trans h.tt.1,k.tt.2.trans h.tt.2⟩
 fr:=Fr.trans' h.fr k.fr fun j hj hk=>by
  rcases hk with hk|hk|hk
  ·rcases h.gr j hk with h1|h1
   ·exact .inl h1
   ·omega
  ·rcases h.mg j hk with h1|h1
   ·exact .inr (.inl h1)
   ·omega
  ·rcases hR j hk with h1|h1
   ·exact .inr (.inr h1)
   ·omega
 gr:=fun j hj=>by
  rcases k.gr j hj with h1|h1
  ·exact h.gr j h1
  ·exact .inr (gy h.fr.size h1)
 mg:=fun j hj=>by
  rcases k.mg j hj with h1|h1
  ·exact h.mg j h1
  ·exact .inr (gy h.fr.size h1)
 nn:=by have:=h.nn;have:=k.nn;omega
 yO:=fun j hj=>by
  obtain⟨a1,L,a2,a3,a4⟩:=h.yO j hj;obtain⟨b1,K,b2,b3,b4⟩:=k.yO j hj;refine⟨b1.trans a1,L++K,by rw [b2,a2,zi],by rw [dr];omega,fun e he=>(List.mem_append.1 he).elim (fun h'=>(a4 e h').up k.nn.1) (b4 e)⟩
 own:=by have:=h.own;have:=k.own;omega
theorem dJ.xE (h:dJ W W' S Q n i xs o m d R S' Q' n' o') (hm:m<=m') (hd:d<=d') (hR:∀k,k<W.heap.size->R k->R' k):dJ W W' S Q n i xs o m' d' R' S' Q' n' o':=
 {h with
  fr:=h.fr.mono fun k hl hk=>hk.imp id fun hk=>hk.imp id (hR k hl)
  nn:=by have:=h.nn;omega
  yO:=fun j hj=>by
   obtain⟨a1,L,a2,a3,a4⟩:=h.yO j hj;exact⟨a1,L,a2,O_,a4⟩
  own:=by have:=h.own;omega}
theorem dJ.B6 {v x:Nat}{u u' v':Value}{l l':List Int}{L:List Ev}(hv:∀g,v'.ownBlock=some g->W.heap.size<=g) (hf:Fr (fun k=>S.aB Q k\/k=v\/k=x\/u.ownBlock=some k\/R k) W W') (bT:cM W u u') (hL:L.length<=(Q.l i).length):
 dJ W W' S Q n i xs (some (v,x,u,l)) 0 0 R S (Q.xU i v' L) n (some (v,x,u',l')) where
 s:=rfl
 cap:=rfl
 tt:=⟨rfl,rfl⟩
 fr:=hf.mono fun k _ hk=>by
  rcases hk with e|e|e|e|e
  ·exact .inl e
  ·exact .inr (.inl (.inr (.inl e)))
  ·exact .inr (.inl (cu (.inl e)))
  ·exact .inr (.inl (dS e))
  ·exact .inr (.inr e)
 gr:=fun k hk=>Sx.mJ hv hk
 mg:=fun k hk=>by
  rcases(show k=xs\/k=v\/k=x\/u'.ownBlock=some k from hk)with e|e|e|e
  ·exact .inl (.inl e)
  ·exact .inl (.inr (.inl e))
  ·exact .inl (cu (.inl e))
  ·rcases bT with e1|⟨b,e1,e2⟩
   ·rw [e1]at e;exact .inl (dS e)
   ·rw [e1]at e;injection e with e;exact .inr O_
 nn:=O_
 yO:=fun j hj=>⟨ou,[],by simp [Qs.xU,hj],S_,S_⟩
 own:=by
  show(if i=i then _ else _:List Ev).length<=_
  rw [if_pos rfl];omega
theorem dJ.side (hf:Fr R W W'):dJ W W' S Q n i xs o 0 0 R S Q n o:=
 {dJ.refl (Fr.refl _ W:ae W W) (R:=R) (S:=S) (Q:=Q) (n:=n) (i:=i) (xs:=xs) (o:=o)with
  fr:=hf.mono fun _ _ hk=>.inr (.inr hk)}
theorem GI.ops {v x:Nat}{u:Value}{l:List Int}{j:Nat}(h:GI w0 base v x u S Q M n t f j Q' M' W W') (hj:j<=m):dJ W W' S Q n i xs (some (v,x,u,l)) m 0 R S Q' n (some (v,x,u,l)) where
 s:=rfl
 cap:=rfl
 tt:=⟨rfl,rfl⟩
 fr:=h.fr.mono fun _ _ hk=>.inl hk
 gr:=h.gr
 mg:=fun _ hk=>.inl hk
 nn:=O_
 yO:=fun j' _=>by
  obtain⟨L,a1,a2,a3⟩:=h.ev j';refine⟨by rw [h.ids],L,a1,O_,fun e he=>?_⟩;obtain⟨k1,k2,k3⟩:=a3 e he;exact⟨O_,k2,O_⟩
 own:=by
  obtain⟨L,a1,a2,a3⟩:=h.ev i;rw [a1,dr];omega
end
def Fk(o:Vo) (r:cV):Prop:=Tq r\/∃v x u l,o=some (v,x,u,l)/\Fh l r
theorem Rx{l l':List Int}(h:l <+:l') {p z:Int}(ha:jQ l p=(z,true)):jQ l' p=(z,true):=by
 obtain⟨t,rfl⟩:=h;unfold jQ at ha⊢
 split at ha
 ·rename_i hp
  have hi:(p-1).toNat<l.length:=O_
  rw [if_pos (by rw [dr];omega),Ox hi];exact ha
 ·cases(vt _ _ _ _▸ha).2
theorem Fh.up {l l':List Int}(h:l <+:l') {r:cV}(hr:Fh l r):Fh l' r:=⟨hr.1,fun hi=>Rx h (hr.2 hi)⟩
def Ts(w0:World) (base:Nat) (W W':World) (S:Sx) (Q:Qs) (n f:Int) (i:Int) (xs:Nat) (o:Vo) (bs OB:Nat) (vo:Value) (lo:List cV) (e:Ending):Prop:=
 ∃st tx i_ iR S' Q' M' n' t' o' d',e=.returned (.agg #[I_ st,T_ tx])/\((0<=st/\st<=2)/\tx.size<=300)/\fU bs OB i_ iR W'/\SO w0 base W' S' Q' M' n' t' f i xs o' d'/\
  dJ W W' S Q n i xs o 5000 1 (fun k=>k=OB\/vo.ownBlock=some k) S' Q' n' o'/\(∀r∈iR,r∈lo\/Fk o' r)/\iR.length+2*(Q'.l i).length<=lo.length+2*(Q.l i).length+200000
section
variable{w0 w w':World}{base:Nat}{S:Sx}{Q:Qs}{M:List bU}{n t f:Int}{i:Int}{xs v x:Nat}{u:Value}{l:List Int}{o:Vo}
theorem cn.state (h:cn w0 base w S Q M n t f) {cs:Array Value}(hs:af w xs 98 cs) (nf:base<=xs) (hlx:w0.heap.size<=xs) (hf:One xs w w'):cn w0 base w' S Q M n t f:=
 h.IP hf hs nf hlx D_ D_ D_ D_ D_ D_ D_
theorem IY(H0:SV w0 base w S Q M n t f i xs v x u l):
 H_ 90 #[Q_ xs] w fun e w'=>e=.returned (.tuple #[])/\SN w0 base w' S (Q.rm i) M n t f i xs false/\Fr (fun k=>S.aB Q k\/k=xs) w w':=by
 obtain⟨k0,k1,k2,k3⟩:=H0.dF.rQ;have oR:=H0.ib;have uP:=H0.fx;have hs:=H0.dF;have nV:=And.intro H0.bx H0.lx;have HU:=ac5 (fun W (hn:ae w W)=>Fj (H0.st.more hn) i O_ O_ H0.hi);clear H0
 go_enter func90,ntmps90
 go_wp2_with fail
 go_region_held3 (fun W=>L_ W xs 0 (Q_ S.s)/\L_ W xs 1 (I_ i)) (first|go_keep|(refine⟨?_,?_⟩<;>assumption)) ((first
  |(go_at_call 125
    refine(HU.out _ N_).mono ?_;rintro e w2 ⟨rfl,nQ,f2⟩;have F2:Fr (S.aB Q) w w2:=Fr.trans (ae.to N_) f2;have fW:=F2.ai hs uP;have p0:=fW.k0;have p1:=fW.k1;have p2:=fW.k2;have z2:=fW.frozen 2;have iI:=ac5 nQ;have iw:=ac5 F2;clear nQ f2 F2)
  |fail))
 go_wp2;go_end0;have o3:One xs w2 (w2.setCell (C_ xs 2) (.pointer none)):=(One.refl xs w2).set 2 _;exact⟨rfl,{st:=iI.out.state fW nV.1 nV.2 o3,dF:=fW.al 2 _,bx:=nV.1,lx:=nV.2,ib:=oR,hi:=Qs.Z' Q i},Fr.trans (iw.out.mono fun _ _ h=>.inl h) (o3.mono fun _ _ h=>.inr h)⟩
theorem Qs.aab {n:Int}{j:Int}(hj:j≠i):(j∈(Q.rm i).ids<->j∈Q.ids)/\∃L,(Q.rm i).l j=Q.l j++L/\L.length<=0/\∀e∈L,pI n e:=⟨Qs.aaa hj,[],by simp [Qs.rm],S_,S_⟩
theorem sV(H:SO w0 base w S Q M n t f i xs o false):
 H_ 90 #[Q_ xs] w fun e w'=>e=.returned (.tuple #[])/\∃Q',SN w0 base w' S Q' M n t f i xs false/\dJ w w' S Q n i xs o 0 0 (fun _=>False) S Q' n none/\Q'.ids.length<=Q.ids.length:=by
 rcases o with _|⟨v,x,u,l⟩
 ·have h:SN w0 base w S Q M n t f i xs false:=H;have oR:=h.ib;refine(IV h.st h.dF O_ O_ h.hi).mono ?_;rintro e w' ⟨rfl,hs,ho⟩;exact⟨rfl,Q,{h with st:=h.st.state h.dF h.bx h.lx ho,dF:=hs},{s:=rfl,cap:=rfl,tt:=⟨rfl,rfl⟩,fr:=ho.mono fun k _ e=>.inr (.inl e),gr:=fun _ h=>.inl h,mg:=fun _ h=>.inl h,nn:=O_,yO:=fun j _=>⟨ou,[],S_,S_,S_⟩,own:=by omega},aA _⟩
 ·refine(IY H.2).mono ?_;rintro e w' ⟨rfl,hs,hf⟩;refine⟨rfl,Q.rm i,hs,{s:=rfl,cap:=rfl,tt:=⟨rfl,rfl⟩,fr:=hf.mono fun k _ hk=>hk.elim .inl fun e=>.inr (.inl (.inl e)),gr:=fun k hk=>.inl (Sx.uX hk),mg:=fun k hk=>.inl (.inl hk),nn:=O_,yO:=fun j hj=>Qs.aab hj,own:=by simp [Qs.rm]},cR _ _⟩
theorem rp(H:SO w0 base w S Q M n t f i xs o false) (gone:Bool) (hn:n<=50000) (hl:∀j∈Q.ids,(Q.l j).length<=99000000):
 H_ 88 #[Q_ xs,R_ gone] w fun e w'=>∃r lo,e=.returned r/\Own cG 53 w.heap.size w' r lo/\(∀r∈lo,Tq r/\bF w.heap.size w' r)/\lo.length<=198000001/\
  ∃Q' o',SO w0 base w' S Q' M n t f i xs o' false/\dJ w w' S Q n i xs o 0 0 (fun _=>False) S Q' n o'/\Q'.ids=Q.ids/\lo.length+2*(Q'.l i).length<=2*(Q.l i).length+1:=by
 rcases o with _|⟨v,x,u,l⟩
 ·refine(vO _ _ _ _ gone _ (SN.dF H)).mono ?_;rintro e w' ⟨rfl,rfl⟩;exact⟨_,[],rfl,Own.nil _ _ _ _,S_,S_,Q,none,H,dJ.refl (ae.refl _),rfl,S_⟩
 ·have hi:=hl i H.2.hi;refine(xC H.2 gone hn O_).mono ?_;rintro e w' ⟨r,lo,rfl,cl,hp,fi,v',u',l',hV,xR,hf,bT,_⟩;refine⟨r,lo,rfl,cl,hp,O_,_,some (v,x,u',l'),⟨rfl,hV⟩,?_,rfl,by rw [Qs.xB];exact fi⟩
  exact dJ.B6 xR (hf.mono fun k _ hk=>by
   rcases hk with e|e|e|e
   ·exact .inl e
   ·exact .inr (.inl e)
   ·exact cu (.inl e)
   ·exact dS (.inl e)) bT (cR _ _)
end
end Go.Proofs.YtliimglbbiebiaaGreatDoor
