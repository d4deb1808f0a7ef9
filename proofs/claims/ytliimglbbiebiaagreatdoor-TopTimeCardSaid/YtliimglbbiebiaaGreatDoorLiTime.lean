import Derived.Test.YtliimglbbiebiaaGreatDoorGTopTimeBG
import Derived.Deep.Matrix
import Derived.ProofKit
import Derived.OpenShut
import Derived.ChangeOld
import Derived.Below
set_option maxRecDepth 100000
set_option maxHeartbeats 6400000
namespace Go.Proofs.YtliimglbbiebiaaGreatDoor
open Go.ChangeShapes Go.WideShapes Go.ChangeAt Go.RowKit Go.Deep
theorem iface_of{W:World}{name:String}{g:Nat}{t:TypeId}{m:_}{s:String}{x:DataW Unit}(hg:Tryz.prog.globalNamed name=some g) (E7:(Tryz.prog.globals[g]?).map (·.type)=some t) (hu:Tryz.prog.underlying t=some (.interface m))
 (h:Lib.VarReads Tryz.prog W name (.iface s x)):∃ev,W.cell? ⟨g,0,none⟩=some ev/\(ev=.nilIface\/∃te pe,ev=.iface te pe):=by
 obtain⟨g',t',cs,fuel,p,hg',Jr,hvar,hd⟩:=h;obtain rfl:=Option.some.inj (hg.symm.trans hg');obtain rfl:=Option.some.inj (E7.symm.trans Jr)
 have hc:∃u v,cs.toList=[.iface u v]:=by
  cases fuel with
  |zero=>simp [DataW.trod]at hd
  |succ f=>
   unfold DataW.trod at hd;rw [hu]at hd
   split at hd<;>first|exact⟨_,_,by assumption⟩|(simp_all;done)|cases hd
 obtain⟨u,v,hc⟩:=hc;refine⟨.iface u v,?_,.inr ⟨u,v,rfl⟩⟩;unfold World.var? at hvar;rw [hg]at hvar;simp only [Option.bind_some]at hvar
 split at hvar
 ·rename_i kL _ _ hh
  obtain rfl:=Option.some.inj hvar;have:kL[0]? =some (.iface u v):=by rw [<-Array.getElem?_toList,hc];rfl
  simp [World.cell?,hh,this]
 ·cases hvar
theorem errs_of{W:World}(hL:laidMetH Tryz.prog laid9 W) (hS:W.ShapedOpen Tryz.prog):fG W:=by
 have ht:=tabs_of hL hS;rw [MakeChecks.laidMetH_plain _ _ _ (by kernel_rfl)]at hL;exact⟨ht,iface_of (by kernel_rfl) (by kernel_rfl) Tryz.underlying370 (Lib.laidMet.reads hL (n:= "strconv.ErrSyntax") (d:=Rows.laid_strconv_ErrSyntax) (by simp [laid9])),iface_of (by kernel_rfl) (by kernel_rfl) Tryz.underlying370 (Lib.laidMet.reads hL (n:= "strconv.ErrRange") (d:=Rows.laid_strconv_ErrRange) (by simp [laid9]))⟩
def bytesU(l:List Int):List UInt8:=l.map fun z=>UInt8.ofNat z.toNat
theorem bytesU_len(l:List Int):(bytesU l).length=l.length:=by simp [bytesU]
theorem nums_bytesU{l:List Int}(h:∀y∈l,(Lit.int .u8 y).wf=true):nums (bytesU l)=l:=by
 unfold nums bytesU;rw [List.map_map]
 conv=>rhs;rw [<-List.map_id l]
 refine List.map_congr_left fun y hy=>?_;have hb:=bounds_u8 (h y hy)
 show(((UInt8.ofNat y.toNat).toNat:Nat):Int)=y
 rw [UInt8.toNat_ofNat'];omega
theorem open_stms{H:Type}{enc:TypeId×Value->H}{W:World}{base:Nat}{v:Value}{d:DataW H}{p:List MemPlace}
 (hv:Value.okWide Tryz.prog W .any base 22 v) (h:DataW.Trod enc Tryz.prog W 0 (fun _=>true) true 22 v d p):
 ∃(A:Option Addr) (c:Nat) (L:List xX),v=.slice A L.length c/\Rd NC W (.slice A L.length c) L/\(∀y∈L,Rd (ak .u8) W (.slice y.A y.l.length y.c) (nums y.l)/\y.l.length<=9223372036854775807)/\L.length<=9223372036854775807:=by
 obtain⟨a0,len0,cap0,rfl⟩:=okWide_slice Tryz.underlying22 hv;obtain⟨fuel,hf⟩:=h;rcases open_int_rows Tryz.underlying22 Tryz.underlying23 Tryz.underlying5 (by kernel_rfl) (by kernel_rfl) hf with⟨cK,_⟩|⟨a,len,cap,A,L,C,Z,cK,_,hl,hm,_,hr⟩
 ·simp [Value.cells]at cK;obtain⟨rfl,rfl,rfl⟩:=cK;exact⟨none,0,[],rfl,Rd.nil _ _,by simp,by simp⟩
 ·simp [Value.cells]at cK;obtain⟨rfl,rfl,rfl⟩:=cK;obtain⟨b,off,s⟩:=a
  let g:Nat->xX:=fun r=>⟨A r,C r,bytesU ((Z r).take (L r))⟩
  have zM:∀r,r<cap0->(g r).l.length=L r:=fun r hrc=>by
   obtain⟨_,h2,_,h4,_⟩:=hr r hrc
   show(bytesU ((Z r).take (L r))).length=L r
   rw [bytesU_len,List.length_take];omega
  have uL:((List.range len0).map g).length=len0:=by simp
  refine⟨some ⟨b,off,s⟩,cap0,(List.range len0).map g,by rw [uL],⟨some ⟨b,off,s⟩,cap0,rfl,by rw [uL];exact hl,fun bV=>?_⟩,fun y hy=>?_,by have e:maxLen=9223372036854775807:=rfl;rw [uL];omega⟩
  ·have hlen:0<len0:=by
    rcases Nat.eq_zero_or_pos len0 with h0|h0
    ·subst h0;simp at bV
    ·exact h0
   obtain rfl:=spot_none0 (hr 0 (by omega)).1;refine⟨b,off,rfl,fun i x hx j u hu=>?_⟩
   have NR:i<len0:=by
    have:=(List.getElem?_eq_some_iff.1 hx).1
    rwa [uL]at this
   rw [List.getElem?_map,List.getElem?_range NR]at hx;simp only [Option.map_some,Option.some.injEq]at hx;subst hx;have h0:=(hr i (by omega)).1;rw [Addr.add_lit]at h0
   have hj:j=0:=by
    have:=(List.getElem?_eq_some_iff.1 hu).1;simp [NC,cr.Li]at this;exact this
   subst hj;simp [NC,cr.Li]at hu;subst hu
   show W.cell? ⟨b,off+(i*1+0),none⟩=some (.slice (A i) (g i).l.length (C i))
   rw [Nat.mul_one,Nat.add_zero,h0,zM i (by omega)]
  ·obtain⟨r,ic,rfl⟩:=List.mem_map.1 hy;have hrl:=List.mem_range.1 ic;obtain⟨h0,h1,h2,h3,h4,h5,h6⟩:=hr r (by omega);have hgr:=zM r (by omega);have hz:nums (bytesU ((Z r).take (L r)))=(Z r).take (L r):=nums_bytesU fun y hy=>h4 y (List.mem_of_mem_take hy);have hgz:(Z r).take (L r)=nums (g r).l:=hz.symm;refine⟨⟨A r,C r,by rw [aW],by rw [aW,hgr];exact h1,fun bV=>?_⟩,by have e:maxLen=9223372036854775807:=rfl;rw [hgr];omega⟩
   have hL0:0<L r:=by
    rcases Nat.eq_zero_or_pos (L r)with h7|h7
    ·exact absurd (List.eq_nil_of_length_eq_zero (by rw [aW,hgr];exact h7)) bV
    ·exact h7
   cases hA:A r with
   |none=>have:=h5 hA;omega
   |some a'=>
    obtain⟨_,h8⟩:=h6 a' hA;obtain⟨b',ug,s'⟩:=a';obtain rfl:=spot_none0 (h8 0 (by omega));refine⟨b',ug,rfl,fun i x hx j u hu=>?_⟩
    have NR:i<L r:=by
     have:=(List.getElem?_eq_some_iff.1 hx).1
     rwa [aW,hgr]at this
    have h9:=h8 i (by omega);rw [Addr.add_lit]at h9
    have hj:j=0:=by
     have:=(List.getElem?_eq_some_iff.1 hu).1;simp [ak]at this;exact this
    subst hj;simp [ak]at hu;subst hu;have NY:(nums (g r).l)[i]? =some x:=hx;rw [<-hgz,List.getElem?_take,if_pos NR]at NY
    show W.cell? ⟨b',ug+(i*1+0),none⟩=_
    rw [Nat.mul_one,Nat.add_zero,h9];simp [List.getD,NY]
end Go.Proofs.YtliimglbbiebiaaGreatDoor
namespace Go.Proofs.YtliimglbbiebiaaGreatDoor.topTime
open Go.ChangeShapes Go.WideShapes Go.ChangeAt Go.RowKit
theorem lifted(os:Os) (started:os.Started) (H:Type) (enc:TypeId×Value->H):
 ReturnsInHanded {} Tryz.checked os 3 .any (fun w args=>(Rows.topTimeSpec.pre enc Tryz.prog Tryz.f3 [] false w args/\laidMetH Tryz.prog laid9 w)/\sizedMet enc Tryz.prog Tryz.f3 (OpenSpec.ofChange Rows.topTimeSpec) false w args)
  (Rows.topTimeSpec.post enc Tryz.prog Tryz.f3 false true false false):=by
 refine returns_and_shaped (C:=Tryz.checked) (X:=fun w _=>laidMetH Tryz.prog laid9 w) (fun _ _ _ hh h=>h.of_heap hh) row_own started (by kernel_rfl) Tryz.func3
  (ChangeSpec.witness_shaped (enc:=enc) (C:=Tryz.checked) (os:=os) (X:=fun w _=>laidMetH Tryz.prog laid9 w) false (World.laidAll Tryz.prog os laid9) #[.slice none 0 0,.slice none 0 0] 8 (World.laidAll_os _ _ _)
    (World.shaped_of_ZipB (by kernel_rfl) (by kernel_rfl)) (by kernel_rfl) (by kernel_rfl) (by kernel_rfl)
    (by rw [MakeChecks.laidMetH_plain _ _ _ (by kernel_rfl)];exact laidMet_laidAll _ (by kernel_rfl) (by kernel_rfl))) ?_
 intro W base args ds gs before hval0 hW hL hS;have hval:∀(j:Nat) t v,Tryz.f3.params[j]? =some t->args[j]? =some v->Value.okWide Tryz.prog W .any base t v:=hval0;have hW':=hW;obtain⟨p,q,hA0,hV,rfl,hfz,gT⟩:=hW;have hA:DataW.TrodAll enc Tryz.prog W 0 (fun _=>true) true Tryz.f3.params.toList args.toList ds p:=hA0;rw [Tryz.params3]at hA hval;obtain⟨v0,vs0,d0,ds0,p0,q0,hargs,rfl,rfl,h0,r0⟩:=trodAll_cons hA;obtain⟨v1,vs1,d1,ds1,p1,q1,rfl,rfl,rfl,h1,r1⟩:=trodAll_cons r0;obtain⟨rfl,rfl,rfl⟩:=trodAll_nil r1;obtain rfl:args= #[v0,v1]:=by cases args;simp_all
 obtain⟨rfl,rfl⟩:=trodVars_none hV;have k0:=h0;have k1:=h1;have lt0:∀x∈p0,x.block<W.heap.size:=by obtain⟨m,hm⟩:=k0;exact DataW.trod_lt m _ _ _ hm
 have lt1:∀x∈p1,x.block<W.heap.size:=by obtain⟨m,hm⟩:=k1;exact DataW.trod_lt m _ _ _ hm
 obtain⟨A,c,L,rfl,ez,Gw,hLl⟩:=open_stms (hval 0 22 v0 rfl rfl) h0;obtain⟨⟨v1',l1⟩,rfl,e1,e2,e3⟩:=open_ints_rd Tryz.underlying23 Tryz.underlying5 (by kernel_rfl) (hval 1 23 v1 rfl rfl) h1;dsimp only at e1 e2 e3⊢;obtain⟨At,ct,rfl,_⟩:=id e1;have hz:=nums_bytesU e2;rw [<-hz,aW]at e1;clear hA0 hval0;have E7:=SM A At c ct L (bytesU l1) W (errs_of hL hS) ez (fun x hx=>(Gw x hx).1) (fun x hx=>(Gw x hx).2) hLl e1 (by rw [bytesU_len];exact e3);rw [bytesU_len]at E7;refine E7.mono fun e W' ⟨he,hn⟩=>?_;have bel:=ae.toBelow hn;subst he;exact⟨_,rfl,_,_,_,[],_,[],hW',trodAll_mk1 (shut_bool Tryz.underlying4 _),(trodAll_cons_mk (Below.trod row_laidOut (by kernel_rfl) (of_decide_eq_true (by kernel_rfl)) k0 bel lt0) (trodAll_cons_mk (Below.trod row_laidOut (by kernel_rfl) (of_decide_eq_true (by kernel_rfl)) k1 bel lt1) trodAll_mk0)),rfl,bel.frame _,fun h=>by cases h⟩
end Go.Proofs.YtliimglbbiebiaaGreatDoor.topTime
