import Derived.Test.YtliimglbbiebiaaGreatDoorGTopTimeAP
set_option maxRecDepth 100000
set_option maxHeartbeats 6400000
set_option linter.all false
namespace Go.Proofs.YtliimglbbiebiaaGreatDoor
open Go.Proofs.Tryz Go.RowKit Go.Maps
theorem Rd.PG {w:World}{A:Option Addr}{n c:Nat}{l:List Int}(h:Rd (ak .u8) w (X_ A n c) l) {k:Nat}{x:Int}(hx:l[k]? =some x):∃b off,A=some ⟨b,off,none⟩/\L_ w b (off+k) (B_ x):=by
 obtain⟨_,_,e,_,hc⟩:=h
 cases e
 obtain⟨b,off,rfl,uJ⟩:=hc (by rintro rfl;simp at hx);have:=uJ k x hx 0 (B_ x) rfl;rw [show(ak .u8).sz=1 from rfl,RZ,Au]at this;exact⟨b,off,rfl,this⟩
theorem Hj(A A':Option Addr) (n n' c c':Nat) (l l':List Int) (w:World) (h:Rd (ak .u8) w (X_ A n c) l) (h':Rd (ak .u8) w (X_ A' n' c') l') (hl:l.length<=100000) (Ln:l'.length<=100000):
 H_ 403 #[X_ A n c,X_ A' n' c'] w fun e w'=>(∃b,e=.returned (R_ b))/\ae w w':=by
 have H:=ac5 (And.intro h h');obtain⟨_,_,e,_⟩:=h
 cases e
 obtain⟨_,_,e,_⟩:=h'
 cases e
 have hmx:l.length<=9223372036854775806:=O_
 by_cases gK:l.length=l'.length
 ·go_enter func403,ntmps403
  go_wp2_with fail
  go_loopw [13] (fun iv wr=>∃k:Nat,k<=l.length/\iv=I_ k/\ae w wr) (fun iv _=>l.length-(intOf iv).toNat)
  case atStart=>exact⟨0,Gv _,rfl,ae.refl _⟩
  case round=>
   obtain⟨k,hk,rfl,hn⟩:=hrel;by_cases dL:k<l.length
   ·obtain⟨x,hx⟩:∃x,l[k]? =some x:=⟨_,DW dL⟩;obtain⟨y,hy⟩:∃y,l'[k]? =some y:=⟨_,DW O_⟩;obtain⟨b,off,rfl,c0⟩:=(H.out.1.new hn).PG hx;obtain⟨b',ug,rfl,c1⟩:=(H.out.2.new hn).PG hy;have U':(k:Int)<l.length:=O_
    have apX:(k:Int)<l'.length:=O_
    have hkl4:k<l'.length:=O_
    clear hx hy;rcases NV:(x !=y)with _|_
    ·go_wp2_with fail
     go_quiet (fail)
     go_wp2;go_roundw
     case rel=>exact⟨k+1,O_,by go_num,hn.drewN _⟩
     case measure=>simp [intOf];omega
    ·go_wp2_with fail
     go_quiet (fail)
     go_wp2;go_ret;exact⟨⟨_,rfl⟩,hn.drewN _⟩
   ·obtain rfl:k=l.length:=O_
    go_wp2;go_ret;exact⟨⟨_,rfl⟩,hn⟩
 ·have d0:((l.length:Int) !=(l'.length:Int))=true:=by simp;omega
  go_enter func403,ntmps403
  go_wp2;go_ret;exact⟨⟨_,rfl⟩,ae.refl _⟩
theorem LQ(k k' n n' st DG it DH f f' u u' s s':Int) (t t' x x':ByteArray) (A A':Option Addr) (m m' c c':Nat) (l l':List Int) (w:World) (h:Rd (ak .u8) w (X_ A m c) l) (h':Rd (ak .u8) w (X_ A' m' c') l') (hl:l.length<=100000) (Ln:l'.length<=100000):
 H_ 356 #[rV k n t st x it f u s (X_ A m c),rV k' n' t' DG x' DH f' u' s' (X_ A' m' c')] w fun e w'=>(∃b,e=.returned (R_ b))/\ae w w':=by
 have HE:=ac5 (fun(W:World) (hn:ae w W)=>Hj A A' m m' c c' l l' W (h.new hn) (h'.new hn) hl Ln);have n0:∀o1 o2,ae w ((w.alloc o1).alloc o2):=fun _ _=>((ae.refl w).alloc _).alloc _;clear h h';rcases hk:(k==k')with _|_
 ·go_enter func356,ntmps356
  go_wp2_with fail
  go_ret;exact⟨⟨_,rfl⟩,n0 _ _⟩
 rcases hn:(n==n')with _|_
 ·go_enter func356,ntmps356
  go_wp2_with fail
  go_ret;exact⟨⟨_,rfl⟩,n0 _ _⟩
 rcases ht:(t.toList==t'.toList)with _|_
 ·go_enter func356,ntmps356
  go_wp2_with fail
  go_ret;exact⟨⟨_,rfl⟩,n0 _ _⟩
 rcases bT:(st==DG)with _|_
 ·go_enter func356,ntmps356
  go_wp2_with fail
  go_ret;exact⟨⟨_,rfl⟩,n0 _ _⟩
 rcases hx:(x.toList==x'.toList)with _|_
 ·go_enter func356,ntmps356
  go_wp2_with fail
  go_ret;exact⟨⟨_,rfl⟩,n0 _ _⟩
 rcases hit:(it==DH)with _|_
 ·go_enter func356,ntmps356
  go_wp2_with fail
  go_ret;exact⟨⟨_,rfl⟩,n0 _ _⟩
 rcases hf:(f==f')with _|_
 ·go_enter func356,ntmps356
  go_wp2_with fail
  go_ret;exact⟨⟨_,rfl⟩,n0 _ _⟩
 rcases hu:(u==u')with _|_
 ·go_enter func356,ntmps356
  go_wp2_with fail
  go_ret;exact⟨⟨_,rfl⟩,n0 _ _⟩
 rcases hs:(s==s')with _|_
 ·go_enter func356,ntmps356
  go_wp2_with fail
  go_ret;exact⟨⟨_,rfl⟩,n0 _ _⟩
 go_enter func356,ntmps356
 go_wp2_with fail
 refine(HE.out _ (n0 _ _)).mono ?_;rintro e w1 ⟨⟨b,rfl⟩,n1⟩;go_wp2;go_ret;exact⟨⟨_,rfl⟩,(n0 _ _).trans n1⟩
end Go.Proofs.YtliimglbbiebiaaGreatDoor
