/- A part of the proof: Sort3, Sort5, Sort6. -/
import Derived.Test.YtliimglbbiebiaaGreatDoorGTopPairsAD
import Derived.Sort.LotC
import Derived.Deep.CutBlock
import Derived.Deep.LoopGhost
import Derived.Deep.DeepCutAuto
set_option maxRecDepth 100000
set_option maxHeartbeats 6400000
section
namespace Go.Proofs.YtliimglbbiebiaaGreatDoor
open Go.RowKit Go.Sort
theorem siftDown_size (lt:Int→Int→Bool) (hi first root:Nat) (d:Array Int):(siftDown lt hi first root d).size=d.size:=by
 induction hm:hi - root using Nat.strongRecOn generalizing root d with
 | ind m ih =>
   by_cases h:hi≤2 * root + 1
   · rw [siftDown_stop' _ _ _ _ _ h]
   · have hc:root < sdChild lt hi first root d:=by unfold sdChild; split <;> omega
     have hc2:sdChild lt hi first root d < hi:=by
      unfold sdChild
      split
      · rename_i h1; simp at h1; omega
      · omega
     rw [siftDown_step' _ _ _ _ _ (by omega) rfl]
     split
     · rw [ih (hi - sdChild lt hi first root d) (by omega) _ _ rfl,swp_size]
     · rfl
theorem heap_any {te:TypeId} {base g c:Nat} {w:World} {d:Array Int} (h:SRow te base w g c d) (a b m:Nat) (hm:b=a + m) (hb:b≤d.size) (hn:d.size≤1000000) :
 Calls Tryz.prog 163 #[.slice (some ⟨g,0,none⟩) d.size c,.int .i64 a,.int .i64 b] w fun e w'=>e=.returned (.tuple #[])∧SRow te base w' g c (heapSort ltInt d a b)∧(heapSort ltInt d a b).size=d.size∧One g w w':=by
 have hbm:(b:Int) - (a:Int)=m:=by omega
 have hres:heapSort ltInt d a b=heapPop ltInt a m (heapBuild ltInt m a ((m - 1) / 2 + 1) d):=by
  unfold heapSort
  rw [show b - a=m by omega]
 rw [hres]
 have hq:IntKind.i64.wrap ((m:Int) - 1)=(m:Int) - 1:=IntWalk.i64_in _ (by omega)
 have hq2:((m:Int) - 1).tdiv 2=(((m - 1) / 2 + 1:Nat):Int) - 1:=by
  rcases Nat.eq_zero_or_pos m with rfl | hp
  · decide
  · obtain ⟨j,rfl⟩:∃ j,m=j + 1:=⟨m - 1,by omega⟩
    rw [show ((j + 1:Nat):Int) - 1=(j:Int) by omega,Int.tdiv_eq_ediv_of_nonneg (by omega)]
    simp
 have hm1:b≤a + m:=by omega
 have hm2:a + m≤b:=by omega
 obtain ⟨r,hr⟩:∃ r,r=heapPop ltInt a m (heapBuild ltInt m a ((m - 1) / 2 + 1) d):=⟨_,rfl⟩
 rw [← hr]
 have HR:=Lib.hid hr
 have hk1:(m - 1) / 2 + 1≤m + 1:=by omega
 generalize (m - 1) / 2 + 1=k1 at *
 clear hres hm hr
 go_enter Tryz.func163,Tryz.ntmps163
 go_wp2
 go_loopw [9] (fun vi wr=>∃ (k:Nat) (dk:Array Int),vi=.int .i64 ((k:Int) - 1)∧k≤k1∧dk.size=d.size∧SRow te base wr g c dk∧One g w wr∧Hid (heapBuild ltInt m a k dk=heapBuild ltInt m a k1 d)) (fun vi _=>(intOf vi + 1).toNat)
 case atStart=>exact ⟨k1,d,rfl,Nat.le_refl _,rfl,h,One.refl _ _,rfl⟩
 case round =>
  obtain ⟨k,dk,rfl,hk,hsk,hRw,hO,HE⟩:=hrel
  clear h
  rcases Nat.eq_zero_or_pos k with rfl | hkp
  · rw [show (((0:Nat):Int) - 1)=-1 from rfl]
    have hE:dk=heapBuild ltInt m a k1 d:=HE.out
    have HE2:=Lib.hid hE
    clear hE
    obtain ⟨wo,rfl⟩:∃ wo:World,wo=wr:=⟨_,rfl⟩
    go_wp2
    go_loopw [10] (fun vi wr=>∃ (k:Nat) (dj:Array Int),vi=.int .i64 ((k:Int) - 1)∧k≤m∧dj.size=d.size∧SRow te base wr g c dj∧One g w wr∧Hid (heapPop ltInt a k dj=r)) (fun vi _=>(intOf vi + 1).toNat)
    case atStart=>exact ⟨m,dk,rfl,Nat.le_refl _,hsk,hRw,hO,by show heapPop ltInt a m dk=r; rw [HE2.out,HR.out]⟩
    case round =>
     obtain ⟨k,dj,rfl,hk,hsj,hRj,hOj,HP⟩:=hrel
     clear hRw hO
     rcases Nat.eq_zero_or_pos k with rfl | hkp
     · rw [show (((0:Nat):Int) - 1)=-1 from rfl]
       have hE:dj=r:=HP.out
       subst hE
       go_wp2
       go_end0
       exact ⟨rfl,hRj,hsj,hOj⟩
     · obtain ⟨j,rfl⟩:∃ j,k=j + 1:=⟨k - 1,by omega⟩
       rw [show ((j + 1:Nat):Int) - 1=(j:Int) by omega]
       obtain ⟨x,hx⟩:∃ x,dj[a]! = x:=⟨_,rfl⟩
       obtain ⟨y,hy⟩:∃ y,dj[a + j]! = y:=⟨_,rfl⟩
       have hcx:=fun n=>(hRj.drewN n).cell (t:=a) (by omega)
       have hcy:=fun n=>(hRj.drewN n).cell (t:=a + j) (by omega)
       have hfx:=fun n=>(hRj.drewN n).frozen a
       have hfy:=fun n=>(hRj.drewN n).frozen (a + j)
       have hcx0:wr.cell? ⟨g,a,none⟩=_:=hRj.cell (t:=a) (by omega)
       have hcy0:wr.cell? ⟨g,a + j,none⟩=_:=hRj.cell (t:=a + j) (by omega)
       have hfx0:wr.frozen? ⟨g,a,none⟩=false:=hRj.frozen a
       have hfy0:wr.frozen? ⟨g,a + j,none⟩=false:=hRj.frozen (a + j)
       have hsw:=hRj.two0 a (a + j)
       have hone:=One.two0 hOj a (a + j) (.int .u32 dj[a + j]!) (.int .u32 dj[a]!)
       rw [hx] at hcx hsw hone hcx0
       rw [hy] at hcy hsw hone hcy0
       have hstep:heapPop ltInt a (j + 1) dj=heapPop ltInt a j (siftDown ltInt j a 0 (swp dj a (a + j))):=rfl
       have HST:=Lib.hid hstep
       have HSW:=Lib.hid hsw
       have HONE:=Lib.hid hone
       obtain ⟨z,hz⟩:=hRj.again a (a + j) y (by omega)
       have hzf:(wr.setCell ⟨g,a,none⟩ (.int .u32 y)).frozen? ⟨g,a + j,none⟩=false:=(hRj.one a y).frozen _
       have hs1:(a:Int) + j < d.size:=by omega
       have hs0:0≤(a:Int) + j:=by omega
       have hst:((a:Int) + j).toNat=a + j:=by omega
       have hs2:(a:Int) < d.size:=by omega
       have hs3:IntKind.i64.wrap ((a:Int) + j)=(a:Int) + j:=IntWalk.i64_in _ (by omega)
       have hc:=sift_any hsw 0 j a (by omega) (by rw [swp_size]; omega) (by rw [swp_size]; omega)
       rw [swp_size,hsj,show ((0:Nat):Int)=0 from rfl] at hc
       have HCALL:=Lib.hid hc
       have hz0:=siftDown_size ltInt j a 0 (swp dj a (a + j))
       rw [swp_size] at hz0
       have HZ0:=Lib.hid hz0
       clear hx hy hsw hone hstep hc hz0
       go_wp2_with fail
       go_region
       all_goals go_wp2_with fail
       refine HCALL.out.mono ?_
       rintro e w2 ⟨rfl,hR2,_,hO2⟩
       go_wp2
       go_roundw
       case rel=>exact ⟨j,_,by go_num,by omega,by rw [HZ0.out]; exact hsj,hR2,HONE.out.trans hO2,by show heapPop ltInt a j (siftDown ltInt j a 0 (swp dj a (a + j)))=r; rw [← HP.out,HST.out]⟩
       case measure=>simp [intOf]
  · obtain ⟨j,rfl⟩:∃ j,k=j + 1:=⟨k - 1,by omega⟩
    rw [show ((j + 1:Nat):Int) - 1=(j:Int) by omega]
    have hstep:heapBuild ltInt m a (j + 1) dk=heapBuild ltInt m a j (siftDown ltInt m a j dk):=rfl
    have hz:=siftDown_size ltInt m a j dk
    have HZ:=Lib.hid hz
    have HST:=Lib.hid hstep
    clear hstep hz
    have hc:=sift_any hRw j m a (by omega) (by omega) (by omega)
    rw [hsk] at hc
    have HCALL:=Lib.hid hc
    clear hc
    go_wp2_with fail
    refine HCALL.out.mono ?_
    rintro e w2 ⟨rfl,hR2,_,hO2⟩
    go_wp2
    go_roundw
    case rel=>exact ⟨j,_,by go_num,by omega,by rw [HZ.out]; exact hsk,hR2,hO.trans hO2,by show heapBuild ltInt m a j (siftDown ltInt m a j dk)=_; rw [← HE.out,HST.out]⟩
    case measure=>simp [intOf]
theorem reverseLoop_go (i j:Nat) (d:Array Int) (h:i < j):reverseLoop i j d=reverseLoop (i + 1) (j - 1) (swp d i j):=by
 conv=>lhs; unfold reverseLoop
 rw [if_pos h]
theorem reverseLoop_stop (i j:Nat) (d:Array Int) (h:¬ i < j):reverseLoop i j d=d:=by
 unfold reverseLoop
 rw [if_neg h]
theorem reverse_any {te:TypeId} {base g c:Nat} {w:World} {d:Array Int} (h:SRow te base w g c d) (a b:Nat) (hab:a < b) (hb:b≤d.size) (hn:d.size≤1000000) :
 Calls Tryz.prog 166 #[.slice (some ⟨g,0,none⟩) d.size c,.int .i64 a,.int .i64 b] w fun e w'=>e=.returned (.tuple #[])∧SRow te base w' g c (reverseRange d a b)∧(reverseRange d a b).size=d.size∧One g w w':=by
 obtain ⟨m,rfl⟩:∃ m,b=m + 1:=⟨b - 1,by omega⟩
 have hbm:((m + 1:Nat):Int) - 1=m:=by omega
 have hres:reverseRange d a (m + 1)=reverseLoop a m d:=rfl
 obtain ⟨r,hr⟩:∃ r,r=reverseLoop a m d:=⟨_,rfl⟩
 rw [hres,← hr]
 have HR:=Lib.hid hr
 obtain ⟨bI,hbI⟩:∃ bI:Int,bI=((m + 1:Nat):Int):=⟨_,rfl⟩
 rw [← hbI] at hbm ⊢
 have hb1:0≤bI:=by omega
 have hb2:bI≤1000001:=by omega
 clear hres hr hbI
 go_enter Tryz.func166,Tryz.ntmps166
 go_wp2
 go_loopw [6,7] (fun vi vj wr=>∃ (i j:Nat) (dk:Array Int),vi=.int .i64 i∧vj=.int .i64 j∧i≤j + 1∧j≤m∧dk.size=d.size∧SRow te base wr g c dk∧One g w wr∧Hid (reverseLoop i j dk=r)) (fun vi vj _=>(intOf vj - intOf vi).toNat)
 case atStart=>exact ⟨a,m,d,rfl,rfl,by omega,Nat.le_refl _,rfl,h,One.refl _ _,HR.out.symm⟩
 case round =>
  obtain ⟨i,j,dk,rfl,rfl,hij,hjm,hsk,hRw,hO,HE⟩:=hrel
  clear h
  by_cases hlt:i < j
  · obtain ⟨x,hx⟩:∃ x,dk[i]! = x:=⟨_,rfl⟩
    obtain ⟨y,hy⟩:∃ y,dk[j]! = y:=⟨_,rfl⟩
    have hcx0:wr.cell? ⟨g,i,none⟩=_:=hRw.cell (t:=i) (by omega)
    have hcy0:wr.cell? ⟨g,j,none⟩=_:=hRw.cell (t:=j) (by omega)
    have hfx0:wr.frozen? ⟨g,i,none⟩=false:=hRw.frozen i
    have hfy0:wr.frozen? ⟨g,j,none⟩=false:=hRw.frozen j
    have hsw:=hRw.two0 i j
    have hone:=One.two0 hO i j (.int .u32 dk[j]!) (.int .u32 dk[i]!)
    obtain ⟨z,hz⟩:=hRw.again i j dk[j]! (by omega)
    have hzf:(wr.setCell ⟨g,i,none⟩ (.int .u32 dk[j]!)).frozen? ⟨g,j,none⟩=false:=(hRw.one i dk[j]!).frozen _
    rw [hx] at hcx0 hsw hone
    rw [hy] at hcy0 hsw hone hz hzf
    have hstep:=reverseLoop_go i j dk hlt
    have HST:=Lib.hid hstep
    have HSW:=Lib.hid hsw
    have HONE:=Lib.hid hone
    clear hx hy hsw hone hstep
    go_wp2_with fail
    go_region
    all_goals go_wp2
    go_roundw
    case rel=>exact ⟨i + 1,j - 1,_,by go_num,by congr 1; omega,by omega,by omega,by rw [swp_size]; exact hsk,HSW.out,HONE.out,by show reverseLoop (i + 1) (j - 1) (swp dk i j)=r; rw [← HE.out,HST.out]⟩
    case measure=>simp [intOf]; omega
  · have hE:=HE.out
    rw [reverseLoop_stop _ _ _ hlt] at hE
    subst hE
    go_wp2
    go_end0
    exact ⟨rfl,hRw,hsk,hO⟩
end Go.Proofs.YtliimglbbiebiaaGreatDoor
end

section
namespace Go.Proofs.YtliimglbbiebiaaGreatDoor
open Go.RowKit Go.Sort
theorem scanUp_go (p:Int→Bool) (d:Array Int) (j i:Nat) (h:i≤j) (hp:p d[i]! = true):scanUp p d j i=scanUp p d j (i + 1):=by
 conv=>lhs; unfold scanUp
 rw [hp,decide_eq_true h]
 rfl
theorem scanUp_stop (p:Int→Bool) (d:Array Int) (j i:Nat) (h:¬ i≤j∨p d[i]! = false):scanUp p d j i=i:=by
 unfold scanUp
 rcases h with h | h
 · rw [decide_eq_false h]; rfl
 · rw [h,Bool.and_false]; rfl
theorem scanDown_go (p:Int→Bool) (d:Array Int) (i j:Nat) (h:i≤j) (hj:0 < j) (hp:p d[j]! = true):scanDown p d i j=scanDown p d i (j - 1):=by
 obtain ⟨k,rfl⟩:∃ k,j=k + 1:=⟨j - 1,by omega⟩
 conv=>lhs; unfold scanDown
 rw [hp,decide_eq_true h]
 rfl
theorem scanDown_stop (p:Int→Bool) (d:Array Int) (i j:Nat) (h:¬ i≤j∨p d[j]! = false):scanDown p d i j=j:=by
 cases j with
 | zero=>rfl
 | succ k =>
   unfold scanDown
   rcases h with h | h
   · rw [decide_eq_false h]; rfl
   · rw [h,Bool.and_false]; rfl
theorem parteq_any {te:TypeId} {base g c:Nat} {w:World} {d:Array Int} (h:SRow te base w g c d) (a b pv:Nat) (ha:a≤pv) (hp:pv < b) (hb:b≤d.size) (hn:d.size≤1000000) :
 Calls Tryz.prog 169 #[.slice (some ⟨g,0,none⟩) d.size c,.int .i64 a,.int .i64 b,.int .i64 pv] w fun e w'=>e=.returned (.int .i64 (partitionEqual ltInt d a b pv).1)∧SRow te base w' g c (partitionEqual ltInt d a b pv).2∧(partitionEqual ltInt d a b pv).2.size=d.size∧One g w w':=by
 obtain ⟨m,rfl⟩:∃ m,b=m + 1:=⟨b - 1,by omega⟩
 have hbm:((m + 1:Nat):Int) - 1=m:=by omega
 have hres:partitionEqual ltInt d a (m + 1) pv=partEqLoop ltInt a (a + 1) m (swp d a pv):=rfl
 obtain ⟨r,hr⟩:∃ r,r=partEqLoop ltInt a (a + 1) m (swp d a pv):=⟨_,rfl⟩
 rw [hres,← hr]
 have HR:=Lib.hid hr
 obtain ⟨bI,hbI⟩:∃ bI:Int,bI=((m + 1:Nat):Int):=⟨_,rfl⟩
 rw [← hbI] at hbm ⊢
 have hb1:0≤bI:=by omega
 have hb2:bI≤1000001:=by omega
 have hone0:=One.refl g w
 have hap:(a:Int) < d.size:=by omega
 have hpp:(pv:Int) < d.size:=by omega
 clear hres hr hbI
 obtain ⟨x1,hx1⟩:∃ x,d[a]! = x:=⟨_,rfl⟩
 obtain ⟨y1,hy1⟩:∃ y,d[pv]! = y:=⟨_,rfl⟩
 have hcx0:w.cell? ⟨g,a,none⟩=_:=h.cell (t:=a) (by omega)
 have hcy0:w.cell? ⟨g,pv,none⟩=_:=h.cell (t:=pv) (by omega)
 have hfx0:w.frozen? ⟨g,a,none⟩=false:=h.frozen a
 have hfy0:w.frozen? ⟨g,pv,none⟩=false:=h.frozen pv
 have hsw:=h.two0 a pv
 have hone:=One.two0 hone0 a pv (.int .u32 d[pv]!) (.int .u32 d[a]!)
 obtain ⟨z,hz⟩:=h.again a pv d[pv]! (by omega)
 have hzf:(w.setCell ⟨g,a,none⟩ (.int .u32 d[pv]!)).frozen? ⟨g,pv,none⟩=false:=(h.one a d[pv]!).frozen _
 rw [hx1] at hcx0 hsw hone
 rw [hy1] at hcy0 hsw hone hz hzf
 have HSW:=Lib.hid hsw
 have HONE:=Lib.hid hone
 have HX1:=Lib.hid hx1
 have HY1:=Lib.hid hy1
 clear hx1 hy1 hsw hone
 go_enter Tryz.func169,Tryz.ntmps169
 go_wp2_with fail
 go_region
 all_goals go_wp2
 go_loopg [9,10] (m + 1 - a) (fun k vi vj wr=>∃ (i j:Nat) (dk:Array Int),vi=.int .i64 i∧vj=.int .i64 j∧a < i∧i≤j + 1∧j≤m∧j + 1 - i≤k∧dk.size=d.size∧SRow te base wr g c dk∧One g w wr∧Hid (partEqLoop ltInt a i j dk=r))
 case atStart =>
  exact ⟨a + 1,m,_,by go_num,rfl,by omega,by omega,Nat.le_refl _,by omega,swp_size _ _ _,HSW.out,HONE.out,HR.out.symm⟩
 case round =>
  obtain ⟨i,j,dk,rfl,rfl,hai,hij,hjm,hk,hsk,hR,hO,HE⟩:=hrel
  obtain ⟨wo,rfl⟩:∃ wo:World,wo=wr:=⟨_,rfl⟩
  clear h hone0
  obtain ⟨x,hx⟩:∃ x,dk[a]! = x:=⟨_,rfl⟩
  obtain ⟨u,hu⟩:∃ u,scanUp (fun y=>!ltInt x y) dk j i=u:=⟨_,rfl⟩
  obtain ⟨v,hv⟩:∃ v,scanDown (fun y=>ltInt x y) dk u j=v:=⟨_,rfl⟩
  have hstep:=partEqLoop_eq ltInt a i j dk
  rw [hx,hu,hv] at hstep
  have hr1:=scanUp_spec (fun y=>!ltInt x y) dk j _ i rfl
  have hr2:=scanDown_spec (fun y=>ltInt x y) dk u j
  rw [hu] at hr1
  rw [hv] at hr2
  have hu1:i≤u:=hr1.1
  have hu2:u≤j + 1:=hr1.2.1 hij
  have hv1:v≤j:=hr2.1
  have hv2:u≤v + 1:=hr2.2.1 hu2
  have huv':u≤v→u < v:=by
   intro h
   rcases Nat.lt_or_ge u v with h' | h'
   · exact h'
   · obtain rfl:u=v:=by omega
     have f1:=hr1.2.2.2 (by omega)
     have f2:=hr2.2.2.2 h (by omega)
     rw [f2] at f1
     cases f1
  have HU:=Lib.hid hu
  have HV:=Lib.hid hv
  have HX:=Lib.hid hx
  have HST:=Lib.hid hstep
  clear hr1 hr2 hstep hu hv hx
  go_upto_block 2 with fail
  go_cut [9] (fun s9 wx=>s9=.int .i64 u∧SRow te base wx g c dk∧One g w wx)
  case first =>
   go_wp2_with fail
   go_loopw [9] (fun vi wr=>∃ i':Nat,vi=.int .i64 i'∧i≤i'∧i'≤j + 1∧SRow te base wr g c dk∧One g w wr∧Hid (scanUp (fun y=>!ltInt x y) dk j i'=u)) (fun vi _=>j + 1 - (intOf vi).toNat)
   case atStart=>exact ⟨i,rfl,Nat.le_refl _,by omega,hR,hO,HU⟩
   case round =>
    obtain ⟨i',rfl,hv1,hv2,hRs,hOs,HUs⟩:=hrel
    clear hR hO
    by_cases hle:i'≤j
    · have hdn:decide (i'≤j)=true:=decide_eq_true hle
      have hdi:decide ((i':Int)≤j)=true:=decide_eq_true (by omega)
      have hva:i' < dk.size:=by omega
      obtain ⟨y,hy⟩:∃ y,dk[i']! = y:=⟨_,rfl⟩
      have hcx:=fun n=>(hRs.drewN n).cell (t:=a) (by omega)
      have hcy:=fun n=>(hRs.drewN n).cell (t:=i') hva
      have hgo:=scanUp_go (fun y=>!ltInt x y) dk j i' hle
      have hstop:=fun h=>scanUp_stop (fun y=>!ltInt x y) dk j i' (.inr h)
      rw [HX.out] at hcx
      rw [hy] at hcy hgo hstop
      have HY:=Lib.hid hy
      clear hy
      obtain ⟨q,hq⟩:∃ q,ltInt x y=q:=⟨_,rfl⟩
      simp only [hq] at hgo hstop
      have hless:∀ W,Calls Tryz.prog 168 #[.int .u32 x,.int .u32 y] W fun e w'=>e=.returned (.bool q)∧w'=W:=fun W=>by rw [← hq]; exact less_any _ _ _
      have HLS:=Lib.hid hless
      have HGO:=Lib.hid hgo
      have HSTOP:=Lib.hid hstop
      clear hless hgo hstop hq
      have hs1:IntKind.i64.wrap ((i':Int) + 1)=(i':Int) + 1:=IntWalk.i64_in _ (by omega)
      cases q
      · go_wp2_with fail
        go_quiet ((go_at_call 168; with_reducible (first | exact quiet1 HLS.out | exact quiet2 HLS.out | exact quiet3 HLS.out)))
        go_wp2
        go_roundw
        case rel=>exact ⟨i' + 1,by first | rfl | (congr 1; omega),by omega,by omega,hRs.drewN _,hOs.drewN _,by show scanUp (fun y=>!ltInt x y) dk j (i' + 1)=u; rw [← HUs.out,HGO.out (by first | exact trivial | exact rfl)]⟩
        case measure=>simp [intOf] <;> omega
      · go_wp2_with fail
        go_quiet ((go_at_call 168; with_reducible (first | exact quiet1 HLS.out | exact quiet2 HLS.out | exact quiet3 HLS.out)))
        go_wp2
        go_meet
        have hu:=HUs.out
        rw [HSTOP.out (by first | exact trivial | exact rfl)] at hu
        exact ⟨congrArg (fun n:Nat=>Value.int .i64 n) hu,hRs.drewN _,hOs.drewN _⟩
    · have hdn:decide (i'≤j)=false:=decide_eq_false hle
      have hdi:decide ((i':Int)≤j)=false:=decide_eq_false (by omega)
      have hstop:=scanUp_stop (fun y=>!ltInt x y) dk j i' (.inl hle)
      have HSTOP:=Lib.hid hstop
      clear hstop
      go_wp2_with fail
      go_quiet (fail)
      go_wp2
      go_meet
      have hu:=HUs.out
      rw [HSTOP.out] at hu
      exact ⟨congrArg (fun n:Nat=>Value.int .i64 n) hu,hRs.drewN _,hOs.drewN _⟩
  case rest =>
   obtain ⟨rfl,hR1,hO1⟩:=hcut
   clear hR hO
   go_upto_block 4 with fail
   go_cut [10] (fun s10 wx=>s10=.int .i64 v∧SRow te base wx g c dk∧One g w wx)
   case first =>
    go_wp2_with fail
    go_loopw [10] (fun vi wr=>∃ j':Nat,vi=.int .i64 j'∧j'≤j∧u≤j' + 1∧SRow te base wr g c dk∧One g w wr∧Hid (scanDown (fun y=>ltInt x y) dk u j'=v)) (fun vi _=>(intOf vi).toNat)
    case atStart=>exact ⟨j,rfl,Nat.le_refl _,by omega,hR1,hO1,HV⟩
    case round =>
     obtain ⟨j',rfl,hv1,hv2,hRs,hOs,HUs⟩:=hrel
     clear hR1 hO1
     by_cases hle:u≤j'
     · have hdn:decide (u≤j')=true:=decide_eq_true hle
       have hdi:decide ((u:Int)≤j')=true:=decide_eq_true (by omega)
       have hva:j' < dk.size:=by omega
       obtain ⟨y,hy⟩:∃ y,dk[j']! = y:=⟨_,rfl⟩
       have hcx:=fun n=>(hRs.drewN n).cell (t:=a) (by omega)
       have hcy:=fun n=>(hRs.drewN n).cell (t:=j') hva
       have hgo:=scanDown_go (fun y=>ltInt x y) dk u j' hle (by omega)
       have hstop:=fun h=>scanDown_stop (fun y=>ltInt x y) dk u j' (.inr h)
       rw [HX.out] at hcx
       rw [hy] at hcy hgo hstop
       have HY:=Lib.hid hy
       clear hy
       obtain ⟨q,hq⟩:∃ q,ltInt x y=q:=⟨_,rfl⟩
       simp only [hq] at hgo hstop
       have hless:∀ W,Calls Tryz.prog 168 #[.int .u32 x,.int .u32 y] W fun e w'=>e=.returned (.bool q)∧w'=W:=fun W=>by rw [← hq]; exact less_any _ _ _
       have HLS:=Lib.hid hless
       have HGO:=Lib.hid hgo
       have HSTOP:=Lib.hid hstop
       clear hless hgo hstop hq
       have hs1:IntKind.i64.wrap ((j':Int) - 1)=(j':Int) - 1:=IntWalk.i64_in _ (by omega)
       cases q
       · go_wp2_with fail
         go_quiet ((go_at_call 168; with_reducible (first | exact quiet1 HLS.out | exact quiet2 HLS.out | exact quiet3 HLS.out)))
         go_wp2
         go_meet
         have hu:=HUs.out
         rw [HSTOP.out (by first | exact trivial | exact rfl)] at hu
         exact ⟨congrArg (fun n:Nat=>Value.int .i64 n) hu,hRs.drewN _,hOs.drewN _⟩
       · go_wp2_with fail
         go_quiet ((go_at_call 168; with_reducible (first | exact quiet1 HLS.out | exact quiet2 HLS.out | exact quiet3 HLS.out)))
         go_wp2
         go_roundw
         case rel=>exact ⟨j' - 1,by first | rfl | (congr 1; omega),by omega,by omega,hRs.drewN _,hOs.drewN _,by show scanDown (fun y=>ltInt x y) dk u (j' - 1)=v; rw [← HUs.out,HGO.out (by first | exact trivial | exact rfl)]⟩
         case measure=>simp [intOf] <;> omega
     · have hdn:decide (u≤j')=false:=decide_eq_false hle
       have hdi:decide ((u:Int)≤j')=false:=decide_eq_false (by omega)
       have hstop:=scanDown_stop (fun y=>ltInt x y) dk u j' (.inl hle)
       have HSTOP:=Lib.hid hstop
       clear hstop
       go_wp2_with fail
       go_quiet (fail)
       go_wp2
       go_meet
       have hu:=HUs.out
       rw [HSTOP.out] at hu
       exact ⟨congrArg (fun n:Nat=>Value.int .i64 n) hu,hRs.drewN _,hOs.drewN _⟩
   case rest =>
    obtain ⟨rfl,hR2,hO2⟩:=hcut
    clear hR1 hO1
    by_cases huv:v < u
    · have hd:decide ((v:Int) < u)=true:=decide_eq_true (by omega)
      have hE:=HST.out
      rw [if_pos huv,HE.out] at hE
      have HE2:=Lib.hid hE
      clear hE
      go_wp2
      go_ret
      rw [HE2.out]
      exact ⟨rfl,hR2,hsk,hO2⟩
    · have hd:decide ((v:Int) < u)=false:=decide_eq_false (by omega)
      have huv2:=huv' (by omega)
      have hE:=HST.out
      rw [if_neg huv,HE.out] at hE
      have HE2:=Lib.hid hE
      clear hE
      obtain ⟨wo,rfl⟩:∃ wo:World,wo=wc:=⟨_,rfl⟩
      obtain ⟨x1,hx1⟩:∃ x,dk[u]! = x:=⟨_,rfl⟩
      obtain ⟨y1,hy1⟩:∃ y,dk[v]! = y:=⟨_,rfl⟩
      have hcx0:wo.cell? ⟨g,u,none⟩=_:=hR2.cell (t:=u) (by omega)
      have hcy0:wo.cell? ⟨g,v,none⟩=_:=hR2.cell (t:=v) (by omega)
      have hfx0:wo.frozen? ⟨g,u,none⟩=false:=hR2.frozen u
      have hfy0:wo.frozen? ⟨g,v,none⟩=false:=hR2.frozen v
      have hsw:=hR2.two0 u v
      have hone:=One.two0 hO2 u v (.int .u32 dk[v]!) (.int .u32 dk[u]!)
      obtain ⟨z,hz⟩:=hR2.again u v dk[v]! (by omega)
      have hzf:(wo.setCell ⟨g,u,none⟩ (.int .u32 dk[v]!)).frozen? ⟨g,v,none⟩=false:=(hR2.one u dk[v]!).frozen _
      rw [hx1] at hcx0 hsw hone
      rw [hy1] at hcy0 hsw hone hz hzf
      have HSW:=Lib.hid hsw
      have HONE:=Lib.hid hone
      have HX1:=Lib.hid hx1
      have HY1:=Lib.hid hy1
      clear hx1 hy1 hsw hone
      go_wp2_with fail
      go_region
      all_goals go_wp2
      go_roundg (v - 1 + 1 - (u + 1))
      case measure=>omega
      case rel=>exact ⟨u + 1,v - 1,_,by go_num,by congr 1; omega,by omega,by omega,by omega,Nat.le_refl _,by rw [swp_size]; exact hsk,HSW.out,HONE.out,HE2.out.symm⟩
end Go.Proofs.YtliimglbbiebiaaGreatDoor
end

section
namespace Go.Proofs.YtliimglbbiebiaaGreatDoor
open Go.RowKit Go.Sort
theorem partition_unfold (d:Array Int) (a m pv:Nat) (d1:Array Int) (hd:swp d a pv=d1) (x:Int) (hx:d1[a]! = x) (u v:Nat)
 (hu:scanUp (fun y=>ltInt y x) d1 m (a + 1)=u) (hv:scanDown (fun y=>!ltInt y x) d1 u m=v) :
 partition ltInt d a (m + 1) pv=if v < u then (v,true,swp d1 v a) else ((partLoop ltInt a (u + 1) (v - 1) (swp d1 u v)).1,false,swp (partLoop ltInt a (u + 1) (v - 1) (swp d1 u v)).2 (partLoop ltInt a (u + 1) (v - 1) (swp d1 u v)).1 a):=by
 subst hd hx hu hv
 rfl
theorem part_any {te:TypeId} {base g c:Nat} {w:World} {d:Array Int} (h:SRow te base w g c d) (a b pv:Nat) (ha:a≤pv) (hp:pv < b) (hb:b≤d.size) (hn:d.size≤1000000) :
 Calls Tryz.prog 170 #[.slice (some ⟨g,0,none⟩) d.size c,.int .i64 a,.int .i64 b,.int .i64 pv] w fun e w'=>e=.returned (.tuple #[.int .i64 (partition ltInt d a b pv).1,.bool (partition ltInt d a b pv).2.1])∧SRow te base w' g c (partition ltInt d a b pv).2.2∧(partition ltInt d a b pv).2.2.size=d.size∧One g w w':=by
 obtain ⟨m,rfl⟩:∃ m,b=m + 1:=⟨b - 1,by omega⟩
 have hbm:((m + 1:Nat):Int) - 1=m:=by omega
 obtain ⟨d1,hd1⟩:∃ d1,swp d a pv=d1:=⟨_,rfl⟩
 have hs1:d1.size=d.size:=by rw [← hd1,swp_size]
 obtain ⟨x,hx⟩:∃ x,d1[a]! = x:=⟨_,rfl⟩
 obtain ⟨u,hu⟩:∃ u,scanUp (fun y=>ltInt y x) d1 m (a + 1)=u:=⟨_,rfl⟩
 obtain ⟨v,hv⟩:∃ v,scanDown (fun y=>!ltInt y x) d1 u m=v:=⟨_,rfl⟩
 have hres:=partition_unfold d a m pv d1 hd1 x hx u v hu hv
 obtain ⟨r,hr⟩:∃ r,partition ltInt d a (m + 1) pv=r:=⟨_,rfl⟩
 rw [hr] at hres ⊢
 have HRES:=Lib.hid hres
 clear hres hr
 obtain ⟨bI,hbI⟩:∃ bI:Int,bI=((m + 1:Nat):Int):=⟨_,rfl⟩
 rw [← hbI] at hbm ⊢
 have hb1:0≤bI:=by omega
 have hb2:bI≤1000001:=by omega
 have hone0:=One.refl g w
 have hap:(a:Int) < d.size:=by omega
 have hpp:(pv:Int) < d.size:=by omega
 clear hbI
 obtain ⟨x1,hx1⟩:∃ x,d[a]! = x:=⟨_,rfl⟩
 obtain ⟨y1,hy1⟩:∃ y,d[pv]! = y:=⟨_,rfl⟩
 have hcx0:w.cell? ⟨g,a,none⟩=_:=h.cell (t:=a) (by omega)
 have hcy0:w.cell? ⟨g,pv,none⟩=_:=h.cell (t:=pv) (by omega)
 have hfx0:w.frozen? ⟨g,a,none⟩=false:=h.frozen a
 have hfy0:w.frozen? ⟨g,pv,none⟩=false:=h.frozen pv
 have hsw:=h.two0 a pv
 have hone:=One.two0 hone0 a pv (.int .u32 d[pv]!) (.int .u32 d[a]!)
 obtain ⟨z,hz⟩:=h.again a pv d[pv]! (by omega)
 have hzf:(w.setCell ⟨g,a,none⟩ (.int .u32 d[pv]!)).frozen? ⟨g,pv,none⟩=false:=(h.one a d[pv]!).frozen _
 rw [hx1] at hcx0 hsw hone
 rw [hy1] at hcy0 hsw hone hz hzf
 rw [hd1] at hsw
 have HSW:=Lib.hid hsw
 have HONE:=Lib.hid hone
 have HX1:=Lib.hid hx1
 have HY1:=Lib.hid hy1
 clear hx1 hy1 hsw hone
 have hr1:=scanUp_spec (fun y=>ltInt y x) d1 m _ (a + 1) rfl
 have hr2:=scanDown_spec (fun y=>!ltInt y x) d1 u m
 rw [hu] at hr1
 rw [hv] at hr2
 have hu1:a + 1≤u:=hr1.1
 have hu2:u≤m + 1:=hr1.2.1 (by omega)
 have hv1:v≤m:=hr2.1
 have hv2:u≤v + 1:=hr2.2.1 hu2
 have huv':u≤v→u < v:=by
  intro h
  rcases Nat.lt_or_ge u v with h' | h'
  · exact h'
  · obtain rfl:u=v:=by omega
    have f1:=hr1.2.2.2 (by omega)
    have f2:=hr2.2.2.2 h (by omega)
    rw [f1] at f2
    cases f2
 have HU:=Lib.hid hu
 have HV:=Lib.hid hv
 have HX:=Lib.hid hx
 have HD1:=Lib.hid hd1
 clear hd1 hr1 hr2 hu hv hx
 have hm1:a + 1≤m + 1:=by omega
 go_enter Tryz.func170,Tryz.ntmps170
 go_upto_block 0 with (first | go_region | fail)
 have hR0:=HSW.out
 have hO0:=HONE.out
 go_cut [10] (fun s10 wx=>s10=.int .i64 u∧SRow te base wx g c d1∧One g w wx)
 case first =>
  go_wp2_with fail
  go_loopw [10] (fun vi wr=>∃ i':Nat,vi=.int .i64 i'∧(a + 1)≤i'∧i'≤m + 1∧SRow te base wr g c d1∧One g w wr∧Hid (scanUp (fun y=>ltInt y x) d1 m i'=u)) (fun vi _=>m + 1 - (intOf vi).toNat)
  case atStart=>exact ⟨(a + 1),by first | rfl | go_num,Nat.le_refl _,by omega,hR0,hO0,HU⟩
  case round =>
   obtain ⟨i',rfl,hv1,hv2,hRs,hOs,HUs⟩:=hrel
   clear hR0 hO0
   by_cases hle:i'≤m
   · have hdn:decide (i'≤m)=true:=decide_eq_true hle
     have hdi:decide ((i':Int)≤m)=true:=decide_eq_true (by omega)
     have hva:i' < d1.size:=by omega
     obtain ⟨y,hy⟩:∃ y,d1[i']! = y:=⟨_,rfl⟩
     have hcx:=fun n=>(hRs.drewN n).cell (t:=a) (by omega)
     have hcy:=fun n=>(hRs.drewN n).cell (t:=i') hva
     have hgo:=scanUp_go (fun y=>ltInt y x) d1 m i' hle
     have hstop:=fun h=>scanUp_stop (fun y=>ltInt y x) d1 m i' (.inr h)
     rw [HX.out] at hcx
     rw [hy] at hcy hgo hstop
     have HY:=Lib.hid hy
     clear hy
     obtain ⟨q,hq⟩:∃ q,ltInt y x=q:=⟨_,rfl⟩
     simp only [hq] at hgo hstop
     have hless:∀ W,Calls Tryz.prog 168 #[.int .u32 y,.int .u32 x] W fun e w'=>e=.returned (.bool q)∧w'=W:=fun W=>by rw [← hq]; exact less_any _ _ _
     have HLS:=Lib.hid hless
     have HGO:=Lib.hid hgo
     have HSTOP:=Lib.hid hstop
     clear hless hgo hstop hq
     have hs1:IntKind.i64.wrap ((i':Int) + 1)=(i':Int) + 1:=IntWalk.i64_in _ (by omega)
     cases q
     · go_wp2_with fail
       go_quiet ((go_at_call 168; with_reducible (first | exact quiet1 HLS.out | exact quiet2 HLS.out | exact quiet3 HLS.out)))
       go_wp2
       go_meet
       have hu:=HUs.out
       rw [HSTOP.out (by first | exact trivial | exact rfl)] at hu
       exact ⟨congrArg (fun n:Nat=>Value.int .i64 n) hu,hRs.drewN _,hOs.drewN _⟩
     · go_wp2_with fail
       go_quiet ((go_at_call 168; with_reducible (first | exact quiet1 HLS.out | exact quiet2 HLS.out | exact quiet3 HLS.out)))
       go_wp2
       go_roundw
       case rel=>exact ⟨i' + 1,by first | rfl | (congr 1; omega),by omega,by omega,hRs.drewN _,hOs.drewN _,by show scanUp (fun y=>ltInt y x) d1 m (i' + 1)=u; rw [← HUs.out,HGO.out (by first | exact trivial | exact rfl)]⟩
       case measure=>simp [intOf] <;> omega
   · have hdn:decide (i'≤m)=false:=decide_eq_false hle
     have hdi:decide ((i':Int)≤m)=false:=decide_eq_false (by omega)
     have hstop:=scanUp_stop (fun y=>ltInt y x) d1 m i' (.inl hle)
     have HSTOP:=Lib.hid hstop
     clear hstop
     go_wp2_with fail
     go_quiet (fail)
     go_wp2
     go_meet
     have hu:=HUs.out
     rw [HSTOP.out] at hu
     exact ⟨congrArg (fun n:Nat=>Value.int .i64 n) hu,hRs.drewN _,hOs.drewN _⟩
 case rest =>
  obtain ⟨rfl,hR1,hO1⟩:=hcut
  clear hR0 hO0 h
  go_upto_block 2 with fail
  go_cut [11] (fun s11 wx=>s11=.int .i64 v∧SRow te base wx g c d1∧One g w wx)
  case first =>
   go_wp2_with fail
   go_loopw [11] (fun vi wr=>∃ j':Nat,vi=.int .i64 j'∧j'≤m∧u≤j' + 1∧SRow te base wr g c d1∧One g w wr∧Hid (scanDown (fun y=>!ltInt y x) d1 u j'=v)) (fun vi _=>(intOf vi).toNat)
   case atStart=>exact ⟨m,by first | rfl | go_num,Nat.le_refl _,by omega,hR1,hO1,HV⟩
   case round =>
    obtain ⟨j',rfl,hv1,hv2,hRs,hOs,HUs⟩:=hrel
    clear hR1 hO1
    by_cases hle:u≤j'
    · have hdn:decide (u≤j')=true:=decide_eq_true hle
      have hdi:decide ((u:Int)≤j')=true:=decide_eq_true (by omega)
      have hva:j' < d1.size:=by omega
      obtain ⟨y,hy⟩:∃ y,d1[j']! = y:=⟨_,rfl⟩
      have hcx:=fun n=>(hRs.drewN n).cell (t:=a) (by omega)
      have hcy:=fun n=>(hRs.drewN n).cell (t:=j') hva
      have hgo:=scanDown_go (fun y=>!ltInt y x) d1 u j' hle (by omega)
      have hstop:=fun h=>scanDown_stop (fun y=>!ltInt y x) d1 u j' (.inr h)
      rw [HX.out] at hcx
      rw [hy] at hcy hgo hstop
      have HY:=Lib.hid hy
      clear hy
      obtain ⟨q,hq⟩:∃ q,ltInt y x=q:=⟨_,rfl⟩
      simp only [hq] at hgo hstop
      have hless:∀ W,Calls Tryz.prog 168 #[.int .u32 y,.int .u32 x] W fun e w'=>e=.returned (.bool q)∧w'=W:=fun W=>by rw [← hq]; exact less_any _ _ _
      have HLS:=Lib.hid hless
      have HGO:=Lib.hid hgo
      have HSTOP:=Lib.hid hstop
      clear hless hgo hstop hq
      have hs1:IntKind.i64.wrap ((j':Int) - 1)=(j':Int) - 1:=IntWalk.i64_in _ (by omega)
      cases q
      · go_wp2_with fail
        go_quiet ((go_at_call 168; with_reducible (first | exact quiet1 HLS.out | exact quiet2 HLS.out | exact quiet3 HLS.out)))
        go_wp2
        go_roundw
        case rel=>exact ⟨j' - 1,by first | rfl | (congr 1; omega),by omega,by omega,hRs.drewN _,hOs.drewN _,by show scanDown (fun y=>!ltInt y x) d1 u (j' - 1)=v; rw [← HUs.out,HGO.out (by first | exact trivial | exact rfl)]⟩
        case measure=>simp [intOf] <;> omega
      · go_wp2_with fail
        go_quiet ((go_at_call 168; with_reducible (first | exact quiet1 HLS.out | exact quiet2 HLS.out | exact quiet3 HLS.out)))
        go_wp2
        go_meet
        have hu:=HUs.out
        rw [HSTOP.out (by first | exact trivial | exact rfl)] at hu
        exact ⟨congrArg (fun n:Nat=>Value.int .i64 n) hu,hRs.drewN _,hOs.drewN _⟩
    · have hdn:decide (u≤j')=false:=decide_eq_false hle
      have hdi:decide ((u:Int)≤j')=false:=decide_eq_false (by omega)
      have hstop:=scanDown_stop (fun y=>!ltInt y x) d1 u j' (.inl hle)
      have HSTOP:=Lib.hid hstop
      clear hstop
      go_wp2_with fail
      go_quiet (fail)
      go_wp2
      go_meet
      have hu:=HUs.out
      rw [HSTOP.out] at hu
      exact ⟨congrArg (fun n:Nat=>Value.int .i64 n) hu,hRs.drewN _,hOs.drewN _⟩
  case rest =>
   obtain ⟨rfl,hR2,hO2⟩:=hcut
   clear hR1 hO1
   obtain ⟨wo,rfl⟩:∃ wo:World,wo=wc:=⟨_,rfl⟩
   clear hcx0 hcy0 hfx0 hfy0 hz hzf HSW HONE HX1 HY1
   by_cases huv:v < u
   · have hd:decide ((v:Int) < u)=true:=decide_eq_true (by omega)
     have hE:=HRES.out
     rw [if_pos huv] at hE
     subst hE
     obtain ⟨x1,hx1⟩:∃ x,d1[v]! = x:=⟨_,rfl⟩
     obtain ⟨y1,hy1⟩:∃ y,d1[a]! = y:=⟨_,rfl⟩
     have hcx0:wo.cell? ⟨g,v,none⟩=_:=hR2.cell (t:=v) (by omega)
     have hcy0:wo.cell? ⟨g,a,none⟩=_:=hR2.cell (t:=a) (by omega)
     have hfx0:wo.frozen? ⟨g,v,none⟩=false:=hR2.frozen v
     have hfy0:wo.frozen? ⟨g,a,none⟩=false:=hR2.frozen a
     have hsw:=hR2.two0 v a
     have hone:=One.two0 hO2 v a (.int .u32 d1[a]!) (.int .u32 d1[v]!)
     obtain ⟨z,hz⟩:=hR2.again v a d1[a]! (by omega)
     have hzf:(wo.setCell ⟨g,v,none⟩ (.int .u32 d1[a]!)).frozen? ⟨g,a,none⟩=false:=(hR2.one v d1[a]!).frozen _
     rw [hx1] at hcx0 hsw hone
     rw [hy1] at hcy0 hsw hone hz hzf
     have HSW:=Lib.hid hsw
     have HONE:=Lib.hid hone
     have HX1:=Lib.hid hx1
     have HY1:=Lib.hid hy1
     clear hx1 hy1 hsw hone
     go_wp2_with fail
     go_region
     all_goals go_wp2
     go_ret2
     exact ⟨rfl,HSW.out,by rw [swp_size]; exact hs1,HONE.out⟩
   · have hd:decide ((v:Int) < u)=false:=decide_eq_false (by omega)
     have huv2:=huv' (by omega)
     have hE:=HRES.out
     rw [if_neg huv] at hE
     obtain ⟨rl,hrl⟩:∃ rl,partLoop ltInt a (u + 1) (v - 1) (swp d1 u v)=rl:=⟨_,rfl⟩
     rw [hrl] at hE
     subst hE
     have HRL:=Lib.hid hrl
     clear hrl
     obtain ⟨x1,hx1⟩:∃ x,d1[u]! = x:=⟨_,rfl⟩
     obtain ⟨y1,hy1⟩:∃ y,d1[v]! = y:=⟨_,rfl⟩
     have hcx0:wo.cell? ⟨g,u,none⟩=_:=hR2.cell (t:=u) (by omega)
     have hcy0:wo.cell? ⟨g,v,none⟩=_:=hR2.cell (t:=v) (by omega)
     have hfx0:wo.frozen? ⟨g,u,none⟩=false:=hR2.frozen u
     have hfy0:wo.frozen? ⟨g,v,none⟩=false:=hR2.frozen v
     have hsw:=hR2.two0 u v
     have hone:=One.two0 hO2 u v (.int .u32 d1[v]!) (.int .u32 d1[u]!)
     obtain ⟨z,hz⟩:=hR2.again u v d1[v]! (by omega)
     have hzf:(wo.setCell ⟨g,u,none⟩ (.int .u32 d1[v]!)).frozen? ⟨g,v,none⟩=false:=(hR2.one u d1[v]!).frozen _
     rw [hx1] at hcx0 hsw hone
     rw [hy1] at hcy0 hsw hone hz hzf
     have HSW:=Lib.hid hsw
     have HONE:=Lib.hid hone
     have HX1:=Lib.hid hx1
     have HY1:=Lib.hid hy1
     clear hx1 hy1 hsw hone
     go_upto_block 4 with (first | go_region | fail)
     go_wp2_with fail
     go_loopg [10,11] (m + 1) (fun k vi vj wr=>∃ (i j:Nat) (dk:Array Int),vi=.int .i64 i∧vj=.int .i64 j∧a < i∧i≤j + 1∧j≤m∧j + 1 - i≤k∧dk.size=d.size∧SRow te base wr g c dk∧One g w wr∧Hid (partLoop ltInt a i j dk=rl))
     case atStart =>
      exact ⟨u + 1,v - 1,_,by go_num,by congr 1; omega,by omega,by omega,by omega,by omega,by rw [swp_size]; exact hs1,HSW.out,HONE.out,HRL⟩
     case round =>
      obtain ⟨i,j,dk,rfl,rfl,hai,hij,hjm,hk,hsk,hR,hO,HE⟩:=hrel
      obtain ⟨wo,rfl⟩:∃ wo:World,wo=wr:=⟨_,rfl⟩
      clear hR2 hO2 hcx0 hcy0 hfx0 hfy0 hz hzf HSW HONE HX1 HY1 HU HV HX HD1 hd HRL huv' huv huv2 hu1 hu2 hv1 hv2
      obtain ⟨x,hx⟩:∃ x,dk[a]! = x:=⟨_,rfl⟩
      obtain ⟨u,hu⟩:∃ u,scanUp (fun y=>ltInt y x) dk j i=u:=⟨_,rfl⟩
      obtain ⟨v,hv⟩:∃ v,scanDown (fun y=>!ltInt y x) dk u j=v:=⟨_,rfl⟩
      have hstep:=partLoop_eq ltInt a i j dk
      rw [hx,hu,hv] at hstep
      have HST:=Lib.hid hstep
      clear hstep
      have hr1:=scanUp_spec (fun y=>ltInt y x) dk j _ (i) rfl
      have hr2:=scanDown_spec (fun y=>!ltInt y x) dk u j
      rw [hu] at hr1
      rw [hv] at hr2
      have hu1:i≤u:=hr1.1
      have hu2:u≤j + 1:=hr1.2.1 (by omega)
      have hv1:v≤j:=hr2.1
      have hv2:u≤v + 1:=hr2.2.1 hu2
      have huv':u≤v→u < v:=by
       intro h
       rcases Nat.lt_or_ge u v with h' | h'
       · exact h'
       · obtain rfl:u=v:=by omega
         have f1:=hr1.2.2.2 (by omega)
         have f2:=hr2.2.2.2 h (by omega)
         rw [f1] at f2
         cases f2
      have HU:=Lib.hid hu
      have HV:=Lib.hid hv
      have HX:=Lib.hid hx
      clear hr1 hr2 hu hv hx
      go_upto_block 6 with fail
      go_cut [10] (fun s10 wx=>s10=.int .i64 u∧SRow te base wx g c dk∧One g w wx)
      case first =>
       go_wp2_with fail
       go_loopw [10] (fun vi wr=>∃ i':Nat,vi=.int .i64 i'∧i≤i'∧i'≤j + 1∧SRow te base wr g c dk∧One g w wr∧Hid (scanUp (fun y=>ltInt y x) dk j i'=u)) (fun vi _=>j + 1 - (intOf vi).toNat)
       case atStart=>exact ⟨i,by first | rfl | go_num,Nat.le_refl _,by omega,hR,hO,HU⟩
       case round =>
        obtain ⟨i',rfl,hv1,hv2,hRs,hOs,HUs⟩:=hrel
        clear hR hO
        by_cases hle:i'≤j
        · have hdn:decide (i'≤j)=true:=decide_eq_true hle
          have hdi:decide ((i':Int)≤j)=true:=decide_eq_true (by omega)
          have hva:i' < dk.size:=by omega
          obtain ⟨y,hy⟩:∃ y,dk[i']! = y:=⟨_,rfl⟩
          have hcx:=fun n=>(hRs.drewN n).cell (t:=a) (by omega)
          have hcy:=fun n=>(hRs.drewN n).cell (t:=i') hva
          have hgo:=scanUp_go (fun y=>ltInt y x) dk j i' hle
          have hstop:=fun h=>scanUp_stop (fun y=>ltInt y x) dk j i' (.inr h)
          rw [HX.out] at hcx
          rw [hy] at hcy hgo hstop
          have HY:=Lib.hid hy
          clear hy
          obtain ⟨q,hq⟩:∃ q,ltInt y x=q:=⟨_,rfl⟩
          simp only [hq] at hgo hstop
          have hless:∀ W,Calls Tryz.prog 168 #[.int .u32 y,.int .u32 x] W fun e w'=>e=.returned (.bool q)∧w'=W:=fun W=>by rw [← hq]; exact less_any _ _ _
          have HLS:=Lib.hid hless
          have HGO:=Lib.hid hgo
          have HSTOP:=Lib.hid hstop
          clear hless hgo hstop hq
          have hs1:IntKind.i64.wrap ((i':Int) + 1)=(i':Int) + 1:=IntWalk.i64_in _ (by omega)
          cases q
          · go_wp2_with fail
            go_quiet ((go_at_call 168; with_reducible (first | exact quiet1 HLS.out | exact quiet2 HLS.out | exact quiet3 HLS.out)))
            go_wp2
            go_meet
            have hu:=HUs.out
            rw [HSTOP.out (by first | exact trivial | exact rfl)] at hu
            exact ⟨congrArg (fun n:Nat=>Value.int .i64 n) hu,hRs.drewN _,hOs.drewN _⟩
          · go_wp2_with fail
            go_quiet ((go_at_call 168; with_reducible (first | exact quiet1 HLS.out | exact quiet2 HLS.out | exact quiet3 HLS.out)))
            go_wp2
            go_roundw
            case rel=>exact ⟨i' + 1,by first | rfl | (congr 1; omega),by omega,by omega,hRs.drewN _,hOs.drewN _,by show scanUp (fun y=>ltInt y x) dk j (i' + 1)=u; rw [← HUs.out,HGO.out (by first | exact trivial | exact rfl)]⟩
            case measure=>simp [intOf] <;> omega
        · have hdn:decide (i'≤j)=false:=decide_eq_false hle
          have hdi:decide ((i':Int)≤j)=false:=decide_eq_false (by omega)
          have hstop:=scanUp_stop (fun y=>ltInt y x) dk j i' (.inl hle)
          have HSTOP:=Lib.hid hstop
          clear hstop
          go_wp2_with fail
          go_quiet (fail)
          go_wp2
          go_meet
          have hu:=HUs.out
          rw [HSTOP.out] at hu
          exact ⟨congrArg (fun n:Nat=>Value.int .i64 n) hu,hRs.drewN _,hOs.drewN _⟩
      case rest =>
       obtain ⟨rfl,hR1,hO1⟩:=hcut
       clear hR hO
       go_upto_block 8 with fail
       go_cut [11] (fun s11 wx=>s11=.int .i64 v∧SRow te base wx g c dk∧One g w wx)
       case first =>
        go_wp2_with fail
        go_loopw [11] (fun vi wr=>∃ j':Nat,vi=.int .i64 j'∧j'≤j∧u≤j' + 1∧SRow te base wr g c dk∧One g w wr∧Hid (scanDown (fun y=>!ltInt y x) dk u j'=v)) (fun vi _=>(intOf vi).toNat)
        case atStart=>exact ⟨j,by first | rfl | go_num,Nat.le_refl _,by omega,hR1,hO1,HV⟩
        case round =>
         obtain ⟨j',rfl,hv1,hv2,hRs,hOs,HUs⟩:=hrel
         clear hR1 hO1
         by_cases hle:u≤j'
         · have hdn:decide (u≤j')=true:=decide_eq_true hle
           have hdi:decide ((u:Int)≤j')=true:=decide_eq_true (by omega)
           have hva:j' < dk.size:=by omega
           obtain ⟨y,hy⟩:∃ y,dk[j']! = y:=⟨_,rfl⟩
           have hcx:=fun n=>(hRs.drewN n).cell (t:=a) (by omega)
           have hcy:=fun n=>(hRs.drewN n).cell (t:=j') hva
           have hgo:=scanDown_go (fun y=>!ltInt y x) dk u j' hle (by omega)
           have hstop:=fun h=>scanDown_stop (fun y=>!ltInt y x) dk u j' (.inr h)
           rw [HX.out] at hcx
           rw [hy] at hcy hgo hstop
           have HY:=Lib.hid hy
           clear hy
           obtain ⟨q,hq⟩:∃ q,ltInt y x=q:=⟨_,rfl⟩
           simp only [hq] at hgo hstop
           have hless:∀ W,Calls Tryz.prog 168 #[.int .u32 y,.int .u32 x] W fun e w'=>e=.returned (.bool q)∧w'=W:=fun W=>by rw [← hq]; exact less_any _ _ _
           have HLS:=Lib.hid hless
           have HGO:=Lib.hid hgo
           have HSTOP:=Lib.hid hstop
           clear hless hgo hstop hq
           have hs1:IntKind.i64.wrap ((j':Int) - 1)=(j':Int) - 1:=IntWalk.i64_in _ (by omega)
           cases q
           · go_wp2_with fail
             go_quiet ((go_at_call 168; with_reducible (first | exact quiet1 HLS.out | exact quiet2 HLS.out | exact quiet3 HLS.out)))
             go_wp2
             go_roundw
             case rel=>exact ⟨j' - 1,by first | rfl | (congr 1; omega),by omega,by omega,hRs.drewN _,hOs.drewN _,by show scanDown (fun y=>!ltInt y x) dk u (j' - 1)=v; rw [← HUs.out,HGO.out (by first | exact trivial | exact rfl)]⟩
             case measure=>simp [intOf] <;> omega
           · go_wp2_with fail
             go_quiet ((go_at_call 168; with_reducible (first | exact quiet1 HLS.out | exact quiet2 HLS.out | exact quiet3 HLS.out)))
             go_wp2
             go_meet
             have hu:=HUs.out
             rw [HSTOP.out (by first | exact trivial | exact rfl)] at hu
             exact ⟨congrArg (fun n:Nat=>Value.int .i64 n) hu,hRs.drewN _,hOs.drewN _⟩
         · have hdn:decide (u≤j')=false:=decide_eq_false hle
           have hdi:decide ((u:Int)≤j')=false:=decide_eq_false (by omega)
           have hstop:=scanDown_stop (fun y=>!ltInt y x) dk u j' (.inl hle)
           have HSTOP:=Lib.hid hstop
           clear hstop
           go_wp2_with fail
           go_quiet (fail)
           go_wp2
           go_meet
           have hu:=HUs.out
           rw [HSTOP.out] at hu
           exact ⟨congrArg (fun n:Nat=>Value.int .i64 n) hu,hRs.drewN _,hOs.drewN _⟩
       case rest =>
        obtain ⟨rfl,hR2,hO2⟩:=hcut
        clear hR1 hO1
        obtain ⟨wo,rfl⟩:∃ wo:World,wo=wc:=⟨_,rfl⟩
        by_cases huv:v < u
        · have hd:decide ((v:Int) < u)=true:=decide_eq_true (by omega)
          have hE:=HST.out
          rw [if_pos huv,HE.out] at hE
          subst hE
          obtain ⟨x1,hx1⟩:∃ x,dk[v]! = x:=⟨_,rfl⟩
          obtain ⟨y1,hy1⟩:∃ y,dk[a]! = y:=⟨_,rfl⟩
          have hcx0:wo.cell? ⟨g,v,none⟩=_:=hR2.cell (t:=v) (by omega)
          have hcy0:wo.cell? ⟨g,a,none⟩=_:=hR2.cell (t:=a) (by omega)
          have hfx0:wo.frozen? ⟨g,v,none⟩=false:=hR2.frozen v
          have hfy0:wo.frozen? ⟨g,a,none⟩=false:=hR2.frozen a
          have hsw:=hR2.two0 v a
          have hone:=One.two0 hO2 v a (.int .u32 dk[a]!) (.int .u32 dk[v]!)
          obtain ⟨z,hz⟩:=hR2.again v a dk[a]! (by omega)
          have hzf:(wo.setCell ⟨g,v,none⟩ (.int .u32 dk[a]!)).frozen? ⟨g,a,none⟩=false:=(hR2.one v dk[a]!).frozen _
          rw [hx1] at hcx0 hsw hone
          rw [hy1] at hcy0 hsw hone hz hzf
          have HSW:=Lib.hid hsw
          have HONE:=Lib.hid hone
          have HX1:=Lib.hid hx1
          have HY1:=Lib.hid hy1
          clear hx1 hy1 hsw hone
          go_wp2_with fail
          go_region
          all_goals go_wp2
          go_ret2
          exact ⟨rfl,HSW.out,by show (swp dk v a).size=_; rw [swp_size]; exact hsk,HONE.out⟩
        · have hd:decide ((v:Int) < u)=false:=decide_eq_false (by omega)
          have huv2:=huv' (by omega)
          have hE:=HST.out
          rw [if_neg huv,HE.out] at hE
          have HE2:=Lib.hid hE
          clear hE
          obtain ⟨x1,hx1⟩:∃ x,dk[u]! = x:=⟨_,rfl⟩
          obtain ⟨y1,hy1⟩:∃ y,dk[v]! = y:=⟨_,rfl⟩
          have hcx0:wo.cell? ⟨g,u,none⟩=_:=hR2.cell (t:=u) (by omega)
          have hcy0:wo.cell? ⟨g,v,none⟩=_:=hR2.cell (t:=v) (by omega)
          have hfx0:wo.frozen? ⟨g,u,none⟩=false:=hR2.frozen u
          have hfy0:wo.frozen? ⟨g,v,none⟩=false:=hR2.frozen v
          have hsw:=hR2.two0 u v
          have hone:=One.two0 hO2 u v (.int .u32 dk[v]!) (.int .u32 dk[u]!)
          obtain ⟨z,hz⟩:=hR2.again u v dk[v]! (by omega)
          have hzf:(wo.setCell ⟨g,u,none⟩ (.int .u32 dk[v]!)).frozen? ⟨g,v,none⟩=false:=(hR2.one u dk[v]!).frozen _
          rw [hx1] at hcx0 hsw hone
          rw [hy1] at hcy0 hsw hone hz hzf
          have HSW:=Lib.hid hsw
          have HONE:=Lib.hid hone
          have HX1:=Lib.hid hx1
          have HY1:=Lib.hid hy1
          clear hx1 hy1 hsw hone
          go_wp2_with fail
          go_region
          all_goals go_wp2
          go_roundg (v - 1 + 1 - (u + 1))
          case measure=>omega
          case rel=>exact ⟨u + 1,v - 1,_,by go_num,by congr 1; omega,by omega,by omega,by omega,Nat.le_refl _,by rw [swp_size]; exact hsk,HSW.out,HONE.out,HE2.out.symm⟩
end Go.Proofs.YtliimglbbiebiaaGreatDoor
end

