/- A part of the proof: Sort7, SortShelf, Sort8, SortRd. -/
import Derived.Test.YtliimglbbiebiaaGreatDoorGTopPairsAE
import Derived.Shelf.SlSortCmp.Xorshift
import Derived.Test.YtliimglbbiebiaaGreatDoorProg
import Derived.Sort.LotD5
import Derived.Sort.AssemblyPlain
import Derived.Sort.Walk13a
set_option maxRecDepth 100000
set_option maxHeartbeats 6400000
section
namespace Go.Proofs.YtliimglbbiebiaaGreatDoor
open Go.RowKit Go.Sort
section
variable (lt:Int→Int→Bool)
theorem scanSorted_go (d:Array Int) (b i:Nat) (h:i < b) (hl:lt d[i]! d[i - 1]! = false):scanSorted lt d b i=scanSorted lt d b (i + 1):=by
 conv=>lhs; unfold scanSorted
 rw [hl,decide_eq_true h]
 rfl
theorem scanSorted_stop (d:Array Int) (b i:Nat) (h:¬ i < b∨lt d[i]! d[i - 1]! = true):scanSorted lt d b i=i:=by
 unfold scanSorted
 rcases h with h | h
 · rw [decide_eq_false h]; rfl
 · rw [h,Bool.not_true,Bool.and_false]; rfl
theorem scanSorted_range (d:Array Int) (b:Nat):∀ (n i:Nat),b - i=n→i≤b→i≤scanSorted lt d b i∧scanSorted lt d b i≤b
 | 0,i,hn,h=>by
   rw [scanSorted_stop lt d b i (.inl (by omega))]
   omega
 | n + 1,i,hn,h=>by
   by_cases hl:lt d[i]! d[i - 1]! = true
   · rw [scanSorted_stop lt d b i (.inr hl)]; omega
   · rw [scanSorted_go lt d b i (by omega) (by simpa using hl)]
     have:=scanSorted_range d b n (i + 1) (by omega) (by omega)
     omega
theorem shiftDown_go (j:Nat) (d:Array Int) (h:1≤j) (hl:lt d[j]! d[j - 1]! = true):shiftDown lt j d=shiftDown lt (j - 1) (swp d j (j - 1)):=by
 obtain ⟨k,rfl⟩:∃ k,j=k + 1:=⟨j - 1,by omega⟩
 rw [Nat.add_sub_cancel] at hl ⊢
 conv=>lhs; unfold shiftDown
 rw [hl]
 rfl
theorem shiftDown_stop (j:Nat) (d:Array Int) (h:¬ 1≤j∨lt d[j]! d[j - 1]! = false):shiftDown lt j d=d:=by
 cases j with
 | zero=>rfl
 | succ k =>
   rcases h with h | h
   · omega
   · rw [Nat.add_sub_cancel] at h
     unfold shiftDown
     rw [h]
     rfl
theorem shiftUp_go (b j:Nat) (d:Array Int) (h:j < b) (hl:lt d[j]! d[j - 1]! = true):shiftUp lt b j d=shiftUp lt b (j + 1) (swp d j (j - 1)):=by
 conv=>lhs; unfold shiftUp
 rw [if_pos h,hl]
 rfl
theorem shiftUp_stop (b j:Nat) (d:Array Int) (h:¬ j < b∨lt d[j]! d[j - 1]! = false):shiftUp lt b j d=d:=by
 unfold shiftUp
 rcases h with h | h
 · rw [if_neg h]
 · by_cases hj:j < b
   · rw [if_pos hj,h]; rfl
   · rw [if_neg hj]
theorem partialIns_step (a b s i u:Nat) (d d1 d2 d3:Array Int) (hu:scanSorted lt d b i=u) (h1:swp d u (u - 1)=d1) (h2:(if u - a ≥ 2 then shiftDown lt (u - 1) d1 else d1)=d2) (h3:(if b - u ≥ 2 then shiftUp lt b (u + 1) d2 else d2)=d3) :
 partialIns lt a b (s + 1) i d=if u=b then (d,true) else if b - a < 50 then (d,false) else partialIns lt a b s u d3:=by
 subst hu h1 h2 h3
 rfl
end
theorem partial_any {te:TypeId} {base g c:Nat} {w:World} {d:Array Int} (h:SRow te base w g c d) (a b:Nat) (hab:a < b) (hb:b≤d.size) (hn:d.size≤1000000) :
 Calls Tryz.prog 167 #[.slice (some ⟨g,0,none⟩) d.size c,.int .i64 a,.int .i64 b] w fun e w'=>e=.returned (.bool (partialInsertionSort ltInt d a b).2)∧SRow te base w' g c (partialInsertionSort ltInt d a b).1∧(partialInsertionSort ltInt d a b).1.size=d.size∧One g w w':=by
 have hres:partialInsertionSort ltInt d a b=partialIns ltInt a b 5 (a + 1) d:=rfl
 obtain ⟨r,hr⟩:∃ r,partialIns ltInt a b 5 (a + 1) d=r:=⟨_,rfl⟩
 rw [hres,hr]
 have HR:=Lib.hid hr
 clear hres hr
 go_enter Tryz.func167,Tryz.ntmps167
 go_wp2_with fail
 go_loopg [7,8] 5 (fun k vi vj wr=>∃ (i t:Nat) (dk:Array Int),vi=.int .i64 i∧vj=.int .i64 t∧a < i∧i≤b∧t≤5∧5 - t≤k∧dk.size=d.size∧SRow te base wr g c dk∧One g w wr∧Hid (partialIns ltInt a b (5 - t) i dk=r))
 case atStart=>exact ⟨a + 1,0,d,by go_num,rfl,by omega,by omega,by omega,by omega,rfl,h,One.refl _ _,HR.out⟩
 case round =>
  obtain ⟨i,t,dk,rfl,rfl,hai,hib,ht5,hk,hsk,hR,hO,HE⟩:=hrel
  obtain ⟨wo,rfl⟩:∃ wo:World,wo=wr:=⟨_,rfl⟩
  clear h HR
  by_cases ht:t < 5
  · have htd:decide ((t:Int) < 5)=true:=decide_eq_true (by omega)
    obtain ⟨u,hu⟩:∃ u,scanSorted ltInt dk b i=u:=⟨_,rfl⟩
    obtain ⟨d1,hd1⟩:∃ d1,swp dk u (u - 1)=d1:=⟨_,rfl⟩
    obtain ⟨d2,hd2⟩:∃ d2,(if u - a ≥ 2 then shiftDown ltInt (u - 1) d1 else d1)=d2:=⟨_,rfl⟩
    obtain ⟨d3,hd3⟩:∃ d3,(if b - u ≥ 2 then shiftUp ltInt b (u + 1) d2 else d2)=d3:=⟨_,rfl⟩
    have hstep:=partialIns_step ltInt a b (5 - (t + 1)) i u dk d1 d2 d3 hu hd1 hd2 hd3
    rw [show 5 - (t + 1) + 1=5 - t by omega,HE.out] at hstep
    have hrg:=scanSorted_range ltInt dk b _ i rfl hib
    rw [hu] at hrg
    have hs1d:d1.size=d.size:=by rw [← hd1,swp_size]; exact hsk
    have hS1D:=Lib.hid hs1d
    have hu1:=hrg.1
    have hu2:=hrg.2
    have HU:=Lib.hid hu
    have HST:=Lib.hid hstep
    have HD2a:=Lib.hid hd2
    have HD3a:=Lib.hid hd3
    clear hrg hu hstep hd2 hd3 HE hs1d
    go_upto_block 2 with fail
    go_cut [7] (fun s7 wx=>s7=.int .i64 u∧SRow te base wx g c dk∧One g w wx)
    case first =>
     clear hd1
     go_wp2_with fail
     go_loopw [7] (fun vi wr=>∃ i':Nat,vi=.int .i64 i'∧i≤i'∧i'≤b∧SRow te base wr g c dk∧One g w wr∧Hid (scanSorted ltInt dk b i'=u)) (fun vi _=>b - (intOf vi).toNat)
     case atStart=>exact ⟨i,rfl,Nat.le_refl _,hib,hR,hO,HU⟩
     case round =>
      obtain ⟨i',rfl,hv1,hv2,hRs,hOs,HUs⟩:=hrel
      clear hR hO
      by_cases hle:i' < b
      · have hdn:decide (i' < b)=true:=decide_eq_true hle
        have hdi:decide ((i':Int) < b)=true:=decide_eq_true (by omega)
        have hva:i' < dk.size:=by omega
        have hvI:(i':Int) < d.size:=by omega
        have hs1:IntKind.i64.wrap ((i':Int) - 1)=(i':Int) - 1:=IntWalk.i64_in _ (by omega)
        have hs2:((i':Int) - 1).toNat=i' - 1:=by omega
        have hs3:0≤(i':Int) - 1:=by omega
        have hs4:(i':Int) - 1 < d.size:=by omega
        obtain ⟨y1,hy1⟩:∃ y,dk[i']! = y:=⟨_,rfl⟩
        obtain ⟨y2,hy2⟩:∃ y,dk[i' - 1]! = y:=⟨_,rfl⟩
        have hcx:=fun n=>(hRs.drewN n).cell (t:=i') hva
        have hcy:=fun n=>(hRs.drewN n).cell (t:=i' - 1) (by omega)
        rw [hy1] at hcx
        rw [hy2] at hcy
        have hgo:=scanSorted_go ltInt dk b i' hle
        have hstop:=fun h=>scanSorted_stop ltInt dk b i' (.inr h)
        rw [hy1,hy2] at hgo hstop
        clear hy1 hy2
        obtain ⟨q,hq⟩:∃ q,ltInt y1 y2=q:=⟨_,rfl⟩
        rw [hq] at hgo
        simp only [hq] at hstop
        have HGO:=Lib.hid hgo
        have HSTOP:=Lib.hid hstop
        clear hgo hstop
        have hless:∀ W,Calls Tryz.prog 168 #[.int .u32 y1,.int .u32 y2] W fun e w'=>e=.returned (.bool q)∧w'=W:=fun W=>by rw [← hq]; exact less_any _ _ _
        have HLS:=Lib.hid hless
        clear hless hq
        cases q
        · go_wp2_with fail
          go_quiet ((go_at_call 168; with_reducible (first | exact quiet1 HLS.out | exact quiet2 HLS.out | exact quiet3 HLS.out)))
          go_wp2
          go_roundw
          case rel=>exact ⟨i' + 1,by go_num,by omega,by omega,hRs.drewN _,hOs.drewN _,by show scanSorted ltInt dk b (i' + 1)=u; rw [← HUs.out,HGO.out (by first | exact trivial | exact rfl)]⟩
          case measure=>simp [intOf] <;> omega
        · go_wp2_with fail
          go_quiet ((go_at_call 168; with_reducible (first | exact quiet1 HLS.out | exact quiet2 HLS.out | exact quiet3 HLS.out)))
          go_wp2
          go_meet
          have hu:=HUs.out
          rw [HSTOP.out (by first | exact trivial | exact rfl)] at hu
          exact ⟨congrArg (fun n:Nat=>Value.int .i64 n) hu,hRs.drewN _,hOs.drewN _⟩
      · have hdn:decide (i' < b)=false:=decide_eq_false hle
        have hdi:decide ((i':Int) < b)=false:=decide_eq_false (by omega)
        have hstop:=scanSorted_stop ltInt dk b i' (.inl hle)
        have HSTOP:=Lib.hid hstop
        clear hstop
        go_wp2_with fail
        go_quiet (fail)
        go_wp2
        go_meet
        have hu:=HUs.out
        rw [HSTOP.out] at hu
        exact ⟨congrArg (fun n:Nat=>Value.int .i64 n) hu,hRs.drewN _,hOs.drewN _⟩
    case rest =>
     obtain ⟨rfl,hR1,hO1⟩:=hcut
     clear hR hO
     obtain ⟨wo,rfl⟩:∃ wo:World,wo=wc:=⟨_,rfl⟩
     by_cases hub:u=b
     · have hE:=HST.out
       rw [if_pos hub] at hE
       subst hub hE
       clear hd1
       go_wp2
       go_ret
       first | exact ⟨rfl,hR1,hsk,hO1⟩ | exact ⟨rfl,hR1,hO1⟩
     · have hubI:((u:Int) == (b:Int))=false:=by simp; omega
       have hE:=HST.out
       rw [if_neg hub] at hE
       have hsub:IntKind.i64.wrap ((b:Int) - a)=(b:Int) - a:=IntWalk.i64_in _ (by omega)
       by_cases h50:b - a < 50
       · have h5d:decide ((b:Int) - a < 50)=true:=decide_eq_true (by omega)
         rw [if_pos h50] at hE
         subst hE
         clear hd1
         go_wp2
         go_ret
         first | exact ⟨rfl,hR1,hsk,hO1⟩ | exact ⟨rfl,hR1,hO1⟩
       · have h5d:decide ((b:Int) - a < 50)=false:=decide_eq_false (by omega)
         rw [if_neg h50] at hE
         have HST2:=Lib.hid hE
         clear hE HST
         have hs1:IntKind.i64.wrap ((u:Int) - 1)=(u:Int) - 1:=IntWalk.i64_in _ (by omega)
         have hs2:((u:Int) - 1).toNat=u - 1:=by omega
         have hs3:0≤(u:Int) - 1:=by omega
         have hs4:(u:Int) - 1 < d.size:=by omega
         have hs5:(u:Int) < d.size:=by omega
         have hs6:IntKind.i64.wrap ((u:Int) - a)=(u:Int) - a:=IntWalk.i64_in _ (by omega)
         have hs7:IntKind.i64.wrap ((b:Int) - u)=(b:Int) - u:=IntWalk.i64_in _ (by omega)
         have hs8:IntKind.i64.wrap ((u:Int) + 1)=(u:Int) + 1:=IntWalk.i64_in _ (by omega)
         obtain ⟨x1,hx1⟩:∃ x,dk[u]! = x:=⟨_,rfl⟩
         obtain ⟨y1,hy1⟩:∃ y,dk[u - 1]! = y:=⟨_,rfl⟩
         have hcx0:wo.cell? ⟨g,u,none⟩=_:=hR1.cell (t:=u) (by omega)
         have hcy0:wo.cell? ⟨g,u - 1,none⟩=_:=hR1.cell (t:=u - 1) (by omega)
         have hfx0:wo.frozen? ⟨g,u,none⟩=false:=hR1.frozen (u)
         have hfy0:wo.frozen? ⟨g,u - 1,none⟩=false:=hR1.frozen (u - 1)
         have hsw:=hR1.two0 (u) (u - 1)
         have hone:=One.two0 hO1 (u) (u - 1) (.int .u32 dk[u - 1]!) (.int .u32 dk[u]!)
         obtain ⟨z,hz⟩:=hR1.again (u) (u - 1) dk[u - 1]! (by omega)
         have hzf:(wo.setCell ⟨g,u,none⟩ (.int .u32 dk[u - 1]!)).frozen? ⟨g,u - 1,none⟩=false:=(hR1.one (u) dk[u - 1]!).frozen _
         rw [hx1] at hcx0 hsw hone
         rw [hy1] at hcy0 hsw hone hz hzf
         rw [hd1] at hsw
         have HSW:=Lib.hid hsw
         have HONE:=Lib.hid hone
         have HX1:=Lib.hid hx1
         have HY1:=Lib.hid hy1
         clear hx1 hy1 hsw hone
         clear hd1
         go_upto_if 61 with (first | go_region | fail)
         have hR2:=HSW.out
         have hO2:=HONE.out
         have hs1d:=hS1D.out
         go_cut [] (fun wx=>SRow te base wx g c d2∧One g w wx∧d2.size=d.size)
         case first =>
          by_cases h2:u - a ≥ 2
          · have h2d:decide (2≤(u:Int) - a)=true:=decide_eq_true (by omega)
            have hd2:=HD2a.out
            rw [if_pos h2] at hd2
            have HD2:=Lib.hid hd2
            clear hd2
            clear HD2a
            try simp only [h2d]
            go_wp2_with fail
            go_loopg [9] ((u - 1)) (fun k vi wr=>∃ (j:Nat) (dj:Array Int),vi=.int .i64 j∧j≤k∧j≤(u - 1)∧dj.size=d.size∧SRow te base wr g c dj∧One g w wr∧Hid (shiftDown ltInt j dj=d2))
            case atStart=>exact ⟨(u - 1),d1,by first | rfl | go_num | (congr 1; omega),by omega,Nat.le_refl _,hs1d,hR2,hO2,HD2.out⟩
            case round =>
             obtain ⟨j,dj,rfl,hjk,hj1,hsj,hRs,hOs,HJ⟩:=hrel
             clear hR2 hO2
             by_cases hle:1≤j
             · have hdn:decide (1≤j)=true:=decide_eq_true hle
               have hdi:decide ((1:Int)≤j)=true:=decide_eq_true (by omega)
               have hva:j < dj.size:=by omega
               have hvI:(j:Int) < d.size:=by omega
               have hs1:IntKind.i64.wrap ((j:Int) - 1)=(j:Int) - 1:=IntWalk.i64_in _ (by omega)
               have hs2:((j:Int) - 1).toNat=j - 1:=by omega
               have hs3:0≤(j:Int) - 1:=by omega
               have hs4:(j:Int) - 1 < d.size:=by omega
               obtain ⟨y1,hy1⟩:∃ y,dj[j]! = y:=⟨_,rfl⟩
               obtain ⟨y2,hy2⟩:∃ y,dj[j - 1]! = y:=⟨_,rfl⟩
               have hcx:=fun n=>(hRs.drewN n).cell (t:=j) hva
               have hcy:=fun n=>(hRs.drewN n).cell (t:=j - 1) (by omega)
               rw [hy1] at hcx
               rw [hy2] at hcy
               have hfw:=fun n=>(hRs.drewN n).frozen j
               have hfv:=fun n=>(hRs.drewN n).frozen (j - 1)
               have hsw:=fun n=>hRs.two n j (j - 1)
               have hone:=fun n=>One.two hOs n j (j - 1) (.int .u32 dj[j - 1]!) (.int .u32 dj[j]!)
               have hgo:=shiftDown_go ltInt j dj hle
               have hstop:=fun h=>shiftDown_stop ltInt j dj (.inr h)
               rw [hy1,hy2] at hgo hstop hone
               simp only [hy1,hy2] at hsw
               have HSW:=Lib.hid hsw
               have HONE:=Lib.hid hone
               clear hy1 hy2 hsw hone
               obtain ⟨q,hq⟩:∃ q,ltInt y1 y2=q:=⟨_,rfl⟩
               rw [hq] at hgo
               simp only [hq] at hstop
               have HGO:=Lib.hid hgo
               have HSTOP:=Lib.hid hstop
               clear hgo hstop
               have hless:∀ W,Calls Tryz.prog 168 #[.int .u32 y1,.int .u32 y2] W fun e w'=>e=.returned (.bool q)∧w'=W:=fun W=>by rw [← hq]; exact less_any _ _ _
               have HLS:=Lib.hid hless
               clear hless hq
               cases q
               · go_wp2_with fail
                 go_quiet ((go_at_call 168; with_reducible (first | exact quiet1 HLS.out | exact quiet2 HLS.out | exact quiet3 HLS.out)))
                 go_wp2
                 have hE:=HJ.out
                 rw [HSTOP.out (by first | exact trivial | exact rfl)] at hE
                 subst hE
                 go_meet
                 exact ⟨(hRs.drewN _),(hOs.drewN _),hsj⟩
               · go_wp2_with fail
                 go_quiet ((go_at_call 168; with_reducible (first | exact quiet1 HLS.out | exact quiet2 HLS.out | exact quiet3 HLS.out)))
                 go_wp2
                 go_region
                 all_goals go_wp2
                 go_roundg (j - 1)
                 case measure=>omega
                 case rel =>
                  refine ⟨j - 1,swp dj j (j - 1),by first | rfl | go_num | (congr 1; omega),Nat.le_refl _,by omega,by rw [swp_size]; exact hsj,HSW.out _,HONE.out _,?_⟩
                  show shiftDown ltInt (j - 1) (swp dj j (j - 1))=d2
                  rw [← HJ.out,HGO.out (by first | exact trivial | exact rfl)]
             · have hdn:decide (1≤j)=false:=decide_eq_false hle
               have hdi:decide ((1:Int)≤j)=false:=decide_eq_false (by omega)
               have hE:=HJ.out
               rw [shiftDown_stop ltInt j dj (.inl hle)] at hE
               subst hE
               go_wp2
               go_meet
               exact ⟨hRs,hOs,hsj⟩
          · have h2d:decide (2≤(u:Int) - a)=false:=decide_eq_false (by omega)
            have hd2:=HD2a.out
            rw [if_neg h2] at hd2
            subst hd2
            go_wp2
            go_meet
            exact ⟨hR2,hO2,hs1d⟩
         case rest =>
          obtain ⟨hR3,hO3,hs2d⟩:=hcut
          clear hR2 hO2 hcx0 hcy0 hfx0 hfy0 hz hzf HSW HONE HX1 HY1 hR1 hO1 hs1d
          obtain ⟨wo,rfl⟩:∃ wo:World,wo=wc:=⟨_,rfl⟩
          have HST3:=Lib.hid HST2.out.symm
          by_cases h2:b - u ≥ 2
          · have h2d:decide (2≤(b:Int) - u)=true:=decide_eq_true (by omega)
            have hd3:=HD3a.out
            rw [if_pos h2] at hd3
            have HD3:=Lib.hid hd3
            clear hd3 HD3a
            go_wp2_with fail
            go_loopg [10] (b) (fun k vi wr=>∃ (j:Nat) (dj:Array Int),vi=.int .i64 j∧b - j≤k∧(u + 1)≤j∧j≤b∧dj.size=d.size∧SRow te base wr g c dj∧One g w wr∧Hid (shiftUp ltInt b j dj=d3))
            case atStart=>exact ⟨(u + 1),d2,by first | rfl | go_num | (congr 1; omega),by omega,Nat.le_refl _,by omega,hs2d,hR3,hO3,HD3.out⟩
            case round =>
             obtain ⟨j,dj,rfl,hjk,hj1,hj2,hsj,hRs,hOs,HJ⟩:=hrel
             clear hR3 hO3
             by_cases hle:j < b
             · have hdn:decide (j < b)=true:=decide_eq_true hle
               have hdi:decide ((j:Int) < b)=true:=decide_eq_true (by omega)
               have hva:j < dj.size:=by omega
               have hvI:(j:Int) < d.size:=by omega
               have hs1:IntKind.i64.wrap ((j:Int) - 1)=(j:Int) - 1:=IntWalk.i64_in _ (by omega)
               have hs2:((j:Int) - 1).toNat=j - 1:=by omega
               have hs3:0≤(j:Int) - 1:=by omega
               have hs4:(j:Int) - 1 < d.size:=by omega
               obtain ⟨y1,hy1⟩:∃ y,dj[j]! = y:=⟨_,rfl⟩
               obtain ⟨y2,hy2⟩:∃ y,dj[j - 1]! = y:=⟨_,rfl⟩
               have hcx:=fun n=>(hRs.drewN n).cell (t:=j) hva
               have hcy:=fun n=>(hRs.drewN n).cell (t:=j - 1) (by omega)
               rw [hy1] at hcx
               rw [hy2] at hcy
               have hfw:=fun n=>(hRs.drewN n).frozen j
               have hfv:=fun n=>(hRs.drewN n).frozen (j - 1)
               have hsw:=fun n=>hRs.two n j (j - 1)
               have hone:=fun n=>One.two hOs n j (j - 1) (.int .u32 dj[j - 1]!) (.int .u32 dj[j]!)
               have hgo:=shiftUp_go ltInt b j dj hle
               have hstop:=fun h=>shiftUp_stop ltInt b j dj (.inr h)
               rw [hy1,hy2] at hgo hstop hone
               simp only [hy1,hy2] at hsw
               have HSW:=Lib.hid hsw
               have HONE:=Lib.hid hone
               clear hy1 hy2 hsw hone
               obtain ⟨q,hq⟩:∃ q,ltInt y1 y2=q:=⟨_,rfl⟩
               rw [hq] at hgo
               simp only [hq] at hstop
               have HGO:=Lib.hid hgo
               have HSTOP:=Lib.hid hstop
               clear hgo hstop
               have hless:∀ W,Calls Tryz.prog 168 #[.int .u32 y1,.int .u32 y2] W fun e w'=>e=.returned (.bool q)∧w'=W:=fun W=>by rw [← hq]; exact less_any _ _ _
               have HLS:=Lib.hid hless
               clear hless hq
               cases q
               · go_wp2_with fail
                 go_quiet ((go_at_call 168; with_reducible (first | exact quiet1 HLS.out | exact quiet2 HLS.out | exact quiet3 HLS.out)))
                 go_wp2
                 have hE:=HJ.out
                 rw [HSTOP.out (by first | exact trivial | exact rfl)] at hE
                 subst hE
                 go_roundg (5 - (t + 1))
                 case measure=>omega
                 case rel=>exact ⟨u,t + 1,_,rfl,by go_num,by omega,by omega,by omega,Nat.le_refl _,hsj,(hRs.drewN _),(hOs.drewN _),HST3.out⟩
               · go_wp2_with fail
                 go_quiet ((go_at_call 168; with_reducible (first | exact quiet1 HLS.out | exact quiet2 HLS.out | exact quiet3 HLS.out)))
                 go_wp2
                 go_region
                 all_goals go_wp2
                 go_roundg (b - (j + 1))
                 case measure=>omega
                 case rel =>
                  refine ⟨j + 1,swp dj j (j - 1),by first | rfl | go_num | (congr 1; omega),Nat.le_refl _,by omega,by omega,by rw [swp_size]; exact hsj,HSW.out _,HONE.out _,?_⟩
                  show shiftUp ltInt b (j + 1) (swp dj j (j - 1))=d3
                  rw [← HJ.out,HGO.out (by first | exact trivial | exact rfl)]
             · have hdn:decide (j < b)=false:=decide_eq_false hle
               have hdi:decide ((j:Int) < b)=false:=decide_eq_false (by omega)
               have hE:=HJ.out
               rw [shiftUp_stop ltInt b j dj (.inl hle)] at hE
               subst hE
               go_wp2
               go_roundg (5 - (t + 1))
               case measure=>omega
               case rel=>exact ⟨u,t + 1,_,rfl,by go_num,by omega,by omega,by omega,Nat.le_refl _,hsj,hRs,hOs,HST3.out⟩
          · have h2d:decide (2≤(b:Int) - u)=false:=decide_eq_false (by omega)
            have hd3:=HD3a.out
            rw [if_neg h2] at hd3
            subst hd3
            go_wp2
            go_roundg (5 - (t + 1))
            case measure=>omega
            case rel=>exact ⟨u,t + 1,_,rfl,by go_num,by omega,by omega,by omega,Nat.le_refl _,hs2d,hR3,hO3,HST3.out⟩
  · have htd:decide ((t:Int) < 5)=false:=decide_eq_false (by omega)
    have hE:=HE.out
    rw [show 5 - t=0 by omega] at hE
    have hE2:(dk,false)=r:=hE
    subst hE2
    clear hE
    go_wp2
    go_ret
    first | exact ⟨rfl,hR,hsk,hO⟩ | exact ⟨rfl,hR,hO⟩
end Go.Proofs.YtliimglbbiebiaaGreatDoor
end

section
namespace Go.Proofs.YtliimglbbiebiaaGreatDoor
open Go.Shelf Go.Proofs
def xsA_ren:Go.Shelf.Ren:=⟨fun | 48=>220 | n=>n,fun | 76=>391 | 55=>146 | 0=>0 | 66=>331 | 39=>214 | n=>n,fun | n=>n⟩
theorem xsA:Go.Proofs.SlLaysF0.n48 Tryz.prog xsA_ren:={
 mixed:=by kernel_rfl
 f48:=Tryz.func220.trans (congrArg some (by kernel_rfl))
 t0:=Tryz.underlying0
 a0:=Tryz.isAgg0
 z0:=Tryz.sizeOf0
 v0:=Tryz.zeroValue0
 t39:=Tryz.underlying214
 a39:=Tryz.isAgg214
 z39:=Tryz.sizeOf214
 v39:=Tryz.zeroValue214
 t55:=Tryz.underlying146
 a55:=Tryz.isAgg146
 z55:=Tryz.sizeOf146
 v55:=Tryz.zeroValue146
 t66:=Tryz.underlying331
 a66:=Tryz.isAgg331
 z66:=Tryz.sizeOf331
 v66:=Tryz.zeroValue331
 t76:=Tryz.underlying391
 a76:=Tryz.isAgg391
 z76:=Tryz.sizeOf391
 v76:=Tryz.zeroValue391 }
def npA_ren:Go.Shelf.Ren:=⟨fun | 47=>219 | 15=>118 | 28=>171 | 29=>172 | n=>n,fun | 3=>3 | 39=>214 | 53=>28 | 55=>146 | 4=>4 | 5=>5 | 9=>9 | n=>n,fun | n=>n⟩
theorem npA:Go.Proofs.SlLaysF0.n47 Tryz.prog npA_ren:={
 mixed:=by kernel_rfl
 f15:=Tryz.func118.trans (congrArg some (by kernel_rfl))
 f28:=Tryz.func171.trans (congrArg some (by kernel_rfl))
 f29:=Tryz.func172.trans (congrArg some (by kernel_rfl))
 f47:=Tryz.func219.trans (congrArg some (by kernel_rfl))
 t3:=Tryz.underlying3
 a3:=Tryz.isAgg3
 z3:=Tryz.sizeOf3
 v3:=Tryz.zeroValue3
 t4:=Tryz.underlying4
 a4:=Tryz.isAgg4
 z4:=Tryz.sizeOf4
 v4:=Tryz.zeroValue4
 t5:=Tryz.underlying5
 a5:=Tryz.isAgg5
 z5:=Tryz.sizeOf5
 v5:=Tryz.zeroValue5
 t9:=Tryz.underlying9
 a9:=Tryz.isAgg9
 z9:=Tryz.sizeOf9
 v9:=Tryz.zeroValue9
 t39:=Tryz.underlying214
 a39:=Tryz.isAgg214
 z39:=Tryz.sizeOf214
 v39:=Tryz.zeroValue214
 t53:=Tryz.underlying28
 a53:=Tryz.isAgg28
 z53:=Tryz.sizeOf28
 v53:=Tryz.zeroValue28
 t55:=Tryz.underlying146
 a55:=Tryz.isAgg146
 z55:=Tryz.sizeOf146
 v55:=Tryz.zeroValue146 }
end Go.Proofs.YtliimglbbiebiaaGreatDoor
end

section
namespace Go.Proofs.YtliimglbbiebiaaGreatDoor
open Go.RowKit Go.Sort
def bpRest (a L M i0:Nat):Nat→Nat→UInt64 × Array Int→Array Int
 | 0,_,st=>st.2
 | k + 1,t,st=>bpRest a L M i0 k (t + 1) (breakStep a L M st (i0 + t))
theorem break_eq (d:Array Int) (a b L i0:Nat) (hL:b - a=L) (h8:8≤L) (hi:i0=a + L / 4 * 2 - 1):breakPatterns d a b=bpRest a L (1 <<< bitsLen L) i0 3 0 (UInt64.ofNat L,d):=by
 subst hL hi
 unfold breakPatterns
 rw [if_pos h8]
 rfl
theorem bpRest_step (a L M i0 t:Nat) (r:UInt64) (d:Array Int) (o:Nat) (ht:t < 3) (ho:(if (xorNext r).toNat &&& (M - 1) ≥ L then ((xorNext r).toNat &&& (M - 1)) - L else (xorNext r).toNat &&& (M - 1))=o) :
 bpRest a L M i0 (3 - t) t (r,d)=bpRest a L M i0 (3 - (t + 1)) (t + 1) (xorNext r,swp d (i0 + t) (a + o)):=by
 obtain ⟨k,hk⟩:∃ k,k=3 - (t + 1):=⟨_,rfl⟩
 rw [show 3 - t=k + 1 by omega,← hk]
 subst ho
 rfl
theorem break_any {te:TypeId} {base g c:Nat} {w:World} {d:Array Int} (h:SRow te base w g c d) (a b:Nat) (hab:a≤b) (hb:b≤d.size) (hn:d.size≤1000000) :
 Calls Tryz.prog 164 #[.slice (some ⟨g,0,none⟩) d.size c,.int .i64 a,.int .i64 b] w fun e w'=>e=.returned (.tuple #[])∧SRow te base w' g c (breakPatterns d a b)∧(breakPatterns d a b).size=d.size∧One g w w':=by
 obtain ⟨L,hL⟩:∃ L,L=b - a:=⟨_,rfl⟩
 have hLI:(b:Int) - (a:Int)=L:=by omega
 have hLb:a + L≤b:=by omega
 by_cases h8:L < 8
 · have hr:breakPatterns d a b=d:=by unfold breakPatterns; simp only []; rw [if_neg (by omega)]
   have hd8:decide (8≤(L:Int))=false:=decide_eq_false (by omega)
   rw [hr]
   clear hr hL
   go_enter Tryz.func164,Tryz.ntmps164
   go_wp2
   go_end0
   exact ⟨by trivial,h,by trivial,One.refl _ _⟩
 · have hd8:decide (8≤(L:Int))=true:=decide_eq_true (by omega)
   obtain ⟨q,hq⟩:∃ q,q=L / 4:=⟨_,rfl⟩
   have hqI:(L:Int) / 4=q:=by omega
   obtain ⟨i0,hi0⟩:∃ i0,i0=a + L / 4 * 2 - 1:=⟨_,rfl⟩
   obtain ⟨res,hres⟩:∃ res,breakPatterns d a b=res:=⟨_,rfl⟩
   have he:=break_eq d a b L i0 hL.symm (by omega) hi0
   rw [hres] at he ⊢
   have hi1:i0 + 1=a + q * 2:=by omega
   have hq1:2≤q:=by omega
   have hq4:4 * q≤L:=by omega
   have hi2:a < i0:=by omega
   have hi3:i0 + 2 < a + L:=by omega
   have e0:IntKind.i64.wrap ((q:Int) * 2)=(q:Int) * 2:=IntWalk.i64_in _ (by omega)
   have e1:IntKind.i64.wrap ((a:Int) + q * 2)=(a:Int) + q * 2:=IntWalk.i64_in _ (by omega)
   have e2:IntKind.i64.wrap ((a:Int) + q * 2 - 1)=(i0:Int):=by rw [IntWalk.i64_in _ (by omega)]; omega
   have e3:IntKind.i64.wrap ((a:Int) + q * 2 + 1)=(a:Int) + q * 2 + 1:=IntWalk.i64_in _ (by omega)
   have e4:IntKind.u64.wrap (L:Int)=L:=by simp [IntKind.wrap,IntKind.bits,IntKind.signed]; omega
   obtain ⟨M,hM⟩:∃ M:Nat,M=1 <<< bitsLen L:=⟨_,rfl⟩
   have hM1:1≤M:=by rw [hM,Nat.one_shiftLeft]; exact Nat.two_pow_pos _
   have hM2:M≤2 * L:=by rw [hM,Nat.one_shiftLeft]; exact two_pow_bitsLen_le (by omega)
   have hNP:∀ w,Calls Tryz.prog 219 #[.int .i64 (L:Int)] w fun e w'=>e=.returned (.int .u64 (M:Int))∧w'=w:=by rw [hM]; exact fun w=>AnyF.nextPowerOfTwo npA L (by omega) w
   rw [← hM] at he
   have HNP:=Lib.hid hNP
   have HE:=Lib.hid he
   have hglt:=h.lt
   have hgs:g≠w.heap.size:=by omega
   have hbox:Blk (w.alloc (.cells #[.int .u64 (L:Int)] 331)) w.heap.size 331 #[.int .u64 (L:Int)]:=Blk.new _ _ _
   have hu0:(UInt64.ofNat L).toNat=L:=by simp; omega
   have h0:=h.new ((New.refl w).alloc (.cells #[.int .u64 (L:Int)] 331))
   have ho0:One g w (w.alloc (.cells #[.int .u64 (L:Int)] 331)):=(One.refl g w).alloc _
   have HBOX:=Lib.hid hbox
   have HU0:=Lib.hid hu0
   have HI1:=Lib.hid hi1
   have hi1a:i0 + 1≤a + q * 2:=by omega
   have hi1b:a + q * 2≤i0 + 1:=by omega
   clear hNP he hM hi0 hq hL hres hbox hu0 hi1
   go_enter Tryz.func164,Tryz.ntmps164
   go_wp2_with (go_at_call 219; refine (HNP.out _).mono ?_; rintro e w' ⟨rfl,rfl⟩)
   go_loopw [9] (fun vi wr=>∃ (x t:Nat) (r:UInt64) (dk:Array Int),vi=.int .i64 x∧x≤i0 + t∧i0 + t≤x∧t≤3∧0≤t∧dk.size=d.size∧SRow te base wr g c dk∧Blk wr w.heap.size 331 #[.int .u64 (r.toNat:Int)]∧One g w wr∧Hid (bpRest a L M i0 (3 - t) t (r,dk)=res)) (fun vi _=>i0 + 3 - (intOf vi).toNat)
   case atStart=>exact ⟨i0,0,UInt64.ofNat L,d,by go_num,by omega,by omega,by omega,by omega,rfl,h0,by rw [HU0.out]; exact HBOX.out,ho0,HE.out.symm⟩
   case round =>
    obtain ⟨x,t,r,dk,rfl,hx1,hx2,ht3,_,hsk,hR,hB,hO,HR⟩:=hrel
    clear h h0 ho0
    by_cases ht:t < 3
    · have hdl:decide ((x:Int)≤(a:Int) + q * 2 + 1)=true:=decide_eq_true (by omega)
      obtain ⟨R,hRr⟩:∃ R:Nat,R=r.toNat:=⟨_,rfl⟩
      have lR:R < 18446744073709551616:=by rw [hRr]; exact r.toNat_lt
      obtain ⟨R',hR'⟩:∃ R':Nat,R'=xorNextN R:=⟨_,rfl⟩
      have lR':R' < 18446744073709551616:=by rw [hR']; exact xorNextN_lt R lR
      obtain ⟨O,hOo⟩:∃ O:Nat,O=R' &&& (M - 1):=⟨_,rfl⟩
      have lO:O≤M - 1:=by rw [hOo]; exact Nat.and_le_right
      have eAnd:bits .and .u64 (R':Int) ((M:Int) - 1)=(O:Int):=by
       rw [show ((M:Int) - 1)=((M - 1:Nat):Int) by omega,bits_and_u64_nat _ _ lR' (by omega),hOo]
      have eM:IntKind.u64.wrap ((M:Int) - 1)=(M:Int) - 1:=by simp [IntKind.wrap,IntKind.bits,IntKind.signed]; omega
      have eO:IntKind.i64.wrap (O:Int)=O:=IntWalk.i64_in _ (by omega)
      have HN:Hid ((xorNext r).toNat=R'∧O=(xorNext r).toNat &&& (M - 1)):=by
       have e:R'=(xorNext r).toNat:=by rw [hR',hRr,xorNext_toNat]
       exact ⟨e.symm,by rw [hOo,e]⟩
      rw [← hRr] at hB
      have hNext:Calls Tryz.prog 220 #[.pointer (some ⟨w.heap.size,0,none⟩)] wr fun e w'=>e=.returned (.int .u64 (R':Int))∧SRow te base w' g c dk∧Blk w' w.heap.size 331 #[.int .u64 (R':Int)]∧One g w w':=by
       refine (AnyF.xorshift_Next xsA w.heap.size 0 R lR wr (hB.cell 0) (hB.frozen 0)).mono ?_
       rintro e w' ⟨rfl,rfl⟩
       have hOs:One w.heap.size wr ((wr.setCell ⟨w.heap.size,0,none⟩ (.int .u64 (xorNextN R:Nat))).drewN 3):=Fr.drewN (One.set (One.refl _ _) 0 _) 3
       rw [hR']
       refine ⟨rfl,hR.fr hOs (fun e=>hgs e),?_,Fr.trans' hO hOs (fun _ hi e=>by subst e; omega)⟩
       exact (hB.set_ 0 (.int .u64 (xorNextN R:Nat))).drewN 3
      have HNEXT:=Lib.hid hNext
      clear hNext hRr hR' hOo hB hR hO
      by_cases hLO:L≤O
      · have hd:decide ((L:Int)≤O)=true:=decide_eq_true (by omega)
        go_wp2_with (go_at_call 220; refine HNEXT.out.mono ?_; rintro e w2 ⟨rfl,hR2,hB2,hO2⟩)
        have hst:=bpRest_step a L M i0 t r dk (O - L) ht (by rw [← HN.out.2]; rw [if_pos hLO])
        rw [HR.out] at hst
        have HST:=Lib.hid hst
        clear hst
        have hj0:a + (O - L) < dk.size:=by omega
        have hs1:IntKind.i64.wrap ((O:Int) - L)=(O:Int) - L:=IntWalk.i64_in _ (by omega)
        have hs2:IntKind.i64.wrap ((a:Int) + ((O:Int) - L))=(a:Int) + ((O:Int) - L):=IntWalk.i64_in _ (by omega)
        have hs3:((a:Int) + ((O:Int) - L)).toNat=a + (O - L):=by omega
        have hs4:0≤(a:Int) + ((O:Int) - L):=by omega
        have hs5:(a:Int) + ((O:Int) - L) < d.size:=by omega
        have hs6:(x:Int) < d.size:=by omega
        have hs7:IntKind.i64.wrap ((x:Int) + 1)=(x:Int) + 1:=IntWalk.i64_in _ (by omega)
        obtain ⟨x1,hx1⟩:∃ xx,dk[x]! = xx:=⟨_,rfl⟩
        obtain ⟨y1,hy1⟩:∃ y,dk[a + (O - L)]! = y:=⟨_,rfl⟩
        have hcx0:w2.cell? ⟨g,x,none⟩=_:=hR2.cell (t:=x) (by omega)
        have hcy0:w2.cell? ⟨g,a + (O - L),none⟩=_:=hR2.cell (t:=a + (O - L)) (by omega)
        have hfx0:w2.frozen? ⟨g,x,none⟩=false:=hR2.frozen (x)
        have hfy0:w2.frozen? ⟨g,a + (O - L),none⟩=false:=hR2.frozen (a + (O - L))
        have hsw:=hR2.two0 (x) (a + (O - L))
        have hone:=One.two0 hO2 (x) (a + (O - L)) (.int .u32 dk[a + (O - L)]!) (.int .u32 dk[x]!)
        obtain ⟨z,hz⟩:=hR2.again (x) (a + (O - L)) dk[a + (O - L)]! (by omega)
        have hzf:(w2.setCell ⟨g,x,none⟩ (.int .u32 dk[a + (O - L)]!)).frozen? ⟨g,a + (O - L),none⟩=false:=(hR2.one (x) dk[a + (O - L)]!).frozen _
        rw [hx1] at hcx0 hsw hone
        rw [hy1] at hcy0 hsw hone hz hzf
        have HSW:=Lib.hid hsw
        have HONE:=Lib.hid hone
        have HX1:=Lib.hid hx1
        have HY1:=Lib.hid hy1
        clear hx1 hy1 hsw hone
        have hbx:=(((hB2.far (p:=⟨g,x,none⟩) (fun e=>hgs e.symm) (.int .u32 y1)).far (p:=⟨g,a + (O - L),none⟩) (fun e=>hgs e.symm) (.int .u32 x1))).drew
        have HBX:=Lib.hid hbx
        clear hbx
        go_wp2_with fail
        go_region
        all_goals go_wp2
        go_roundw
        case rel =>
         refine ⟨x + 1,t + 1,xorNext r,_,by go_num,by omega,by omega,by omega,by omega,by rw [swp_size]; exact hsk,HSW.out,by rw [HN.out.1]; exact HBX.out,HONE.out,?_⟩
         rw [show x=i0 + t by omega]; exact HST.out.symm
        case measure=>simp [intOf] <;> omega
      · have hd:decide ((L:Int)≤O)=false:=decide_eq_false (by omega)
        go_wp2_with (go_at_call 220; refine HNEXT.out.mono ?_; rintro e w2 ⟨rfl,hR2,hB2,hO2⟩)
        have hst:=bpRest_step a L M i0 t r dk (O) ht (by rw [← HN.out.2]; rw [if_neg hLO])
        rw [HR.out] at hst
        have HST:=Lib.hid hst
        clear hst
        have hj0:a + O < dk.size:=by omega
        have hs1:IntKind.i64.wrap ((O:Int) - L)=(O:Int) - L:=IntWalk.i64_in _ (by omega)
        have hs2:IntKind.i64.wrap ((a:Int) + O)=(a:Int) + O:=IntWalk.i64_in _ (by omega)
        have hs3:((a:Int) + O).toNat=a + O:=by omega
        have hs4:0≤(a:Int) + O:=by omega
        have hs5:(a:Int) + O < d.size:=by omega
        have hs6:(x:Int) < d.size:=by omega
        have hs7:IntKind.i64.wrap ((x:Int) + 1)=(x:Int) + 1:=IntWalk.i64_in _ (by omega)
        obtain ⟨x1,hx1⟩:∃ xx,dk[x]! = xx:=⟨_,rfl⟩
        obtain ⟨y1,hy1⟩:∃ y,dk[a + O]! = y:=⟨_,rfl⟩
        have hcx0:w2.cell? ⟨g,x,none⟩=_:=hR2.cell (t:=x) (by omega)
        have hcy0:w2.cell? ⟨g,a + O,none⟩=_:=hR2.cell (t:=a + O) (by omega)
        have hfx0:w2.frozen? ⟨g,x,none⟩=false:=hR2.frozen (x)
        have hfy0:w2.frozen? ⟨g,a + O,none⟩=false:=hR2.frozen (a + O)
        have hsw:=hR2.two0 (x) (a + O)
        have hone:=One.two0 hO2 (x) (a + O) (.int .u32 dk[a + O]!) (.int .u32 dk[x]!)
        obtain ⟨z,hz⟩:=hR2.again (x) (a + O) dk[a + O]! (by omega)
        have hzf:(w2.setCell ⟨g,x,none⟩ (.int .u32 dk[a + O]!)).frozen? ⟨g,a + O,none⟩=false:=(hR2.one (x) dk[a + O]!).frozen _
        rw [hx1] at hcx0 hsw hone
        rw [hy1] at hcy0 hsw hone hz hzf
        have HSW:=Lib.hid hsw
        have HONE:=Lib.hid hone
        have HX1:=Lib.hid hx1
        have HY1:=Lib.hid hy1
        clear hx1 hy1 hsw hone
        have hbx:=(((hB2.far (p:=⟨g,x,none⟩) (fun e=>hgs e.symm) (.int .u32 y1)).far (p:=⟨g,a + O,none⟩) (fun e=>hgs e.symm) (.int .u32 x1))).drew
        have HBX:=Lib.hid hbx
        clear hbx
        go_wp2_with fail
        go_region
        all_goals go_wp2
        go_roundw
        case rel =>
         refine ⟨x + 1,t + 1,xorNext r,_,by go_num,by omega,by omega,by omega,by omega,by rw [swp_size]; exact hsk,HSW.out,by rw [HN.out.1]; exact HBX.out,HONE.out,?_⟩
         rw [show x=i0 + t by omega]; exact HST.out.symm
        case measure=>simp [intOf] <;> omega
    · have hdl:decide ((x:Int)≤(a:Int) + q * 2 + 1)=false:=decide_eq_false (by omega)
      have hE:=HR.out
      rw [show 3 - t=0 by omega] at hE
      have hE2:dk=res:=hE
      subst hE2
      clear hE
      go_wp2
      go_end0
      first | exact ⟨rfl,hR,hsk,hO⟩ | exact ⟨trivial,hR,hsk,hO⟩ | exact ⟨rfl,hR,hO⟩ | exact ⟨trivial,hR,trivial,hO⟩
end Go.Proofs.YtliimglbbiebiaaGreatDoor
end

section
namespace Go.Proofs.YtliimglbbiebiaaGreatDoor
open Go.Sort
structure RdF (dk:Array Int) (a b lim:Nat) (wb wp:Bool) (d1:Array Int) (lm c:Nat) (ch:Hint) (d2:Array Int) (pv:Nat) (ht:Hint) (d3:Array Int) (dn:Bool):Prop where
 s1:d1.size=dk.size
 brk:wb=false→breakPatterns dk a b=d1∧lm=lim - 1
 bal:wb=true→dk=d1∧lm=lim
 lm_le:lm≤lim
 cp:choosePivot ltInt d1 a b=(c,ch)
 c_lo:a≤c
 c_hi:c < b
 s2:d2.size=dk.size
 dec:ch=.decreasing→reverseRange d1 a b=d2∧pv=(b - 1) - (c - a)∧ht=.increasing
 ndec:ch≠.decreasing→d1=d2∧pv=c∧ht=ch
 p_lo:a≤pv
 p_hi:pv < b
 par:(wb && wp && decide (ht=.increasing))=true→partialInsertionSort ltInt d2 a b=(d3,dn)
 npar:(wb && wp && decide (ht=.increasing))=false→d2=d3∧dn=false
 s3:d3.size=dk.size
 bel:Below ltInt a b d3
 fin:dn=true→pdq ltInt dk a b lim wb wp=d3
 eq_:dn=false→(decide (a > 0) && !ltInt d3[a - 1]! d3[pv]!)=true→∀ mid d4,partitionEqual ltInt d3 a b pv=(mid,d4) →
  a < mid∧mid≤b∧d4.size=dk.size∧Below ltInt mid b d4∧pdq ltInt dk a b lim wb wp=pdq ltInt d4 mid b lm wb wp
 part:dn=false→(decide (a > 0) && !ltInt d3[a - 1]! d3[pv]!)=false→∀ mid ap d4,partition ltInt d3 a b pv=(mid,ap,d4) →
  a≤mid∧mid < b∧d4.size=dk.size ∧
  (mid - a < b - mid→Below ltInt a mid d4∧(pdq ltInt d4 a mid lm true true).size=dk.size∧Below ltInt (mid + 1) b (pdq ltInt d4 a mid lm true true) ∧
    pdq ltInt dk a b lim wb wp=pdq ltInt (pdq ltInt d4 a mid lm true true) (mid + 1) b lm (decide (mid - a ≥ (b - a) / 8)) ap) ∧
  (¬ mid - a < b - mid→Below ltInt (mid + 1) b d4∧(pdq ltInt d4 (mid + 1) b lm true true).size=dk.size∧Below ltInt a mid (pdq ltInt d4 (mid + 1) b lm true true) ∧
    pdq ltInt dk a b lim wb wp=pdq ltInt (pdq ltInt d4 (mid + 1) b lm true true) a mid lm (decide (b - mid ≥ (b - a) / 8)) ap)
theorem RdF.make (dk:Array Int) (a b lim:Nat) (wb wp:Bool) (h12:¬ b - a≤12) (hl0:¬ lim=0) (hb:b≤dk.size) (hB:Below ltInt a b dk) :
 ∃ d1 lm c ch d2 pv ht d3 dn,RdF dk a b lim wb wp d1 lm c ch d2 pv ht d3 dn:=by
 obtain ⟨s1,_,hc,s2,_,hpv,s3,B3⟩:=rd_facts (limit:=lim) (wb:=wb) (wp:=wp) swo_ltInt partialInsertionSort_holds reverseRange_holds (show a < b by omega) hb hB
 refine ⟨(rd ltInt dk a b lim wb wp).d1,(rd ltInt dk a b lim wb wp).lim,(rd ltInt dk a b lim wb wp).c.1,(rd ltInt dk a b lim wb wp).c.2,(rd ltInt dk a b lim wb wp).d2,(rd ltInt dk a b lim wb wp).pivot,(rd ltInt dk a b lim wb wp).hint,(rd ltInt dk a b lim wb wp).pi.1,(rd ltInt dk a b lim wb wp).pi.2,?_⟩
 refine ⟨s1,fun h=>?_,fun h=>?_,rd_lim_le,rd_c.symm,hc.1,hc.2,s2,fun h=>?_,fun h=>?_,hpv.1,hpv.2,fun h=>?_,fun h=>?_,s3,B3,fun h=>pdq_done h12 hl0 h,fun h1 h2 mid d4 hx=>?_,fun h1 h2 mid ap d4 hx=>?_⟩
 · subst h; exact ⟨rfl,rfl⟩
 · subst h; exact ⟨rfl,rfl⟩
 · obtain ⟨e1,e2,e3⟩:=rd_dec h
   exact ⟨e1.symm,e2,e3⟩
 · obtain ⟨e1,e2,e3⟩:=rd_not h
   exact ⟨e1.symm,e2,e3⟩
 · exact (rd_pi_yes h).symm
 · have:=rd_pi_no h
   rw [this]; exact ⟨rfl,rfl⟩
 · have h2':=h2
   simp only [Bool.and_eq_true,decide_eq_true_eq,Bool.not_eq_true'] at h2'
   obtain ⟨r1,r2,r3,r4,_⟩:=round_eq swo_ltInt (partitionEqual_holds ltInt) h2'.1 hpv.1 hpv.2 (by rw [s3]; exact hb) B3 h2'.2 hx
   exact ⟨r1,r2,r3.trans s3,r4,by rw [pdq_eq h12 hl0 h1 h2 (by rw [hx]; exact ⟨r1,r2⟩),hx]⟩
 · obtain ⟨r1,r2,r3,r4,r5,r6,r7⟩:=round_part swo_ltInt (partition_holds ltInt) hpv.1 hpv.2 (by rw [s3]; exact hb) B3 hx
   have hd4:d4.size=dk.size:=r3.trans s3
   refine ⟨r1,r2,hd4,fun h4=>?_,fun h4=>?_⟩
   · obtain ⟨pL,sL⟩:=pdq_sorts ltInt swo_ltInt d4 a mid (rd ltInt dk a b lim wb wp).lim true true r1 (by omega) r4
     exact ⟨r4,by rw [pL.1]; exact hd4,(r6 _ pL sL).1,by rw [pdq_left h12 hl0 h1 h2 (by rw [hx]; exact ⟨r1,r2⟩) (by rw [hx]; exact h4),hx]⟩
   · obtain ⟨pL,sL⟩:=pdq_sorts ltInt swo_ltInt d4 (mid + 1) b (rd ltInt dk a b lim wb wp).lim true true (by omega) (by omega) r5
     exact ⟨r5,by rw [pL.1]; exact hd4,(r7 _ pL sL).1,by rw [pdq_right h12 hl0 h1 h2 (by rw [hx]; exact ⟨r1,r2⟩) (by rw [hx]; exact h4),hx]⟩
end Go.Proofs.YtliimglbbiebiaaGreatDoor
end

