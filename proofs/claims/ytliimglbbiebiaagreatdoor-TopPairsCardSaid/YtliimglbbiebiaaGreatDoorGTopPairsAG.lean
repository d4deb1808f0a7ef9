/- A part of the proof: Sort9, SortU, SlU, With1, With, IdxP. -/
import Derived.Test.YtliimglbbiebiaaGreatDoorGTopPairsAD
import Derived.Test.YtliimglbbiebiaaGreatDoorGTopPairsAE
import Derived.Test.YtliimglbbiebiaaGreatDoorGTopPairsAF
import Derived.Test.YtliimglbbiebiaaGreatDoorGTopPairsAA
import Derived.Test.YtliimglbbiebiaaGreatDoorRows
import Derived.WalkKit
import Derived.WalkSpells
import Derived.WalkLawsBesides
import Derived.Deep.QuietTactic
import Derived.BigQuiet
import Derived.Lib.Hide
import Derived.Lib.SliceRun
import Derived.Maps.RangeWalk
import Derived.LoopTactic
set_option maxRecDepth 100000
set_option maxHeartbeats 6400000
section
namespace Go.Proofs.YtliimglbbiebiaaGreatDoor
open Go.RowKit Go.Sort
theorem eighth {x y p q:Nat} (h1:q≤p) (h2:y≤x):decide (((x:Int) - (y:Int)) / 8≤(p:Int) - (q:Int))=decide (p - q ≥ (x - y) / 8) :=
 decide_eq_decide.2 ⟨fun h=>by omega,fun h=>by omega⟩
theorem pdq_any {te:TypeId} {base g c:Nat}:∀ (N:Nat) (w:World) (d:Array Int) (a b limit:Nat),b - a < N→SRow te base w g c d→a≤b→b≤d.size→d.size≤1000000→limit≤1000→Below ltInt a b d →
 Calls Tryz.prog 117 #[.slice (some ⟨g,0,none⟩) d.size c,.int .i64 a,.int .i64 b,.int .i64 limit] w fun e w'=>e=.returned (.tuple #[])∧SRow te base w' g c (pdq ltInt d a b limit true true)∧(pdq ltInt d a b limit true true).size=d.size∧One g w w':=by
 intro N
 induction N with
 | zero=>intro _ _ _ _ _ h; exact absurd h (Nat.not_lt_zero _)
 | succ N ih =>
   intro w d a b limit hN h hab hb hn hlimit hBel0
   obtain ⟨res,hres⟩:∃ res,pdq ltInt d a b limit true true=res:=⟨_,rfl⟩
   rw [hres]
   have HRES:=Lib.hid hres
   clear hres
   go_enter Tryz.func117,Tryz.ntmps117
   go_wp2
   go_loopg [1,2,3,8,9] (b - a) (fun k s1 s2 s3 s8 s9 wr=>∃ (a' b' lim:Nat) (wb wp:Bool) (dk:Array Int),s1=.int .i64 a'∧s2=.int .i64 b'∧s3=.int .i64 lim∧s8=.bool wb∧s9=.bool wp ∧
    a'≤b'∧b'≤d.size∧b' - a'≤k∧k≤b - a∧lim≤limit∧dk.size=d.size∧Below ltInt a' b' dk∧SRow te base wr g c dk∧One g w wr∧Hid (pdq ltInt dk a' b' lim wb wp=res))
   case atStart=>exact ⟨a,b,limit,true,true,d,rfl,rfl,rfl,rfl,rfl,hab,hb,Nat.le_refl _,Nat.le_refl _,Nat.le_refl _,rfl,hBel0,h,One.refl _ _,HRES⟩
   case round =>
    obtain ⟨a',b',lim,wb,wp,dk,rfl,rfl,rfl,rfl,rfl,hab',hb',hk1,hk2,hlim,hds,hBel,hR,hO,HE⟩:=hrel
    obtain ⟨wo,rfl⟩:∃ wo:World,wo=wr:=⟨_,rfl⟩
    clear h hBel0
    have hsub:IntKind.i64.wrap ((b':Int) - a')=(b':Int) - a':=IntWalk.i64_in _ (by omega)
    by_cases h12:b' - a'≤12
    · have h12d:decide ((b':Int) - (a':Int)≤12)=true:=decide_eq_true (by omega)
      have hc:=insertion_any hR a' b' hab' (by omega) (by omega)
      have hE:=HE.out
      rw [pdq_small h12] at hE
      rw [hE,hds] at hc
      have HC:=Lib.hid hc
      clear hc hE
      go_wp2_with (go_at_call 162; refine HC.out.mono ?_; rintro e w1 ⟨rfl,hR1,hs1,hO1⟩)
      (try simp only [Exit.inBlock,Exit.then]); refine bodyPost_ret (results_none rfl _ _ _) rfl ?_
      exact ⟨rfl,hR1,hs1,hO.trans hO1⟩
    · have h12d:decide ((b':Int) - (a':Int)≤12)=false:=decide_eq_false (by omega)
      by_cases hl0:lim=0
      · subst hl0
        have hc:=heap_any hR a' b' (b' - a') (by omega) (by omega) (by omega)
        have hE:=HE.out
        rw [pdq_heap h12 rfl] at hE
        rw [hE,hds] at hc
        have HC:=Lib.hid hc
        clear hc hE
        go_wp2_with (go_at_call 163; refine HC.out.mono ?_; rintro e w1 ⟨rfl,hR1,hs1,hO1⟩)
        (try simp only [Exit.inBlock,Exit.then]); refine bodyPost_ret (results_none rfl _ _ _) rfl ?_
        exact ⟨rfl,hR1,hs1,hO.trans hO1⟩
      · have hl0z:((lim:Int) == 0)=false:=by simp; omega
        have hl0y:¬ ((lim:Int)=0):=by omega
        obtain ⟨d1,lm,cc,ch,d2,pv,ht,d3,dn,F⟩:=RdF.make dk a' b' lim wb wp h12 hl0 (by omega) hBel
        have hlm:=F.lm_le
        have hclo:=F.c_lo
        have hchi:=F.c_hi
        have hplo:=F.p_lo
        have hphi:=F.p_hi
        have hs1:d1.size=d.size:=F.s1.trans hds
        have hs2:d2.size=d.size:=F.s2.trans hds
        have hs3:d3.size=d.size:=F.s3.trans hds
        have HS1:=Lib.hid hs1
        have HS2:=Lib.hid hs2
        have HS3:=Lib.hid hs3
        have HDS:=Lib.hid hds
        clear hs1 hs2 hs3 hds
        go_upto_if 35 with fail
        go_cut [3] from 19 (fun s3 wc=>s3=.int .i64 lm∧SRow te base wc g c d1∧One g w wc)
        case first =>
         cases wb
         · obtain ⟨e1,e2⟩:=F.brk rfl
           have hc:=break_any hR a' b' hab' (by rw [HDS.out]; omega) (by rw [HDS.out]; omega)
           rw [e1,HDS.out] at hc
           have HC:=Lib.hid hc
           clear hc e1
           go_wp2_with (go_at_call 164; refine HC.out.mono ?_; rintro e w1 ⟨rfl,hR1,hs1,hO1⟩)
           go_meet
           case rel =>
            refine ⟨?_,hR1,hO.trans hO1⟩
            show Value.int .i64 ((lim:Int) - 1)=Value.int .i64 (lm:Int)
            congr 1
            omega
         · obtain ⟨e1,e2⟩:=F.bal rfl
           subst e1 e2
           go_wp2_with fail
           go_meet
           case rel=>exact ⟨rfl,hR,hO⟩
        case rest =>
         obtain ⟨rfl,hR1,hO1⟩:=hcut
         clear hR hO
         have hc:=choose_any hR1 a' b' (by omega) (by rw [HS1.out]; omega) (by rw [HS1.out]; omega)
         rw [F.cp,HS1.out] at hc
         have HC:=Lib.hid hc
         clear hc
         go_upto_if 50 with (go_at_call 165; refine HC.out.mono ?_; rintro e w2 ⟨rfl,hn2⟩)
         have hR2:=hR1.new hn2
         have hO2:One g w w2:=Fr.trans' hO1 hn2 (fun _ _ e=>e.elim)
         clear hR1 hO1
         go_cut [11,12] from 19 (fun s11 s12 wc=>s11=.int .i64 pv∧s12=.int .i64 (hintCode ht)∧SRow te base wc g c d2∧One g w wc)
         case first =>
          by_cases hh:ch=.decreasing
          · obtain ⟨e2,epv,eht⟩:=F.dec hh
            have hcd:(hintCode ch == 2)=true:=by rw [hh]; rfl
            have hcode:hintCode ch=2:=by rw [hh]; rfl
            have hc:=reverse_any hR2 a' b' (by omega) (by rw [HS1.out]; omega) (by rw [HS1.out]; omega)
            rw [e2,HS1.out] at hc
            have HC2:=Lib.hid hc
            have HEH:=Lib.hid eht
            have HPV:=Lib.hid epv
            clear hc e2 eht epv
            go_wp2_with (go_at_call 166; refine HC2.out.mono ?_; rintro e w3 ⟨rfl,hR3,hs3,hO3⟩)
            go_meet
            case rel =>
             refine ⟨?_,by rw [HEH.out]; rfl,hR3,hO2.trans hO3⟩
             have:=HPV.out
             congr 1
             omega
          · obtain ⟨e2,epv,eht⟩:=F.ndec hh
            have hcd:(hintCode ch == 2)=false:=by cases ch <;> simp [hintCode] at hh ⊢
            have hcode:¬ hintCode ch=2:=by cases ch <;> simp [hintCode] at hh ⊢
            subst e2 epv eht
            go_wp2_with fail
            go_meet
            case rel=>exact ⟨rfl,rfl,hR2,hO2⟩
         case rest =>
          obtain ⟨rfl,rfl,hR3,hO3⟩:=hcut
          clear hR2 hO2
          go_upto_region 15 with fail
          go_cut [12,68] from 19 (fun s12 s68 wx=>s12=.int .i64 (hintCode ht)∧s68=.bool (wb && wp && decide (ht=.increasing))∧SRow te base wx g c d2∧One g w wx)
          case first =>
           cases wb <;> cases wp <;> cases ht <;>
            (simp only [hintCode]
             go_wp2_with fail
             go_meet
             exact ⟨rfl,by simp,hR3,hO3⟩)
          case rest =>
           obtain ⟨rfl,rfl,hR4,hO4⟩:=hcut
           clear hR3 hO3
           go_upto_if 68 with fail
           go_cut [] from 19 (fun wx=>dn=false∧SRow te base wx g c d3∧One g w wx)
           case first =>
            cases h68:(wb && wp && decide (ht=.increasing))
            · obtain ⟨e3,e4⟩:=F.npar h68
              subst e3
              have E4:=Lib.hid e4
              clear e4
              go_wp2_with fail
              go_meet
              case rel=>exact ⟨E4.out,hR4,hO4⟩
            · have e3:=F.par h68
              have hc:=partial_any hR4 a' b' (by omega) (by rw [HS2.out]; omega) (by rw [HS2.out]; omega)
              rw [e3,HS2.out] at hc
              have HC3:=Lib.hid hc
              clear hc e3
              cases dn
              · go_wp2_with (go_at_call 167; refine HC3.out.mono ?_; rintro e w4 ⟨rfl,hR5,hs5,hO5⟩)
                go_meet
                case rel=>exact ⟨by first | rfl | trivial,hR5,hO4.trans hO5⟩
              · have hE:=F.fin rfl
                rw [HE.out] at hE
                subst hE
                go_wp2_with (go_at_call 167; refine HC3.out.mono ?_; rintro e w4 ⟨rfl,hR5,hs5,hO5⟩)
                (try simp only [Exit.inBlock,Exit.then]); refine bodyPost_ret (results_none rfl _ _ _) rfl ?_
                exact ⟨rfl,hR5,hs5,hO4.trans hO5⟩
           case rest =>
            obtain ⟨hdn,hR5,hO5⟩:=hcut
            have HDN:=Lib.hid hdn
            clear hR4 hO4 hdn
            obtain ⟨T,hT⟩:∃ T,(decide (a' > 0) && !ltInt d3[a' - 1]! d3[pv]!)=T:=⟨_,rfl⟩
            have FT:=F.eq_ HDN.out
            have FP:=F.part HDN.out
            rw [hT] at FT FP
            have hpe:=parteq_any (w:=wc) hR5 a' b' pv hplo hphi (by rw [HS3.out]; omega) (by rw [HS3.out]; omega)
            go_upto_region 17 with fail
            go_cut [87] from 19 (fun s87 wx=>s87=.bool T∧SRow te base wx g c d3∧One g w wx)
            case first =>
             clear hpe
             have HFT:=Lib.hid FT
             have HFP:=Lib.hid FP
             clear FT FP
             rcases Nat.eq_zero_or_pos a' with ha0 | ha0
             · have ha0z:decide ((a':Int) > 0)=false:=decide_eq_false (by omega)
               have ha0y:decide (0 < (a':Int))=false:=decide_eq_false (by omega)
               have ha0n:decide (0 < a')=false:=decide_eq_false (by omega)
               have ha0p:¬ 0 < a':=by omega
               have hTf:T=false:=by rw [← hT,decide_eq_false (by omega:¬ a' > 0)]; rfl
               clear hT ha0 ha0p
               subst hTf
               go_quiet (fail)
               go_wp2
               go_meet
               case rel=>exact ⟨by first | rfl | simp,hR5.drewN _,hO5.drewN _⟩
             · have ha0z:decide ((a':Int) > 0)=true:=decide_eq_true (by omega)
               have ha0y:decide (0 < (a':Int))=true:=decide_eq_true (by omega)
               have ha0n:decide (0 < a')=true:=decide_eq_true (by omega)
               have hq1:IntKind.i64.wrap ((a':Int) - 1)=(a':Int) - 1:=IntWalk.i64_in _ (by omega)
               have hq2:((a':Int) - 1).toNat=a' - 1:=by omega
               have hq3:0≤(a':Int) - 1:=by omega
               have hq4:(a':Int) - 1 < d.size:=by omega
               have hq5:(pv:Int) < d.size:=by omega
               obtain ⟨y1,hy1⟩:∃ y,d3[a' - 1]! = y:=⟨_,rfl⟩
               obtain ⟨y2,hy2⟩:∃ y,d3[pv]! = y:=⟨_,rfl⟩
               have hcx:=fun n=>(hR5.drewN n).cell (t:=a' - 1) (by rw [HS3.out]; omega)
               have hcy:=fun n=>(hR5.drewN n).cell (t:=pv) (by rw [HS3.out]; omega)
               rw [hy1] at hcx hT
               rw [hy2] at hcy hT
               clear hy1 hy2
               obtain ⟨q,hq⟩:∃ q,ltInt y1 y2=q:=⟨_,rfl⟩
               rw [hq,decide_eq_true (by omega:a' > 0)] at hT
               have hless:∀ W,Calls Tryz.prog 168 #[.int .u32 y1,.int .u32 y2] W fun e w'=>e=.returned (.bool q)∧w'=W:=fun W=>by rw [← hq]; exact less_any _ _ _
               have HLS:=Lib.hid hless
               have HT:=Lib.hid hT
               clear hless hq hT
               go_quiet ((go_at_call 168; with_reducible (first | exact quiet1 HLS.out | exact quiet2 HLS.out | exact quiet3 HLS.out)))
               go_wp2
               go_meet
               case rel=>exact ⟨by rw [← HT.out]; cases q <;> rfl,hR5.drewN _,hO5.drewN _⟩
            case rest =>
             obtain ⟨rfl,hR6,hO6⟩:=hcut
             clear hpe
             cases T
             · obtain ⟨mid,ap,d4,hx⟩:∃ mid ap d4,partition ltInt d3 a' b' pv=(mid,ap,d4):=⟨_,_,_,rfl⟩
               obtain ⟨r1,r2,hs4,hsm,hlg⟩:=FP rfl mid ap d4 hx
               have hc:=part_any hR6 a' b' pv hplo hphi (by rw [HS3.out]; omega) (by rw [HS3.out]; omega)
               rw [hx,HS3.out] at hc
               have HC:=Lib.hid hc
               have HS4:=Lib.hid (hs4.trans HDS.out)
               have HSM:=Lib.hid hsm
               have HLG:=Lib.hid hlg
               clear hc hx hs4 hsm hlg FT FP hT hR5 hO5
               have hm1:IntKind.i64.wrap ((mid:Int) - a')=(mid:Int) - a':=IntWalk.i64_in _ (by omega)
               have hm2:IntKind.i64.wrap ((b':Int) - mid)=(b':Int) - mid:=IntWalk.i64_in _ (by omega)
               have hm3:IntKind.i64.wrap ((mid:Int) + 1)=(mid:Int) + 1:=IntWalk.i64_in _ (by omega)
               go_upto_if 113 with (go_at_call 170; refine HC.out.mono ?_; rintro e w7 ⟨rfl,hR7,hs7,hO7⟩)
               by_cases h4:mid - a' < b' - mid
               · have h4d:decide ((mid:Int) - (a':Int) < (b':Int) - (mid:Int))=true:=decide_eq_true (by omega)
                 obtain ⟨B1,z1,B2,hE⟩:=HSM.out h4
                 rw [HE.out] at hE
                 have hih:=ih w7 d4 a' mid lm (by omega) hR7 (by omega) (by rw [HS4.out]; omega) (by rw [HS4.out]; omega) (by omega) B1
                 rw [HS4.out] at hih
                 have HIH:=Lib.hid hih
                 have HEE:=Lib.hid hE
                 have HZ1:=Lib.hid (z1.trans HDS.out)
                 clear hih hE z1
                 go_wp2_with (go_at_call 117; refine HIH.out.mono ?_; rintro e w8 ⟨rfl,hR8,hs8,hO8⟩)
                 go_roundg (b' - (mid + 1))
                 case measure=>omega
                 case rel =>
                  refine ⟨mid + 1,b',lm,decide (mid - a' ≥ (b' - a') / 8),ap,pdq ltInt d4 a' mid lm true true,by first | rfl | go_num,rfl,rfl,?_,rfl,by omega,by omega,Nat.le_refl _,by omega,by omega,HZ1.out,B2,hR8,(hO6.trans hO7).trans hO8,HEE.out.symm⟩
                  exact congrArg Value.bool (eighth (by omega) (by omega))
               · have h4d:decide ((mid:Int) - (a':Int) < (b':Int) - (mid:Int))=false:=decide_eq_false (by omega)
                 obtain ⟨B1,z1,B2,hE⟩:=HLG.out h4
                 rw [HE.out] at hE
                 have hih:=ih w7 d4 (mid + 1) b' lm (by omega) hR7 (by omega) (by rw [HS4.out]; omega) (by rw [HS4.out]; omega) (by omega) B1
                 rw [HS4.out,show ((mid + 1:Nat):Int)=(mid:Int) + 1 by omega] at hih
                 have HIH:=Lib.hid hih
                 have HEE:=Lib.hid hE
                 have HZ1:=Lib.hid (z1.trans HDS.out)
                 clear hih hE z1
                 go_wp2_with (go_at_call 117; refine HIH.out.mono ?_; rintro e w8 ⟨rfl,hR8,hs8,hO8⟩)
                 go_roundg (mid - a')
                 case measure=>omega
                 case rel =>
                  refine ⟨a',mid,lm,decide (b' - mid ≥ (b' - a') / 8),ap,pdq ltInt d4 (mid + 1) b' lm true true,rfl,rfl,rfl,?_,rfl,by omega,by omega,Nat.le_refl _,by omega,by omega,HZ1.out,B2,hR8,(hO6.trans hO7).trans hO8,HEE.out.symm⟩
                  exact congrArg Value.bool (eighth (by omega) (by omega))
             · obtain ⟨mid,d4,hx⟩:∃ mid d4,partitionEqual ltInt d3 a' b' pv=(mid,d4):=⟨_,_,rfl⟩
               obtain ⟨r1,r2,hs4,B4,hE⟩:=FT rfl mid d4 hx
               have hc:=parteq_any hR6 a' b' pv hplo hphi (by rw [HS3.out]; omega) (by rw [HS3.out]; omega)
               rw [hx,HS3.out] at hc
               rw [HE.out] at hE
               have HC:=Lib.hid hc
               have HEE:=Lib.hid hE
               have HS4:=Lib.hid (hs4.trans HDS.out)
               clear hc hx hs4 hE FT FP hT hR5 hO5
               go_wp2_with (go_at_call 169; refine HC.out.mono ?_; rintro e w7 ⟨rfl,hR7,hs7,hO7⟩)
               go_roundg (b' - mid)
               case measure=>omega
               case rel=>exact ⟨mid,b',lm,wb,wp,d4,rfl,rfl,rfl,rfl,rfl,by omega,by omega,Nat.le_refl _,by omega,by omega,HS4.out,B4,hR7,hO6.trans hO7,HEE.out.symm⟩
end Go.Proofs.YtliimglbbiebiaaGreatDoor
end

section
namespace Go.Proofs.YtliimglbbiebiaaGreatDoor
open Go.RowKit Go.Sort
theorem insertion_none (w:World):Calls Tryz.prog 162 #[.slice none 0 0,.int .i64 0,.int .i64 0] w fun e w'=>e=.returned (.tuple #[])∧w'=w:=by
 go_enter Tryz.func162,Tryz.ntmps162
 go_wp2
 go_loopg [6] 0 (fun _ vi wr=>vi=.int .i64 1∧wr=w)
 case atStart=>exact ⟨by go_num,rfl⟩
 case round =>
  obtain ⟨rfl,rfl⟩:=hrel
  go_wp2
  go_end0
  first | exact ⟨rfl,rfl⟩ | trivial
theorem pdq_none (w:World):Calls Tryz.prog 117 #[.slice none 0 0,.int .i64 0,.int .i64 0,.int .i64 0] w fun e w'=>e=.returned (.tuple #[])∧w'=w:=by
 go_enter Tryz.func117,Tryz.ntmps117
 go_wp2
 go_loopg [1,2,3,8,9] 0 (fun _ s1 s2 s3 s8 s9 wr=>s1=.int .i64 0∧s2=.int .i64 0∧s3=.int .i64 0∧s8=.bool true∧s9=.bool true∧wr=w)
 case atStart=>exact ⟨rfl,rfl,rfl,rfl,rfl,rfl⟩
 case round =>
  obtain ⟨rfl,rfl,rfl,rfl,rfl,rfl⟩:=hrel
  go_wp2_with (go_at_call 162; refine (insertion_none _).mono ?_; rintro e w1 ⟨rfl,rfl⟩)
  (try simp only [Exit.inBlock,Exit.then]); refine bodyPost_ret (results_none rfl _ _ _) rfl ?_
  exact ⟨rfl,rfl⟩
theorem len_any (n:Nat) (hn:n < 4611686018427387904) (w:World):Calls Tryz.prog 118 #[.int .u64 (n:Int)] w fun e w'=>e=.returned (.int .i64 (bitsLen n:Nat))∧w'=w:=by
 have h:=Any.bits_Len (SlLaysF0.n15.bits (P:=Tryz.prog) (ρ:=npA_ren) { npA with }) (n:Int) w (by omega) (by omega)
 rwa [Int.toNat_natCast,bitLen_eq _ (by omega)] at h
theorem usort_any {base:Nat} {w:World} {v:Value} {l:List Int} (hv:Own (intE .u32) 28 base w v l) (hl:l.length≤1000000) :
 Calls Tryz.prog 82 #[v] w fun e w'=>e=.returned (.tuple #[])∧Own (intE .u32) 28 base w' v (l.mergeSort fun x y=>decide (x≤y))∧Fr (fun k=>v.ownBlock=some k) w w':=by
 have hv':=hv
 rcases hv.2 with ⟨rfl,hz⟩ | ⟨g,cap,cur,rfl,hbase,hgb,r1,r2,r3,r4⟩
 · obtain rfl:l=[]:=List.eq_nil_of_length_eq_zero hz
   have hlen:=fun w=>len_any 0 (by omega) w
   rw [show bitsLen 0=0 from rfl,show ((0:Nat):Int)=0 from rfl] at hlen
   have HL:=Lib.hid hlen
   clear hlen hv
   go_enter Tryz.func82,Tryz.ntmps82
   go_wp2_with (first
    | (go_at_call 118; refine (HL.out _).mono ?_; rintro e w1 ⟨rfl,rfl⟩)
    | (go_at_call 117; refine (pdq_none _).mono ?_; rintro e w1 ⟨rfl,rfl⟩))
   go_end0
   exact ⟨rfl,by rw [List.mergeSort_nil]; exact hv',Fr.refl _ _⟩
 · obtain ⟨d,hd⟩:∃ d:Array Int,d=l.toArray:=⟨_,rfl⟩
   have hds:d.size=l.length:=by rw [hd]; simp
   have hR:SRow 28 base w g cap d:=by unfold SRow; rw [hd]; simpa using hv'
   have hlen:=fun w=>len_any l.length (by omega) w
   have hlim:bitsLen l.length≤1000:=Nat.le_trans ((bitsLen_le_iff _ 62).2 (by omega)) (by omega)
   obtain ⟨m,hm⟩:∃ m,bitsLen l.length=m:=⟨_,rfl⟩
   have hp:=pdq_any (d.size + 1) w d 0 d.size m (by omega) hR (Nat.zero_le _) (Nat.le_refl _) (by omega) (by omega) (.inl rfl)
   have hres:(pdq ltInt d 0 d.size m true true).toList=l.mergeSort (fun x y=>decide (x≤y)):=by
    rw [← hm,← hds,hd]
    exact sortInt l
   rw [hm] at hlen
   rw [hds,show ((0:Nat):Int)=0 from rfl] at hp
   rw [hds] at hres
   have hnw:IntKind.u64.wrap (l.length:Int)=(l.length:Int):=by simp [IntKind.wrap,IntKind.bits,IntKind.signed]; omega
   have HL:=Lib.hid hlen
   have HP:=Lib.hid hp
   have HRES:=Lib.hid hres
   clear hlen hp hres hm hds hd hR hlim hv hv' r4
   obtain ⟨n,hn⟩:∃ n,n=l.length:=⟨_,rfl⟩
   rw [← hn] at HL HP HRES hnw hl ⊢
   clear r1 r2 r3 hgb
   have hn':=Lib.hid hn
   clear hn
   go_enter Tryz.func82,Tryz.ntmps82
   go_wp2_with (first
    | (go_at_call 118; refine (HL.out _).mono ?_; rintro e w1 ⟨rfl,rfl⟩)
    | (go_at_call 117; refine HP.out.mono ?_; rintro e w1 ⟨rfl,hR1,hs1,hO1⟩))
   go_end0
   refine ⟨rfl,?_,hO1.mono fun i _ hi=>by subst hi; rfl⟩
   have h:=hR1
   unfold SRow at h
   rw [HRES.out,hs1] at h
   exact h
end Go.Proofs.YtliimglbbiebiaaGreatDoor
end

section
namespace Go.Proofs.YtliimglbbiebiaaGreatDoor
open Go.RowKit
theorem u32_info:(Tryz.prog.info? 28).map (fun i=>(i.zero,i.size,i.bytes))=some (some (.int .u32 0),1,4):=by kernel_rfl
theorem uclone_any (v:Value) (l:List Int) (w:World) (hv:Rd (intE .u32) w v l) (hl:l.length≤100000) :
 Calls Tryz.prog 73 #[v] w fun e w'=>∃ o,e=.returned o∧Own (intE .u32) 28 w.heap.size w' o l∧New w w':=by
 obtain ⟨i0,hi,hz0,hz1,hz2⟩:=info_parts u32_info
 have h0:=Own.empty (intE .u32) 28 w.heap.size w (Nat.le_refl _)
 have HV:=Lib.hid hv
 obtain ⟨A,c,rfl,hc,hcells⟩:=hv
 have hq:=fun n=>Lib.run_eql_slice_nil (P:=Tryz.prog) w 58 _ A n c 0 0 Tryz.underlying58
 cases A with
 | none =>
   have hn:l=[]:=by
    cases l with
    | nil=>rfl
    | cons x l=>obtain ⟨b,off,h,_⟩:=hcells (by simp); cases h
   clear hcells
   subst hn
   simp only [Option.isNone_none] at hq
   go_enter Tryz.func73,Tryz.ntmps73
   go_wp2
   go_ret
   exact ⟨_,rfl,Own.nil _ _ _ _,New.refl _⟩
 | some ad =>
   obtain ⟨b,off,sp⟩:=ad
   clear hcells
   simp only [Option.isNone_some] at hq
   go_enter Tryz.func73,Tryz.ntmps73
   go_wp2_with (at_builtin; refine wpList_append (E:=intE .u32) rfl _ _ _ rfl Tryz.underlying58 hi hz0 hz1 hz2 rfl h0 rfl (HV.out.alloc _) rfl (by unfold maxLen; simp; omega) (by simp; omega) (by simp) ?_; intro v1 w1 hv1 hf1 hl1)
   have hn1:New w w1:=New.append ((New.refl w).alloc _) h0 hf1
   rw [List.nil_append] at hv1
   go_ret
   exact ⟨_,rfl,hv1,hn1⟩
end Go.Proofs.YtliimglbbiebiaaGreatDoor
end

section
namespace Go.Proofs.YtliimglbbiebiaaGreatDoor
open Go.RowKit Go.Maps
def withX (f:Int) (X:List MB):List Int:=(X.filter fun x:MB=>decide (andI x.m.fl f=f)).map fun x:MB=>x.m.uid
theorem withX_app (f:Int) (X Y:List MB):withX f (X ++ Y)=withX f X ++ withX f Y:=by simp [withX]
theorem withX_len (f:Int) (X:List MB):(withX f X).length≤X.length:=by unfold withX; rw [List.length_map]; exact List.length_filter_le _ _
theorem withX_perm (f:Int) {X Y:List MB} (h:X.Perm Y):(withX f X).Perm (withX f Y):=(h.filter _).map _
section
variable {H:Type} {P:Program} {k:TypeId} {R:Value→Option (DataW H × List MemPlace)} {w w':World} {b r n:Nat} {D:DataW H} {left:Lit→Bool} {cnt:Nat}
theorem ranges_fr {S:Nat→Prop} (h:w.ranges P k R b r n D left cnt) (hf:Fr S w w') (hb':¬ S b) (hr':¬ S r):w'.ranges P k R b r n D left cnt:=by
 have h1:=h.owns.lt
 have h2:=h.lt
 obtain ⟨es,clock,since,seen,c0,hb,F,hs,hD,hr,rest⟩:=h
 exact ⟨es,clock,since,seen,c0,(hf.block b h1 hb').trans hb,F,hs,hD,(hf.block r h2 hr').trans hr,rest⟩
theorem ranges_ne (h:w.ranges P k R b r n D left cnt) {g:Nat} {t:TypeId} {cs:Array Value} (hb:Blk w g t cs):g≠r:=by
 rintro rfl
 obtain ⟨es,clock,since,seen,c0,_,_,_,_,hr,_⟩:=h
 unfold Blk at hb
 rw [hr] at hb
 cases hb
theorem ranges_map_ne (h:w.ranges P k R b r n D left cnt) {g:Nat} {t:TypeId} {cs:Array Value} (hb:Blk w g t cs):g≠b:=by
 rintro rfl
 obtain ⟨es,clock,since,seen,c0,hm,_⟩:=h
 unfold Blk at hb
 rw [hm] at hb
 cases hb
end
structure Seen (w0 wr:World) (mb r n:Nat) (D:DataW Value) (SX:List MB) (ob base:Nat) (v0 v:Value) (acc:List Int) (f:Int) (dX:List MB) (cnt:Nat):Prop where
 rng:∃ left,wr.ranges Tryz.prog 28 R0 mb r n D left cnt∧∀ z,z ∈ dX ↔ z ∈ SX∧left (.int .u32 z.m.uid)=false
 nd:(dX.map fun x=>x.m.uid).Nodup
 box:Blk wr ob 58 #[v]
 row:Own (intE .u32) 28 base wr v (acc ++ withX f dX)
 stay:v.ownBlock=v0.ownBlock∨∃ b,v.ownBlock=some b∧w0.heap.size≤b
 fr:Fr (fun k=>k=ob∨v0.ownBlock=some k) w0 wr
theorem Seen.sub {w0 wr mb r n D SX ob base v0 v acc f dX cnt} (h:Seen w0 wr mb r n D SX ob base v0 v acc f dX cnt):∀ z ∈ dX,z ∈ SX:=by
 obtain ⟨left,_,h2⟩:=h.rng
 exact fun z hz=>((h2 z).1 hz).1
theorem nodup_of_map {X:List MB} (h:(X.map fun x=>x.m.uid).Nodup):X.Nodup:=by
 unfold List.Nodup at *
 rw [List.pairwise_map] at h
 exact h.imp fun hne e=>hne (by rw [e])
theorem uid_inj {X:List MB} (h:(X.map fun x=>x.m.uid).Nodup) {y z:MB} (hy:y ∈ X) (hz:z ∈ X) (he:y.m.uid=z.m.uid):y=z:=by
 obtain ⟨a,ha⟩:=List.mem_iff_getElem?.1 hy
 obtain ⟨b,hb⟩:=List.mem_iff_getElem?.1 hz
 have h2:(X.map fun x=>x.m.uid)[a]? = (X.map fun x=>x.m.uid)[b]?:=by rw [List.getElem?_map,List.getElem?_map,ha,hb]; simp [he]
 have h3:=(List.getElem?_inj (by rw [List.length_map]; exact (List.getElem?_eq_some_iff.1 ha).1) h).1 h2
 subst h3
 rw [ha] at hb
 cases hb
 rfl
theorem nodup_perm {X Y:List MB} (hX:X.Nodup) (hY:Y.Nodup) (h:∀ z,z ∈ X ↔ z ∈ Y):X.Perm Y:=by
 classical
 exact (List.perm_ext_iff_of_nodup hX hY).2 h
theorem Seen.step {w0 wr w' mb r n D SX ob base v0 v v' acc f dX cnt cnt1} {left:Lit→Bool} {z:MB} (h:Seen w0 wr mb r n D SX ob base v0 v acc f dX cnt) (hmem:∀ z,z ∈ dX ↔ z ∈ SX∧left (.int .u32 z.m.uid)=false)
 (hnd:(SX.map fun x=>x.m.uid).Nodup) (hz:z ∈ SX) (hl:left (.int .u32 z.m.uid)=true) (hrg:w'.ranges Tryz.prog 28 R0 mb r n D (fun k=>left k && !k.sameKey (.int .u32 z.m.uid)) cnt1)
 (hbox:Blk w' ob 58 #[v']) (hrow:Own (intE .u32) 28 base w' v' (acc ++ withX f (dX ++ [z]))) (hst:v'.ownBlock=v.ownBlock∨∃ b,v'.ownBlock=some b∧w0.heap.size≤b)
 (hf:Fr (fun k=>k=ob∨v.ownBlock=some k∨w0.heap.size≤k) wr w'):Seen w0 w' mb r n D SX ob base v0 v' acc f (dX ++ [z]) cnt1:=by
 refine ⟨⟨_,hrg,fun y=>?_⟩,?_,hbox,hrow,?_,Fr.trans' h.fr hf fun k hk hs=>?_⟩
 · rw [List.mem_append,List.mem_singleton,hmem y]
   have hsk:Lit.sameKey (.int .u32 y.m.uid) (.int .u32 z.m.uid)=decide (y.m.uid=z.m.uid):=by simp [Lit.sameKey]
   constructor
   · rintro (⟨h1,h2⟩ | rfl)
     · exact ⟨h1,by simp [h2]⟩
     · exact ⟨hz,by simp [hsk]⟩
   · rintro ⟨h1,h2⟩
     rw [hsk] at h2
     by_cases he:y.m.uid=z.m.uid
     · exact .inr (uid_inj hnd h1 hz he)
     · exact .inl ⟨h1,by simpa [he] using h2⟩
 · rw [List.map_append,List.nodup_append]
   refine ⟨h.nd,by simp,fun a ha b hb=>?_⟩
   obtain ⟨y,hy,rfl⟩:=List.mem_map.1 ha
   simp at hb
   subst hb
   intro he
   obtain rfl:=uid_inj hnd ((hmem y).1 hy).1 hz he
   have:=((hmem y).1 hy).2
   rw [hl] at this
   cases this
 · rcases hst with h1 | h1
   · rw [h1]; exact h.stay
   · exact .inr h1
 · rcases hs with hs | hs | hs
   · exact .inl hs
   · rcases h.stay with h1 | ⟨b,h1,h2⟩
     · exact .inr (h1 ▸ hs)
     · rw [h1] at hs; cases hs; omega
   · omega
theorem with1_any {w:World} {mb fb ob base:Nat} {SX:List MB} {f:Int} {v0:Value} {acc:List Int} (h:HasMap uKeys w mb (SX.map fun x=>(x.m.uid,x.val))) (hnd:(SX.map fun x=>x.m.uid).Nodup) (hwf:∀ x ∈ SX,0≤x.m.fl∧x.m.fl≤255)
 (hfb:Blk w fb 45 #[.int .u8 f]) (hf:0≤f∧f≤255) (hob:Blk w ob 58 #[v0]) (hrow:Own (intE .u32) 28 base w v0 acc) (hbs:base≤w.heap.size) (hlen:acc.length + SX.length≤1000000) :
 Calls Tryz.prog 192 #[.map (some mb),.pointer (some ⟨fb,0,none⟩),.pointer (some ⟨ob,0,none⟩)] w fun e w'=>e=.returned (.tuple #[])∧∃ v dX,dX.Perm SX∧Blk w' ob 58 #[v]∧Own (intE .u32) 28 base w' v (acc ++ withX f dX) ∧
  (v.ownBlock=v0.ownBlock∨∃ b,v.ownBlock=some b∧w.heap.size≤b)∧Fr (fun k=>k=ob∨v0.ownBlock=some k) w w':=by
 obtain ⟨D,hown,hD1,hD2⟩:=h.own
 obtain ⟨i0,hi,hz0,hz1,hz2⟩:=info_parts u32_info
 have hmlt:=h.lt
 have hmo:=h.ne_blk hob
 have hmf:=h.ne_blk hfb
 have hmv:∀ b,v0.ownBlock=some b→b≠mb∧b≠ob∧b≠fb∧b < w.heap.size:=fun b hb=>by
  obtain ⟨cs,h1⟩:=hrow.heap hb
  exact ⟨Ne.symm (h.ne_blk h1),h1.ne_ hob (by decide),h1.ne_ hfb (by decide),h1.lt⟩
 have hoks:=h.oks
 have hget:∀ x ∈ SX,get (SX.map fun x=>(x.m.uid,x.val)) x.m.uid=some x.val:=fun x hx=>get_of_mem (by rw [List.map_map]; exact hnd) (List.mem_map.2 ⟨x,hx,rfl⟩)
 have HOWN:=Lib.hid hown
 have hs0:∀ z,z ∈ ([]:List MB) ↔ z ∈ SX∧Maps.has D (.int .u32 z.m.uid)=false:=fun z=>by
  refine ⟨fun hz=>absurd hz (by simp),fun ⟨hz,hh⟩=>?_⟩
  have h1:=has_of (hD2 z.m.uid (hoks _ (List.mem_map.2 ⟨z,hz,rfl⟩)))
  rw [hget z hz] at h1
  change Maps.has D (.int .u32 z.m.uid)=true at h1
  rw [h1] at hh
  cases hh
 have HS0:=Lib.hid hs0
 have HFIND:Hid (∀ (x:Int) (c:Value),uKeys.ok x→(∀ zd,D.atKey (.int .u32 x) zd=.held c)→∃ z ∈ SX,z.m.uid=x∧c=z.val):=fun x c hx hat=>by
  have h1:=hD2 x hx
  cases hg:get (SX.map fun x=>(x.m.uid,x.val)) x with
  | none =>
    rw [hg] at h1
    have h2:=(hat (.held (.bool true))).symm.trans (h1 _)
    have h3:=(hat (.held (.bool false))).symm.trans (h1 _)
    rw [h2] at h3
    cases h3
  | some u =>
    rw [hg] at h1
    have h2:=(hat (.held (.bool true))).symm.trans (h1 _)
    have h3:=mem_of_get hg
    obtain ⟨z,hz,hzz⟩:=List.mem_map.1 h3
    injection hzz with e1 e2
    injection h2 with h2
    exact ⟨z,hz,e1,by rw [h2,← e2]⟩
 generalize hnn:(SX.map fun x:MB=>(x.m.uid,x.val)).length=nn at *
 clear hD2 hget hoks hown hs0
 go_enter Tryz.func192,Tryz.ntmps192
 go_wp2_with (first
  | (at_range; refine wpList_range_own _ rfl _ 136 rfl 28 238 uKeys.law Tryz.underlying136 _ mb nn D rfl HOWN.out ?_; intro w0 hrg0 hg0 hs0)
  | fail)
 go_frame
 go_loopw [4] (fun _ wr=>∃ (v:Value) (dX:List MB) (cnt:Nat),Hid (Seen w wr mb w.heap.size nn D SX ob base v0 v acc f dX cnt)) (fun _ wr=>wr.rangeLeft mb w.heap.size)
 case atStart =>
  have hn0:New w w0:=Fr.of_grown hg0 fun _ h=>by cases h
  exact ⟨v0,[],_,⟨_,hrg0,HS0.out⟩,by simp,hn0.blk hob,by simpa [withX] using hrow.new hn0,.inl rfl,New.to hn0⟩
 case round =>
  obtain ⟨v,dX,cnt,HR⟩:=hrel
  obtain ⟨left,hrg,hmem⟩:=HR.out.rng
  have HMEM:=Lib.hid hmem
  have HRG:=Lib.hid hrg
  have hszw:=HR.out.fr.size
  obtain ⟨vA,vn,vc,rfl⟩:=own_shape HR.out.row
  clear hmem
  go_wp2_with (first
   | (at_next; refine wpList_next_ranges _ rfl _ rfl 28 uKeys.law R0 (Value.int .u32) (fun c:Value=>c) (fun key kl hk=>by obtain ⟨x,hx,_⟩:=Maps.keyOf_int_inv Tryz.underlying28 hk; exact ⟨x,hx⟩) (fun v y _=>⟨v,rfl⟩) mb w.heap.size nn _ _ _ rfl hrg ?_ ?_)
   | fail)
  · intro hc0 hl0
    have hperm:dX.Perm SX:=nodup_perm (nodup_of_map HR.out.nd) (nodup_of_map hnd) fun z=>by rw [HMEM.out z,hl0]; simp
    have HPERM:=Lib.hid hperm
    clear hperm
    go_wp2
    go_end0
    exact ⟨rfl,_,dX,HPERM.out,HR.out.box,HR.out.row,HR.out.stay,HR.out.fr⟩
  · intro x c kl y py w1 cnt1 hkey hlk hRc hat hrg1 hlt hg1 hs1 hen
    obtain ⟨x',hx',rfl,hxw⟩:=Maps.keyOf_int_inv Tryz.underlying28 hkey
    injection hx' with _ hx'
    subst hx'
    simp only [R0,Option.some.injEq,Prod.mk.injEq] at hRc
    obtain ⟨rfl,rfl⟩:=hRc
    obtain ⟨z,hz,rfl,rfl⟩:=HFIND.out x c hxw hat
    obtain ⟨⟨uid,fl,body⟩,A,n,c⟩:=z
    have hn1:Fr (fun k=>k=w.heap.size) wr w1:=Fr.of_grown hg1 fun i hi=>by injection hi with hi; exact hi.symm
    have hobl:=hob.lt
    have hfbl:=hfb.lt
    have hb1:=hn1.blk HR.out.box (by omega)
    have hfw:Blk wr fb 45 #[.int .u8 f]:=HR.out.fr.blk hfb (fun hs=>by rcases hs with hs | hs; exact hfb.ne_ hob (by decide) hs; exact (hmv _ hs).2.2.1 rfl)
    have hf1:=hn1.blk hfw (by omega)
    have cf:w1.cell? ⟨fb,0,none⟩=some (.int .u8 f):=hf1.cell 0
    have hfl1:fb < w1.heap.size:=hf1.lt
    have hol1:ob < w1.heap.size:=hb1.lt
    have co:w1.cell? ⟨ob,0,none⟩=some (.slice vA vn vc):=hb1.cell 0
    have zo:=hb1.frozen 0
    have hrow1:=HR.out.row.fr hn1 (fun b hb hs=>by
     obtain ⟨cs,h1⟩:=HR.out.row.heap hb
     exact ranges_ne hrg h1 hs)
    have hvb:=fun b hb=>HR.out.row.heap (g:=b) hb
    have hvl:=fun b hb=>(HR.out.row.block (b:=b) hb).2
    have HVL:=Lib.hid hvl
    have hdl:dX.length≤SX.length:=(nodup_of_map HR.out.nd).length_le_of_subset HR.out.sub
    have hwl:=withX_len f dX
    have HS1:=Lib.hid hs1
    have hsle:wr.heap.size≤w1.heap.size:=by omega
    clear hs1
    have hw0:=hwf _ hz
    simp only [MB.val] at hen hw0 ⊢
    obtain ⟨aa,haa⟩:∃ aa,andI fl f=aa:=⟨_,rfl⟩
    have hbits:bits .and .u8 fl f=aa:=(u8_andI hw0.1 hw0.2 hf.1 hf.2).trans haa
    have hwx:withX f (dX ++ [⟨⟨uid,fl,body⟩,A,n,c⟩])=withX f dX ++ (if aa == f then [uid] else []):=by
     rw [withX_app]
     congr 1
     unfold withX
     by_cases h1:aa=f
     · subst haa; simp [h1]
     · subst haa; simp [h1]
    have HWX:=Lib.hid hwx
    clear hwx haa
    have hobr:ob≠w.heap.size:=by omega
    cases hq:(aa == f)
    · rw [hq] at HWX
      go_wp2_with fail
      go_roundw
      case rel =>
       refine ⟨_,_,cnt1,HR.out.step HMEM.out hnd hz hlk (hrg1.alloc _) (hb1.alloc _) ?_ (.inl rfl) ((fr_or hn1 fun k hk=>.inr (.inr (by omega))).alloc _)⟩
       rw [HWX.out]
       simpa using hrow1.alloc _
      case measure=>rw [(hrg1.alloc _).left_eq,hrg.left_eq]; exact hlt
    · rw [hq] at HWX
      have hO:=(hrow1.alloc (.cells #[.int .u32 uid,.int .u8 fl,.slice A n c] 238)).alloc (.cells #[.int .u32 uid] 28)
      have hsz2:((w1.alloc (.cells #[.int .u32 uid,.int .u8 fl,.slice A n c] 238)).alloc (.cells #[.int .u32 uid] 28)).heap.size=w1.heap.size + 2:=by simp
      go_wp2_with (first
       | (at_builtin; refine wpList_push (E:=intE .u32) rfl _ _ _ rfl Tryz.underlying58 hi hz0 hz1 hz2 rfl hO rfl uid (w1.heap.size + 1) (Blk.new1 _ _ _ _) 1 rfl (by unfold maxLen; simp; omega) (by simp; omega) (by omega) ?_; intro v2 w2 hv2 hf2 hl2
          obtain ⟨A2,n2,c2,rfl⟩:=own_shape hv2
          have hb2:Blk w2 ob 58 #[.slice vA vn vc]:=hf2.blk ((hb1.alloc _).alloc _) (fun hs=>by obtain ⟨cs,h1⟩:=hvb _ hs; exact h1.ne_ HR.out.box (by decide) rfl)
          have co2:=hb2.cell 0
          have zo2:=hb2.frozen 0)
       | fail)
      have hF2:Fr (fun k=>k=ob∨(Value.slice vA vn vc).ownBlock=some k∨w.heap.size≤k) wr (w2.setCell ⟨ob,0,none⟩ (.slice A2 n2 c2)) :=
       (Fr.trans (((fr_or hn1 fun k hk=>.inr (.inr (by omega))).alloc _).alloc _) (fr_or hf2 fun k hk=>.inr (.inl hk))).setCell (fun _=>.inl rfl) _
      have hrg2:(w2.setCell ⟨ob,0,none⟩ (.slice A2 n2 c2)).ranges Tryz.prog 28 R0 mb w.heap.size nn D (fun k=>left k && !k.sameKey (.int .u32 uid)) cnt1:=by
       refine ranges_fr ((hrg1.alloc _).alloc _) (Fr.setCell (p:=⟨ob,0,none⟩) (fr_or hf2 fun _ h=>.inl h:Fr (fun k=>(Value.slice vA vn vc).ownBlock=some k∨k=ob) _ _) (fun _=>.inr rfl) _) (fun hs=>?_) (fun hs=>?_)
       · rcases hs with hs | hs
         · obtain ⟨cs,h1⟩:=hvb _ hs
           exact ranges_map_ne hrg h1 rfl
         · exact hmo hs
       · rcases hs with hs | hs
         · obtain ⟨cs,h1⟩:=hvb _ hs
           exact ranges_ne hrg h1 rfl
         · omega
      go_roundw
      case rel =>
       refine ⟨_,_,cnt1,HR.out.step HMEM.out hnd hz hlk hrg2 (hb2.set_ 0 _) ?_ ?_ hF2⟩
       · rw [HWX.out,if_pos rfl,← List.append_assoc]
         refine hv2.fr (S:=fun k=>k=ob) ((Fr.refl (fun k=>k=ob) _).setCell (p:=⟨ob,0,none⟩) (fun _=>rfl) _) fun b hb hs=>?_
         obtain ⟨cs,h1⟩:=hv2.heap hb
         exact h1.ne_ hb2 (by decide) hs
       · rcases hl2 with h1 | h1
         · exact .inl h1
         · exact .inr ⟨_,h1,by rw [hsz2]; omega⟩
      case measure=>rw [hrg2.left_eq,hrg.left_eq]; exact hlt
end Go.Proofs.YtliimglbbiebiaaGreatDoor
end

section
namespace Go.Proofs.YtliimglbbiebiaaGreatDoor
open Go.RowKit Go.Maps
theorem tdo2_any {base:Nat} {w:World} {T:Tb} {X:List MB} (h:TBX base w T X) {i:Nat} (hi:i < T.n) (fn:Nat) (cap:Array Value) (S:Nat→Prop) (hS:∀ k,S k→¬ T.foot k)
 (hSB:∀ v l,Own (intE .u8) 5 base w v l→∀ b,v.ownBlock=some b→¬ S b) (Q:World→Prop) (hE:∀ args w,(callFunc fn args).run Tryz.prog w=.ok (.enter fn args) w)
 (hf:Calls Tryz.prog fn (#[.map (some (T.mb i))] ++ cap) (w.setCell ⟨T.q i,0,none⟩ (.int .i32 1)) fun e w2=>e=.returned (.tuple #[])∧Fr S (w.setCell ⟨T.q i,0,none⟩ (.int .i32 1)) w2∧Q w2) :
 Calls Tryz.prog 191 #[.pointer (some ⟨T.q i,0,none⟩),.func (.func fn) #[] cap] w fun e w'=>e=.returned (.tuple #[])∧∃ w2,w'=w2.setCell ⟨T.q i,0,none⟩ (.int .i32 0)∧Q w2∧TBX base w' T X∧Fr (fun k=>k=T.q i∨S k) w w':=by
 have hp:=h.part i hi
 have hmq:T.mb i≠T.q i:=(h.map i hi).ne_blk hp
 refine (do_any (T.q i) (T.mb i) fn cap (fun w2=>Fr S (w.setCell ⟨T.q i,0,none⟩ (.int .i32 1)) w2∧Q w2) w hp hE hf ?_).mono ?_
 · rintro w2 ⟨h2,_⟩
   exact h2.blk (hp.set_ 0 _) (fun hs=>hS _ hs (h.rq i hi))
 · rintro e w' ⟨rfl,w2,⟨h2,h7⟩,rfl⟩
   have hp2:Blk w2 (T.q i) 143 #[.int .i32 1,.int .u32 0,.map (some (T.mb i))]:=h2.blk (hp.set_ 0 _) (fun hs=>hS _ hs (h.rq i hi))
   have hF:Fr (fun k=>k=T.q i∨S k) w (w2.setCell ⟨T.q i,0,none⟩ (.int .i32 0)) :=
    Fr.setCell (Fr.trans (((Fr.refl _ _)).setCell (fun _=>.inl rfl) _) (fr_or h2 fun _ h=>.inr h)) (fun _=>.inl rfl) _
   refine ⟨rfl,w2,rfl,h7,h.turn hi hF (fun k hk=>?_) (hp2.set_ 0 _) ((((h.map i hi).setCell (a:=⟨T.q i,0,none⟩) hmq _).fr h2 (fun hs=>hS _ hs (h.rm i hi))).setCell (a:=⟨T.q i,0,none⟩) hmq _) (fun _ _ _=>rfl) (fun x hx=>?_) h.nd h.ok,hF⟩
   · rcases hk with hk | hk
     · exact .inl hk
     · exact .inr (.inr (hS k hk))
   · refine (h.body x hx).fr hF fun b hb hs=>?_
     rcases hs with rfl | hs
     · obtain ⟨cs,h9⟩:=(h.body x hx).heap hb
       exact hp.ne_ h9 (by decide) rfl
     · exact hSB _ _ (h.body x hx) b hb hs
theorem filter_split {α:Type} (p q:α→Bool) (l:List α) (hpq:∀ x ∈ l,¬ (p x=true∧q x=true)):(l.filter fun x=>p x || q x).Perm (l.filter p ++ l.filter q):=by
 induction l with
 | nil=>exact List.Perm.refl _
 | cons x l ih =>
   have ih:=ih fun y hy=>hpq y (List.mem_cons_of_mem _ hy)
   have hx:=hpq x List.mem_cons_self
   cases hp:p x with
   | true =>
     have hq:q x=false:=by cases hq:q x with
      | false=>rfl
      | true=>exact absurd ⟨hp,hq⟩ hx
     simp only [List.filter_cons,hp,hq,Bool.true_or,if_true]
     simpa using ih.cons x
   | false =>
     cases hq:q x with
     | true =>
       simp only [List.filter_cons,hp,hq,Bool.or_true,if_true]
       simpa using (ih.cons x).trans (List.perm_middle (a:=x)).symm
     | false =>
       simp only [List.filter_cons,hp,hq]
       simpa using ih
theorem stripes_perm {n k:Nat} (X:List MB):(X.filter fun x:MB=>decide (x.m.uid % (n:Int) < ((k + 1:Nat):Int))).Perm ((X.filter fun x:MB=>decide (x.m.uid % (n:Int) < (k:Int))) ++ X.filter fun x:MB=>decide (x.m.uid % (n:Int)=(k:Int))):=by
 refine List.Perm.trans (List.Perm.of_eq (List.filter_congr fun x _=>?_)) (filter_split (fun x:MB=>decide (x.m.uid % (n:Int) < (k:Int))) (fun x:MB=>decide (x.m.uid % (n:Int)=(k:Int))) X fun x _ h=>?_)
 · rw [Bool.eq_iff_iff]
   simp
   omega
 · simp at h
   omega
theorem withX_map (f:Int) (X:List MB):withX f X=withL (X.map MB.m) f:=by
 unfold withX withL
 rw [List.filter_map,List.map_map]
 rfl
theorem sort_perm {l l':List Int} (h:l.Perm l'):(l.mergeSort fun x y=>decide (x≤y))=l'.mergeSort fun x y=>decide (x≤y):=by
 have tr:∀ a b c:Int,decide (a≤b)=true→decide (b≤c)=true→decide (a≤c)=true:=fun a b c h1 h2=>by simp at *; omega
 have tt:∀ a b:Int,(decide (a≤b) || decide (b≤a))=true:=fun a b=>by simp; omega
 refine List.Perm.eq_of_pairwise (le:=fun a b=>decide (a≤b)=true) (fun a b _ _ h1 h2=>?_) (List.pairwise_mergeSort tr tt l) (List.pairwise_mergeSort tr tt l') (((List.mergeSort_perm l _).trans h).trans (List.mergeSort_perm l' _).symm)
 simp at h1 h2
 omega
structure WiR (w0 wr:World) (base:Nat) (T:Tb) (X:List MB) (f:Int) (k:Nat) (v:Value) (acc:List Int):Prop where
 tbl:TBX base wr T X
 fb:Blk wr w0.heap.size 45 #[.int .u8 f]
 box:Blk wr (w0.heap.size + 1) 58 #[v]
 row:Own (intE .u32) 28 w0.heap.size wr v acc
 perm:acc.Perm (withX f (X.filter fun x:MB=>decide (x.m.uid % (T.n:Int) < (k:Int))))
 fr:Fr T.foot w0 wr
theorem WiR.len {w0 wr base T X f k v acc} (h:WiR w0 wr base T X f k v acc):acc.length≤X.length:=by
 rw [h.perm.length_eq]
 exact Nat.le_trans (withX_len _ _) (List.length_filter_le _ _)
theorem twith_any {base:Nat} {w:World} {T:Tb} {X:List MB} (h:TBX base w T X) (hX:X.length≤100000) (f:Int) (hf:0≤f∧f≤255) :
 Calls Tryz.prog 138 #[.pointer (some ⟨T.tb,0,none⟩),.int .u8 f] w fun e w'=>∃ o,e=.returned o∧Own (intE .u32) 28 w.heap.size w' o ((withL (X.map MB.m) f).mergeSort fun x y=>decide (x≤y))∧TBX base w' T X∧Fr T.foot w w':=by
 have hmf:∀ (fn:Fn) (first cap:Array Value) (w:World),(Instr.makeFunc fn first cap).run Tryz.prog w=.ok (.func fn first cap) w:=fun _ _ _ _=>rfl
 have hE:=enters _ _ _ Tryz.func192 (by kernel_rfl) rfl
 have c0:w.cell? ⟨T.tb,0,none⟩=some (.slice (some ⟨T.pb,0,none⟩) T.n T.c):=h.hd.cell 0
 have htl:=h.hd.lt
 have hn1:=h.n1
 have htop:=h.top
 have H1:Hid (WiR w ((w.alloc (.cells #[.int .u8 f] 45)).alloc (.cells #[.slice none 0 0] 58)) base T X f 0 (.slice none 0 0) []) :=
  ⟨h.new (((New.refl w).alloc _).alloc _),(Blk.new _ _ _).alloc _,Blk.new1 _ _ _ _,Own.nil _ _ _ _,by
    have:(X.filter fun x:MB=>decide (x.m.uid % (T.n:Int) < ((0:Nat):Int)))=[]:=by
     rw [List.filter_eq_nil_iff]
     intro x _
     have h0:=h.n0
     have:=Int.emod_nonneg x.m.uid (b:=(T.n:Int)) (by omega)
     simp
     omega
    rw [this]
    exact List.Perm.refl _,New.to (((New.refl w).alloc _).alloc _)⟩
 go_enter Tryz.func138,Tryz.ntmps138
 go_wp2
 go_loopw [15] (fun vi wr=>∃ (k:Nat) (v:Value) (acc:List Int),vi=.int .i64 k∧k≤T.n∧Hid (WiR w wr base T X f k v acc)) (fun vi _=>T.n - (intOf vi).toNat)
 case atStart=>exact ⟨0,_,_,rfl,Nat.zero_le _,H1.out⟩
 case round =>
  obtain ⟨k,v,acc,rfl,hk,HR⟩:=hrel
  clear H1
  have hsz:=HR.out.fr.size
  have hal:=HR.out.len
  by_cases hlt:k < T.n
  · have hd:decide ((k:Int) < T.n)=true:=decide_eq_true (by omega)
    have hnI:(k:Int) < (T.n:Int):=by omega
    have hkw:IntKind.i64.wrap ((k:Int) + 1)=(k:Int) + 1:=IntWalk.i64_in _ (by omega)
    have hp:=HR.out.tbl.ptr hlt
    have hpt:=HR.out.tbl.part k hlt
    have hmq:T.mb k≠T.q k:=(HR.out.tbl.map k hlt).ne_blk hpt
    have hoq:w.heap.size + 1≠T.q k:=HR.out.box.ne_ hpt (by decide)
    have hfq:w.heap.size≠T.q k:=HR.out.fb.ne_ hpt (by decide)
    have hrb:=fun b hb=>(HR.out.row.block (b:=b) hb).1
    have hrh:=fun b hb=>HR.out.row.heap (g:=b) hb
    have HD:Hid (Calls Tryz.prog 191 #[.pointer (some ⟨T.q k,0,none⟩),.func (.func 192) #[] #[.pointer (some ⟨w.heap.size,0,none⟩),.pointer (some ⟨w.heap.size + 1,0,none⟩)]] wr fun e w'=>e=.returned (.tuple #[])∧∃ v' acc',WiR w w' base T X f (k + 1) v' acc'):=by
     refine (tdo2_any HR.out.tbl hlt 192 #[.pointer (some ⟨w.heap.size,0,none⟩),.pointer (some ⟨w.heap.size + 1,0,none⟩)] (fun k=>k=w.heap.size + 1∨v.ownBlock=some k) (fun b hb hft=>?_) (fun u l hu b hb hs=>?_)
      (fun w2=>∃ v' dX,dX.Perm (X.filter fun x:MB=>decide (x.m.uid % (T.n:Int)=(k:Int)))∧Blk w2 w.heap.size 45 #[.int .u8 f]∧Blk w2 (w.heap.size + 1) 58 #[v']∧Own (intE .u32) 28 w.heap.size w2 v' (acc ++ withX f dX)) hE ?_).mono ?_
     · have h2:=hft.2
       rcases hb with rfl | hb
       · omega
       · have:=hrb _ hb; omega
     · obtain ⟨cs,h9⟩:=hu.heap hb
       rcases hs with rfl | hs
       · exact h9.ne_ HR.out.box (by decide) rfl
       · obtain ⟨cs',h10⟩:=hrh _ hs
         exact h9.ne_ h10 (by decide) rfl
     · have hb1:=HR.out.box.far (p:=⟨T.q k,0,none⟩) hoq (.int .i32 1)
       have hf1:=HR.out.fb.far (p:=⟨T.q k,0,none⟩) hfq (.int .i32 1)
       have hr1:=HR.out.row.fr ((Fr.refl (fun k'=>k'=T.q k) wr).setCell (p:=⟨T.q k,0,none⟩) (fun _=>rfl) (.int .i32 1)) (fun b hb hs=>by obtain ⟨cs,h9⟩:=hrh b hb; exact h9.ne_ hpt (by decide) hs)
       have hnd:((X.filter fun x:MB=>decide (x.m.uid % (T.n:Int)=(k:Int))).map fun x=>x.m.uid).Nodup:=h.nd.sublist (List.Sublist.map _ List.filter_sublist)
       have hfl:(X.filter fun x:MB=>decide (x.m.uid % (T.n:Int)=(k:Int))).length≤X.length:=List.length_filter_le _ _
       refine (with1_any (SX:=X.filter fun x:MB=>decide (x.m.uid % (T.n:Int)=(k:Int))) ((HR.out.tbl.map k hlt).setCell (a:=⟨T.q k,0,none⟩) hmq _) hnd (fun x hx=>by have:=(h.ok x (List.mem_filter.1 hx).1).1.2; omega) hf1 hf hb1 hr1 (by simpa [World.setCell] using hsz) (by omega)).mono ?_
       rintro e w2 ⟨rfl,v',dX,h5,h6,h7,h8,h9⟩
       exact ⟨rfl,h9,v',dX,h5,h9.blk hf1 (fun hs=>by rcases hs with hs | hs; (omega); have h10:=hrh _ hs; obtain ⟨cs,h10⟩:=h10; exact h10.ne_ HR.out.fb (by decide) rfl),h6,h7⟩
     · rintro e w' ⟨rfl,w2,rfl,⟨v',dX,h5,h6,h7,h8⟩,h9,h10⟩
       refine ⟨rfl,v',acc ++ withX f dX,h9,h6.far (p:=⟨T.q k,0,none⟩) hfq _,h7.far (p:=⟨T.q k,0,none⟩) hoq _,?_,?_,Fr.trans' HR.out.fr h10 fun b hb hs=>?_⟩
       · refine h8.fr (S:=fun b=>b=T.q k) ((Fr.refl (fun b=>b=T.q k) _).setCell (p:=⟨T.q k,0,none⟩) (fun _=>rfl) _) fun b hb hs=>?_
         obtain ⟨cs,h11⟩:=h8.heap hb
         subst hs
         have h12:=h9.part k hlt
         unfold Blk at h12 h11
         simp [World.setCell,Array.getElem?_modify,h11] at h12
       · have h11:=withX_perm f (stripes_perm (n:=T.n) (k:=k) X)
         rw [withX_app] at h11
         exact (List.Perm.append HR.out.perm (withX_perm f h5)).trans h11.symm
       · rcases hs with rfl | rfl | hs
         · exact HR.out.tbl.rq k hlt
         · omega
         · have:=hrb _ hs; omega
    have cwr:wr.cell? ⟨T.tb,0,none⟩=some (.slice (some ⟨T.pb,0,none⟩) T.n T.c):=HR.out.tbl.hd.cell 0
    clear hrb hrh
    go_wp2_with fail
    refine HD.out.mono ?_
    rintro e w2 ⟨rfl,v',acc',h2⟩
    have H2:=Lib.hid h2
    clear h2
    go_wp2
    go_roundw
    case rel=>exact ⟨k + 1,v',acc',by go_num,by omega,H2.out⟩
    case measure=>simp [intOf]; omega
  · have hd:decide ((k:Int) < T.n)=false:=decide_eq_false (by omega)
    have hc:wr.cell? ⟨w.heap.size + 1,0,none⟩=some v:=HR.out.box.cell 0
    have hp2:acc.Perm (withL (X.map MB.m) f):=by
     have h1:=HR.out.perm
     rw [← withX_map]
     have:(X.filter fun x:MB=>decide (x.m.uid % (T.n:Int) < (k:Int)))=X:=by
      rw [List.filter_eq_self]
      intro x _
      have h0:=h.n0
      have:=Int.emod_lt_of_pos x.m.uid (b:=(T.n:Int)) (by omega)
      simp
      omega
     rw [this] at h1
     exact h1
    have HP2:=Lib.hid hp2
    clear hp2
    go_wp2_with fail
    refine (usort_any HR.out.row (by omega)).mono ?_
    rintro e w2 ⟨rfl,hrow,hfr⟩
    rw [sort_perm HP2.out] at hrow
    have hb2:=hfr.blk HR.out.box (fun hs=>by obtain ⟨cs,h10⟩:=HR.out.row.heap hs; exact h10.ne_ HR.out.box (by decide) rfl)
    have hc2:w2.cell? ⟨w.heap.size + 1,0,none⟩=some v:=hb2.cell 0
    have HROW:=Lib.hid hrow
    have hrb:=fun b hb=>(HR.out.row.block (b:=b) hb).1
    have HRB:=Lib.hid hrb
    clear hrow hb2 hrb
    go_wp2
    go_ret
    refine ⟨_,rfl,HROW.out,HR.out.tbl.fr hfr (fun b hb hft=>?_) (fun u l hu b hb hs=>?_),Fr.trans' HR.out.fr hfr fun b hb hs=>?_⟩
    · have h1:=HRB.out b hb
      have h2:=hft.2
      omega
    · obtain ⟨cs,h9⟩:=hu.heap hb
      obtain ⟨cs',h10⟩:=HR.out.row.heap hs
      exact h9.ne_ h10 (by decide) rfl
    · have h1:=HRB.out b hs
      omega
end Go.Proofs.YtliimglbbiebiaaGreatDoor
end

section
namespace Go.Proofs.YtliimglbbiebiaaGreatDoor
open Go.RowKit
def URow (base:Nat) (w:World) (v:Value) (l:List Int):Prop :=
 (v=.slice none 0 0∧l=[])∨∃ g off c,v=.slice (some ⟨g,off,none⟩) l.length c∧base≤g∧(∃ cs,Blk w g 28 cs)∧l.length≤c∧c≤maxLen ∧
   (∀ i x,l[i]? = some x→w.cell? ⟨g,off + i,none⟩=some (.int .u32 x))∧∀ j,j < c→(∃ z,w.cell? ⟨g,off + j,none⟩=some z)∧w.frozen? ⟨g,off + j,none⟩=false
section
variable {base g c off n:Nat} {w w':World} {v:Value} {l:List Int}
theorem URow.of_own (h:Own (intE .u32) 28 base w v l):URow base w v l:=by
 rcases h.2 with ⟨rfl,hn⟩ | ⟨g,cap,cur,rfl,hbase,hgb,hnc,hcm,hsz,_⟩
 · exact .inl ⟨rfl,List.eq_nil_of_length_eq_zero hn⟩
 · refine .inr ⟨g,0,cap,rfl,hbase,⟨cur,hgb⟩,hnc,hcm,fun i x hx=>?_,fun j hj=>⟨?_,?_⟩⟩
   · rw [Nat.zero_add]; exact h.icell hx
   · rw [Nat.zero_add,cell_of_row w g j cur 28 (0,0) hgb]
     exact ⟨_,Array.getElem?_eq_getElem (by have:(intE .u32).sz=1:=rfl; rw [this] at hsz; omega)⟩
   · exact h.ifrozen _
theorem URow.rd (h:URow base w v l):Rd (intE .u32) w v l:=by
 rcases h with ⟨rfl,rfl⟩ | ⟨g,off,c,rfl,_,_,hc,_,hcells,_⟩
 · exact Rd.nil _ _
 · refine ⟨_,c,rfl,hc,fun _=>⟨g,off,rfl,fun i x hx j u hu=>by
   have h0:(intE .u32).enc x=[.int .u32 x]:=rfl
   rw [h0] at hu
   cases j with
   | succ j=>simp at hu
   | zero =>
     obtain rfl:Value.int .u32 x=u:=by simpa using hu
     have h1:(intE .u32).sz=1:=rfl
     simpa [h1] using hcells i x hx⟩⟩
theorem URow.keep (h:URow base w v l) (_hs:w.heap.size≤w'.heap.size) (hk:∀ b,v.ownBlock=some b→w'.heap[b]? = w.heap[b]?):URow base w' v l:=by
 rcases h with h | ⟨g,off,c,rfl,hb,hg,hc,hm,hcells,hj⟩
 · exact .inl h
 · have e:=hk g rfl
   obtain ⟨cs,hg⟩:=hg
   refine .inr ⟨g,off,c,rfl,hb,⟨cs,e.trans hg⟩,hc,hm,fun i x hx=>(World.cell?_of_block e).trans (hcells i x hx),fun j hjc=>?_⟩
   obtain ⟨⟨z,hz⟩,hf⟩:=hj j hjc
   exact ⟨⟨z,(World.cell?_of_block e).trans hz⟩,(World.frozen?_of_block e).trans hf⟩
theorem URow.block (h:URow base w v l) {b:Nat} (hb:v.ownBlock=some b):base≤b∧b < w.heap.size:=by
 rcases h with ⟨rfl,_⟩ | ⟨g,off,c,rfl,h1,h2,_⟩
 · cases hb
 · cases hb; obtain ⟨cs,h2⟩:=h2; exact ⟨h1,h2.lt⟩
theorem URow.heap (h:URow base w v l) {b:Nat} (hb:v.ownBlock=some b):∃ cs,Blk w b 28 cs:=by
 rcases h with ⟨rfl,_⟩ | ⟨g,off,c,rfl,h1,h2,_⟩
 · cases hb
 · cases hb; exact h2
theorem URow.fr {S:Nat→Prop} (h:URow base w v l) (hf:Fr S w w') (hS:∀ b,v.ownBlock=some b→¬ S b):URow base w' v l :=
 h.keep hf.size fun b hb=>hf.block b (h.block hb).2 (hS b hb)
theorem URow.new (h:URow base w v l) (hf:New w w'):URow base w' v l:=h.fr hf fun _ _=>id
theorem URow.tail {x:Int} (h:URow base w (.slice (some ⟨g,off,none⟩) n c) (x :: l)):URow base w (.slice (some ⟨g,off + 1,none⟩) (n - 1) (c - 1)) l:=by
 rcases h with ⟨h,_⟩ | ⟨g',off',c',he,hb,hg,hc,hm,hcells,hj⟩
 · cases h
 · cases he
   simp only [List.length_cons] at hc ⊢
   refine .inr ⟨_,_,_,rfl,hb,hg,by omega,by omega,fun i y hy=>?_,fun j hjc=>?_⟩
   · rw [Nat.add_assoc,Nat.add_comm 1 i]; exact hcells (i + 1) y (by simpa using hy)
   · rw [Nat.add_assoc,Nat.add_comm 1 j]; exact hj (j + 1) (by omega)
theorem URow.mono (h:URow base w v l) {b':Nat} (hb:b'≤base):URow b' w v l:=by
 rcases h with h | ⟨g,off,c,h1,h2,h3⟩
 · exact .inl h
 · exact .inr ⟨g,off,c,h1,Nat.le_trans hb h2,h3⟩
theorem URow.form (h:URow base w v l):∃ A c,v=.slice A l.length c∧l.length≤c:=by
 rcases h with ⟨rfl,rfl⟩ | ⟨g,off,c,rfl,_,_,hc,_⟩
 · exact ⟨none,0,rfl,Nat.le_refl _⟩
 · exact ⟨_,c,rfl,hc⟩
end
end Go.Proofs.YtliimglbbiebiaaGreatDoor
end

