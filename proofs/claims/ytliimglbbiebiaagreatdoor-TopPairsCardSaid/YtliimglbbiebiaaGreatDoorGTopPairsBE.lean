/- A part of the proof: Sched7, Sched8, Works, Pairs3, OpenRd. -/
import Derived.Test.YtliimglbbiebiaaGreatDoorGTopPairsBD
import Derived.Test.YtliimglbbiebiaaGreatDoorGTopPairsBC
import Derived.Test.YtliimglbbiebiaaGreatDoorGTopPairsAZ
import Derived.Test.YtliimglbbiebiaaGreatDoorGTopPairsAY
import Derived.Test.YtliimglbbiebiaaGreatDoorGTopPairsAA
set_option maxRecDepth 100000
set_option maxHeartbeats 6400000
section
namespace Go.Proofs.YtliimglbbiebiaaGreatDoor
open Go.RowKit
section
variable {w:World} {sb g0 o0 c0 g1 o1 c1:Nat}
theorem snew_two (h:Two w sb g0 o0 c0 g1 o1 c1) (hT:Tabs w) :
 Calls Tryz.prog 8 #[cfgV,.slice (some ⟨sb,0,none⟩) 2 2] w fun e w'=>∃ s lk bm bx T X P,e=.returned (.pointer (some ⟨s,0,none⟩))∧Srv w.heap.size w'.heap.size w'.heap.size w' s lk bm (List.replicate 5 (-1)) 0 bx T X P (fun _=>0) []∧New w w':=by
 have H:=Lib.hid h
 have HT:=Lib.hid hT
 clear h hT
 go_enter Tryz.func8,Tryz.ntmps8
 go_wp2_with fail
 refine (mailbox_two _).mono ?_
 rintro e w1 ⟨S,base,rfl,hlo,_,hTn,hS⟩
 have HTN:=Lib.hid hTn
 clear hTn
 go_wp2_with fail
 have m2:New w1 (w1.alloc (.cells #[.int .i64 2,.int .i64 2] 65)):=(New.refl w1).alloc _
 have n1:New w w1:=((New.refl w).alloc _).trans hS.new
 have c1':=hS.new.blk (Blk.new w 30 #[.int .i64 2,.int .i64 5,.int .u32 1])
 have c2':=m2.blk c1'
 have HS:=Lib.hid (hS.more m2)
 have g2:=Blk.new w1 65 #[.int .i64 2,.int .i64 2]
 have n2:=n1.trans m2
 clear hS c1'
 generalize (w1.alloc (.cells #[.int .i64 2,.int .i64 2] 65))=wA at *
 generalize w1.heap.size=L at *
 have a0:wA.cell? ⟨w.heap.size,0,none⟩=some (.int .i64 2):=c2'.cell 0
 have a1:wA.cell? ⟨w.heap.size,1,none⟩=some (.int .i64 5):=c2'.cell 1
 have a2:wA.cell? ⟨w.heap.size,2,none⟩=some (.int .u32 1):=c2'.cell 2
 obtain ⟨k0,k1⟩:=g2.all2
 clear m2 n1
 go_region_held3 (fun W=>W.cell? ⟨w.heap.size,0,none⟩=some (.int .i64 2)∧W.cell? ⟨w.heap.size,1,none⟩=some (.int .i64 5)∧W.cell? ⟨w.heap.size,2,none⟩=some (.int .u32 1)∧W.cell? ⟨L,0,none⟩=some (.int .i64 2)∧W.cell? ⟨L,1,none⟩=some (.int .i64 2)) (first | go_keep | (refine ⟨?_,?_,?_,?_,?_⟩ <;> assumption)) ((first
  | (go_at_call 27
     refine (count_any 2 2 (by omega) (by omega) (by omega) (by omega) _).mono ?_
     rintro e wC ⟨rfl,mC⟩
     have nC:New wA wC:=Fr.trans (by repeat' first | exact New.refl _ | assumption | apply Fr.alloc | apply Fr.drewN | apply Fr.drew) mC
     have cC:=nC.blk c2'
     have gC:=nC.blk g2
     have p0:wC.cell? ⟨w.heap.size,0,none⟩=some (.int .i64 2):=cC.cell 0
     have p1:wC.cell? ⟨w.heap.size,1,none⟩=some (.int .i64 5):=cC.cell 1
     have p2:wC.cell? ⟨w.heap.size,2,none⟩=some (.int .u32 1):=cC.cell 2
     have q0:wC.cell? ⟨L,0,none⟩=some (.int .i64 2):=gC.cell 0
     have q1:wC.cell? ⟨L,1,none⟩=some (.int .i64 2):=gC.cell 1)
  | (go_at_call 26
     refine (lnew_any 5 (by omega) (by omega) _).mono ?_
     rintro e wL ⟨lk,bm,rfl,hL,hl0,hl1,mL⟩
     have mL0:=mL.size
     have nL:New wA wL:=Fr.trans (by repeat' first | exact New.refl _ | assumption | apply Fr.alloc | apply Fr.drewN | apply Fr.drew) mL
     have cL:=nL.blk c2'
     have gL:=nL.blk g2
     have r0:wL.cell? ⟨w.heap.size,0,none⟩=some (.int .i64 2):=cL.cell 0
     have r1:wL.cell? ⟨w.heap.size,1,none⟩=some (.int .i64 5):=cL.cell 1
     have r2:wL.cell? ⟨w.heap.size,2,none⟩=some (.int .u32 1):=cL.cell 2
     have s0:wL.cell? ⟨L,0,none⟩=some (.int .i64 2):=gL.cell 0
     have s1:wL.cell? ⟨L,1,none⟩=some (.int .i64 2):=gL.cell 1)
  | (go_at_call 28
     refine (bound_two (H.out.new (n2.trans (by repeat' first | exact New.refl _ | assumption | apply Fr.alloc | apply Fr.drewN | apply Fr.drew))) (HT.out.new (n2.trans (by repeat' first | exact New.refl _ | assumption | apply Fr.alloc | apply Fr.drewN | apply Fr.drew)))).mono ?_
     rintro e wB ⟨rfl,mB⟩
     have nB:New wA wB:=Fr.trans (by repeat' first | exact New.refl _ | assumption | apply Fr.alloc | apply Fr.drewN | apply Fr.drew) mB
     have cB:=nB.blk c2'
     have gB:=nB.blk g2
     have t0:wB.cell? ⟨w.heap.size,0,none⟩=some (.int .i64 2):=cB.cell 0
     have t1:wB.cell? ⟨w.heap.size,1,none⟩=some (.int .i64 5):=cB.cell 1
     have t2:wB.cell? ⟨w.heap.size,2,none⟩=some (.int .u32 1):=cB.cell 2
     have u0:wB.cell? ⟨L,0,none⟩=some (.int .i64 2):=gB.cell 0
     have u1:wB.cell? ⟨L,1,none⟩=some (.int .i64 2):=gB.cell 1)
  | fail))
 have nS:New wA (wB.alloc (.cells #[.pointer (some ⟨S.s,0,none⟩),.pointer (some ⟨lk,0,none⟩),.slice none 0 0,.slice none 0 0,.int .i64 16] 73)):=nB.alloc _
 have bS:=Blk.new wB 73 #[.pointer (some ⟨S.s,0,none⟩),.pointer (some ⟨lk,0,none⟩),.slice none 0 0,.slice none 0 0,.int .i64 16]
 have hLS:Tab (wB.alloc (.cells #[.pointer (some ⟨S.s,0,none⟩),.pointer (some ⟨lk,0,none⟩),.slice none 0 0,.slice none 0 0,.int .i64 16] 73)) lk bm (List.replicate 5 (-1)) 0:=hL.new (mB.alloc _)
 have HSS:=Lib.hid (HS.out.more nS)
 have hft:(∀ k,S.foot Qs.none k→k < wB.heap.size)∧(w.alloc (.cells #[.int .i64 2,.int .i64 5,.int .u32 1] 30)).heap.size≤wB.heap.size:=by
  have z3:=nB.size
  exact ⟨fun k hk=>Nat.lt_of_lt_of_le (HS.out.foot_lt hk) z3,Nat.le_trans HS.out.new.size z3⟩
 have HFT:=Lib.hid hft
 clear hft
 have hsz:w.heap.size≤wB.heap.size∧w.heap.size≤lk∧w.heap.size≤bm:=by
  have z2:=n2.size
  have z3:=nB.size
  have z4:=nC.size
  omega
 have nW:=n2.trans nS
 have HZ:=Lib.hid hsz
 generalize (wB.alloc (.cells #[.pointer (some ⟨S.s,0,none⟩),.pointer (some ⟨lk,0,none⟩),.slice none 0 0,.slice none 0 0,.int .i64 16] 73))=wS at *
 generalize wB.heap.size=s at *
 have HW:=Lib.hid nW
 have HLS:=Lib.hid hLS
 clear hsz nS nW hLS hL hl0 hl1 mL mL0 mB mC cC gC cL gL cB gB p0 p1 p2 q0 q1 r0 r1 r2 s0 s1 t0 t1 t2 u0 u1 nC nL nB a0 a1 a2 k0 k1 c2' g2 n2 HS
 have hst:∀ W,New wS W→Calls Tryz.prog 49 #[.pointer (some ⟨S.s,0,none⟩)] W fun e W'=>e=.returned (.int .i64 2)∧W'=W:=fun W hW=>by
  have:=sstripes_any (HSS.out.more hW)
  rw [HTN.out] at this
  exact this
 have HST:=Lib.hid hst
 clear hst
 go_wp2_with fail
 have h2:=H.out.new HW.out
 have r0:wS.cell? ⟨sb,0,none⟩=some (.slice (some ⟨g0,o0,none⟩) 8 c0):=h2.row.cell 0
 have k1:wS.cell? ⟨s,1,none⟩=some (.pointer (some ⟨lk,0,none⟩)):=bS.cell 1
 refine wp_loop_rounds 3 ?_
 rw [rounds_succ]
 go_wp2_with fail
 refine (tasknew_any ⟨S.s,0,none⟩ lk 2 2 0 (by omega) (by omega) rfl (by omega) (by omega) wS HLS.out (by rfl) HST.out).mono ?_
 rintro e w1 ⟨t0,x0,p0,rfl,n1,hz1,hz2,hz3,hz4,ht0,hx0,hp0⟩
 have NW1:=Lib.hid (HW.out.trans n1)
 have hu0:Rd (intE .u8) w1 (.slice (some ⟨g0,o0,none⟩) 8 c0) (nums (wholeL 97)):=(H.out.new NW1.out).b0.rd c0 H.out.h0
 have bS1:=n1.blk bS
 have T0:=Lib.hid ht0
 have Z0:=Lib.hid (And.intro hz1 (And.intro hz2 (And.intro hz3 (And.intro hz4 (And.intro bS.lt n1.size)))))
 have hfd:=tfeed_nil ht0 hp0 _ _ hu0 (by rw [nums_len]; decide)
 have HFD:=Lib.hid hfd
 have HX0:=Lib.hid hx0
 have HP0:=Lib.hid hp0
 have N1:=Lib.hid n1
 clear hfd ht0 hp0 hx0 hz1 hz2 hz3 hz4 r0 k1 h2 n1 hu0
 go_wp2_with fail
 refine HFD.out.mono ?_
 rintro e w2 ⟨rfl,o2,v0,hq0,hv0⟩
 have bS2:=o2.blk bS1 (bS1.ne_ HP0.out (by decide))
 have c2:w2.cell? ⟨s,2,none⟩=some (.slice none 0 0):=bS2.cell 2
 obtain ⟨i0,hi0,hy0,hy1,hy2⟩:=info_parts pt_info
 have hno:=Own.nil ptE 74 w.heap.size (w2.alloc (.cells #[.pointer (some ⟨t0,0,none⟩)] 74))
 have hrd:Rd ptE (w2.alloc (.cells #[.pointer (some ⟨t0,0,none⟩)] 74)) (.slice (some ⟨w2.heap.size,0,none⟩) 1 1) [t0]:=rd_one (E:=ptE) (x:=t0) (t:=74) (Blk.new _ _ _)
 have hsz:w.heap.size≤(w2.alloc (.cells #[.pointer (some ⟨t0,0,none⟩)] 74)).heap.size:=by
  have:=NW1.out.size
  have:=o2.size
  rw [World.size_alloc]
  omega
 have HV0:=Lib.hid hv0
 have HQ0:=Lib.hid hq0
 have O2:=Lib.hid o2
 clear hv0 hq0 o2
 go_wp2_with (at_builtin; refine wpList_append (E:=ptE) rfl _ _ _ rfl Tryz.underlying71 hi0 hy0 hy1 hy2 rfl hno rfl hrd rfl (by unfold maxLen; simp) (by simp) hsz ?_; intro tv w3 hv3 hf3 hl3; have bS3:=hf3.blk (bS2.alloc (.cells #[.pointer (some ⟨t0,0,none⟩)] 74)) (fun h=>by cases h); have e3:w3.cell? ⟨s,2,none⟩=some (.slice none 0 0):=bS3.cell 2; have f3:w3.frozen? ⟨s,2,none⟩=false:=bS3.frozen 2; obtain ⟨A3,C3,rfl,_⟩:=hv3.form)
 have HV3:=Lib.hid hv3
 have n3:New wS w3:=Fr.trans ((New.one N1.out O2.out Z0.out.2.2.1).alloc _) (hf3.mono fun _ _ h=>by cases h)
 have N23:Hid (New w2 w3):=Lib.hid (Fr.trans ((New.refl w2).alloc _) (hf3.mono fun _ _ h=>by cases h))
 have N3:=Lib.hid n3
 have bS4:=bS3.set_ 2 (.slice A3 (([]:List Nat) ++ [t0]).length C3)
 have o4:One s w3 (w3.setCell ⟨s,2,none⟩ (.slice A3 (([]:List Nat) ++ [t0]).length C3)):=(One.refl s w3).set 2 _
 have hX3:=HSS.out.more n3
 have hX4:=hX3.keep (R:=fun k=>k=s) o4 (fun k hk e=>by have:=HFT.out.1 k hk; omega) (fun v l ho b hb e=>ho.blk_ne bS3 (by decide) (by rw [← e]; exact hb)) (fun k e=>by have:=HFT.out.2; omega)
 have hL3:=HLS.out.new n3
 obtain ⟨ml,hml,_⟩:=hL3.map
 have hL4:=hL3.fr o4 (hL3.blk.ne_ bS3 (by decide)) (hml.ne_blk bS3)
 have n4:New w (w3.setCell ⟨s,2,none⟩ (.slice A3 (([]:List Nat) ++ [t0]).length C3)):=New.one (HW.out.trans n3) o4 HZ.out.1
 have hl3s:=bS3.lt
 have hl4:(w3.setCell ⟨s,2,none⟩ (.slice A3 (([]:List Nat) ++ [t0]).length C3)).heap.size=w3.heap.size:=by simp [World.setCell]
 have O4:=Lib.hid o4
 have HX4:=Lib.hid hX4
 have HL4:=Lib.hid hL4
 have N4:=Lib.hid n4
 have L4:=Lib.hid hl4
 clear hv3 hf3 hl3 n3 o4 hX3 hX4 hL3 hml hL4 n4 c2 e3 f3 hno hrd hsz bS bS1 bS2 hl4
 have e5:(([]:List Nat) ++ [t0]).length=1:=rfl
 rw [e5] at O4 HX4 HL4 N4 L4 bS4 HV3
 generalize w3.setCell ⟨s,2,none⟩ (.slice A3 1 C3)=w4 at *
 have hst:∀ W,New w4 W→Calls Tryz.prog 49 #[.pointer (some ⟨S.s,0,none⟩)] W fun e W'=>e=.returned (.int .i64 2)∧W'=W:=fun W hW=>by
  have:=sstripes_any (HX4.out.more hW)
  rw [HTN.out] at this
  exact this
 have HST4:=Lib.hid hst
 clear hst
 have h4:=H.out.new N4.out
 have r1:w4.cell? ⟨sb,1,none⟩=some (.slice (some ⟨g1,o1,none⟩) 8 c1):=h4.row.cell 1
 have k1:w4.cell? ⟨s,1,none⟩=some (.pointer (some ⟨lk,0,none⟩)):=bS4.cell 1
 rw [rounds_succ]
 go_wp2_with fail
 refine (tasknew_any ⟨S.s,0,none⟩ lk 2 2 1 (by omega) (by omega) rfl (by omega) (by omega) w4 HL4.out (by rfl) HST4.out).mono ?_
 rintro e w5 ⟨t1,x1,p1,rfl,n5,hz1,hz2,hz3,hz4,ht1,hx1,hp1⟩
 have NW5:=Lib.hid (N4.out.trans n5)
 have hu1:Rd (intE .u8) w5 (.slice (some ⟨g1,o1,none⟩) 8 c1) (nums (wholeL 98)):=(H.out.new NW5.out).b1.rd c1 H.out.h1
 have bS5:=n5.blk bS4
 have T1:=Lib.hid ht1
 have Z1:=Lib.hid (And.intro hz1 (And.intro hz2 (And.intro hz3 (And.intro hz4 n5.size))))
 have hfd:=tfeed_nil ht1 hp1 _ _ hu1 (by rw [nums_len]; decide)
 have HFD1:=Lib.hid hfd
 have HX1:=Lib.hid hx1
 have HP1:=Lib.hid hp1
 have N5:=Lib.hid n5
 clear hfd ht1 hp1 hx1 hz1 hz2 hz3 hz4 r1 k1 h4 n5 hu1
 go_wp2_with fail
 refine HFD1.out.mono ?_
 rintro e w6 ⟨rfl,o6,v1,hq1,hv1⟩
 have bS6:=o6.blk bS5 (bS5.ne_ HP1.out (by decide))
 have c2:w6.cell? ⟨s,2,none⟩=some (.slice A3 1 C3):=bS6.cell 2
 have hV4:=HV3.out.fr O4.out (fun g hg e=>HV3.out.blk_ne bS3 (by decide) (by rw [← e]; exact hg))
 have hV5:=hV4.new N5.out
 have hV6:=hV5.fr o6 (fun g hg e=>hV5.blk_ne HP1.out (by decide) (by rw [← e]; exact hg))
 have hno:=hV6.alloc (.cells #[.pointer (some ⟨t1,0,none⟩)] 74)
 have hrd:Rd ptE (w6.alloc (.cells #[.pointer (some ⟨t1,0,none⟩)] 74)) (.slice (some ⟨w6.heap.size,0,none⟩) 1 1) [t1]:=rd_one (E:=ptE) (x:=t1) (t:=74) (Blk.new _ _ _)
 have hsz:w.heap.size≤(w6.alloc (.cells #[.pointer (some ⟨t1,0,none⟩)] 74)).heap.size:=by
  have:=NW5.out.size
  have:=o6.size
  rw [World.size_alloc]
  omega
 have HV1:=Lib.hid hv1
 have HQ1:=Lib.hid hq1
 have O6:=Lib.hid o6
 have HV6:=Lib.hid hV6
 clear hv1 hq1 o6 hV4 hV5 hV6
 go_wp2_with (at_builtin; refine wpList_append (E:=ptE) rfl _ _ _ rfl Tryz.underlying71 hi0 hy0 hy1 hy2 rfl hno rfl hrd rfl (by unfold maxLen; simp) (by simp) hsz ?_; intro tv2 w7 hv7 hf7 hl7; have bS7:=hf7.blk (bS6.alloc (.cells #[.pointer (some ⟨t1,0,none⟩)] 74)) (fun h=>hno.blk_ne (bS6.alloc (.cells #[.pointer (some ⟨t1,0,none⟩)] 74)) (by decide) h); have e7:w7.cell? ⟨s,2,none⟩=some (.slice A3 1 C3):=bS7.cell 2; have f7:w7.frozen? ⟨s,2,none⟩=false:=bS7.frozen 2; obtain ⟨A7,C7,rfl,_⟩:=hv7.form)
 rw [rounds_succ]
 go_wp2
 go_ret
 have O78:One s w7 (w7.setCell ⟨s,2,none⟩ (.slice A7 2 C7)):=(One.refl s w7).set 2 _
 have F68:Fr (fun k=>k=s∨(Value.slice A3 1 C3).ownBlock=some k) w6 (w7.setCell ⟨s,2,none⟩ (.slice A7 2 C7)) :=
  Fr.trans (Fr.trans (((New.refl w6).alloc (.cells #[.pointer (some ⟨t1,0,none⟩)] 74)).mono fun _ _ h=>h.elim) (hf7.mono fun k _ h=>.inr h)) (O78.mono fun k _ h=>.inl h)
 have F58:Fr (fun k=>k=p1∨k=s∨(Value.slice A3 1 C3).ownBlock=some k) w5 (w7.setCell ⟨s,2,none⟩ (.slice A7 2 C7)) :=
  (O6.out.mono fun _ _ h=>.inl h).trans (F68.mono fun _ _ h=>.inr h)
 have F38:Fr (fun k=>k=s∨(Value.slice A3 1 C3).ownBlock=some k) w3 (w7.setCell ⟨s,2,none⟩ (.slice A7 2 C7)) :=
  Fr.trans' (Fr.trans (O4.out.mono fun _ _ h=>.inl h) (N5.out.mono fun _ _ h=>h.elim)) F58 fun i hi h=>by
   rcases h with h | h
   · have:=Z1.out.2.2.1; have:=L4.out; omega
   · exact h
 have V4:=HV3.out.fr O4.out (fun g hg e=>HV3.out.blk_ne bS3 (by decide) (by rw [← e]; exact hg))
 have V5:=V4.new N5.out
 have K3:∀ g e cs,Blk w3 g e cs→e≠73→e≠74→¬ (g=s∨(Value.slice A3 1 C3).ownBlock=some g):=fun g e cs hb e1 e2 hk=>by
  rcases hk with hk | hk
  · exact hb.ne_ bS3 e1 hk
  · obtain ⟨cs',hcs'⟩:=HV3.out.heap hk
    exact hb.ne_ hcs' e2 rfl
 have K6:∀ g e cs,Blk w6 g e cs→e≠73→e≠74→¬ (g=s∨(Value.slice A3 1 C3).ownBlock=some g):=fun g e cs hb e1 e2 hk=>by
  rcases hk with hk | hk
  · exact hb.ne_ bS6 e1 hk
  · obtain ⟨cs',hcs'⟩:=HV6.out.heap hk
    exact hb.ne_ hcs' e2 rfl
 have K5:∀ g e cs,Blk w5 g e cs→e≠73→e≠74→e≠176→¬ (g=p1∨g=s∨(Value.slice A3 1 C3).ownBlock=some g):=fun g e cs hb e1 e2 e3 hk=>by
  rcases hk with hk | hk | hk
  · exact hb.ne_ HP1.out e3 hk
  · exact hb.ne_ bS5 e1 hk
  · obtain ⟨cs',hcs'⟩:=V5.heap hk
    exact hb.ne_ hcs' e2 rfl
 -- the first session
 have a3:=N23.out.blk (O2.out.blk T0.out (T0.out.ne_ HP0.out (by decide)))
 have x3:=N23.out.blk (O2.out.blk HX0.out (HX0.out.ne_ HP0.out (by decide)))
 have q3:=N23.out.blk HQ0.out
 have v3:=HV0.out.new N23.out
 have a8:=F38.blk a3 (K3 _ _ _ a3 (by decide) (by decide))
 have x8:=F38.blk x3 (K3 _ _ _ x3 (by decide) (by decide))
 have q8:=F38.blk q3 (K3 _ _ _ q3 (by decide) (by decide))
 have v8:=v3.fr F38 fun g hg hk=>by obtain ⟨cs,hcs⟩:=v3.heap hg; exact K3 _ _ _ hcs (by decide) (by decide) hk
 -- the second
 have b8:=F58.blk T1.out (K5 _ _ _ T1.out (by decide) (by decide) (by decide))
 have y8:=F58.blk HX1.out (K5 _ _ _ HX1.out (by decide) (by decide) (by decide))
 have r8:=F68.blk HQ1.out (K6 _ _ _ HQ1.out (by decide) (by decide))
 have u8:=HV1.out.fr F68 fun g hg hk=>by obtain ⟨cs,hcs⟩:=HV1.out.heap hg; exact K6 _ _ _ hcs (by decide) (by decide) hk
 -- the rest
 have L3:=HLS.out.new N3.out
 obtain ⟨ml,hml,_⟩:=L3.map
 have L8:=L3.fr F38 (K3 _ _ _ L3.blk (by decide) (by decide)) (fun hk=>by
  rcases hk with hk | hk
  · exact hml.ne_blk bS3 hk
  · obtain ⟨cs',hcs'⟩:=HV3.out.heap hk
    exact hml.ne_blk hcs' rfl)
 have bS8:=bS7.set_ 2 (.slice A7 2 C7)
 have W8:=hv7.fr O78 (fun g hg e=>hv7.blk_ne bS7 (by decide) (by rw [← e]; exact hg))
 have hz:=HZ.out
 have hz0:=Z0.out
 have hz1:=Z1.out
 have hs1:=NW1.out.size
 have hs4:=N4.out.size
 have hsW:=HW.out.size
 have n8:New w (w7.setCell ⟨s,2,none⟩ (.slice A7 2 C7)):=Fr.trans' (New.one NW5.out O6.out (by omega)) F68 fun i hi h=>by
  rcases h with h | h
  · omega
  · have:=(HV6.out.block h).1; omega
 have h12:w1.heap.size≤w3.heap.size:=Nat.le_trans O2.out.size N23.out.size
 have h34:=L4.out
 have hq0:=HQ0.out.lt
 have h23:=N23.out.size
 have hx0l:=HX0.out.lt
 have hwp:w2.heap.size=w2.heap.size:=rfl
 refine ⟨s,lk,bm,.pointer (some ⟨S.s,0,none⟩),(fun j=>if j=0 then t0 else t1),(fun j=>if j=0 then x0 else x1),(fun j=>if j=0 then p0 else p1),rfl,?_,n8⟩
 refine {
  blk:=⟨_,.slice none 0 0,bS8,W8,Own.nil _ _ _ _,fun g hg=>by cases hg⟩
  ss:=fun i hi=>?_
  tab:=L8
  oo:=fun i hi=>by
   obtain rfl | rfl:i=0∨i=1:=by omega
   · decide
   · decide
  nT:=by show t0≠t1; omega
  nX:=by show x0≠x1; omega
  nP:=by show p0≠p1; omega
  ls:=hz.1
  ll:=hz.2.1
  lb:=hz.2.2
  lB:=n8.size
  zs:=bS8.lt
  zl:=L8.lt
  zb:=L8.ltm
  zT:=fun i hi=>by
   obtain rfl | rfl:i=0∨i=1:=by omega
   · exact ⟨a8.lt,q8.lt⟩
   · exact ⟨b8.lt,r8.lt⟩
  zw:=Nat.le_refl _
  z01:=Nat.le_refl _ }
 obtain rfl | rfl:i=0∨i=1:=by omega
 · exact ⟨by show w.heap.size≤t0; omega,by show w.heap.size≤x0; omega,by show w.heap.size≤p0; omega,x8,fun _=>⟨a8,v0,q8,v8.mono (by omega)⟩,fun e=>(by cases e),fun e=>(by simp at e)⟩
 · exact ⟨by show w.heap.size≤t1; omega,by show w.heap.size≤x1; omega,by show w.heap.size≤p1; omega,y8,fun _=>⟨b8,v1,r8,u8.mono (by omega)⟩,fun e=>(by cases e),fun e=>(by simp at e)⟩
end
end Go.Proofs.YtliimglbbiebiaaGreatDoor
end

section
namespace Go.Proofs.YtliimglbbiebiaaGreatDoor
open Go.RowKit
section
variable {B z0 z1:Nat} {w w':World} {bx:Value} {s lk bm:Nat} {O:List Int} {N:Int} {T X P ph:Nat→Nat} {ord:List Int}
theorem pick_11 (h:Srv B z0 z1 w s lk bm O N bx T X P (fun _=>0) []) (ib:Nat) (hib:Blk w ib 3 #[.int .i64 1,.int .i64 1]) (hi0:z0≤ib) (hi1:ib < z1) (hT:∀ w',Fr (fun k=>B≤k) w w'→Tabs w') :
 Calls Tryz.prog 10 #[.pointer (some ⟨s,0,none⟩),.slice (some ⟨ib,0,none⟩) 2 2] w fun e w'=>e=.returned (.int .i64 2)∧Srv B z0 z1 w' s lk bm O N bx T X P (updP (updP (fun _=>0) 1) 1) [1]∧Fr (fun k=>B≤k) w w':=by
 have HT:=Lib.hid hT
 have H1:=Lib.hid (pick_any h 1 (by omega) (by simp) hT)
 have HI:=Lib.hid hi0
 have r0:w.cell? ⟨ib,0,none⟩=some (.int .i64 1):=hib.cell 0
 clear hT
 go_enter Tryz.func10,Tryz.ntmps10
 go_wp2_with fail
 refine wp_loop_rounds 3 ?_
 rw [rounds_succ]
 go_wp2_with fail
 refine H1.out.mono ?_
 rintro e w1 ⟨rfl,S1,f1⟩
 have b1:=f1.blk hib (fun hk=>by have:=HI.out; rcases hk.2 with hk | hk; omega; omega)
 have r1:w1.cell? ⟨ib,1,none⟩=some (.int .i64 1):=b1.cell 1
 have H2:=Lib.hid (pick_any S1 1 (by omega) (by simp [ordP]) (fun w' f=>HT.out w' (Fr.trans (f1.mono fun _ _ hk=>hk.1) f)))
 have hm1:movB 0=true:=rfl
 have hm2:movB (updP (fun _=>0) 1 1)=true:=rfl
 rw [hm2] at H2
 go_wp2_with fail
 rw [rounds_succ]
 go_wp2_with fail
 refine H2.out.mono ?_
 rintro e w2 ⟨rfl,S2,f2⟩
 go_wp2_with fail
 rw [rounds_succ]
 go_wp2
 go_ret
 exact ⟨rfl,S2,Fr.trans (f1.mono fun _ _ hk=>hk.1) (f2.mono fun _ _ hk=>hk.1)⟩
theorem order_any (h:Srv B z0 z1 w s lk bm O N bx T X P ph ord) (hl:ord.length≤100000) :
 Calls Tryz.prog 11 #[.pointer (some ⟨s,0,none⟩)] w fun e w'=>∃ v,e=.returned v∧Own (intE .i64) 3 w.heap.size w' v ord∧New w w':=by
 obtain ⟨tv,ov,hb,ht,ho,_⟩:=h.blk
 have c3:w.cell? ⟨s,3,none⟩=some ov:=hb.cell 3
 go_enter Tryz.func11,Tryz.ntmps11
 go_wp2_with fail
 refine (iclone_any ov ord w ho.rd hl).mono ?_
 rintro e w1 ⟨v,rfl,hv,n1⟩
 go_wp2
 go_ret
 exact ⟨v,rfl,hv,n1⟩
end
structure SvO where
 A:Option Addr
 n:Nat
 c:Nat
abbrev SvO.val (x:SvO):Value:=.slice x.A x.n x.c
def svE:Elem SvO:=Elem.one1 (fun x=>.slice x.A x.n x.c) fun _=>rfl
theorem sv_info:(Tryz.prog.info? 23).map (fun i=>(i.zero,i.size,i.bytes))=some (some (.slice none 0 0),1,24):=by kernel_rfl
section
variable {B z0 z1:Nat} {w w':World} {bx:Value} {s lk bm:Nat} {O:List Int} {N:Int} {T X P ph:Nat→Nat} {ord:List Int}
theorem outputs_two (h:Srv B z0 z1 w s lk bm O N bx T X P ph ord) (h0:2≤ph 0) (h1:2≤ph 1) :
 Calls Tryz.prog 24 #[.pointer (some ⟨s,0,none⟩)] w fun e w'=>∃ (v:Value) (x y:SvO),e=.returned v∧Own svE 23 w.heap.size w' v [x,y]∧Own (intE .u8) 5 w.heap.size w' x.val (noopOut 97)∧New w w':=by
 obtain ⟨tv,ov,hb,ht,ho,_⟩:=h.blk
 obtain ⟨A,c,rfl,hc⟩:=ht.form
 obtain ⟨g,rfl⟩:=ht.some_ (by simp)
 obtain ⟨out0,v0,k0,ho0,hv0,hsp0⟩:=(h.ss 0 (by omega)).p2 h0
 obtain ⟨out1,v1,k1,ho1,hv1,hsp1⟩:=(h.ss 1 (by omega)).p2 h1
 have r0:w.cell? ⟨g,0,none⟩=some (.pointer (some ⟨T 0,0,none⟩)):=ht.cell_at (k:=0) (x:=T 0) rfl (j:=0) rfl
 have c2:w.cell? ⟨s,2,none⟩=some (.slice (some ⟨g,0,none⟩) 2 c):=hb.cell 2
 obtain ⟨i0,hi0,hz0,hz1,hz2⟩:=info_parts sv_info
 have hno:=Own.nil svE 23 w.heap.size w
 obtain ⟨L0,hL0⟩:∃ L,noopOut (yOf 0)=L:=⟨_,rfl⟩
 obtain ⟨L1,hL1⟩:∃ L,noopOut (yOf 1)=L:=⟨_,rfl⟩
 have e0:noopOut 97=L0:=hL0
 rw [e0]
 have l0:L0.length≤100000:=by rw [← hL0]; decide
 have l1:L1.length≤100000:=by rw [← hL1]; decide
 rw [hL0] at ho0
 rw [hL1] at ho1
 have H0:=Lib.hid (tout_any L0 k0 ho0.rd l0)
 have HO1:=Lib.hid ho1
 clear hL0 hL1 e0 ho0 ho1
 go_enter Tryz.func24,Tryz.ntmps24
 go_wp2_with fail
 refine wp_loop_rounds 3 ?_
 rw [rounds_succ]
 go_wp2_with fail
 refine H0.out.mono ?_
 rintro e w1 ⟨o0,rfl,hoo,n1⟩
 obtain ⟨oA,oc,rfl,hoc⟩:=hoo.form
 have n2:=(New.refl w1).alloc (.cells #[.slice oA L0.length oc] 23)
 have hrd:Rd svE (w1.alloc (.cells #[.slice oA L0.length oc] 23)) (.slice (some ⟨w1.heap.size,0,none⟩) 1 1) [⟨oA,L0.length,oc⟩]:=rd_one (E:=svE) (x:=⟨oA,L0.length,oc⟩) (t:=23) (Blk.new _ _ _)
 have hno2:=hno.new (n1.trans n2)
 have hoo2:=hoo.new n2
 have s1:=(n1.trans n2).size
 go_wp2_with (at_builtin; refine wpList_append (E:=svE) rfl _ _ _ rfl Tryz.underlying22 hi0 hz0 hz1 hz2 rfl hno2 rfl hrd rfl (by unfold maxLen; simp) (by simp) s1 ?_; intro v3 w3 hv3 hf3 hl3; have n3:New w w3:=Fr.trans (n1.trans n2) (hf3.mono fun _ _ h=>by cases h); have hoo3:=hoo2.fr hf3 (fun _ _ h=>by cases h); have r1:w3.cell? ⟨g,1,none⟩=some (.pointer (some ⟨T 1,0,none⟩)):=(ht.new n3).cell_at (k:=1) (x:=T 1) rfl (j:=0) rfl; obtain ⟨A3,C3,rfl,_⟩:=hv3.form)
 rw [List.nil_append] at hv3
 have HO3:=Lib.hid hoo3
 have HV3:=Lib.hid hv3
 have N3:=Lib.hid n3
 have k13:=n3.blk k1
 clear hoo3 hv3 hf3 hl3 hoo2 hno2 hrd n1 n2 hoo
 rw [rounds_succ]
 go_wp2_with fail
 refine (tout_any L1 k13 (HO1.out.new N3.out).rd l1).mono ?_
 rintro e w4 ⟨o1,rfl,hp,n4⟩
 obtain ⟨pA,pc,rfl,hpc⟩:=hp.form
 have n5:=(New.refl w4).alloc (.cells #[.slice pA L1.length pc] 23)
 have hrd:Rd svE (w4.alloc (.cells #[.slice pA L1.length pc] 23)) (.slice (some ⟨w4.heap.size,0,none⟩) 1 1) [⟨pA,L1.length,pc⟩]:=rd_one (E:=svE) (x:=⟨pA,L1.length,pc⟩) (t:=23) (Blk.new _ _ _)
 have hv5:=HV3.out.new (n4.trans n5)
 have ho5:=HO3.out.new (n4.trans n5)
 have n05:=N3.out.trans (n4.trans n5)
 go_wp2_with (at_builtin; refine wpList_append (E:=svE) rfl _ _ _ rfl Tryz.underlying22 hi0 hz0 hz1 hz2 rfl hv5 rfl hrd rfl (by unfold maxLen; simp) (by simp) n05.size ?_; intro v6 w6 hv6 hf6 hl6; have n6:New w w6:=New.append n05 hv5 hf6; have ho6:=ho5.fr hf6 (fun q hq hk=>by obtain ⟨cs,hcs⟩:=ho5.heap hq; obtain ⟨cs',hcs'⟩:=hv5.heap hk; exact hcs.ne_ hcs' (by decide) rfl); obtain ⟨A6,C6,rfl,_⟩:=hv6.form)
 rw [rounds_succ]
 go_wp2
 go_ret
 exact ⟨_,⟨oA,L0.length,oc⟩,⟨pA,L1.length,pc⟩,rfl,hv6,ho6,n6⟩
end
end Go.Proofs.YtliimglbbiebiaaGreatDoor
end

section
namespace Go.Proofs.YtliimglbbiebiaaGreatDoor
open Go.RowKit
theorem bts_of {w:World} {b:Nat} {C:Array Value} {l:List UInt8} (h:∀ i v,C[i]? = some v→w.cell? ⟨b,i,none⟩=some v) (hC:C=(l.map fun x=>Value.int .u8 (x.toNat:Int)).toArray):Bts w b 0 l:=fun i x hx=>by
 rw [Nat.zero_add]
 refine h i _ ?_
 rw [hC]
 simp [hx]
theorem works_any (w:World) (hT:Tabs w):Calls Tryz.prog 7 #[] w fun e w'=>e=.returned (.bool true)∧New w w':=by
 have HT:=Lib.hid hT
 clear hT
 go_enter Tryz.func7,Tryz.ntmps7
 obtain ⟨w1,hcv1,n1,hC1⟩:=const_made0 w #[.int .u8 97,.int .u8 32,.int .u8 78,.int .u8 79,.int .u8 79,.int .u8 80,.int .u8 13,.int .u8 10] 8
 have hB1:Bts w1 w.heap.size 0 (wholeL 97):=bts_of hC1 rfl
 go_wp2_with fail
 obtain ⟨w2,hcv2,n2,hC2⟩:=const_made0 w1 #[.int .u8 98,.int .u8 32,.int .u8 78,.int .u8 79,.int .u8 79,.int .u8 80,.int .u8 13,.int .u8 10] 8
 have hB2:Bts w2 w1.heap.size 0 (wholeL 98):=bts_of hC2 rfl
 clear hC1 hC2 hcv1
 rw [hcv2]
 go_wp2_with fail
 have n3:=(n1.trans n2).alloc (.cells #[.slice (some ⟨w.heap.size,0,none⟩) 8 8,.slice (some ⟨w1.heap.size,0,none⟩) 8 8] 23)
 have h2:Two (w2.alloc (.cells #[.slice (some ⟨w.heap.size,0,none⟩) 8 8,.slice (some ⟨w1.heap.size,0,none⟩) 8 8] 23)) w2.heap.size w.heap.size 0 8 w1.heap.size 0 8 :=
  ⟨Blk.new _ _ _,(hB1.new n2).new ((New.refl w2).alloc _),hB2.new ((New.refl w2).alloc _),Nat.le_refl _,Nat.le_refl _⟩
 have HS:=Lib.hid (snew_two h2 (HT.out.new n3))
 clear hcv2 hB1 hB2 h2
 refine HS.out.mono ?_
 rintro e w4 ⟨s,lk,bm,bx,T,X,P,rfl,hS,n4⟩
 have hB:=n3.size
 have n5:=(n3.trans n4).alloc (.cells #[.int .i64 1,.int .i64 1] 3)
 have S5:=hS.zone ((New.refl w4).alloc (.cells #[.int .i64 1,.int .i64 1] 3))
 have i5:=Blk.new w4 3 #[.int .i64 1,.int .i64 1]
 generalize (w2.alloc (.cells #[.slice (some ⟨w.heap.size,0,none⟩) 8 8,.slice (some ⟨w1.heap.size,0,none⟩) 8 8] 23)).heap.size=B at *
 have hTT:∀ w5 w',New w w5→Fr (fun k=>B≤k) w5 w'→New w w':=fun w5 w' h f=>Fr.trans' h f fun i hi h=>by omega
 have HTT:=Lib.hid hTT
 have hsz:w4.heap.size < (w4.alloc (.cells #[.int .i64 1,.int .i64 1] 3)).heap.size:=by rw [World.size_alloc]; omega
 have hpk:=pick_11 S5 w4.heap.size i5 (Nat.le_refl _) hsz (fun w' f=>HT.out.new (HTT.out _ _ n5 f))
 have HPK:=Lib.hid hpk
 have N5:=Lib.hid n5
 clear hpk hTT hsz S5 i5 hS HS n4 n5
 go_wp2_with fail
 refine HPK.out.mono ?_
 rintro e w6 ⟨rfl,S6,f6⟩
 have n6:=HTT.out _ _ N5.out f6
 have HFN:=Lib.hid (finish_two (S6.congr (ph':=hF 0) (by decide)) (fun w' f=>HT.out.new (HTT.out _ _ n6 f)))
 have N6:=Lib.hid n6
 clear S6 f6 n6
 go_wp2_with fail
 refine HFN.out.mono ?_
 rintro e w7 ⟨⟨vv,rfl⟩,⟨z0,z1,S7⟩,f7⟩
 have n7:=HTT.out _ _ N6.out f7
 have HOU:=Lib.hid (outputs_two S7 (by decide) (by decide))
 have H7:=Lib.hid S7
 have N7:=Lib.hid n7
 clear f7 n7 S7
 go_wp2_with fail
 refine HOU.out.mono ?_
 rintro e w8 ⟨v8,x8,y8,rfl,o8,u8,n8⟩
 have hL:noopOut 97=nums [97,32,79,75,32,78,79,79,80,32,99,111,109,112,108,101,116,101,100,13,10]:=by decide
 rw [hL] at u8
 obtain ⟨b8,f8,k8,hv8,hk8,ht8,_,_,hb8⟩:=own_bts u8 (by simp)
 have hcv:(convert 23 9 (.slice (some ⟨b8,f8,none⟩) 21 k8)).run Tryz.prog w8=.ok (.string ⟨#[97,32,79,75,32,78,79,79,80,32,99,111,109,112,108,101,116,101,100,13,10]⟩) w8:=ht8.conv k8
 obtain ⟨A8,C8,rfl,_⟩:=o8.form
 obtain ⟨g8,rfl⟩:=o8.some_ (by simp)
 have hc8:w8.cell? ⟨g8,0,none⟩=some x8.val:=o8.cell_at (k:=0) (x:=x8) rfl (j:=0) rfl
 rw [hv8] at hc8
 replace hc8:w8.cell? ⟨g8,0,none⟩=some (.slice (some ⟨b8,f8,none⟩) 21 k8):=hc8
 have HOR:=Lib.hid (order_any (H7.out.new n8) (by decide))
 have N8:=Lib.hid (N7.out.trans n8)
 clear hL u8 hv8 hk8 ht8 hb8 o8 n8
 go_wp2_with fail
 refine HOR.out.mono ?_
 rintro e w9 ⟨v9,rfl,o9,n9⟩
 obtain ⟨A9,C9,rfl,_⟩:=o9.form
 obtain ⟨g9,rfl⟩:=o9.some_ (by decide)
 have n10:=(New.refl w9).alloc (.cells #[.int .i64 1,.int .i64 0] 3)
 have o10:=o9.new n10
 have i10:=Blk.new w9 3 #[.int .i64 1,.int .i64 0]
 have hEQ:=Tryz.slices_Equal_int g9 0 2 C9 w9.heap.size 0 2 2 [1,0] [1,0] (w9.alloc (.cells #[.int .i64 1,.int .i64 0] 3)) (by decide) (by decide) (by decide) (by decide)
  (fun j hj=>by
    rw [Nat.zero_add]
    obtain rfl | rfl:j=0∨j=1:=by simp at hj; omega
    · exact o10.cell_at (k:=0) (x:=1) rfl (j:=0) rfl
    · exact o10.cell_at (k:=1) (x:=0) rfl (j:=0) rfl)
  (fun j hj=>by
    rw [Nat.zero_add]
    obtain rfl | rfl:j=0∨j=1:=by simp at hj; omega
    · exact i10.cell 0
    · exact i10.cell 1)
 have N10:=Lib.hid (N8.out.trans (n9.trans n10))
 have HEQ:=Lib.hid hEQ
 clear hEQ n10 o10 i10 o9 n9
 go_wp2_with fail
 refine HEQ.out.mono ?_
 rintro e w11 ⟨rfl,q,rfl⟩
 go_wp2
 go_ret
 exact ⟨rfl,N10.out.drewN q⟩
end Go.Proofs.YtliimglbbiebiaaGreatDoor
end

section
namespace Go.Proofs.YtliimglbbiebiaaGreatDoor
open Go.RowKit Go.Maps
theorem ps_info:(Tryz.prog.info? 42).map (fun i=>(i.zero,i.size,i.bytes))=some (some (.pointer none),1,8):=by kernel_rfl
structure X3 (w0:World) (base:Nat) (w:World) (S:Sx) (L:List Nat):Prop where
 st:STX w0 base w S Qs.none [] 1 0 1
 ses:∀ (i x:Nat),L[i]? = some x→Ses w x (.pointer (some ⟨S.s,0,none⟩)) (i:Int) none false∧base≤x∧w0.heap.size≤x
 nd:L.Nodup
section
variable {w0 w w':World} {base:Nat} {S:Sx} {L:List Nat}
theorem X3.push (h:X3 w0 base w S L) {x:Nat} (hn:New w w') (hx:Ses w' x (.pointer (some ⟨S.s,0,none⟩)) (L.length:Int) none false) (hxw:w.heap.size≤x):X3 w0 base w' S (L ++ [x]) where
 st:=h.st.more hn
 ses:=fun i y hy=>by
  rcases Nat.lt_or_ge i L.length with hi | hi
  · rw [List.getElem?_append_left hi] at hy
    obtain ⟨h1,h2⟩:=h.ses i y hy
    exact ⟨hn.blk h1,h2⟩
  · rw [List.getElem?_append_right hi] at hy
    have hi0:i - L.length=0:=by
     rcases Nat.eq_zero_or_pos (i - L.length) with h0 | h0
     · exact h0
     · rw [List.getElem?_eq_none (by simp; omega)] at hy
       cases hy
    rw [hi0] at hy
    simp only [List.getElem?_cons_zero,Option.some.injEq] at hy
    subst hy
    have:i=L.length:=by omega
    subst this
    exact ⟨hx,Nat.le_trans h.st.hb hxw,Nat.le_trans h.st.new.size hxw⟩
 nd:=by
  refine List.nodup_append.2 ⟨h.nd,by simp,fun a ha c hc=>?_⟩
  rw [List.mem_singleton.1 hc]
  rintro rfl
  obtain ⟨i,hi⟩:=List.mem_iff_getElem?.1 ha
  have:=(h.ses i _ hi).1.lt
  omega
theorem X3.ptrs (h:X3 w0 base w S L) {R:Nat→Prop} (hf:Fr R w w') (hR:∀ k,R k→base≤k∧w0.heap.size≤k∧∃ cs,Blk w k 42 cs):X3 w0 base w' S L where
 st:=h.st.keep hf (fun k hk hr=>by
    obtain ⟨hb,_,cs,hc⟩:=hR k hr
    exact h.st.not_foot hc hb (by decide) (by decide) (by decide) (by decide) (by decide) (by decide) hk) (fun v l ho b hb hr=>by
    obtain ⟨_,_,cs,hc⟩:=hR b hr
    obtain ⟨cs',hc'⟩:=ho.heap hb
    exact hc'.ne_ hc (by decide) rfl) fun k hr=>(hR k hr).2.1
 ses:=fun i x hx=>by
  obtain ⟨h1,h2⟩:=h.ses i x hx
  refine ⟨hf.blk h1 fun hr=>?_,h2⟩
  obtain ⟨_,_,cs,hc⟩:=hR x hr
  exact h1.ne_ hc (by decide) rfl
 nd:=h.nd
theorem X3.hs (h:X3 w0 base w S L) (h3:L.length=3):Hs w0 base w S Qs.none [] 1 0 1 0 3 (fun i=>L.getD i 0) (fun _=>none) (fun _=>false) where
 so:=fun i hi=>by
  have hx:L[i]? = some (L.getD i 0):=by rw [List.getD_eq_getElem?_getD,List.getElem?_eq_getElem (by omega)]; rfl
  obtain ⟨h1,h2⟩:=h.ses i _ hx
  exact { st:=h.st,ses:=h1,bx:=h2.1,lx:=h2.2,ib:=by omega,hi:=by simp [Qs.none] }
 ap:=fun i hi j hj hij k hk1 hk2=>by
  have e1:k=L.getD i 0:=hk1
  have e2:k=L.getD j 0:=hk2
  have hx:L[i]? = some (L.getD i 0):=by rw [List.getD_eq_getElem?_getD,List.getElem?_eq_getElem (by omega)]; rfl
  have hy:L[j]? = some (L.getD j 0):=by rw [List.getD_eq_getElem?_getD,List.getElem?_eq_getElem (by omega)]; rfl
  rw [← e1] at hx
  rw [← e2] at hy
  exact hij ((List.getElem?_inj (by omega) h.nd).1 (hx.trans hy.symm))
 qi:=by simp [Qs.none]
 ql:=fun j=>by simp [Qs.none]
end
structure PaL (w0:World) (base:Nat) (w:World) (ss:Nat) (k:Nat) (L:List Nat) (vA:Option Addr) (vC bp:Nat) (S:Sx) (Q:Qs) (M:List Msg) (n t:Int) (o:Nat→Vo) (d:Nat→Bool):Prop where
 hs:Hs w0 base w S Q M n t 1 (5000 * k) 3 (fun i=>L.getD i 0) o d
 n1:n≤k + 1
 s_:S.s=ss
 cap:S.cap=30
 xs:Own ptE 42 bp w (.slice vA 3 vC) L
 bp:base≤bp
theorem pairs_any (A:Option Addr) (cp:Nat) (l:List TOp) (w:World) (hv:Rd topE w (.slice A l.length cp) l) (hin:∀ y ∈ l,y.inn w) (hl:l.length * 120≤140737488351232) (hT:Tabs w) :
 Calls Tryz.prog 4 #[.slice A l.length cp] w fun e w'=>e=.returned (.bool true)∧New w w':=by
 obtain ⟨i0,hi,hz0,hz1,hz2⟩:=info_parts ps_info
 have HSH:=Lib.hid (short_any A cp l w hv hl)
 have HV:=Lib.hid (And.intro hv (And.intro hin hT))
 clear hv hin hT
 go_enter Tryz.func4,Tryz.ntmps4
 go_wp2_with fail
 refine HSH.out.mono ?_
 rintro e w1 ⟨q,rfl,hq,n1⟩
 have HQ:=Lib.hid hq
 clear hq HSH
 cases q
 · have HW:=Lib.hid (works_any w1 (HV.out.2.2.new n1))
   go_wp2_with fail
   refine HW.out.mono ?_
   rintro e w2 ⟨rfl,n2⟩
   go_wp2
   go_ret
   exact ⟨rfl,n1.trans n2⟩
 have hqq:l.length≤30∧∀ o ∈ l,Small o.c:=HQ.out (by first | rfl | trivial)
 have hl30:=hqq.1
 have HSM:=Lib.hid hqq.2
 clear hqq HQ hl
 have HSN:=Lib.hid (snew_any 3 (by omega) (by omega) 30 (by omega) (by omega) 1 (by omega) (by omega) w1)
 go_wp2_with fail
 refine HSN.out.mono ?_
 rintro e w2 ⟨S,base,rfl,hcap,_,hst⟩
 have HST:=Lib.hid (And.intro hcap hst)
 have N1:=Lib.hid n1
 have hbs:=hst.hb
 have hws:=hst.new.size
 clear hcap hst HSN n1
 go_wp2_with fail
 obtain ⟨bp,hbp⟩:∃ bp,w2.heap.size=bp:=⟨_,rfl⟩
 have H0:Hid (X3 w1 base w2 S []):=Lib.hid { st:=by have:=HST.out.2; simpa using this,ses:=fun i x hx=>by simp at hx,nd:=List.nodup_nil }
 go_loopw [4,18] (fun vx vi wr=>∃ (L:List Nat),L.length≤3∧vi=.int .i64 L.length∧Own ptE 42 w2.heap.size wr vx L∧Hid (X3 w1 base wr S L)∧w2.heap.size≤wr.heap.size) (fun _ vi _=>3 - (intOf vi).toNat)
 case atStart=>exact ⟨[],Nat.zero_le _,rfl,Own.nil _ _ _ _,H0,Nat.le_refl _⟩
 case round =>
  obtain ⟨L,hL3,rfl,ho,HX,hsz⟩:=hrel
  obtain ⟨vA,vC,rfl,hvc⟩:=ho.form
  by_cases hlt:L.length < 3
  · have hx5:Ses (wr.alloc (.cells #[.pointer (some ⟨S.s,0,none⟩),.int .i64 L.length,.pointer none,.bool false] 98)) wr.heap.size (.pointer (some ⟨S.s,0,none⟩)) (L.length:Int) none false:=Blk.new _ _ _
    have X5:=HX.out.push ((New.refl wr).alloc (.cells #[.pointer (some ⟨S.s,0,none⟩),.int .i64 L.length,.pointer none,.bool false] 98)) hx5 (Nat.le_refl _)
    have ho5:=ho.alloc (.cells #[.pointer (some ⟨S.s,0,none⟩),.int .i64 L.length,.pointer none,.bool false] 98)
    have hs5:(wr.alloc (.cells #[.pointer (some ⟨S.s,0,none⟩),.int .i64 L.length,.pointer none,.bool false] 98)).heap.size=wr.heap.size + 1:=World.size_alloc _ _
    have HX5:=Lib.hid X5
    clear X5 hx5 H0
    go_wp2_with (first
     | (go_at_call 16
        refine (xnew_any ⟨S.s,0,none⟩ L.length (by omega) wr).mono ?_
        rintro e w5 ⟨rfl,rfl⟩)
     | (at_builtin; refine wpList_push (E:=ptE) rfl _ _ _ rfl Tryz.underlying41 hi hz0 hz1 hz2 rfl (ho5.alloc _) rfl wr.heap.size (wr.heap.size + 1) (by rw [← hs5]; exact Blk.new _ _ _) 1 rfl (by unfold maxLen; omega) (by omega) (by simp; omega) ?_; intro v2 w6 hv2 hf2 hl2)
     | fail)
    have hs6:=hf2.size
    rw [World.size_alloc,hs5] at hs6
    go_roundw
    case rel =>
     refine ⟨L ++ [wr.heap.size],by rw [List.length_append]; simp; omega,by simp,hv2,Lib.hid ((HX5.out.ptrs (R:=fun _=>False) ((New.refl _).alloc _) fun _ h=>h.elim).ptrs hf2 fun k hk=>?_),by omega⟩
     obtain ⟨cs,hc⟩:=(ho5.alloc _).heap hk
     have hb:=(ho5.block hk).1
     exact ⟨by omega,by omega,cs,hc⟩
    case measure=>simp [intOf]; omega
  · obtain ⟨a0,a1,a2,rfl⟩:∃ a0 a1 a2,L=[a0,a1,a2]:=by
     match L,hL3,hlt with
     | [a0,a1,a2],_,_=>exact ⟨a0,a1,a2,rfl⟩
     | [],_,h=>simp at h
     | [_],_,h=>simp at h
     | [_,_],_,h=>simp at h
     | _ :: _ :: _ :: _ :: _,h,_=>simp at h
    clear H0 hL3 hlt
    have ho3:Own ptE 42 w2.heap.size wr (.slice vA 3 vC) [a0,a1,a2]:=ho
    obtain ⟨g,rfl⟩:=ho3.some_ (by decide)
    have hcell:∀ j,j < 3→wr.cell? ⟨g,j,none⟩=some (.pointer (some ⟨[a0,a1,a2].getD j 0,0,none⟩)):=fun j hj=>by
     have hx:[a0,a1,a2][j]? = some ([a0,a1,a2].getD j 0):=by rw [List.getD_eq_getElem?_getD,List.getElem?_eq_getElem (by simpa using hj)]; rfl
     have:=ho3.cell_at hx (j:=0) (u:=.pointer (some ⟨[a0,a1,a2].getD j 0,0,none⟩)) rfl
     simpa [ptE,Elem.one1] using this
    have e0:wr.cell? ⟨g,0,none⟩=some (.pointer (some ⟨a0,0,none⟩)):=hcell 0 (by omega)
    have e1:wr.cell? ⟨g,1,none⟩=some (.pointer (some ⟨a1,0,none⟩)):=hcell 1 (by omega)
    have e2:wr.cell? ⟨g,2,none⟩=some (.pointer (some ⟨a2,0,none⟩)):=hcell 2 (by omega)
    have HP0:Hid (PaL w1 base wr S.s 0 [a0,a1,a2] (some ⟨g,0,none⟩) vC w2.heap.size S Qs.none [] 1 0 (fun _=>none) (fun _=>false)):=Lib.hid
     { hs:=HX.out.hs rfl,n1:=by omega,s_:=rfl,cap:=HST.out.1,xs:=ho3,bp:=hbs }
    clear hcell ho ho3 HX hvc
    go_wp2_with fail
    clear e0 e1 e2
    go_loopw [50] (fun vi wr=>∃ (k:Nat) (S':Sx) (Q:Qs) (M:List Msg) (n t:Int) (o:Nat→Vo) (d:Nat→Bool),vi=.int .i64 k∧k≤l.length∧Hid (PaL w1 base wr S.s k [a0,a1,a2] (some ⟨g,0,none⟩) vC w2.heap.size S' Q M n t o d)) (fun vi _=>l.length - (intOf vi).toNat)
    case atStart=>exact ⟨0,_,_,_,_,_,_,_,rfl,Nat.zero_le _,HP0⟩
    case round =>
     clear HP0
     obtain ⟨k,S',Q,M,n,t,o,d,rfl,hk,HP⟩:=hrel
     have hst0:=(HP.out.hs.so 0 (by omega)).st
     have hnw:New w wr:=N1.out.trans hst0.new
     by_cases hkl:k < l.length
     · obtain ⟨x,hx⟩:∃ x,l[k]? = some x:=⟨_,List.getElem?_eq_getElem hkl⟩
       obtain ⟨hwho,hci⟩:=HV.out.2.1 x (List.mem_of_getElem? hx)
       have hsm:=HSM.out x (List.mem_of_getElem? hx)
       obtain ⟨_,_,hqe,_,hcells⟩:=HV.out.1
       cases hqe
       obtain ⟨b,off,rfl,hcell⟩:=hcells (by rintro rfl; simp at hkl)
       obtain ⟨who,c,s,lb⟩:=x
       obtain ⟨wN,rfl⟩:∃ wN:Nat,who=wN:=⟨who.toNat,by dsimp only at hwho; omega⟩
       dsimp only at hwho hci hsm
       have c0:wr.cell? ⟨b,off + k * 10,none⟩=some (.int .u8 (wN:Int)):=Fr.cell hnw (hcell k _ hx 0 _ rfl) id
       have c1:wr.cell? ⟨b,off + k * 10 + 1,none⟩=some (.string c.t):=Fr.cell hnw (hcell k _ hx 1 _ rfl) id
       have c2:wr.cell? ⟨b,off + k * 10 + 2,none⟩=some (.int .i64 c.k):=Fr.cell hnw (hcell k _ hx 2 _ rfl) id
       have c3:wr.cell? ⟨b,off + k * 10 + 3,none⟩=some (.string c.m):=Fr.cell hnw (hcell k _ hx 3 _ rfl) id
       have c4:wr.cell? ⟨b,off + k * 10 + 4,none⟩=some (.slice c.sA c.sn c.sc):=Fr.cell hnw (hcell k _ hx 4 _ rfl) id
       have c5:wr.cell? ⟨b,off + k * 10 + 5,none⟩=some (.int .i64 c.it):=Fr.cell hnw (hcell k _ hx 5 _ rfl) id
       have c6:wr.cell? ⟨b,off + k * 10 + 6,none⟩=some (.int .i64 c.mo):=Fr.cell hnw (hcell k _ hx 6 _ rfl) id
       have c7:wr.cell? ⟨b,off + k * 10 + 7,none⟩=some (.bool c.si):=Fr.cell hnw (hcell k _ hx 7 _ rfl) id
       have c8:wr.cell? ⟨b,off + k * 10 + 8,none⟩=some (.int .u8 c.fl):=Fr.cell hnw (hcell k _ hx 8 _ rfl) id
       have c9:wr.cell? ⟨b,off + k * 10 + 9,none⟩=some (.slice c.dA c.dn c.dc):=Fr.cell hnw (hcell k _ hx 9 _ rfl) id
       obtain ⟨j,hj,hjm⟩:∃ j:Nat,j < 3∧j=wN % 3:=⟨wN % 3,Nat.mod_lt _ (by omega),rfl⟩
       obtain ⟨xj,hxj⟩:∃ xj,[a0,a1,a2].getD j 0=xj:=⟨_,rfl⟩
       have hxe:[a0,a1,a2][j]? = some xj:=by rw [← hxj,List.getD_eq_getElem?_getD,List.getElem?_eq_getElem (by simpa using hj)]; rfl
       have ejj:wr.cell? ⟨g,j,none⟩=some (.pointer (some ⟨xj,0,none⟩)):=by
        have:=HP.out.xs.cell_at hxe (j:=0) (u:=.pointer (some ⟨xj,0,none⟩)) rfl
        simpa [ptE,Elem.one1] using this
       obtain ⟨WD,hWD⟩:∃ WD,WD=wr.alloc (.cells #[.int .u8 (wN:Int),.string c.t,.int .i64 c.k,.string c.m,.slice c.sA c.sn c.sc,.int .i64 c.it,.int .i64 c.mo,.bool c.si,.int .u8 c.fl,.slice c.dA c.dn c.dc] 49):=⟨_,rfl⟩
       have nD:New wr WD:=hWD ▸ (New.refl wr).alloc _
       have ej:WD.cell? ⟨g,wN % 3,none⟩=some (.pointer (some ⟨xj,0,none⟩)):=by rw [← hjm]; exact Fr.cell nD ejj id
       have hsoj:SO w1 base WD S' Q M n t 1 (j:Int) xj (o j) (d j):=by rw [← hxj]; exact (HP.out.hs.so j hj).new nD
       have hn5:n≤5000:=by have:=HP.out.n1; omega
       have hsl:s.length≤100000:=by
        have h1:=hsm.2.2.1
        obtain ⟨_,_,e,_⟩:=hci.set
        injection e with _ e _
        omega
       have hct:c.t.size≤5000:=by have:=hsm.1; omega
       have hcm:c.m.size≤1000000:=by have:=hsm.2.1; omega
       have hco:CmdOk WD c s lb:=⟨hct,hcm,hci.fl,(hci.set.new hnw).new nD,hci.wf,hsl,(hci.dat.new hnw).new nD⟩
       have hfar:∀ b,Value.ownBlock (.slice c.dA c.dn c.dc)=some b→nums lb≠[]→¬ S'.foot Q b:=fun b hb hne=>hst0.not_lo (by
        have:=Rd.cell_lt hci.dat hb hne
        have:=N1.out.size
        omega)
       have HDO:=Lib.hid (xdo_all hsoj hn5 (fun q _=>by have:=HP.out.hs.ql q; omega) (by have:=HP.out.hs.ids (i:=0) (by omega); omega) (by have:=HP.out.cap; omega) (HV.out.2.2.new N1.out) (by omega) c s lb hco hfar)
       have HJ:=Lib.hid (And.intro hj (And.intro hjm (And.intro hxj (And.intro nD hn5))))
       clear hcell hcells hx hci hsm hco hfar hsoj hst0 ejj hxe hjm hj hxj hn5 nD hsl hct hcm
       subst hWD
       go_wp2_with fail
       refine HDO.out.mono ?_
       rintro e w4 ⟨v,lr,S4,Q4,M4,n4,t4,o4,d4,rfl,hown,hgood,hlr,hso4,hk4⟩
       obtain ⟨rA,rC,rfl,_⟩:=hown.form
       have hn4:n4≤5000:=by have:=hk4.nn; have:=HP.out.n1; omega
       have H4:=Lib.hid (And.intro hown (And.intro hgood (And.intro hso4 hk4)))
       clear hown hgood hso4 hk4 HDO
       go_wp2_with fail
       go_loopw [66] (fun vi wr=>∃ k2:Nat,k2≤lr.length∧vi=.int .i64 k2∧New w4 wr) (fun vi _=>lr.length - (intOf vi).toNat)
       case atStart=>exact ⟨0,Nat.zero_le _,rfl,New.refl _⟩
       case round =>
        obtain ⟨k2,hk2,rfl,hnew⟩:=hrel
        clear ej c0 c1 c2 c3 c4 c5 c6 c7 c8 c9
        by_cases hkr:k2 < lr.length
        · obtain ⟨r,hr⟩:∃ r,lr[k2]? = some r:=⟨_,List.getElem?_eq_getElem hkr⟩
          obtain ⟨hg,hro⟩:=H4.out.2.1 r (List.mem_of_getElem? hr)
          obtain ⟨_,_,hqe,_,hcells⟩:=H4.out.1.rd
          cases hqe
          obtain ⟨rb,roff,rfl,hcell⟩:=hcells (by rintro rfl; simp at hkr)
          obtain ⟨rk,rn,rt,rst,rx,rit,rfl_,ruid,rsz,rA',rbn,rbc⟩:=r
          have c0:wr.cell? ⟨rb,roff + k2 * 10,none⟩=some (.int .i64 rk):=Fr.cell hnew (hcell k2 _ hr 0 _ rfl) id
          have c1:wr.cell? ⟨rb,roff + k2 * 10 + 1,none⟩=some (.int .u32 rn):=Fr.cell hnew (hcell k2 _ hr 1 _ rfl) id
          have c2:wr.cell? ⟨rb,roff + k2 * 10 + 2,none⟩=some (.string rt):=Fr.cell hnew (hcell k2 _ hr 2 _ rfl) id
          have c3:wr.cell? ⟨rb,roff + k2 * 10 + 3,none⟩=some (.int .i64 rst):=Fr.cell hnew (hcell k2 _ hr 3 _ rfl) id
          have c4:wr.cell? ⟨rb,roff + k2 * 10 + 4,none⟩=some (.string rx):=Fr.cell hnew (hcell k2 _ hr 4 _ rfl) id
          have c5:wr.cell? ⟨rb,roff + k2 * 10 + 5,none⟩=some (.int .i64 rit):=Fr.cell hnew (hcell k2 _ hr 5 _ rfl) id
          have c6:wr.cell? ⟨rb,roff + k2 * 10 + 6,none⟩=some (.int .u8 rfl_):=Fr.cell hnew (hcell k2 _ hr 6 _ rfl) id
          have c7:wr.cell? ⟨rb,roff + k2 * 10 + 7,none⟩=some (.int .u32 ruid):=Fr.cell hnew (hcell k2 _ hr 7 _ rfl) id
          have c8:wr.cell? ⟨rb,roff + k2 * 10 + 8,none⟩=some (.int .u32 rsz):=Fr.cell hnew (hcell k2 _ hr 8 _ rfl) id
          have c9:wr.cell? ⟨rb,roff + k2 * 10 + 9,none⟩=some (.slice rA' rbn rbc):=Fr.cell hnew (hcell k2 _ hr 9 _ rfl) id
          have hrn:=hro.n0
          dsimp only at hrn
          have hwr:IntKind.i64.wrap rn=rn:=IntWalk.i64_in _ (by omega)
          obtain ⟨u3,ok3,hat⟩:∃ u3 ok3,atO o4 rn=(u3,ok3):=⟨_,_,rfl⟩
          have hgat:=fun h=>hg.at_ (r:=⟨rk,rn,rt,rst,rx,rit,rfl_,ruid,rsz,rA',rbn,rbc⟩) h
          dsimp only at hgat
          have nB:New wr (wr.alloc (.cells #[.int .i64 rk,.int .u32 rn,.string rt,.int .i64 rst,.string rx,.int .i64 rit,.int .u8 rfl_,.int .u32 ruid,.int .u32 rsz,.slice rA' rbn rbc] 53)):=(New.refl wr).alloc _
          have HVW:=Lib.hid (fun q=>view_any xj _ _ _ _ ((wr.alloc (.cells #[.int .i64 rk,.int .u32 rn,.string rt,.int .i64 rst,.string rx,.int .i64 rit,.int .u8 rfl_,.int .u32 ruid,.int .u32 rsz,.slice rA' rbn rbc] 53)).drewN q) (H4.out.2.2.1.new ((hnew.trans nB).drewN q)).ses)
          have HAT:=Lib.hid (fun q=>at_so (H4.out.2.2.1.new ((hnew.trans nB).drewN q)) hn4 rn)
          rw [hat] at HAT
          have b10:Blk (wr.alloc (.cells #[.int .i64 rk,.int .u32 rn,.string rt,.int .i64 rst,.string rx,.int .i64 rit,.int .u8 rfl_,.int .u32 ruid,.int .u32 rsz,.slice rA' rbn rbc] 53)) wr.heap.size 53 #[.int .i64 rk,.int .u32 rn,.string rt,.int .i64 rst,.string rx,.int .i64 rit,.int .u8 rfl_,.int .u32 ruid,.int .u32 rsz,.slice rA' rbn rbc]:=Blk.new _ _ _
          have hB:=Lib.hid (hnew.trans nB)
          clear hcell hcells hr hg hro nB hrn
          rcases h4:(rk == 4) with _ | _
          · clear hgat hat
            go_upto_region 19 with fail
            generalize (wr.alloc (.cells #[.int .i64 rk,.int .u32 rn,.string rt,.int .i64 rst,.string rx,.int .i64 rit,.int .u8 rfl_,.int .u32 ruid,.int .u32 rsz,.slice rA' rbn rbc] 53))=wB at *
            generalize wr.heap.size=rB at *
            obtain ⟨⟨x0,y0⟩,⟨x1,y1⟩,⟨x2,y2⟩,⟨x3,y3⟩,⟨x4,y4⟩,⟨x5,y5⟩,⟨x6,y6⟩,⟨x7,y7⟩,⟨x8,y8⟩,⟨x9,y9⟩⟩:=cells10 b10
            go_quiet ((first | (go_at_call 18; exact Calls.quiet_of_same (HVW.out _)) | (go_at_call 19; exact Calls.quiet_of_same (HAT.out _))))
            obtain ⟨z0,z5,z7⟩:(wB.drewN nq).cell? ⟨rB,0,none⟩=some (.int .i64 rk)∧(wB.drewN nq).cell? ⟨rB,5,none⟩=some (.int .i64 rit)∧(wB.drewN nq).cell? ⟨rB,7,none⟩=some (.int .u32 ruid):=⟨x0,x5,x7⟩
            go_wp2
            go_roundw
            case rel=>exact ⟨k2 + 1,by omega,by go_num,hB.out.drewN _⟩
            case measure=>simp [intOf]; omega
          · rcases h5:(bits .and .i64 rit 2 != 0) with _ | _
            · clear hgat hat
              go_upto_region 19 with fail
              generalize (wr.alloc (.cells #[.int .i64 rk,.int .u32 rn,.string rt,.int .i64 rst,.string rx,.int .i64 rit,.int .u8 rfl_,.int .u32 ruid,.int .u32 rsz,.slice rA' rbn rbc] 53))=wB at *
              generalize wr.heap.size=rB at *
              obtain ⟨⟨x0,y0⟩,⟨x1,y1⟩,⟨x2,y2⟩,⟨x3,y3⟩,⟨x4,y4⟩,⟨x5,y5⟩,⟨x6,y6⟩,⟨x7,y7⟩,⟨x8,y8⟩,⟨x9,y9⟩⟩:=cells10 b10
              go_quiet ((first | (go_at_call 18; exact Calls.quiet_of_same (HVW.out _)) | (go_at_call 19; exact Calls.quiet_of_same (HAT.out _))))
              obtain ⟨z0,z5,z7⟩:(wB.drewN nq).cell? ⟨rB,0,none⟩=some (.int .i64 rk)∧(wB.drewN nq).cell? ⟨rB,5,none⟩=some (.int .i64 rit)∧(wB.drewN nq).cell? ⟨rB,7,none⟩=some (.int .u32 ruid):=⟨x0,x5,x7⟩
              go_wp2
              go_roundw
              case rel=>exact ⟨k2 + 1,by omega,by go_num,hB.out.drewN _⟩
              case measure=>simp [intOf]; omega
            · obtain ⟨rfl,rfl⟩:u3=ruid∧ok3=true:=by
               have h6:bits .and .i64 rit 2≠0:=by
                intro h7
                rw [h7] at h5
                cases h5
               have h7:=hgat h6
               rw [hat] at h7
               injection h7 with h8 h9
               exact ⟨h8,h9⟩
              clear hgat hat
              go_upto_region 19 with fail
              generalize (wr.alloc (.cells #[.int .i64 rk,.int .u32 rn,.string rt,.int .i64 rst,.string rx,.int .i64 rit,.int .u8 rfl_,.int .u32 u3,.int .u32 rsz,.slice rA' rbn rbc] 53))=wB at *
              generalize wr.heap.size=rB at *
              obtain ⟨⟨x0,y0⟩,⟨x1,y1⟩,⟨x2,y2⟩,⟨x3,y3⟩,⟨x4,y4⟩,⟨x5,y5⟩,⟨x6,y6⟩,⟨x7,y7⟩,⟨x8,y8⟩,⟨x9,y9⟩⟩:=cells10 b10
              go_quiet ((first | (go_at_call 18; exact Calls.quiet_of_same (HVW.out _)) | (go_at_call 19; exact Calls.quiet_of_same (HAT.out _))))
              obtain ⟨z0,z5,z7⟩:(wB.drewN nq).cell? ⟨rB,0,none⟩=some (.int .i64 rk)∧(wB.drewN nq).cell? ⟨rB,5,none⟩=some (.int .i64 rit)∧(wB.drewN nq).cell? ⟨rB,7,none⟩=some (.int .u32 u3):=⟨x0,x5,x7⟩
              go_wp2
              go_roundw
              case rel=>exact ⟨k2 + 1,by omega,by go_num,hB.out.drewN _⟩
              case measure=>simp [intOf]; omega
        · obtain rfl:k2=lr.length:=by omega
          go_wp2
          go_roundw
          case rel =>
           (repeat apply Exists.intro)
           refine And.intro ?_ rfl
           obtain ⟨hj,hjm,hxj,nD,hn5⟩:=HJ.out
           obtain ⟨hown,hgood,hso4,hk4⟩:=H4.out
           have hsoj:=(HP.out.hs.new nD).so j hj
           have hst:=(HP.out.hs.new nD).so 0 (by omega)
           have e5:5000 * (k + 1)=5000 * k + 5000:=by omega
           refine ⟨k + 1,S4,Q4,M4,n4,t4,(fun q=>if q=j then o4 else o q),(fun q=>if q=j then d4 else d q),by go_num,by omega,Lib.hid { hs:=?_,n1:=?_,s_:=hk4.s.trans HP.out.s_,cap:=hk4.cap.trans HP.out.cap,xs:=?_,bp:=HP.out.bp }⟩
           · rw [e5]
             refine ((HP.out.hs.new nD).step hj (o':=o4) (d':=d4) ?_ (m:=5000) (dd:=1) ?_).new hnew
             · show SO _ _ _ _ _ _ _ _ _ _ ([a0,a1,a2].getD j 0) _ _
               rw [hxj]
               exact hso4
             · show OpS _ _ _ _ _ _ ([a0,a1,a2].getD j 0) _ _ _ _ _ _ _ _
               rw [hxj]
               exact hk4
           · have:=hk4.nn
             have:=HP.out.n1
             omega
           · refine ((HP.out.xs.new nD).fr hk4.fr fun gb hgb hk5=>?_).new hnew
             obtain ⟨cs,hc⟩:=(HP.out.xs.new nD).heap hgb
             have hb:=((HP.out.xs.new nD).block hgb).1
             have hbp':=HP.out.bp
             rcases hk5 with h6 | h6 | h6
             · exact hst.st.not_foot hc (by omega) (by decide) (by decide) (by decide) (by decide) (by decide) (by decide) h6
             · have h7:mineO ([a0,a1,a2].getD j 0) (o j) gb:=by rw [hxj]; exact h6
               exact hsoj.not_mine hc (by decide) (by decide) (by decide) (by decide) h7
             · exact h6
          case measure=>simp [intOf]; omega
     · obtain rfl:k=l.length:=by omega
       have HW:=Lib.hid (works_any wr (HV.out.2.2.new hnw))
       have HN:=Lib.hid hnw
       go_wp2_with fail
       refine HW.out.mono ?_
       rintro e w9 ⟨rfl,n9⟩
       go_wp2
       go_ret
       exact ⟨rfl,HN.out.trans n9⟩
end Go.Proofs.YtliimglbbiebiaaGreatDoor
end

section
namespace Go.Proofs.YtliimglbbiebiaaGreatDoor
open Go.ChangeShapes Go.WideShapes Go.ChangeAt Go.RowKit Go.Deep
end Go.Proofs.YtliimglbbiebiaaGreatDoor
end

