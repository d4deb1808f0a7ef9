/- A part of the proof: Op4, Tok1. -/
import Derived.Test.YtliimglbbiebiaaGreatDoorGTopPairsAU
import Derived.Test.YtliimglbbiebiaaGreatDoorGTopPairsAV
import Derived.Laws.IdiomStrings
set_option maxRecDepth 100000
set_option maxHeartbeats 6400000
section
namespace Go.Proofs.YtliimglbbiebiaaGreatDoor
open Go.RowKit Go.Maps
section
variable {w0 W w w' w'':World} {base:Nat} {S S':Sx} {Q Q':Qs} {M M':List Msg} {n t f n' t' f':Int} {i:Int} {xs:Nat} {o o':Vo} {b b':Bool} {bs OB:Nat} {vo vo':Value} {lo lo':List Rsp}
def noneS:ByteArray:=⟨#[110,111,32,115,117,99,104,32,109,97,105,108,98,111,120]⟩
def selS:ByteArray:=⟨#[91,82,69,65,68,45,87,82,73,84,69,93,32,83,69,76,69,67,84,32,99,111,109,112,108,101,116,101,100]⟩
theorem infoS_size (a:ByteArray) (n:Nat) (b:ByteArray) (hn:n < 4294967296) (ha:a.size≤20) (hb:b.size≤20):(infoS a n b).size≤100:=by
 have:=decS_size n hn
 unfold infoS
 simp only [ByteArray.size_append]
 have z1:ByteArray.size ⟨#[91]⟩=1:=rfl
 have z2:ByteArray.size ⟨#[32]⟩=1:=rfl
 have z3:ByteArray.size ⟨#[93,32]⟩=2:=rfl
 omega
theorem info_sm (a b:ByteArray) (ha:a.size≤20) (hb:b.size≤20) (n:Nat) (hn:n < 4294967296) (w:World) (hT:Tabs w):Calls Tryz.prog 93 #[.string a,.int .u32 n,.string b] w fun e w'=>∃ s,e=.returned (.agg #[.int .i64 6,.int .u32 0,.string ⟨#[]⟩,.int .i64 0,.string s,.int .i64 0,.int .u8 0,.int .u32 0,.int .u32 0,.slice none 0 0])∧s.size≤100∧New w w' :=
 (info_any a b (by omega) (by omega) n hn w hT).mono fun _ _ ⟨h1,h2⟩=>⟨infoS a n b,h1,infoS_size a n b hn ha hb,h2⟩
theorem count_one (k:Int) (n:Nat) (hn:n < 4294967296) (w:World):Calls Tryz.prog 95 #[.int .i64 k,.int .i64 n] w fun e w'=>e=.returned (.agg #[.int .i64 k,.int .u32 n,.string ⟨#[]⟩,.int .i64 0,.string ⟨#[]⟩,.int .i64 0,.int .u8 0,.int .u32 0,.int .u32 0,.slice none 0 0])∧New w w':=count_rsp k n hn w
abbrev selR (n:Nat) (s1 s2:ByteArray):List Rsp:=[⟨5,0,⟨#[]⟩,0,⟨#[]⟩,0,0,0,0,none,0,0⟩,⟨1,n,⟨#[]⟩,0,⟨#[]⟩,0,0,0,0,none,0,0⟩,⟨2,0,⟨#[]⟩,0,⟨#[]⟩,0,0,0,0,none,0,0⟩,infR s1,infR s2]
abbrev selC (n:Nat) (s1 s2:ByteArray):Array Value:=#[.int .i64 5,.int .u32 0,.string ⟨#[]⟩,.int .i64 0,.string ⟨#[]⟩,.int .i64 0,.int .u8 0,.int .u32 0,.int .u32 0,.slice none 0 0,.int .i64 1,.int .u32 n,.string ⟨#[]⟩,.int .i64 0,.string ⟨#[]⟩,.int .i64 0,.int .u8 0,.int .u32 0,.int .u32 0,.slice none 0 0,.int .i64 2,.int .u32 0,.string ⟨#[]⟩,.int .i64 0,.string ⟨#[]⟩,.int .i64 0,.int .u8 0,.int .u32 0,.int .u32 0,.slice none 0 0,.int .i64 6,.int .u32 0,.string ⟨#[]⟩,.int .i64 0,.string s1,.int .i64 0,.int .u8 0,.int .u32 0,.int .u32 0,.slice none 0 0,.int .i64 6,.int .u32 0,.string ⟨#[]⟩,.int .i64 0,.string s2,.int .i64 0,.int .u8 0,.int .u32 0,.int .u32 0,.slice none 0 0]
theorem sel_row (n:Nat) (s1 s2:ByteArray) (w:World):Rd rspE (w.alloc (.cells (selC n s1 s2) 53)) (.slice (some ⟨w.heap.size,0,none⟩) 5 5) (selR n s1 s2) :=
 rd_row (l:=selR n s1 s2) (t:=53) (show Blk _ _ _ (rspE.cells (selR n s1 s2)).toArray from Blk.new w 53 (selC n s1 s2))
theorem sel_ok (B:Nat) (W:World) (n:Nat) (hn:n≤1000) (s1 s2:ByteArray) (h1:s1.size≤100) (h2:s2.size≤100):∀ r ∈ selR n s1 s2,RspOk B W r∧EvR r:=fun r hr=>by
 simp only [List.mem_cons,List.not_mem_nil,or_false] at hr
 rcases hr with rfl | rfl | rfl | rfl | rfl
 · exact ⟨RspOk.bare _ _ 5 0 (by decide) (by decide),(by decide:bits .and .i64 0 2=0)⟩
 · exact ⟨RspOk.bare _ _ 1 n (by decide) ⟨by omega,by omega⟩,(by decide:bits .and .i64 0 2=0)⟩
 · exact ⟨RspOk.bare _ _ 2 0 (by decide) (by decide),(by decide:bits .and .i64 0 2=0)⟩
 · exact ⟨RspOk.said _ _ 6 s1 (by decide) (by omega),(by decide:bits .and .i64 0 2=0)⟩
 · exact ⟨RspOk.said _ _ 6 s2 (by decide) (by omega),(by decide:bits .and .i64 0 2=0)⟩
theorem xchoose_any (nN fN:Nat) (hfN:fN < 4294967296) (hT:Tabs w0) (H0:SO w0 base W S Q M (nN:Int) t (fN:Int) i xs o false) (hn:(nN:Int)≤5000) (hq:Q.ids.length≤1000) (hcap:S.cap≤1000) (c:Cmd) (hm:c.m.size≤1000000) (ho:OutI bs OB vo lo W) (hlo:lo.length≤1000) (hbb:base≤bs) (hbw:w0.heap.size≤bs) (hbs:bs≤W.heap.size) (hOB:base≤OB) (hOw:w0.heap.size≤OB) :
 Calls Tryz.prog 67 #[.pointer (some ⟨xs,0,none⟩),c.val,addV OB] W fun e W'=>OpR w0 base W W' S Q (nN:Int) (fN:Int) i xs o bs OB vo lo e:=by
 obtain ⟨WA,hWA,nA,cA,rA⟩:=boxes W c
 have HA:=H0.new nA
 have hWb:=H0.st.hb
 have hW0:=H0.st.new.size
 have hoA:=ho.new nA
 have HL:=Lib.hid (leave_any HA)
 have H:=Lib.hid (And.intro HA (And.intro hoA (And.intro rA (And.intro nA cA))))
 clear H0 HA ho hoA rA cA nA
 go_enter Tryz.func67,Tryz.ntmps67
 go_wp2_with fail
 rw [← hWA]
 clear hWA
 refine HL.out.mono ?_
 rintro e w1 ⟨rfl,Q1,H1,k1,hq1⟩
 have ho1:=H.out.2.1.ops k1 H.out.1 hbb hOB
 have R1:=k1.blk H.out.1 H.out.2.2.1 (by omega) id (by decide)
 have C1:=k1.blk H.out.1 H.out.2.2.2.2 hWb id (by decide)
 have hsA:=H.out.2.2.2.1.size
 have hs1:=k1.fr.size
 have k2:w1.cell? ⟨W.heap.size,2,none⟩=some (.string c.m):=C1.cell 2
 have HSM:=Lib.hid (same_any c.m inboxS hm (by decide) w1)
 have HH1:=Lib.hid (And.intro H1 (And.intro ho1 (And.intro R1 k1)))
 clear H1 ho1 R1 C1 k1 HL
 cases hs:sameB c.m inboxS
 · rw [hs] at HSM
   clear hs
   go_wp2_with fail
   refine HSM.out.mono ?_
   rintro e w2 ⟨rfl,n2⟩
   have R2:=n2.blk HH1.out.2.2.1
   have c0:w2.cell? ⟨W.heap.size + 1,0,none⟩=some (.int .i64 0):=R2.cell 0
   have c1:w2.cell? ⟨W.heap.size + 1,1,none⟩=some (.string ⟨#[]⟩):=R2.cell 1
   have ff:=R2.froz
   have N2:=Lib.hid n2
   clear n2
   go_wp2
   refine bodyPost_ret (results_cell1 rfl _ _ rfl (loadOut (R2.over2 (.int .i64 1) (.string noneS)))) rfl ?_
   have one:=One.over2 w2 (W.heap.size + 1) (.int .i64 1) (.string noneS)
   have g1:OpS W w2 S Q (nN:Int) i xs o (0 + 0 + 0) (0 + 0 + 0) (fun k=>k=OB∨vo.ownBlock=some k) S Q1 (nN:Int) none:=((OpS.refl H.out.2.2.2.1).trans HH1.out.2.2.2 fun _ h=>h.elim).trans (OpS.refl (R:=fun _=>False) N2.out) fun _ h=>h.elim
   exact opr_fin (o':=none) (SO.new (o:=none) HH1.out.1 N2.out) g1 (by omega) (by omega) (HH1.out.2.1.new N2.out) R2 (by omega) hWb hW0 one 1 noneS ⟨by omega,by decide⟩ (fun r hr=>.inl hr) (by omega)
 · rw [hs] at HSM
   clear hs
   go_wp2_with fail
   refine HSM.out.mono ?_
   rintro e w2 ⟨rfl,n2⟩
   have hs2:=n2.size
   have H2:SN w0 base w2 S Q1 M (nN:Int) t (fN:Int) i xs false:=SO.new (o:=none) HH1.out.1 n2
   have ho2:=HH1.out.2.1.new n2
   have R2:=n2.blk HH1.out.2.2.1
   have HEN:=Lib.hid (enter_so H2 (by omega) hcap)
   have HH2:=Lib.hid (And.intro H2 (And.intro ho2 (And.intro R2 n2)))
   clear H2 ho2 R2 n2 HSM
   go_wp2_with fail
   refine HEN.out.mono ?_
   rintro e w3 ⟨rfl,Q3,v,x,u,l,V3,hl3,k3⟩
   have H2':SO w0 base w2 S Q1 M (nN:Int) t (fN:Int) i xs none false:=HH2.out.1
   have ho3:=HH2.out.2.1.ops k3 H2' hbb hOB
   have R3:=k3.blk H2' HH2.out.2.2.1 (by omega) id (by decide)
   have hs3:=k3.fr.size
   have k0:w3.cell? ⟨xs,0,none⟩=some (.pointer (some ⟨S.s,0,none⟩)):=V3.ses.cell 0
   have k2':w3.cell? ⟨xs,2,none⟩=some (.pointer (some ⟨v,0,none⟩)):=V3.ses.cell 2
   have HV3:Hid (SO w0 base w3 S Q3 M (nN:Int) t (fN:Int) i xs (some (v,x,u,l)) false):=Lib.hid ⟨rfl,V3⟩
   have HH3:=Lib.hid (And.intro ho3 (And.intro R3 k3))
   clear V3 ho3 R3 k3 H2' HEN k2
   go_wp2_with fail
   go_region_held3 (fun W=>W.cell? ⟨xs,0,none⟩=some (.pointer (some ⟨S.s,0,none⟩))∧W.cell? ⟨xs,2,none⟩=some (.pointer (some ⟨v,0,none⟩))) (first | go_keep | (refine ⟨?_,?_⟩ <;> assumption)) ((first
    | (go_at_call 96
       refine (vlen_any (HV3.out.new (by repeat' first | exact New.refl _ | assumption | apply Fr.alloc | apply Fr.drewN | apply Fr.drew)).2.vw (HV3.out.new (by repeat' first | exact New.refl _ | assumption | apply Fr.alloc | apply Fr.drewN | apply Fr.drew)).2.ix).mono ?_
       rintro e w4 ⟨rfl,rfl⟩)
    | (go_at_call 95
       have hC:=count_one 1 l.length (by omega) w3.drew
       with_reducible refine hC.mono ?_
       rintro e w4 ⟨rfl,m4⟩
       have n4:New w3 w4:=Fr.trans (by repeat' first | exact New.refl _ | assumption | apply Fr.alloc | apply Fr.drewN | apply Fr.drew) m4
       have V4:=HV3.out.new n4
       have p0:w4.cell? ⟨xs,0,none⟩=some (.pointer (some ⟨S.s,0,none⟩)):=V4.ses.cell 0
       have p2:w4.cell? ⟨xs,2,none⟩=some (.pointer (some ⟨v,0,none⟩)):=V4.ses.cell 2
       clear V4 m4 hC)
    | (go_at_call 95
       have hC:=count_zero 2 w4
       with_reducible refine hC.mono ?_
       rintro e w5 ⟨rfl,m5⟩
       have n5:New w3 w5:=n4.trans m5
       have V5:=HV3.out.new n5
       have p0:w5.cell? ⟨xs,0,none⟩=some (.pointer (some ⟨S.s,0,none⟩)):=V5.ses.cell 0
       have p2:w5.cell? ⟨xs,2,none⟩=some (.pointer (some ⟨v,0,none⟩)):=V5.ses.cell 2
       clear V5 m5 hC)
    | (go_at_call 97
       have hN:=svalid_any (HV3.out.new n5).st
       with_reducible refine hN.mono ?_
       rintro e w7 ⟨rfl,st7,o7⟩
       have V7:=(HV3.out.new n5).valid st7 o7
       have HV7:=Lib.hid V7
       have r0:w7.cell? ⟨xs,0,none⟩=some (.pointer (some ⟨S.s,0,none⟩)):=V7.ses.cell 0
       have r2:w7.cell? ⟨xs,2,none⟩=some (.pointer (some ⟨v,0,none⟩)):=V7.ses.cell 2
       have HO7:=Lib.hid o7
       clear V7 st7 o7 hN)
    | (go_at_call 93
       have hI:=info_sm ⟨#[85,73,68,86,65,76,73,68,73,84,89]⟩ ⟨#[118,97,108,105,100]⟩ (by decide) (by decide) fN hfN w7 (hT.new HV7.out.st.new)
       with_reducible refine hI.mono ?_
       rintro e w8 ⟨sw8,rfl,zw8,mw8⟩
       have HV8':=HV7.out.new mw8
       have HV8:=Lib.hid HV8'
       have Mw8:=Lib.hid mw8
       have s0w8:w8.cell? ⟨xs,0,none⟩=some (.pointer (some ⟨S.s,0,none⟩)):=HV8'.ses.cell 0
       have s2w8:w8.cell? ⟨xs,2,none⟩=some (.pointer (some ⟨v,0,none⟩)):=HV8'.ses.cell 2
       clear HV8' mw8 hI)
    | (go_at_call 21
       have hN:=snext_any HV8.out.st
       with_reducible refine hN.mono ?_
       rintro e w9 ⟨rfl,rfl⟩)
    | (go_at_call 93
       have hI:=info_sm ⟨#[85,73,68,78,69,88,84]⟩ ⟨#[110,101,120,116]⟩ (by decide) (by decide) nN (by omega) w8 (hT.new HV8.out.st.new)
       with_reducible refine hI.mono ?_
       rintro e w10 ⟨sw10,rfl,zw10,mw10⟩
       have HV10':=HV8.out.new mw10
       have HV10:=Lib.hid HV10'
       have Mw10:=Lib.hid mw10
       have s0w10:w10.cell? ⟨xs,0,none⟩=some (.pointer (some ⟨S.s,0,none⟩)):=HV10'.ses.cell 0
       have s2w10:w10.cell? ⟨xs,2,none⟩=some (.pointer (some ⟨v,0,none⟩)):=HV10'.ses.cell 2
       clear HV10' mw10 hI)
    | (go_at_call 39
       have hrd:=sel_row l.length sw8 sw10 w10
       have N10:New w7 (w10.alloc (.cells (selC l.length sw8 sw10) 53)):=(Mw8.out.trans Mw10.out).alloc _
       have hnc:∀ k ty cs,Blk w5 k ty cs→ty≠155→¬ k=S.c:=fun k ty cs hb ht e=>hb.ne_ (HV3.out.new n5).st.ctr ht e
       have ho7:=((HH3.out.1.new n5).fr HO7.out fun k ty cs hb _ ht=>hnc k ty cs hb (by rcases ht with rfl | rfl | rfl <;> decide)).new N10
       have R7:=N10.blk (HO7.out.blk (n5.blk HH3.out.2.1) (hnc _ _ _ (n5.blk HH3.out.2.1) (by decide)))
       have VX:=HV10.out.new ((New.refl w10).alloc (.cells (selC l.length sw8 sw10) 53))
       have hsX:bs≤(w10.alloc (.cells (selC l.length sw8 sw10) 53)).heap.size:=by
        have:=n5.size; have:=HO7.out.size; have:=N10.size; omega
       have hadd:=add_so VX ho7 hrd (fun r hr=>(sel_ok bs (w10.alloc (.cells (selC l.length sw8 sw10) 53)) l.length hl3 sw8 sw10 zw8 zw10 r hr).1) (by simp; omega) hsX hbb hbw hOB hOw
       refine hadd.mono ?_
       rintro e w11 ⟨rfl,vo11,ho11,V11,f11,_⟩
       have u0:w11.cell? ⟨xs,0,none⟩=some (.pointer (some ⟨S.s,0,none⟩)):=V11.ses.cell 0
       have u2:w11.cell? ⟨xs,2,none⟩=some (.pointer (some ⟨v,0,none⟩)):=V11.ses.cell 2
       have R11:=f11.blk R7 (by
        rintro (e | e)
        · exact R7.ne_ ho7.b (by decide) e
        · exact ho7.r.ne_blk R7 (by decide) e)
       have HV11:=Lib.hid (And.intro V11 (And.intro ho11 (And.intro R11 (And.intro f11 N10))))
       clear hrd VX V11 ho11 f11 R11 N10 ho7 R7 hadd hnc)
    | fail))
   have t0:w11.cell? ⟨W.heap.size + 1,0,none⟩=some (.int .i64 0):=HV11.out.2.2.1.cell 0
   have t1:w11.cell? ⟨W.heap.size + 1,1,none⟩=some (.string ⟨#[]⟩):=HV11.out.2.2.1.cell 1
   have tf:=HV11.out.2.2.1.froz
   go_wp2
   refine bodyPost_ret (results_cell1 rfl _ _ rfl (loadOut (HV11.out.2.2.1.over2 (.int .i64 0) (.string selS)))) rfl ?_
   have one:=One.over2 w11 (W.heap.size + 1) (.int .i64 0) (.string selS)
   have g1:OpS W w2 S Q (nN:Int) i xs o (0 + 0 + 0) (0 + 0 + 0) (fun k=>k=OB∨vo.ownBlock=some k) S Q1 (nN:Int) none:=((OpS.refl H.out.2.2.2.1).trans HH1.out.2.2.2 fun _ h=>h.elim).trans (OpS.refl (R:=fun _=>False) HH2.out.2.2.2) fun _ h=>h.elim
   have g2:=((g1.trans HH3.out.2.2 fun _ h=>h.elim).trans (OpS.refl (R:=fun _=>False) n5) fun _ h=>h.elim).trans (OpS.valid (R:=fun _=>False) (f:=(fN:Int)) HO7.out) fun _ h=>h.elim
   have g3:=(g2.trans (OpS.refl (R:=fun _=>False) HV11.out.2.2.2.2) fun _ h=>h.elim).trans (OpS.side HV11.out.2.2.2.1) fun _ h=>.inl h
   refine opr_fin HV11.out.1 g3 (by omega) (by omega) HV11.out.2.1 HV11.out.2.2.1 (by omega) hWb hW0 one 0 selS ⟨by omega,by decide⟩ (fun r hr=>?_) (by rw [List.length_append]; simp)
   exact (List.mem_append.1 hr).imp id fun h=>.inl (sel_ok bs w11 l.length hl3 sw8 sw10 zw8 zw10 r h).2
end
end Go.Proofs.YtliimglbbiebiaaGreatDoor
end

section
namespace Go.Proofs.YtliimglbbiebiaaGreatDoor
open Go.RowKit
theorem results_ct {P:Program} {fn:Func} {p q:Tmp} {t:TypeId} (h:fn.results=#[.cell p t,.tmp q]) (tmps:Array Value) (w:World) {a:Addr} {v v':Value}
 (hp:tmps[p]? = some (.pointer (some a))) (hq:tmps[q]? = some v') (hv:(loadVar t a).run P w=.ok v w):(results fn tmps).run P w=.ok (.tuple #[v,v']) w:=by
 simp [results,h,hp,hq,asAddr,hv]
theorem loadTok {w:World} {g:Nat} {a b c:Value} (h:Blk w g 435 #[a,b,c]):(loadVar 435 ⟨g,0,none⟩).run Tryz.prog w=.ok (.agg #[a,b,c]) w :=
 run_loadVar_row w g _ _ _ _ _ h Tryz.underlying435 rfl (by kernel_rfl)
def Bts (w:World) (b off:Nat) (l:List UInt8):Prop:=∀ i x,l[i]? = some x→w.cell? ⟨b,off + i,none⟩=some (.int .u8 (x.toNat:Int))
theorem Bts.fr {S:Nat→Prop} {w w':World} {b off:Nat} {l:List UInt8} (h:Bts w b off l) (hf:Fr S w w') (hS:¬ S b):Bts w' b off l:=fun i x hx=>Fr.cell hf (h i x hx) hS
theorem Bts.new {w w':World} {b off:Nat} {l:List UInt8} (h:Bts w b off l) (hf:New w w'):Bts w' b off l:=h.fr hf id
theorem Bts.drop {w:World} {b off:Nat} {l:List UInt8} (h:Bts w b off l) (k:Nat):Bts w b (off + k) (l.drop k):=fun i x hx=>by
 rw [List.getElem?_drop] at hx
 have:=h (k + i) x hx
 rwa [← Nat.add_assoc] at this
theorem Bts.take {w:World} {b off:Nat} {l:List UInt8} (h:Bts w b off l) (k:Nat):Bts w b off (l.take k):=fun i x hx=>by
 rw [List.getElem?_take] at hx
 split at hx
 · exact h i x hx
 · cases hx
theorem Bts.conv {w:World} {b off:Nat} {l:List UInt8} (h:Bts w b off l) (c:Nat):(convert 23 9 (.slice (some ⟨b,off,none⟩) l.length c)).run Tryz.prog w=.ok (.string ⟨l.toArray⟩) w :=
 run_convert_bytes_back (P:=Tryz.prog) w 23 9 5 ⟨b,off,none⟩ c l Tryz.underlying23 Tryz.underlying5 Tryz.underlying9 fun j hj=>by
  rw [Addr.add_lit]
  exact h j _ (List.getElem?_eq_getElem hj)
def nums (l:List UInt8):List Int:=l.map fun x=>(x.toNat:Int)
theorem nums_len (l:List UInt8):(nums l).length=l.length:=List.length_map ..
theorem nums_back (l:List UInt8):Lib.bytesOf (nums l)=l:=by
 unfold Lib.bytesOf nums
 rw [List.map_map]
 conv=>rhs; rw [← List.map_id l]
 apply List.map_congr_left
 intro x _
 simp
theorem Bts.cells {w:World} {b off:Nat} {l:List UInt8} (h:Bts w b off l):∀ i,i < l.length→w.cell? ⟨b,off + i,none⟩=some (.int .u8 ((nums l).getD i 0)):=fun i hi=>by
 rw [h i _ (List.getElem?_eq_getElem hi)]
 simp [nums,List.getD,hi]
def lineL (x:UInt8):List UInt8:=[x,32,78,79,79,80]
theorem tag_line (x:UInt8) (hx:x=97∨x=98) (b off c:Nat) (hc:6≤c) (w:World) (hb:Bts w b off (lineL x)) :
 Calls Tryz.prog 208 #[.slice (some ⟨b,off,none⟩) 6 c] w fun e w'=>e=.returned (.tuple #[.string ⟨#[x]⟩,.int .i64 2,.bool true])∧New w w':=by
 have hib:=Tryz.bytes_IndexByte b off 6 c (nums (lineL x)) 32 w (nums_len _) hb.cells
 rw [nums_back] at hib
 have hcv:∀ W,New w W→(convert 23 9 (.slice (some ⟨b,off,none⟩) 1 c)).run Tryz.prog W=.ok (.string ⟨#[x]⟩) W:=fun W hW=>(Bts.take (hb.new hW) 1).conv c
 have hall:=All_tag ⟨#[x]⟩ (by show 1≤1000000; decide) w
 have e1:Lib.indexByte (lineL x) ((32:Int).toNat.toUInt8)=1:=by rcases hx with rfl | rfl <;> decide
 have e2:tagS ⟨#[x]⟩=true:=by rcases hx with rfl | rfl <;> decide +kernel
 rw [e1] at hib
 rw [e2] at hall
 have hcv0:=hcv w (New.refl w)
 clear hb hx e1 e2
 go_enter Tryz.func208,Tryz.ntmps208
 go_wp2_with (go_at_call 264; refine hib.mono ?_; rintro e w' ⟨rfl,rfl⟩)
 refine hall.mono ?_
 rintro e w1 ⟨rfl,n1⟩
 have hcv1:=hcv w1 n1
 go_wp2
 go_ret3
 exact ⟨rfl,n1⟩
theorem isWord_yes (x:Int) (h1:32 < x) (h2:x≤126) (hi:Lib.indexByte [40,41,34,123] x.toNat.toUInt8=-1) (w:World):Calls Tryz.prog 417 #[.int .u8 x] w fun e w'=>e=.returned (.bool true)∧w'=w:=by
 have h:=Tryz.strings_IndexByte ⟨#[40,41,34,123]⟩ x w
 have e:Lib.indexByte (⟨#[40,41,34,123]⟩:ByteArray).data.toList x.toNat.toUInt8=-1:=hi
 rw [e] at h
 go_enter Tryz.func417,Tryz.ntmps417
 go_wp2_with (go_at_call 444; refine h.mono ?_; rintro e w' ⟨rfl,rfl⟩)
 go_ret
 exact ⟨rfl,rfl⟩
def wordB (x:Int):Bool:=decide (32 < x) && decide (x≤126) && decide (Lib.indexByte [40,41,34,123] x.toNat.toUInt8=-1)
theorem isWord_of (x:Int) (h:wordB x=true) (w:World):Calls Tryz.prog 417 #[.int .u8 x] w fun e w'=>e=.returned (.bool true)∧w'=w:=by
 unfold wordB at h
 simp only [Bool.and_eq_true,decide_eq_true_eq] at h
 exact isWord_yes x h.1.1 h.1.2 h.2 w
theorem word_all (r b off c:Nat) (l:List UInt8) (hl:l.length≤1000000) (hc:l.length≤c) (hw:∀ x ∈ l,wordB (x.toNat:Int)=true) (h0:0 < l.length) (w:World) (hr:Blk w r 433 #[.slice (some ⟨b,off,none⟩) l.length c,.int .i64 0]) (hb:Bts w b off l) (hbr:b≠r) :
 Calls Tryz.prog 368 #[.pointer (some ⟨r,0,none⟩)] w fun e w'=>e=.returned (.tuple #[.agg #[.int .i64 4,.string ⟨l.toArray⟩,.int .i64 0],.bool true])∧Blk w' r 433 #[.slice (some ⟨b,off,none⟩) l.length c,.int .i64 l.length]∧One r w w':=by
 have hlt:=hr.lt
 have c0:w.cell? ⟨r,0,none⟩=some (.slice (some ⟨b,off,none⟩) l.length c):=hr.cell 0
 have c1:w.cell? ⟨r,1,none⟩=some (.int .i64 0):=hr.cell 1
 go_enter Tryz.func368,Tryz.ntmps368
 go_wp2_with fail
 go_loopw [31] (fun _ wr=>∃ k:Nat,k≤l.length∧Blk wr r 433 #[.slice (some ⟨b,off,none⟩) l.length c,.int .i64 k]∧Blk wr w.heap.size 435 #[.int .i64 0,.string ⟨#[]⟩,.int .i64 0]∧One r w wr) (fun _ wr=>l.length - (intOf ((wr.cell? ⟨r,1,none⟩).getD undef)).toNat)
 case atStart=>exact ⟨0,Nat.zero_le _,hr.alloc _,Blk.new _ _ _,(One.refl r w).alloc _⟩
 case round =>
  obtain ⟨k,hk,hbr2,hbt,hone⟩:=hrel
  have d0:wr.cell? ⟨r,0,none⟩=some (.slice (some ⟨b,off,none⟩) l.length c):=hbr2.cell 0
  have d1:wr.cell? ⟨r,1,none⟩=some (.int .i64 k):=hbr2.cell 1
  have f1:wr.frozen? ⟨r,1,none⟩=false:=hbr2.frozen 1
  by_cases hkl:k < l.length
  · have hat:wr.cell? ⟨b,off + k,none⟩=some (.int .u8 (l[k].toNat:Int)):=(hb.fr hone hbr) k _ (List.getElem?_eq_getElem hkl)
    have y0:=isWord_of _ (hw l[k] (List.getElem_mem hkl))
    generalize (l[k].toNat:Int)=x at *
    go_wp2_with fail
    go_quiet ((go_at_call 417; exact Calls.quiet_of_same (y0 _)))
    go_wp2
    go_roundw
    case rel=>exact ⟨k + 1,by omega,(hbr2.drewN nq).set_ 1 _,(hbt.drewN nq).far (by simp; omega) _,Fr.setCell (hone.drewN nq) (fun _=>rfl) _⟩
    case measure =>
     have e1:((wr.drewN nq).setCell ⟨r,1,none⟩ (.int .i64 ((k:Int) + 1))).cell? ⟨r,1,none⟩=some (.int .i64 ((k:Int) + 1)):=((hbr2.drewN nq).set_ 1 _).cell 1
     rw [e1,d1]
     simp [intOf]
     omega
  · obtain rfl:k=l.length:=by omega
    go_wp2_with fail
    go_quiet (fail)
    go_wp2_with fail
    have g0:wr.cell? ⟨w.heap.size,0,none⟩=some (.int .i64 0):=hbt.cell 0
    have g1:wr.cell? ⟨w.heap.size,1,none⟩=some (.string ⟨#[]⟩):=hbt.cell 1
    have g2:wr.cell? ⟨w.heap.size,2,none⟩=some (.int .i64 0):=hbt.cell 2
    have k0:wr.frozen? ⟨w.heap.size,0,none⟩=false:=hbt.frozen 0
    have k1:wr.frozen? ⟨w.heap.size,1,none⟩=false:=hbt.frozen 1
    have k2:wr.frozen? ⟨w.heap.size,2,none⟩=false:=hbt.frozen 2
    have hcv:=fun n=>Bts.conv (w:=wr.drewN n) (hb.fr (Fr.drewN hone n) hbr) c
    have hcv2:=fun n=>Bts.conv (w:=(wr.drewN n).drew) (hb.fr (Fr.drew (Fr.drewN hone n)) hbr) c
    go_region
    go_wp2
    have q:=((((hbt.drewN (nq + 1)).set_ 0 (.int .i64 4)).set_ 1 (.string ⟨l.toArray⟩)).set_ 2 (.int .i64 0))
    refine bodyPost_ret (results_ct rfl _ _ rfl rfl (loadTok q)) rfl ?_
    have hne:r≠w.heap.size:=by omega
    refine ⟨rfl,((((hbr2.drewN (nq + 1)).far (by simpa using hne) _).far (by simpa using hne) _).far (by simpa using hne) _),?_⟩
    exact Fr.setCell (Fr.setCell (Fr.setCell (Fr.drewN hone _) (by simp) _) (by simp) _) (by simp) _
end Go.Proofs.YtliimglbbiebiaaGreatDoor
end

