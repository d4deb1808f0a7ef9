/- A part of the proof: Run, TblMore, StOps4, StOps5. -/
import Derived.Test.YtliimglbbiebiaaGreatDoorGTopPairsAP
import Derived.Test.YtliimglbbiebiaaGreatDoorGTopPairsAN
import Derived.Test.YtliimglbbiebiaaGreatDoorGTopPairsAB
import Derived.Test.YtliimglbbiebiaaGreatDoorGTopPairsAJ
import Derived.Test.YtliimglbbiebiaaGreatDoorGTopPairsAC
import Derived.Test.YtliimglbbiebiaaGreatDoorGTopPairsAD
import Derived.Test.YtliimglbbiebiaaGreatDoorGTopPairsAM
set_option maxRecDepth 100000
set_option maxHeartbeats 6400000
section
namespace Go.Proofs.YtliimglbbiebiaaGreatDoor
open Go.RowKit Go.Shelf Go.Proofs
attribute [local go_sem] Oper.semAt_some
theorem visit_any (v:Nat) (A:Option Addr) (n c:Nat) (w:World):Calls Tryz.prog 200 #[.pointer (some ⟨v,0,none⟩),.slice A n c] w fun e w'=>e=.returned (.func (.func 263) #[] #[.pointer (some ⟨w.heap.size + 1,0,none⟩),.pointer (some ⟨w.heap.size,0,none⟩)]) ∧
 w'=(w.alloc (.cells #[.pointer (some ⟨v,0,none⟩)] 55)).alloc (.cells #[.slice A n c] 31):=by
 have hmf:∀ (fn:Fn) (first cap:Array Value) (w:World),(Instr.makeFunc fn first cap).run Tryz.prog w=.ok (.func fn first cap) w:=fun _ _ _ _=>rfl
 go_enter Tryz.func200,Tryz.ntmps200
 go_wp2
 go_ret
 exact ⟨rfl,rfl⟩
def Odd (W:World) (k:Nat):Prop:=(∃ o:Obj,W.heap[k]? = some o∧o.isCells=false)∨∃ t cs,Blk W k t cs∧(t=50∨t=198∨t=53)
structure DoKeeps (B v x:Nat) (u:Value) (W W':World):Prop where
 kf:KeepsFrom B W W'
 kx:∀ k,k=v∨k=x∨u.ownBlock=some k→k < W.heap.size→W'.heap[k]? = W.heap[k]?
 kt:∀ k t cs,Blk W k t cs→B≤k→(t=50∨t=198∨t=53∨t=246∨t=55∨t=31∨t=3)→Blk W' k t cs
structure RunI {α:Type} (B OB EB:Nat) (PR:Rsp→World→Prop) (I:List α→World→Prop) (pre:List α) (vo:Value) (lo:List Rsp) (code:Int) (W:World):Prop where
 i:I pre W
 o:Blk W OB 50 #[vo]
 e:Blk W EB 198 #[.int .i64 code]
 r:Own rspE 53 B W vo lo
 p:∀ r ∈ lo,PR r W
 len:lo.length≤pre.length
 code:code=0∨code=7
theorem RunI.turn {α:Type} {w0:World} {OB EB B':Nat} {PR:Rsp→World→Prop} {I:List α→World→Prop} {pre:List α} {vo:Value} {lo:List Rsp} {code:Int} {W W':World}
 (h:RunI w0.heap.size OB EB PR I pre vo lo code W)
 (hI:∀ pre W W',I pre W→Fr (fun k=>w0.heap.size≤k∧Odd W k) W W'→I pre W') (hP:∀ r W W',PR r W→Fr (fun k=>w0.heap.size≤k∧Odd W k) W W'→PR r W')
 (t:Turn B' W W') (hB:w0.heap.size≤B'):RunI w0.heap.size OB EB PR I pre vo lo code W' :=
 have hf:Fr (fun k=>w0.heap.size≤k∧Odd W k) W W':=t.fr fun k hk ho=>⟨by omega,.inl ho⟩
 { i:=hI _ _ _ h.i hf,o:=t.blk h.o,e:=t.blk h.e,r:=t.own h.r,p:=fun r hr=>hP _ _ _ (h.p r hr) hf,len:=h.len,code:=h.code }
theorem RunI.drew {α:Type} {w0:World} {OB EB:Nat} {PR:Rsp→World→Prop} {I:List α→World→Prop} {pre:List α} {vo:Value} {lo:List Rsp} {code:Int} {W:World}
 (h:RunI w0.heap.size OB EB PR I pre vo lo code W)
 (hI:∀ pre W W',I pre W→Fr (fun k=>w0.heap.size≤k∧Odd W k) W W'→I pre W') (hP:∀ r W W',PR r W→Fr (fun k=>w0.heap.size≤k∧Odd W k) W W'→PR r W'):RunI w0.heap.size OB EB PR I pre vo lo code W.drew :=
 { i:=hI _ _ _ h.i (Fr.drew (Fr.refl _ _)),o:=Blk.drew h.o,e:=Blk.drew h.e,r:=h.r.drew,p:=fun r hr=>hP _ _ _ (h.p r hr) (Fr.drew (Fr.refl _ _)),len:=h.len,code:=h.code }
theorem RunI.after {α:Type} {w0:World} {OB EB B' v x base bs Bs Bv:Nat} {g:Bool} {u sv:Value} {l N:List Int} {PR:Rsp→World→Prop} {I:List α→World→Prop} {pre:List α} {vo:Value} {lo:List Rsp} {code:Int} {W W':World}
 (h:RunI w0.heap.size OB EB PR I pre vo lo code W) (hO:w0.heap.size≤OB) (hE:w0.heap.size≤EB) (hV:VX v x base bs Bs Bv g u sv l N W)
 (hI:∀ pre W W',I pre W→Fr (fun k=>w0.heap.size≤k∧Odd W k) W W'→I pre W') (hP:∀ r W W',PR r W→Fr (fun k=>w0.heap.size≤k∧Odd W k) W W'→PR r W')
 (hf:Fr (fun k=>k=EB∨k=OB∨vo.ownBlock=some k) W W'):I pre W'∧(∀ r,PR r W→PR r W')∧KX (vxR v x Bs Bv u sv) W W'∧KeepsFrom B' W W'∧∀ k t cs,Blk W k t cs→t≠50→t≠198→t≠53→Blk W' k t cs:=by
 have hty:∀ k,(k=EB∨k=OB∨vo.ownBlock=some k)→w0.heap.size≤k∧∃ t cs,Blk W k t cs∧(t=50∨t=198∨t=53):=by
  rintro k (rfl | rfl | hk)
  · exact ⟨hE,_,_,h.e,.inr (.inl rfl)⟩
  · exact ⟨hO,_,_,h.o,.inl rfl⟩
  · obtain ⟨cs,hc⟩:=h.r.heap hk
    exact ⟨(h.r.block hk).1,_,cs,hc,.inr (.inr rfl)⟩
 have hodd:=hf.mono (T:=fun k=>w0.heap.size≤k∧Odd W k) fun k _ hk=>⟨(hty k hk).1,.inr (hty k hk).2⟩
 have hno:∀ (k:Nat) (t:TypeId) (cs:Array Value),Blk W k t cs→t≠50→t≠198→t≠53→¬ (k=EB∨k=OB∨vo.ownBlock=some k):=by
  intro k t cs hb h1 h2 h3 hk
  obtain ⟨_,t',cs',hb',ht⟩:=hty k hk
  have e:=hb.symm.trans hb'
  cases e
  rcases ht with rfl | rfl | rfl
  · exact h1 rfl
  · exact h2 rfl
  · exact h3 rfl
 refine ⟨hI _ _ _ h.i hodd,fun r hr=>hP _ _ _ hr hodd,KX.of_fr hf ?_,keeps_fr hf fun k _ hk o ho=>?_,fun k t cs hb h1 h2 h3=>hf.blk hb (hno k t cs hb h1 h2 h3)⟩
 · rintro k _ (rfl | rfl | rfl | rfl | hk | hk)
   · exact hno _ _ _ hV.vw (by decide) (by decide) (by decide)
   · exact hno _ _ _ hV.ix.1 (by decide) (by decide) (by decide)
   · exact hno _ _ _ hV.b (by decide) (by decide) (by decide)
   · exact hno _ _ _ hV.p (by decide) (by decide) (by decide)
   · rcases hV.ix.2.1 with ⟨e,_⟩ | ⟨g',_,_,e,_,⟨cs,hc⟩,_⟩
     · rw [e] at hk; cases hk
     · rw [e] at hk
       cases hk
       exact hno _ _ _ hc (by decide) (by decide) (by decide)
   · obtain ⟨cs,hc⟩:=hV.s.heap hk
     exact hno _ _ _ hc (by decide) (by decide) (by decide)
 · obtain ⟨_,t,cs,hb,_⟩:=hty k hk
   exact hb.isCells o ho
theorem VX.turn {v x base bs Bs Bv B:Nat} {g:Bool} {u sv:Value} {l N:List Int} {W W':World} (h:VX v x base bs Bs Bv g u sv l N W) (t:Turn B W W'):VX v x base bs Bs Bv g u sv l N W':=by
 refine h.keep (KX.of_fr t.fr_odd ?_)
 have hno:∀ (k:Nat) (t:TypeId) (cs:Array Value),Blk W k t cs→¬ ∃ o:Obj,W.heap[k]? = some o∧o.isCells=false:=fun k t cs hb ⟨o,ho,hc⟩=>by rw [hb.isCells o ho] at hc; cases hc
 rintro k _ (rfl | rfl | rfl | rfl | hk | hk)
 · exact hno _ _ _ h.vw
 · exact hno _ _ _ h.ix.1
 · exact hno _ _ _ h.b
 · exact hno _ _ _ h.p
 · rcases h.ix.2.1 with ⟨e,_⟩ | ⟨g',_,_,e,_,⟨cs,hc⟩,_⟩
   · rw [e] at hk; cases hk
   · rw [e] at hk
     cases hk
     exact hno _ _ _ hc
 · obtain ⟨cs,hc⟩:=h.s.heap hk
   exact hno _ _ _ hc
theorem RunI.called {α:Type} {B OB EB v x base bs Bs Bv:Nat} {g:Bool} {u sv:Value} {l N:List Int} {PR:Rsp→World→Prop} {I:List α→World→Prop} {pre pre':List α} {vo:Value} {lo:List Rsp} {code:Int} {W W':World}
 (h:RunI B OB EB PR I pre vo lo code W) (hO:B≤OB) (hE:B≤EB) (hBs:B≤Bs) (hBv:B≤Bv) (hbs:B≤bs) (hV:VX v x base bs Bs Bv g u sv l N W)
 (hk:DoKeeps B v x u W W') (hi:I pre' W') (hp:∀ r,PR r W→PR r W') (hl:pre.length≤pre'.length):RunI B OB EB PR I pre' vo lo code W'∧KX (vxR v x Bs Bv u sv) W W':=by
 refine ⟨{ i:=hi,o:=hk.kt _ _ _ h.o hO (.inl rfl),e:=hk.kt _ _ _ h.e hE (.inr (.inl rfl)),r:=h.r.keep fun b hb=>?_,p:=fun r hr=>hp r (h.p r hr),len:=Nat.le_trans h.len hl,code:=h.code },hk.kf.size,?_⟩
 · obtain ⟨cs,hc⟩:=h.r.heap hb
   exact (hk.kt _ _ _ hc (h.r.block hb).1 (.inr (.inr (.inl rfl)))).trans hc.symm
 · rintro k (rfl | rfl | rfl | rfl | hu | hu) hlt
   · exact hk.kx _ (.inl rfl) hlt
   · exact hk.kx _ (.inr (.inl rfl)) hlt
   · exact (hk.kt _ _ _ hV.b hBs (.inr (.inr (.inr (.inr (.inr (.inl rfl))))))).trans hV.b.symm
   · exact (hk.kt _ _ _ hV.p hBv (.inr (.inr (.inr (.inr (.inl rfl)))))).trans hV.p.symm
   · exact hk.kx _ (.inr (.inr hu)) hlt
   · obtain ⟨cs,hc⟩:=hV.s.heap hu
     exact (hk.kt _ _ _ hc (Nat.le_trans hbs (hV.s.block hu).1) (.inr (.inr (.inr (.inr (.inr (.inr rfl))))))).trans hc.symm
theorem KeepsFrom.from_ {B B':Nat} {W W':World} (h:KeepsFrom B W W') (hB:B≤B'):KeepsFrom B' W W':=⟨h.size,fun k o hk=>h.same k o (Nat.le_trans hB hk)⟩
theorem RunI.fin {α:Type} {w0:World} {OB EB AB B' v x base bs Bs Bv:Nat} {g:Bool} {u sv av:Value} {l N:List Int} {PR:Rsp→World→Prop} {I:List α→World→Prop} {pre:List α} {vo:Value} {lo:List Rsp} {code:Int} {W0 W W':World} {T:Prop}
 (h:RunI w0.heap.size OB EB PR I pre vo lo code W∧VX v x base bs Bs Bv g u sv l N W∧KX (vxR v x Bs Bv u sv) W0 W∧KeepsFrom w0.heap.size W0 W∧Blk W AB 246 #[av]∧T) (hO:w0.heap.size≤OB) (hE:w0.heap.size≤EB) (hB':w0.heap.size≤B')
 (hI:∀ pre W W',I pre W→Fr (fun k=>w0.heap.size≤k∧Odd W k) W W'→I pre W') (hP:∀ r W W',PR r W→Fr (fun k=>w0.heap.size≤k∧Odd W k) W W'→PR r W')
 (hf:Fr (fun k=>k=EB∨k=OB∨vo.ownBlock=some k) W W') {vo':Value} {lo':List Rsp} {code':Int} (o6:Blk W' OB 50 #[vo']) (e6:Blk W' EB 198 #[.int .i64 code']) (r6:Own rspE 53 w0.heap.size W' vo' lo')
 (p6:∀ r ∈ lo',r ∈ lo∨PR r W) (l6:lo'.length≤pre.length) (c6:code'=0∨code'=7) :
 KeepsFrom B' W0 W'∧KX (vxR v x Bs Bv u sv) W0 W'∧∃ vo lo code,RunI w0.heap.size OB EB PR I pre vo lo code W'∧Blk W' AB 246 #[av]∧VX v x base bs Bs Bv g u sv l N W':=by
 obtain ⟨h1,h2,h3,h4,h5,_⟩:=h
 obtain ⟨a1,a2,a3,a4,a5⟩:=h1.after (B':=B') hO hE h2 hI hP hf
 exact ⟨(KeepsFrom.from_ h4 hB').trans a4,h3.trans a3,vo',lo',code',{ i:=a1,o:=o6,e:=e6,r:=r6,p:=fun r hr=>(p6 r hr).elim (fun h=>a2 r (h1.p r h)) (a2 r),len:=l6,code:=c6 },a5 _ _ _ h5 (by decide) (by decide) (by decide),h2.keep a3⟩
theorem run_any {v x base:Nat} {g:Bool} {u:Value} {l:List Int} (hl:l.length≤50000) (fn:Nat) (cap:Array Value) (hE:∀ args w,(callFunc fn args).run Tryz.prog w=.ok (.enter fn args) w)
 (A:Option Addr) (c:Nat) (s:List Rg) (hwf:∀ r ∈ s,r.wf) (hs:s.length≤100000) (w:World)
 (I:List (AtV l)→World→Prop) (PR:Rsp→World→Prop)
 (hI:∀ pre W W',I pre W→Fr (fun k=>w.heap.size≤k∧Odd W k) W W'→I pre W')
 (hP:∀ r W W',PR r W→Fr (fun k=>w.heap.size≤k∧Odd W k) W W'→PR r W')
 (hdo:∀ pre (y:AtV l) W,I pre W→pre.length < l.length→w.heap.size≤W.heap.size→Calls Tryz.prog fn (#[.int .i64 y.1.1,.int .u32 y.1.2] ++ cap) W fun e W'=>∃ (r:Rsp) (told there:Bool),e=.returned (.tuple #[r.val,.bool told,.bool there])∧(told=true→PR r W') ∧
   I (pre ++ [y]) W'∧DoKeeps w.heap.size v x u W W'∧∀ r,PR r W→PR r W')
 (hvw:VW w v x g) (hix:IdxU base w x u l) (hv:Rd rgE w (.slice A s.length c) s) (h0:I [] w) :
 Calls Tryz.prog 145 #[.agg #[.func (.func fn) #[] cap],.pointer (some ⟨v,0,none⟩),.slice A s.length c] w fun e W'=>∃ vo lo code,e=.returned (.tuple #[vo,.int .i64 code])∧Own rspE 53 w.heap.size W' vo lo∧(∀ r ∈ lo,PR r W')∧lo.length≤l.length∧(code=0∨code=3∨code=7)∧∃ pre,pre.length≤l.length∧I pre W':=by
 obtain ⟨i0,hi,hz0,hz1,hz2⟩:=info_parts rsp_info
 have n1:New w (w.alloc (.cells #[.func (.func fn) #[] cap] 246)):=(New.refl w).alloc _
 have HS:=Lib.hid (seqs_any (n1.blk hvw) (hix.new n1) hl A c s (hv.new n1) hwf hs)
 have HI0:Hid (I [] w):=h0
 have HI:=Lib.hid hI
 have HDO:=Lib.hid hdo
 have HP:=Lib.hid hP
 have HV:=Lib.hid (And.intro hvw hix)
 clear hv hwf h0 hI hdo hP hvw hix n1
 refine (callsIn_wide (n:=6)).1 ?_
 refine callsIn_of_wp_marks Tryz.func145 rfl trivial ?_ rfl
 simp only [Tryz.ntmps145,List.size_toArray,List.length_cons,List.length_nil,Nat.reduceAdd,Nat.reduceSub,Array.replicate_succ,Array.replicate_zero,List.push_toArray,List.append_toArray,List.nil_append,List.cons_append]
 gi_wp2_with fail
 refine ⟨trivial,?_⟩
 refine (callsIn_wide.2 HS.out).mono ?_
 rintro e w1 ⟨o,N,rfl,hown,hasc,hN,n1⟩
 obtain ⟨oA,oC,rfl,_⟩:=hown.form
 have hsz1:=n1.size
 rw [World.size_alloc] at hsz1
 have hfr1:Fr (fun k=>w.heap.size≤k∧Odd w k) w w1:=((New.refl w).alloc _ |>.trans n1).mono fun _ _ h=>h.elim
 cases hk:okSet l.length s
 · gi_wp2
   refine ⟨_,results_tmp2 rfl _ _ _,_,[],3,rfl,Own.nil _ _ _ _,by simp,by simp,.inr (.inl rfl),[],Nat.zero_le _,HI.out _ _ _ HI0.out hfr1⟩
 · gi_wp2_with fail
   refine ⟨trivial,?_⟩
   refine (callsIn_wide.2 (visit_any v oA N.length oC _)).mono ?_
   rintro e w2 ⟨rfl,hw2⟩
   gi_wp2_with fail
   clear hw2
   have hNl:=asc_len hasc hN (by omega)
   have hNl':N.length≤l.length:=by omega
   have ba:Blk w1 w.heap.size 246 #[.func (.func fn) #[] cap]:=n1.blk (Blk.new _ _ _)
   have nW:New w1 ((((w1.alloc (.cells #[.slice none 0 0] 50)).alloc (.cells #[.int .i64 0] 198)).alloc (.cells #[.pointer (some ⟨v,0,none⟩)] 55)).alloc (.cells #[.slice oA N.length oC] 31)):=((((New.refl w1).alloc _).alloc _).alloc _).alloc _
   have hVX:VX v x base (w.heap.size + 1) (w1.heap.size + 1 + 1 + 1) (w1.heap.size + 1 + 1) g u (.slice oA N.length oC) l N ((((w1.alloc (.cells #[.slice none 0 0] 50)).alloc (.cells #[.int .i64 0] 198)).alloc (.cells #[.pointer (some ⟨v,0,none⟩)] 55)).alloc (.cells #[.slice oA N.length oC] 31)) :=
    { vw:=nW.blk (n1.blk (New.blk ((New.refl w).alloc _) HV.out.1)),ix:=((HV.out.2.new ((New.refl w).alloc _)).new n1).new nW,s:=by have:=hown.new nW; rwa [World.size_alloc] at this,
      b:=by
       have:=Blk.new (((w1.alloc (.cells #[.slice none 0 0] 50)).alloc (.cells #[.int .i64 0] 198)).alloc (.cells #[.pointer (some ⟨v,0,none⟩)] 55)) 31 #[.slice oA N.length oC]
       simpa only [World.size_alloc] using this
      p:=by
       have:=(Blk.new ((w1.alloc (.cells #[.slice none 0 0] 50)).alloc (.cells #[.int .i64 0] 198)) 55 #[.pointer (some ⟨v,0,none⟩)]).alloc (.cells #[.slice oA N.length oC] 31)
       simpa only [World.size_alloc] using this }
   have hS:SeqStopsK Fence.wide (6 - 1) Tryz.prog 263 #[.pointer (some ⟨w1.heap.size + 1 + 1 + 1,0,none⟩),.pointer (some ⟨w1.heap.size + 1 + 1,0,none⟩)] (fun y:AtV l=>#[.int .i64 y.1.1,.int .u32 y.1.2]) (KX (vxR v x (w1.heap.size + 1 + 1 + 1) (w1.heap.size + 1 + 1) u (.slice oA N.length oC))) (fun xs=>xs.map (fun p=>p.1.1)=N) (fun _=>True) N.length ((((w1.alloc (.cells #[.slice none 0 0] 50)).alloc (.cells #[.int .i64 0] 198)).alloc (.cells #[.pointer (some ⟨v,0,none⟩)] 55)).alloc (.cells #[.slice oA N.length oC] 31)):=by
    intro lid J Jx W hb hJ _ hY hJ0
    refine (visit1_in (6 - 1) (by omega) lid hN hl (by omega) J Jx W hY (hVX.keep (KX.of_fr (New.of_below hb) fun _ _ _ h=>h)) hJ0).mono ?_
    rintro e w' ⟨he,h⟩
    exact ⟨he,h.imp id fun ⟨pre,hp⟩=>⟨pre,trivial,hp⟩⟩
   have hlt:=hVX.lt
   have HVL:=Lib.hid hlt
   have hR0:RunI w.heap.size w1.heap.size (w1.heap.size + 1) PR I ([]:List (AtV l)) (.slice none 0 0) [] 0 ((((w1.alloc (.cells #[.slice none 0 0] 50)).alloc (.cells #[.int .i64 0] 198)).alloc (.cells #[.pointer (some ⟨v,0,none⟩)] 55)).alloc (.cells #[.slice oA N.length oC] 31)) :=
    { i:=HI.out _ _ _ HI0.out (hfr1.trans (nW.mono fun _ _ h=>h.elim)),o:=(((Blk.new _ _ _).alloc _).alloc _).alloc _
      e:=by
       have:=((Blk.new (w1.alloc (.cells #[.slice none 0 0] 50)) 198 #[.int .i64 0]).alloc (.cells #[.pointer (some ⟨v,0,none⟩)] 55)).alloc (.cells #[.slice oA N.length oC] 31)
       simpa only [World.size_alloc] using this
      r:=Own.nil _ _ _ _,p:=by simp,len:=by simp,code:=.inl rfl }
   have hba:=nW.blk ba
   refine wpIn_rangeFunc_ownH rfl (by omega) (gf:=263) (lb:=#[.pointer (some ⟨w1.heap.size + 1 + 1 + 1,0,none⟩),.pointer (some ⟨w1.heap.size + 1 + 1,0,none⟩)]) rfl trivial (enters_of Tryz.func263 (by kernel_rfl) rfl)
    hS KX.trans (KX.put hlt) (Below.refl _ _) (fun _=>rfl)
    (fun pre W=>∃ vo lo code,RunI w.heap.size w1.heap.size (w1.heap.size + 1) PR I pre vo lo code W∧Blk W w.heap.size 246 #[.func (.func fn) #[] cap]∧VX v x base (w.heap.size + 1) (w1.heap.size + 1 + 1 + 1) (w1.heap.size + 1 + 1) g u (.slice oA N.length oC) l N W)
    (fun _ _ _=>False)
    (ownFrom_of fun s W W' hs t=>?_)
    (fun _ _ _ _ _ hs _ _=>hs)
    ⟨_,_,_,hR0,hba,hVX⟩
    (fun y a' _=>a'={ tmps:=#[.agg #[.func (.func fn) #[] cap],.pointer (some ⟨v,0,none⟩),.slice A s.length c,.pointer (some ⟨w.heap.size,0,none⟩),undef,undef,.slice none 0 0,.int .i64 0,.slice oA N.length oC,.bool true,.pointer (some ⟨w1.heap.size,0,none⟩),.pointer (some ⟨w1.heap.size + 1,0,none⟩),.int .i64 y.1.1,.int .u32 y.1.2,undef,undef,undef,.tuple #[.slice oA N.length oC,.bool true],.pointer (some ⟨v,0,none⟩),.slice A s.length c,.tuple #[.slice oA N.length oC,.bool true],.slice oA N.length oC,.bool true,.bool true,.bool false,.pointer (some ⟨v,0,none⟩),.slice oA N.length oC,.func (.func 263) #[] #[.pointer (some ⟨w1.heap.size + 1 + 1 + 1,0,none⟩),.pointer (some ⟨w1.heap.size + 1 + 1,0,none⟩)],.int .i64 y.1.1,.int .u32 y.1.2,undef,undef,undef,undef,undef,undef,undef,undef,undef,undef,undef,undef,undef,undef,undef,undef,undef,undef],defers:=[] })
    (fun y a'=>ownFrom_pure _ _) ?assign ?body ?done ?stop
   · obtain ⟨vo,lo,code,hr,hb,hvx⟩:=hs
     exact ⟨vo,lo,code,hr.turn HI.out HP.out t (by have:=nW.size; omega),t.blk hb,hvx.turn t⟩
   case assign =>
    rintro lid pre y W K hi hK
    gi_wp2
    exact hK _ _ (KeepsFrom.refl _ _) (KX.refl _ _) hi rfl
   case body =>
    rintro lid pre y a' W hlid hlr ⟨vo,lo,code,hr,hb,hvx⟩ rfl hlt'
    have q0:W.cell? ⟨w.heap.size,0,none⟩=some (.func (.func fn) #[] cap):=hb.cell 0
    have hbl:=hb.lt
    have HD:=Lib.hid (HDO.out pre y W hr.i (Nat.lt_of_lt_of_le hlt' hNl') (by omega))
    have HR:=Lib.hid (And.intro hr (And.intro hb hvx))
    clear hr hb hvx hVX hS hR0 hba hlr
    gi_wp2_with fail
    refine ⟨trivial,?_⟩
    refine (CallsIn.inRound lid (callsIn_wide.2 HD.out)).mono ?_
    rintro e W3 ⟨⟨rk,rn,rt,rst,rx,rit,rfl_,ruid,rsz,rA,rbn,rbc⟩,told,there,rfl,hp3,hi3,hk3,hpk⟩
    dsimp only [Rsp.val]
    obtain ⟨h3,kx3⟩:=HR.out.1.called (by omega) (by omega) (by omega) (by omega) (by omega) HR.out.2.2 hk3 hi3 hpk (by simp)
    have HC:=Lib.hid (And.intro h3 (And.intro (HR.out.2.2.keep kx3) (And.intro kx3 (And.intro hk3.kf (And.intro (hk3.kt _ _ _ HR.out.2.1 (Nat.le_refl _) (.inr (.inr (.inr (.inl rfl))))) (And.intro hp3 HR.out.1.len))))))
    clear h3 kx3 hk3 hp3 hi3 hpk HR HD
    cases there <;> cases told
    · have he3:=HC.out.1.e
      have ho3:=HC.out.1.o
      have qe0:∀ o,(W3.alloc o).cell? ⟨w1.heap.size + 1,0,none⟩=some (.int .i64 code):=fun o=>(he3.alloc o).cell 0
      have qe1:∀ o i,(W3.alloc o).frozen? ⟨w1.heap.size + 1,i,none⟩=false:=fun o i=>(he3.alloc o).frozen i
      have hf5:Fr (fun k=>k=w1.heap.size + 1∨k=w1.heap.size∨vo.ownBlock=some k) W3 ((W3.alloc (.cells #[.int .i64 rk,.int .u32 rn,.string rt,.int .i64 rst,.string rx,.int .i64 rit,.int .u8 rfl_,.int .u32 ruid,.int .u32 rsz,.slice rA rbn rbc] 53)).setCell ⟨w1.heap.size + 1,0,none⟩ (.int .i64 7)):=((Fr.refl _ W3).alloc _).setCell (p:=⟨w1.heap.size + 1,0,none⟩) (fun _=>.inl rfl) _
      have he5:Blk ((W3.alloc (.cells #[.int .i64 rk,.int .u32 rn,.string rt,.int .i64 rst,.string rx,.int .i64 rit,.int .u8 rfl_,.int .u32 ruid,.int .u32 rsz,.slice rA rbn rbc] 53)).setCell ⟨w1.heap.size + 1,0,none⟩ (.int .i64 7)) (w1.heap.size + 1) 198 #[.int .i64 7]:=(he3.alloc _).set_ 0 _
      have ho5:Blk ((W3.alloc (.cells #[.int .i64 rk,.int .u32 rn,.string rt,.int .i64 rst,.string rx,.int .i64 rit,.int .u8 rfl_,.int .u32 ruid,.int .u32 rsz,.slice rA rbn rbc] 53)).setCell ⟨w1.heap.size + 1,0,none⟩ (.int .i64 7)) w1.heap.size 50 #[vo]:=(One.set (One.refl (w1.heap.size + 1) _) 0 _).blk (ho3.alloc _) (by omega)
      have hr5:Own rspE 53 w.heap.size ((W3.alloc (.cells #[.int .i64 rk,.int .u32 rn,.string rt,.int .i64 rst,.string rx,.int .i64 rit,.int .u8 rfl_,.int .u32 ruid,.int .u32 rsz,.slice rA rbn rbc] 53)).setCell ⟨w1.heap.size + 1,0,none⟩ (.int .i64 7)) vo lo:=(HC.out.1.r.alloc _).fr (One.set (One.refl (w1.heap.size + 1) _) 0 _) fun b hb e=>(HC.out.1.r.ne_blk he3 (by decide)) (by rw [hb,e])
      have HF:=Lib.hid (And.intro hf5 (And.intro ho5 (And.intro he5 hr5)))
      clear hf5 he5 ho5 hr5 he3 ho3
      gi_wp2_with fail
      obtain ⟨f1,f2,xa,xb,xc,f3,f4,f5⟩:=RunI.fin (B':=w1.heap.size + 1 + 1 + 1 + 1) HC.out (by omega) (by omega) (by omega) HI.out HP.out HF.out.1 HF.out.2.1 HF.out.2.2.1 HF.out.2.2.2 (fun r hr=>.inl hr) HC.out.1.len (.inr rfl)
      refine ⟨?_,f2,?_⟩
      · first | exact f1 | simpa only [World.size_alloc] using f1
      · first | exact ⟨xa,xb,xc,f3,f4,f5⟩ | exact ⟨⟨xa,xb,xc,f3⟩,f4,f5⟩
    · have he3:=HC.out.1.e
      have ho3:=HC.out.1.o
      have qe0:∀ o,(W3.alloc o).cell? ⟨w1.heap.size + 1,0,none⟩=some (.int .i64 code):=fun o=>(he3.alloc o).cell 0
      have qe1:∀ o i,(W3.alloc o).frozen? ⟨w1.heap.size + 1,i,none⟩=false:=fun o i=>(he3.alloc o).frozen i
      have hf5:Fr (fun k=>k=w1.heap.size + 1∨k=w1.heap.size∨vo.ownBlock=some k) W3 ((W3.alloc (.cells #[.int .i64 rk,.int .u32 rn,.string rt,.int .i64 rst,.string rx,.int .i64 rit,.int .u8 rfl_,.int .u32 ruid,.int .u32 rsz,.slice rA rbn rbc] 53)).setCell ⟨w1.heap.size + 1,0,none⟩ (.int .i64 7)):=((Fr.refl _ W3).alloc _).setCell (p:=⟨w1.heap.size + 1,0,none⟩) (fun _=>.inl rfl) _
      have he5:Blk ((W3.alloc (.cells #[.int .i64 rk,.int .u32 rn,.string rt,.int .i64 rst,.string rx,.int .i64 rit,.int .u8 rfl_,.int .u32 ruid,.int .u32 rsz,.slice rA rbn rbc] 53)).setCell ⟨w1.heap.size + 1,0,none⟩ (.int .i64 7)) (w1.heap.size + 1) 198 #[.int .i64 7]:=(he3.alloc _).set_ 0 _
      have ho5:Blk ((W3.alloc (.cells #[.int .i64 rk,.int .u32 rn,.string rt,.int .i64 rst,.string rx,.int .i64 rit,.int .u8 rfl_,.int .u32 ruid,.int .u32 rsz,.slice rA rbn rbc] 53)).setCell ⟨w1.heap.size + 1,0,none⟩ (.int .i64 7)) w1.heap.size 50 #[vo]:=(One.set (One.refl (w1.heap.size + 1) _) 0 _).blk (ho3.alloc _) (by omega)
      have hr5:Own rspE 53 w.heap.size ((W3.alloc (.cells #[.int .i64 rk,.int .u32 rn,.string rt,.int .i64 rst,.string rx,.int .i64 rit,.int .u8 rfl_,.int .u32 ruid,.int .u32 rsz,.slice rA rbn rbc] 53)).setCell ⟨w1.heap.size + 1,0,none⟩ (.int .i64 7)) vo lo:=(HC.out.1.r.alloc _).fr (One.set (One.refl (w1.heap.size + 1) _) 0 _) fun b hb e=>(HC.out.1.r.ne_blk he3 (by decide)) (by rw [hb,e])
      have hb5:Blk ((W3.alloc (.cells #[.int .i64 rk,.int .u32 rn,.string rt,.int .i64 rst,.string rx,.int .i64 rit,.int .u8 rfl_,.int .u32 ruid,.int .u32 rsz,.slice rA rbn rbc] 53)).setCell ⟨w1.heap.size + 1,0,none⟩ (.int .i64 7)) W3.heap.size 53 #[.int .i64 rk,.int .u32 rn,.string rt,.int .i64 rst,.string rx,.int .i64 rit,.int .u8 rfl_,.int .u32 ruid,.int .u32 rsz,.slice rA rbn rbc]:=(One.set (One.refl (w1.heap.size + 1) _) 0 _).blk (Blk.new _ _ _) (by have:=he3.lt; omega)
      obtain ⟨⟨x0,_⟩,⟨x1,_⟩,⟨x2,_⟩,⟨x3,_⟩,⟨x4,_⟩,⟨x5,_⟩,⟨x6,_⟩,⟨x7,_⟩,⟨x8,_⟩,⟨x9,_⟩⟩:=cells10 hb5
      have qo:((W3.alloc (.cells #[.int .i64 rk,.int .u32 rn,.string rt,.int .i64 rst,.string rx,.int .i64 rit,.int .u8 rfl_,.int .u32 ruid,.int .u32 rsz,.slice rA rbn rbc] 53)).setCell ⟨w1.heap.size + 1,0,none⟩ (.int .i64 7)).cell? ⟨w1.heap.size,0,none⟩=some vo:=ho5.cell 0
      have hrd:Rd rspE (((W3.alloc (.cells #[.int .i64 rk,.int .u32 rn,.string rt,.int .i64 rst,.string rx,.int .i64 rit,.int .u8 rfl_,.int .u32 ruid,.int .u32 rsz,.slice rA rbn rbc] 53)).setCell ⟨w1.heap.size + 1,0,none⟩ (.int .i64 7)).alloc (.cells #[.int .i64 rk,.int .u32 rn,.string rt,.int .i64 rst,.string rx,.int .i64 rit,.int .u8 rfl_,.int .u32 ruid,.int .u32 rsz,.slice rA rbn rbc] 53)) (.slice (some ⟨W3.heap.size + 1,0,none⟩) 1 1) [⟨rk,rn,rt,rst,rx,rit,rfl_,ruid,rsz,rA,rbn,rbc⟩]:=by
       have:=rd_oneR (E:=rspE) (x:=⟨rk,rn,rt,rst,rx,rit,rfl_,ruid,rsz,rA,rbn,rbc⟩) (Blk.new ((W3.alloc (.cells #[.int .i64 rk,.int .u32 rn,.string rt,.int .i64 rst,.string rx,.int .i64 rit,.int .u8 rfl_,.int .u32 ruid,.int .u32 rsz,.slice rA rbn rbc] 53)).setCell ⟨w1.heap.size + 1,0,none⟩ (.int .i64 7)) 53 #[.int .i64 rk,.int .u32 rn,.string rt,.int .i64 rst,.string rx,.int .i64 rit,.int .u8 rfl_,.int .u32 ruid,.int .u32 rsz,.slice rA rbn rbc])
       simpa only [World.size_alloc,World.size_setCell] using this
      have hlen:=HC.out.2.2.2.2.2.2
      have hlo:lo.length + 1≤100000:=by omega
      have hsz3:w.heap.size≤(((W3.alloc (.cells #[.int .i64 rk,.int .u32 rn,.string rt,.int .i64 rst,.string rx,.int .i64 rit,.int .u8 rfl_,.int .u32 ruid,.int .u32 rsz,.slice rA rbn rbc] 53)).setCell ⟨w1.heap.size + 1,0,none⟩ (.int .i64 7)).alloc (.cells #[.int .i64 rk,.int .u32 rn,.string rt,.int .i64 rst,.string rx,.int .i64 rit,.int .u8 rfl_,.int .u32 ruid,.int .u32 rsz,.slice rA rbn rbc] 53)).heap.size:=by have:=he3.lt; simp only [World.size_alloc,World.size_setCell]; omega
      have HRD:=Lib.hid (And.intro (hr5.alloc (.cells #[.int .i64 rk,.int .u32 rn,.string rt,.int .i64 rst,.string rx,.int .i64 rit,.int .u8 rfl_,.int .u32 ruid,.int .u32 rsz,.slice rA rbn rbc] 53)) hrd)
      have HF:=Lib.hid (And.intro hf5 (And.intro (ho5.alloc (.cells #[.int .i64 rk,.int .u32 rn,.string rt,.int .i64 rst,.string rx,.int .i64 rit,.int .u8 rfl_,.int .u32 ruid,.int .u32 rsz,.slice rA rbn rbc] 53)) (And.intro (he5.alloc (.cells #[.int .i64 rk,.int .u32 rn,.string rt,.int .i64 rst,.string rx,.int .i64 rit,.int .u8 rfl_,.int .u32 ruid,.int .u32 rsz,.slice rA rbn rbc] 53)) (And.intro ((HC.out.1.r.ne_blk ho3 (by decide))) (HC.out.1.r.ne_blk he3 (by decide))))))
      clear hf5 he5 ho5 hr5 he3 ho3 hb5 hrd
      gi_wp2_with (gi_at_builtin; refine wpListIn_append (E:=rspE) rfl _ _ _ rfl Tryz.underlying50 hi hz0 hz1 hz2 rfl HRD.out.1 rfl HRD.out.2 rfl (Nat.le_trans hlo (by decide)) (Nat.le_trans (Nat.mul_le_mul_right 104 hlo) (by decide)) hsz3 ?_; intro v6 w6 hv6 hf6 hl6; have q6:w6.cell? ⟨w1.heap.size,0,none⟩=some vo:=Fr.cell hf6 (HF.out.2.1.cell 0) HF.out.2.2.2.1; have q7:=(Fr.blk hf6 HF.out.2.1 HF.out.2.2.2.1).froz; obtain ⟨A6,C6,hve,_⟩:=hv6.form; have HV6:=Lib.hid (And.intro hv6 (And.intro hf6 hl6)); clear hv6 hf6 hl6; generalize (lo ++ [_]).length=m at hve; subst hve)
      have hoW:=Fr.blk HV6.out.2.1 HF.out.2.1 HF.out.2.2.2.1
      have heW:=Fr.blk HV6.out.2.1 HF.out.2.2.1 HF.out.2.2.2.2
      have hfW:Fr (fun k=>k=w1.heap.size + 1∨k=w1.heap.size∨vo.ownBlock=some k) W3 (w6.setCell ⟨w1.heap.size,0,none⟩ (.slice A6 m C6)):=(Fr.trans' (HF.out.1.alloc _) HV6.out.2.1 fun _ _ h=>.inr (.inr h)).setCell (p:=⟨w1.heap.size,0,none⟩) (fun _=>.inr (.inl rfl)) _
      obtain ⟨f1,f2,xa,xb,xc,f3,f4,f5⟩:=RunI.fin (B':=w1.heap.size + 1 + 1 + 1 + 1) HC.out (by omega) (by omega) (by omega) HI.out HP.out hfW (hoW.set_ 0 _) ((One.set (One.refl w1.heap.size w6) 0 _).blk heW (by omega)) (HV6.out.1.fr (One.set (One.refl w1.heap.size w6) 0 _) fun b hb e=>HV6.out.1.ne_blk hoW (by decide) (by rw [hb,e])) (fun r hr=>(List.mem_append.1 hr).imp id fun h=>by rw [List.mem_singleton.1 h]; exact HC.out.2.2.2.2.2.1 (by first | rfl | trivial)) (by rw [List.length_append,List.length_append]; simp only [List.length_singleton]; omega) (.inr rfl)
      refine ⟨?_,f2,?_⟩
      · first | exact f1 | simpa only [World.size_alloc] using f1
      · first | exact ⟨xa,xb,xc,f3,f4,f5⟩ | exact ⟨⟨xa,xb,xc,f3⟩,f4,f5⟩
    · have he3:=HC.out.1.e
      have ho3:=HC.out.1.o
      have hf5:Fr (fun k=>k=w1.heap.size + 1∨k=w1.heap.size∨vo.ownBlock=some k) W3 (W3.alloc (.cells #[.int .i64 rk,.int .u32 rn,.string rt,.int .i64 rst,.string rx,.int .i64 rit,.int .u8 rfl_,.int .u32 ruid,.int .u32 rsz,.slice rA rbn rbc] 53)):=(Fr.refl _ W3).alloc _
      have he5:Blk (W3.alloc (.cells #[.int .i64 rk,.int .u32 rn,.string rt,.int .i64 rst,.string rx,.int .i64 rit,.int .u8 rfl_,.int .u32 ruid,.int .u32 rsz,.slice rA rbn rbc] 53)) (w1.heap.size + 1) 198 #[.int .i64 code]:=he3.alloc _
      have ho5:Blk (W3.alloc (.cells #[.int .i64 rk,.int .u32 rn,.string rt,.int .i64 rst,.string rx,.int .i64 rit,.int .u8 rfl_,.int .u32 ruid,.int .u32 rsz,.slice rA rbn rbc] 53)) w1.heap.size 50 #[vo]:=ho3.alloc _
      have hr5:Own rspE 53 w.heap.size (W3.alloc (.cells #[.int .i64 rk,.int .u32 rn,.string rt,.int .i64 rst,.string rx,.int .i64 rit,.int .u8 rfl_,.int .u32 ruid,.int .u32 rsz,.slice rA rbn rbc] 53)) vo lo:=HC.out.1.r.alloc _
      have HF:=Lib.hid (And.intro hf5 (And.intro ho5 (And.intro he5 hr5)))
      clear hf5 he5 ho5 hr5 he3 ho3
      gi_wp2_with fail
      obtain ⟨f1,f2,xa,xb,xc,f3,f4,f5⟩:=RunI.fin (B':=w1.heap.size + 1 + 1 + 1 + 1) HC.out (by omega) (by omega) (by omega) HI.out HP.out HF.out.1 HF.out.2.1 HF.out.2.2.1 HF.out.2.2.2 (fun r hr=>.inl hr) HC.out.1.len (HC.out.1.code)
      refine ⟨?_,f2,?_⟩
      · first | exact f1 | simpa only [World.size_alloc] using f1
      · first | exact ⟨xa,xb,xc,f3,f4,f5⟩ | exact ⟨⟨xa,xb,xc,f3⟩,f4,f5⟩
    · have he3:=HC.out.1.e
      have ho3:=HC.out.1.o
      have hf5:Fr (fun k=>k=w1.heap.size + 1∨k=w1.heap.size∨vo.ownBlock=some k) W3 (W3.alloc (.cells #[.int .i64 rk,.int .u32 rn,.string rt,.int .i64 rst,.string rx,.int .i64 rit,.int .u8 rfl_,.int .u32 ruid,.int .u32 rsz,.slice rA rbn rbc] 53)):=(Fr.refl _ W3).alloc _
      have he5:Blk (W3.alloc (.cells #[.int .i64 rk,.int .u32 rn,.string rt,.int .i64 rst,.string rx,.int .i64 rit,.int .u8 rfl_,.int .u32 ruid,.int .u32 rsz,.slice rA rbn rbc] 53)) (w1.heap.size + 1) 198 #[.int .i64 code]:=he3.alloc _
      have ho5:Blk (W3.alloc (.cells #[.int .i64 rk,.int .u32 rn,.string rt,.int .i64 rst,.string rx,.int .i64 rit,.int .u8 rfl_,.int .u32 ruid,.int .u32 rsz,.slice rA rbn rbc] 53)) w1.heap.size 50 #[vo]:=ho3.alloc _
      have hr5:Own rspE 53 w.heap.size (W3.alloc (.cells #[.int .i64 rk,.int .u32 rn,.string rt,.int .i64 rst,.string rx,.int .i64 rit,.int .u8 rfl_,.int .u32 ruid,.int .u32 rsz,.slice rA rbn rbc] 53)) vo lo:=HC.out.1.r.alloc _
      have hb5:Blk (W3.alloc (.cells #[.int .i64 rk,.int .u32 rn,.string rt,.int .i64 rst,.string rx,.int .i64 rit,.int .u8 rfl_,.int .u32 ruid,.int .u32 rsz,.slice rA rbn rbc] 53)) W3.heap.size 53 #[.int .i64 rk,.int .u32 rn,.string rt,.int .i64 rst,.string rx,.int .i64 rit,.int .u8 rfl_,.int .u32 ruid,.int .u32 rsz,.slice rA rbn rbc]:=Blk.new _ _ _
      obtain ⟨⟨x0,_⟩,⟨x1,_⟩,⟨x2,_⟩,⟨x3,_⟩,⟨x4,_⟩,⟨x5,_⟩,⟨x6,_⟩,⟨x7,_⟩,⟨x8,_⟩,⟨x9,_⟩⟩:=cells10 hb5
      have qo:(W3.alloc (.cells #[.int .i64 rk,.int .u32 rn,.string rt,.int .i64 rst,.string rx,.int .i64 rit,.int .u8 rfl_,.int .u32 ruid,.int .u32 rsz,.slice rA rbn rbc] 53)).cell? ⟨w1.heap.size,0,none⟩=some vo:=ho5.cell 0
      have hrd:Rd rspE ((W3.alloc (.cells #[.int .i64 rk,.int .u32 rn,.string rt,.int .i64 rst,.string rx,.int .i64 rit,.int .u8 rfl_,.int .u32 ruid,.int .u32 rsz,.slice rA rbn rbc] 53)).alloc (.cells #[.int .i64 rk,.int .u32 rn,.string rt,.int .i64 rst,.string rx,.int .i64 rit,.int .u8 rfl_,.int .u32 ruid,.int .u32 rsz,.slice rA rbn rbc] 53)) (.slice (some ⟨W3.heap.size + 1,0,none⟩) 1 1) [⟨rk,rn,rt,rst,rx,rit,rfl_,ruid,rsz,rA,rbn,rbc⟩]:=by
       have:=rd_oneR (E:=rspE) (x:=⟨rk,rn,rt,rst,rx,rit,rfl_,ruid,rsz,rA,rbn,rbc⟩) (Blk.new (W3.alloc (.cells #[.int .i64 rk,.int .u32 rn,.string rt,.int .i64 rst,.string rx,.int .i64 rit,.int .u8 rfl_,.int .u32 ruid,.int .u32 rsz,.slice rA rbn rbc] 53)) 53 #[.int .i64 rk,.int .u32 rn,.string rt,.int .i64 rst,.string rx,.int .i64 rit,.int .u8 rfl_,.int .u32 ruid,.int .u32 rsz,.slice rA rbn rbc])
       simpa only [World.size_alloc,World.size_setCell] using this
      have hlen:=HC.out.2.2.2.2.2.2
      have hlo:lo.length + 1≤100000:=by omega
      have hsz3:w.heap.size≤((W3.alloc (.cells #[.int .i64 rk,.int .u32 rn,.string rt,.int .i64 rst,.string rx,.int .i64 rit,.int .u8 rfl_,.int .u32 ruid,.int .u32 rsz,.slice rA rbn rbc] 53)).alloc (.cells #[.int .i64 rk,.int .u32 rn,.string rt,.int .i64 rst,.string rx,.int .i64 rit,.int .u8 rfl_,.int .u32 ruid,.int .u32 rsz,.slice rA rbn rbc] 53)).heap.size:=by have:=he3.lt; simp only [World.size_alloc]; omega
      have HRD:=Lib.hid (And.intro (hr5.alloc (.cells #[.int .i64 rk,.int .u32 rn,.string rt,.int .i64 rst,.string rx,.int .i64 rit,.int .u8 rfl_,.int .u32 ruid,.int .u32 rsz,.slice rA rbn rbc] 53)) hrd)
      have HF:=Lib.hid (And.intro hf5 (And.intro (ho5.alloc (.cells #[.int .i64 rk,.int .u32 rn,.string rt,.int .i64 rst,.string rx,.int .i64 rit,.int .u8 rfl_,.int .u32 ruid,.int .u32 rsz,.slice rA rbn rbc] 53)) (And.intro (he5.alloc (.cells #[.int .i64 rk,.int .u32 rn,.string rt,.int .i64 rst,.string rx,.int .i64 rit,.int .u8 rfl_,.int .u32 ruid,.int .u32 rsz,.slice rA rbn rbc] 53)) (And.intro ((HC.out.1.r.ne_blk ho3 (by decide))) (HC.out.1.r.ne_blk he3 (by decide))))))
      clear hf5 he5 ho5 hr5 he3 ho3 hb5 hrd
      gi_wp2_with (gi_at_builtin; refine wpListIn_append (E:=rspE) rfl _ _ _ rfl Tryz.underlying50 hi hz0 hz1 hz2 rfl HRD.out.1 rfl HRD.out.2 rfl (Nat.le_trans hlo (by decide)) (Nat.le_trans (Nat.mul_le_mul_right 104 hlo) (by decide)) hsz3 ?_; intro v6 w6 hv6 hf6 hl6; have q6:w6.cell? ⟨w1.heap.size,0,none⟩=some vo:=Fr.cell hf6 (HF.out.2.1.cell 0) HF.out.2.2.2.1; have q7:=(Fr.blk hf6 HF.out.2.1 HF.out.2.2.2.1).froz; obtain ⟨A6,C6,hve,_⟩:=hv6.form; have HV6:=Lib.hid (And.intro hv6 (And.intro hf6 hl6)); clear hv6 hf6 hl6; generalize (lo ++ [_]).length=m at hve; subst hve)
      have hoW:=Fr.blk HV6.out.2.1 HF.out.2.1 HF.out.2.2.2.1
      have heW:=Fr.blk HV6.out.2.1 HF.out.2.2.1 HF.out.2.2.2.2
      have hfW:Fr (fun k=>k=w1.heap.size + 1∨k=w1.heap.size∨vo.ownBlock=some k) W3 (w6.setCell ⟨w1.heap.size,0,none⟩ (.slice A6 m C6)):=(Fr.trans' (HF.out.1.alloc _) HV6.out.2.1 fun _ _ h=>.inr (.inr h)).setCell (p:=⟨w1.heap.size,0,none⟩) (fun _=>.inr (.inl rfl)) _
      obtain ⟨f1,f2,xa,xb,xc,f3,f4,f5⟩:=RunI.fin (B':=w1.heap.size + 1 + 1 + 1 + 1) HC.out (by omega) (by omega) (by omega) HI.out HP.out hfW (hoW.set_ 0 _) ((One.set (One.refl w1.heap.size w6) 0 _).blk heW (by omega)) (HV6.out.1.fr (One.set (One.refl w1.heap.size w6) 0 _) fun b hb e=>HV6.out.1.ne_blk hoW (by decide) (by rw [hb,e])) (fun r hr=>(List.mem_append.1 hr).imp id fun h=>by rw [List.mem_singleton.1 h]; exact HC.out.2.2.2.2.2.1 (by first | rfl | trivial)) (by rw [List.length_append,List.length_append]; simp only [List.length_singleton]; omega) (HC.out.1.code)
      refine ⟨?_,f2,?_⟩
      · first | exact f1 | simpa only [World.size_alloc] using f1
      · first | exact ⟨xa,xb,xc,f3,f4,f5⟩ | exact ⟨⟨xa,xb,xc,f3⟩,f4,f5⟩
   case done =>
    rintro D ys W hD hS ⟨vo,lo,code,hr,hb,hvx⟩ hK
    have q0:W.cell? ⟨w1.heap.size,0,none⟩=some vo:=hr.o.cell 0
    have q1:W.cell? ⟨w1.heap.size + 1,0,none⟩=some (.int .i64 code):=hr.e.cell 0
    gi_wp2_with fail
    gi_region
    gi_wp2
    have t:Turn w.heap.size W.drew (W.drew.putObj D (.deferred none)):=⟨some D,grownBy_putObj' W.drew D _,fun r e=>by cases e; exact ⟨by simp at hD; omega,_,hK,rfl⟩⟩
    have h2:=(hr.drew HI.out HP.out).turn HI.out HP.out t (Nat.le_refl _)
    have hyl:ys.length=N.length:=by rw [← hS,List.length_map]
    refine ⟨by simp,.inl ⟨_,_,rfl,run_takeDeferred hK,?_⟩⟩
    exact ⟨_,results_tmp2 rfl _ _ _,vo,lo,code,rfl,h2.r,h2.p,by have:=h2.len; omega,h2.code.imp id .inr,ys,by omega,h2.i⟩
   case stop =>
    rintro D c pre W _ _ h _
    exact h.elim
end Go.Proofs.YtliimglbbiebiaaGreatDoor
end

section
namespace Go.Proofs.YtliimglbbiebiaaGreatDoor
open Go.RowKit
end Go.Proofs.YtliimglbbiebiaaGreatDoor
end

section
namespace Go.Proofs.YtliimglbbiebiaaGreatDoor
open Go.RowKit Go.Maps
structure Stp (w w':World) (S:Sx) (Q:Qs) (S':Sx) (Q':Qs):Prop where
 fr:Fr (S.foot Q) w w'
 gr:∀ k,S'.foot Q' k→S.foot Q k∨w.heap.size≤k
 s:S'.s=S.s
 cap:S'.cap=S.cap
section
variable {w0 w w' w'':World} {base:Nat} {S S' S'':Sx} {Q Q' Q'':Qs} {M:List Msg} {n t f:Int}
theorem Stp.new (h:New w w'):Stp w w' S Q S Q:=⟨New.to h,fun _ h=>.inl h,rfl,rfl⟩
theorem Stp.trans (h:Stp w w' S Q S' Q') (k:Stp w' w'' S' Q' S'' Q''):Stp w w'' S Q S'' Q'' :=
 ⟨Fr.trans' h.fr k.fr fun i hi hs=>by rcases h.gr i hs with h1 | h1; exact h1; omega,fun i hi=>by
   rcases k.gr i hi with h1 | h1
   · exact h.gr i h1
   · exact .inr (Nat.le_trans h.fr.size h1),k.s.trans h.s,k.cap.trans h.cap⟩
theorem Stp.far (h:Stp w w' S Q S' Q') {g:Nat} (hg:g < w.heap.size) (hf:¬ S.foot Q g):¬ S'.foot Q' g:=fun hs=>by
 rcases h.gr g hs with h1 | h1
 · exact hf h1
 · omega
theorem results_cell_tmp {P:Program} {fn:Func} {p q:Tmp} {t:TypeId} (h:fn.results=#[.cell p t,.tmp q]) (tmps:Array Value) (w:World) {a:Addr} {v v':Value}
 (hp:tmps[p]? = some (.pointer (some a))) (hq:tmps[q]? = some v') (hv:(loadVar t a).run P w=.ok v w):(results fn tmps).run P w=.ok (.tuple #[v,v']) w:=by
 simp [results,h,hp,hq,asAddr,hv]
theorem STX.turnT (h:STX w0 base w S Q M n t f) {M':List Msg} (he:M'.map Msg.uid=M.map Msg.uid) (ht:∃ X:List MB,X.map MB.m=M'∧TBX base w' S.T X) (hf:Fr S.T.foot w w'):STX w0 base w' S Q M' n t f:=by
 have hl:M'.length=M.length:=by have:=congrArg List.length he; simpa using this
 refine h.turn (u':=S.u) hf (fun k hk=>.inl hk) ht (hf.blk h.ctr h.ac) (by rw [he]; exact h.idx.fr hf h.ax h.au) (.inl rfl) (by rw [hl]; exact h.len) (by rw [he]; exact h.asc) (fun m hm=>?_) h.n1 h.t1
 have h1:m.uid ∈ M'.map Msg.uid:=List.mem_map.2 ⟨m,hm,rfl⟩
 rw [he] at h1
 obtain ⟨m',hm',h2⟩:=List.mem_map.1 h1
 rw [← h2]
 exact h.below m' hm'
theorem STX.stpT (hf:Fr S.T.foot w w'):Stp w w' S Q S Q:=⟨fr_or hf fun _ hk=>.inl hk,fun _ h=>.inl h,rfl,rfl⟩
theorem findX_M {X:List MB} (k:Int):(findM (X.map MB.m) k).isSome=(findX X k).isSome∧(findM (X.map MB.m) k).getD msg0=((findX X k).getD mb0).m:=by
 rw [findX_map]
 cases findX X k <;> exact ⟨rfl,rfl⟩
theorem sget_x (h:STX w0 base w S Q M n t f) {X:List MB} (hXm:X.map MB.m=M) (hX0:TBX base w S.T X) (k:Int) (hk0:0≤k) (hk1:k≤4294967295) :
 Calls Tryz.prog 141 #[.pointer (some ⟨S.s,0,none⟩),.int .u32 k] w fun e w'=>∃ y:MB,e=.returned (.tuple #[y.val,.bool (findM M k).isSome])∧y.m=(findM M k).getD msg0∧Own (intE .u8) 5 w.heap.size w' y.bv y.m.body∧STX w0 base w' S Q M n t f∧Stp w w' S Q S Q∧TBX base w' S.T X:=by
 have hna:New w (w.alloc (.cells #[.int .u32 0,.int .u8 0,.slice none 0 0] 238)):=(New.refl w).alloc _
 have h1:=h.more hna
 have hX:=hX0.new hna
 have e0:w.cell? ⟨S.s,0,none⟩=some (.pointer (some ⟨S.T.tb,0,none⟩)):=h.hd.cell 0
 have hsl:=h.hd.lt
 have htg:=tget_any hX k hk0 hk1
 have hfx:=findX_M (X:=X) k
 rw [hXm] at hfx
 rw [← hfx.1,← hfx.2] at htg
 obtain ⟨q,hq⟩:∃ q,(findM M k).isSome=q:=⟨_,rfl⟩
 obtain ⟨fm,hfm⟩:∃ fm,(findM M k).getD msg0=fm:=⟨_,rfl⟩
 rw [hq,hfm] at htg ⊢
 have hb0:Blk (w.alloc (.cells #[.int .u32 0,.int .u8 0,.slice none 0 0] 238)) w.heap.size 238 #[.int .u32 0,.int .u8 0,.slice none 0 0]:=Blk.new _ _ _
 have hhi:=h.hi
 have hbb:=h.hb
 have HTG:=Lib.hid htg
 have H1:=Lib.hid h1
 have H:=Lib.hid h
 have HX:=Lib.hid hXm
 clear htg h1 h hX hX0 hXm hfx hq hfm
 go_enter Tryz.func141,Tryz.ntmps141
 go_wp2_with fail
 refine HTG.out.mono ?_
 rintro e w2 ⟨⟨⟨yu,yf,yb⟩,yA,yn,yc⟩,rfl,hym,hyo,hT2,hf2⟩
 simp only [MB.val,MB.bv] at hyo ⊢
 have hs2:=H1.out.turnT rfl ⟨X,HX.out,hT2⟩ hf2
 have hb2:=hf2.blk hb0 (fun hk=>by have:=hk.2; omega)
 have p0:=hb2.cell 0
 have p1:=hb2.cell 1
 have p2:=hb2.cell 2
 have z0:=hb2.frozen 0
 have z1:=hb2.frozen 1
 have z2:=hb2.frozen 2
 have HS2:=Lib.hid hs2
 have HT2:=Lib.hid hT2
 have HF2:=Lib.hid hf2
 have HYO:=Lib.hid hyo
 have HYM:=Lib.hid hym
 clear hs2 hf2 hyo hym hT2
 go_wp2
 have hF:Fr (fun k=>k=w.heap.size) w2 (((w2.setCell ⟨w.heap.size,0,none⟩ (.int .u32 yu)).setCell ⟨w.heap.size,1,none⟩ (.int .u8 yf)).setCell ⟨w.heap.size,2,none⟩ (.slice yA yn yc)) :=
  (((Fr.refl (fun k=>k=w.heap.size) w2).setCell (p:=⟨w.heap.size,0,none⟩) (fun _=>rfl) _).setCell (p:=⟨w.heap.size,1,none⟩) (fun _=>rfl) _).setCell (p:=⟨w.heap.size,2,none⟩) (fun _=>rfl) _
 have b3:Blk (((w2.setCell ⟨w.heap.size,0,none⟩ (.int .u32 yu)).setCell ⟨w.heap.size,1,none⟩ (.int .u8 yf)).setCell ⟨w.heap.size,2,none⟩ (.slice yA yn yc)) w.heap.size 238 #[.int .u32 yu,.int .u8 yf,.slice yA yn yc]:=((hb2.set_ 0 _).set_ 1 _).set_ 2 _
 refine bodyPost_ret (results_cell_tmp rfl _ _ rfl rfl (loadMsg b3)) rfl ?_
 refine ⟨⟨⟨yu,yf,yb⟩,yA,yn,yc⟩,rfl,HYM.out,(HYO.out.fr hF fun b hb hs=>?_).mono (by simp),HS2.out.keep hF (fun k hk e=>?_) (fun v l hv b hb e=>?_) (fun k e=>by subst e; exact H.out.new.size),⟨?_,fun _ h=>.inl h,rfl,rfl⟩,HT2.out.fr hF (fun k e hft=>?_) (fun v l hv b hb e=>?_)⟩
 · have:=(HYO.out.block hb).1
   simp at this
   omega
 · have:=H.out.foot_lt hk
   omega
 · obtain ⟨cs,h9⟩:=hv.heap hb
   subst e
   exact h9.ne_ hb2 (by decide) rfl
 · exact Fr.trans' (Fr.trans (New.to hna) (fr_or HF2.out fun k hk=>Or.inl hk)) hF fun k hk e=>by omega
 · subst e
   have:=hft.2
   omega
 · obtain ⟨cs,h9⟩:=hv.heap hb
   subst e
   exact h9.ne_ hb2 (by decide) rfl
theorem sget_any (h:STX w0 base w S Q M n t f) (k:Int) (hk0:0≤k) (hk1:k≤4294967295) :
 Calls Tryz.prog 141 #[.pointer (some ⟨S.s,0,none⟩),.int .u32 k] w fun e w'=>∃ y:MB,e=.returned (.tuple #[y.val,.bool (findM M k).isSome])∧y.m=(findM M k).getD msg0∧Own (intE .u8) 5 w.heap.size w' y.bv y.m.body∧STX w0 base w' S Q M n t f∧Stp w w' S Q S Q:=by
 obtain ⟨X,hXm,hX⟩:=h.tbl
 exact (sget_x h hXm hX k hk0 hk1).mono fun e w' ⟨y,h1,h2,h3,h4,h5,_⟩=>⟨y,h1,h2,h3,h4,h5⟩
end
end Go.Proofs.YtliimglbbiebiaaGreatDoor
end

section
namespace Go.Proofs.YtliimglbbiebiaaGreatDoor
open Go.RowKit Go.Maps
section
variable {w0 w w' w'':World} {base:Nat} {S S' S'':Sx} {Q Q' Q'':Qs} {M:List Msg} {n t f:Int}
theorem told_gr {p:Int→Bool} {ev:Ev} {v':Int→Value} (hst:∀ i ∈ Q.ids,Stays w (Q.v i) (v' i)):∀ k,S.foot (Q.told p ev v') k→S.foot Q k∨w.heap.size≤k:=by
 rintro k (hk | hk | hk | hk | hk | hk | ⟨i,hi,hk⟩)
 · exact .inl (.inl hk)
 · exact .inl (.inr (.inl hk))
 · exact .inl (.inr (.inr (.inl hk)))
 · exact .inl (.inr (.inr (.inr (.inl hk))))
 · exact .inl (.inr (.inr (.inr (.inr (.inl hk)))))
 · exact .inl (.inr (.inr (.inr (.inr (.inr (.inl hk))))))
 · have hi:i ∈ Q.ids:=hi
   rcases hk with hk | hk
   · exact .inl (.inr (.inr (.inr (.inr (.inr (.inr ⟨i,hi,.inl hk⟩))))))
   · have hk:(v' i).ownBlock=some k:=hk
     rcases hst i hi with h1 | ⟨b,h1,h2⟩
     · exact .inl (.inr (.inr (.inr (.inr (.inr (.inr ⟨i,hi,.inr (h1 ▸ hk)⟩))))))
     · rw [h1] at hk
       cases hk
       exact .inr h2
theorem told_stp {p:Int→Bool} {ev:Ev} {v':Int→Value} (hf:Fr Q.foot w w') (hst:∀ i ∈ Q.ids,Stays w (Q.v i) (v' i)):Stp w w' S Q S (Q.told p ev v') :=
 ⟨fr_or hf fun _ hk=>.inr (.inr (.inr (.inr (.inr (.inr hk))))),told_gr hst,rfl,rfl⟩
theorem flM_uid (M:List Msg) (k mode fl:Int):(flM M k mode fl).map Msg.uid=M.map Msg.uid:=by
 unfold flM
 split
 · exact setF_uid _ _ _
 · rfl
def chEv (M:List Msg) (by_ k mode fl:Int) (i:Int):List Ev :=
 if flC M k mode fl=0∧flX M k mode fl≠((findM M k).getD msg0).fl∧i≠by_ then [⟨3,k,flX M k mode fl⟩] else []
theorem flX_ok {M:List Msg} {k mode fl:Int} (h0:0≤fl):0≤flX M k mode fl∧flX M k mode fl≤31:=by
 unfold flX
 split
 · omega
 · rename_i m hm
   cases hc:chg m.fl mode fl with
   | none=>simp
   | some z=>exact chg_ok hc h0
theorem getD_fl (h:STX w0 base w S Q M n t f) (k:Int):0≤((findM M k).getD msg0).fl∧((findM M k).getD msg0).fl≤31:=by
 cases hf:findM M k with
 | none=>simp [msg0]
 | some m=>exact (h.ok m (findM_mem hf).1).1.2
theorem schange_any (h:STX w0 base w S Q M n t f) (hQ:∀ i ∈ Q.ids,(Q.l i).length≤100000000) (by_ k mode fl:Int) (hk0:0≤k) (hk1:k≤4294967295) (hf:0≤fl∧fl≤255) (hm:(Lit.int .i64 mode).wf=true) :
 Calls Tryz.prog 143 #[.pointer (some ⟨S.s,0,none⟩),.int .i64 by_,.int .u32 k,.int .i64 mode,.int .u8 fl] w fun e w'=>e=.returned (.tuple #[.int .u8 (flX M k mode fl),.int .i64 (flC M k mode fl)]) ∧
  ∃ Q',STX w0 base w' S Q' (flM M k mode fl) n t f∧Stp w w' S Q S Q'∧Q'.ids=Q.ids∧∀ i,Q'.l i=Q.l i ++ chEv M by_ k mode fl i:=by
 have hmf:∀ (fn:Fn) (first cap:Array Value) (w:World),(Instr.makeFunc fn first cap).run Tryz.prog w=.ok (.func fn first cap) w:=fun _ _ _ _=>rfl
 have hE:=Lib.hid (enters _ _ _ Tryz.func197 (by kernel_rfl) rfl)
 have hbx:Blk (w.alloc (.cells #[.int .i64 by_] 3)) w.heap.size 3 #[.int .i64 by_]:=Blk.new _ _ _
 have hna:New w (w.alloc (.cells #[.int .i64 by_] 3)):=(New.refl w).alloc _
 have h1:=h.more hna
 have hwb:=h.hb
 have hwh:=h.hi
 have hold:=getD_fl h k
 have hxo:=flX_ok (M:=M) (k:=k) (mode:=mode) hf.1
 have hmu:=flM_uid M k mode fl
 obtain ⟨fx,hfx⟩:∃ fx,flX M k mode fl=fx:=⟨_,rfl⟩
 obtain ⟨fc,hfc⟩:∃ fc,flC M k mode fl=fc:=⟨_,rfl⟩
 obtain ⟨fM,hfM⟩:∃ fM,flM M k mode fl=fM:=⟨_,rfl⟩
 obtain ⟨om,hom⟩:∃ om,(findM M k).getD msg0=om:=⟨_,rfl⟩
 have hml:=h.mlen
 have HCE:Hid (∀ i,chEv M by_ k mode fl i=if fc=0∧fx≠om.fl∧i≠by_ then [⟨3,k,fx⟩] else []):=Lib.hid (fun i=>by unfold chEv; rw [hfx,hfc,hom])
 have HTF:=Lib.hid (fun (wz:World) (X:List MB) (hXm:X.map MB.m=M) (hX:TBX base wz S.T X)=>by
  have h2:=tflags_any hX (by rw [← hXm,List.length_map] at hml; omega) k mode fl hk0 hk1 hf hm
  rw [hXm,hfx,hfc,hfM] at h2
  exact h2)
 have HSG:=Lib.hid (fun (wz:World) (hz:STX w0 base wz S Q M n t f)=>by
  have h2:=sget_any hz k hk0 hk1
  rw [hom] at h2
  exact h2)
 rw [hfx,hfc,hfM]
 rw [hom] at hold
 rw [hfx] at hxo
 rw [hfM] at hmu
 have HMU:=Lib.hid hmu
 have H1:=Lib.hid h1
 have HQ:=Lib.hid hQ
 clear h h1 hfx hfc hfM hom hmu hQ
 go_enter Tryz.func143,Tryz.ntmps143
 go_wp2_with fail
 refine (HSG.out _ H1.out).mono ?_
 rintro e w2 ⟨⟨⟨yu,yf,yb⟩,yA,yn,yc⟩,rfl,hym,hyo,hS2,hp2⟩
 simp only [MB.val]
 have hs2:=hp2.fr.size
 simp only [World.size_alloc] at hs2
 have hbx2:=hp2.fr.blk hbx (fun hk=>by have:=H1.out.foot_lt hk; exact H1.out.not_foot hbx (by omega) (by decide) (by decide) (by decide) (by decide) (by decide) (by decide) hk)
 have hyf:yf=om.fl:=congrArg Msg.fl hym
 have hn3:New w2 (w2.alloc (.cells #[.int .u32 yu,.int .u8 yf,.slice yA yn yc] 238)):=(New.refl w2).alloc _
 have hS3:=hS2.more hn3
 obtain ⟨X,hXm,hX⟩:=hS3.tbl
 have e0:w2.cell? ⟨S.s,0,none⟩=some (.pointer (some ⟨S.T.tb,0,none⟩)):=hS2.hd.cell 0
 have hsl2:=hS2.hd.lt
 have bm3:Blk (w2.alloc (.cells #[.int .u32 yu,.int .u8 yf,.slice yA yn yc] 238)) w2.heap.size 238 #[.int .u32 yu,.int .u8 yf,.slice yA yn yc]:=Blk.new _ _ _
 have HT:=Lib.hid (HTF.out _ X hXm hX)
 have HS3:=Lib.hid hS3
 have HX3:=Lib.hid hXm
 have HN3:=Lib.hid hn3
 have HP2:=Lib.hid hp2
 have hbx3:=hn3.blk hbx2
 have hwb2:=hS2.hb
 clear hym hyo hS2 hp2 hbx2 hn3 hS3 hXm hX
 subst hyf
 go_wp2_with fail
 refine HT.out.mono ?_
 rintro e w4 ⟨rfl,X',hX',hXl',hT4,hf4⟩
 have hS4:=HS3.out.turnT HMU.out ⟨X',hX',hT4⟩ hf4
 have hsz4:=hf4.size
 simp only [World.size_alloc] at hsz4
 have bm4:=hf4.blk bm3 (fun hk=>by have:=hk.2; omega)
 have hbx4:=hf4.blk hbx3 (fun hk=>by have:=hk.2; omega)
 have q1:w4.cell? ⟨w2.heap.size,1,none⟩=some (.int .u8 om.fl):=bm4.cell 1
 have HP4:=Lib.hid ((((Stp.new hna).trans HP2.out).trans (Stp.new HN3.out)).trans (STX.stpT (S:=S) (Q:=Q) hf4))
 have HS4:=Lib.hid hS4
 have HBX4:=Lib.hid hbx4
 clear hX' hXl' hT4 hf4 hS4 bm3 bm4 hbx3 hbx4
 by_cases hc:fc=0
 · by_cases hd:fx=om.fl
   · have hcb:(fc == 0)=true:=by simp [hc]
     have hdb:(fx != om.fl)=false:=by simp [hd]
     have hce:∀ i,chEv M by_ k mode fl i=[]:=fun i=>by rw [HCE.out,if_neg (fun h=>h.2.1 hd)]
     have HCE2:=Lib.hid hce
     clear hc hd hce HCE
     go_wp2
     go_ret2
     exact ⟨rfl,Q,HS4.out,HP4.out,rfl,fun i=>by rw [HCE2.out,List.append_nil]⟩
   · have hcb:(fc == 0)=true:=by simp [hc]
     have hdb:(fx != om.fl)=true:=by simp [hd]
     have hce:∀ i,chEv M by_ k mode fl i=if i≠by_ then [⟨3,k,fx⟩] else []:=fun i=>by
      rw [HCE.out]
      by_cases hi:i≠by_
      · rw [if_pos ⟨hc,hd,hi⟩,if_pos hi]
      · rw [if_neg (fun h=>hi h.2.2),if_neg hi]
     have HCE2:=Lib.hid hce
     clear hc hd hce HCE
     have hwf:(⟨3,k,fx⟩:Ev).wf:=⟨(by decide:(Lit.int .i64 3).wf=true),okU hk0 hk1,(by
      show (Lit.int .u8 fx).wf=true
      have h2:IntKind.u8.min≤fx:=by rw [show IntKind.u8.min=0 from rfl]; exact hxo.1
      have h3:fx≤IntKind.u8.max:=by rw [show IntKind.u8.max=255 from rfl]; omega
      simp [Lit.wf,h2,h3])⟩
     have hte:=tell_any HS4.out.hd HS4.out.qx HQ.out ⟨3,k,fx⟩ hwf (by simp) 197 #[.pointer (some ⟨w.heap.size,0,none⟩)] (fun i=>i != by_) hE.out (fun W i hF=>change1_any i by_ w.heap.size W (hF.blk HBX4.out (HS4.out.qx.ne HBX4.out (by decide) (by decide)) |>.cell 0))
     simp only [Ev.val] at hte
     have HTE:=Lib.hid hte
     clear hte hwf
     go_wp2_with fail
     refine HTE.out.mono ?_
     rintro e w5 ⟨rfl,v',hq5,hf5,hv5⟩
     have HS5:=Lib.hid (HS4.out.told hq5 hf5 hv5)
     have HP5:=Lib.hid (HP4.out.trans (told_stp (p:=fun i=>i != by_) (ev:=⟨3,k,fx⟩) hf5 hv5))
     clear hq5 hf5 hv5
     go_wp2
     go_ret2
     refine ⟨rfl,_,HS5.out,HP5.out,rfl,fun i=>?_⟩
     rw [HCE2.out]
     show toldL (fun i=>i != by_) ⟨3,k,fx⟩ Q i=_
     unfold toldL
     by_cases hi:i=by_
     · simp [hi]
     · simp [hi]
 · have hcb:(fc == 0)=false:=by simp [hc]
   have hce:∀ i,chEv M by_ k mode fl i=[]:=fun i=>by rw [HCE.out,if_neg (fun h=>hc h.1)]
   have HCE2:=Lib.hid hce
   clear hc hce HCE
   go_wp2
   go_ret2
   exact ⟨rfl,Q,HS4.out,HP4.out,rfl,fun i=>by rw [HCE2.out,List.append_nil]⟩
theorem remM_uid (M:List Msg) (k:Int):(remM M k).map Msg.uid=(M.map Msg.uid).filter fun y=>y != k:=by
 unfold remM
 rw [List.filter_map]
 congr 1
 refine List.filter_congr fun m _=>?_
 simp only [Function.comp,bne]
 cases hq:(m.uid == k)
 · simpa using hq
 · simpa using hq
theorem sdrop_any (h:STX w0 base w S Q M n t f) (k:Int) (hk0:0≤k) (hk1:k≤4294967295) :
 Calls Tryz.prog 139 #[.pointer (some ⟨S.s,0,none⟩),.int .u32 k] w fun e w'=>e=.returned (.tuple #[])∧∃ u',STX w0 base w' { S with u:=u' } Q (remM M k) n t f∧Stp w w' S Q { S with u:=u' } Q:=by
 have e0:w.cell? ⟨S.s,0,none⟩=some (.pointer (some ⟨S.T.tb,0,none⟩)):=h.hd.cell 0
 obtain ⟨X,hXm,hX⟩:=h.tbl
 have hml:=h.mlen
 have HRM:=Lib.hid (tremove_any hX h.hi k hk0 hk1)
 have H:=Lib.hid h
 have HX:=Lib.hid hXm
 obtain ⟨mb,hmb⟩:∃ mb,(findX X k).getD mb0=mb:=⟨_,rfl⟩
 rw [hmb] at HRM
 obtain ⟨⟨mu,mf,mbd⟩,mA,mn,mc⟩:=mb
 simp only [MB.val,MB.bv] at HRM
 clear h hX hXm hmb
 go_enter Tryz.func139,Tryz.ntmps139
 go_wp2_with fail
 refine HRM.out.mono ?_
 rintro e w2 ⟨rfl,_,hT2,hf2⟩
 have hd2:=hf2.blk H.out.hd H.out.as_
 have e2:w2.cell? ⟨S.s,2,none⟩=some (.pointer (some ⟨S.x,0,none⟩)):=hd2.cell 2
 have hi2:=H.out.idx.fr hf2 H.out.ax H.out.au
 have hs2:=hf2.size
 have HIR:=Lib.hid (irm_any hi2 (by rw [List.length_map]; omega) k)
 have HT2:=Lib.hid hT2
 have HF2:=Lib.hid hf2
 have HI2:=Lib.hid hi2
 clear hd2 hi2 hT2 hf2
 go_wp2_with fail
 refine HIR.out.mono ?_
 rintro e w3 ⟨j,u',rfl,hj,hi3,hf3,hst⟩
 rw [rmOf_eq H.out.asc hj] at hi3
 have HI3:=Lib.hid hi3
 have HF3:=Lib.hid hf3
 have HST:=Lib.hid (Stays.mono hst hs2)
 clear hi3 hf3 hst hj
 go_wp2
 go_end0
 have hF:Fr S.mfoot w w3:=Fr.trans (fr_or HF2.out fun k hk=>.inl hk) (fr_or HF3.out fun k hk=>by rcases hk with hk | hk; exact .inr (.inr (.inl hk)); exact .inr (.inr (.inr hk)))
 refine ⟨rfl,u',H.out.turn hF (fun k hk=>hk) ⟨remX X k,by rw [remX_map,HX.out],HT2.out.fr HF3.out (fun k hk=>?_) fun v l hv b hb hk=>?_⟩ ?_ (by rw [remM_uid]; exact HI3.out) HST.out ?_ ?_ ?_ H.out.n1 H.out.t1,fr_or hF fun k hk=>Sx.mfoot_foot hk,fun k hk=>Sx.foot_upd hk HST.out,rfl,rfl⟩
 · rcases hk with hk | hk
   · subst hk; exact H.out.ax
   · exact H.out.au k hk
 · obtain ⟨cs,h9⟩:=hv.heap hb
   rcases hk with hk | hk
   · exact h9.ne_ HI2.out.1 (by decide) hk
   · obtain ⟨cs',h10⟩:=HI2.out.2.1.heap hk
     exact h9.ne_ h10 (by decide) rfl
 · exact HF3.out.blk (HF2.out.blk H.out.ctr H.out.ac) fun hk=>by
    rcases hk with hk | hk
    · exact H.out.c_ne.1 hk
    · exact H.out.c_ne.2.1 _ hk rfl
 · have h1:(remM M k).length≤M.length:=List.length_filter_le _ _
   have h2:=H.out.len
   omega
 · rw [remM_uid]; exact H.out.asc.filter _
 · intro m hm
   exact H.out.below m (List.mem_filter.1 hm).1
end
end Go.Proofs.YtliimglbbiebiaaGreatDoor
end

