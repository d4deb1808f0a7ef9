/- A part of the proof: Idx2, Search, Find, Asc, IterU, CollectU, CompactP, CompactU, Idx, AscP. -/
import Derived.Test.YtliimglbbiebiaaGreatDoorGTopPairsAG
import Derived.Test.YtliimglbbiebiaaGreatDoorRows
import Derived.Test.YtliimglbbiebiaaGreatDoorGTopPairsAA
import Derived.WalkKit
import Derived.WalkSpells
import Derived.WalkLawsBesides
import Derived.Deep.QuietTactic
import Derived.BigQuiet
import Derived.Lib.Hide
import Derived.Shelf.Abstract
import Derived.RangeFuncNested
import Derived.RangeFuncBound
import Derived.RangeFuncCalls
import Derived.RangeFuncLeaves
import Derived.Shelf.RegionOpen
import Derived.OwnWalkIn
import Derived.TacticsInMore
import Derived.LoopNIn
import Derived.LoopIn
import Derived.Maps.AppendAt
set_option maxRecDepth 100000
set_option maxHeartbeats 6400000
section
namespace Go.Proofs.YtliimglbbiebiaaGreatDoor
open Go.RowKit
def IdxAt (base:Nat) (w:World) (x:Nat) (l:List Int):Prop:=∃ u,Blk w x 163 #[u]∧URow base w u l
theorem IdxAt.new {base x:Nat} {w w':World} {l:List Int} (h:IdxAt base w x l) (hf:New w w'):IdxAt base w' x l:=by
 obtain ⟨u,h1,h2⟩:=h
 exact ⟨u,New.blk hf h1,h2.new hf⟩
theorem ilen_any {base x:Nat} {w:World} {l:List Int} (h:IdxAt base w x l):Calls Tryz.prog 130 #[.pointer (some ⟨x,0,none⟩)] w fun e w'=>e=.returned (.int .i64 l.length)∧w'=w:=by
 obtain ⟨u,hb,hr⟩:=h
 obtain ⟨A,c,rfl,_⟩:=hr.form
 have hc:=hb.cell 0
 have hc0:w.cell? ⟨x,0,none⟩=some (.slice A l.length c):=hc
 clear hc hr
 go_enter Tryz.func130,Tryz.ntmps130
 go_wp2
 go_ret
 exact ⟨rfl,rfl⟩
theorem iall_any {base x:Nat} {w:World} {l:List Int} (h:IdxAt base w x l) (hl:l.length≤100000):Calls Tryz.prog 44 #[.pointer (some ⟨x,0,none⟩)] w fun e w'=>∃ o,e=.returned o∧Own (intE .u32) 28 w.heap.size w' o l∧New w w':=by
 obtain ⟨u,hb,hr⟩:=h
 have HC:=Lib.hid (uclone_any u l w hr.rd hl)
 obtain ⟨A,c,rfl,_⟩:=hr.form
 have hc:=hb.cell 0
 have hc0:w.cell? ⟨x,0,none⟩=some (.slice A l.length c):=hc
 clear hc hr
 go_enter Tryz.func44,Tryz.ntmps44
 go_wp2_with fail
 refine HC.out.mono ?_
 rintro e w1 ⟨o,rfl,h1,h2⟩
 go_wp2
 go_ret
 exact ⟨_,rfl,h1,h2⟩
def atOf (l:List Int) (p:Int):Int × Bool:=if 1≤p∧p≤l.length then (l[(p - 1).toNat]?.getD 0,true) else (0,false)
theorem iat_any {base x:Nat} {w:World} {l:List Int} (h:IdxAt base w x l) (hl:l.length≤100000) (p:Int):Calls Tryz.prog 43 #[.pointer (some ⟨x,0,none⟩),.int .i64 p] w fun e w'=>e=.returned (.tuple #[.int .u32 (atOf l p).1,.bool (atOf l p).2])∧w'=w:=by
 obtain ⟨u,hb,hr⟩:=h
 obtain ⟨A,c,rfl,hlc,hcells⟩:=hr.rd.ints
 have hc:=hb.cell 0
 have hc0:w.cell? ⟨x,0,none⟩=some (.slice A l.length c):=hc
 have HCL:=Lib.hid hcells
 clear hc hr hcells
 by_cases h1:p < 1
 · have hd:decide (p < 1)=true:=decide_eq_true h1
   have ha:atOf l p=(0,false):=if_neg (by omega)
   rw [ha]
   clear ha
   go_enter Tryz.func43,Tryz.ntmps43
   go_wp2
   go_ret2
   exact ⟨rfl,rfl⟩
 · have hd:decide (p < 1)=false:=decide_eq_false h1
   by_cases h2:(l.length:Int) < p
   · have hd2:decide ((l.length:Int) < p)=true:=decide_eq_true h2
     have ha:atOf l p=(0,false):=if_neg (by omega)
     rw [ha]
     clear ha
     go_enter Tryz.func43,Tryz.ntmps43
     go_wp2
     go_ret2
     exact ⟨rfl,rfl⟩
   · have hd2:decide ((l.length:Int) < p)=false:=decide_eq_false h2
     obtain ⟨k,rfl⟩:∃ k:Nat,p=k + 1:=⟨(p - 1).toNat,by omega⟩
     have hk:k < l.length:=by omega
     obtain ⟨y,hy⟩:∃ y,l[k]? = some y:=⟨_,List.getElem?_eq_getElem hk⟩
     have ha:atOf l (k + 1)=(y,true):=by
      unfold atOf
      rw [if_pos (by omega),show ((k:Int) + 1 - 1).toNat=k by omega,hy]
      rfl
     rw [ha]
     obtain ⟨b,off,rfl,hcell⟩:=HCL.out (by rintro rfl; simp at hk)
     have hcy:=hcell k y hy
     have hw1:IntKind.i64.wrap ((k:Int) + 1 - 1)=k:=by rw [IntWalk.i64_in _ (by omega)]; omega
     have hw2:(k:Int) + 1 - 1=k:=by omega
     have hki:(k:Int) < l.length:=by omega
     clear ha hcell hy
     go_enter Tryz.func43,Tryz.ntmps43
     go_wp2
     go_ret2
     exact ⟨rfl,rfl⟩
end Go.Proofs.YtliimglbbiebiaaGreatDoor
end

section
namespace Go.Proofs.YtliimglbbiebiaaGreatDoor
open Go.RowKit
theorem search_any (g:Nat) (cb:Array Value) (n:Nat) (p:Nat→Bool) (w:World) (hE:∀ args w,(callFunc g args).run Tryz.prog w=.ok (.enter g args) w) (hn:n≤1000000)
 (hf:∀ (W:World) (i:Nat),i < n→New w W→Calls Tryz.prog g (#[.int .i64 i] ++ cb) W fun e w'=>e=.returned (.bool (p i))∧New w w') :
 Calls Tryz.prog 297 #[.int .i64 n,.func (.func g) #[] cb] w fun e w'=>∃ k:Nat,e=.returned (.int .i64 k)∧k≤n∧(k=0∨p (k - 1)=false)∧(k=n∨p k=true)∧New w w':=by
 have HF:=Lib.hid hf
 clear hf
 go_enter Tryz.func297,Tryz.ntmps297
 go_wp2
 go_loopw [5,6] (fun vi vj wr=>∃ i j:Nat,vi=.int .i64 i∧vj=.int .i64 j∧i≤j∧j≤n∧Hid ((i=0∨p (i - 1)=false)∧(j=n∨p j=true))∧New w wr) (fun vi vj _=>(intOf vj - intOf vi).toNat)
 case atStart=>exact ⟨0,n,rfl,rfl,Nat.zero_le _,Nat.le_refl _,⟨.inl rfl,.inl rfl⟩,New.refl _⟩
 case round =>
  obtain ⟨i,j,rfl,rfl,hij,hjn,HI,hnew⟩:=hrel
  by_cases hlt:i < j
  · obtain ⟨h,hh⟩:∃ h,h=(i + j) / 2:=⟨_,rfl⟩
    have h1:i≤h:=by omega
    have h2:h < j:=by omega
    have hd:decide ((i:Int) < j)=true:=decide_eq_true (by omega)
    have e1:IntKind.i64.wrap ((i:Int) + j)=(i:Int) + j:=IntWalk.i64_in _ (by omega)
    have e2:IntKind.u64.wrap ((i:Int) + j)=(i:Int) + j:=by simp [IntKind.wrap,IntKind.bits,IntKind.signed]; omega
    have e3:((i:Int) + j) / 2=h:=by omega
    have e4:IntKind.i64.wrap (h:Int)=h:=IntWalk.i64_in _ (by omega)
    have hcall:=HF.out _ h (by omega) hnew
    have HH:=Lib.hid hh
    clear hh
    cases hp:p h
    all_goals
     rw [hp] at hcall
     have HP:=Lib.hid hp
     have HCALL:=Lib.hid hcall
     clear hp hcall
     go_wp2_with fail
     refine HCALL.out.mono ?_
     rintro e w1 ⟨rfl,hn1⟩
     go_wp2
    · go_roundw
      case rel=>exact ⟨h + 1,j,by go_num,rfl,by omega,hjn,⟨.inr (by rw [Nat.add_sub_cancel]; exact HP.out),HI.out.2⟩,hn1⟩
      case measure=>simp [intOf]; omega
    · go_roundw
      case rel=>exact ⟨i,h,rfl,rfl,h1,by omega,⟨HI.out.1,.inr HP.out⟩,hn1⟩
      case measure=>simp [intOf]; omega
  · have hd:decide ((i:Int) < j)=false:=decide_eq_false (by omega)
    have hij':i=j:=by omega
    have HIJ:=Lib.hid hij'
    clear hij'
    go_wp2
    go_ret
    exact ⟨i,rfl,by omega,HI.out.1,by have:=HI.out.2; rw [← HIJ.out] at this; exact this,hnew⟩
end Go.Proofs.YtliimglbbiebiaaGreatDoor
end

section
namespace Go.Proofs.YtliimglbbiebiaaGreatDoor
open Go.RowKit Go.Shelf Go.Proofs
theorem find1_any {base x bx bu:Nat} {w W:World} {l:List Int} {uid:Int} (h:IdxAt base w x l) (hbx:w.cell? ⟨bx,0,none⟩=some (.pointer (some ⟨x,0,none⟩))) (hbu:w.cell? ⟨bu,0,none⟩=some (.int .u32 uid)) (hn:New w W) (i:Nat) (y:Int) (hy:l[i]? = some y) (hl:l.length≤100000) :
 Calls Tryz.prog 298 #[.int .i64 i,.pointer (some ⟨bx,0,none⟩),.pointer (some ⟨bu,0,none⟩)] W fun e w'=>e=.returned (.bool (decide (uid≤y)))∧New w w':=by
 obtain ⟨u,hb,hr⟩:=h
 obtain ⟨A,c,rfl,hlc,hcells⟩:=hr.rd.ints
 have hi:i < l.length:=(List.getElem?_eq_some_iff.1 hy).1
 obtain ⟨b,off,rfl,hcell⟩:=hcells (by rintro rfl; simp at hi)
 have c1:=fun n=>(Fr.cell (hn.drewN n) (hb.cell 0) id:(W.drewN n).cell? ⟨x,0,none⟩=some (.slice (some ⟨b,off,none⟩) l.length c))
 have c2:=fun n=>Fr.cell (hn.drewN n) hbx id
 have c3:=fun n=>Fr.cell (hn.drewN n) hbu id
 have c4:=fun n=>Fr.cell (hn.drewN n) (hcell i y hy) id
 have hiI:(i:Int) < l.length:=by omega
 have HN:=Lib.hid hn
 clear hn hcell hcells hr hb hbx hbu hy
 go_enter Tryz.func298,Tryz.ntmps298
 go_wp2_with fail
 go_quiet (fail)
 go_wp2
 go_ret
 exact ⟨rfl,HN.out.drewN _⟩
def FindAt (l:List Int) (uid:Int) (k:Nat):Prop:=k≤l.length∧(k=0∨∃ y,l[k - 1]? = some y∧¬ uid≤y)∧(k=l.length∨∃ y,l[k]? = some y∧uid≤y)
theorem find_any {base x:Nat} {w:World} {l:List Int} (h:IdxAt base w x l) (hl:l.length≤100000) (uid:Int) :
 Calls Tryz.prog 241 #[.pointer (some ⟨x,0,none⟩),.int .u32 uid] w fun e w'=>∃ k:Nat,e=.returned (.int .i64 k)∧FindAt l uid k∧New w w':=by
 have hn1:New w ((w.alloc (.cells #[.pointer (some ⟨x,0,none⟩)] 88)).alloc (.cells #[.int .u32 uid] 28)):=((New.refl w).alloc _).alloc _
 have b1:=(Blk.new w 88 #[.pointer (some ⟨x,0,none⟩)]).alloc (.cells #[.int .u32 uid] 28)
 have b2:=Blk.new (w.alloc (.cells #[.pointer (some ⟨x,0,none⟩)] 88)) 28 #[.int .u32 uid]
 rw [World.size_alloc] at b2
 have h1:=h.new hn1
 have hs:=search_any 298 #[.pointer (some ⟨w.heap.size,0,none⟩),.pointer (some ⟨w.heap.size + 1,0,none⟩)] l.length (fun i=>decide (uid≤l[i]?.getD 0)) _ (enters_of Tryz.func298 (by kernel_rfl) rfl) (by omega)
  (fun W i hi hW=>find1_any h1 (b1.cell 0) (b2.cell 0) hW i (l[i]?.getD 0) (by rw [List.getElem?_eq_getElem hi]; rfl) hl)
 have HS:=Lib.hid hs
 obtain ⟨u,hb,hr⟩:=h1
 obtain ⟨A,c,rfl,_⟩:=hr.form
 have c0:=b1.cell 0
 have c1:((w.alloc (.cells #[.pointer (some ⟨x,0,none⟩)] 88)).alloc (.cells #[.int .u32 uid] 28)).cell? ⟨x,0,none⟩=some (.slice A l.length c):=hb.cell 0
 clear hs hr hb h
 go_enter Tryz.func241,Tryz.ntmps241
 go_wp2_with fail
 refine HS.out.mono ?_
 rintro e w1 ⟨k,rfl,hk,hk1,hk2,hn2⟩
 go_wp2
 go_ret
 refine ⟨k,rfl,⟨hk,?_,?_⟩,hn1.trans hn2⟩
 · rcases hk1 with h | h
   · exact .inl h
   · by_cases h0:k=0
     · exact .inl h0
     · obtain ⟨y,hy⟩:∃ y,l[k - 1]? = some y:=⟨_,List.getElem?_eq_getElem (by omega)⟩
       refine .inr ⟨y,hy,?_⟩
       rw [hy] at h
       simpa using h
 · rcases hk2 with h | h
   · exact .inl h
   · by_cases h0:k=l.length
     · exact .inl h0
     · obtain ⟨y,hy⟩:∃ y,l[k]? = some y:=⟨_,List.getElem?_eq_getElem (by omega)⟩
       refine .inr ⟨y,hy,?_⟩
       rw [hy] at h
       simpa using h
end Go.Proofs.YtliimglbbiebiaaGreatDoor
end

section
namespace Go.Proofs.YtliimglbbiebiaaGreatDoor
open Go.RowKit
def Asc (s:List Int):Prop:=s.Pairwise (· < ·)
theorem Asc.nil:Asc []:=List.Pairwise.nil
theorem Asc.tail {x:Int} {s:List Int} (h:Asc (x :: s)):Asc s:=(List.pairwise_cons.1 h).2
theorem Asc.head {x:Int} {s:List Int} (h:Asc (x :: s)) {y:Int} (hy:y ∈ s):x < y:=(List.pairwise_cons.1 h).1 y hy
theorem Asc.get {s:List Int} (h:Asc s) {i j:Nat} {x y:Int} (hi:s[i]? = some x) (hj:s[j]? = some y) (hij:i < j):x < y:=by
 obtain ⟨h1,rfl⟩:=List.getElem?_eq_some_iff.1 hi
 obtain ⟨h2,rfl⟩:=List.getElem?_eq_some_iff.1 hj
 exact List.pairwise_iff_getElem.1 h i j h1 h2 hij
theorem Asc.inj {s:List Int} (h:Asc s) {i j:Nat} {x:Int} (hi:s[i]? = some x) (hj:s[j]? = some x):i=j:=by
 rcases Nat.lt_trichotomy i j with h1 | h1 | h1
 · have:=h.get hi hj h1; omega
 · exact h1
 · have:=h.get hj hi h1; omega
def AscOf (l s:List Int):Prop:=Asc s∧∀ x,x ∈ s ↔ x ∈ l∧x≠0
end Go.Proofs.YtliimglbbiebiaaGreatDoor
end

section
namespace Go.Proofs.YtliimglbbiebiaaGreatDoor
open Go.RowKit Go.Shelf Go.Proofs
attribute [local go_sem] Oper.semAt_some
def RdBelow (n₀:Nat) (W:World) (sv:Value) (zs:List Int):Prop :=
 (zs=[]∧∃ A c,sv=.slice A 0 c)∨∃ b off cap,sv=.slice (some ⟨b,off,none⟩) zs.length cap∧b < n₀∧∀ j,j < zs.length→W.cell? ⟨b,off + j,none⟩=some (.int .u32 (zs[j]?.getD 0))
theorem RdBelow.below {n₀:Nat} {A B:World} (h:Below n₀ A B) {sv:Value} {zs:List Int}:RdBelow n₀ A sv zs→RdBelow n₀ B sv zs
 | .inl e=>.inl e
 | .inr ⟨b,off,cap,e,hb,hc⟩=>.inr ⟨b,off,cap,e,hb,fun j hj=>(h.cell (p:=⟨b,off + j,none⟩) hb).trans (hc j hj)⟩
theorem RdBelow.of {w:World} {v:Value} {l:List Int} {n₀:Nat} (h:Rd (intE .u32) w v l) (hn:l≠[]→∀ b,v.ownBlock=some b→b < n₀):RdBelow n₀ w v l:=by
 obtain ⟨A,c,rfl,_,hcells⟩:=h.ints
 by_cases hl:l=[]
 · subst hl
   exact .inl ⟨rfl,A,c,rfl⟩
 · obtain ⟨b,off,rfl,hc⟩:=hcells hl
   exact .inr ⟨_,_,_,rfl,hn hl _ rfl,fun j hj=>hc j _ (by rw [List.getElem?_eq_getElem hj]; rfl)⟩
theorem take_getD {zs:List Int} {k:Nat} (h:k < zs.length):zs.take (k + 1)=zs.take k ++ [zs[k]?.getD 0]:=by
 rw [List.take_add_one,List.getElem?_eq_getElem h]
 rfl
theorem uvalues1_in (F:Fence) (n:Nat) (hf:F.fn 83) (hro:F.round=none) (hn:1≤n) (l Bs n₀ b off cap:Nat) (zs:List Int) (hlen:zs.length≤1000000) (hb:b < n₀) (J Jx:List Int→World→Prop)
 (hY:∀ pre x W,J pre W→pre.length < zs.length→YieldAt F (n - 1) Tryz.prog l #[.int .u32 x] W fun e W' =>
   (e=.returned (.bool true)∧J (pre ++ [x]) W'∧Below n₀ W W')∨(e=.returned (.bool false)∧Jx (pre ++ [x]) W'))
 (W:World) (hBs:W.cell? ⟨Bs,0,none⟩=some (.slice (some ⟨b,off,none⟩) zs.length cap)) (hc:∀ j,j < zs.length→W.cell? ⟨b,off + j,none⟩=some (.int .u32 (zs[j]?.getD 0))) (h0:J [] W) :
 CallsIn F n Tryz.prog 83 #[.func (.yield l) #[] #[],.pointer (some ⟨Bs,0,none⟩)] W fun e W'=>(∃ v,e=.returned v) ∧
  (J zs W'∨(∃ pre,pre <+: zs∧Jx pre W')):=by
 refine callsIn_of_wp Tryz.func83 rfl hf ?_ hro
 simp only [Tryz.ntmps83,List.size_toArray,List.length_cons,List.length_nil,Nat.reduceAdd,Nat.reduceSub,Array.replicate_succ,Array.replicate_zero,List.push_toArray,List.append_toArray,List.nil_append,List.cons_append]
 gi_wp2
 gi_loopw [7] (fun i wr=>∃ k:Nat,k≤zs.length∧i=.int .i64 k∧J (zs.take k) wr∧Below n₀ W wr)
  (fun i _=>zs.length - (intOf i).toNat)
 case atStart=>exact ⟨0,Nat.zero_le _,rfl,h0,Below.refl _ _⟩
 case round =>
  obtain ⟨k,hk,rfl,hJs,hnx⟩:=hrel
  have hcx:k < zs.length→wr.cell? ⟨b,off + k,none⟩=some (.int .u32 (zs[k]?.getD 0)):=fun h=>(hnx.cell (p:=⟨b,off + k,none⟩) hb).trans (hc k h)
  by_cases hlt:k < zs.length
  · have htk:=take_getD hlt
    obtain ⟨x,hx⟩:∃ x,zs[k]?.getD 0=x:=⟨_,rfl⟩
    rw [hx] at htk hcx
    have HTK:=Lib.hid htk
    clear hx htk
    obtain ⟨fn,tmps,assign,body,hy,hR⟩:=hY _ x wr hJs (by rw [List.length_take]; omega)
    have hcx':=hcx hlt
    gi_wp2
    refine hR.mono ?_
    rintro e W3 (⟨rfl,hJ3,hk3⟩ | ⟨rfl,hJx3⟩)
    · gi_wp2
      go_roundw
      case rel=>exact ⟨k + 1,by omega,by simp,by rw [HTK.out]; exact hJ3,hnx.trans hk3⟩
      case measure=>simp [intOf]; omega
    · gi_wp2
      refine bodyPost_ret (results_none rfl _ _ _) rfl ?_
      exact ⟨⟨_,rfl⟩,.inr ⟨_,List.take_prefix (k + 1) zs,by rw [HTK.out]; exact hJx3⟩⟩
  · obtain rfl:k=zs.length:=by omega
    rw [List.take_length] at hJs
    gi_wp2
    go_end0
    exact ⟨⟨_,rfl⟩,.inl hJs⟩
theorem uvalues1_nil_in (F:Fence) (n:Nat) (hf:F.fn 83) (hro:F.round=none) (l Bs:Nat) (J:List Int→World→Prop) (W:World) (A:Option Addr) (c:Nat) (hBs:W.cell? ⟨Bs,0,none⟩=some (.slice A 0 c)) (h0:J [] W) :
 CallsIn F n Tryz.prog 83 #[.func (.yield l) #[] #[],.pointer (some ⟨Bs,0,none⟩)] W fun e W'=>(∃ v,e=.returned v)∧J [] W':=by
 refine callsIn_of_wp Tryz.func83 rfl hf ?_ hro
 simp only [Tryz.ntmps83,List.size_toArray,List.length_cons,List.length_nil,Nat.reduceAdd,Nat.reduceSub,Array.replicate_succ,Array.replicate_zero,List.push_toArray,List.append_toArray,List.nil_append,List.cons_append]
 gi_wp2
 gi_loopw [7] (fun i wr=>i=.int .i64 0∧J [] wr) (fun _ _=>0)
 case atStart=>exact ⟨rfl,h0⟩
 case round =>
  obtain ⟨rfl,hJs⟩:=hrel
  gi_wp2
  go_end0
  exact ⟨⟨_,rfl⟩,hJs⟩
theorem uvalues_stops (F:Fence) (n:Nat) (hf:F.fn 83) (hro:F.round=none) (hn:1≤n) (Bs n₀:Nat) (sv:Value) (zs:List Int) (hlen:zs.length≤1000000) (w:World) (hBs:Bs < w.heap.size) (hn₀:n₀≤w.heap.size)
 (hc:w.cell? ⟨Bs,0,none⟩=some sv) (hI:RdBelow n₀ w sv zs) :
 SeqStopsK F n Tryz.prog 83 #[.pointer (some ⟨Bs,0,none⟩)] (fun x:Int=>#[Value.int .u32 x]) (Below n₀) (fun ys=>ys=zs) (fun pre=>pre <+: zs) zs.length w:=fun l J Jx W hW _ _ hY h0=>by
 have hc':=(hW.cell (p:=⟨Bs,0,none⟩) hBs).trans hc
 rcases hI.below (hW.mono hn₀) with ⟨rfl,A,c,rfl⟩ | ⟨b,off,cap,rfl,hb,hcs⟩
 · exact (uvalues1_nil_in F n hf hro l Bs J W A c hc' h0).mono fun e W' ⟨he,hj⟩=>⟨he,.inl ⟨_,rfl,hj⟩⟩
 · refine (uvalues1_in F n hf hro hn l Bs n₀ b off cap zs hlen hb J Jx hY W hc' hcs h0).mono ?_
   rintro e W' ⟨he,hj | ⟨pre,hp,hj⟩⟩
   · exact ⟨he,.inl ⟨_,rfl,hj⟩⟩
   · exact ⟨he,.inr ⟨_,hp,hj⟩⟩
theorem uvalues_any (a:Option Addr) (len cap:Nat) (w:World) :
 Calls Tryz.prog 60 #[.slice a len cap] w fun e w'=>e=.returned (.func (.func 83) #[] #[.pointer (some ⟨w.heap.size,0,none⟩)])∧w'=w.alloc (.cells #[.slice a len cap] 58):=by
 go_enter Tryz.func60,Tryz.ntmps60
 go_wp2
 go_ret
 exact ⟨rfl,rfl⟩
end Go.Proofs.YtliimglbbiebiaaGreatDoor
end

section
namespace Go.Proofs.YtliimglbbiebiaaGreatDoor
open Go.RowKit Go.Shelf Go.Proofs
attribute [local go_sem] Oper.semAt_some
theorem uinfo:(Tryz.prog.info? 28).map (fun i=>(i.zero,i.size,i.bytes))=some (some (.int .u32 0),1,4):=by kernel_rfl
theorem uappend_in (F:Fence) (n:Nat) (h36:F.fn 116) (h32:F.fn 83) (hro:F.round=none) (hn:3≤n) (Bs:Nat) (sv:Value) (zs:List Int) (hlen:zs.length≤1000000) (w:World) (hBs:Bs < w.heap.size)
 (hc:w.cell? ⟨Bs,0,none⟩=some sv) (hI:RdBelow w.heap.size w sv zs) :
 CallsIn F n Tryz.prog 116 #[.slice none 0 0,.func (.func 83) #[] #[.pointer (some ⟨Bs,0,none⟩)]] w fun e W'=>∃ v,e=.returned v∧W'.ownsRow w.heap.size 28 1 v zs.length (zs.map (Value.int .u32))∧(v=.slice none 0 0 ↔ zs=[])∧Below w.heap.size w W':=by
 have h1:1≤n:=by omega
 obtain ⟨i0,hi,hz0,hz1,hz2⟩:=info_parts uinfo
 refine callsIn_of_wp_marks Tryz.func116 rfl h36 ?_ hro
 simp only [Tryz.ntmps116,List.size_toArray,List.length_cons,List.length_nil,Nat.reduceAdd,Nat.reduceSub,Array.replicate_succ,Array.replicate_zero,List.push_toArray,List.append_toArray,List.nil_append,List.cons_append]
 gi_wp2
 have bO:=Boxed.new w 58 (.slice none 0 0)
 have hB0:Below w.heap.size w (w.alloc (.cells #[.slice none 0 0] 58)):=(Below.refl _ w).alloc (Nat.le_refl _) _
 refine wpIn_rangeFunc_ownG hro h1 (gf:=83) (lb:=#[.pointer (some ⟨Bs,0,none⟩)]) rfl h32 (enters_of Tryz.func83 (by kernel_rfl) rfl)
  (uvalues_stops F (n - 1) h32 hro (by omega) Bs w.heap.size sv zs hlen _ (by simp; omega) (by simp) ((hB0.cell (p:=⟨Bs,0,none⟩) hBs).trans hc) (hI.below hB0)) belowK_t (belowK_b (by simp)) (Below.refl _ _) (fun _=>rfl)
  (fun pre W=>(∃ v,Boxed W w.heap.size 58 v∧W.ownsRow w.heap.size 28 1 v pre.length (pre.map (Value.int .u32))∧(v=.slice none 0 0 ↔ pre=[]))∧Below w.heap.size w W)
  (fun _ _ _=>False)
  (OwnFrom.and (Own.from (holdsRow_own w.heap.size w.heap.size 58 28 1 (fun pre=>pre.length) (fun pre=>pre.map (Value.int .u32)) (fun pre v=>v=.slice none 0 0 ↔ pre=[])) _) (ownFrom_below (Nat.le_refl _) (by simp)))
  (fun _ _ _ _ _ hs _ _=>hs)
  ⟨⟨_,bO,World.ownsRow_nil _ _ _ _,by simp⟩,hB0⟩
  (fun x=>{ tmps:=#[.slice none 0 0,.func (.func 83) #[] #[.pointer (some ⟨Bs,0,none⟩)],.pointer (some ⟨w.heap.size,0,none⟩),undef,.slice none 0 0,.int .u32 x,.func (.func 83) #[] #[.pointer (some ⟨Bs,0,none⟩)],.int .u32 x,undef,undef,undef,undef,undef],defers:=[] }) ?assign ?body ?done ?stop
 case assign =>
  intro l x W K hK
  gi_wp2
  exact hK
 case body =>
  rintro l pre x W ⟨⟨v,hv,hrow,hnil⟩,hB⟩ hlt
  have hcv:=hv.cell
  gi_wp2_with (gi_at_builtin; refine wpListIn_append_own _ rfl _ _ 58 rfl w.heap.size 28 i0 (.int .u32 0) 1 4 Tryz.underlying58 hi hz0 hz1 hz2 rfl (by decide) _ _ _ rfl (hrow.alloc _) ⟨W.heap.size,0,none⟩ 1 1 [.int .u32 x] rfl rfl (cell_one_new _ _ _) (by simp [Value.oneCell']) (by unfold maxLen; omega) (by omega) (by have:=hB.size; simp; omega) ?_; intro v' w1 hown' hgrow _; obtain ⟨g',cap',rfl⟩:=ownsRow_succ hown'; obtain ⟨hv1,hv2,hr2,hk2,hb2⟩:=hv.appended (by decide) hrow hB.size (Nat.le_refl _) hown' hgrow; have hc1:=hv1.cell; have hf1:=hv1.frozen)
  exact ⟨hk2.from _,hb2,⟨_,hv2,by simpa using hr2,by simp⟩,hB.trans hb2⟩
 case done =>
  rintro D ys W hD rfl ⟨⟨v,hv,hrow,hnil⟩,hB⟩ hK
  have hcv:=hv.cell
  gi_wp2
  refine ⟨by simp,.inl ⟨_,_,rfl,run_takeDeferred hK,?_⟩⟩
  exact ⟨_,results_tmp rfl _ _ _,v,rfl,ownsRow_putObj hrow _ hK rfl,hnil,hB.trans (belowK_b (w:=w) (Nat.le_refl _) W D _ _ (by simp at hD; omega) hK rfl rfl)⟩
 case stop =>
  rintro D c pre W _ _ h _
  exact h.elim
theorem ucollect_any (Bs:Nat) (sv:Value) (zs:List Int) (hlen:zs.length≤1000000) (w:World) (hBs:Bs < w.heap.size) (hc:w.cell? ⟨Bs,0,none⟩=some sv) (hI:RdBelow w.heap.size w sv zs) :
 Calls Tryz.prog 81 #[.func (.func 83) #[] #[.pointer (some ⟨Bs,0,none⟩)]] w fun e W'=>∃ v,e=.returned v∧Go.Proofs.YtliimglbbiebiaaGreatDoor.Own (intE .u32) 28 w.heap.size W' v zs∧New w W':=by
 have hA:=(callsIn_wide (n:=5)).1 (uappend_in Fence.wide 5 trivial trivial rfl (by omega) Bs sv zs hlen w hBs hc hI)
 have HA:=Lib.hid hA
 clear hA hI hc
 go_enter Tryz.func81,Tryz.ntmps81
 go_wp2_with fail
 refine HA.out.mono ?_
 rintro e w1 ⟨v,rfl,hrow,_,hb⟩
 go_wp2
 go_ret
 refine ⟨_,rfl,?_,New.of_below hb⟩
 unfold Go.Proofs.YtliimglbbiebiaaGreatDoor.Own
 rw [intE_cells]
 exact hrow
theorem usorted_any (Bs:Nat) (sv:Value) (zs:List Int) (hlen:zs.length≤1000000) (w:World) (hBs:Bs < w.heap.size) (hc:w.cell? ⟨Bs,0,none⟩=some sv) (hI:RdBelow w.heap.size w sv zs) :
 Calls Tryz.prog 59 #[.func (.func 83) #[] #[.pointer (some ⟨Bs,0,none⟩)]] w fun e W'=>∃ v,e=.returned v∧Go.Proofs.YtliimglbbiebiaaGreatDoor.Own (intE .u32) 28 w.heap.size W' v (zs.mergeSort fun x y=>decide (x≤y))∧New w W':=by
 have HA:=Lib.hid (ucollect_any Bs sv zs hlen w hBs hc hI)
 clear hI hc
 go_enter Tryz.func59,Tryz.ntmps59
 go_wp2_with fail
 refine HA.out.mono ?_
 rintro e w1 ⟨v,rfl,hown,hn⟩
 have HS:=Lib.hid (usort_any hown (by omega))
 obtain ⟨A,n,c,rfl⟩:=own_shape hown
 have hlt:=fun b hb=>(hown.block (b:=b) hb).1
 have HLT:=Lib.hid hlt
 clear hlt
 go_wp2_with fail
 refine HS.out.mono ?_
 rintro e w2 ⟨rfl,hown2,hf2⟩
 go_wp2
 go_ret
 exact ⟨_,rfl,hown2,New.two hn hf2 HLT.out⟩
end Go.Proofs.YtliimglbbiebiaaGreatDoor
end

section
namespace Go.Proofs.YtliimglbbiebiaaGreatDoor
def compactP:List Int→List Int
 | []=>[]
 | x :: l=>if l.head? = some x then compactP l else x :: compactP l
theorem compactP_snoc (l:List Int) (x y:Int):compactP (l ++ [x,y])=if x=y then compactP (l ++ [x]) else compactP (l ++ [x]) ++ [y]:=by
 induction l with
 | nil =>
   by_cases h:x=y
   · subst h
     simp [compactP]
   · have h':¬ y=x:=fun e=>h e.symm
     simp [compactP,h,h']
 | cons a l ih =>
   have hh:(l ++ [x,y]).head? = (l ++ [x]).head?:=by cases l <;> rfl
   simp only [List.cons_append,compactP]
   rw [hh,ih]
   by_cases h1:(l ++ [x]).head? = some a
   · simp only [h1,if_true]
   · simp only [h1,if_false]
     by_cases h2:x=y
     · simp only [h2,if_true]
     · simp only [h2,if_false,List.cons_append]
theorem compactP_take {l:List Int} {p:Nat} {x y:Int} (hp:l[p]? = some x) (hy:l[p + 1]? = some y):compactP (l.take (p + 2))=if x=y then compactP (l.take (p + 1)) else compactP (l.take (p + 1)) ++ [y]:=by
 have h1:l.take (p + 1)=l.take p ++ [x]:=by
  have hk:=(List.getElem?_eq_some_iff.1 hp)
  rw [List.take_succ_eq_append_getElem hk.1,hk.2]
 have h2:l.take (p + 2)=l.take p ++ [x,y]:=by
  have hk:=(List.getElem?_eq_some_iff.1 hy)
  rw [List.take_succ_eq_append_getElem hk.1,hk.2,h1]
  simp
 rw [h2,h1,compactP_snoc]
end Go.Proofs.YtliimglbbiebiaaGreatDoor
end

section
namespace Go.Proofs.YtliimglbbiebiaaGreatDoor
open Go.RowKit
theorem ucompact_any (base:Nat) (v:Value) (l:List Int) (w:World) (hv:Own (intE .u32) 28 base w v l) (hl:l.length≤100000) :
 Calls Tryz.prog 58 #[v] w fun e w'=>∃ o,e=.returned o∧Own (intE .u32) 28 base w' o (compactP l)∧Fr (fun k=>v.ownBlock=some k) w w'∧(o.ownBlock=v.ownBlock):=by
 have hzero:∀ w,(zeroValue 28).run Tryz.prog w=.ok (.int .u32 0) w:=fun w=>by kernel_rfl
 obtain ⟨A,c,rfl,hc⟩:=hv.form
 by_cases h2:l.length < 2
 · have hid:compactP l=l:=by
    match l,h2 with
    | [],_=>rfl
    | [x],_=>simp [compactP]
   rw [hid]
   clear hid
   go_enter Tryz.func58,Tryz.ntmps58
   go_wp2
   go_ret
   exact ⟨_,rfl,hv,Fr.refl _ _,rfl⟩
 · obtain ⟨gg,rfl⟩:=hv.some1 (by omega)
   have hcell:∀ i x,l[i]? = some x→w.cell? ⟨gg,i,none⟩=some (.int .u32 x):=fun i x hx=>hv.icell hx
   have HCL:=Lib.hid hcell
   obtain ⟨r,hr⟩:∃ r,compactP l=r:=⟨_,rfl⟩
   rw [hr]
   have HRE:=Lib.hid hr
   have hd2:decide ((l.length:Int) < 2)=false:=decide_eq_false (by omega)
   clear hcell hr
   go_enter Tryz.func58,Tryz.ntmps58
   go_wp2
   go_loopw [3] (fun vi wr=>∃ k:Nat,1≤k∧k≤l.length∧vi=.int .i64 k∧Hid (compactP (l.take k)=l.take k)∧New w wr) (fun vi _=>l.length - (intOf vi).toNat)
   case atStart =>
    refine ⟨1,by omega,by omega,rfl,?_,New.refl _⟩
    match l,h2 with
    | [],h=>exact absurd (by simp) h
    | x :: l,_=>show compactP [x]=[x]; simp [compactP]
   case round =>
    obtain ⟨k,hk1,hk,rfl,HS,hnew⟩:=hrel
    by_cases hkl:k < l.length
    · obtain ⟨x,hx⟩:∃ x,l[k - 1]? = some x:=⟨_,List.getElem?_eq_getElem (by omega)⟩
      obtain ⟨y,hy⟩:∃ y,l[k]? = some y:=⟨_,List.getElem?_eq_getElem hkl⟩
      have e0:wr.cell? ⟨gg,k - 1,none⟩=some (.int .u32 x):=Fr.cell hnew (HCL.out _ x hx) id
      have e1:wr.cell? ⟨gg,k,none⟩=some (.int .u32 y):=Fr.cell hnew (HCL.out k y hy) id
      have hstep:compactP (l.take (k + 1))=if x=y then l.take k else l.take k ++ [y]:=by
       obtain ⟨q,rfl⟩:∃ q,k=q + 1:=⟨k - 1,by omega⟩
       rw [compactP_take (by simpa using hx) hy,HS.out]
      have htk:l.take (k + 1)=l.take k ++ [y]:=take_snocI hy
      have HST:=Lib.hid hstep
      have HTK:=Lib.hid htk
      have hwk:IntKind.i64.wrap ((k:Int) - 1)=(k:Int) - 1:=IntWalk.i64_in _ (by omega)
      have hwn:((k:Int) - 1).toNat=k - 1:=by omega
      have hk0:0≤(k:Int) - 1:=by omega
      clear hx hy hstep htk
      by_cases hxy:x=y
      · subst hxy
        have hst:=HST.out
        rw [if_pos rfl] at hst
        have HST2:=Lib.hid hst
        clear hst
        go_wp2_with fail
        go_quiet (fail)
        go_wp2
        have hnq:=hnew.drewN nq
        have hv1:=hv.new hnq
        generalize wr.drewN nq=wo at *
        go_loopw [3,5] (fun v3 v5 wi=>∃ (kk k2:Nat) (m:List Int),1≤k2∧k + k2≤l.length∧kk + 1≤k + k2∧v3=.int .i64 kk∧v5=.int .i64 k2∧m.length=l.length∧Hid (∀ j,kk≤j→m[j]? = l[j]?)∧Hid (m.take kk=compactP (l.take (k + k2))) ∧
         Own (intE .u32) 28 base wi (.slice (some ⟨gg,0,none⟩) l.length c) m∧Fr (fun q=>gg=q) wo wi) (fun _ v5 _=>l.length - (intOf v5).toNat)
        case atStart=>exact ⟨k,1,l,Nat.le_refl _,by omega,Nat.le_refl _,rfl,rfl,rfl,fun _ _=>rfl,by show l.take k=compactP (l.take (k + 1)); rw [HST2.out],hv1,Fr.refl _ _⟩
        case round =>
         obtain ⟨kk,k2,m,hk21,hk2l,hkk,rfl,rfl,hm,HM,HT,ho,hf⟩:=hrel
         clear hv1 e0 e1
         by_cases hlt:k + k2 < l.length
         · obtain ⟨x',hx⟩:∃ x,l[k + (k2 - 1)]? = some x:=⟨_,List.getElem?_eq_getElem (by omega)⟩
           obtain ⟨y',hy⟩:∃ y,l[k + k2]? = some y:=⟨_,List.getElem?_eq_getElem hlt⟩
           obtain ⟨z,hz⟩:∃ z,m[kk]? = some z:=⟨_,List.getElem?_eq_getElem (by omega)⟩
           have e0:wr.cell? ⟨gg,k + (k2 - 1),none⟩=some (.int .u32 x'):=ho.icell (by rw [HM.out _ (by omega)]; exact hx)
           have e1:wr.cell? ⟨gg,k + k2,none⟩=some (.int .u32 y'):=ho.icell (by rw [HM.out _ (by omega)]; exact hy)
           have hstep:compactP (l.take (k + k2 + 1))=if x'=y' then m.take kk else m.take kk ++ [y']:=by
            obtain ⟨q,hq⟩:∃ q,k + k2=q + 1:=⟨k + (k2 - 1),by omega⟩
            have hq2:k + (k2 - 1)=q:=by omega
            rw [hq2] at hx
            have:=HT.out
            rw [hq] at hy this ⊢
            rw [compactP_take hx hy,this]
           have HST3:=Lib.hid hstep
           have hwk2:IntKind.i64.wrap ((k2:Int) - 1)=(k2:Int) - 1:=IntWalk.i64_in _ (by omega)
           have hwn2:((k2:Int) - 1).toNat=k2 - 1:=by omega
           have hk20:0≤(k2:Int) - 1:=by omega
           have hzc:∀ n,(wr.drewN n).cell? ⟨gg,kk,none⟩=some (.int .u32 z):=fun n=>ho.icell hz
           have hzf:∀ n,(wr.drewN n).frozen? ⟨gg,kk,none⟩=false:=fun n=>ho.ifrozen _
           have HY:=Lib.hid hy
           clear hx hy hz hstep
           by_cases hxy:x'=y'
           · subst hxy
             go_wp2_with fail
             go_quiet (fail)
             go_wp2
             go_roundw
             case rel =>
              refine ⟨kk,k2 + 1,m,by omega,by omega,by omega,rfl,by go_num,hm,HM.out,?_,ho.fr (S:=fun _=>False) ((Fr.refl _ _).drewN _) (fun _ _=>id),hf.drewN _⟩
              have hst:=HST3.out
              first | rw [if_pos rfl] at hst | rw [if_pos True.intro] at hst
              exact hst.symm
             case measure=>simp [intOf]; omega
           · have hq:(y' != x')=true:=by simp; exact fun e=>hxy e.symm
             go_wp2_with fail
             go_quiet (fail)
             have hst:=HST3.out
             rw [if_neg hxy] at hst
             have HST4:=Lib.hid hst
             have hos:=fun n=>Own.istored (ho.fr (S:=fun _=>False) ((Fr.refl _ wr).drewN n) (fun _ _=>id)) kk y'
             have HOS:=Lib.hid hos
             have hkm:kk < m.length:=by omega
             clear hst hos
             go_wp2
             go_roundw
             case rel =>
              refine ⟨kk + 1,k2 + 1,m.set kk y',by omega,by omega,by omega,by go_num,by go_num,by rw [List.length_set]; exact hm,fun j hj=>?_,?_,HOS.out _,?_⟩
              · rw [List.getElem?_set_ne (by omega)]
                exact HM.out j (by omega)
              · show (m.set kk y').take (kk + 1)=compactP (l.take (k + k2 + 1))
                rw [HST4.out,take_snocI (List.getElem?_set_self hkm),List.take_set_of_le (Nat.le_refl _)]
              · exact Fr.setCell (p:=⟨gg,_,none⟩) (hf.drewN _) (fun _=>rfl) _
             case measure=>simp [intOf]; omega
         · have hkl2:k + k2=l.length:=by omega
           have ht:=HT.out
           rw [hkl2,List.take_length,HRE.out] at ht
           subst ht
           have hz1:∀ u ∈ (Value.int .u32 0).cells.toList,u.oneCell'=true:=by
            intro u hu
            have hu2:u ∈ [Value.int .u32 0]:=hu
            rw [List.mem_singleton.1 hu2]
            rfl
           obtain ⟨w3,hr3,ho3,hf3⟩:=run_clear_own (P:=Tryz.prog) (E:=intE .u32) (ty:=0) Tryz.underlying58 hzero rfl hz1 ho kk (c - kk) (by omega)
           have hr3':(Builtin.clear_ #[58] 0 #[.slice (some ⟨gg,kk,none⟩) (l.length - kk) (c - kk)]).run Tryz.prog wr=.ok (.tuple #[]) w3:=by
            have e1:kk * (intE .u32).sz=kk:=Nat.mul_one kk
            rw [e1] at hr3
            exact hr3
           clear hr3
           go_wp2
           go_ret
           exact ⟨_,rfl,ho3,(New.to hnq).trans (hf.trans (hf3.mono fun _ _ h=>h.symm) |>.mono fun _ _ h=>by rw [h]; rfl),rfl⟩
      · have hq:(y == x)=false:=by simp; exact fun e=>hxy e.symm
        go_wp2_with fail
        go_quiet (fail)
        go_wp2
        go_roundw
        case rel =>
         refine ⟨k + 1,by omega,by omega,by go_num,?_,hnew.drewN _⟩
         have hst:=HST.out
         rw [if_neg hxy] at hst
         show compactP (l.take (k + 1))=l.take (k + 1)
         rw [hst,HTK.out]
        case measure=>simp [intOf]; omega
    · obtain rfl:k=l.length:=by omega
      have hrl:r=l:=by
       rw [← HRE.out]
       have:=HS.out
       rw [List.take_length] at this
       exact this
      subst hrl
      go_wp2
      go_ret
      exact ⟨_,rfl,hv.new hnew,New.to hnew,rfl⟩
end Go.Proofs.YtliimglbbiebiaaGreatDoor
end

section
namespace Go.Proofs.YtliimglbbiebiaaGreatDoor
open Go.RowKit
def idxOf (l:List Int):List Int:=match compactP (l.mergeSort fun x y=>decide (x≤y)) with
 | []=>[]
 | x :: t=>if x=0 then t else x :: t
theorem URow.notNew {base:Nat} {w:World} {v:Value} {l:List Int} (h:URow base w v l):v.ownBlock≠some w.heap.size:=fun e=>absurd (h.block e).2 (Nat.lt_irrefl _)
theorem compactP_le (l:List Int):(compactP l).length≤l.length:=by
 induction l with
 | nil=>simp [compactP]
 | cons x l ih =>
   unfold compactP
   split
   · simp; omega
   · simp; omega
theorem inew_any {v:Value} {l:List Int} {w:World} (hv:Rd (intE .u32) w v l) (hl:l.length≤1000) :
 Calls Tryz.prog 37 #[v] w fun e w'=>∃ x u,e=.returned (.pointer (some ⟨x,0,none⟩))∧w.heap.size≤x∧Blk w' x 163 #[u]∧Go.Proofs.YtliimglbbiebiaaGreatDoor.URow w.heap.size w' u (idxOf l)∧u.ownBlock≠some x∧New w w':=by
 obtain ⟨A,c,rfl,_,_⟩:=hv.ints
 have hn1:New w (w.alloc (.cells #[.slice A l.length c] 58)):=(New.refl w).alloc _
 have hbx:Blk (w.alloc (.cells #[.slice A l.length c] 58)) w.heap.size 58 #[.slice A l.length c]:=Blk.new _ _ _
 have hcl0:=fun b hb hne=>Rd.cell_lt hv (b:=b) hb hne
 have hrb:RdBelow (w.alloc (.cells #[.slice A l.length c] 58)).heap.size (w.alloc (.cells #[.slice A l.length c] 58)) (.slice A l.length c) l :=
  RdBelow.of (hv.new hn1) fun hne b hb=>by have:=hcl0 b hb hne; simp; omega
 have hso:=usorted_any w.heap.size (.slice A l.length c) l (by omega) _ hbx.lt (hbx.cell 0) hrb
 have HSO:=Lib.hid hso
 have HV:=fun a n cp W=>Lib.hid (uvalues_any a n cp W)
 obtain ⟨s,hs⟩:∃ s,l.mergeSort (fun x y=>decide (x≤y))=s:=⟨_,rfl⟩
 have hsl:s.length=l.length:=by rw [← hs,List.length_mergeSort]
 rw [hs] at HSO
 have hcl:=compactP_le s
 have hidx:idxOf l=match compactP s with
  | []=>[]
  | x :: t=>if x=0 then t else x :: t:=by unfold idxOf; rw [hs]
 obtain ⟨m,hm⟩:∃ m,compactP s=m:=⟨_,rfl⟩
 rw [hm] at hcl hidx
 have hml:m.length≤1000:=by omega
 have HSL:=Lib.hid hsl
 have HM:=Lib.hid hm
 rw [hidx]
 clear hso hidx hs hrb hcl0 hv hsl hm hcl
 go_enter Tryz.func37,Tryz.ntmps37
 go_wp2_with fail
 refine (HV _ _ _ _).out.mono ?_
 rintro e w1 ⟨rfl,rfl⟩
 go_wp2_with fail
 refine HSO.out.mono ?_
 rintro e w2 ⟨v2,rfl,hown2,hn2⟩
 have HC:=Lib.hid (ucompact_any _ _ _ _ hown2 (by have:=HSL.out; omega))
 have hn2':=hn1.trans hn2
 obtain ⟨A2,n2,c2,rfl⟩:=own_shape hown2
 have HOB:=Lib.hid (fun b hb=>(hown2.block (b:=b) hb).1)
 go_wp2_with fail
 refine HC.out.mono ?_
 rintro e w3 ⟨o,rfl,hown3,hf3,ho3⟩
 rw [HM.out] at hown3
 have hn3:New w w3:=New.two hn2' hf3 (fun b hb=>Nat.le_trans (by simp) (HOB.out b hb))
 have hown4:Go.Proofs.YtliimglbbiebiaaGreatDoor.Own (intE .u32) 28 w.heap.size w3 o m:=hown3.mono (by simp)
 clear hown3 hf3 ho3 hown2 HOB
 have hrow:=URow.of_own hown4
 cases m with
 | nil =>
   obtain ⟨A3,c3,rfl,_⟩:=hown4.form
   have HR:=Lib.hid hrow
   clear hown4 hrow
   go_wp2
   go_ret
   exact ⟨_,rfl,hn3.size,_,Blk.new _ _ _,HR.out.new ((New.refl _).alloc _),HR.out.notNew,hn3.alloc _⟩
 | cons x t =>
   obtain ⟨A3,c3,rfl,hc3⟩:=hown4.form
   obtain ⟨g,rfl⟩:=hown4.some1 (by simp)
   have hc0:w3.cell? ⟨g,0,none⟩=some (.int .u32 x):=hown4.icell (k:=0) rfl
   have hlen:(((x :: t).length:Nat):Int)=(t.length:Int) + 1:=by simp
   have HR:=Lib.hid hrow
   by_cases hx:x=0
   · subst hx
     have ht:=URow.tail hrow
     rw [Nat.zero_add,show (0 :: t).length - 1=t.length by simp] at ht
     have HT:=Lib.hid ht
     have hT0:c3=1→Go.Proofs.YtliimglbbiebiaaGreatDoor.URow w.heap.size w3 (.slice (some ⟨g,0,none⟩) t.length 0) t:=fun h1=>by
      obtain rfl:t=[]:=List.eq_nil_of_length_eq_zero (by simp at hc3; omega)
      have hb:=hrow.block (b:=g) rfl
      exact .inr ⟨g,0,0,rfl,hb.1,hrow.heap (b:=g) rfl,Nat.le_refl _,Nat.zero_le _,fun i x hx=>by simp at hx,fun j hj=>by omega⟩
     have HT0:=Lib.hid hT0
     simp only [List.length_cons] at *
     clear hown4 hrow ht hT0
     go_wp2
     all_goals go_ret
     all_goals first
      | exact ⟨_,rfl,hn3.size,_,Blk.new _ _ _,HT.out.new ((New.refl _).alloc _),HT.out.notNew,hn3.alloc _⟩
      | exact ⟨_,rfl,hn3.size,_,Blk.new _ _ _,(HT0.out (by first | assumption | omega)).new ((New.refl _).alloc _),(HT0.out (by first | assumption | omega)).notNew,hn3.alloc _⟩
   · have hx0:(x == 0)=false:=by simp [hx]
     clear hown4 hrow
     simp only [List.length_cons] at *
     go_wp2
     go_ret
     have hR:=HR.out
     first
      | exact ⟨_,rfl,hn3.size,_,Blk.new _ _ _,hR.new ((New.refl _).alloc _),hR.notNew,hn3.alloc _⟩
      | (rw [if_neg hx]; exact ⟨_,rfl,hn3.size,_,Blk.new _ _ _,hR.new ((New.refl _).alloc _),hR.notNew,hn3.alloc _⟩)
end Go.Proofs.YtliimglbbiebiaaGreatDoor
end

section
namespace Go.Proofs.YtliimglbbiebiaaGreatDoor
open Go.RowKit
theorem compactP_mem (l:List Int) (x:Int):x ∈ compactP l ↔ x ∈ l:=by
 induction l with
 | nil=>simp [compactP]
 | cons y l ih =>
   unfold compactP
   cases l with
   | nil=>simp [compactP]
   | cons z l =>
     by_cases h:y=z
     · subst h
       simp only [List.head?_cons,if_true]
       rw [ih]
       simp
     · simp only [List.head?_cons,Option.some.injEq,Ne.symm h,if_false,List.mem_cons] at ih ⊢
       rw [ih]
theorem compactP_asc (l:List Int) (h:l.Pairwise (·≤·)):Asc (compactP l):=by
 induction l with
 | nil=>exact Asc.nil
 | cons y l ih =>
   have h1:=(List.pairwise_cons.1 h).1
   have h2:=ih (List.pairwise_cons.1 h).2
   unfold compactP
   split
   · exact h2
   · rename_i hne
     refine List.pairwise_cons.2 ⟨fun z hz=>?_,h2⟩
     have hzl:=(compactP_mem l z).1 hz
     have hle:=h1 z hzl
     rcases Int.lt_or_le y z with hlt | hge
     · exact hlt
     · exfalso
       obtain rfl:z=y:=by omega
       cases l with
       | nil=>simp at hzl
       | cons u l =>
         have hu:=h1 u (by simp)
         have hul:u≤z:=by
          rcases List.mem_cons.1 hzl with h3 | h3
          · omega
          · exact (List.pairwise_cons.1 (List.pairwise_cons.1 h).2).1 z h3
         exact hne (by simp; omega)
theorem idxOf_asc (l:List Int) (h0:∀ x ∈ l,0≤x):AscOf l (idxOf l):=by
 have hs:(l.mergeSort fun x y=>decide (x≤y)).Pairwise (·≤·):=by
  have:=List.pairwise_mergeSort (le:=fun x y:Int=>decide (x≤y)) (by intro a b c h1 h2; simp at *; omega) (by intro a b; simp; omega) l
  exact this.imp fun h=>by simpa using h
 have ha:=compactP_asc _ hs
 have hm:∀ x,x ∈ compactP (l.mergeSort fun x y=>decide (x≤y)) ↔ x ∈ l:=fun x=>(compactP_mem _ x).trans List.mem_mergeSort
 unfold idxOf
 cases hc:compactP (l.mergeSort fun x y=>decide (x≤y)) with
 | nil =>
   rw [hc] at hm
   refine ⟨Asc.nil,fun x=>?_⟩
   have:=hm x
   simp at this ⊢
   intro h
   exact absurd h this
 | cons y t =>
   rw [hc] at hm ha
   simp only
   split
   · rename_i hy
     subst hy
     refine ⟨ha.tail,fun x=>?_⟩
     rw [← hm x]
     constructor
     · intro hx
       have:=ha.head hx
       exact ⟨by simp [hx],by omega⟩
     · rintro ⟨h1,h2⟩
       rcases List.mem_cons.1 h1 with h1 | h1
       · exact absurd h1 h2
       · exact h1
   · rename_i hy
     refine ⟨ha,fun x=>?_⟩
     rw [hm x]
     refine ⟨fun h=>⟨h,?_⟩,fun h=>h.1⟩
     rintro rfl
     rcases List.mem_cons.1 ((hm 0).2 h) with h1 | h1
     · exact hy h1.symm
     · have:=ha.head h1
       have:=h0 y ((hm y).1 (by simp))
       omega
theorem FindAt.mem {s:List Int} (h:Asc s) {u:Int} {k:Nat} (hk:FindAt s u k):u ∈ s ↔ s[k]? = some u:=by
 obtain ⟨h1,h2,h3⟩:=hk
 constructor
 · intro hm
   obtain ⟨i,hi⟩:=List.mem_iff_getElem?.1 hm
   have hil:=(List.getElem?_eq_some_iff.1 hi).1
   rcases Nat.lt_trichotomy i k with hlt | rfl | hgt
   · rcases h2 with h2 | ⟨y,hy,hyu⟩
     · omega
     · by_cases he:i=k - 1
       · subst he; rw [hi] at hy; cases hy; omega
       · have:=h.get hi hy (by omega); omega
   · exact hi
   · rcases h3 with h3 | ⟨y,hy,hyu⟩
     · omega
     · have:=h.get hy hi hgt; omega
 · intro hs
   exact List.mem_iff_getElem?.2 ⟨k,hs⟩
theorem FindAt.below {s:List Int} (h:Asc s) {u:Int} {k:Nat} (hk:FindAt s u k) {i:Nat} {x:Int} (hi:s[i]? = some x):i < k ↔ x < u:=by
 obtain ⟨h1,h2,h3⟩:=hk
 have hil:=(List.getElem?_eq_some_iff.1 hi).1
 constructor
 · intro hlt
   rcases h2 with h2 | ⟨y,hy,hyu⟩
   · omega
   · by_cases he:i=k - 1
     · subst he; rw [hi] at hy; cases hy; omega
     · have:=h.get hi hy (by omega); omega
 · intro hx
   rcases Nat.lt_or_ge i k with h4 | h4
   · exact h4
   · exfalso
     rcases h3 with h3 | ⟨y,hy,hyu⟩
     · omega
     · rcases Nat.eq_or_lt_of_le h4 with rfl | h4
       · rw [hi] at hy; cases hy; omega
       · have:=h.get hy hi h4; omega
def placeOf (s:List Int) (u:Int):Int:=if u ∈ s then (s.idxOf u:Int) + 1 else 0
theorem idxOf_at {s:List Int} {u:Int} {k:Nat} (hk:s[k]? = some u) (hn:u ∉ s.take k):s.idxOf u=k:=by
 have hkl:=(List.getElem?_eq_some_iff.1 hk).1
 have h1:s=s.take k ++ u :: s.drop (k + 1):=by
  have h2:s.drop k=u :: s.drop (k + 1):=by
   rw [List.drop_eq_getElem_cons hkl,(List.getElem?_eq_some_iff.1 hk).2]
  rw [← h2,List.take_append_drop]
 rw [h1,List.idxOf_append,if_neg hn]
 simp
 omega
theorem placeOf_at {s:List Int} (h:Asc s) {u:Int} {k:Nat} (hk:s[k]? = some u):placeOf s u=k + 1:=by
 have hm:u ∈ s:=List.mem_iff_getElem?.2 ⟨k,hk⟩
 have hn:u ∉ s.take k:=by
  intro hm
  obtain ⟨i,hi⟩:=List.mem_iff_getElem?.1 hm
  have hik:i < k:=by have:=(List.getElem?_eq_some_iff.1 hi).1; rw [List.length_take] at this; omega
  rw [List.getElem?_take_of_lt hik] at hi
  have:=h.inj hi hk
  omega
 unfold placeOf
 rw [if_pos hm,idxOf_at hk hn]
theorem placeOf_none {s:List Int} {u:Int} (h:u ∉ s):placeOf s u=0:=if_neg h
theorem posAt_place {s:List Int} (h:Asc s) {u:Int} {k:Nat} (hk:FindAt s u k):(if s[k]? = some u then (k:Int) + 1 else 0)=placeOf s u:=by
 by_cases hm:u ∈ s
 · have h1:=(hk.mem h).1 hm
   rw [if_pos h1,placeOf_at h h1]
 · rw [if_neg (fun h1=>hm ((hk.mem h).2 h1)),placeOf_none hm]
end Go.Proofs.YtliimglbbiebiaaGreatDoor
end

