/- A part of the proof: Tell, StOps, StOps2, StOps3. -/
import Derived.Test.YtliimglbbiebiaaGreatDoorGTopPairsAI
import Derived.Test.YtliimglbbiebiaaGreatDoorGTopPairsAB
import Derived.Deep.RegionHeld3
set_option maxRecDepth 100000
set_option maxHeartbeats 6400000
section
namespace Go.Proofs.YtliimglbbiebiaaGreatDoor
open Go.RowKit Go.Maps
theorem everyone_any (i:Int) (w:World):Calls Tryz.prog 135 #[.int .i64 i] w fun e w'=>e=.returned (.bool true)∧w'=w:=by
 go_enter Tryz.func135,Tryz.ntmps135
 go_wp2
 go_ret
 exact ⟨rfl,rfl⟩
theorem change1_any (i by_:Int) (g:Nat) (w:World) (hg:w.cell? ⟨g,0,none⟩=some (.int .i64 by_)):Calls Tryz.prog 197 #[.int .i64 i,.pointer (some ⟨g,0,none⟩)] w fun e w'=>e=.returned (.bool (i != by_))∧w'=w:=by
 go_enter Tryz.func197,Tryz.ntmps197
 go_wp2
 go_ret
 exact ⟨rfl,rfl⟩
def toldL (p:Int→Bool) (ev:Ev) (Q:Qs):Int→List Ev:=fun i=>if p i then Q.l i ++ [ev] else Q.l i
def Qs.told (Q:Qs) (p:Int→Bool) (ev:Ev) (v':Int→Value):Qs:={ Q with v:=v',l:=toldL p ev Q }
structure Told (w0 wr:World) (q r nn:Nat) (D:DataW Value) (Q:Qs) (p:Int→Bool) (ev:Ev) (v':Int→Value) (left:Lit→Bool) (cnt:Nat):Prop where
 rng:wr.ranges Tryz.prog 3 R0 q r nn D left cnt
 que:∀ i ∈ Q.ids,Que wr (Q.b i) (v' i) (if left (.int .i64 i)=false∧p i=true then Q.l i ++ [ev] else Q.l i)
 inj:∀ i ∈ Q.ids,∀ j ∈ Q.ids,∀ g,(v' i).ownBlock=some g→(v' j).ownBlock=some g→i=j
 stay:∀ i ∈ Q.ids,Stays w0 (Q.v i) (v' i)
 fr:Fr (fun k=>Q.foot k∨k=r) w0 wr
section
variable {w0 wr w1:World} {q r nn:Nat} {D:DataW Value} {Q:Qs} {p:Int→Bool} {ev:Ev} {v':Int→Value} {left:Lit→Bool} {cnt cnt1:Nat} {x:Int}
theorem Told.skip (h:Told w0 wr q r nn D Q p ev v' left cnt) (hr:∀ i ∈ Q.ids,Q.b i≠r∧(v' i).ownBlock≠some r) (hf:Fr (fun k=>k=r) wr w1) (hp:p x=false)
 (hrg:w1.ranges Tryz.prog 3 R0 q r nn D (fun k=>left k && !k.sameKey (.int .i64 x)) cnt1):Told w0 w1 q r nn D Q p ev v' (fun k=>left k && !k.sameKey (.int .i64 x)) cnt1:=by
 refine ⟨hrg,fun i hi=>?_,h.inj,h.stay,Fr.trans h.fr (fr_or hf fun k hk=>.inr hk)⟩
 have h1:=(h.que i hi).fr hf (fun hs=>(hr i hi).1 hs) (fun g hg hs=>(hr i hi).2 (by rw [hg,hs]))
 have hsk:Lit.sameKey (.int .i64 i) (.int .i64 x)=decide (i=x):=by simp [Lit.sameKey]
 have e:(if ((left (.int .i64 i) && !Lit.sameKey (.int .i64 i) (.int .i64 x))=false∧p i=true) then Q.l i ++ [ev] else Q.l i)=if left (.int .i64 i)=false∧p i=true then Q.l i ++ [ev] else Q.l i:=by
  rw [hsk]
  by_cases hix:i=x
  · subst hix
    simp [hp]
  · simp [hix]
 rw [e]
 exact h1
theorem Told.push (h:Told w0 wr q r nn D Q p ev v' left cnt) (hqb:∀ i ∈ Q.ids,∀ j ∈ Q.ids,Q.b i=Q.b j→i=j) (hq:∀ i ∈ Q.ids,(v' i).ownBlock≠some (Q.b x)) (hq2:∀ i ∈ Q.ids,(v' x).ownBlock≠some (Q.b i)) (hlv:∀ i ∈ Q.ids,∀ g,(v' i).ownBlock=some g→g < wr.heap.size)
 (hr:∀ i ∈ Q.ids,Q.b i≠r∧(v' i).ownBlock≠some r) (hx:x ∈ Q.ids) (hp:p x=true) (hlx:left (.int .i64 x)=true) {vx:Value} (hque:Que w1 (Q.b x) vx (Q.l x ++ [ev]))
 (hf:Fr (fun k=>k=r∨k=Q.b x∨(v' x).ownBlock=some k) wr w1) (hst:Stays wr (v' x) vx) 
 (hrg:w1.ranges Tryz.prog 3 R0 q r nn D (fun k=>left k && !k.sameKey (.int .i64 x)) cnt1):Told w0 w1 q r nn D Q p ev (fun i=>if i=x then vx else v' i) (fun k=>left k && !k.sameKey (.int .i64 x)) cnt1:=by
 have hsz:=h.fr.size
 refine ⟨hrg,fun i hi=>?_,fun i hi j hj g h1 h2=>?_,fun i hi=>?_,Fr.trans' h.fr hf fun k hk hs=>?_⟩
 · have hsk:Lit.sameKey (.int .i64 i) (.int .i64 x)=decide (i=x):=by simp [Lit.sameKey]
   by_cases hix:i=x
   · subst hix
     simp only [hsk,hlx,hp]
     simpa using hque
   · have h1:=(h.que i hi).fr hf (fun hs=>?_) (fun g hg hs=>?_)
     · simp only [hsk,hix,if_false]
       simpa [hix] using h1
     · rcases hs with hs | hs | hs
       · exact (hr i hi).1 hs
       · exact hix (hqb i hi x hx hs)
       · exact hq2 i hi hs
     · rcases hs with hs | hs | hs
       · exact (hr i hi).2 (by rw [hg,hs])
       · exact hq i hi (by rw [hg,hs])
       · exact hix (h.inj i hi x hx g hg hs)
 · by_cases hix:i=x
   · by_cases hjx:j=x
     · rw [hix,hjx]
     · simp only [hix,if_true] at h1
       simp only [hjx,if_false] at h2
       rcases hst with h3 | ⟨b,h3,h4⟩
       · rw [h3] at h1
         rw [hix]
         exact h.inj x hx j hj g h1 h2
       · rw [h3] at h1
         cases h1
         have:=hlv j hj g h2
         omega
   · simp only [hix,if_false] at h1
     by_cases hjx:j=x
     · simp only [hjx,if_true] at h2
       rcases hst with h3 | ⟨b,h3,h4⟩
       · rw [h3] at h2
         rw [hjx]
         exact h.inj i hi x hx g h1 h2
       · rw [h3] at h2
         cases h2
         have:=hlv i hi g h1
         omega
     · simp only [hjx,if_false] at h2
       exact h.inj i hi j hj g h1 h2
 · by_cases hix:i=x
   · subst hix
     simp only [if_true]
     rcases hst with h3 | ⟨b,h3,h4⟩
     · rcases h.stay i hi with h5 | ⟨b,h5,h6⟩
       · exact .inl (h3.trans h5)
       · exact .inr ⟨b,h3.trans h5,h6⟩
     · exact .inr ⟨b,h3,by omega⟩
   · simp only [hix,if_false]
     exact h.stay i hi
 · rcases hs with hs | hs | hs
   · exact .inr hs
   · exact .inl ⟨x,hx,.inl hs⟩
   · rcases h.stay x hx with h5 | ⟨b,h5,h6⟩
     · exact .inl ⟨x,hx,.inr (by rw [← h5]; exact hs)⟩
     · rw [h5] at hs
       cases hs
       omega
end
theorem Stays.mono {w w':World} {u u':Value} (h:Stays w' u u') (hs:w.heap.size≤w'.heap.size):Stays w u u':=by
 rcases h with h | ⟨b,h1,h2⟩
 · exact .inl h
 · exact .inr ⟨b,h1,Nat.le_trans hs h2⟩
theorem tell_any {w:World} {s q:Nat} {Q:Qs} {c0 c1 c2 c3:Value} (hs:Blk w s 94 #[c0,c1,c2,c3,.map (some q)]) (h:QX w q Q) (hl:∀ i ∈ Q.ids,(Q.l i).length≤100000000)
 (ev:Ev) (hw:ev.wf) (hk:1≤ev.k∧ev.k≤3) (fn:Nat) (cap:Array Value) (p:Int→Bool) (hE:∀ args w,(callFunc fn args).run Tryz.prog w=.ok (.enter fn args) w)
 (hacc:∀ W i,Fr Q.foot w W→Calls Tryz.prog fn (#[.int .i64 i] ++ cap) W fun e w'=>e=.returned (.bool (p i))∧w'=W) :
 Calls Tryz.prog 134 #[.pointer (some ⟨s,0,none⟩),ev.val,.func (.func fn) #[] cap] w fun e w'=>e=.returned (.tuple #[])∧∃ v',QX w' q (Q.told p ev v')∧Fr Q.foot w w'∧∀ i ∈ Q.ids,Stays w (Q.v i) (v' i):=by
 obtain ⟨D,hown,hD1,hD2⟩:=h.map.own
 have hsl:=hs.lt
 have cs4:w.cell? ⟨s,4,none⟩=some (.map (some q)):=hs.cell 4
 have hoks:∀ i ∈ Q.ids,qKeys.ok i:=fun i hi=>h.map.oks _ (List.mem_map.2 ⟨i,hi,rfl⟩)
 have hgt:∀ i ∈ Q.ids,get (Q.ids.map fun i=>(i,Value.pointer (some ⟨Q.b i,0,none⟩))) i=some (.pointer (some ⟨Q.b i,0,none⟩)):=fun i hi=>get_of_mem h.map.nd (List.mem_map.2 ⟨i,hi,rfl⟩)
 have HHAS:Hid (∀ i ∈ Q.ids,Maps.has D (.int .i64 i)=true):=Lib.hid (fun i hi=>by
  have h1:=has_of (hD2 i (hoks i hi))
  rw [hgt i hi] at h1
  exact h1)
 have HFIND:Hid (∀ (x:Int) (c:Value),qKeys.ok x→(∀ zd,D.atKey (.int .i64 x) zd=.held c)→x ∈ Q.ids∧c=.pointer (some ⟨Q.b x,0,none⟩)):=fun x c hx hat=>by
  have h1:=hD2 x hx
  cases hg:get (Q.ids.map fun i=>(i,Value.pointer (some ⟨Q.b i,0,none⟩))) x with
  | none =>
    rw [hg] at h1
    have h2:=(hat (.held (.bool true))).symm.trans (h1 _)
    have h3:=(hat (.held (.bool false))).symm.trans (h1 _)
    rw [h2] at h3
    cases h3
  | some u =>
    rw [hg] at h1
    have h2:=(hat (.held (.bool true))).symm.trans (h1 _)
    have h3:=mem_of_get hg
    obtain ⟨i,hi,hzz⟩:=List.mem_map.1 h3
    injection hzz with e1 e2
    injection h2 with h2
    subst e1
    exact ⟨hi,by rw [h2,← e2]⟩
 have hqv:∀ i ∈ Q.ids,∀ g,(Q.v i).ownBlock=some g→g < w.heap.size:=fun i hi g hg=>((h.que i hi).own.block hg).2
 have hqbl:∀ i ∈ Q.ids,Q.b i < w.heap.size:=fun i hi=>(h.que i hi).blk.lt
 have hql:=h.map.lt
 obtain ⟨k,u,f⟩:=ev
 have hb0:Blk (w.alloc (.cells #[.int .i64 k,.int .u32 u,.int .u8 f] 232)) w.heap.size 232 #[.int .i64 k,.int .u32 u,.int .u8 f]:=Blk.new _ _ _
 generalize hnn:(Q.ids.map fun i=>(i,Value.pointer (some ⟨Q.b i,0,none⟩))).length=nn at *
 have hown1:(w.alloc (.cells #[.int .i64 k,.int .u32 u,.int .u8 f] 232)).ownsMap Tryz.prog 3 R0 q nn D:=by
  have h1:=(Fr.alloc (Fr.refl (fun _=>False) w) (.cells #[.int .i64 k,.int .u32 u,.int .u8 f] 232)).block q hql id
  obtain ⟨es,clock,h2,h3⟩:=hown
  exact ⟨es,clock,h1.trans h2,h3⟩
 have HOWN:=Lib.hid hown1
 have H:=Lib.hid h
 have HW:=Lib.hid hw
 have HK:=Lib.hid hk
 have HL:=Lib.hid hl
 have HACC:=Lib.hid hacc
 have HQV:=Lib.hid hqv
 have HQB:=Lib.hid hqbl
 clear hD2 hgt hown hown1 hoks h hw hk hl hacc hqv hqbl hnn hD1
 simp only [Ev.val]
 go_enter Tryz.func134,Tryz.ntmps134
 go_wp2_with (first
  | (at_range; refine wpList_range_own _ rfl _ 92 rfl 3 280 qKeys.law Tryz.underlying92 _ q nn D rfl HOWN.out ?_; intro wz hrg0 hg0 hs0)
  | fail)
 have hnz:New (w.alloc (.cells #[.int .i64 k,.int .u32 u,.int .u8 f] 232)) wz:=Fr.of_grown hg0 fun _ h=>by cases h
 have HNZ:=Lib.hid (((New.refl w).alloc _).trans hnz)
 have hsz:w.heap.size + 1 < wz.heap.size:=by simp at hs0; omega
 have HS0:=Lib.hid hs0
 have HT0:Hid (Told wz wz q (w.heap.size + 1) nn D Q p ⟨k,u,f⟩ Q.v (Maps.has D) (Maps.size D)):=Lib.hid (by
  have hrg1:=hrg0
  simp only [World.size_alloc] at hrg1
  refine ⟨hrg1,fun i hi=>?_,H.out.qv,fun i hi=>.inl rfl,Fr.refl _ _⟩
  rw [if_neg (by rw [HHAS.out i hi]; simp)]
  exact (H.out.que i hi).new HNZ.out)
 clear hs0
 try go_frame
 go_loopw [6] (fun _ wr=>∃ (v':Int→Value) (left:Lit→Bool) (cnt:Nat),Hid (Told wz wr q (w.heap.size + 1) nn D Q p ⟨k,u,f⟩ v' left cnt)) (fun _ wr=>wr.rangeLeft q (w.heap.size + 1))
 case atStart=>exact ⟨Q.v,_,_,HT0.out⟩
 case round =>
  obtain ⟨v',left,cnt,HR⟩:=hrel
  clear HT0
  have hrg:=HR.out.rng
  have hszw:=HR.out.fr.size
  have hbr:Blk wr w.heap.size 232 #[.int .i64 k,.int .u32 u,.int .u8 f]:=HR.out.fr.blk (hnz.blk hb0) (fun hs=>by
   rcases hs with ⟨i,hi,hs | hs⟩ | hs
   · have:=HQB.out i hi; omega
   · have:=HQV.out i hi _ hs; omega
   · omega)
  go_wp2_with (first
   | (at_next; refine wpList_next_ranges _ rfl _ rfl 3 qKeys.law R0 (Value.int .i64) (fun c:Value=>c) (fun key kl hk=>by obtain ⟨x,hx,_⟩:=Maps.keyOf_int_inv Tryz.underlying3 hk; exact ⟨x,hx⟩) (fun v y _=>⟨v,rfl⟩) q (w.heap.size + 1) nn _ _ _ rfl hrg ?_ ?_)
   | fail)
  · intro hc0 hl0
    have HL0:=Lib.hid hl0
    clear hl0 hc0
    go_wp2
    go_end0
    refine ⟨rfl,v',⟨?_,fun i hi=>?_,H.out.qb,HR.out.inj⟩,Fr.trans' (New.to HNZ.out) HR.out.fr fun k hk hs=>?_,fun i hi=>(HR.out.stay i hi).mono (by omega)⟩
    · exact H.out.map.fr (Fr.trans' (New.to HNZ.out) HR.out.fr fun k hk hs=>hs) (fun hs=>by
       rcases hs with hs | hs
       · exact H.out.ne_map H.out.map hs
       · omega)
    · have h1:=HR.out.que i hi
      show Que _ (Q.b i) (v' i) (toldL p _ Q i)
      unfold toldL
      simpa [HL0.out] using h1
    · rcases hs with hs | hs
      · exact hs
      · omega
  · intro x c kl y py w1 cnt1 hkey hlk hRc hat hrg1 hlt hg1 hs1 hen
    obtain ⟨x',hx',rfl,hxw⟩:=Maps.keyOf_int_inv Tryz.underlying3 hkey
    injection hx' with _ hx'
    subst hx'
    simp only [R0,Option.some.injEq,Prod.mk.injEq] at hRc
    obtain ⟨rfl,rfl⟩:=hRc
    obtain ⟨hx,rfl⟩:=HFIND.out x c hxw hat
    have hrne:∀ i ∈ Q.ids,Q.b i≠w.heap.size + 1∧(v' i).ownBlock≠some (w.heap.size + 1):=fun i hi=>⟨ranges_ne hrg (HR.out.que i hi).blk,fun hs=>by obtain ⟨cs,h1⟩:=(HR.out.que i hi).own.heap hs; exact ranges_ne hrg h1 rfl⟩
    have hn1:Fr (fun k=>k=w.heap.size + 1) wr w1:=Fr.of_grown hg1 fun i hi=>by injection hi with hi; exact hi.symm
    have hFw:Fr Q.foot w w1:=Fr.trans' (Fr.trans' (New.to HNZ.out) HR.out.fr fun k hk hs=>by rcases hs with hs | hs; exact hs; omega) hn1 fun k hk hs=>by omega
    have HA:=Lib.hid (HACC.out w1 x hFw)
    have HRN:=Lib.hid hrne
    have HS1:=Lib.hid hs1
    have hsle:wr.heap.size≤w1.heap.size:=hn1.size
    have hb1:=hn1.blk hbr (by omega)
    have hb1l:=hb1.lt
    clear hs1 hrne hFw
    cases hp:p x with
    | false =>
      rw [hp] at HA
      have HP:=Lib.hid hp
      clear hp
      go_wp2_with fail
      refine HA.out.mono ?_
      rintro e w2 ⟨rfl,rfl⟩
      go_wp2
      go_roundw
      case rel=>exact ⟨v',_,cnt1,HR.out.skip HRN.out hn1 HP.out hrg1⟩
      case measure=>rw [hrg1.left_eq,hrg.left_eq]; exact hlt
    | true =>
      rw [hp] at HA
      have HP:=Lib.hid hp
      clear hp
      go_wp2_with fail
      refine HA.out.mono ?_
      rintro e w2 ⟨rfl,rfl⟩
      have hq1:=(HR.out.que x hx).fr hn1 (fun hs=>(HRN.out x hx).1 hs) (fun g hg hs=>(HRN.out x hx).2 (by rw [hg,hs]))
      rw [if_neg (by rw [hlk]; simp)] at hq1
      have d0:w2.cell? ⟨w.heap.size,0,none⟩=some (.int .i64 k):=hb1.cell 0
      have d1:w2.cell? ⟨w.heap.size,1,none⟩=some (.int .u32 u):=hb1.cell 1
      have d2:w2.cell? ⟨w.heap.size,2,none⟩=some (.int .u8 f):=hb1.cell 2
      have hqa:=hq1.new ((New.refl w2).alloc (.cells #[.int .i64 k,.int .u32 u,.int .u8 f] 232))
      have hpu:=push_any hqa (.slice (some ⟨w2.heap.size,0,none⟩) 1 1) [⟨k,u,f⟩] (rd_block evE (Blk.new _ _ _) [⟨k,u,f⟩] rfl) (by simp) (by have:=HL.out x hx; omega) (fun y hy=>by rw [List.mem_singleton.1 hy]; exact HW.out)
      rw [show ([⟨k,u,f⟩]:List Ev).filter (fun x=>decide (1≤x.k∧x.k≤3))=[⟨k,u,f⟩] by simpa using HK.out] at hpu
      have HPU:=Lib.hid hpu
      have HQ1:=Lib.hid hq1
      clear hpu hqa hq1
      go_wp2_with fail
      refine HPU.out.mono ?_
      rintro e w3 ⟨rfl,vx,hq3,hf3,hst⟩
      have hF:Fr (fun k=>k=w.heap.size + 1∨k=Q.b x∨(v' x).ownBlock=some k) wr w3:=Fr.trans ((fr_or hn1 fun k hk=>.inl hk).alloc _) (fr_or hf3 fun k hk=>.inr hk)
      have hrg3:w3.ranges Tryz.prog 3 R0 q (w.heap.size + 1) nn D (fun k=>left k && !k.sameKey (.int .i64 x)) cnt1:=by
       refine ranges_fr (ranges_fr hrg1 ((New.refl w2).alloc _) id id) hf3 (fun hs=>?_) (fun hs=>?_)
       · rcases hs with hs | hs
         · exact ranges_map_ne hrg1 HQ1.out.blk hs.symm
         · obtain ⟨cs,h1⟩:=HQ1.out.own.heap hs
           exact ranges_map_ne hrg1 h1 rfl
       · rcases hs with hs | hs
         · exact ranges_ne hrg1 HQ1.out.blk hs.symm
         · obtain ⟨cs,h1⟩:=HQ1.out.own.heap hs
           exact ranges_ne hrg1 h1 rfl
      have HT3:=Lib.hid (HR.out.push H.out.qb (fun i hi=>(HR.out.que i hi).own.blk_ne (HR.out.que x hx).blk (by decide)) (fun i hi=>(HR.out.que x hx).own.blk_ne (HR.out.que i hi).blk (by decide))
       (fun i hi g hg=>((HR.out.que i hi).own.block hg).2) HRN.out hx HP.out hlk hq3 hF (Stays.mono hst (by simp; omega)) hrg3)
      have HLE:Hid (w3.rangeLeft q (w.heap.size + 1)=cnt1):=Lib.hid hrg3.left_eq
      have HLE0:Hid (wr.rangeLeft q (w.heap.size + 1)=cnt):=Lib.hid hrg.left_eq
      clear hq3 hf3 hst hF hrg3
      go_wp2
      go_roundw
      case rel=>exact ⟨_,_,cnt1,HT3.out⟩
      case measure=>rw [HLE.out,HLE0.out]; exact hlt
end Go.Proofs.YtliimglbbiebiaaGreatDoor
end

section
namespace Go.Proofs.YtliimglbbiebiaaGreatDoor
open Go.RowKit Go.Maps
section
variable {w0 w w':World} {base:Nat} {S:Sx} {Q:Qs} {M:List Msg} {n t f:Int}
theorem STX.body_ne (h:STX w0 base w S Q M n t f) {v:Value} {l:List Int} (hv:Own (intE .u8) 5 base w v l) {b:Nat} (hb:v.ownBlock=some b):b≠S.s∧b≠S.c∧b≠S.x∧S.u.ownBlock≠some b∧b≠S.q∧¬ Q.foot b∧¬ S.T.foot b:=by
 obtain ⟨cs,h1⟩:=hv.heap hb
 have h2:=(hv.block hb).1
 refine ⟨h1.ne_ h.hd (by decide),Blk.ne_ h1 h.ctr (by decide),Blk.ne_ h1 h.idx.1 (by decide),fun hu=>?_,Ne.symm (h.qx.map.ne_blk h1),h.qx.ne h1 (by decide) (by decide),fun hf=>?_⟩
 · obtain ⟨cs',h3⟩:=h.idx.2.1.heap hu
   exact h1.ne_ h3 (by decide) rfl
 · have:=hf.2
   have:=h.hi
   omega
theorem STX.turnQ {R:Nat→Prop} (h:STX w0 base w S Q M n t f) {Q':Qs} (hq:QX w' S.q Q') (hf:Fr R w w') (hR:∀ k,R k→Q.foot k∨k=S.q) (hQ':∀ k,Q'.foot k→Q.foot k∨w.heap.size≤k):STX w0 base w' S Q' M n t f:=by
 obtain ⟨X,hXm,hX⟩:=h.tbl
 have hqn:=h.q_ne
 have hlo:∀ k,R k→w0.heap.size≤k:=fun k hk=>h.lo k (by rcases hR k hk with hk | hk; exact .inr (.inr (.inr (.inr (.inr (.inr hk))))); exact .inr (.inr (.inr (.inr (.inr (.inl hk))))))
 refine { h with
  hd:=hf.blk h.hd fun hs=>?_
  tbl:=⟨X,hXm,hX.fr hf (fun k hk hT=>?_) (fun v l hv b hb hk=>?_)⟩
  ctr:=hf.blk h.ctr fun hs=>?_
  idx:=h.idx.fr hf (fun hs=>?_) fun b hb hs=>?_
  qx:=hq
  aQ:=fun k hk=>?_
  lo:=fun k hk=>?_
  hb:=Nat.le_trans h.hb hf.size
  new:=New.two h.new hf hlo }
 · rcases hR _ hs with hs | hs
   · exact h.s_ne.2.2.2 hs
   · exact hqn.1 hs.symm
 · rcases hR _ hk with hk | hk
   · exact h.aQ _ hk hT
   · subst hk; exact h.aq hT
 · have h1:=h.body_ne hv hb
   rcases hR _ hk with hk | hk
   · exact h1.2.2.2.2.2.1 hk
   · exact h1.2.2.2.2.1 hk
 · rcases hR _ hs with hs | hs
   · exact h.c_ne.2.2 hs
   · exact hqn.2.1 hs.symm
 · rcases hR _ hs with hs | hs
   · exact h.x_ne.2 hs
   · exact hqn.2.2.1 hs.symm
 · rcases hR _ hs with hs | hs
   · exact h.u_ne b hb hs
   · exact hqn.2.2.2.1 b hb hs.symm
 · rcases hQ' k hk with hk | hk
   · exact h.aQ k hk
   · intro hT
     have h1:=hT.2
     have h2:=h.hi
     have h3:=h.hb
     omega
 · have hnew:=h.new.size
   rcases hk with hk | hk | hk | hk | hk | hk | hk
   · exact h.lo k (.inl hk)
   · exact h.lo k (.inr (.inl hk))
   · exact h.lo k (.inr (.inr (.inl hk)))
   · exact h.lo k (.inr (.inr (.inr (.inl hk))))
   · exact h.lo k (.inr (.inr (.inr (.inr (.inl hk)))))
   · exact h.lo k (.inr (.inr (.inr (.inr (.inr (.inl hk))))))
   · rcases hQ' k hk with hk | hk
     · exact h.lo k (.inr (.inr (.inr (.inr (.inr (.inr hk))))))
     · omega
theorem STX.turn {R:Nat→Prop} (h:STX w0 base w S Q M n t f) (hf:Fr R w w') (hR:∀ k,R k→S.T.foot k∨k=S.c∨k=S.x∨S.u.ownBlock=some k) {u':Value} {M':List Msg} {n' t':Int} (ht:∃ X:List MB,X.map MB.m=M'∧TBX base w' S.T X)
 (hc:Ctr w' S.c n' t' f S.vv S.dd) (hi:IdxU 0 w' S.x u' (M'.map Msg.uid)) (hst:Stays w S.u u') (hl:(M'.length:Int)≤S.cap) (ha:Asc (M'.map Msg.uid)) (hbl:∀ m ∈ M',m.uid < n') (h1:1≤n'∧n'≤4294967295) (h2:0≤t'∧t' < n') :
 STX w0 base w' { S with u:=u' } Q M' n' t' f:=by
 have hlo:∀ k,R k→w0.heap.size≤k:=fun k hk=>h.lo k (by
  rcases hR k hk with hk | hk | hk | hk
  · exact .inl hk
  · exact .inr (.inr (.inl hk))
  · exact .inr (.inr (.inr (.inl hk)))
  · exact .inr (.inr (.inr (.inr (.inl hk)))))
 refine { h with
  hd:=hf.blk h.hd fun hs=>?_
  tbl:=ht
  ctr:=hc
  vd:=h.vd
  idx:=hi
  qx:=h.qx.fr hf (fun hs=>?_) fun k hk hs=>?_
  au:=fun g hg=>?_
  lo:=fun k hk=>?_
  hb:=Nat.le_trans h.hb hf.size
  new:=New.two h.new hf hlo
  len:=hl
  asc:=ha
  below:=hbl
  n1:=h1
  t1:=h2 }
 · rcases hR _ hs with hs | hs | hs | hs
   · exact h.as_ hs
   · exact h.s_ne.1 hs
   · exact h.s_ne.2.1 hs
   · exact h.s_ne.2.2.1 _ hs rfl
 · rcases hR _ hs with hs | hs | hs | hs
   · exact h.aq hs
   · exact h.q_ne.2.1 hs
   · exact h.q_ne.2.2.1 hs
   · exact h.q_ne.2.2.2.1 _ hs rfl
 · rcases hR _ hs with hs | hs | hs | hs
   · exact h.aQ _ hk hs
   · subst hs; exact h.c_ne.2.2 hk
   · subst hs; exact h.x_ne.2 hk
   · exact h.u_ne _ hs hk
 · rcases hst with h3 | ⟨b,h3,h4⟩
   · exact h.au g (h3 ▸ hg)
   · have h3:u'.ownBlock=some b:=h3
     have hg:u'.ownBlock=some g:=hg
     rw [h3] at hg
     cases hg
     intro hT
     have hT:S.T.foot g:=hT
     have:=hT.2
     have:=h.hi
     have:=h.hb
     omega
 · have hnew:=h.new.size
   rcases hk with hk | hk | hk | hk | hk | hk | hk
   · exact h.lo k (.inl hk)
   · exact h.lo k (.inr (.inl hk))
   · exact h.lo k (.inr (.inr (.inl hk)))
   · exact h.lo k (.inr (.inr (.inr (.inl hk))))
   · have hk:u'.ownBlock=some k:=hk
     rcases hst with h3 | ⟨b,h3,h4⟩
     · exact h.lo k (.inr (.inr (.inr (.inr (.inl (h3 ▸ hk))))))
     · rw [h3] at hk
       cases hk
       omega
   · exact h.lo k (.inr (.inr (.inr (.inr (.inr (.inl hk))))))
   · exact h.lo k (.inr (.inr (.inr (.inr (.inr (.inr hk))))))
end
theorem STX.told {w0 w w':World} {base:Nat} {S:Sx} {Q:Qs} {M:List Msg} {n t f:Int} (h:STX w0 base w S Q M n t f) {p:Int→Bool} {ev:Ev} {v':Int→Value} (hq:QX w' S.q (Q.told p ev v')) (hf:Fr Q.foot w w') (hst:∀ i ∈ Q.ids,Stays w (Q.v i) (v' i)) :
 STX w0 base w' S (Q.told p ev v') M n t f:=by
 refine h.turnQ hq hf (fun k hk=>.inl hk) fun k hk=>?_
 obtain ⟨i,hi,hk⟩:=hk
 rcases hk with hk | hk
 · exact .inl ⟨i,hi,.inl hk⟩
 · have hk:(v' i).ownBlock=some k:=hk
   rcases hst i hi with h1 | ⟨b,h1,h2⟩
   · exact .inl ⟨i,hi,.inr (h1 ▸ hk)⟩
   · rw [h1] at hk
     cases hk
     exact .inr h2
def Qs.add (Q:Qs) (i:Int) (b:Nat):Qs:=⟨Q.ids ++ [i],fun j=>if j=i then b else Q.b j,fun j=>if j=i then .slice none 0 0 else Q.v j,fun j=>if j=i then [] else Q.l j⟩
theorem HasMap.congr {P:Program} {K:TypeId} {α:Type} [DecidableEq α] {E:KeyEnc P K α} {w:World} {b:Nat} {l l':List (α × Value)} (h:HasMap E w b l) (he:l=l'):HasMap E w b l':=he ▸ h
theorem QX.add {w w1 w':World} {q:Nat} {Q:Qs} (h:QX w q Q) {i:Int} (hi:i ∉ Q.ids) {b:Nat} (hn:New w w1) (hb:w.heap.size≤b) (hq:Que w1 b (.slice none 0 0) []) (hm:HasMap qKeys w' q (put (Q.ids.map fun i=>(i,.pointer (some ⟨Q.b i,0,none⟩))) i (.pointer (some ⟨b,0,none⟩)))) (hf:One q w1 w'):QX w' q (Q.add i b):=by
 have hne:∀ j ∈ Q.ids,j≠i:=fun j hj e=>hi (e ▸ hj)
 have hm1:get (Q.ids.map fun i=>(i,Value.pointer (some ⟨Q.b i,0,none⟩))) i=none:=by
  rw [get_none_iff,List.map_map]
  intro hh
  obtain ⟨j,hj,he⟩:=List.mem_map.1 hh
  exact hi (by simpa using he ▸ hj)
 have h1:=hm.perm (put_new_perm hm1)
 have hqn:¬ Q.foot q:=h.ne_map h.map
 refine ⟨h1.congr ?_,fun j hj=>?_,fun j hj k hk=>?_,fun j hj k hk g=>?_⟩
 · show _=(Q.ids ++ [i]).map fun j=>(j,Value.pointer (some ⟨if j=i then b else Q.b j,0,none⟩))
   rw [List.map_append]
   congr 1
   · refine List.map_congr_left fun j hj=>?_
     rw [if_neg (hne j hj)]
   · simp
 · have hj:j ∈ Q.ids ++ [i]:=hj
   by_cases hji:j=i
   · subst hji
     simp only [Qs.add,if_true]
     exact hq.fr hf (fun e=>(hm.ne_blk (hf.blk hq.blk fun e2=>((h.map.fr hn id).ne_blk hq.blk) e2.symm)) e.symm) fun g hg=>by cases hg
   · simp only [Qs.add,if_neg hji]
     rcases List.mem_append.1 hj with hj | hj
     · refine ((h.que j hj).new hn).fr hf (fun e=>hqn ⟨j,hj,.inl e.symm⟩) fun g hg e=>hqn ⟨j,hj,.inr (e ▸ hg)⟩
     · exact absurd (List.mem_singleton.1 hj) hji
 · have hj:j ∈ Q.ids ++ [i]:=hj
   have hk:k ∈ Q.ids ++ [i]:=hk
   have hlt:∀ j ∈ Q.ids,Q.b j < w.heap.size:=fun j hj=>(h.que j hj).blk.lt
   by_cases hji:j=i <;> by_cases hki:k=i
   · intro _; rw [hji,hki]
   · simp only [Qs.add,hji,hki,if_true,if_false]
     rcases List.mem_append.1 hk with hk | hk
     · intro e; have:=hlt k hk; omega
     · exact absurd (List.mem_singleton.1 hk) hki
   · simp only [Qs.add,hji,hki,if_true,if_false]
     rcases List.mem_append.1 hj with hj | hj
     · intro e; have:=hlt j hj; omega
     · exact absurd (List.mem_singleton.1 hj) hji
   · simp only [Qs.add,hji,hki,if_false]
     rcases List.mem_append.1 hj with hj | hj
     · rcases List.mem_append.1 hk with hk | hk
       · exact h.qb j hj k hk
       · exact absurd (List.mem_singleton.1 hk) hki
     · exact absurd (List.mem_singleton.1 hj) hji
 · have hj:j ∈ Q.ids ++ [i]:=hj
   have hk:k ∈ Q.ids ++ [i]:=hk
   by_cases hji:j=i <;> by_cases hki:k=i
   · intro _ _; rw [hji,hki]
   · simp only [Qs.add,hji,if_true]
     intro e; cases e
   · simp only [Qs.add,hki,if_true]
     intro _ e; cases e
   · simp only [Qs.add,hji,hki,if_false]
     rcases List.mem_append.1 hj with hj | hj
     · rcases List.mem_append.1 hk with hk | hk
       · exact h.qv j hj k hk g
       · exact absurd (List.mem_singleton.1 hk) hki
     · exact absurd (List.mem_singleton.1 hj) hji
theorem Qs.add_foot {Q:Qs} {i:Int} {b k:Nat} (h:(Q.add i b).foot k):Q.foot k∨k=b:=by
 obtain ⟨j,hj,hk⟩:=h
 have hj:j ∈ Q.ids ++ [i]:=hj
 by_cases hji:j=i
 · simp only [Qs.add,if_pos hji] at hk
   rcases hk with hk | hk
   · exact .inr hk
   · cases hk
 · simp only [Qs.add,if_neg hji] at hk
   rcases List.mem_append.1 hj with hj | hj
   · exact .inl ⟨j,hj,hk⟩
   · exact absurd (List.mem_singleton.1 hj) hji
theorem zeroQ (w:World):(zeroValue 280).run Tryz.prog w=.ok (.pointer none) w:=by kernel_rfl
theorem STX.get_none {w0 w:World} {base:Nat} {S:Sx} {Q:Qs} {M:List Msg} {n t f:Int} (_h:STX w0 base w S Q M n t f) {i:Int} (hi:i ∉ Q.ids):get (Q.ids.map fun i=>(i,Value.pointer (some ⟨Q.b i,0,none⟩))) i=none:=by
 rw [get_none_iff,List.map_map]
 intro hh
 obtain ⟨j,hj,he⟩:=List.mem_map.1 hh
 exact hi (by simpa using he ▸ hj)
theorem STX.get_some {w0 w:World} {base:Nat} {S:Sx} {Q:Qs} {M:List Msg} {n t f:Int} (h:STX w0 base w S Q M n t f) {i:Int} (hi:i ∈ Q.ids):get (Q.ids.map fun i=>(i,Value.pointer (some ⟨Q.b i,0,none⟩))) i=some (.pointer (some ⟨Q.b i,0,none⟩)) :=
 get_of_mem h.qx.map.nd (List.mem_map.2 ⟨i,hi,rfl⟩)
theorem qokI {i:Int} (h0:-9223372036854775808≤i) (h1:i≤9223372036854775807):qKeys.ok i:=by
 show (Lit.int .i64 i).wf=true
 have h2:IntKind.i64.min≤i:=by rw [show IntKind.i64.min=-9223372036854775808 from rfl]; exact h0
 have h3:i≤IntKind.i64.max:=by rw [show IntKind.i64.max=9223372036854775807 from rfl]; exact h1
 simp [Lit.wf,h2]
 exact h1
theorem ssub_any {w0 w:World} {base:Nat} {S:Sx} {Q:Qs} {M:List Msg} {n t f:Int} (h:STX w0 base w S Q M n t f) (i:Int) (h0:0≤i) (h1:i≤9223372036854775807) (hi:i ∉ Q.ids) (hlen:Q.ids.length≤100000) :
 Calls Tryz.prog 127 #[.pointer (some ⟨S.s,0,none⟩),.int .i64 i] w fun e w'=>∃ A c b,e=.returned (.tuple #[.slice A M.length c,.int .i64 0])∧Own (intE .u32) 28 w.heap.size w' (.slice A M.length c) (M.map Msg.uid)∧STX w0 base w' S (Q.add i b) M n t f∧w.heap.size≤b∧Fr (S.foot Q) w w':=by
 have hk:=qokI (by omega) h1
 have hlk:=h.qx.map.run_look (t:=92) (e:=280) Tryz.underlying92 (zeroQ w) hk
 rw [h.get_none hi] at hlk
 simp only [Option.getD_none] at hlk
 change (Instr.lookup 92 (.map (some S.q)) (.int .i64 i) false).run Tryz.prog w=_ at hlk
 have c0:w.cell? ⟨S.s,4,none⟩=some (.map (some S.q)):=h.hd.cell 4
 have hsl:=h.hd.lt
 have hneg:decide (i < 0)=false:=decide_eq_false (by omega)
 have hml:=h.mlen
 have hlm:(Q.ids.map fun i=>(i,Value.pointer (some ⟨Q.b i,0,none⟩))).length < maxLen:=by rw [List.length_map]; unfold maxLen; omega
 have hsq:=h.q_ne.1
 have H:=Lib.hid h
 have HI:=Lib.hid hi
 clear h hi
 go_enter Tryz.func127,Tryz.ntmps127
 go_wp2_with fail
 go_region_held3 (fun w'=>w'.cell? ⟨S.s,4,none⟩=some (.map (some S.q))) (first | go_keep | assumption)
  ((first
    | (go_at_call 183
       refine (qnew_any _).mono ?_
       rintro e w3 ⟨rfl,hq3,hn3⟩
       have hnq:New w w3:=Fr.trans (by repeat' first | exact New.refl _ | apply Fr.drewN | apply Fr.drew) hn3
       have d0:w3.cell? ⟨S.s,4,none⟩=some (.map (some S.q)):=Fr.cell hnq c0 id
       obtain ⟨w4,hr4,hm4,ho4⟩:=(H.out.qx.map.fr hnq id).run_put (t:=92) (e:=280) Tryz.underlying92 hlm hk (.pointer (some ⟨w.heap.size,0,none⟩))
       change (Instr.mapUpdate 92 (.map (some S.q)) (.int .i64 i) (.pointer (some ⟨w.heap.size,0,none⟩))).run Tryz.prog w3=_ at hr4
       have f0:w4.cell? ⟨S.s,4,none⟩=some (.map (some S.q)):=Fr.cell ho4 d0 (Ne.symm hsq))
    | fail))
 have hqx:=QX.add H.out.qx HI.out hnq (Nat.le_refl _) hq3 hm4 ho4
 have hF:Fr (fun k=>k=S.q) w w4:=Fr.trans (New.to hnq) ho4
 have hs4:STX w0 base w4 S (Q.add i w.heap.size) M n t f:=H.out.turnQ hqx hF (fun k hk=>.inr hk) (fun k hk=>by
  rcases Qs.add_foot hk with hk | hk
  · exact .inl hk
  · exact .inr (by omega))
 have HS4:=Lib.hid hs4
 have e2:w4.cell? ⟨S.s,2,none⟩=some (.pointer (some ⟨S.x,0,none⟩)):=hs4.hd.cell 2
 have hw4:w.heap.size≤w4.heap.size:=hF.size
 have HF:=Lib.hid hF
 have hia:=iall_any hs4.idx.at_ (by rw [List.length_map]; omega)
 have HIA:=Lib.hid hia
 clear hqx hs4 hq3 hn3 hm4 ho4 hr4 hF hia hlk
 go_wp2_with fail
 refine HIA.out.mono ?_
 rintro e w5 ⟨o,rfl,ho5,hn5⟩
 obtain ⟨A,c,rfl,_⟩:=ho5.form
 have HO:=Lib.hid ho5
 go_wp2
 go_ret2
 have ho:=HO.out
 rw [List.length_map] at ho
 exact ⟨A,c,_,rfl,ho.mono hw4,HS4.out.more hn5,Nat.le_refl _,Fr.trans (fr_or HF.out fun k hk=>.inr (.inr (.inr (.inr (.inr (.inl hk)))))) (New.to hn5)⟩
end Go.Proofs.YtliimglbbiebiaaGreatDoor
end

section
namespace Go.Proofs.YtliimglbbiebiaaGreatDoor
open Go.RowKit Go.Maps
def Qs.upd (Q:Qs) (i:Int) (v:Value) (l:List Ev):Qs:=⟨Q.ids,Q.b,fun j=>if j=i then v else Q.v j,fun j=>if j=i then l else Q.l j⟩
theorem QX.upd {w w':World} {q:Nat} {Q:Qs} (h:QX w q Q) {i:Int} (hi:i ∈ Q.ids) {v:Value} {l:List Ev} (hf:One (Q.b i) w w') (hq:Que w' (Q.b i) v l) (hv:∀ g,v.ownBlock=some g→w.heap.size≤g):QX w' q (Q.upd i v l):=by
 have hqn:¬ Q.foot q:=h.ne_map h.map
 have hlt:∀ j ∈ Q.ids,∀ g,(Q.v j).ownBlock=some g→g < w.heap.size:=fun j hj g hg=>((h.que j hj).own.block hg).2
 refine ⟨h.map.fr hf (fun e=>hqn ⟨i,hi,.inl e⟩),fun j hj=>?_,h.qb,fun j hj k hk g=>?_⟩
 · have hj:j ∈ Q.ids:=hj
   by_cases hji:j=i
   · subst hji
     simp only [Qs.upd,if_true]
     exact hq
   · simp only [Qs.upd,if_neg hji]
     exact (h.que j hj).fr hf (fun e=>hji (h.qb j hj i hi e)) fun g hg e=>(h.que j hj).own.blk_ne (h.que i hi).blk (by decide) (e ▸ hg)
 · have hj:j ∈ Q.ids:=hj
   have hk:k ∈ Q.ids:=hk
   by_cases hji:j=i <;> by_cases hki:k=i
   · intro _ _; rw [hji,hki]
   · simp only [Qs.upd,if_pos hji,if_neg hki]
     intro h1 h2
     have:=hv g h1
     have:=hlt k hk g h2
     omega
   · simp only [Qs.upd,if_neg hji,if_pos hki]
     intro h1 h2
     have:=hv g h2
     have:=hlt j hj g h1
     omega
   · simp only [Qs.upd,if_neg hji,if_neg hki]
     exact h.qv j hj k hk g
theorem Qs.upd_foot {Q:Qs} {i:Int} {v:Value} {l:List Ev} {k m:Nat} (hv:∀ g,v.ownBlock=some g→m≤g) (h:(Q.upd i v l).foot k):Q.foot k∨m≤k:=by
 obtain ⟨j,hj,hk⟩:=h
 have hj:j ∈ Q.ids:=hj
 rcases hk with hk | hk
 · exact .inl ⟨j,hj,.inl hk⟩
 · by_cases hji:j=i
   · simp only [Qs.upd,if_pos hji] at hk
     exact .inr (hv k hk)
   · simp only [Qs.upd,if_neg hji] at hk
     exact .inl ⟨j,hj,.inr hk⟩
theorem sflush_x {w0 w:World} {base:Nat} {S:Sx} {Q:Qs} {M:List Msg} {n t f:Int} (h:STX w0 base w S Q M n t f) (i:Int) (h0:-9223372036854775808≤i) (h1:i≤9223372036854775807) (hi:i ∈ Q.ids) (gone:Bool) (hlen:(Q.l i).length≤200000000) :
 Calls Tryz.prog 124 #[.pointer (some ⟨S.s,0,none⟩),.int .i64 i,.bool gone] w fun e w'=>∃ A c v',e=.returned (.slice A (squeeze ((Q.l i).filter fun x=>gone || decide (x.k≠2))).length c) ∧
  Own evE 232 w.heap.size w' (.slice A (squeeze ((Q.l i).filter fun x=>gone || decide (x.k≠2))).length c) (squeeze ((Q.l i).filter fun x=>gone || decide (x.k≠2))) ∧
  STX w0 base w' S (Q.upd i v' ((Q.l i).filter fun x=>!(gone || decide (x.k≠2)))) M n t f∧Fr (S.foot Q) w w'∧∀ g,v'.ownBlock=some g→w.heap.size≤g:=by
 have hk:=qokI h0 h1
 have hlk:=h.qx.map.run_look (t:=92) (e:=280) Tryz.underlying92 (zeroQ w) hk
 rw [h.get_some hi] at hlk
 simp only [Option.getD_some] at hlk
 change (Instr.lookup 92 (.map (some S.q)) (.int .i64 i) false).run Tryz.prog w=_ at hlk
 have c0:w.cell? ⟨S.s,4,none⟩=some (.map (some S.q)):=h.hd.cell 4
 have hfl:=flush_any (h.qx.que i hi) gone hlen
 obtain ⟨sq,hsq⟩:∃ sq,squeeze ((Q.l i).filter fun x=>gone || decide (x.k≠2))=sq:=⟨_,rfl⟩
 obtain ⟨rs,hrs⟩:∃ rs,((Q.l i).filter fun x=>!(gone || decide (x.k≠2)))=rs:=⟨_,rfl⟩
 rw [hsq,hrs] at hfl
 rw [hsq,hrs]
 have HFL:=Lib.hid hfl
 have H:=Lib.hid h
 have HI:=Lib.hid hi
 clear h hi hfl hsq hrs
 go_enter Tryz.func124,Tryz.ntmps124
 go_wp2_with fail
 refine HFL.out.mono ?_
 rintro e w2 ⟨o,v',rfl,ho,hq2,hf2,hv2,_⟩
 obtain ⟨A,c,rfl,_⟩:=ho.form
 have HO:=Lib.hid ho
 have hqx:=H.out.qx.upd HI.out hf2 hq2 hv2
 have HS:=Lib.hid (H.out.turnQ hqx hf2 (fun k hk=>.inl ⟨i,HI.out,.inl hk⟩) (fun k hk=>Qs.upd_foot hv2 hk))
 have HF:=Lib.hid (fr_or hf2 (T:=S.foot Q) fun k hk=>.inr (.inr (.inr (.inr (.inr (.inr ⟨i,HI.out,.inl hk⟩))))))
 have HV:=Lib.hid hv2
 clear ho hq2 hf2 hv2 hqx
 go_wp2
 go_ret
 exact ⟨A,c,v',rfl,HO.out,HS.out,HF.out,HV.out⟩
def Qs.none:Qs:=⟨[],fun _=>0,fun _=>.slice .none 0 0,fun _=>[]⟩
theorem snew_any (k:Nat) (k0:0 < k) (k1:k≤16) (cap:Int) (c0:0≤cap) (c1:cap≤4096) (next:Int) (n0:0≤next) (n1:next≤4294967295) (w:World) :
 Calls Tryz.prog 15 #[.int .i64 k,.int .i64 cap,.int .u32 next] w fun e w'=>∃ S base,e=.returned (.pointer (some ⟨S.s,0,none⟩))∧S.cap=cap∧S.T.n=k∧STX w base w' S Qs.none [] (max next 1) 0 (max next 1):=by
 have hd1:decide (cap < 0)=false:=decide_eq_false (by omega)
 have hd2:decide ((4096:Int) < cap)=false:=decide_eq_false (by omega)
 have hmm:=@run_makeMap Tryz.prog
 obtain ⟨mx,hmx⟩:∃ mx,max next 1=mx:=⟨_,rfl⟩
 have hm1:1≤mx∧mx≤4294967295:=by omega
 have hUN:=fun W=>unew_any next W n0 n1
 rw [hmx] at hUN ⊢
 have HUN:=Lib.hid hUN
 have HIN:=Lib.hid (fun W=>inew_any (v:=.slice .none 0 0) (l:=[]) (w:=W) (Rd.nil _ _) (by simp))
 have HN0:Hid (idxOf []=[]):=Lib.hid (by simp [idxOf,compactP])
 clear hUN hmx
 go_enter Tryz.func15,Tryz.ntmps15
 go_wp2_with fail
 refine (tnew_any k k0 k1 _).mono ?_
 rintro e w1 ⟨T,rfl,hTn,hlo,hhi,hT,hn1⟩
 have HT:=Lib.hid hT
 have HTN:=Lib.hid hTn
 have HLO:=Lib.hid hlo
 have HHI:=Lib.hid hhi
 clear hT hTn hlo hhi
 go_wp2_with fail
 refine (HUN.out _).mono ?_
 rintro e w2 ⟨rfl,hc2,hn2⟩
 have HC2:=Lib.hid hc2
 go_wp2_with fail
 refine (HIN.out _).mono ?_
 rintro e w3 ⟨x,u,rfl,hx,hbx,hur,hux,hn3⟩
 rw [HN0.out] at hur
 have HBX:=Lib.hid hbx
 have HUR:=Lib.hid hur
 have HUX:=Lib.hid hux
 clear hbx hur hux hc2
 go_wp2
 go_ret
 have hnew:New w ((w3.alloc (.map #[] 0)).alloc (.cells #[.pointer (some ⟨T.tb,0,none⟩),.pointer (some ⟨w1.heap.size,0,none⟩),.pointer (some ⟨x,0,none⟩),.int .i64 cap,.map (some w3.heap.size)] 94)):=((((hn1.trans hn2).trans hn3).alloc _).alloc _)
 have h3:New w3 ((w3.alloc (.map #[] 0)).alloc (.cells #[.pointer (some ⟨T.tb,0,none⟩),.pointer (some ⟨w1.heap.size,0,none⟩),.pointer (some ⟨x,0,none⟩),.int .i64 cap,.map (some w3.heap.size)] 94)):=((New.refl _).alloc _).alloc _
 have hmap:HasMap qKeys ((w3.alloc (.map #[] 0)).alloc (.cells #[.pointer (some ⟨T.tb,0,none⟩),.pointer (some ⟨w1.heap.size,0,none⟩),.pointer (some ⟨x,0,none⟩),.int .i64 cap,.map (some w3.heap.size)] 94)) w3.heap.size []:=(HasMap.made qKeys w3).alloc _
 have hw1:=hn1.size
 have hw2:=hn2.size
 have hw3:=hn3.size
 have hh:=HHI.out
 have hl:=HLO.out
 refine ⟨⟨w3.heap.size + 1,T,w1.heap.size,x,u,w3.heap.size,cap,0,0⟩,w1.heap.size,by simp,rfl,HTN.out,?_⟩
 refine {
  hd:=Blk.new1 _ _ _ _
  tbl:=⟨[],rfl,(HT.out.new (hn2.trans (hn3.trans h3)))⟩
  ctr:=h3.blk (hn3.blk HC2.out)
  vd:=.inl rfl
  idx:=IdxU.new ⟨HBX.out,HUR.out.mono (Nat.zero_le _),HUX.out⟩ h3
  qx:=⟨hmap,fun i hi=>absurd hi (by simp [Qs.none]),fun i hi=>absurd hi (by simp [Qs.none]),fun i hi=>absurd hi (by simp [Qs.none])⟩
  as_:=fun hT=>by have h1:w3.heap.size + 1 < T.hi:=hT.2; omega
  ac:=fun hT=>by have h1:w1.heap.size < T.hi:=hT.2; omega
  ax:=fun hT=>by have h1:x < T.hi:=hT.2; omega
  aq:=fun hT=>by have h1:w3.heap.size < T.hi:=hT.2; omega
  au:=fun g hg hT=>by have h1:g < T.hi:=hT.2; have h2:=(HUR.out.block hg).1; omega
  aQ:=fun k hk=>by obtain ⟨i,hi,_⟩:=hk; exact absurd hi (by simp [Qs.none])
  lo:=fun k hk=>?_
  hi:=by show T.hi≤_; omega
  hb:=by simp; omega
  new:=hnew
  len:=by simpa using c0
  cap:=c1
  asc:=List.Pairwise.nil
  below:=fun m hm=>absurd hm (by simp)
  n1:=hm1
  t1:=by omega }
 rcases hk with hk | hk | hk | hk | hk | hk | ⟨i,hi,_⟩
 · have h1:T.lo≤k:=hk.1
   omega
 · have hk:k=w3.heap.size + 1:=hk
   omega
 · have hk:k=w1.heap.size:=hk
   omega
 · have hk:k=x:=hk
   omega
 · have h2:=(HUR.out.block (b:=k) hk).1
   omega
 · have hk:k=w3.heap.size:=hk
   omega
 · exact absurd hi (by simp [Qs.none])
end Go.Proofs.YtliimglbbiebiaaGreatDoor
end

section
namespace Go.Proofs.YtliimglbbiebiaaGreatDoor
open Go.RowKit Go.Maps
section
variable {w0 w w':World} {base:Nat} {S:Sx} {Q:Qs} {M:List Msg} {n t f:Int}
theorem STX.not_foot (h:STX w0 base w S Q M n t f) {g:Nat} {ty:TypeId} {cs:Array Value} (hg:Blk w g ty cs) (hb:base≤g) (h1:ty≠94) (h2:ty≠155) (h3:ty≠163) (h4:ty≠28) (h5:ty≠351) (h6:ty≠232):¬ S.foot Q g:=by
 rintro (hk | hk | hk | hk | hk | hk | hk)
 · have:=hk.2
   have:=h.hi
   omega
 · exact hg.ne_ h.hd h1 hk
 · exact Blk.ne_ hg h.ctr h2 hk
 · exact Blk.ne_ hg h.idx.1 h3 hk
 · obtain ⟨cs',h7⟩:=h.idx.2.1.heap hk
   exact hg.ne_ h7 h4 rfl
 · exact h.qx.map.ne_blk hg hk.symm
 · exact h.qx.ne hg h5 h6 hk
theorem STX.not_lo (h:STX w0 base w S Q M n t f) {k:Nat} (hk:k < w0.heap.size):¬ S.foot Q k:=fun hs=>by
 have:=h.lo k hs
 omega
theorem scount_any (h:STX w0 base w S Q M n t f):Calls Tryz.prog 132 #[.pointer (some ⟨S.s,0,none⟩)] w fun e w'=>e=.returned (.int .i64 M.length)∧w'=w:=by
 have e2:w.cell? ⟨S.s,2,none⟩=some (.pointer (some ⟨S.x,0,none⟩)):=h.hd.cell 2
 have hil:=ilen_any h.idx.at_
 rw [List.length_map] at hil
 have HIL:=Lib.hid hil
 clear h hil
 go_enter Tryz.func132,Tryz.ntmps132
 go_wp2_with fail
 refine HIL.out.mono ?_
 rintro e w5 ⟨rfl,rfl⟩
 go_wp2
 go_ret
 exact ⟨rfl,rfl⟩
theorem putC_new {M:List Msg} {m:Msg} (h0:m.uid≠0) (h1:m.fl≤31) (h2:m.body.length≤65536) (h3:∀ x ∈ M,x.uid < m.uid):putC M m=0:=by
 unfold putC
 rw [if_neg (by omega)]
 have:findM M m.uid=none:=findM_none.2 fun x hx=>by have:=h3 x hx; omega
 rw [this]
 rfl
theorem appOf_top {l:List Int} {u:Int} {k:Nat} (hk:FindAt l u k) (hu:u≠0) (hl:∀ y ∈ l,y < u):appOf l u k=(l ++ [u],true):=by
 unfold appOf
 have h1:k=l.length:=by
  rcases hk.2.2 with h | ⟨y,hy,hle⟩
  · exact h
  · have:=hl y (List.mem_of_getElem? hy)
    omega
 rw [if_neg (by omega)]
theorem Asc.snoc {s:List Int} (h:Asc s) {u:Int} (hl:∀ y ∈ s,y < u):Asc (s ++ [u]):=List.pairwise_append.2 ⟨h,by simp,fun a ha b hb=>by rw [List.mem_singleton.1 hb]; exact hl a ha⟩
def Sx.mfoot (S:Sx) (k:Nat):Prop:=S.T.foot k∨k=S.c∨k=S.x∨S.u.ownBlock=some k
theorem Sx.mfoot_foot {S:Sx} {Q:Qs} {k:Nat} (h:S.mfoot k):S.foot Q k:=by
 rcases h with h | h | h | h
 · exact .inl h
 · exact .inr (.inr (.inl h))
 · exact .inr (.inr (.inr (.inl h)))
 · exact .inr (.inr (.inr (.inr (.inl h))))
theorem sput_any (h:STX w0 base w S Q M n t f) (hn:n < 4294967295) (hcap:(M.length:Int) < S.cap) (fl:Int) (hf0:0≤fl∧fl≤31) (A:Option Addr) (len c:Nat) (body:List Int) (hb:Rd (intE .u8) w (.slice A len c) body) (hlen:body.length≤65536)
 (hfar:∀ b,Value.ownBlock (.slice A len c)=some b→body≠[]→¬ S.foot Q b) :
 Calls Tryz.prog 133 #[.pointer (some ⟨S.s,0,none⟩),.int .u8 fl,.slice A len c] w fun e w'=>e=.returned (.tuple #[.int .u32 n,.int .i64 0])∧∃ u',STX w0 base w' { S with u:=u' } Q (M ++ [⟨n,fl,body⟩]) (n + 1) (t + 1) f∧Fr S.mfoot w w'∧Stays w S.u u':=by
 have hn1:=h.n1
 have ht1:=h.t1
 have hml:=h.mlen
 have hxl:=MB.len_eq (x:=⟨⟨n,fl,body⟩,A,len,c⟩) hb
 have e1:w.cell? ⟨S.s,1,none⟩=some (.pointer (some ⟨S.c,0,none⟩)):=h.hd.cell 1
 have HTK:=Lib.hid (take_ok h.ctr (by omega) hn ht1.1 (by omega))
 have H:=Lib.hid h
 have HB:=Lib.hid hb
 have HFAR:=Lib.hid hfar
 dsimp only at hxl
 subst hxl
 clear h hb hfar
 go_enter Tryz.func133,Tryz.ntmps133
 go_wp2_with fail
 refine HTK.out.mono ?_
 rintro e w1 ⟨rfl,hc1,hf1⟩
 have hs1:=hf1.size
 have hd1:=hf1.blk H.out.hd (fun e=>H.out.s_ne.1 e)
 obtain ⟨X,hXm,hX⟩:=H.out.tbl
 have hT1:TBX base w1 S.T X:=hX.fr hf1 (fun k hk=>by subst hk; exact H.out.ac) fun v l hv b hb hk=>(H.out.body_ne hv hb).2.1 hk
 have hi1:=H.out.idx.fr hf1 (fun e=>H.out.c_ne.1 e.symm) (fun b hb e=>H.out.c_ne.2.1 b hb e.symm)
 have hbb:=HB.out.keep (fun b hb hne=>hf1.block b (HB.out.cell_lt hb hne) (fun e=>HFAR.out b hb hne (.inr (.inr (.inl e)))))
 have e0:w1.cell? ⟨S.s,0,none⟩=some (.pointer (some ⟨S.T.tb,0,none⟩)):=hd1.cell 0
 have hXl:X.length≤4096:=by rw [← hXm,List.length_map] at hml; exact hml
 have hbl:∀ x ∈ M,x.uid < n:=H.out.below
 have htp:=tput_any hT1 (Nat.le_trans H.out.hb hs1) (by omega) ⟨⟨n,fl,body⟩,A,body.length,c⟩ (⟨⟨by show 0≤n; omega,hn1.2⟩,⟨hf0.1,by show fl≤255; omega⟩⟩) hbb
 have hpc:putC M ⟨n,fl,body⟩=0:=putC_new (by show n≠0; omega) hf0.2 hlen hbl
 have hpm:putM M ⟨n,fl,body⟩=M ++ [⟨n,fl,body⟩]:=by unfold putM; rw [hpc]; rfl
 rw [hXm] at htp
 dsimp only at htp
 rw [hpc,hpm] at htp
 simp only [MB.val] at htp
 have HTP:=Lib.hid htp
 have HI1:=Lib.hid hi1
 have HD1:=Lib.hid hd1
 have HC1:=Lib.hid hc1
 have HF1:=Lib.hid hf1
 clear htp hpc hpm hbl hbb hi1 hT1 hXm hX hd1 hc1 hf1 hXl
 go_wp2_with fail
 refine HTP.out.mono ?_
 rintro e w2 ⟨rfl,X',hX',hXl',hT2,hf2⟩
 have hd2:=hf2.blk HD1.out H.out.as_
 have hi2:=HI1.out.fr hf2 H.out.ax H.out.au
 have e2:w2.cell? ⟨S.s,2,none⟩=some (.pointer (some ⟨S.x,0,none⟩)):=hd2.cell 2
 have hs2:=hf2.size
 have hia:=iapp_any hi2 (by have:=H.out.hb; omega) (by rw [List.length_map]; omega) n
 have HIA:=Lib.hid hia
 have HX':=Lib.hid hX'
 have HT2:=Lib.hid hT2
 have HI2:=Lib.hid hi2
 have HF2:=Lib.hid hf2
 clear hd2 hi2 hX' hXl' hT2 hf2 hia HTP
 go_wp2_with fail
 refine HIA.out.mono ?_
 rintro e w3 ⟨k,u',rfl,hk,hi3,hf3,hst3⟩
 have hap:appOf (M.map Msg.uid) n k=(M.map Msg.uid ++ [n],true):=appOf_top hk (by omega) (fun y hy=>by obtain ⟨m,hm,rfl⟩:=List.mem_map.1 hy; exact H.out.below m hm)
 rw [hap] at hi3
 have HI3:=Lib.hid hi3
 have HF3:=Lib.hid hf3
 have HST:=Lib.hid hst3
 clear hi3 hf3 hst3 hk hap
 go_wp2
 go_ret2
 have hF:Fr S.mfoot w w3:=Fr.trans (Fr.trans (fr_or HF1.out fun k hk=>.inr (.inl hk)) (fr_or HF2.out fun k hk=>.inl hk)) (fr_or HF3.out fun k hk=>by rcases hk with hk | hk; exact .inr (.inr (.inl hk)); exact .inr (.inr (.inr hk)))
 refine ⟨rfl,u',H.out.turn hF (fun k hk=>hk) ⟨X',HX'.out,HT2.out.fr HF3.out (fun k hk=>?_) fun v l hv b hb hk=>?_⟩ ?_ (by rw [List.map_append]; exact HI3.out) (Stays.mono HST.out (by omega)) ?_ ?_ ?_ (by omega) (by omega),hF,Stays.mono HST.out (by omega)⟩
 · rcases hk with hk | hk
   · subst hk; exact H.out.ax
   · exact H.out.au k hk
 · obtain ⟨cs,h9⟩:=hv.heap hb
   rcases hk with hk | hk
   · exact h9.ne_ HI2.out.1 (by decide) hk
   · obtain ⟨cs',h10⟩:=HI2.out.2.1.heap hk
     exact h9.ne_ h10 (by decide) rfl
 · exact HF3.out.blk (HF2.out.blk HC1.out H.out.ac) fun hk=>by
    rcases hk with hk | hk
    · exact H.out.c_ne.1 hk
    · exact H.out.c_ne.2.1 _ hk rfl
 · simp only [List.length_append,List.length_singleton]; omega
 · rw [List.map_append]
   exact H.out.asc.snoc fun y hy=>by obtain ⟨m,hm,rfl⟩:=List.mem_map.1 hy; exact H.out.below m hm
 · intro m hm
   rcases List.mem_append.1 hm with hm | hm
   · have:=H.out.below m hm; omega
   · rw [List.mem_singleton.1 hm]; show n < n + 1; omega
end
section
variable {w0 w w':World} {base:Nat} {S:Sx} {Q:Qs} {M:List Msg} {n t f:Int}
theorem sappend_range (s:Nat) (w:World) (fl:Int) (A:Option Addr) (len c:Nat) (hb:31 < fl∨65536 < len) :
 Calls Tryz.prog 98 #[.pointer (some ⟨s,0,none⟩),.int .u8 fl,.slice A len c] w fun e w'=>e=.returned (.tuple #[.int .u32 0,.int .i64 2])∧New w w':=by
 by_cases hf:31 < fl
 · have hd:decide (31 < fl)=true:=decide_eq_true hf
   clear hb
   go_enter Tryz.func98,Tryz.ntmps98
   go_wp2
   go_ret2
   exact ⟨rfl,New.refl _⟩
 · have hd:decide (31 < fl)=false:=decide_eq_false hf
   have h2:65536 < len:=by omega
   have hd2:decide (65536 < len)=true:=decide_eq_true h2
   have hd3:decide ((65536:Int) < len)=true:=decide_eq_true (by omega)
   clear hb
   go_enter Tryz.func98,Tryz.ntmps98
   go_wp2
   go_ret2
   exact ⟨rfl,New.refl _⟩
theorem sappend_full (h:STX w0 base w S Q M n t f) (hc:(M.length:Int)=S.cap) (fl:Int) (hf:fl≤31) (A:Option Addr) (len c:Nat) (hb:len≤65536) :
 Calls Tryz.prog 98 #[.pointer (some ⟨S.s,0,none⟩),.int .u8 fl,.slice A len c] w fun e w'=>e=.returned (.tuple #[.int .u32 0,.int .i64 5])∧New w w':=by
 have hd:decide (31 < fl)=false:=decide_eq_false (by omega)
 have hd2:decide (65536 < len)=false:=decide_eq_false (by omega)
 have hd3:decide ((65536:Int) < len)=false:=decide_eq_false (by omega)
 have c3:w.cell? ⟨S.s,3,none⟩=some (.int .i64 S.cap):=h.hd.cell 3
 have hge:decide (S.cap≤(M.length:Int))=true:=decide_eq_true (by omega)
 have H:=Lib.hid h
 clear h hc
 go_enter Tryz.func98,Tryz.ntmps98
 go_wp2_with fail
 go_quiet ((go_at_call 132; exact Calls.quiet_of_same (scount_any (H.out.more (by repeat' first | exact New.refl _ | apply Fr.drewN | apply Fr.drew)))))
 go_wp2
 go_ret2
 exact ⟨rfl,(New.refl _).drewN _⟩
theorem Sx.foot_upd {S:Sx} {u':Value} {k:Nat} (h:Sx.foot { S with u:=u' } Q k) (hst:Stays w S.u u'):S.foot Q k∨w.heap.size≤k:=by
 rcases h with hk | hk | hk | hk | hk | hk | hk
 · exact .inl (.inl hk)
 · exact .inl (.inr (.inl hk))
 · exact .inl (.inr (.inr (.inl hk)))
 · exact .inl (.inr (.inr (.inr (.inl hk))))
 · have hk:u'.ownBlock=some k:=hk
   rcases hst with h3 | ⟨b,h3,h4⟩
   · exact .inl (.inr (.inr (.inr (.inr (.inl (h3 ▸ hk))))))
   · rw [h3] at hk
     cases hk
     exact .inr h4
 · exact .inl (.inr (.inr (.inr (.inr (.inr (.inl hk))))))
 · exact .inl (.inr (.inr (.inr (.inr (.inr (.inr hk))))))
theorem sappend_any (h:STX w0 base w S Q M n t f) (hc:(M.length:Int) < S.cap) (hn:n < 4294967295) (hQ:∀ i ∈ Q.ids,(Q.l i).length≤100000000) (fl:Int) (hf:0≤fl∧fl≤31) (A:Option Addr) (len c:Nat) (body:List Int) (hb:Rd (intE .u8) w (.slice A len c) body) (hlen:body.length≤65536)
 (hfar:∀ b,Value.ownBlock (.slice A len c)=some b→body≠[]→¬ S.foot Q b) :
 Calls Tryz.prog 98 #[.pointer (some ⟨S.s,0,none⟩),.int .u8 fl,.slice A len c] w fun e w'=>e=.returned (.tuple #[.int .u32 n,.int .i64 0]) ∧
  ∃ u' v',STX w0 base w' { S with u:=u' } (Q.told (fun _=>true) ⟨1,n,0⟩ v') (M ++ [⟨n,fl,body⟩]) (n + 1) (t + 1) f∧Fr (S.foot Q) w w'∧Stays w S.u u'∧∀ i ∈ Q.ids,Stays w (Q.v i) (v' i):=by
 have hxl:=MB.len_eq (x:=⟨⟨n,fl,body⟩,A,len,c⟩) hb
 dsimp only at hxl
 subst hxl
 have hn1:=h.n1
 have hd:decide (31 < fl)=false:=decide_eq_false (by omega)
 have hd2:decide (65536 < body.length)=false:=decide_eq_false (by omega)
 have hd3:decide ((65536:Int) < body.length)=false:=decide_eq_false (by omega)
 have c3:w.cell? ⟨S.s,3,none⟩=some (.int .i64 S.cap):=h.hd.cell 3
 have hge:decide (S.cap≤(M.length:Int))=false:=decide_eq_false (by omega)
 have hE:=enters _ _ _ Tryz.func135 (by kernel_rfl) rfl
 have H:=Lib.hid h
 have HB:=Lib.hid hb
 have HFAR:=Lib.hid hfar
 have HQ:=Lib.hid hQ
 have HE:=Lib.hid hE
 have hwf:(⟨1,n,0⟩:Ev).wf:=⟨(by decide:(Lit.int .i64 1).wf=true),okU (k:=n) (by omega) (by omega),(by decide:(Lit.int .u8 0).wf=true)⟩
 have HWF:=Lib.hid hwf
 clear h hb hfar hQ hwf hE
 go_enter Tryz.func98,Tryz.ntmps98
 go_wp2_with fail
 go_quiet ((go_at_call 132; exact Calls.quiet_of_same (scount_any (H.out.more (by repeat' first | exact New.refl _ | apply Fr.drewN | apply Fr.drew)))))
 go_wp2_with fail
 have hnd:=fun a=>(New.refl w).drewN a
 refine (sput_any (H.out.more (hnd _)) hn hc fl hf A body.length c body (HB.out.new (hnd _)) hlen HFAR.out).mono ?_
 rintro e w1 ⟨rfl,u',hS1,hf1,hst1⟩
 have hS1':=hS1
 have hte:=tell_any hS1.hd hS1.qx HQ.out ⟨1,n,0⟩ HWF.out (by simp) 135 #[] (fun _=>true) HE.out (fun W i _=>by have:=everyone_any i W; simpa using this)
 simp only [Ev.val] at hte
 have HTE:=Lib.hid hte
 have HS1:=Lib.hid hS1'
 have HF1:=Lib.hid hf1
 have HST:=Lib.hid hst1
 clear hS1 hS1' hte hf1 hst1 hnd
 go_wp2_with fail
 refine HTE.out.mono ?_
 rintro e w2 ⟨rfl,v',hq2,hf2,hv2⟩
 have HS2:=Lib.hid (HS1.out.told hq2 hf2 hv2)
 have HF2:=Lib.hid hf2
 have HV2:=Lib.hid hv2
 clear hq2 hf2 hv2
 go_wp2
 go_ret2
 refine ⟨rfl,u',v',HS2.out,?_,HST.out,fun i hi=>Stays.mono (HV2.out i hi) (by have:=HF1.out.size; simpa using this)⟩
 have h1:Fr (S.foot Q) w w1:=Fr.trans (New.to ((New.refl w).drewN _)) (fr_or HF1.out fun k hk=>Sx.mfoot_foot hk)
 exact Fr.trans h1 (fr_or HF2.out fun k hk=>.inr (.inr (.inr (.inr (.inr (.inr hk))))))
end
end Go.Proofs.YtliimglbbiebiaaGreatDoor
end

