/- A part of the proof: Flg, SortP, Sort1, Sort4, Sort2. -/
import Derived.Test.YtliimglbbiebiaaGreatDoorGTopPairsAC
import Derived.Test.YtliimglbbiebiaaGreatDoorGTopPairsAA
import Derived.Sort.Defs
import Derived.Deep.Draws
import Derived.Test.YtliimglbbiebiaaGreatDoorRows
import Derived.WalkKit
import Derived.WalkSpells
import Derived.WalkLawsBesides
import Derived.Deep.QuietTactic
import Derived.BigQuiet
import Derived.BigGuard
import Derived.RegionTactic
import Derived.Lib.Hide
import Derived.Sort.LotD1
import Derived.Sort.LotD4
set_option maxRecDepth 100000
set_option maxHeartbeats 6400000
section
namespace Go.Proofs.YtliimglbbiebiaaGreatDoor
open Go.RowKit Go.Maps
theorem Blk.new3 (w:World) (o o' o'':Obj) (t:TypeId) (cs:Array Value):Blk ((((w.alloc o).alloc o').alloc o'').alloc (.cells cs t)) (w.heap.size + 3) t cs:=by
 have h:=Blk.new2 (w.alloc o) o' o'' t cs
 rwa [World.size_alloc] at h
theorem Blk.new4 (w:World) (o o' o'' o3:Obj) (t:TypeId) (cs:Array Value):Blk (((((w.alloc o).alloc o').alloc o'').alloc o3).alloc (.cells cs t)) (w.heap.size + 4) t cs:=by
 have h:=Blk.new3 (w.alloc o) o' o'' o3 t cs
 rwa [World.size_alloc] at h
theorem loadFlags {w:World} {g:Nat} {a:Value} (h:Blk w g 45 #[a]):(loadVar 45 ⟨g,0,none⟩).run Tryz.prog w=.ok a w :=
 run_loadVar_one Tryz.underlying45 rfl (h.cell 0)
theorem loadCode {w:World} {g:Nat} {a:Value} (h:Blk w g 198 #[a]):(loadVar 198 ⟨g,0,none⟩).run Tryz.prog w=.ok a w :=
 run_loadVar_one Tryz.underlying198 rfl (h.cell 0)
abbrev flW (w:World) (k mode f e:Int):World:=((((w.alloc (.cells #[.int .u32 k] 28)).alloc (.cells #[.int .i64 mode] 3)).alloc (.cells #[.int .u8 f] 45)).alloc (.cells #[.int .u8 0] 45)).alloc (.cells #[.int .i64 e] 198)
theorem tflags_any {base:Nat} {w:World} {T:Tb} {X:List MB} (h:TBX base w T X) (hX:X.length≤100000) (k mode f:Int) (hk0:0≤k) (hk1:k≤4294967295) (hf:0≤f∧f≤255) (hm:(Lit.int .i64 mode).wf=true) :
 Calls Tryz.prog 196 #[.pointer (some ⟨T.tb,0,none⟩),.int .u32 k,.int .i64 mode,.int .u8 f] w fun e w'=>e=.returned (.tuple #[.int .u8 (flX (X.map MB.m) k mode f),.int .i64 (flC (X.map MB.m) k mode f)]) ∧
  ∃ X',X'.map MB.m=flM (X.map MB.m) k mode f∧X'.length=X.length∧TBX base w' T X'∧Fr T.foot w w':=by
 obtain ⟨i,hi,hin⟩:=h.stripe k
 have hget:=get_ent T.n hi X
 have hmf:∀ (fn:Fn) (first cap:Array Value) (w:World),(Instr.makeFunc fn first cap).run Tryz.prog w=.ok (.func fn first cap) w:=fun _ _ _ _=>rfl
 have hE:=enters _ _ _ Tryz.func247 (by kernel_rfl) rfl
 obtain ⟨wq,hwq⟩:∃ wq,wq=flW w k mode f 0:=⟨_,rfl⟩
 have hn1:New w wq:=by rw [hwq]; exact (((((New.refl w).alloc _).alloc _).alloc _).alloc _).alloc _
 have hqs:wq.heap.size=w.heap.size + 5:=by rw [hwq]; simp
 have bk:Blk wq w.heap.size 28 #[.int .u32 k]:=by rw [hwq]; exact ((((Blk.new _ _ _).alloc _).alloc _).alloc _).alloc _
 have bm:Blk wq (w.heap.size + 1) 3 #[.int .i64 mode]:=by rw [hwq]; exact (((Blk.new1 _ _ _ _).alloc _).alloc _).alloc _
 have bf:Blk wq (w.heap.size + 2) 45 #[.int .u8 f]:=by rw [hwq]; exact ((Blk.new2 _ _ _ _ _).alloc _).alloc _
 have bo:Blk wq (w.heap.size + 3) 45 #[.int .u8 0]:=by rw [hwq]; exact (Blk.new3 _ _ _ _ _ _).alloc _
 have be:Blk wq (w.heap.size + 4) 198 #[.int .i64 0]:=by rw [hwq]; exact Blk.new4 _ _ _ _ _ _ _
 have hT:=h.new hn1
 have c0:wq.cell? ⟨T.tb,0,none⟩=some (.slice (some ⟨T.pb,0,none⟩) T.n T.c):=hT.hd.cell 0
 have cg:wq.cell? ⟨w.heap.size,0,none⟩=some (.int .u32 k):=bk.cell 0
 have cp:=hT.ptr hin
 have hiI:(0:Int)≤(i:Int):=by omega
 have hnI:(i:Int) < (T.n:Int):=by omega
 have hql:=hT.part_lt hin
 have hwl:=h.part_lt hin
 have htop:=h.top
 have hmq:T.mb i≠T.q i:=(hT.map i hin).ne_blk (hT.part i hin)
 have hkq:w.heap.size≠T.q i:=bk.ne_ (hT.part i hin) (by decide)
 have hmdq:w.heap.size + 1≠T.q i:=bm.ne_ (hT.part i hin) (by decide)
 have hfq:w.heap.size + 2≠T.q i:=bf.ne_ (hT.part i hin) (by decide)
 have hoq:w.heap.size + 3≠T.q i:=bo.ne_ (hT.part i hin) (by decide)
 have heq:w.heap.size + 4≠T.q i:=be.ne_ (hT.part i hin) (by decide)
 have hok:uKeys.ok k:=okU hk0 hk1
 have hlen:=h.len i
 have hm1:=(hT.map i hin).drew.setCell (a:=⟨T.q i,0,none⟩) hmq (.int .i32 1)
 have hsz:(wq.drew.setCell ⟨T.q i,0,none⟩ (.int .i32 1)).heap.size=w.heap.size + 5:=by simp [World.setCell]; exact hqs
 have bk1:=bk.drew.far (p:=⟨T.q i,0,none⟩) hkq (.int .i32 1)
 have bm1:=bm.drew.far (p:=⟨T.q i,0,none⟩) hmdq (.int .i32 1)
 have bf1:=bf.drew.far (p:=⟨T.q i,0,none⟩) hfq (.int .i32 1)
 have bo1:=bo.drew.far (p:=⟨T.q i,0,none⟩) hoq (.int .i32 1)
 have be1:=be.drew.far (p:=⟨T.q i,0,none⟩) heq (.int .i32 1)
 have HD:Hid (Calls Tryz.prog 191 #[.pointer (some ⟨T.q i,0,none⟩),.func (.func 247) #[] #[.pointer (some ⟨w.heap.size,0,none⟩),.pointer (some ⟨w.heap.size + 4,0,none⟩),.pointer (some ⟨w.heap.size + 1,0,none⟩),.pointer (some ⟨w.heap.size + 2,0,none⟩),.pointer (some ⟨w.heap.size + 3,0,none⟩)]] wq.drew fun e w'=>e=.returned (.tuple #[]) ∧
  (∃ X',X'.map MB.m=flM (X.map MB.m) k mode f∧X'.length=X.length∧TBX base w' T X'∧Fr T.foot w w') ∧
  Blk w' w.heap.size 28 #[.int .u32 k]∧Blk w' (w.heap.size + 3) 45 #[.int .u8 (flX (X.map MB.m) k mode f)]∧Blk w' (w.heap.size + 4) 198 #[.int .i64 (flC (X.map MB.m) k mode f)]):=by
  refine (tdo_any h (hn1.drew) hin 247 #[.pointer (some ⟨w.heap.size,0,none⟩),.pointer (some ⟨w.heap.size + 4,0,none⟩),.pointer (some ⟨w.heap.size + 1,0,none⟩),.pointer (some ⟨w.heap.size + 2,0,none⟩),.pointer (some ⟨w.heap.size + 3,0,none⟩)]
   (fun X' w2=>(X'.map MB.m=flM (X.map MB.m) k mode f∧X'.length=X.length)∧Blk w2 w.heap.size 28 #[.int .u32 k]∧Blk w2 (w.heap.size + 3) 45 #[.int .u8 (flX (X.map MB.m) k mode f)]∧Blk w2 (w.heap.size + 4) 198 #[.int .i64 (flC (X.map MB.m) k mode f)]) hE ?_).mono ?_
  · by_cases hyes:∃ x v,findX X k=some x∧chg x.m.fl mode f=some v
    · obtain ⟨x,v,hx,hv⟩:=hyes
      have hxm:=findX_mem hx
      have hxo:=(h.ok x hxm.1).1.2
      have hv0:=chg_ok hv hf.1
      have hfm:findM (X.map MB.m) k=some x.m:=by rw [findX_map,hx]; rfl
      have e1:flX (X.map MB.m) k mode f=v:=by unfold flX; rw [hfm]; simp [hv]
      have e2:flC (X.map MB.m) k mode f=0:=by unfold flC; rw [hfm]; simp [hv]
      have e3:flM (X.map MB.m) k mode f=setF (X.map MB.m) k v:=by unfold flM; rw [e2,if_pos rfl,e1]
      have huq:∀ y ∈ X,y.m.uid=k→y=x:=fun y hy he=>by
       have h1:=findM_of_mem (M:=X.map MB.m) (by rw [List.map_map]; exact h.nd) (List.mem_map.2 ⟨y,hy,rfl⟩)
       obtain ⟨a,ha⟩:=List.mem_iff_getElem?.1 hy
       obtain ⟨b,hb⟩:=List.mem_iff_getElem?.1 hxm.1
       have h2:(X.map fun x=>x.m.uid)[a]? = (X.map fun x=>x.m.uid)[b]?:=by rw [List.getElem?_map,List.getElem?_map,ha,hb]; simp [he,hxm.2]
       have h3:=(List.getElem?_inj (by rw [List.length_map]; exact (List.getElem?_eq_some_iff.1 ha).1) h.nd).1 h2
       subst h3
       rw [ha] at hb
       cases hb
       rfl
      have hmemS:∀ y ∈ setX X k v,∃ z ∈ X,y.bv=z.bv∧y.m.body=z.m.body∧y.m.uid=z.m.uid∧(y.m.fl=z.m.fl∨y.m.fl=v):=fun y hy=>by
       unfold setX at hy
       obtain ⟨z,hz,rfl⟩:=List.mem_map.1 hy
       refine ⟨z,hz,?_⟩
       by_cases hzk:z.m.uid=k
       · rw [if_pos hzk]; exact ⟨rfl,rfl,rfl,.inr rfl⟩
       · rw [if_neg hzk]; exact ⟨rfl,rfl,rfl,.inl rfl⟩
      have hnd:((setX X k v).map fun x=>x.m.uid)=X.map fun x=>x.m.uid:=by
       unfold setX
       rw [List.map_map]
       refine List.map_congr_left fun z _=>?_
       simp only [Function.comp]
       split <;> rfl
      refine (flags1_yes (w:=wq.drew.setCell ⟨T.q i,0,none⟩ (.int .i32 1)) (eb:=w.heap.size + 4) hm1 (by unfold maxLen; omega) hok bk1 bm1 bf1 bo1 (by rw [hget,hx]; rfl) hf hm ⟨hxo.1,by omega⟩ hv).mono ?_
      rintro e w2 ⟨rfl,h5,h6,h7⟩
      refine ⟨rfl,setX X k v,?_,fr_or h7 fun _ h=>by rcases h with h | h; exact .inl h; exact .inr (by omega),fun y hy=>?_,fun j hj hjn=>ent_set_other (by rw [hi]; omega) v X,by rw [hnd]; exact h.nd,fun y hy=>?_,⟨by rw [e3,setX_map],by unfold setX; simp⟩,h7.blk bk1 (by omega),by rw [e1]; exact h5,by rw [e2]; exact h7.blk be1 (by omega)⟩
      · rw [ent_set X huq]
        refine h6.perm (put_set_perm (v0:=x.val) hm1.nd ?_)
        rw [hget,hx]; rfl
      · obtain ⟨z,hz,e4,e5,_⟩:=hmemS y hy
        rw [e4,e5]
        exact .inl (h.body z hz)
      · obtain ⟨z,hz,e4,e5,e6,e7⟩:=hmemS y hy
        have h8:=h.ok z hz
        refine ⟨⟨by rw [e6]; exact h8.1.1,?_⟩,by rw [e5]; exact h8.2⟩
        rcases e7 with e7 | e7
        · rw [e7]; exact h8.1.2
        · rw [e7]; exact hv0
    · have hno:∀ x,findX X k=some x→chg x.m.fl mode f=none:=fun x hx=>by
       cases hc:chg x.m.fl mode f with
       | none=>rfl
       | some v=>exact absurd ⟨x,v,hx,hc⟩ hyes
      have hwf:∀ x,findX X k=some x→0≤x.m.fl∧x.m.fl≤255:=fun x hx=>by
       have:=(h.ok x (findX_mem hx).1).1.2
       omega
      have e1:flX (X.map MB.m) k mode f=0:=by
       unfold flX; rw [findX_map]
       cases hx:findX X k with
       | none=>rfl
       | some x=>simp [hno x hx]
      have e2:flC (X.map MB.m) k mode f=if (findX X k).isSome then 2 else 7:=by
       unfold flC; rw [findX_map]
       cases hx:findX X k with
       | none=>rfl
       | some x=>simp [hno x hx]
      have e3:flM (X.map MB.m) k mode f=X.map MB.m:=by
       unfold flM
       rw [if_neg]
       rw [e2]
       split <;> omega
      refine (flags1_no (w:=wq.drew.setCell ⟨T.q i,0,none⟩ (.int .i32 1)) (ob:=w.heap.size + 3) hm1 hok bk1 be1 bm1 bf1 hget hf hm hwf hno).mono ?_
      rintro e w2 ⟨rfl,h5,h6⟩
      exact ⟨rfl,X,hm1.fr h6 (by omega),fr_or h6 fun _ h=>.inr (by omega),fun x hx=>.inl (h.body x hx),fun _ _ _=>rfl,h.nd,h.ok,⟨e3.symm,rfl⟩,h6.blk bk1 (by omega),by rw [e1]; exact h6.blk bo1 (by omega),by rw [e2]; exact h5⟩
  · rintro e w' ⟨rfl,X',w2,rfl,⟨⟨h4,h4'⟩,h5,h6,h6'⟩,h7,h8⟩
    exact ⟨rfl,⟨X',h4,h4',h7,h8⟩,h5.far (p:=⟨T.q i,0,none⟩) hkq _,h6.far (p:=⟨T.q i,0,none⟩) hoq _,h6'.far (p:=⟨T.q i,0,none⟩) heq _⟩
 generalize flX (X.map MB.m) k mode f=rx at *
 generalize flC (X.map MB.m) k mode f=rc at *
 unfold flW at hwq
 have HWQ:=Lib.hid hwq
 clear hget bk1 bm1 bf1 bo1 be1 hm1 hm hf
 go_enter Tryz.func196,Tryz.ntmps196
 go_wp2_with fail
 rw [← HWQ.out]
 clear HWQ hwq
 go_region_held3 (fun w'=>w'.cell? ⟨T.tb,0,none⟩=some (.slice (some ⟨T.pb,0,none⟩) T.n T.c)∧w'.cell? ⟨w.heap.size,0,none⟩=some (.int .u32 k)∧w'.cell? ⟨T.pb,i,none⟩=some (.pointer (some ⟨T.q i,0,none⟩))) (first | go_keep | (refine ⟨?_,?_,?_⟩ <;> assumption))
  ((first
    | (go_at_call 238
       refine (tof_any (hT.new (by repeat' first | exact New.refl _ | apply Fr.drewN | apply Fr.drew)) k (by omega) (by omega)).mono ?_
       rw [hi]
       rintro e w3 ⟨rfl,rfl⟩)
    | (go_at_call 191
       refine HD.out.mono ?_
       rintro e w4 ⟨rfl,⟨X',hX1,hX2,hTn,hTf⟩,h5,h6,h7⟩
       have k0:w4.cell? ⟨T.tb,0,none⟩=some (.slice (some ⟨T.pb,0,none⟩) T.n T.c):=hTn.hd.cell 0
       have k1:w4.cell? ⟨w.heap.size,0,none⟩=some (.int .u32 k):=h5.cell 0
       have k2:w4.cell? ⟨T.pb,i,none⟩=some (.pointer (some ⟨T.q i,0,none⟩)):=hTn.ptr hin)
    | fail))
 all_goals
  clear cg c0 cp HD k0 k1 k2
  have g0:w4.drew.cell? ⟨w.heap.size + 1 + 1 + 1,0,none⟩=some (.int .u8 rx):=h6.cell 0
  have o0:w4.drew.cell? ⟨w.heap.size + 1 + 1 + 1 + 1,0,none⟩=some (.int .i64 rc):=h7.cell 0
  have g0':w4.cell? ⟨w.heap.size + 1 + 1 + 1,0,none⟩=some (.int .u8 rx):=h6.cell 0
  have o0':w4.cell? ⟨w.heap.size + 1 + 1 + 1 + 1,0,none⟩=some (.int .i64 rc):=h7.cell 0
  have y0':w4.frozen? ⟨w.heap.size + 1 + 1 + 1,0,none⟩=false:=h6.frozen 0
  have y3':w4.frozen? ⟨w.heap.size + 1 + 1 + 1 + 1,0,none⟩=false:=h7.frozen 0
  have y0:w4.drew.frozen? ⟨w.heap.size + 1 + 1 + 1,0,none⟩=false:=h6.frozen 0
  have y3:w4.drew.frozen? ⟨w.heap.size + 1 + 1 + 1 + 1,0,none⟩=false:=h7.frozen 0
  go_wp2_with fail
  go_region
 all_goals
  go_wp2
  have hF:Fr (fun k=>k=w.heap.size + 3∨k=w.heap.size + 4) w4 (((w4.setCell ⟨w.heap.size + 1 + 1 + 1,0,none⟩ (.int .u8 rx)).setCell ⟨w.heap.size + 1 + 1 + 1 + 1,0,none⟩ (.int .i64 rc)).drew) :=
   (((Fr.refl _ _).setCell (fun _=>.inl rfl) _).setCell (fun _=>.inr rfl) _).drew
  have e6:Blk (((w4.setCell ⟨w.heap.size + 1 + 1 + 1,0,none⟩ (.int .u8 rx)).setCell ⟨w.heap.size + 1 + 1 + 1 + 1,0,none⟩ (.int .i64 rc)).drew) (w.heap.size + 1 + 1 + 1) 45 #[.int .u8 rx] :=
   ((h6.set_ 0 _).far (by simp) _).drew
  have e7:Blk (((w4.setCell ⟨w.heap.size + 1 + 1 + 1,0,none⟩ (.int .u8 rx)).setCell ⟨w.heap.size + 1 + 1 + 1 + 1,0,none⟩ (.int .i64 rc)).drew) (w.heap.size + 1 + 1 + 1 + 1) 198 #[.int .i64 rc] :=
   ((h7.far (by simp) _).set_ 0 _).drew
  have hFw:=Fr.trans' hTf hF (fun k hk hs=>by rcases hs with rfl | rfl <;> omega)
  refine bodyPost_ret (results_cells rfl _ _ rfl rfl (loadFlags e6) (loadCode e7)) rfl ?_
  refine ⟨rfl,X',hX1,hX2,hTn.fr hF (fun k hk hft=>?_) (fun v l hv b hb hs=>?_),hFw⟩
  · have h1:=hft.2
    rcases hk with rfl | rfl <;> omega
  · obtain ⟨cs,h1⟩:=hv.heap hb
    rcases hs with rfl | rfl
    · exact h1.ne_ h6 (by decide) rfl
    · exact h1.ne_ h7 (by decide) rfl
end Go.Proofs.YtliimglbbiebiaaGreatDoor
end

section
namespace Go.Proofs.YtliimglbbiebiaaGreatDoor
open Go.RowKit Go.Sort
def SRow (te:TypeId) (base:Nat) (w:World) (g c:Nat) (d:Array Int):Prop:=Own (intE .u32) te base w (.slice (some ⟨g,0,none⟩) d.size c) d.toList
section
variable {te:TypeId} {base g c:Nat} {w w':World} {d:Array Int}
theorem SRow.cell (h:SRow te base w g c d) {t:Nat} (ht:t < d.size):w.cell? ⟨g,t,none⟩=some (.int .u32 d[t]!):=by
 refine Own.icell h ?_
 rw [Array.getElem?_toList,Array.getElem?_eq_getElem ht,getElem!_pos d t ht]
theorem SRow.frozen (h:SRow te base w g c d) (t:Nat):w.frozen? ⟨g,t,none⟩=false:=Own.ifrozen h t
theorem SRow.fr {S:Nat→Prop} (h:SRow te base w g c d) (hf:Fr S w w') (hS:¬ S g):SRow te base w' g c d:=Own.fr h hf fun b hb=>by cases hb; exact hS
theorem SRow.drewN (h:SRow te base w g c d) (n:Nat):SRow te base (w.drewN n) g c d:=h
theorem SRow.new (h:SRow te base w g c d) (hf:New w w'):SRow te base w' g c d:=h.fr hf id
theorem SRow.lt (h:SRow te base w g c d):g < w.heap.size:=(Own.block h rfl).2
theorem SRow.swap (h:SRow te base w g c d) (i j:Nat) :
 SRow te base ((w.setCell ⟨g,i,none⟩ (.int .u32 d[j]!)).setCell ⟨g,j,none⟩ (.int .u32 d[i]!)) g c (swp d i j):=by
 have h1:=(Own.istored (Own.istored h i d[j]!) j d[i]!)
 unfold SRow swp
 have:((d.setIfInBounds i d[j]!).setIfInBounds j d[i]!).toList=(d.toList.set i d[j]!).set j d[i]!:=by simp
 rw [this]
 simpa using h1
end
theorem SRow.one {te:TypeId} {base g c:Nat} {w:World} {d:Array Int} (h:SRow te base w g c d) (i:Nat) (v:Int):SRow te base (w.setCell ⟨g,i,none⟩ (.int .u32 v)) g c (d.setIfInBounds i v):=by
 have h1:=Own.istored h i v
 unfold SRow
 rw [Array.toList_setIfInBounds,Array.size_setIfInBounds]
 exact h1
theorem SRow.two0 {te:TypeId} {base g c:Nat} {w:World} {d:Array Int} (h:SRow te base w g c d) (i j:Nat):SRow te base ((w.setCell ⟨g,i,none⟩ (.int .u32 d[j]!)).setCell ⟨g,j,none⟩ (.int .u32 d[i]!)).drew g c (swp d i j):=h.swap i j
theorem One.two0 {g:Nat} {a w:World} (h:One g a w) (i j:Nat) (u v:Value):One g a ((w.setCell ⟨g,i,none⟩ u).setCell ⟨g,j,none⟩ v).drew:=Fr.drew (One.set (One.set h i u) j v)
theorem SRow.again {te:TypeId} {base g c:Nat} {w:World} {d:Array Int} (h:SRow te base w g c d) (i j:Nat) (v:Int) (hj:j < d.size):∃ z,(w.setCell ⟨g,i,none⟩ (.int .u32 v)).cell? ⟨g,j,none⟩=some z :=
 ⟨_,(h.one i v).cell (by rw [Array.size_setIfInBounds]; exact hj)⟩
theorem One.two {g:Nat} {a w:World} (h:One g a w) (n i j:Nat) (u v:Value):One g a (((w.drewN n).setCell ⟨g,i,none⟩ u).setCell ⟨g,j,none⟩ v):=One.set (One.set (Fr.drewN h n) i u) j v
theorem SRow.two {te:TypeId} {base g c:Nat} {w:World} {d:Array Int} (h:SRow te base w g c d) (n i j:Nat):SRow te base (((w.drewN n).setCell ⟨g,i,none⟩ (.int .u32 d[j]!)).setCell ⟨g,j,none⟩ (.int .u32 d[i]!)) g c (swp d i j):=by
 have h1:=(h.drewN n).swap i j
 exact h1
theorem swp_size (d:Array Int) (i j:Nat):(swp d i j).size=d.size:=by simp [swp]
section
variable {lt:Int→Int→Bool}
theorem insInner_go' (a j:Nat) (d:Array Int) (hj:a < j) (hl:lt d[j]! d[j - 1]! = true):insInner lt a j d=insInner lt a (j - 1) (swp d j (j - 1)):=by
 obtain ⟨k,rfl⟩:∃ k,j=k + 1:=⟨j - 1,by omega⟩
 conv=>lhs; unfold insInner
 simp only [Nat.add_sub_cancel] at hl ⊢
 rw [hl,decide_eq_true (by omega:k + 1 > a)]
 rfl
theorem insInner_stop' (a j:Nat) (d:Array Int) (h:j≤a∨lt d[j]! d[j - 1]! = false):insInner lt a j d=d:=by
 cases j with
 | zero=>rfl
 | succ k =>
   unfold insInner
   simp only [Nat.add_sub_cancel] at h
   rcases h with h | h
   · rw [decide_eq_false (by omega)]; rfl
   · rw [h,Bool.and_false]; rfl
theorem insOuter_go' (a b i:Nat) (d:Array Int) (h:i < b):insOuter lt a b i d=insOuter lt a b (i + 1) (insInner lt a i d):=by rw [insOuter,if_pos h]
theorem insOuter_stop' (a b i:Nat) (d:Array Int) (h:¬ i < b):insOuter lt a b i d=d:=by rw [insOuter,if_neg h]
end
end Go.Proofs.YtliimglbbiebiaaGreatDoor
end

section
namespace Go.Proofs.YtliimglbbiebiaaGreatDoor
open Go.RowKit Go.Sort
theorem isnan_any (x:Int) (w:World):Calls Tryz.prog 223 #[.int .u32 x] w fun e w'=>e=.returned (.bool false)∧w'=w:=by
 go_enter Tryz.func223,Tryz.ntmps223
 go_wp2
 go_ret
 exact ⟨by simp,rfl⟩
theorem less_any (x y:Int) (w:World):Calls Tryz.prog 168 #[.int .u32 x,.int .u32 y] w fun e w'=>e=.returned (.bool (ltInt x y))∧w'=w:=by
 go_enter Tryz.func168,Tryz.ntmps168
 go_wp2_with (go_at_call 223; refine (isnan_any _ _).mono ?_; rintro e w' ⟨rfl,rfl⟩)
 go_ret
 exact ⟨rfl,rfl⟩
theorem quiet2 {P:Program} {f:FuncId} {args:Array Value} {w:World} {a n:Nat} {v:Value} (h:∀ W,Calls P f args W fun e w'=>e=.returned v∧w'=W) :
 Calls P f args (w.drewN (a + n)) fun e w''=>e=.returned v∧∃ m,w''=w.drewN (a + m) :=
 (h _).mono fun _ _ ⟨he,hw⟩=>⟨he,n,hw⟩
theorem quiet1 {P:Program} {f:FuncId} {args:Array Value} {w:World} {n:Nat} {v:Value} (h:∀ W,Calls P f args W fun e w'=>e=.returned v∧w'=W) :
 Calls P f args (w.drewN n) fun e w''=>e=.returned v∧∃ m,w''=w.drewN m :=
 (h _).mono fun _ _ ⟨he,hw⟩=>⟨he,n,hw⟩
theorem quiet3 {P:Program} {f:FuncId} {args:Array Value} {w:World} {a n:Nat} {v:Value} (h:∀ W,Calls P f args W fun e w'=>e=.returned v∧w'=W) :
 Calls P f args (w.drewN (a + n)) fun e w''=>e=.returned v∧∃ m,w''=(w.drewN a).drewN m :=
 (h _).mono fun _ _ ⟨he,hw⟩=>⟨he,n,by rw [hw,World.drewN_drewN]⟩
theorem insertion_any {te:TypeId} {base g c:Nat} {w:World} {d:Array Int} (h:SRow te base w g c d) (a b:Nat) (hab:a≤b) (hb:b≤d.size) (hn:d.size≤1000000) :
 Calls Tryz.prog 162 #[.slice (some ⟨g,0,none⟩) d.size c,.int .i64 a,.int .i64 b] w fun e w'=>e=.returned (.tuple #[])∧SRow te base w' g c (insertionSort ltInt d a b)∧(insertionSort ltInt d a b).size=d.size∧One g w w':=by
 go_enter Tryz.func162,Tryz.ntmps162
 go_wp2
 go_loopw [6] (fun vi wr=>∃ (i:Nat) (dk:Array Int),vi=.int .i64 i∧a < i∧i≤b + 1∧dk.size=d.size∧SRow te base wr g c dk∧One g w wr∧Hid (insOuter ltInt a b i dk=insertionSort ltInt d a b)) (fun vi _=>b + 1 - (intOf vi).toNat)
 case atStart=>exact ⟨a + 1,d,by go_num,by omega,by omega,rfl,h,One.refl _ _,rfl⟩
 case round =>
  obtain ⟨i,dk,rfl,hai,hib,hsk,hR,hO,HE⟩:=hrel
  clear h
  by_cases hlt:i < b
  · go_wp2
    obtain ⟨wo,rfl⟩:∃ wo:World,wo=wr:=⟨_,rfl⟩
    go_loopw [7] (fun vj wr=>∃ (j:Nat) (dj:Array Int),vj=.int .i64 j∧a≤j∧j≤i∧dj.size=d.size∧SRow te base wr g c dj∧One g w wr∧Hid (insInner ltInt a j dj=insInner ltInt a i dk)) (fun vj _=>(intOf vj).toNat)
    case atStart=>exact ⟨i,dk,rfl,by omega,Nat.le_refl _,hsk,hR,hO,rfl⟩
    case round =>
     obtain ⟨j,dj,rfl,haj,hji,hsj,hRj,hOj,HI⟩:=hrel
     clear hR hO
     have HE':=Lib.hid (insOuter_go' (lt:=ltInt) a b i dk hlt)
     by_cases hja:a < j
     · have hjd:j < dj.size:=by omega
       have hcw:=fun n=>(hRj.drewN n).cell (t:=j) hjd
       have hcv:=fun n=>(hRj.drewN n).cell (t:=j - 1) (by omega)
       have hfw:=fun n=>(hRj.drewN n).frozen j
       have hfv:=fun n=>(hRj.drewN n).frozen (j - 1)
       have hj1:IntKind.i64.wrap ((j:Int) - 1)=(j:Int) - 1:=IntWalk.i64_in _ (by omega)
       have hj2:((j:Int) - 1).toNat=j - 1:=by omega
       have hj3:0≤(j:Int) - 1:=by omega
       have hdj:decide (a < j)=true:=decide_eq_true hja
       have hdi:decide ((a:Int) < j)=true:=decide_eq_true (by omega)
       have hsw:=fun n=>hRj.two n j (j - 1)
       have hone:=fun n=>One.two hOj n j (j - 1) (.int .u32 dj[j - 1]!) (.int .u32 dj[j]!)
       have HSW:=Lib.hid hsw
       have HONE:=Lib.hid hone
       have hout:=fun (h:ltInt dj[j]! dj[j - 1]! = false)=>insInner_stop' (lt:=ltInt) a j dj (.inr h)
       have hgo:=fun (h:ltInt dj[j]! dj[j - 1]! = true)=>insInner_go' (lt:=ltInt) a j dj hja h
       have HOUT:=Lib.hid hout
       have HGO:=Lib.hid hgo
       clear hsw hout hgo hone
       obtain ⟨x,hx⟩:∃ x,dj[j]! = x:=⟨_,rfl⟩
       obtain ⟨y,hy⟩:∃ y,dj[j - 1]! = y:=⟨_,rfl⟩
       rw [hx] at hcw HSW HOUT HGO HONE
       rw [hy] at hcv HSW HOUT HGO HONE
       clear hx hy
       obtain ⟨q,hq⟩:∃ q,ltInt x y=q:=⟨_,rfl⟩
       rw [hq] at HOUT HGO
       have hless:∀ n,Calls Tryz.prog 168 #[.int .u32 x,.int .u32 y] (wr.drewN n) fun e w'=>e=.returned (.bool q)∧w'=wr.drewN n:=fun n=>by rw [← hq]; exact less_any x y _
       have HLS:=Lib.hid hless
       clear hless hq
       cases q
       · go_wp2_with fail
         go_quiet (first | (go_at_call 168; refine Calls.quiet_of_same (HLS.out _)))
         go_wp2
         go_roundw
         case rel =>
          refine ⟨i + 1,dj,by go_num,by omega,by omega,hsj,hRj.drewN _,hOj.drewN _,?_⟩
          show insOuter ltInt a b (i + 1) dj=_
          rw [← HE.out,HE'.out,← HI.out,HOUT.out trivial]
         case measure=>simp [intOf]; omega
       · go_wp2_with fail
         go_quiet (first | (go_at_call 168; refine Calls.quiet_of_same (HLS.out _)))
         go_wp2
         go_region
         all_goals go_wp2
         go_roundw
         case rel =>
          refine ⟨j - 1,swp dj j (j - 1),by congr 1; omega,by omega,by omega,by rw [swp_size]; exact hsj,?_,HONE.out _,?_⟩
          · exact HSW.out _
          · show insInner ltInt a (j - 1) (swp dj j (j - 1))=_
            rw [← HI.out,HGO.out trivial]
         case measure=>simp [intOf]; omega
     · have hdj:decide (a < j)=false:=decide_eq_false hja
       have hdi:decide ((a:Int) < j)=false:=decide_eq_false (by omega)
       have hout:=insInner_stop' (lt:=ltInt) a j dj (.inl (by omega))
       have HOUT:=Lib.hid hout
       clear hout
       go_wp2_with fail
       go_quiet (fail)
       go_wp2
       go_roundw
       case rel =>
        refine ⟨i + 1,dj,by go_num,by omega,by omega,hsj,hRj.drewN _,hOj.drewN _,?_⟩
        show insOuter ltInt a b (i + 1) dj=_
        rw [← HE.out,HE'.out,← HI.out,HOUT.out]
       case measure=>simp [intOf]; omega
  · have hE:=HE.out
    rw [insOuter_stop' _ _ _ _ hlt] at hE
    have HE2:=Lib.hid hE
    clear hE
    go_wp2
    go_end0
    exact ⟨rfl,by rw [← HE2.out]; exact hR,by rw [← HE2.out]; exact hsk,hO⟩
end Go.Proofs.YtliimglbbiebiaaGreatDoor
end

section
namespace Go.Proofs.YtliimglbbiebiaaGreatDoor
open Go.RowKit Go.Sort
theorem order2_any {te:TypeId} {base g c s:Nat} {w:World} {d:Array Int} (h:SRow te base w g c d) (a b sw:Nat) (hs:Blk w s 3 #[.int .i64 sw]) (ha:a < d.size) (hb:b < d.size) (hsw:sw≤1000) :
 Calls Tryz.prog 289 #[.slice (some ⟨g,0,none⟩) d.size c,.int .i64 a,.int .i64 b,.pointer (some ⟨s,0,none⟩)] w fun e w' =>
  e=.returned (.tuple #[.int .i64 (order2 ltInt d a b sw).1,.int .i64 (order2 ltInt d a b sw).2.1])∧Blk w' s 3 #[.int .i64 (order2 ltInt d a b sw).2.2]∧One s w w':=by
 obtain ⟨x,hx⟩:∃ x,d[a]! = x:=⟨_,rfl⟩
 obtain ⟨y,hy⟩:∃ y,d[b]! = y:=⟨_,rfl⟩
 have hcx:=fun n=>(h.drewN n).cell (t:=a) ha
 have hcy:=fun n=>(h.drewN n).cell (t:=b) hb
 have hcs:=fun n=>(hs.drewN n).cell 0
 have hfs:=fun n=>(hs.drewN n).frozen 0
 have hcs':∀ n,(w.drewN n).cell? ⟨s,0,none⟩=some (.int .i64 sw):=hcs
 rw [hx] at hcx
 rw [hy] at hcy
 clear hcs
 obtain ⟨q,hq⟩:∃ q,ltInt y x=q:=⟨_,rfl⟩
 have hr:order2 ltInt d a b sw=if q then (b,a,sw + 1) else (a,b,sw):=by unfold order2; rw [hx,hy,hq]
 rw [hr]
 have hless:∀ W,Calls Tryz.prog 168 #[.int .u32 y,.int .u32 x] W fun e w'=>e=.returned (.bool q)∧w'=W:=fun W=>by rw [← hq]; exact less_any y x _
 have HLS:=Lib.hid hless
 clear hless hq hr hx hy
 cases q
 · go_enter Tryz.func289,Tryz.ntmps289
   go_wp2_with fail
   go_quiet ((go_at_call 168; with_reducible (first | exact quiet1 HLS.out | exact quiet2 HLS.out | exact quiet3 HLS.out)))
   go_wp2
   go_ret2
   exact ⟨rfl,hs.drewN _,(One.refl _ _).drewN _⟩
 · go_enter Tryz.func289,Tryz.ntmps289
   go_wp2_with fail
   go_quiet ((go_at_call 168; with_reducible (first | exact quiet1 HLS.out | exact quiet2 HLS.out | exact quiet3 HLS.out)))
   go_wp2
   go_ret2
   refine ⟨rfl,?_,?_⟩
   · show Blk _ s 3 #[.int .i64 ((sw + 1:Nat):Int)]
     exact (hs.drewN _).set_ 0 _
   · exact One.set ((One.refl s w).drewN _) 0 _
theorem Blk.i {w:World} {s:Nat} {v:Int} (h:Blk w s 3 #[.int .i64 v]):w.cell? ⟨s,0,none⟩=some (.int .i64 v):=h.cell 0
theorem median_any {te:TypeId} {base g c s:Nat} {w:World} {d:Array Int} (h:SRow te base w g c d) (hgs:g≠s) (i j k sw:Nat) (hs:Blk w s 3 #[.int .i64 sw]) (hi:i < d.size) (hj:j < d.size) (hk:k < d.size) (hsw:sw≤100) :
 Calls Tryz.prog 222 #[.slice (some ⟨g,0,none⟩) d.size c,.int .i64 i,.int .i64 j,.int .i64 k,.pointer (some ⟨s,0,none⟩)] w fun e w' =>
  e=.returned (.int .i64 (median ltInt d i j k sw).1)∧Blk w' s 3 #[.int .i64 (median ltInt d i j k sw).2]∧One s w w':=by
 obtain ⟨p1,hp1⟩:∃ p,p=order2 ltInt d i j sw:=⟨_,rfl⟩
 obtain ⟨p2,hp2⟩:∃ p,p=order2 ltInt d p1.2.1 k p1.2.2:=⟨_,rfl⟩
 obtain ⟨p3,hp3⟩:∃ p,p=order2 ltInt d p1.1 p2.1 p2.2.2:=⟨_,rfl⟩
 have hr:median ltInt d i j k sw=(p3.2.1,p3.2.2):=by subst hp3 hp2 hp1; rfl
 rw [hr]
 have c1:=order2_count ltInt d i j sw
 have c2:=order2_count ltInt d p1.2.1 k p1.2.2
 rw [← hp1] at c1
 rw [← hp2] at c2
 have m1:p1.1 < d.size∧p1.2.1 < d.size:=by
  have:=order2_mem ltInt d i j sw
  rw [← hp1] at this
  omega
 have m2:p2.1 < d.size∧p2.2.1 < d.size:=by
  have:=order2_mem ltInt d p1.2.1 k p1.2.2
  rw [← hp2] at this
  omega
 have o1:=order2_any h i j sw hs hi hj (by omega)
 rw [← hp1] at o1
 have O1:=Lib.hid o1
 have o2:=fun w' (h':SRow te base w' g c d) (hs':Blk w' s 3 #[.int .i64 p1.2.2])=>order2_any h' p1.2.1 k p1.2.2 hs' m1.2 hk (by omega)
 rw [← hp2] at o2
 have O2:=Lib.hid o2
 have o3:=fun w' (h':SRow te base w' g c d) (hs':Blk w' s 3 #[.int .i64 p2.2.2])=>order2_any h' p1.1 p2.1 p2.2.2 hs' m1.1 m2.1 (by omega)
 rw [← hp3] at o3
 have O3:=Lib.hid o3
 clear o1 o2 o3 hp1 hp2 hp3 hr
 go_enter Tryz.func222,Tryz.ntmps222
 go_wp2_with fail
 refine O1.out.mono ?_
 rintro e w1 ⟨rfl,hs1,ho1⟩
 have h1:=h.fr ho1 (fun e=>hgs e)
 go_wp2_with fail
 refine (O2.out _ h1 hs1).mono ?_
 rintro e w2 ⟨rfl,hs2,ho2⟩
 have h2:=h1.fr ho2 (fun e=>hgs e)
 go_wp2_with fail
 refine (O3.out _ h2 hs2).mono ?_
 rintro e w3 ⟨rfl,hs3,ho3⟩
 go_wp2
 go_ret
 exact ⟨rfl,hs3,(ho1.trans ho2).trans ho3⟩
theorem medianadj_any {te:TypeId} {base g c s:Nat} {w:World} {d:Array Int} (h:SRow te base w g c d) (hgs:g≠s) (i sw:Nat) (hs:Blk w s 3 #[.int .i64 sw]) (h1:1≤i) (hi:i + 1 < d.size) (hn:d.size≤1000000) (hsw:sw≤100) :
 Calls Tryz.prog 221 #[.slice (some ⟨g,0,none⟩) d.size c,.int .i64 i,.pointer (some ⟨s,0,none⟩)] w fun e w' =>
  e=.returned (.int .i64 (medianAdjacent ltInt d i sw).1)∧Blk w' s 3 #[.int .i64 (medianAdjacent ltInt d i sw).2]∧One s w w':=by
 have hc:=median_any h hgs (i - 1) i (i + 1) sw hs (by omega) (by omega) (by omega) hsw
 rw [show (((i - 1:Nat)):Int)=(i:Int) - 1 by omega,show (((i + 1:Nat)):Int)=(i:Int) + 1 by omega] at hc
 have HC:=Lib.hid hc
 have hr:medianAdjacent ltInt d i sw=median ltInt d (i - 1) i (i + 1) sw:=rfl
 rw [hr]
 clear hc hr
 go_enter Tryz.func221,Tryz.ntmps221
 go_wp2_with fail
 refine HC.out.mono ?_
 rintro e w1 ⟨rfl,hs1,ho1⟩
 go_wp2
 go_ret
 exact ⟨rfl,hs1,ho1⟩
theorem choose_any {te:TypeId} {base g c:Nat} {w:World} {d:Array Int} (h:SRow te base w g c d) (a b:Nat) (hab:a < b) (hb:b≤d.size) (hn:d.size≤1000000) :
 Calls Tryz.prog 165 #[.slice (some ⟨g,0,none⟩) d.size c,.int .i64 a,.int .i64 b] w fun e w' =>
  e=.returned (.tuple #[.int .i64 (choosePivot ltInt d a b).1,.int .i64 (hintCode (choosePivot ltInt d a b).2)])∧New w w':=by
 rw [choosePivot_eq]
 obtain ⟨l,hl⟩:∃ l,l=b - a:=⟨_,rfl⟩
 have hlI:(b:Int) - (a:Int)=l:=by omega
 obtain ⟨q,hq⟩:∃ q,q=l / 4:=⟨_,rfl⟩
 have hqI:(l:Int) / 4=q:=by omega
 have hq4:4 * q≤l:=by omega
 have hlb:a + l≤b:=by omega
 have hlg:0 < l:=by omega
 have hglt:=h.lt
 have hbox:Blk (w.alloc (.cells #[.int .i64 0] 3)) w.heap.size 3 #[.int .i64 ((0:Nat):Int)]:=Blk.new _ _ _
 have h0:=h.new ((New.refl w).alloc (.cells #[.int .i64 0] 3))
 have hnw:New w (w.alloc (.cells #[.int .i64 0] 3)):=(New.refl w).alloc _
 have hraw:rawPivot ltInt d a b=if l ≥ 8 then (if l ≥ 50 then median ltInt d (medianAdjacent ltInt d (a + q * 1) 0).1 (medianAdjacent ltInt d (a + q * 2) (medianAdjacent ltInt d (a + q * 1) 0).2).1 (medianAdjacent ltInt d (a + q * 3) (medianAdjacent ltInt d (a + q * 2) (medianAdjacent ltInt d (a + q * 1) 0).2).2).1 (medianAdjacent ltInt d (a + q * 3) (medianAdjacent ltInt d (a + q * 2) (medianAdjacent ltInt d (a + q * 1) 0).2).2).2 else median ltInt d (a + q * 1) (a + q * 2) (a + q * 3) 0) else (a + q * 2,0):=by
  unfold rawPivot
  rw [← hl,← hq]
 have e1:((a + q * 1:Nat):Int)=(a:Int) + q:=by omega
 have e2:((a + q * 2:Nat):Int)=(a:Int) + q * 2:=by omega
 have e3:((a + q * 3:Nat):Int)=(a:Int) + q * 3:=by omega
 have hgs:g≠w.heap.size:=by omega
 by_cases h8:l < 8
 · rw [hraw,if_neg (by omega)]
   have hd8:decide (8≤(l:Int))=false:=decide_eq_false (by omega)
   show Calls _ _ _ _ fun e w'=>e=.returned (.tuple #[.int .i64 ((a + q * 2:Nat):Int),.int .i64 1])∧_
   rw [e2]
   have hc0:(w.alloc (.cells #[.int .i64 0] 3)).cell? ⟨w.heap.size,0,none⟩=some (.int .i64 0):=hbox.cell 0
   clear hraw e1 e2 e3 hl hq
   go_enter Tryz.func165,Tryz.ntmps165
   go_wp2
   go_ret2
   exact ⟨rfl,hnw⟩
 · have hd8:decide (8≤(l:Int))=true:=decide_eq_true (by omega)
   obtain ⟨raw,hrw⟩:∃ raw,raw=rawPivot ltInt d a b:=⟨_,rfl⟩
   rw [← hrw]
   rw [← hrw,if_pos (by omega)] at hraw
   by_cases h50:l < 50
   · rw [if_neg (by omega)] at hraw
     have hd50:decide (50≤(l:Int))=false:=decide_eq_false (by omega)
     have hm:=median_any h0 hgs (a + q * 1) (a + q * 2) (a + q * 3) 0 hbox (by omega) (by omega) (by omega) (by omega)
     rw [← hraw,e1,e2,e3] at hm
     have HM:=Lib.hid hm
     obtain ⟨r1,r2⟩:=raw
     clear hm hraw hrw e1 e2 e3 hl hq
     dsimp only at HM ⊢
     have h012:(r2=0∨r2=12)∨(r2≠0∧r2≠12):=by omega
     rcases h012 with (rfl | rfl) | ⟨hz1,hz2⟩
     · go_enter Tryz.func165,Tryz.ntmps165
       go_wp2_with fail
       refine HM.out.mono ?_
       rintro e w2 ⟨rfl,hs2,ho2⟩
       have hc2:w2.cell? ⟨w.heap.size,0,none⟩=some (.int .i64 0):=hs2.cell 0
       go_wp2
       go_ret2
       exact ⟨rfl,New.one hnw ho2 (Nat.le_refl _)⟩
     · go_enter Tryz.func165,Tryz.ntmps165
       go_wp2_with fail
       refine HM.out.mono ?_
       rintro e w2 ⟨rfl,hs2,ho2⟩
       have hc2:w2.cell? ⟨w.heap.size,0,none⟩=some (.int .i64 12):=hs2.cell 0
       go_wp2
       go_ret2
       exact ⟨rfl,New.one hnw ho2 (Nat.le_refl _)⟩
     · have hb1:((r2:Int) == 0)=false:=by simp; omega
       have hb2:((r2:Int) == 12)=false:=by simp; omega
       have hho:hintOf r2=.unknown:=by unfold hintOf; rw [if_neg hz1,if_neg hz2]
       rw [hho]
       clear hho hz1 hz2
       go_enter Tryz.func165,Tryz.ntmps165
       go_wp2_with fail
       refine HM.out.mono ?_
       rintro e w2 ⟨rfl,hs2,ho2⟩
       have hc2:w2.cell? ⟨w.heap.size,0,none⟩=some (.int .i64 r2):=hs2.cell 0
       go_wp2
       go_ret2
       exact ⟨rfl,New.one hnw ho2 (Nat.le_refl _)⟩
   · rw [if_pos (by omega)] at hraw
     have hd50:decide (50≤(l:Int))=true:=decide_eq_true (by omega)
     obtain ⟨m1,hm1⟩:∃ m,m=medianAdjacent ltInt d (a + q * 1) 0:=⟨_,rfl⟩
     obtain ⟨m2,hm2⟩:∃ m,m=medianAdjacent ltInt d (a + q * 2) m1.2:=⟨_,rfl⟩
     obtain ⟨m3,hm3⟩:∃ m,m=medianAdjacent ltInt d (a + q * 3) m2.2:=⟨_,rfl⟩
     have hraw2:raw=median ltInt d m1.1 m2.1 m3.1 m3.2:=by rw [hraw]; subst hm3 hm2 hm1; rfl
     have k1:=medianAdjacent_count ltInt d (a + q * 1) 0
     have k2:=medianAdjacent_count ltInt d (a + q * 2) m1.2
     have k3:=medianAdjacent_count ltInt d (a + q * 3) m2.2
     have l1:=medianAdjacent_mem ltInt d (a + q * 1) 0
     have l2:=medianAdjacent_mem ltInt d (a + q * 2) m1.2
     have l3:=medianAdjacent_mem ltInt d (a + q * 3) m2.2
     rw [← hm1] at k1 l1
     rw [← hm2] at k2 l2
     rw [← hm3] at k3 l3
     have c1:=medianadj_any h0 hgs (a + q * 1) 0 hbox (by omega) (by omega) (by omega) (by omega)
     have c2:=fun w' (h':SRow te base w' g c d) (hs':Blk w' w.heap.size 3 #[.int .i64 m1.2])=>medianadj_any h' hgs (a + q * 2) m1.2 hs' (by omega) (by omega) (by omega) (by omega)
     have c3:=fun w' (h':SRow te base w' g c d) (hs':Blk w' w.heap.size 3 #[.int .i64 m2.2])=>medianadj_any h' hgs (a + q * 3) m2.2 hs' (by omega) (by omega) (by omega) (by omega)
     have c4:=fun w' (h':SRow te base w' g c d) (hs':Blk w' w.heap.size 3 #[.int .i64 m3.2])=>median_any h' hgs m1.1 m2.1 m3.1 m3.2 hs' (by omega) (by omega) (by omega) (by omega)
     rw [← hm1,e1] at c1
     rw [← hm2,e2] at c2
     rw [← hm3,e3] at c3
     rw [← hraw2] at c4
     have C1:=Lib.hid c1
     have C2:=Lib.hid c2
     have C3:=Lib.hid c3
     have C4:=Lib.hid c4
     obtain ⟨r1,r2⟩:=raw
     clear c1 c2 c3 c4 hraw hraw2 hrw hm1 hm2 hm3 e1 e2 e3 hl hq k1 k2 k3 l1 l2 l3
     dsimp only at C4 ⊢
     obtain ⟨b1,hb1⟩:∃ b1,((r2:Int) == 0)=b1:=⟨_,rfl⟩
     obtain ⟨b2,hb2⟩:∃ b2,((r2:Int) == 12)=b2:=⟨_,rfl⟩
     have hh:hintCode (hintOf r2)=if b1 then 1 else if b2 then 2 else 0:=by
      rw [← hb1,← hb2]
      unfold hintOf
      by_cases h1:r2=0
      · subst h1; rfl
      · by_cases h2:r2=12
        · subst h2; rfl
        · rw [if_neg h1,if_neg h2,if_neg (by simp; omega),if_neg (by simp; omega)]; rfl
     rw [hh]
     cases b1 <;> cases b2
     all_goals simp only [if_true,if_false,Bool.false_eq_true]
     all_goals clear hh
     all_goals
      go_enter Tryz.func165,Tryz.ntmps165
      go_wp2_with fail
      refine C1.out.mono ?_
      rintro e w2 ⟨rfl,hs2,ho2⟩
      have h2:=h0.fr ho2 (fun e=>hgs e)
      go_wp2_with fail
      refine (C2.out _ h2 hs2).mono ?_
      rintro e w3 ⟨rfl,hs3,ho3⟩
      have h3:=h2.fr ho3 (fun e=>hgs e)
      go_wp2_with fail
      refine (C3.out _ h3 hs3).mono ?_
      rintro e w4 ⟨rfl,hs4,ho4⟩
      have h4:=h3.fr ho4 (fun e=>hgs e)
      go_wp2_with fail
      refine (C4.out _ h4 hs4).mono ?_
      rintro e w5 ⟨rfl,hs5,ho5⟩
      have hc5:=hs5.i
      go_wp2
      go_ret2
      exact ⟨rfl,New.one hnw (((ho2.trans ho3).trans ho4).trans ho5) (Nat.le_refl _)⟩
end Go.Proofs.YtliimglbbiebiaaGreatDoor
end

section
namespace Go.Proofs.YtliimglbbiebiaaGreatDoor
open Go.RowKit Go.Sort
def sdChild (lt:Int→Int→Bool) (hi first root:Nat) (d:Array Int):Nat:=if 2 * root + 1 + 1 < hi && lt d[first + (2 * root + 1)]! d[first + (2 * root + 1) + 1]! then 2 * root + 1 + 1 else 2 * root + 1
theorem siftDown_stop' (lt:Int→Int→Bool) (hi first root:Nat) (d:Array Int) (h:hi≤2 * root + 1):siftDown lt hi first root d=d:=by
 unfold siftDown
 rw [dif_pos (by omega)]
theorem siftDown_step' (lt:Int→Int→Bool) (hi first root:Nat) (d:Array Int) (h:2 * root + 1 < hi) {ch:Nat} (hc:sdChild lt hi first root d=ch) :
 siftDown lt hi first root d=if lt d[first + root]! d[first + ch]! then siftDown lt hi first ch (swp d (first + root) (first + ch)) else d:=by
 subst hc
 conv=>lhs; unfold siftDown
 rw [dif_neg (by omega)]
 unfold sdChild
 by_cases h1:(decide (2 * root + 1 + 1 < hi) && lt d[first + (2 * root + 1)]! d[first + (2 * root + 1) + 1]!)=true
 · rw [if_pos h1,if_pos h1]
   have h2:2 * root + 2 < hi:=by simp at h1; omega
   rw [dif_pos h2]
   show (if (!lt d[first + root]! d[first + (2 * root + 2)]!)=true then d else siftDown lt hi first (2 * root + 2) (swp d (first + root) (first + (2 * root + 2))))=if lt d[first + root]! d[first + (2 * root + 2)]! = true then siftDown lt hi first (2 * root + 2) (swp d (first + root) (first + (2 * root + 2))) else d
   cases lt d[first + root]! d[first + (2 * root + 2)]! <;> simp
 · rw [if_neg h1,if_neg h1]
   cases lt d[first + root]! d[first + (2 * root + 1)]! <;> simp
theorem sift_any {te:TypeId} {base g c:Nat} {w:World} {d:Array Int} (h:SRow te base w g c d) (lo hi first:Nat) (hlo:lo≤1000000) (hhi:first + hi≤d.size) (hn:d.size≤1000000) :
 Calls Tryz.prog 218 #[.slice (some ⟨g,0,none⟩) d.size c,.int .i64 lo,.int .i64 hi,.int .i64 first] w fun e w'=>e=.returned (.tuple #[])∧SRow te base w' g c (siftDown ltInt hi first lo d)∧(siftDown ltInt hi first lo d).size=d.size∧One g w w':=by
 go_enter Tryz.func218,Tryz.ntmps218
 go_wp2
 go_loopw [8] (fun vr wr=>∃ (root:Nat) (dk:Array Int),vr=.int .i64 root∧root≤1000000∧dk.size=d.size∧SRow te base wr g c dk∧One g w wr∧Hid (siftDown ltInt hi first root dk=siftDown ltInt hi first lo d)) (fun vr _=>hi - (intOf vr).toNat)
 case atStart=>exact ⟨lo,d,rfl,hlo,rfl,h,One.refl _ _,rfl⟩
 case round =>
  obtain ⟨root,dk,rfl,hr,hsk,hR,hO,HE⟩:=hrel
  clear h
  by_cases hc1:hi≤2 * root + 1
  · have hE:=HE.out
    rw [siftDown_stop' _ _ _ _ _ hc1] at hE
    have HE2:=Lib.hid hE
    clear hE
    go_wp2
    go_end0
    exact ⟨rfl,by rw [← HE2.out]; exact hR,by rw [← HE2.out]; exact hsk,hO⟩
  · have hf:=fun ch hc=>siftDown_step' ltInt hi first root dk (by omega) (ch:=ch) hc
    have HF0:=Lib.hid hf
    clear hf
    obtain ⟨x,hx⟩:∃ x,dk[first + root]! = x:=⟨_,rfl⟩
    have hcx:=fun m=>(hR.drewN m).cell (t:=first + root) (by omega)
    have hfx:=fun m=>(hR.drewN m).frozen (first + root)
    rw [hx] at hcx
    have hd1:decide ((hi:Int)≤2 * (root:Int) + 1)=false:=decide_eq_false (by omega)
    by_cases hc2:2 * root + 1 + 1 < hi
    · obtain ⟨u,hu⟩:∃ u,dk[first + (2 * root + 1)]! = u:=⟨_,rfl⟩
      obtain ⟨v,hv⟩:∃ v,dk[first + (2 * root + 1) + 1]! = v:=⟨_,rfl⟩
      have hcu:=fun m=>(hR.drewN m).cell (t:=first + (2 * root + 1)) (by omega)
      have hcv:=fun m=>(hR.drewN m).cell (t:=first + (2 * root + 1) + 1) (by omega)
      rw [hu] at hcu
      rw [hv] at hcv
      have hd2:decide (2 * (root:Int) + 1 + 1 < hi)=true:=decide_eq_true (by omega)
      obtain ⟨q1,hq1⟩:∃ q,ltInt u v=q:=⟨_,rfl⟩
      have hless1:∀ n,Calls Tryz.prog 168 #[.int .u32 u,.int .u32 v] (wr.drewN n) fun e w'=>e=.returned (.bool q1)∧w'=wr.drewN n:=fun n=>by rw [← hq1]; exact less_any u v _
      have HLS1:=Lib.hid hless1
      have hsd:sdChild ltInt hi first root dk=if q1 then 2 * root + 1 + 1 else 2 * root + 1:=by
       unfold sdChild
       rw [hu,hv,hq1,decide_eq_true hc2,Bool.true_and]
      have HSD:=Lib.hid hsd
      have HU:=Lib.hid hu
      clear hless1 hq1 hu hv hsd
      cases q1
      · have HF:=Lib.hid (fun (_:True)=>HF0.out (2 * root + 1) HSD.out)
        clear HF0 HSD
        have hF:=HF.out trivial
        obtain ⟨y,hy⟩:∃ y,dk[first + (2 * root + 1)]! = y:=⟨_,rfl⟩
        obtain rfl:y=u:=hy.symm.trans HU.out
        have hcy:=fun m=>(hR.drewN m).cell (t:=first + (2 * root + 1)) (by omega)
        have hfy:=fun m=>(hR.drewN m).frozen (first + (2 * root + 1))
        have hsw:=fun m=>hR.two m (first + root) (first + (2 * root + 1))
        have hone:=fun m=>One.two hO m (first + root) (first + (2 * root + 1)) (.int .u32 dk[first + (2 * root + 1)]!) (.int .u32 dk[first + root]!)
        have HSW:=Lib.hid hsw
        have HONE:=Lib.hid hone
        have HF2:=Lib.hid hF
        clear hsw hone hF
        rw [hy] at hcy HSW HONE HF2
        rw [hx] at HSW HONE HF2
        have HX:=Lib.hid hx
        have HY:=Lib.hid hy
        clear hx hy
        have s1:IntKind.i64.wrap ((first:Int) + root)=(first:Int) + root:=IntWalk.i64_in _ (by omega)
        have s2:((first:Int) + root).toNat=first + root:=by omega
        have s3:0≤(first:Int) + root:=by omega
        have s4:IntKind.i64.wrap ((first:Int) + (2 * (root:Int) + 1))=(first:Int) + (2 * (root:Int) + 1):=IntWalk.i64_in _ (by omega)
        have s5:((first:Int) + (2 * (root:Int) + 1)).toNat=first + (2 * root + 1):=by omega
        have s6:0≤(first:Int) + (2 * (root:Int) + 1):=by omega
        have s7:(first:Int) + root < (d.size:Int):=by omega
        have s8:(first:Int) + (2 * (root:Int) + 1) < (d.size:Int):=by omega
        have s9:first + root < d.size:=by omega
        have s10:first + (2 * root + 1) < d.size:=by omega
        obtain ⟨q,hq⟩:∃ q,ltInt x y=q:=⟨_,rfl⟩
        rw [hq] at HF2
        have hless:∀ W,Calls Tryz.prog 168 #[.int .u32 x,.int .u32 y] W fun e w'=>e=.returned (.bool q)∧w'=W:=fun W=>by rw [← hq]; exact less_any x y _
        have HLS:=Lib.hid hless
        clear hless hq
        cases q
        · go_wp2_with fail
          go_quiet (first | (go_at_call 168; refine Calls.quiet_of_same (HLS1.out _)))
          go_wp2_with fail
          go_quiet ((go_at_call 168; with_reducible (first | exact quiet1 HLS.out | exact quiet2 HLS.out | exact quiet3 HLS.out)))
          go_wp2
          refine bodyPost_ret (results_none rfl _ _ _) rfl ?_
          have hf:=HF2.out
          rw [if_neg (by simp)] at hf
          have hfs:siftDown ltInt hi first lo d=dk:=by rw [← HE.out,hf]
          rw [hfs]
          first
           | exact ⟨rfl,hR.drewN _,hsk,Fr.drewN hO _⟩
           | exact ⟨rfl,(hR.drewN _).drewN _,hsk,Fr.drewN (Fr.drewN hO _) _⟩
        · go_wp2_with fail
          go_quiet (first | (go_at_call 168; refine Calls.quiet_of_same (HLS1.out _)))
          go_wp2_with fail
          go_quiet ((go_at_call 168; with_reducible (first | exact quiet1 HLS.out | exact quiet2 HLS.out | exact quiet3 HLS.out)))
          go_wp2
          go_region
          all_goals go_wp2
          go_roundw
          case rel =>
           refine ⟨2 * root + 1,swp dk (first + root) (first + (2 * root + 1)),by go_num,by omega,by rw [swp_size]; exact hsk,HSW.out _,HONE.out _,?_⟩
           have hf:=HF2.out
           first | rw [if_pos rfl] at hf | rw [if_pos True.intro] at hf
           show siftDown ltInt hi first (2 * root + 1) (swp dk (first + root) (first + (2 * root + 1)))=_
           rw [← HE.out,hf]
          case measure=>simp [intOf]; omega
      · have HF:=Lib.hid (fun (_:True)=>HF0.out (2 * root + 1 + 1) HSD.out)
        clear HF0 HSD
        have hF:=HF.out trivial
        obtain ⟨y,hy⟩:∃ y,dk[first + (2 * root + 1 + 1)]! = y:=⟨_,rfl⟩
        have hcy:=fun m=>(hR.drewN m).cell (t:=first + (2 * root + 1 + 1)) (by omega)
        have hfy:=fun m=>(hR.drewN m).frozen (first + (2 * root + 1 + 1))
        have hsw:=fun m=>hR.two m (first + root) (first + (2 * root + 1 + 1))
        have hone:=fun m=>One.two hO m (first + root) (first + (2 * root + 1 + 1)) (.int .u32 dk[first + (2 * root + 1 + 1)]!) (.int .u32 dk[first + root]!)
        have HSW:=Lib.hid hsw
        have HONE:=Lib.hid hone
        have HF2:=Lib.hid hF
        clear hsw hone hF
        rw [hy] at hcy HSW HONE HF2
        rw [hx] at HSW HONE HF2
        have HX:=Lib.hid hx
        have HY:=Lib.hid hy
        clear hx hy
        have s1:IntKind.i64.wrap ((first:Int) + root)=(first:Int) + root:=IntWalk.i64_in _ (by omega)
        have s2:((first:Int) + root).toNat=first + root:=by omega
        have s3:0≤(first:Int) + root:=by omega
        have s4:IntKind.i64.wrap ((first:Int) + (2 * (root:Int) + 1 + 1))=(first:Int) + (2 * (root:Int) + 1 + 1):=IntWalk.i64_in _ (by omega)
        have s5:((first:Int) + (2 * (root:Int) + 1 + 1)).toNat=first + (2 * root + 1 + 1):=by omega
        have s6:0≤(first:Int) + (2 * (root:Int) + 1 + 1):=by omega
        have s7:(first:Int) + root < (d.size:Int):=by omega
        have s8:(first:Int) + (2 * (root:Int) + 1 + 1) < (d.size:Int):=by omega
        have s9:first + root < d.size:=by omega
        have s10:first + (2 * root + 1 + 1) < d.size:=by omega
        obtain ⟨q,hq⟩:∃ q,ltInt x y=q:=⟨_,rfl⟩
        rw [hq] at HF2
        have hless:∀ W,Calls Tryz.prog 168 #[.int .u32 x,.int .u32 y] W fun e w'=>e=.returned (.bool q)∧w'=W:=fun W=>by rw [← hq]; exact less_any x y _
        have HLS:=Lib.hid hless
        clear hless hq
        cases q
        · go_wp2_with fail
          go_quiet (first | (go_at_call 168; refine Calls.quiet_of_same (HLS1.out _)))
          go_wp2_with fail
          go_quiet ((go_at_call 168; with_reducible (first | exact quiet1 HLS.out | exact quiet2 HLS.out | exact quiet3 HLS.out)))
          go_wp2
          refine bodyPost_ret (results_none rfl _ _ _) rfl ?_
          have hf:=HF2.out
          rw [if_neg (by simp)] at hf
          have hfs:siftDown ltInt hi first lo d=dk:=by rw [← HE.out,hf]
          rw [hfs]
          first
           | exact ⟨rfl,hR.drewN _,hsk,Fr.drewN hO _⟩
           | exact ⟨rfl,(hR.drewN _).drewN _,hsk,Fr.drewN (Fr.drewN hO _) _⟩
        · go_wp2_with fail
          go_quiet (first | (go_at_call 168; refine Calls.quiet_of_same (HLS1.out _)))
          go_wp2_with fail
          go_quiet ((go_at_call 168; with_reducible (first | exact quiet1 HLS.out | exact quiet2 HLS.out | exact quiet3 HLS.out)))
          go_wp2
          go_region
          all_goals go_wp2
          go_roundw
          case rel =>
           refine ⟨2 * root + 1 + 1,swp dk (first + root) (first + (2 * root + 1 + 1)),by go_num,by omega,by rw [swp_size]; exact hsk,HSW.out _,HONE.out _,?_⟩
           have hf:=HF2.out
           first | rw [if_pos rfl] at hf | rw [if_pos True.intro] at hf
           show siftDown ltInt hi first (2 * root + 1 + 1) (swp dk (first + root) (first + (2 * root + 1 + 1)))=_
           rw [← HE.out,hf]
          case measure=>simp [intOf]; omega
    · have hd2:decide (2 * (root:Int) + 1 + 1 < hi)=false:=decide_eq_false (by omega)
      have hsd:sdChild ltInt hi first root dk=2 * root + 1:=by
       unfold sdChild
       rw [decide_eq_false hc2,Bool.false_and,if_neg (by simp)]
      have HF:=Lib.hid (fun (_:True)=>HF0.out (2 * root + 1) hsd)
      clear HF0 hsd
      have hF:=HF.out trivial
      obtain ⟨y,hy⟩:∃ y,dk[first + (2 * root + 1)]! = y:=⟨_,rfl⟩
      have hcy:=fun m=>(hR.drewN m).cell (t:=first + (2 * root + 1)) (by omega)
      have hfy:=fun m=>(hR.drewN m).frozen (first + (2 * root + 1))
      have hsw:=fun m=>hR.two m (first + root) (first + (2 * root + 1))
      have hone:=fun m=>One.two hO m (first + root) (first + (2 * root + 1)) (.int .u32 dk[first + (2 * root + 1)]!) (.int .u32 dk[first + root]!)
      have HSW:=Lib.hid hsw
      have HONE:=Lib.hid hone
      have HF2:=Lib.hid hF
      clear hsw hone hF
      rw [hy] at hcy HSW HONE HF2
      rw [hx] at HSW HONE HF2
      have HX:=Lib.hid hx
      have HY:=Lib.hid hy
      clear hx hy
      have s1:IntKind.i64.wrap ((first:Int) + root)=(first:Int) + root:=IntWalk.i64_in _ (by omega)
      have s2:((first:Int) + root).toNat=first + root:=by omega
      have s3:0≤(first:Int) + root:=by omega
      have s4:IntKind.i64.wrap ((first:Int) + (2 * (root:Int) + 1))=(first:Int) + (2 * (root:Int) + 1):=IntWalk.i64_in _ (by omega)
      have s5:((first:Int) + (2 * (root:Int) + 1)).toNat=first + (2 * root + 1):=by omega
      have s6:0≤(first:Int) + (2 * (root:Int) + 1):=by omega
      have s7:(first:Int) + root < (d.size:Int):=by omega
      have s8:(first:Int) + (2 * (root:Int) + 1) < (d.size:Int):=by omega
      have s9:first + root < d.size:=by omega
      have s10:first + (2 * root + 1) < d.size:=by omega
      obtain ⟨q,hq⟩:∃ q,ltInt x y=q:=⟨_,rfl⟩
      rw [hq] at HF2
      have hless:∀ W,Calls Tryz.prog 168 #[.int .u32 x,.int .u32 y] W fun e w'=>e=.returned (.bool q)∧w'=W:=fun W=>by rw [← hq]; exact less_any x y _
      have HLS:=Lib.hid hless
      clear hless hq
      cases q
      · go_wp2_with fail
        go_quiet (fail)
        go_wp2_with fail
        go_quiet ((go_at_call 168; with_reducible (first | exact quiet1 HLS.out | exact quiet2 HLS.out | exact quiet3 HLS.out)))
        go_wp2
        refine bodyPost_ret (results_none rfl _ _ _) rfl ?_
        have hf:=HF2.out
        rw [if_neg (by simp)] at hf
        have hfs:siftDown ltInt hi first lo d=dk:=by rw [← HE.out,hf]
        rw [hfs]
        first
         | exact ⟨rfl,hR.drewN _,hsk,Fr.drewN hO _⟩
         | exact ⟨rfl,(hR.drewN _).drewN _,hsk,Fr.drewN (Fr.drewN hO _) _⟩
      · go_wp2_with fail
        go_quiet (fail)
        go_wp2_with fail
        go_quiet ((go_at_call 168; with_reducible (first | exact quiet1 HLS.out | exact quiet2 HLS.out | exact quiet3 HLS.out)))
        go_wp2
        go_region
        all_goals go_wp2
        go_roundw
        case rel =>
         refine ⟨2 * root + 1,swp dk (first + root) (first + (2 * root + 1)),by go_num,by omega,by rw [swp_size]; exact hsk,HSW.out _,HONE.out _,?_⟩
         have hf:=HF2.out
         first | rw [if_pos rfl] at hf | rw [if_pos True.intro] at hf
         show siftDown ltInt hi first (2 * root + 1) (swp dk (first + root) (first + (2 * root + 1)))=_
         rw [← HE.out,hf]
        case measure=>simp [intOf]; omega
end Go.Proofs.YtliimglbbiebiaaGreatDoor
end

