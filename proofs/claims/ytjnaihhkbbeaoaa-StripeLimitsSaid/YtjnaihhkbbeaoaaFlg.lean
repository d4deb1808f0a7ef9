/- A table of messages in stripes: Flags. -/
import Derived.Test.YtjnaihhkbbeaoaaRem
namespace Go.Proofs.Ytjnaihhkbbeaoaa
open Go.RowKit Go.Maps

theorem Blk.new3 (w : World) (o o' o'' : Obj) (t : TypeId) (cs : Array Value) : Blk ((((w.alloc o).alloc o').alloc o'').alloc (.cells cs t)) (w.heap.size + 3) t cs := by
  have h := Blk.new2 (w.alloc o) o' o'' t cs
  rwa [World.size_alloc] at h
theorem Blk.new4 (w : World) (o o' o'' o3 : Obj) (t : TypeId) (cs : Array Value) : Blk (((((w.alloc o).alloc o').alloc o'').alloc o3).alloc (.cells cs t)) (w.heap.size + 4) t cs := by
  have h := Blk.new3 (w.alloc o) o' o'' o3 t cs
  rwa [World.size_alloc] at h
theorem loadFlags {w : World} {g : Nat} {a : Value} (h : Blk w g 31 #[a]) : (loadVar 31 ⟨g, 0, none⟩).run Try.prog w = .ok a w :=
  run_loadVar_one Try.underlying31 rfl (h.cell 0)
theorem loadCode {w : World} {g : Nat} {a : Value} (h : Blk w g 35 #[a]) : (loadVar 35 ⟨g, 0, none⟩).run Try.prog w = .ok a w :=
  run_loadVar_one Try.underlying35 rfl (h.cell 0)

/-- The world behind Flags' boxes. -/
abbrev flW (w : World) (k mode f e : Int) : World := ((((w.alloc (.cells #[.int .u32 k] 22)).alloc (.cells #[.int .i64 mode] 3)).alloc (.cells #[.int .u8 f] 31)).alloc (.cells #[.int .u8 0] 31)).alloc (.cells #[.int .i64 e] 35)

set_option maxHeartbeats 800000 in
theorem tflags_nil (k mode f : Int) (w : World) : Calls Try.prog 25 #[.pointer none, .int .u32 k, .int .i64 mode, .int .u8 f] w fun e w' => e = .returned (.tuple #[.int .u8 0, .int .i64 1]) ∧ New w w' := by
  obtain ⟨wq, hwq⟩ : ∃ wq, wq = flW w k mode f 1 := ⟨_, rfl⟩
  have hn1 : New w wq := by rw [hwq]; exact (((((New.refl w).alloc _).alloc _).alloc _).alloc _).alloc _
  have bo : Blk wq (w.heap.size + 3) 31 #[.int .u8 0] := by rw [hwq]; exact (Blk.new3 _ _ _ _ _ _).alloc _
  have be : Blk wq (w.heap.size + 4) 35 #[.int .i64 1] := by rw [hwq]; exact Blk.new4 _ _ _ _ _ _ _
  unfold flW at hwq
  have HWQ := Lib.hid hwq
  clear hwq
  go_enter Try.func25, Try.ntmps25
  go_wp2
  rw [← HWQ.out]
  refine bodyPost_ret (results_cells rfl _ _ rfl rfl (loadFlags bo) (loadCode be)) rfl ?_
  exact ⟨rfl, hn1⟩

set_option maxRecDepth 100000 in
set_option maxHeartbeats 6400000 in
theorem tflags_any {base : Nat} {w : World} {T : Tb} {X : List MB} (h : TBX base w T X) (hX : X.length ≤ 100000) (k mode f : Int) (hk0 : 0 ≤ k) (hk1 : k ≤ 4294967295) (hf : 0 ≤ f ∧ f ≤ 255) (hm : (Lit.int .i64 mode).wf = true) :
    Calls Try.prog 25 #[.pointer (some ⟨T.tb, 0, none⟩), .int .u32 k, .int .i64 mode, .int .u8 f] w fun e w' => e = .returned (.tuple #[.int .u8 (flX (X.map MB.m) k mode f), .int .i64 (flC (X.map MB.m) k mode f)]) ∧
      ∃ X', X'.map MB.m = flM (X.map MB.m) k mode f ∧ X'.length = X.length ∧ TBX base w' T X' ∧ Fr T.foot w w' := by
  obtain ⟨i, hi, hin⟩ := h.stripe k
  have hget := get_ent T.n hi X
  have hmf : ∀ (fn : Fn) (first cap : Array Value) (w : World), (Instr.makeFunc fn first cap).run Try.prog w = .ok (.func fn first cap) w := fun _ _ _ _ => rfl
  have hE := enters _ _ _ Try.func39 (by kernel_rfl) rfl
  obtain ⟨wq, hwq⟩ : ∃ wq, wq = flW w k mode f 0 := ⟨_, rfl⟩
  have hn1 : New w wq := by rw [hwq]; exact (((((New.refl w).alloc _).alloc _).alloc _).alloc _).alloc _
  have hqs : wq.heap.size = w.heap.size + 5 := by rw [hwq]; simp
  have bk : Blk wq w.heap.size 22 #[.int .u32 k] := by rw [hwq]; exact ((((Blk.new _ _ _).alloc _).alloc _).alloc _).alloc _
  have bm : Blk wq (w.heap.size + 1) 3 #[.int .i64 mode] := by rw [hwq]; exact (((Blk.new1 _ _ _ _).alloc _).alloc _).alloc _
  have bf : Blk wq (w.heap.size + 2) 31 #[.int .u8 f] := by rw [hwq]; exact ((Blk.new2 _ _ _ _ _).alloc _).alloc _
  have bo : Blk wq (w.heap.size + 3) 31 #[.int .u8 0] := by rw [hwq]; exact (Blk.new3 _ _ _ _ _ _).alloc _
  have be : Blk wq (w.heap.size + 4) 35 #[.int .i64 0] := by rw [hwq]; exact Blk.new4 _ _ _ _ _ _ _
  have hT := h.new hn1
  have c0 : wq.cell? ⟨T.tb, 0, none⟩ = some (.slice (some ⟨T.pb, 0, none⟩) T.n T.c) := hT.hd.cell 0
  have cg : wq.cell? ⟨w.heap.size, 0, none⟩ = some (.int .u32 k) := bk.cell 0
  have cp := hT.ptr hin
  have hiI : (0 : Int) ≤ (i : Int) := by omega
  have hnI : (i : Int) < (T.n : Int) := by omega
  have hql := hT.part_lt hin
  have hwl := h.part_lt hin
  have htop := h.top
  have hmq : T.mb i ≠ T.q i := (hT.map i hin).ne_blk (hT.part i hin)
  have hkq : w.heap.size ≠ T.q i := bk.ne_ (hT.part i hin) (by decide)
  have hmdq : w.heap.size + 1 ≠ T.q i := bm.ne_ (hT.part i hin) (by decide)
  have hfq : w.heap.size + 2 ≠ T.q i := bf.ne_ (hT.part i hin) (by decide)
  have hoq : w.heap.size + 3 ≠ T.q i := bo.ne_ (hT.part i hin) (by decide)
  have heq : w.heap.size + 4 ≠ T.q i := be.ne_ (hT.part i hin) (by decide)
  have hok : uKeys.ok k := okU hk0 hk1
  have hlen := h.len i
  have hm1 := (hT.map i hin).drew.setCell (a := ⟨T.q i, 0, none⟩) hmq (.int .i32 1)
  have hsz : (wq.drew.setCell ⟨T.q i, 0, none⟩ (.int .i32 1)).heap.size = w.heap.size + 5 := by simp [World.setCell]; exact hqs
  have bk1 := bk.drew.far (p := ⟨T.q i, 0, none⟩) hkq (.int .i32 1)
  have bm1 := bm.drew.far (p := ⟨T.q i, 0, none⟩) hmdq (.int .i32 1)
  have bf1 := bf.drew.far (p := ⟨T.q i, 0, none⟩) hfq (.int .i32 1)
  have bo1 := bo.drew.far (p := ⟨T.q i, 0, none⟩) hoq (.int .i32 1)
  have be1 := be.drew.far (p := ⟨T.q i, 0, none⟩) heq (.int .i32 1)
  have HD : Hid (Calls Try.prog 26 #[.pointer (some ⟨T.q i, 0, none⟩), .func (.func 39) #[] #[.pointer (some ⟨w.heap.size, 0, none⟩), .pointer (some ⟨w.heap.size + 4, 0, none⟩), .pointer (some ⟨w.heap.size + 1, 0, none⟩), .pointer (some ⟨w.heap.size + 2, 0, none⟩), .pointer (some ⟨w.heap.size + 3, 0, none⟩)]] wq.drew fun e w' => e = .returned (.tuple #[]) ∧
      (∃ X', X'.map MB.m = flM (X.map MB.m) k mode f ∧ X'.length = X.length ∧ TBX base w' T X' ∧ Fr T.foot w w') ∧
      Blk w' w.heap.size 22 #[.int .u32 k] ∧ Blk w' (w.heap.size + 3) 31 #[.int .u8 (flX (X.map MB.m) k mode f)] ∧ Blk w' (w.heap.size + 4) 35 #[.int .i64 (flC (X.map MB.m) k mode f)]) := by
    refine (tdo_any h (hn1.drew) hin 39 #[.pointer (some ⟨w.heap.size, 0, none⟩), .pointer (some ⟨w.heap.size + 4, 0, none⟩), .pointer (some ⟨w.heap.size + 1, 0, none⟩), .pointer (some ⟨w.heap.size + 2, 0, none⟩), .pointer (some ⟨w.heap.size + 3, 0, none⟩)]
      (fun X' w2 => (X'.map MB.m = flM (X.map MB.m) k mode f ∧ X'.length = X.length) ∧ Blk w2 w.heap.size 22 #[.int .u32 k] ∧ Blk w2 (w.heap.size + 3) 31 #[.int .u8 (flX (X.map MB.m) k mode f)] ∧ Blk w2 (w.heap.size + 4) 35 #[.int .i64 (flC (X.map MB.m) k mode f)]) hE ?_).mono ?_
    · by_cases hyes : ∃ x v, findX X k = some x ∧ chg x.m.fl mode f = some v
      · obtain ⟨x, v, hx, hv⟩ := hyes
        have hxm := findX_mem hx
        have hxo := (h.ok x hxm.1).1.2
        have hv0 := chg_ok hv hf.1
        have hfm : findM (X.map MB.m) k = some x.m := by rw [findX_map, hx]; rfl
        have e1 : flX (X.map MB.m) k mode f = v := by unfold flX; rw [hfm]; simp [hv]
        have e2 : flC (X.map MB.m) k mode f = 0 := by unfold flC; rw [hfm]; simp [hv]
        have e3 : flM (X.map MB.m) k mode f = setF (X.map MB.m) k v := by unfold flM; rw [e2, if_pos rfl, e1]
        have huq : ∀ y ∈ X, y.m.uid = k → y = x := fun y hy he => by
          have h1 := findM_of_mem (M := X.map MB.m) (by rw [List.map_map]; exact h.nd) (List.mem_map.2 ⟨y, hy, rfl⟩)
          obtain ⟨a, ha⟩ := List.mem_iff_getElem?.1 hy
          obtain ⟨b, hb⟩ := List.mem_iff_getElem?.1 hxm.1
          have h2 : (X.map fun x => x.m.uid)[a]? = (X.map fun x => x.m.uid)[b]? := by rw [List.getElem?_map, List.getElem?_map, ha, hb]; simp [he, hxm.2]
          have h3 := (List.getElem?_inj (by rw [List.length_map]; exact (List.getElem?_eq_some_iff.1 ha).1) h.nd).1 h2
          subst h3
          rw [ha] at hb
          cases hb
          rfl
        have hmemS : ∀ y ∈ setX X k v, ∃ z ∈ X, y.bv = z.bv ∧ y.m.body = z.m.body ∧ y.m.uid = z.m.uid ∧ (y.m.fl = z.m.fl ∨ y.m.fl = v) := fun y hy => by
          unfold setX at hy
          obtain ⟨z, hz, rfl⟩ := List.mem_map.1 hy
          refine ⟨z, hz, ?_⟩
          by_cases hzk : z.m.uid = k
          · rw [if_pos hzk]; exact ⟨rfl, rfl, rfl, .inr rfl⟩
          · rw [if_neg hzk]; exact ⟨rfl, rfl, rfl, .inl rfl⟩
        have hnd : ((setX X k v).map fun x => x.m.uid) = X.map fun x => x.m.uid := by
          unfold setX
          rw [List.map_map]
          refine List.map_congr_left fun z _ => ?_
          simp only [Function.comp]
          split <;> rfl
        refine (flags1_yes (w := wq.drew.setCell ⟨T.q i, 0, none⟩ (.int .i32 1)) (eb := w.heap.size + 4) hm1 (by unfold maxLen; omega) hok bk1 bm1 bf1 bo1 (by rw [hget, hx]; rfl) hf hm ⟨hxo.1, by omega⟩ hv).mono ?_
        rintro e w2 ⟨rfl, h5, h6, h7⟩
        refine ⟨rfl, setX X k v, ?_, fr_or h7 fun _ h => by rcases h with h | h; exact .inl h; exact .inr (by omega), fun y hy => ?_, fun j hj hjn => ent_set_other (by rw [hi]; omega) v X, by rw [hnd]; exact h.nd, fun y hy => ?_, ⟨by rw [e3, setX_map], by unfold setX; simp⟩, h7.blk bk1 (by omega), by rw [e1]; exact h5, by rw [e2]; exact h7.blk be1 (by omega)⟩
        · rw [ent_set X huq]
          refine h6.perm (put_set_perm (v0 := x.val) hm1.nd ?_)
          rw [hget, hx]; rfl
        · obtain ⟨z, hz, e4, e5, _⟩ := hmemS y hy
          rw [e4, e5]
          exact .inl (h.body z hz)
        · obtain ⟨z, hz, e4, e5, e6, e7⟩ := hmemS y hy
          have h8 := h.ok z hz
          refine ⟨⟨by rw [e6]; exact h8.1.1, ?_⟩, by rw [e5]; exact h8.2⟩
          rcases e7 with e7 | e7
          · rw [e7]; exact h8.1.2
          · rw [e7]; exact hv0
      · have hno : ∀ x, findX X k = some x → chg x.m.fl mode f = none := fun x hx => by
          cases hc : chg x.m.fl mode f with
          | none => rfl
          | some v => exact absurd ⟨x, v, hx, hc⟩ hyes
        have hwf : ∀ x, findX X k = some x → 0 ≤ x.m.fl ∧ x.m.fl ≤ 255 := fun x hx => by
          have := (h.ok x (findX_mem hx).1).1.2
          omega
        have e1 : flX (X.map MB.m) k mode f = 0 := by
          unfold flX; rw [findX_map]
          cases hx : findX X k with
          | none => rfl
          | some x => simp [hno x hx]
        have e2 : flC (X.map MB.m) k mode f = if (findX X k).isSome then 2 else 7 := by
          unfold flC; rw [findX_map]
          cases hx : findX X k with
          | none => rfl
          | some x => simp [hno x hx]
        have e3 : flM (X.map MB.m) k mode f = X.map MB.m := by
          unfold flM
          rw [if_neg]
          rw [e2]
          split <;> omega
        refine (flags1_no (w := wq.drew.setCell ⟨T.q i, 0, none⟩ (.int .i32 1)) (ob := w.heap.size + 3) hm1 hok bk1 be1 bm1 bf1 hget hf hm hwf hno).mono ?_
        rintro e w2 ⟨rfl, h5, h6⟩
        exact ⟨rfl, X, hm1.fr h6 (by omega), fr_or h6 fun _ h => .inr (by omega), fun x hx => .inl (h.body x hx), fun _ _ _ => rfl, h.nd, h.ok, ⟨e3.symm, rfl⟩, h6.blk bk1 (by omega), by rw [e1]; exact h6.blk bo1 (by omega), by rw [e2]; exact h5⟩
    · rintro e w' ⟨rfl, X', w2, rfl, ⟨⟨h4, h4'⟩, h5, h6, h6'⟩, h7, h8⟩
      exact ⟨rfl, ⟨X', h4, h4', h7, h8⟩, h5.far (p := ⟨T.q i, 0, none⟩) hkq _, h6.far (p := ⟨T.q i, 0, none⟩) hoq _, h6'.far (p := ⟨T.q i, 0, none⟩) heq _⟩
  generalize flX (X.map MB.m) k mode f = rx at *
  generalize flC (X.map MB.m) k mode f = rc at *
  unfold flW at hwq
  have HWQ := Lib.hid hwq
  clear hget bk1 bm1 bf1 bo1 be1 hm1 hm hf
  go_enter Try.func25, Try.ntmps25
  go_wp2_with fail
  rw [← HWQ.out]
  clear HWQ hwq
  go_region_held3 (fun w' => w'.cell? ⟨T.tb, 0, none⟩ = some (.slice (some ⟨T.pb, 0, none⟩) T.n T.c) ∧ w'.cell? ⟨w.heap.size, 0, none⟩ = some (.int .u32 k) ∧ w'.cell? ⟨T.pb, i, none⟩ = some (.pointer (some ⟨T.q i, 0, none⟩))) (first | go_keep | (refine ⟨?_, ?_, ?_⟩ <;> assumption))
    ((first
      | (go_at_call 11
         refine (tof_any (hT.new (by repeat' first | exact New.refl _ | apply Fr.drewN | apply Fr.drew)) k (by omega) (by omega)).mono ?_
         rw [hi]
         rintro e w3 ⟨rfl, rfl⟩)
      | (go_at_call 26
         refine HD.out.mono ?_
         rintro e w4 ⟨rfl, ⟨X', hX1, hX2, hTn, hTf⟩, h5, h6, h7⟩
         have k0 : w4.cell? ⟨T.tb, 0, none⟩ = some (.slice (some ⟨T.pb, 0, none⟩) T.n T.c) := hTn.hd.cell 0
         have k1 : w4.cell? ⟨w.heap.size, 0, none⟩ = some (.int .u32 k) := h5.cell 0
         have k2 : w4.cell? ⟨T.pb, i, none⟩ = some (.pointer (some ⟨T.q i, 0, none⟩)) := hTn.ptr hin)
      | fail))
  all_goals
    clear cg c0 cp HD k0 k1 k2
    have g0 : w4.drew.cell? ⟨w.heap.size + 1 + 1 + 1, 0, none⟩ = some (.int .u8 rx) := h6.cell 0
    have o0 : w4.drew.cell? ⟨w.heap.size + 1 + 1 + 1 + 1, 0, none⟩ = some (.int .i64 rc) := h7.cell 0
    have g0' : w4.cell? ⟨w.heap.size + 1 + 1 + 1, 0, none⟩ = some (.int .u8 rx) := h6.cell 0
    have o0' : w4.cell? ⟨w.heap.size + 1 + 1 + 1 + 1, 0, none⟩ = some (.int .i64 rc) := h7.cell 0
    have y0' : w4.frozen? ⟨w.heap.size + 1 + 1 + 1, 0, none⟩ = false := h6.frozen 0
    have y3' : w4.frozen? ⟨w.heap.size + 1 + 1 + 1 + 1, 0, none⟩ = false := h7.frozen 0
    have y0 : w4.drew.frozen? ⟨w.heap.size + 1 + 1 + 1, 0, none⟩ = false := h6.frozen 0
    have y3 : w4.drew.frozen? ⟨w.heap.size + 1 + 1 + 1 + 1, 0, none⟩ = false := h7.frozen 0
    go_wp2_with fail
    go_region
  all_goals
    go_wp2
    have hF : Fr (fun k => k = w.heap.size + 3 ∨ k = w.heap.size + 4) w4 (((w4.setCell ⟨w.heap.size + 1 + 1 + 1, 0, none⟩ (.int .u8 rx)).setCell ⟨w.heap.size + 1 + 1 + 1 + 1, 0, none⟩ (.int .i64 rc)).drew) :=
      (((Fr.refl _ _).setCell (fun _ => .inl rfl) _).setCell (fun _ => .inr rfl) _).drew
    have e6 : Blk (((w4.setCell ⟨w.heap.size + 1 + 1 + 1, 0, none⟩ (.int .u8 rx)).setCell ⟨w.heap.size + 1 + 1 + 1 + 1, 0, none⟩ (.int .i64 rc)).drew) (w.heap.size + 1 + 1 + 1) 31 #[.int .u8 rx] :=
      ((h6.set_ 0 _).far (by simp) _).drew
    have e7 : Blk (((w4.setCell ⟨w.heap.size + 1 + 1 + 1, 0, none⟩ (.int .u8 rx)).setCell ⟨w.heap.size + 1 + 1 + 1 + 1, 0, none⟩ (.int .i64 rc)).drew) (w.heap.size + 1 + 1 + 1 + 1) 35 #[.int .i64 rc] :=
      ((h7.far (by simp) _).set_ 0 _).drew
    have hFw := Fr.trans' hTf hF (fun k hk hs => by rcases hs with rfl | rfl <;> omega)
    refine bodyPost_ret (results_cells rfl _ _ rfl rfl (loadFlags e6) (loadCode e7)) rfl ?_
    refine ⟨rfl, X', hX1, hX2, hTn.fr hF (fun k hk hft => ?_) (fun v l hv b hb hs => ?_), hFw⟩
    · have h1 := hft.2
      rcases hk with rfl | rfl <;> omega
    · obtain ⟨cs, h1⟩ := hv.heap hb
      rcases hs with rfl | rfl
      · exact h1.ne_ h6 (by decide) rfl
      · exact h1.ne_ h7 (by decide) rfl

end Go.Proofs.Ytjnaihhkbbeaoaa
