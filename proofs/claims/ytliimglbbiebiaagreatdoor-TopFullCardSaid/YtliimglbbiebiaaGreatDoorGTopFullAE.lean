/- A part of the proof: Get, Rem, Flg, SortP. -/
import Derived.Test.YtliimglbbiebiaaGreatDoorGTopFullAD
import Derived.Test.YtliimglbbiebiaaGreatDoorGTopFullAA
import Derived.Sort.Defs
import Derived.Deep.Draws

section
/- A table of messages in stripes: Get. -/
namespace Go.Proofs.YtliimglbbiebiaaGreatDoor
open Go.RowKit Go.Maps

theorem loadMsg {w : World} {g : Nat} {a b c : Value} (h : Blk w g 238 #[a, b, c]) : (loadVar 238 ⟨g, 0, none⟩).run Tryz.prog w = .ok (.agg #[a, b, c]) w :=
  run_loadVar_row w g _ _ _ _ _ h Tryz.underlying238 rfl (by kernel_rfl)
theorem loadBool {w : World} {g : Nat} {a : Value} (h : Blk w g 4 #[a]) : (loadVar 4 ⟨g, 0, none⟩).run Tryz.prog w = .ok a w :=
  run_loadVar_one Tryz.underlying4 rfl (h.cell 0)

set_option maxHeartbeats 800000 in
theorem tget_nil (k : Int) (w : World) : Calls Tryz.prog 195 #[.pointer none, .int .u32 k] w fun e w' => e = .returned (.tuple #[mb0.val, .bool false]) ∧ New w w' := by
  have b1 : Blk (((w.alloc (.cells #[.int .u32 k] 28)).alloc (.cells #[.int .u32 0, .int .u8 0, .slice none 0 0] 238)).alloc (.cells #[.bool false] 4)) (w.heap.size + 1) 238 #[.int .u32 0, .int .u8 0, .slice none 0 0] := (Blk.new1 _ _ _ _).alloc _
  have b2 : Blk (((w.alloc (.cells #[.int .u32 k] 28)).alloc (.cells #[.int .u32 0, .int .u8 0, .slice none 0 0] 238)).alloc (.cells #[.bool false] 4)) (w.heap.size + 2) 4 #[.bool false] := Blk.new2 _ _ _ _ _
  go_enter Tryz.func195, Tryz.ntmps195
  go_wp2
  refine bodyPost_ret (results_cells rfl _ _ rfl rfl (loadMsg b1) (loadBool b2)) rfl ?_
  exact ⟨rfl, (((New.refl w).alloc _).alloc _).alloc _⟩

/-- The body of what is found. -/
theorem TBX.found {base : Nat} {w : World} {T : Tb} {X : List MB} (h : TBX base w T X) (k : Int) : Rd (intE .u8) w ((findX X k).getD mb0).bv ((findX X k).getD mb0).m.body ∧ ((findX X k).getD mb0).m.body.length ≤ 65536 ∧ 0 ≤ ((findX X k).getD mb0).m.fl ∧ ((findX X k).getD mb0).m.fl ≤ 31 := by
  cases hf : findX X k with
  | none => exact ⟨Rd.nil (intE .u8) w, by simp [mb0, msg0], by simp [mb0, msg0], by simp [mb0, msg0]⟩
  | some x =>
    have hx := (findX_mem hf).1
    have := h.ok x hx
    exact ⟨(h.body x hx).rd, this.2, this.1.2.1, this.1.2.2⟩

set_option maxRecDepth 100000 in
set_option maxHeartbeats 6400000 in
theorem tget_any {base : Nat} {w : World} {T : Tb} {X : List MB} (h : TBX base w T X) (k : Int) (hk0 : 0 ≤ k) (hk1 : k ≤ 4294967295) :
    Calls Tryz.prog 195 #[.pointer (some ⟨T.tb, 0, none⟩), .int .u32 k] w fun e w' => ∃ y : MB, e = .returned (.tuple #[y.val, .bool (findX X k).isSome]) ∧ y.m = ((findX X k).getD mb0).m ∧ Own (intE .u8) 5 w.heap.size w' y.bv y.m.body ∧ (TBX base w' T X ∧ Fr T.foot w w') := by
  obtain ⟨i, hi, hin⟩ := h.stripe k
  have hget := get_ent T.n hi X
  have hfd := h.found k
  have hmf : ∀ (fn : Fn) (first cap : Array Value) (w : World), (Instr.makeFunc fn first cap).run Tryz.prog w = .ok (.func fn first cap) w := fun _ _ _ _ => rfl
  have hE := enters _ _ _ Tryz.func246 (by kernel_rfl) rfl
  obtain ⟨wq, hwq⟩ : ∃ wq, wq = ((w.alloc (.cells #[.int .u32 k] 28)).alloc (.cells #[.int .u32 0, .int .u8 0, .slice none 0 0] 238)).alloc (.cells #[.bool false] 4) := ⟨_, rfl⟩
  have hn1 : New w wq := by rw [hwq]; exact (((New.refl w).alloc _).alloc _).alloc _
  have hqs : wq.heap.size = w.heap.size + 3 := by rw [hwq]; simp
  have bk : Blk wq w.heap.size 28 #[.int .u32 k] := by rw [hwq]; exact ((Blk.new _ _ _).alloc _).alloc _
  have bg : Blk wq (w.heap.size + 1) 238 #[.int .u32 0, .int .u8 0, .slice none 0 0] := by rw [hwq]; exact (Blk.new1 _ _ _ _).alloc _
  have bo : Blk wq (w.heap.size + 2) 4 #[.bool false] := by rw [hwq]; exact Blk.new2 _ _ _ _ _
  have hT := h.new hn1
  have c0 : wq.cell? ⟨T.tb, 0, none⟩ = some (.slice (some ⟨T.pb, 0, none⟩) T.n T.c) := hT.hd.cell 0
  have cg : wq.cell? ⟨w.heap.size, 0, none⟩ = some (.int .u32 k) := bk.cell 0
  have cp := hT.ptr hin
  have hiI : (0 : Int) ≤ (i : Int) := by omega
  have hnI : (i : Int) < (T.n : Int) := by omega
  have hql := hT.part_lt hin
  have hwl := h.part_lt hin
  have hmq : T.mb i ≠ T.q i := (hT.map i hin).ne_blk (hT.part i hin)
  have hkq : w.heap.size ≠ T.q i := bk.ne_ (hT.part i hin) (by decide)
  have hgq : w.heap.size + 1 ≠ T.q i := bg.ne_ (hT.part i hin) (by decide)
  have hoq : w.heap.size + 2 ≠ T.q i := bo.ne_ (hT.part i hin) (by decide)
  have hok : uKeys.ok k := okU hk0 hk1
  obtain ⟨o, ho⟩ : ∃ o, findX X k = o := ⟨_, rfl⟩
  rw [ho] at hget hfd ⊢
  have HFD := Lib.hid (fun (w4 : World) (h4 : TBX base w4 T X) => (by have := (h4.found k).1; rw [ho] at this; exact this : Rd (intE .u8) w4 (o.getD mb0).bv (o.getD mb0).m.body))
  have htop := h.top
  have HD : Hid (Calls Tryz.prog 191 #[.pointer (some ⟨T.q i, 0, none⟩), .func (.func 246) #[] #[.pointer (some ⟨w.heap.size, 0, none⟩), .pointer (some ⟨w.heap.size + 1, 0, none⟩), .pointer (some ⟨w.heap.size + 2, 0, none⟩)]] wq.drew fun e w' => e = .returned (.tuple #[]) ∧ (TBX base w' T X ∧ Fr T.foot w w') ∧
      Blk w' w.heap.size 28 #[.int .u32 k] ∧ Blk w' (w.heap.size + 1) 238 #[.int .u32 (o.getD mb0).m.uid, .int .u8 (o.getD mb0).m.fl, (o.getD mb0).bv] ∧ Blk w' (w.heap.size + 2) 4 #[.bool o.isSome] ∧ w.heap.size + 3 ≤ w'.heap.size) := by
    refine (tdo_any h (hn1.drew) hin 246 #[.pointer (some ⟨w.heap.size, 0, none⟩), .pointer (some ⟨w.heap.size + 1, 0, none⟩), .pointer (some ⟨w.heap.size + 2, 0, none⟩)]
      (fun X' w2 => X' = X ∧ Blk w2 w.heap.size 28 #[.int .u32 k] ∧ Blk w2 (w.heap.size + 1) 238 #[.int .u32 (o.getD mb0).m.uid, .int .u8 (o.getD mb0).m.fl, (o.getD mb0).bv] ∧ Blk w2 (w.heap.size + 2) 4 #[.bool o.isSome] ∧ w.heap.size + 3 ≤ w2.heap.size) hE ?_).mono ?_
    · have hm1 := (hT.map i hin).drew.setCell (a := ⟨T.q i, 0, none⟩) hmq (.int .i32 1)
      have hsz : (wq.drew.setCell ⟨T.q i, 0, none⟩ (.int .i32 1)).heap.size = w.heap.size + 3 := by simp [World.setCell]; exact hqs
      refine (get1_any (w := wq.drew.setCell ⟨T.q i, 0, none⟩ (.int .i32 1)) hm1 hok (bk.drew.far (p := ⟨T.q i, 0, none⟩) hkq _) (bg.drew.far (p := ⟨T.q i, 0, none⟩) hgq _) rfl (bo.drew.far (p := ⟨T.q i, 0, none⟩) hoq _) hget).mono ?_
      rintro e w2 ⟨rfl, h5, h6, h7⟩
      exact ⟨rfl, X, hm1.fr h7 (by omega), fr_or h7 fun _ h => .inr (by omega), fun x hx => .inl (h.body x hx), fun _ _ _ => rfl, h.nd, h.ok, rfl, h7.blk (bk.drew.far (p := ⟨T.q i, 0, none⟩) hkq _) (by omega), h5, h6, by rw [← hsz]; exact h7.size⟩
    · rintro e w' ⟨rfl, X', w2, rfl, ⟨rfl, h5, h6, h6', h6s⟩, h7, h8⟩
      exact ⟨rfl, ⟨h7, h8⟩, h5.far (p := ⟨T.q i, 0, none⟩) hkq _, h6.far (p := ⟨T.q i, 0, none⟩) hgq _, h6'.far (p := ⟨T.q i, 0, none⟩) hoq _, by simpa [World.setCell] using h6s⟩
  generalize o.getD mb0 = x at *
  generalize o.isSome = q at *
  obtain ⟨⟨uid, fl, body⟩, A, n, c⟩ := x
  simp only [MB.bv] at hfd HD HFD ⊢
  have HWQ := Lib.hid hwq
  clear hget
  go_enter Tryz.func195, Tryz.ntmps195
  go_wp2_with fail
  rw [← HWQ.out]
  clear HWQ hwq
  go_region_held3 (fun w' => w'.cell? ⟨T.tb, 0, none⟩ = some (.slice (some ⟨T.pb, 0, none⟩) T.n T.c) ∧ w'.cell? ⟨w.heap.size, 0, none⟩ = some (.int .u32 k) ∧ w'.cell? ⟨T.pb, i, none⟩ = some (.pointer (some ⟨T.q i, 0, none⟩))) (first | go_keep | (refine ⟨?_, ?_, ?_⟩ <;> assumption))
    ((first
      | (go_at_call 238
         refine (tof_any (hT.new (by repeat' first | exact New.refl _ | apply Fr.drewN | apply Fr.drew)) k (by omega) (by omega)).mono ?_
         rw [hi]
         rintro e w3 ⟨rfl, rfl⟩)
      | (go_at_call 191
         refine HD.out.mono ?_
         rintro e w4 ⟨rfl, hTn, h5, h6, h7, h7s⟩
         have k0 : w4.cell? ⟨T.tb, 0, none⟩ = some (.slice (some ⟨T.pb, 0, none⟩) T.n T.c) := hTn.1.hd.cell 0
         have k1 : w4.cell? ⟨w.heap.size, 0, none⟩ = some (.int .u32 k) := h5.cell 0
         have k2 : w4.cell? ⟨T.pb, i, none⟩ = some (.pointer (some ⟨T.q i, 0, none⟩)) := hTn.1.ptr hin)
      | fail))
  all_goals
    clear cg c0 cp HD k0 k1 k2
    have g0 : w4.drew.cell? ⟨w.heap.size + 1, 0, none⟩ = some (.int .u32 uid) := h6.cell 0
    have g1 : w4.drew.cell? ⟨w.heap.size + 1, 1, none⟩ = some (.int .u8 fl) := h6.cell 1
    have g2 : w4.drew.cell? ⟨w.heap.size + 1, 2, none⟩ = some (.slice A n c) := h6.cell 2
    have o0 : w4.drew.cell? ⟨w.heap.size + 1 + 1, 0, none⟩ = some (.bool q) := h7.cell 0
    have hrd : Rd (intE .u8) w4.drew (.slice A n c) body := HFD.out _ hTn.1.drew
    have HRD := Lib.hid hrd
    have HBL := Lib.hid hfd.2.1
    clear hfd hrd
    go_wp2_with fail
    go_region_with ((first
      | (go_at_call 240
         refine (mclone_any ⟨⟨uid, fl, body⟩, A, n, c⟩ _ HRD.out (by have := HBL.out; show body.length ≤ 100000; omega)).mono ?_
         rintro e w5 ⟨⟨⟨uid', fl', body'⟩, A', n', c'⟩, rfl, hym, hyo, hn5⟩
         simp only [MB.bv, MB.val] at hym hyo ⊢
         have b6 := hn5.blk h6.drew
         have b7 := hn5.blk h7.drew
         have p0 := b6.cell 0
         have p1 := b6.cell 1
         have p2 := b6.cell 2
         have z0 := b6.frozen 0
         have z1 := b6.frozen 1
         have z2 := b6.frozen 2
         have p3 : w5.cell? ⟨w.heap.size + 1 + 1, 0, none⟩ = some (.bool q) := b7.cell 0
         have z3 : w5.frozen? ⟨w.heap.size + 1 + 1, 0, none⟩ = false := b7.frozen 0)
      | fail))
  all_goals
    go_wp2
    have hF : Fr (fun k => k = w.heap.size + 1 ∨ k = w.heap.size + 2) w5 ((((w5.setCell ⟨w.heap.size + 1, 0, none⟩ (.int .u32 uid')).setCell ⟨w.heap.size + 1, 1, none⟩ (.int .u8 fl')).setCell ⟨w.heap.size + 1, 2, none⟩ (.slice A' n' c')).setCell ⟨w.heap.size + 1 + 1, 0, none⟩ (.bool q)) :=
      ((((Fr.refl _ _).setCell (fun _ => .inl rfl) _).setCell (fun _ => .inl rfl) _).setCell (fun _ => .inl rfl) _).setCell (fun _ => .inr rfl) _
    have e6 : Blk ((((w5.setCell ⟨w.heap.size + 1, 0, none⟩ (.int .u32 uid')).setCell ⟨w.heap.size + 1, 1, none⟩ (.int .u8 fl')).setCell ⟨w.heap.size + 1, 2, none⟩ (.slice A' n' c')).setCell ⟨w.heap.size + 1 + 1, 0, none⟩ (.bool q)) (w.heap.size + 1) 238 #[.int .u32 uid', .int .u8 fl', .slice A' n' c'] :=
      (((b6.set_ 0 _).set_ 1 _).set_ 2 _).far (by simp) _
    have e7 : Blk ((((w5.setCell ⟨w.heap.size + 1, 0, none⟩ (.int .u32 uid')).setCell ⟨w.heap.size + 1, 1, none⟩ (.int .u8 fl')).setCell ⟨w.heap.size + 1, 2, none⟩ (.slice A' n' c')).setCell ⟨w.heap.size + 1 + 1, 0, none⟩ (.bool q)) (w.heap.size + 1 + 1) 4 #[.bool q] :=
      (((b7.far (by simp) _).far (by simp) _).far (by simp) _).set_ 0 _
    have hT5 : TBX base w5 T X := hTn.1.drew.new hn5
    have hb5 := fun b hb => (hyo.block (b := b) hb).1
    refine bodyPost_ret (results_cells rfl _ _ rfl rfl (loadMsg e6) (loadBool e7)) rfl ?_
    refine ⟨⟨⟨uid', fl', body'⟩, A', n', c'⟩, rfl, hym, (hyo.fr hF fun b hb hs => ?_).mono (by show w.heap.size ≤ w4.heap.size; omega), hT5.fr hF (fun k hk hft => ?_) (fun v l hv b hb hs => ?_), Fr.trans' hTn.2 (Fr.trans' (New.to (Fr.trans ((New.refl w4).drew) hn5)) hF fun _ _ h => h) (fun k hk hs => ?_)⟩
    · have h1 := hb5 b hb
      have h2 : w4.drew.heap.size = w4.heap.size := rfl
      rcases hs with rfl | rfl <;> omega
    · have h1 := hft.2
      rcases hk with rfl | rfl <;> omega
    · obtain ⟨cs, h1⟩ := hv.heap hb
      rcases hs with rfl | rfl
      · exact h1.ne_ b6 (by decide) rfl
      · exact h1.ne_ b7 (by decide) rfl
    · rcases hs with rfl | rfl <;> omega

end Go.Proofs.YtliimglbbiebiaaGreatDoor
end

section
/- A table of messages in stripes: Remove. -/
namespace Go.Proofs.YtliimglbbiebiaaGreatDoor
open Go.RowKit Go.Maps

set_option maxHeartbeats 800000 in
theorem tremove_nil (k : Int) (w : World) : Calls Tryz.prog 193 #[.pointer none, .int .u32 k] w fun e w' => e = .returned (.tuple #[mb0.val, .bool false]) ∧ New w w' := by
  have b1 : Blk (((w.alloc (.cells #[.int .u32 k] 28)).alloc (.cells #[.int .u32 0, .int .u8 0, .slice none 0 0] 238)).alloc (.cells #[.bool false] 4)) (w.heap.size + 1) 238 #[.int .u32 0, .int .u8 0, .slice none 0 0] := (Blk.new1 _ _ _ _).alloc _
  have b2 : Blk (((w.alloc (.cells #[.int .u32 k] 28)).alloc (.cells #[.int .u32 0, .int .u8 0, .slice none 0 0] 238)).alloc (.cells #[.bool false] 4)) (w.heap.size + 2) 4 #[.bool false] := Blk.new2 _ _ _ _ _
  go_enter Tryz.func193, Tryz.ntmps193
  go_wp2
  refine bodyPost_ret (results_cells rfl _ _ rfl rfl (loadMsg b1) (loadBool b2)) rfl ?_
  exact ⟨rfl, (((New.refl w).alloc _).alloc _).alloc _⟩

set_option maxRecDepth 100000 in
set_option maxHeartbeats 6400000 in
theorem tremove_any {base : Nat} {w : World} {T : Tb} {X : List MB} (h : TBX base w T X) (hbase : T.hi ≤ base) (k : Int) (hk0 : 0 ≤ k) (hk1 : k ≤ 4294967295) :
    Calls Tryz.prog 193 #[.pointer (some ⟨T.tb, 0, none⟩), .int .u32 k] w fun e w' => e = .returned (.tuple #[((findX X k).getD mb0).val, .bool (findX X k).isSome]) ∧ Rd (intE .u8) w' ((findX X k).getD mb0).bv ((findX X k).getD mb0).m.body ∧ (TBX base w' T (remX X k) ∧ Fr T.foot w w') := by
  obtain ⟨i, hi, hin⟩ := h.stripe k
  have hget := get_ent T.n hi X
  have hfd := h.found k
  have hmf : ∀ (fn : Fn) (first cap : Array Value) (w : World), (Instr.makeFunc fn first cap).run Tryz.prog w = .ok (.func fn first cap) w := fun _ _ _ _ => rfl
  have hE := enters _ _ _ Tryz.func245 (by kernel_rfl) rfl
  obtain ⟨wq, hwq⟩ : ∃ wq, wq = ((w.alloc (.cells #[.int .u32 k] 28)).alloc (.cells #[.int .u32 0, .int .u8 0, .slice none 0 0] 238)).alloc (.cells #[.bool false] 4) := ⟨_, rfl⟩
  have hn1 : New w wq := by rw [hwq]; exact (((New.refl w).alloc _).alloc _).alloc _
  have hqs : wq.heap.size = w.heap.size + 3 := by rw [hwq]; simp
  have bk : Blk wq w.heap.size 28 #[.int .u32 k] := by rw [hwq]; exact ((Blk.new _ _ _).alloc _).alloc _
  have bg : Blk wq (w.heap.size + 1) 238 #[.int .u32 0, .int .u8 0, .slice none 0 0] := by rw [hwq]; exact (Blk.new1 _ _ _ _).alloc _
  have bo : Blk wq (w.heap.size + 2) 4 #[.bool false] := by rw [hwq]; exact Blk.new2 _ _ _ _ _
  have hT := h.new hn1
  have c0 : wq.cell? ⟨T.tb, 0, none⟩ = some (.slice (some ⟨T.pb, 0, none⟩) T.n T.c) := hT.hd.cell 0
  have cg : wq.cell? ⟨w.heap.size, 0, none⟩ = some (.int .u32 k) := bk.cell 0
  have cp := hT.ptr hin
  have hiI : (0 : Int) ≤ (i : Int) := by omega
  have hnI : (i : Int) < (T.n : Int) := by omega
  have hql := hT.part_lt hin
  have hwl := h.part_lt hin
  have hmq : T.mb i ≠ T.q i := (hT.map i hin).ne_blk (hT.part i hin)
  have hkq : w.heap.size ≠ T.q i := bk.ne_ (hT.part i hin) (by decide)
  have hgq : w.heap.size + 1 ≠ T.q i := bg.ne_ (hT.part i hin) (by decide)
  have hoq : w.heap.size + 2 ≠ T.q i := bo.ne_ (hT.part i hin) (by decide)
  have hok : uKeys.ok k := okU hk0 hk1
  obtain ⟨o, ho⟩ : ∃ o, findX X k = o := ⟨_, rfl⟩
  rw [ho] at hget hfd ⊢
  have HFD := Lib.hid (fun (w4 : World) (h4 : Fr T.foot w w4) => (by
    cases o with
    | none => exact Rd.nil (intE .u8) w4
    | some x => exact ((h.body x (findX_mem ho).1).fr h4 (fun b hb hs => by have := ((h.body x (findX_mem ho).1).block hb).1; have := hs.2; omega)).rd : Rd (intE .u8) w4 (o.getD mb0).bv (o.getD mb0).m.body))
  have htop := h.top
  have hnd : ((remX X k).map fun x => x.m.uid).Nodup := h.nd.sublist (List.Sublist.map _ List.filter_sublist)
  have hsub : ∀ x ∈ remX X k, x ∈ X := fun x hx => (List.mem_filter.1 hx).1
  have hoth : ∀ j, j ≠ i → j < T.n → ent T.n j (remX X k) = ent T.n j X := fun j hj hjn => by
    rw [ent_rem]
    unfold del
    rw [List.filter_eq_self]
    intro p hp
    have := ent_other T.n (i := j) (X := X) (k := k) (by rw [hi]; omega) p hp
    simpa using this
  have HD : Hid (Calls Tryz.prog 191 #[.pointer (some ⟨T.q i, 0, none⟩), .func (.func 245) #[] #[.pointer (some ⟨w.heap.size, 0, none⟩), .pointer (some ⟨w.heap.size + 1, 0, none⟩), .pointer (some ⟨w.heap.size + 2, 0, none⟩)]] wq.drew fun e w' => e = .returned (.tuple #[]) ∧ (TBX base w' T (remX X k) ∧ Fr T.foot w w') ∧
      Blk w' w.heap.size 28 #[.int .u32 k] ∧ Blk w' (w.heap.size + 1) 238 #[.int .u32 (o.getD mb0).m.uid, .int .u8 (o.getD mb0).m.fl, (o.getD mb0).bv] ∧ Blk w' (w.heap.size + 2) 4 #[.bool o.isSome] ∧ w.heap.size + 3 ≤ w'.heap.size) := by
    refine (tdo_any h (hn1.drew) hin 245 #[.pointer (some ⟨w.heap.size, 0, none⟩), .pointer (some ⟨w.heap.size + 1, 0, none⟩), .pointer (some ⟨w.heap.size + 2, 0, none⟩)]
      (fun X' w2 => X' = remX X k ∧ Blk w2 w.heap.size 28 #[.int .u32 k] ∧ Blk w2 (w.heap.size + 1) 238 #[.int .u32 (o.getD mb0).m.uid, .int .u8 (o.getD mb0).m.fl, (o.getD mb0).bv] ∧ Blk w2 (w.heap.size + 2) 4 #[.bool o.isSome] ∧ w.heap.size + 3 ≤ w2.heap.size) hE ?_).mono ?_
    · have hm1 := (hT.map i hin).drew.setCell (a := ⟨T.q i, 0, none⟩) hmq (.int .i32 1)
      have hsz : (wq.drew.setCell ⟨T.q i, 0, none⟩ (.int .i32 1)).heap.size = w.heap.size + 3 := by simp [World.setCell]; exact hqs
      refine (remove1_any (w := wq.drew.setCell ⟨T.q i, 0, none⟩ (.int .i32 1)) hm1 hok (bk.drew.far (p := ⟨T.q i, 0, none⟩) hkq _) (bg.drew.far (p := ⟨T.q i, 0, none⟩) hgq _) rfl (bo.drew.far (p := ⟨T.q i, 0, none⟩) hoq _) hget).mono ?_
      rintro e w2 ⟨rfl, h5, h6, h7m, h7⟩
      exact ⟨rfl, remX X k, by rw [ent_rem]; exact h7m, fr_or h7 fun _ h => by rcases h with h | h | h; exact .inl h; exact .inr (by omega); exact .inr (by omega), fun x hx => .inl (h.body x (hsub x hx)), hoth, hnd, fun x hx => h.ok x (hsub x hx), rfl, h7.blk (bk.drew.far (p := ⟨T.q i, 0, none⟩) hkq _) (by omega), h5, h6, by rw [← hsz]; exact h7.size⟩
    · rintro e w' ⟨rfl, X', w2, rfl, ⟨rfl, h5, h6, h6', h6s⟩, h7, h8⟩
      exact ⟨rfl, ⟨h7, h8⟩, h5.far (p := ⟨T.q i, 0, none⟩) hkq _, h6.far (p := ⟨T.q i, 0, none⟩) hgq _, h6'.far (p := ⟨T.q i, 0, none⟩) hoq _, by simpa [World.setCell] using h6s⟩
  generalize o.getD mb0 = x at *
  generalize o.isSome = q at *
  obtain ⟨⟨uid, fl, body⟩, A, n, c⟩ := x
  simp only [MB.bv] at hfd HD HFD ⊢
  have HWQ := Lib.hid hwq
  clear hget
  go_enter Tryz.func193, Tryz.ntmps193
  go_wp2_with fail
  rw [← HWQ.out]
  clear HWQ hwq
  go_region_held3 (fun w' => w'.cell? ⟨T.tb, 0, none⟩ = some (.slice (some ⟨T.pb, 0, none⟩) T.n T.c) ∧ w'.cell? ⟨w.heap.size, 0, none⟩ = some (.int .u32 k) ∧ w'.cell? ⟨T.pb, i, none⟩ = some (.pointer (some ⟨T.q i, 0, none⟩))) (first | go_keep | (refine ⟨?_, ?_, ?_⟩ <;> assumption))
    ((first
      | (go_at_call 238
         refine (tof_any (hT.new (by repeat' first | exact New.refl _ | apply Fr.drewN | apply Fr.drew)) k (by omega) (by omega)).mono ?_
         rw [hi]
         rintro e w3 ⟨rfl, rfl⟩)
      | (go_at_call 191
         refine HD.out.mono ?_
         rintro e w4 ⟨rfl, hTn, h5, h6, h7, h7s⟩
         have k0 : w4.cell? ⟨T.tb, 0, none⟩ = some (.slice (some ⟨T.pb, 0, none⟩) T.n T.c) := hTn.1.hd.cell 0
         have k1 : w4.cell? ⟨w.heap.size, 0, none⟩ = some (.int .u32 k) := h5.cell 0
         have k2 : w4.cell? ⟨T.pb, i, none⟩ = some (.pointer (some ⟨T.q i, 0, none⟩)) := hTn.1.ptr hin)
      | fail))
  all_goals
    clear cg c0 cp HD k0 k1 k2
    have g0 : w4.drew.cell? ⟨w.heap.size + 1, 0, none⟩ = some (.int .u32 uid) := h6.cell 0
    have g1 : w4.drew.cell? ⟨w.heap.size + 1, 1, none⟩ = some (.int .u8 fl) := h6.cell 1
    have g2 : w4.drew.cell? ⟨w.heap.size + 1, 2, none⟩ = some (.slice A n c) := h6.cell 2
    have o0 : w4.drew.cell? ⟨w.heap.size + 1 + 1, 0, none⟩ = some (.bool q) := h7.cell 0
    have y0 : w4.drew.frozen? ⟨w.heap.size + 1, 0, none⟩ = false := h6.frozen 0
    have y1 : w4.drew.frozen? ⟨w.heap.size + 1, 1, none⟩ = false := h6.frozen 1
    have y2 : w4.drew.frozen? ⟨w.heap.size + 1, 2, none⟩ = false := h6.frozen 2
    have y3 : w4.drew.frozen? ⟨w.heap.size + 1 + 1, 0, none⟩ = false := h7.frozen 0
    have g0' : w4.cell? ⟨w.heap.size + 1, 0, none⟩ = some (.int .u32 uid) := h6.cell 0
    have g1' : w4.cell? ⟨w.heap.size + 1, 1, none⟩ = some (.int .u8 fl) := h6.cell 1
    have g2' : w4.cell? ⟨w.heap.size + 1, 2, none⟩ = some (.slice A n c) := h6.cell 2
    have o0' : w4.cell? ⟨w.heap.size + 1 + 1, 0, none⟩ = some (.bool q) := h7.cell 0
    have y0' : w4.frozen? ⟨w.heap.size + 1, 0, none⟩ = false := h6.frozen 0
    have y1' : w4.frozen? ⟨w.heap.size + 1, 1, none⟩ = false := h6.frozen 1
    have y2' : w4.frozen? ⟨w.heap.size + 1, 2, none⟩ = false := h6.frozen 2
    have y3' : w4.frozen? ⟨w.heap.size + 1 + 1, 0, none⟩ = false := h7.frozen 0
    go_wp2_with fail
    go_region
  all_goals
    go_wp2
    have hF : Fr (fun k => k = w.heap.size + 1 ∨ k = w.heap.size + 2) w4 (((((w4.setCell ⟨w.heap.size + 1, 0, none⟩ (.int .u32 uid)).setCell ⟨w.heap.size + 1, 1, none⟩ (.int .u8 fl)).setCell ⟨w.heap.size + 1, 2, none⟩ (.slice A n c)).setCell ⟨w.heap.size + 1 + 1, 0, none⟩ (.bool q)).drew) :=
      (((((Fr.refl _ _).setCell (fun _ => .inl rfl) _).setCell (fun _ => .inl rfl) _).setCell (fun _ => .inl rfl) _).setCell (fun _ => .inr rfl) _).drew
    have e6 : Blk (((((w4.setCell ⟨w.heap.size + 1, 0, none⟩ (.int .u32 uid)).setCell ⟨w.heap.size + 1, 1, none⟩ (.int .u8 fl)).setCell ⟨w.heap.size + 1, 2, none⟩ (.slice A n c)).setCell ⟨w.heap.size + 1 + 1, 0, none⟩ (.bool q)).drew) (w.heap.size + 1) 238 #[.int .u32 uid, .int .u8 fl, .slice A n c] :=
      ((((h6.set_ 0 _).set_ 1 _).set_ 2 _).far (by simp) _).drew
    have e7 : Blk (((((w4.setCell ⟨w.heap.size + 1, 0, none⟩ (.int .u32 uid)).setCell ⟨w.heap.size + 1, 1, none⟩ (.int .u8 fl)).setCell ⟨w.heap.size + 1, 2, none⟩ (.slice A n c)).setCell ⟨w.heap.size + 1 + 1, 0, none⟩ (.bool q)).drew) (w.heap.size + 1 + 1) 4 #[.bool q] :=
      ((((h7.far (by simp) _).far (by simp) _).far (by simp) _).set_ 0 _).drew
    have hFw := Fr.trans' hTn.2 hF (fun k hk hs => by rcases hs with rfl | rfl <;> omega)
    refine bodyPost_ret (results_cells rfl _ _ rfl rfl (loadMsg e6) (loadBool e7)) rfl ?_
    refine ⟨rfl, HFD.out _ hFw, hTn.1.fr hF (fun k hk hft => ?_) (fun v l hv b hb hs => ?_), hFw⟩
    · have h1 := hft.2
      rcases hk with rfl | rfl <;> omega
    · obtain ⟨cs, h1⟩ := hv.heap hb
      rcases hs with rfl | rfl
      · exact h1.ne_ h6 (by decide) rfl
      · exact h1.ne_ h7 (by decide) rfl

end Go.Proofs.YtliimglbbiebiaaGreatDoor
end

section
/- A table of messages in stripes: Flags. -/
namespace Go.Proofs.YtliimglbbiebiaaGreatDoor
open Go.RowKit Go.Maps

theorem Blk.new3 (w : World) (o o' o'' : Obj) (t : TypeId) (cs : Array Value) : Blk ((((w.alloc o).alloc o').alloc o'').alloc (.cells cs t)) (w.heap.size + 3) t cs := by
  have h := Blk.new2 (w.alloc o) o' o'' t cs
  rwa [World.size_alloc] at h
theorem Blk.new4 (w : World) (o o' o'' o3 : Obj) (t : TypeId) (cs : Array Value) : Blk (((((w.alloc o).alloc o').alloc o'').alloc o3).alloc (.cells cs t)) (w.heap.size + 4) t cs := by
  have h := Blk.new3 (w.alloc o) o' o'' o3 t cs
  rwa [World.size_alloc] at h
theorem loadFlags {w : World} {g : Nat} {a : Value} (h : Blk w g 45 #[a]) : (loadVar 45 ⟨g, 0, none⟩).run Tryz.prog w = .ok a w :=
  run_loadVar_one Tryz.underlying45 rfl (h.cell 0)
theorem loadCode {w : World} {g : Nat} {a : Value} (h : Blk w g 198 #[a]) : (loadVar 198 ⟨g, 0, none⟩).run Tryz.prog w = .ok a w :=
  run_loadVar_one Tryz.underlying198 rfl (h.cell 0)

/-- The world behind Flags' boxes. -/
abbrev flW (w : World) (k mode f e : Int) : World := ((((w.alloc (.cells #[.int .u32 k] 28)).alloc (.cells #[.int .i64 mode] 3)).alloc (.cells #[.int .u8 f] 45)).alloc (.cells #[.int .u8 0] 45)).alloc (.cells #[.int .i64 e] 198)

set_option maxHeartbeats 800000 in
theorem tflags_nil (k mode f : Int) (w : World) : Calls Tryz.prog 196 #[.pointer none, .int .u32 k, .int .i64 mode, .int .u8 f] w fun e w' => e = .returned (.tuple #[.int .u8 0, .int .i64 1]) ∧ New w w' := by
  obtain ⟨wq, hwq⟩ : ∃ wq, wq = flW w k mode f 1 := ⟨_, rfl⟩
  have hn1 : New w wq := by rw [hwq]; exact (((((New.refl w).alloc _).alloc _).alloc _).alloc _).alloc _
  have bo : Blk wq (w.heap.size + 3) 45 #[.int .u8 0] := by rw [hwq]; exact (Blk.new3 _ _ _ _ _ _).alloc _
  have be : Blk wq (w.heap.size + 4) 198 #[.int .i64 1] := by rw [hwq]; exact Blk.new4 _ _ _ _ _ _ _
  unfold flW at hwq
  have HWQ := Lib.hid hwq
  clear hwq
  go_enter Tryz.func196, Tryz.ntmps196
  go_wp2
  rw [← HWQ.out]
  refine bodyPost_ret (results_cells rfl _ _ rfl rfl (loadFlags bo) (loadCode be)) rfl ?_
  exact ⟨rfl, hn1⟩

set_option maxRecDepth 100000 in
set_option maxHeartbeats 6400000 in
theorem tflags_any {base : Nat} {w : World} {T : Tb} {X : List MB} (h : TBX base w T X) (hX : X.length ≤ 100000) (k mode f : Int) (hk0 : 0 ≤ k) (hk1 : k ≤ 4294967295) (hf : 0 ≤ f ∧ f ≤ 255) (hm : (Lit.int .i64 mode).wf = true) :
    Calls Tryz.prog 196 #[.pointer (some ⟨T.tb, 0, none⟩), .int .u32 k, .int .i64 mode, .int .u8 f] w fun e w' => e = .returned (.tuple #[.int .u8 (flX (X.map MB.m) k mode f), .int .i64 (flC (X.map MB.m) k mode f)]) ∧
      ∃ X', X'.map MB.m = flM (X.map MB.m) k mode f ∧ X'.length = X.length ∧ TBX base w' T X' ∧ Fr T.foot w w' := by
  obtain ⟨i, hi, hin⟩ := h.stripe k
  have hget := get_ent T.n hi X
  have hmf : ∀ (fn : Fn) (first cap : Array Value) (w : World), (Instr.makeFunc fn first cap).run Tryz.prog w = .ok (.func fn first cap) w := fun _ _ _ _ => rfl
  have hE := enters _ _ _ Tryz.func247 (by kernel_rfl) rfl
  obtain ⟨wq, hwq⟩ : ∃ wq, wq = flW w k mode f 0 := ⟨_, rfl⟩
  have hn1 : New w wq := by rw [hwq]; exact (((((New.refl w).alloc _).alloc _).alloc _).alloc _).alloc _
  have hqs : wq.heap.size = w.heap.size + 5 := by rw [hwq]; simp
  have bk : Blk wq w.heap.size 28 #[.int .u32 k] := by rw [hwq]; exact ((((Blk.new _ _ _).alloc _).alloc _).alloc _).alloc _
  have bm : Blk wq (w.heap.size + 1) 3 #[.int .i64 mode] := by rw [hwq]; exact (((Blk.new1 _ _ _ _).alloc _).alloc _).alloc _
  have bf : Blk wq (w.heap.size + 2) 45 #[.int .u8 f] := by rw [hwq]; exact ((Blk.new2 _ _ _ _ _).alloc _).alloc _
  have bo : Blk wq (w.heap.size + 3) 45 #[.int .u8 0] := by rw [hwq]; exact (Blk.new3 _ _ _ _ _ _).alloc _
  have be : Blk wq (w.heap.size + 4) 198 #[.int .i64 0] := by rw [hwq]; exact Blk.new4 _ _ _ _ _ _ _
  have hT := h.new hn1
  have c0 : wq.cell? ⟨T.tb, 0, none⟩ = some (.slice (some ⟨T.pb, 0, none⟩) T.n T.c) := hT.hd.cell 0
  have cg : wq.cell? ⟨w.heap.size, 0, none⟩ = some (.int .u32 k) := bk.cell 0
  have cp := hT.ptr hin
  have hiI : (0 : Int) ≤ (i : Int) := by omega
  have hnI : (i : Int) < (T.n : Int) := by omega
  have hql := hT.part_lt hin
  have hwl := h.part_lt hin
  have htop := h.top
  have hmq : T.mb i ≠ T.q i := (hT.map i hin).ne_blk (hT.part i hin)
  have hkq : w.heap.size ≠ T.q i := bk.ne_ (hT.part i hin) (by decide)
  have hmdq : w.heap.size + 1 ≠ T.q i := bm.ne_ (hT.part i hin) (by decide)
  have hfq : w.heap.size + 2 ≠ T.q i := bf.ne_ (hT.part i hin) (by decide)
  have hoq : w.heap.size + 3 ≠ T.q i := bo.ne_ (hT.part i hin) (by decide)
  have heq : w.heap.size + 4 ≠ T.q i := be.ne_ (hT.part i hin) (by decide)
  have hok : uKeys.ok k := okU hk0 hk1
  have hlen := h.len i
  have hm1 := (hT.map i hin).drew.setCell (a := ⟨T.q i, 0, none⟩) hmq (.int .i32 1)
  have hsz : (wq.drew.setCell ⟨T.q i, 0, none⟩ (.int .i32 1)).heap.size = w.heap.size + 5 := by simp [World.setCell]; exact hqs
  have bk1 := bk.drew.far (p := ⟨T.q i, 0, none⟩) hkq (.int .i32 1)
  have bm1 := bm.drew.far (p := ⟨T.q i, 0, none⟩) hmdq (.int .i32 1)
  have bf1 := bf.drew.far (p := ⟨T.q i, 0, none⟩) hfq (.int .i32 1)
  have bo1 := bo.drew.far (p := ⟨T.q i, 0, none⟩) hoq (.int .i32 1)
  have be1 := be.drew.far (p := ⟨T.q i, 0, none⟩) heq (.int .i32 1)
  have HD : Hid (Calls Tryz.prog 191 #[.pointer (some ⟨T.q i, 0, none⟩), .func (.func 247) #[] #[.pointer (some ⟨w.heap.size, 0, none⟩), .pointer (some ⟨w.heap.size + 4, 0, none⟩), .pointer (some ⟨w.heap.size + 1, 0, none⟩), .pointer (some ⟨w.heap.size + 2, 0, none⟩), .pointer (some ⟨w.heap.size + 3, 0, none⟩)]] wq.drew fun e w' => e = .returned (.tuple #[]) ∧
      (∃ X', X'.map MB.m = flM (X.map MB.m) k mode f ∧ X'.length = X.length ∧ TBX base w' T X' ∧ Fr T.foot w w') ∧
      Blk w' w.heap.size 28 #[.int .u32 k] ∧ Blk w' (w.heap.size + 3) 45 #[.int .u8 (flX (X.map MB.m) k mode f)] ∧ Blk w' (w.heap.size + 4) 198 #[.int .i64 (flC (X.map MB.m) k mode f)]) := by
    refine (tdo_any h (hn1.drew) hin 247 #[.pointer (some ⟨w.heap.size, 0, none⟩), .pointer (some ⟨w.heap.size + 4, 0, none⟩), .pointer (some ⟨w.heap.size + 1, 0, none⟩), .pointer (some ⟨w.heap.size + 2, 0, none⟩), .pointer (some ⟨w.heap.size + 3, 0, none⟩)]
      (fun X' w2 => (X'.map MB.m = flM (X.map MB.m) k mode f ∧ X'.length = X.length) ∧ Blk w2 w.heap.size 28 #[.int .u32 k] ∧ Blk w2 (w.heap.size + 3) 45 #[.int .u8 (flX (X.map MB.m) k mode f)] ∧ Blk w2 (w.heap.size + 4) 198 #[.int .i64 (flC (X.map MB.m) k mode f)]) hE ?_).mono ?_
    · by_cases hyes : ∃ x v, findX X k = some x ∧ chg x.m.fl mode f = some v
      · obtain ⟨x, v, hx, hv⟩ := hyes
        have hxm := findX_mem hx
        have hxo := (h.ok x hxm.1).1.2
        have hv0 := chg_ok hv hf.1
        have hfm : findM (X.map MB.m) k = some x.m := by rw [findX_map, hx]; rfl
        have e1 : flX (X.map MB.m) k mode f = v := by unfold flX; rw [hfm]; simp [hv]
        have e2 : flC (X.map MB.m) k mode f = 0 := by unfold flC; rw [hfm]; simp [hv]
        have e3 : flM (X.map MB.m) k mode f = setF (X.map MB.m) k v := by unfold flM; rw [e2, if_pos rfl, e1]
        have huq : ∀ y ∈ X, y.m.uid = k → y = x := fun y hy he => by
          have h1 := findM_of_mem (M := X.map MB.m) (by rw [List.map_map]; exact h.nd) (List.mem_map.2 ⟨y, hy, rfl⟩)
          obtain ⟨a, ha⟩ := List.mem_iff_getElem?.1 hy
          obtain ⟨b, hb⟩ := List.mem_iff_getElem?.1 hxm.1
          have h2 : (X.map fun x => x.m.uid)[a]? = (X.map fun x => x.m.uid)[b]? := by rw [List.getElem?_map, List.getElem?_map, ha, hb]; simp [he, hxm.2]
          have h3 := (List.getElem?_inj (by rw [List.length_map]; exact (List.getElem?_eq_some_iff.1 ha).1) h.nd).1 h2
          subst h3
          rw [ha] at hb
          cases hb
          rfl
        have hmemS : ∀ y ∈ setX X k v, ∃ z ∈ X, y.bv = z.bv ∧ y.m.body = z.m.body ∧ y.m.uid = z.m.uid ∧ (y.m.fl = z.m.fl ∨ y.m.fl = v) := fun y hy => by
          unfold setX at hy
          obtain ⟨z, hz, rfl⟩ := List.mem_map.1 hy
          refine ⟨z, hz, ?_⟩
          by_cases hzk : z.m.uid = k
          · rw [if_pos hzk]; exact ⟨rfl, rfl, rfl, .inr rfl⟩
          · rw [if_neg hzk]; exact ⟨rfl, rfl, rfl, .inl rfl⟩
        have hnd : ((setX X k v).map fun x => x.m.uid) = X.map fun x => x.m.uid := by
          unfold setX
          rw [List.map_map]
          refine List.map_congr_left fun z _ => ?_
          simp only [Function.comp]
          split <;> rfl
        refine (flags1_yes (w := wq.drew.setCell ⟨T.q i, 0, none⟩ (.int .i32 1)) (eb := w.heap.size + 4) hm1 (by unfold maxLen; omega) hok bk1 bm1 bf1 bo1 (by rw [hget, hx]; rfl) hf hm ⟨hxo.1, by omega⟩ hv).mono ?_
        rintro e w2 ⟨rfl, h5, h6, h7⟩
        refine ⟨rfl, setX X k v, ?_, fr_or h7 fun _ h => by rcases h with h | h; exact .inl h; exact .inr (by omega), fun y hy => ?_, fun j hj hjn => ent_set_other (by rw [hi]; omega) v X, by rw [hnd]; exact h.nd, fun y hy => ?_, ⟨by rw [e3, setX_map], by unfold setX; simp⟩, h7.blk bk1 (by omega), by rw [e1]; exact h5, by rw [e2]; exact h7.blk be1 (by omega)⟩
        · rw [ent_set X huq]
          refine h6.perm (put_set_perm (v0 := x.val) hm1.nd ?_)
          rw [hget, hx]; rfl
        · obtain ⟨z, hz, e4, e5, _⟩ := hmemS y hy
          rw [e4, e5]
          exact .inl (h.body z hz)
        · obtain ⟨z, hz, e4, e5, e6, e7⟩ := hmemS y hy
          have h8 := h.ok z hz
          refine ⟨⟨by rw [e6]; exact h8.1.1, ?_⟩, by rw [e5]; exact h8.2⟩
          rcases e7 with e7 | e7
          · rw [e7]; exact h8.1.2
          · rw [e7]; exact hv0
      · have hno : ∀ x, findX X k = some x → chg x.m.fl mode f = none := fun x hx => by
          cases hc : chg x.m.fl mode f with
          | none => rfl
          | some v => exact absurd ⟨x, v, hx, hc⟩ hyes
        have hwf : ∀ x, findX X k = some x → 0 ≤ x.m.fl ∧ x.m.fl ≤ 255 := fun x hx => by
          have := (h.ok x (findX_mem hx).1).1.2
          omega
        have e1 : flX (X.map MB.m) k mode f = 0 := by
          unfold flX; rw [findX_map]
          cases hx : findX X k with
          | none => rfl
          | some x => simp [hno x hx]
        have e2 : flC (X.map MB.m) k mode f = if (findX X k).isSome then 2 else 7 := by
          unfold flC; rw [findX_map]
          cases hx : findX X k with
          | none => rfl
          | some x => simp [hno x hx]
        have e3 : flM (X.map MB.m) k mode f = X.map MB.m := by
          unfold flM
          rw [if_neg]
          rw [e2]
          split <;> omega
        refine (flags1_no (w := wq.drew.setCell ⟨T.q i, 0, none⟩ (.int .i32 1)) (ob := w.heap.size + 3) hm1 hok bk1 be1 bm1 bf1 hget hf hm hwf hno).mono ?_
        rintro e w2 ⟨rfl, h5, h6⟩
        exact ⟨rfl, X, hm1.fr h6 (by omega), fr_or h6 fun _ h => .inr (by omega), fun x hx => .inl (h.body x hx), fun _ _ _ => rfl, h.nd, h.ok, ⟨e3.symm, rfl⟩, h6.blk bk1 (by omega), by rw [e1]; exact h6.blk bo1 (by omega), by rw [e2]; exact h5⟩
    · rintro e w' ⟨rfl, X', w2, rfl, ⟨⟨h4, h4'⟩, h5, h6, h6'⟩, h7, h8⟩
      exact ⟨rfl, ⟨X', h4, h4', h7, h8⟩, h5.far (p := ⟨T.q i, 0, none⟩) hkq _, h6.far (p := ⟨T.q i, 0, none⟩) hoq _, h6'.far (p := ⟨T.q i, 0, none⟩) heq _⟩
  generalize flX (X.map MB.m) k mode f = rx at *
  generalize flC (X.map MB.m) k mode f = rc at *
  unfold flW at hwq
  have HWQ := Lib.hid hwq
  clear hget bk1 bm1 bf1 bo1 be1 hm1 hm hf
  go_enter Tryz.func196, Tryz.ntmps196
  go_wp2_with fail
  rw [← HWQ.out]
  clear HWQ hwq
  go_region_held3 (fun w' => w'.cell? ⟨T.tb, 0, none⟩ = some (.slice (some ⟨T.pb, 0, none⟩) T.n T.c) ∧ w'.cell? ⟨w.heap.size, 0, none⟩ = some (.int .u32 k) ∧ w'.cell? ⟨T.pb, i, none⟩ = some (.pointer (some ⟨T.q i, 0, none⟩))) (first | go_keep | (refine ⟨?_, ?_, ?_⟩ <;> assumption))
    ((first
      | (go_at_call 238
         refine (tof_any (hT.new (by repeat' first | exact New.refl _ | apply Fr.drewN | apply Fr.drew)) k (by omega) (by omega)).mono ?_
         rw [hi]
         rintro e w3 ⟨rfl, rfl⟩)
      | (go_at_call 191
         refine HD.out.mono ?_
         rintro e w4 ⟨rfl, ⟨X', hX1, hX2, hTn, hTf⟩, h5, h6, h7⟩
         have k0 : w4.cell? ⟨T.tb, 0, none⟩ = some (.slice (some ⟨T.pb, 0, none⟩) T.n T.c) := hTn.hd.cell 0
         have k1 : w4.cell? ⟨w.heap.size, 0, none⟩ = some (.int .u32 k) := h5.cell 0
         have k2 : w4.cell? ⟨T.pb, i, none⟩ = some (.pointer (some ⟨T.q i, 0, none⟩)) := hTn.ptr hin)
      | fail))
  all_goals
    clear cg c0 cp HD k0 k1 k2
    have g0 : w4.drew.cell? ⟨w.heap.size + 1 + 1 + 1, 0, none⟩ = some (.int .u8 rx) := h6.cell 0
    have o0 : w4.drew.cell? ⟨w.heap.size + 1 + 1 + 1 + 1, 0, none⟩ = some (.int .i64 rc) := h7.cell 0
    have g0' : w4.cell? ⟨w.heap.size + 1 + 1 + 1, 0, none⟩ = some (.int .u8 rx) := h6.cell 0
    have o0' : w4.cell? ⟨w.heap.size + 1 + 1 + 1 + 1, 0, none⟩ = some (.int .i64 rc) := h7.cell 0
    have y0' : w4.frozen? ⟨w.heap.size + 1 + 1 + 1, 0, none⟩ = false := h6.frozen 0
    have y3' : w4.frozen? ⟨w.heap.size + 1 + 1 + 1 + 1, 0, none⟩ = false := h7.frozen 0
    have y0 : w4.drew.frozen? ⟨w.heap.size + 1 + 1 + 1, 0, none⟩ = false := h6.frozen 0
    have y3 : w4.drew.frozen? ⟨w.heap.size + 1 + 1 + 1 + 1, 0, none⟩ = false := h7.frozen 0
    go_wp2_with fail
    go_region
  all_goals
    go_wp2
    have hF : Fr (fun k => k = w.heap.size + 3 ∨ k = w.heap.size + 4) w4 (((w4.setCell ⟨w.heap.size + 1 + 1 + 1, 0, none⟩ (.int .u8 rx)).setCell ⟨w.heap.size + 1 + 1 + 1 + 1, 0, none⟩ (.int .i64 rc)).drew) :=
      (((Fr.refl _ _).setCell (fun _ => .inl rfl) _).setCell (fun _ => .inr rfl) _).drew
    have e6 : Blk (((w4.setCell ⟨w.heap.size + 1 + 1 + 1, 0, none⟩ (.int .u8 rx)).setCell ⟨w.heap.size + 1 + 1 + 1 + 1, 0, none⟩ (.int .i64 rc)).drew) (w.heap.size + 1 + 1 + 1) 45 #[.int .u8 rx] :=
      ((h6.set_ 0 _).far (by simp) _).drew
    have e7 : Blk (((w4.setCell ⟨w.heap.size + 1 + 1 + 1, 0, none⟩ (.int .u8 rx)).setCell ⟨w.heap.size + 1 + 1 + 1 + 1, 0, none⟩ (.int .i64 rc)).drew) (w.heap.size + 1 + 1 + 1 + 1) 198 #[.int .i64 rc] :=
      ((h7.far (by simp) _).set_ 0 _).drew
    have hFw := Fr.trans' hTf hF (fun k hk hs => by rcases hs with rfl | rfl <;> omega)
    refine bodyPost_ret (results_cells rfl _ _ rfl rfl (loadFlags e6) (loadCode e7)) rfl ?_
    refine ⟨rfl, X', hX1, hX2, hTn.fr hF (fun k hk hft => ?_) (fun v l hv b hb hs => ?_), hFw⟩
    · have h1 := hft.2
      rcases hk with rfl | rfl <;> omega
    · obtain ⟨cs, h1⟩ := hv.heap hb
      rcases hs with rfl | rfl
      · exact h1.ne_ h6 (by decide) rfl
      · exact h1.ne_ h7 (by decide) rfl

end Go.Proofs.YtliimglbbiebiaaGreatDoor
end

section
/- The steps of the plain sorting functions, and a row as an array. Plain lemmas; of no program. -/
namespace Go.Proofs.YtliimglbbiebiaaGreatDoor
open Go.RowKit Go.Sort

/-- The slice with head at block g is a row of the call's own that holds the array. -/
def SRow (te : TypeId) (base : Nat) (w : World) (g c : Nat) (d : Array Int) : Prop := Own (intE .u32) te base w (.slice (some ⟨g, 0, none⟩) d.size c) d.toList

section
variable {te : TypeId} {base g c : Nat} {w w' : World} {d : Array Int}
theorem SRow.cell (h : SRow te base w g c d) {t : Nat} (ht : t < d.size) : w.cell? ⟨g, t, none⟩ = some (.int .u32 d[t]!) := by
  refine Own.icell h ?_
  rw [Array.getElem?_toList, Array.getElem?_eq_getElem ht, getElem!_pos d t ht]
theorem SRow.frozen (h : SRow te base w g c d) (t : Nat) : w.frozen? ⟨g, t, none⟩ = false := Own.ifrozen h t
theorem SRow.fr {S : Nat → Prop} (h : SRow te base w g c d) (hf : Fr S w w') (hS : ¬ S g) : SRow te base w' g c d := Own.fr h hf fun b hb => by cases hb; exact hS
theorem SRow.drewN (h : SRow te base w g c d) (n : Nat) : SRow te base (w.drewN n) g c d := h
theorem SRow.new (h : SRow te base w g c d) (hf : New w w') : SRow te base w' g c d := h.fr hf id
theorem SRow.base_le (h : SRow te base w g c d) : base ≤ g := (Own.block h rfl).1
theorem SRow.lt (h : SRow te base w g c d) : g < w.heap.size := (Own.block h rfl).2
theorem SRow.swap (h : SRow te base w g c d) (i j : Nat) :
    SRow te base ((w.setCell ⟨g, i, none⟩ (.int .u32 d[j]!)).setCell ⟨g, j, none⟩ (.int .u32 d[i]!)) g c (swp d i j) := by
  have h1 := (Own.istored (Own.istored h i d[j]!) j d[i]!)
  unfold SRow swp
  have : ((d.setIfInBounds i d[j]!).setIfInBounds j d[i]!).toList = (d.toList.set i d[j]!).set j d[i]! := by simp
  rw [this]
  simpa using h1
end
theorem SRow.one {te : TypeId} {base g c : Nat} {w : World} {d : Array Int} (h : SRow te base w g c d) (i : Nat) (v : Int) : SRow te base (w.setCell ⟨g, i, none⟩ (.int .u32 v)) g c (d.setIfInBounds i v) := by
  have h1 := Own.istored h i v
  unfold SRow
  rw [Array.toList_setIfInBounds, Array.size_setIfInBounds]
  exact h1
/-- A swap from a world that has not yet drawn. -/
theorem SRow.two0 {te : TypeId} {base g c : Nat} {w : World} {d : Array Int} (h : SRow te base w g c d) (i j : Nat) : SRow te base ((w.setCell ⟨g, i, none⟩ (.int .u32 d[j]!)).setCell ⟨g, j, none⟩ (.int .u32 d[i]!)).drew g c (swp d i j) := h.swap i j
theorem One.two0 {g : Nat} {a w : World} (h : One g a w) (i j : Nat) (u v : Value) : One g a ((w.setCell ⟨g, i, none⟩ u).setCell ⟨g, j, none⟩ v).drew := Fr.drew (One.set (One.set h i u) j v)
/-- What a second store to the row needs. -/
theorem SRow.again {te : TypeId} {base g c : Nat} {w : World} {d : Array Int} (h : SRow te base w g c d) (i j : Nat) (v : Int) (hj : j < d.size) : ∃ z, (w.setCell ⟨g, i, none⟩ (.int .u32 v)).cell? ⟨g, j, none⟩ = some z :=
  ⟨_, (h.one i v).cell (by rw [Array.size_setIfInBounds]; exact hj)⟩
theorem One.two {g : Nat} {a w : World} (h : One g a w) (n i j : Nat) (u v : Value) : One g a (((w.drewN n).setCell ⟨g, i, none⟩ u).setCell ⟨g, j, none⟩ v) := One.set (One.set (Fr.drewN h n) i u) j v
theorem SRow.two {te : TypeId} {base g c : Nat} {w : World} {d : Array Int} (h : SRow te base w g c d) (n i j : Nat) : SRow te base (((w.drewN n).setCell ⟨g, i, none⟩ (.int .u32 d[j]!)).setCell ⟨g, j, none⟩ (.int .u32 d[i]!)) g c (swp d i j) := by
  have h1 := (h.drewN n).swap i j
  exact h1
theorem swp_size (d : Array Int) (i j : Nat) : (swp d i j).size = d.size := by simp [swp]

section
variable {lt : Int → Int → Bool}
theorem insInner_go' (a j : Nat) (d : Array Int) (hj : a < j) (hl : lt d[j]! d[j - 1]! = true) : insInner lt a j d = insInner lt a (j - 1) (swp d j (j - 1)) := by
  obtain ⟨k, rfl⟩ : ∃ k, j = k + 1 := ⟨j - 1, by omega⟩
  conv => lhs; unfold insInner
  simp only [Nat.add_sub_cancel] at hl ⊢
  rw [hl, decide_eq_true (by omega : k + 1 > a)]
  rfl
theorem insInner_stop' (a j : Nat) (d : Array Int) (h : j ≤ a ∨ lt d[j]! d[j - 1]! = false) : insInner lt a j d = d := by
  cases j with
  | zero => rfl
  | succ k =>
    unfold insInner
    simp only [Nat.add_sub_cancel] at h
    rcases h with h | h
    · rw [decide_eq_false (by omega)]; rfl
    · rw [h, Bool.and_false]; rfl
theorem insOuter_go' (a b i : Nat) (d : Array Int) (h : i < b) : insOuter lt a b i d = insOuter lt a b (i + 1) (insInner lt a i d) := by rw [insOuter, if_pos h]
theorem insOuter_stop' (a b i : Nat) (d : Array Int) (h : ¬ i < b) : insOuter lt a b i d = d := by rw [insOuter, if_neg h]
end

end Go.Proofs.YtliimglbbiebiaaGreatDoor
end

