/- A table of messages in stripes: Get. -/
import Derived.Test.YtjnaihhkbbeaoaaPut
namespace Go.Proofs.Ytjnaihhkbbeaoaa
open Go.RowKit Go.Maps

theorem loadMsg {w : World} {g : Nat} {a b c : Value} (h : Blk w g 34 #[a, b, c]) : (loadVar 34 ⟨g, 0, none⟩).run Try.prog w = .ok (.agg #[a, b, c]) w :=
  run_loadVar_row w g _ _ _ _ _ h Try.underlying34 rfl (by kernel_rfl)
theorem loadBool {w : World} {g : Nat} {a : Value} (h : Blk w g 4 #[a]) : (loadVar 4 ⟨g, 0, none⟩).run Try.prog w = .ok a w :=
  run_loadVar_one Try.underlying4 rfl (h.cell 0)

set_option maxHeartbeats 800000 in
theorem tget_nil (k : Int) (w : World) : Calls Try.prog 16 #[.pointer none, .int .u32 k] w fun e w' => e = .returned (.tuple #[mb0.val, .bool false]) ∧ New w w' := by
  have b1 : Blk (((w.alloc (.cells #[.int .u32 k] 22)).alloc (.cells #[.int .u32 0, .int .u8 0, .slice none 0 0] 34)).alloc (.cells #[.bool false] 4)) (w.heap.size + 1) 34 #[.int .u32 0, .int .u8 0, .slice none 0 0] := (Blk.new1 _ _ _ _).alloc _
  have b2 : Blk (((w.alloc (.cells #[.int .u32 k] 22)).alloc (.cells #[.int .u32 0, .int .u8 0, .slice none 0 0] 34)).alloc (.cells #[.bool false] 4)) (w.heap.size + 2) 4 #[.bool false] := Blk.new2 _ _ _ _ _
  go_enter Try.func16, Try.ntmps16
  go_wp2
  refine bodyPost_ret (results_cells rfl _ _ rfl rfl (loadMsg b1) (loadBool b2)) rfl ?_
  exact ⟨rfl, (((New.refl w).alloc _).alloc _).alloc _⟩

/-- The body of what is found. -/
theorem TBX.found {base : Nat} {w : World} {T : Tb} {X : List MB} (h : TBX base w T X) (k : Int) : Rd (intE .u8) w ((findX X k).getD mb0).bv ((findX X k).getD mb0).m.body ∧ ((findX X k).getD mb0).m.body.length ≤ 65536 ∧ 0 ≤ ((findX X k).getD mb0).m.fl ∧ ((findX X k).getD mb0).m.fl ≤ 31 := by
  cases hf : findX X k with
  | none => exact ⟨Rd.nil (intE .u8) w, by simp [mb0, msg0], by simp [mb0, msg0], by simp [mb0, msg0]⟩
  | some x =>
    have hx := (findX_mem hf).1
    have := h.ok x hx
    exact ⟨(h.body x hx).rd, this.2, this.1.2.1, this.1.2.2⟩

set_option maxRecDepth 100000 in
set_option maxHeartbeats 6400000 in
theorem tget_any {base : Nat} {w : World} {T : Tb} {X : List MB} (h : TBX base w T X) (k : Int) (hk0 : 0 ≤ k) (hk1 : k ≤ 4294967295) :
    Calls Try.prog 16 #[.pointer (some ⟨T.tb, 0, none⟩), .int .u32 k] w fun e w' => ∃ y : MB, e = .returned (.tuple #[y.val, .bool (findX X k).isSome]) ∧ y.m = ((findX X k).getD mb0).m ∧ Own (intE .u8) 5 w.heap.size w' y.bv y.m.body ∧ (TBX base w' T X ∧ Fr T.foot w w') := by
  obtain ⟨i, hi, hin⟩ := h.stripe k
  have hget := get_ent T.n hi X
  have hfd := h.found k
  have hmf : ∀ (fn : Fn) (first cap : Array Value) (w : World), (Instr.makeFunc fn first cap).run Try.prog w = .ok (.func fn first cap) w := fun _ _ _ _ => rfl
  have hE := enters _ _ _ Try.func32 (by kernel_rfl) rfl
  obtain ⟨wq, hwq⟩ : ∃ wq, wq = ((w.alloc (.cells #[.int .u32 k] 22)).alloc (.cells #[.int .u32 0, .int .u8 0, .slice none 0 0] 34)).alloc (.cells #[.bool false] 4) := ⟨_, rfl⟩
  have hn1 : New w wq := by rw [hwq]; exact (((New.refl w).alloc _).alloc _).alloc _
  have hqs : wq.heap.size = w.heap.size + 3 := by rw [hwq]; simp
  have bk : Blk wq w.heap.size 22 #[.int .u32 k] := by rw [hwq]; exact ((Blk.new _ _ _).alloc _).alloc _
  have bg : Blk wq (w.heap.size + 1) 34 #[.int .u32 0, .int .u8 0, .slice none 0 0] := by rw [hwq]; exact (Blk.new1 _ _ _ _).alloc _
  have bo : Blk wq (w.heap.size + 2) 4 #[.bool false] := by rw [hwq]; exact Blk.new2 _ _ _ _ _
  have hT := h.new hn1
  have c0 : wq.cell? ⟨T.tb, 0, none⟩ = some (.slice (some ⟨T.pb, 0, none⟩) T.n T.c) := hT.hd.cell 0
  have cg : wq.cell? ⟨w.heap.size, 0, none⟩ = some (.int .u32 k) := bk.cell 0
  have cp := hT.ptr hin
  have hiI : (0 : Int) ≤ (i : Int) := by omega
  have hnI : (i : Int) < (T.n : Int) := by omega
  have hql := hT.part_lt hin
  have hwl := h.part_lt hin
  have hmq : T.mb i ≠ T.q i := (hT.map i hin).ne_blk (hT.part i hin)
  have hkq : w.heap.size ≠ T.q i := bk.ne_ (hT.part i hin) (by decide)
  have hgq : w.heap.size + 1 ≠ T.q i := bg.ne_ (hT.part i hin) (by decide)
  have hoq : w.heap.size + 2 ≠ T.q i := bo.ne_ (hT.part i hin) (by decide)
  have hok : uKeys.ok k := okU hk0 hk1
  obtain ⟨o, ho⟩ : ∃ o, findX X k = o := ⟨_, rfl⟩
  rw [ho] at hget hfd ⊢
  have HFD := Lib.hid (fun (w4 : World) (h4 : TBX base w4 T X) => (by have := (h4.found k).1; rw [ho] at this; exact this : Rd (intE .u8) w4 (o.getD mb0).bv (o.getD mb0).m.body))
  have htop := h.top
  have HD : Hid (Calls Try.prog 26 #[.pointer (some ⟨T.q i, 0, none⟩), .func (.func 32) #[] #[.pointer (some ⟨w.heap.size, 0, none⟩), .pointer (some ⟨w.heap.size + 1, 0, none⟩), .pointer (some ⟨w.heap.size + 2, 0, none⟩)]] wq.drew fun e w' => e = .returned (.tuple #[]) ∧ (TBX base w' T X ∧ Fr T.foot w w') ∧
      Blk w' w.heap.size 22 #[.int .u32 k] ∧ Blk w' (w.heap.size + 1) 34 #[.int .u32 (o.getD mb0).m.uid, .int .u8 (o.getD mb0).m.fl, (o.getD mb0).bv] ∧ Blk w' (w.heap.size + 2) 4 #[.bool o.isSome] ∧ w.heap.size + 3 ≤ w'.heap.size) := by
    refine (tdo_any h (hn1.drew) hin 32 #[.pointer (some ⟨w.heap.size, 0, none⟩), .pointer (some ⟨w.heap.size + 1, 0, none⟩), .pointer (some ⟨w.heap.size + 2, 0, none⟩)]
      (fun X' w2 => X' = X ∧ Blk w2 w.heap.size 22 #[.int .u32 k] ∧ Blk w2 (w.heap.size + 1) 34 #[.int .u32 (o.getD mb0).m.uid, .int .u8 (o.getD mb0).m.fl, (o.getD mb0).bv] ∧ Blk w2 (w.heap.size + 2) 4 #[.bool o.isSome] ∧ w.heap.size + 3 ≤ w2.heap.size) hE ?_).mono ?_
    · have hm1 := (hT.map i hin).drew.setCell (a := ⟨T.q i, 0, none⟩) hmq (.int .i32 1)
      have hsz : (wq.drew.setCell ⟨T.q i, 0, none⟩ (.int .i32 1)).heap.size = w.heap.size + 3 := by simp [World.setCell]; exact hqs
      refine (get1_any (w := wq.drew.setCell ⟨T.q i, 0, none⟩ (.int .i32 1)) hm1 hok (bk.drew.far (p := ⟨T.q i, 0, none⟩) hkq _) (bg.drew.far (p := ⟨T.q i, 0, none⟩) hgq _) rfl (bo.drew.far (p := ⟨T.q i, 0, none⟩) hoq _) hget).mono ?_
      rintro e w2 ⟨rfl, h5, h6, h7⟩
      exact ⟨rfl, X, hm1.fr h7 (by omega), fr_or h7 fun _ h => .inr (by omega), fun x hx => .inl (h.body x hx), fun _ _ _ => rfl, h.nd, h.ok, rfl, h7.blk (bk.drew.far (p := ⟨T.q i, 0, none⟩) hkq _) (by omega), h5, h6, by rw [← hsz]; exact h7.size⟩
    · rintro e w' ⟨rfl, X', w2, rfl, ⟨rfl, h5, h6, h6', h6s⟩, h7, h8⟩
      exact ⟨rfl, ⟨h7, h8⟩, h5.far (p := ⟨T.q i, 0, none⟩) hkq _, h6.far (p := ⟨T.q i, 0, none⟩) hgq _, h6'.far (p := ⟨T.q i, 0, none⟩) hoq _, by simpa [World.setCell] using h6s⟩
  generalize o.getD mb0 = x at *
  generalize o.isSome = q at *
  obtain ⟨⟨uid, fl, body⟩, A, n, c⟩ := x
  simp only [MB.bv] at hfd HD HFD ⊢
  have HWQ := Lib.hid hwq
  clear hget
  go_enter Try.func16, Try.ntmps16
  go_wp2_with fail
  rw [← HWQ.out]
  clear HWQ hwq
  go_region_held3 (fun w' => w'.cell? ⟨T.tb, 0, none⟩ = some (.slice (some ⟨T.pb, 0, none⟩) T.n T.c) ∧ w'.cell? ⟨w.heap.size, 0, none⟩ = some (.int .u32 k) ∧ w'.cell? ⟨T.pb, i, none⟩ = some (.pointer (some ⟨T.q i, 0, none⟩))) (first | go_keep | (refine ⟨?_, ?_, ?_⟩ <;> assumption))
    ((first
      | (go_at_call 11
         refine (tof_any (hT.new (by repeat' first | exact New.refl _ | apply Fr.drewN | apply Fr.drew)) k (by omega) (by omega)).mono ?_
         rw [hi]
         rintro e w3 ⟨rfl, rfl⟩)
      | (go_at_call 26
         refine HD.out.mono ?_
         rintro e w4 ⟨rfl, hTn, h5, h6, h7, h7s⟩
         have k0 : w4.cell? ⟨T.tb, 0, none⟩ = some (.slice (some ⟨T.pb, 0, none⟩) T.n T.c) := hTn.1.hd.cell 0
         have k1 : w4.cell? ⟨w.heap.size, 0, none⟩ = some (.int .u32 k) := h5.cell 0
         have k2 : w4.cell? ⟨T.pb, i, none⟩ = some (.pointer (some ⟨T.q i, 0, none⟩)) := hTn.1.ptr hin)
      | fail))
  all_goals
    clear cg c0 cp HD k0 k1 k2
    have g0 : w4.drew.cell? ⟨w.heap.size + 1, 0, none⟩ = some (.int .u32 uid) := h6.cell 0
    have g1 : w4.drew.cell? ⟨w.heap.size + 1, 1, none⟩ = some (.int .u8 fl) := h6.cell 1
    have g2 : w4.drew.cell? ⟨w.heap.size + 1, 2, none⟩ = some (.slice A n c) := h6.cell 2
    have o0 : w4.drew.cell? ⟨w.heap.size + 1 + 1, 0, none⟩ = some (.bool q) := h7.cell 0
    have hrd : Rd (intE .u8) w4.drew (.slice A n c) body := HFD.out _ hTn.1.drew
    have HRD := Lib.hid hrd
    have HBL := Lib.hid hfd.2.1
    clear hfd hrd
    go_wp2_with fail
    go_region_with ((first
      | (go_at_call 29
         refine (mclone_any ⟨⟨uid, fl, body⟩, A, n, c⟩ _ HRD.out (by have := HBL.out; show body.length ≤ 100000; omega)).mono ?_
         rintro e w5 ⟨⟨⟨uid', fl', body'⟩, A', n', c'⟩, rfl, hym, hyo, hn5⟩
         simp only [MB.bv, MB.val] at hym hyo ⊢
         have b6 := hn5.blk h6.drew
         have b7 := hn5.blk h7.drew
         have p0 := b6.cell 0
         have p1 := b6.cell 1
         have p2 := b6.cell 2
         have z0 := b6.frozen 0
         have z1 := b6.frozen 1
         have z2 := b6.frozen 2
         have p3 : w5.cell? ⟨w.heap.size + 1 + 1, 0, none⟩ = some (.bool q) := b7.cell 0
         have z3 : w5.frozen? ⟨w.heap.size + 1 + 1, 0, none⟩ = false := b7.frozen 0)
      | fail))
  all_goals
    go_wp2
    have hF : Fr (fun k => k = w.heap.size + 1 ∨ k = w.heap.size + 2) w5 ((((w5.setCell ⟨w.heap.size + 1, 0, none⟩ (.int .u32 uid')).setCell ⟨w.heap.size + 1, 1, none⟩ (.int .u8 fl')).setCell ⟨w.heap.size + 1, 2, none⟩ (.slice A' n' c')).setCell ⟨w.heap.size + 1 + 1, 0, none⟩ (.bool q)) :=
      ((((Fr.refl _ _).setCell (fun _ => .inl rfl) _).setCell (fun _ => .inl rfl) _).setCell (fun _ => .inl rfl) _).setCell (fun _ => .inr rfl) _
    have e6 : Blk ((((w5.setCell ⟨w.heap.size + 1, 0, none⟩ (.int .u32 uid')).setCell ⟨w.heap.size + 1, 1, none⟩ (.int .u8 fl')).setCell ⟨w.heap.size + 1, 2, none⟩ (.slice A' n' c')).setCell ⟨w.heap.size + 1 + 1, 0, none⟩ (.bool q)) (w.heap.size + 1) 34 #[.int .u32 uid', .int .u8 fl', .slice A' n' c'] :=
      (((b6.set_ 0 _).set_ 1 _).set_ 2 _).far (by simp) _
    have e7 : Blk ((((w5.setCell ⟨w.heap.size + 1, 0, none⟩ (.int .u32 uid')).setCell ⟨w.heap.size + 1, 1, none⟩ (.int .u8 fl')).setCell ⟨w.heap.size + 1, 2, none⟩ (.slice A' n' c')).setCell ⟨w.heap.size + 1 + 1, 0, none⟩ (.bool q)) (w.heap.size + 1 + 1) 4 #[.bool q] :=
      (((b7.far (by simp) _).far (by simp) _).far (by simp) _).set_ 0 _
    have hT5 : TBX base w5 T X := hTn.1.drew.new hn5
    have hb5 := fun b hb => (hyo.block (b := b) hb).1
    refine bodyPost_ret (results_cells rfl _ _ rfl rfl (loadMsg e6) (loadBool e7)) rfl ?_
    refine ⟨⟨⟨uid', fl', body'⟩, A', n', c'⟩, rfl, hym, (hyo.fr hF fun b hb hs => ?_).mono (by show w.heap.size ≤ w4.heap.size; omega), hT5.fr hF (fun k hk hft => ?_) (fun v l hv b hb hs => ?_), Fr.trans' hTn.2 (Fr.trans' (New.to (Fr.trans ((New.refl w4).drew) hn5)) hF fun _ _ h => h) (fun k hk hs => ?_)⟩
    · have h1 := hb5 b hb
      have h2 : w4.drew.heap.size = w4.heap.size := rfl
      rcases hs with rfl | rfl <;> omega
    · have h1 := hft.2
      rcases hk with rfl | rfl <;> omega
    · obtain ⟨cs, h1⟩ := hv.heap hb
      rcases hs with rfl | rfl
      · exact h1.ne_ b6 (by decide) rfl
      · exact h1.ne_ b7 (by decide) rfl
    · rcases hs with rfl | rfl <;> omega

end Go.Proofs.Ytjnaihhkbbeaoaa
