/- With's function: the identifiers of a stripe's messages with some flags, in an order that nobody knows. -/
import Derived.Test.YtjnaihhkbbeaoaaFlg
import Derived.Test.YtjnaihhkbbeaoaaSortU
import Derived.Test.YtjnaihhkbbeaoaaSlU
import Derived.Maps.RangeWalk
import Derived.LoopTactic
namespace Go.Proofs.Ytjnaihhkbbeaoaa
open Go.RowKit Go.Maps

/-- The identifiers of those with some flags. -/
def withX (f : Int) (X : List MB) : List Int := (X.filter fun x : MB => decide (andI x.m.fl f = f)).map fun x : MB => x.m.uid

theorem withX_app (f : Int) (X Y : List MB) : withX f (X ++ Y) = withX f X ++ withX f Y := by simp [withX]
theorem withX_len (f : Int) (X : List MB) : (withX f X).length ≤ X.length := by unfold withX; rw [List.length_map]; exact List.length_filter_le _ _
theorem withX_perm (f : Int) {X Y : List MB} (h : X.Perm Y) : (withX f X).Perm (withX f Y) := (h.filter _).map _

section
variable {H : Type} {P : Program} {k : TypeId} {R : Value → Option (DataW H × List MemPlace)} {w w' : World} {b r n : Nat} {D : DataW H} {left : Lit → Bool} {cnt : Nat}
theorem ranges_fr {S : Nat → Prop} (h : w.ranges P k R b r n D left cnt) (hf : Fr S w w') (hb' : ¬ S b) (hr' : ¬ S r) : w'.ranges P k R b r n D left cnt := by
  have h1 := h.owns.lt
  have h2 := h.lt
  obtain ⟨es, clock, since, seen, c0, hb, F, hs, hD, hr, rest⟩ := h
  exact ⟨es, clock, since, seen, c0, (hf.block b h1 hb').trans hb, F, hs, hD, (hf.block r h2 hr').trans hr, rest⟩
theorem ranges_ne (h : w.ranges P k R b r n D left cnt) {g : Nat} {t : TypeId} {cs : Array Value} (hb : Blk w g t cs) : g ≠ r := by
  rintro rfl
  obtain ⟨es, clock, since, seen, c0, _, _, _, _, hr, _⟩ := h
  unfold Blk at hb
  rw [hr] at hb
  cases hb
theorem ranges_map_ne (h : w.ranges P k R b r n D left cnt) {g : Nat} {t : TypeId} {cs : Array Value} (hb : Blk w g t cs) : g ≠ b := by
  rintro rfl
  obtain ⟨es, clock, since, seen, c0, hm, _⟩ := h
  unfold Blk at hb
  rw [hm] at hb
  cases hb
end

/-- The loop over a stripe's messages, under way. -/
structure Seen (w0 wr : World) (mb r n : Nat) (D : DataW Value) (SX : List MB) (ob base : Nat) (v0 v : Value) (acc : List Int) (f : Int) (dX : List MB) (cnt : Nat) : Prop where
  rng : ∃ left, wr.ranges Try.prog 22 R0 mb r n D left cnt ∧ ∀ z, z ∈ dX ↔ z ∈ SX ∧ left (.int .u32 z.m.uid) = false
  nd : (dX.map fun x => x.m.uid).Nodup
  box : Blk wr ob 38 #[v]
  row : Own (intE .u32) 22 base wr v (acc ++ withX f dX)
  stay : v.ownBlock = v0.ownBlock ∨ ∃ b, v.ownBlock = some b ∧ w0.heap.size ≤ b
  fr : Fr (fun k => k = ob ∨ v0.ownBlock = some k) w0 wr

theorem Seen.sub {w0 wr mb r n D SX ob base v0 v acc f dX cnt} (h : Seen w0 wr mb r n D SX ob base v0 v acc f dX cnt) : ∀ z ∈ dX, z ∈ SX := by
  obtain ⟨left, _, h2⟩ := h.rng
  exact fun z hz => ((h2 z).1 hz).1

theorem nodup_of_map {X : List MB} (h : (X.map fun x => x.m.uid).Nodup) : X.Nodup := by
  unfold List.Nodup at *
  rw [List.pairwise_map] at h
  exact h.imp fun hne e => hne (by rw [e])

theorem uid_inj {X : List MB} (h : (X.map fun x => x.m.uid).Nodup) {y z : MB} (hy : y ∈ X) (hz : z ∈ X) (he : y.m.uid = z.m.uid) : y = z := by
  obtain ⟨a, ha⟩ := List.mem_iff_getElem?.1 hy
  obtain ⟨b, hb⟩ := List.mem_iff_getElem?.1 hz
  have h2 : (X.map fun x => x.m.uid)[a]? = (X.map fun x => x.m.uid)[b]? := by rw [List.getElem?_map, List.getElem?_map, ha, hb]; simp [he]
  have h3 := (List.getElem?_inj (by rw [List.length_map]; exact (List.getElem?_eq_some_iff.1 ha).1) h).1 h2
  subst h3
  rw [ha] at hb
  cases hb
  rfl

theorem nodup_perm {X Y : List MB} (hX : X.Nodup) (hY : Y.Nodup) (h : ∀ z, z ∈ X ↔ z ∈ Y) : X.Perm Y := by
  classical
  exact (List.perm_ext_iff_of_nodup hX hY).2 h

theorem Seen.step {w0 wr w' mb r n D SX ob base v0 v v' acc f dX cnt cnt1} {left : Lit → Bool} {z : MB} (h : Seen w0 wr mb r n D SX ob base v0 v acc f dX cnt) (hmem : ∀ z, z ∈ dX ↔ z ∈ SX ∧ left (.int .u32 z.m.uid) = false)
    (hnd : (SX.map fun x => x.m.uid).Nodup) (hz : z ∈ SX) (hl : left (.int .u32 z.m.uid) = true) (hrg : w'.ranges Try.prog 22 R0 mb r n D (fun k => left k && !k.sameKey (.int .u32 z.m.uid)) cnt1)
    (hbox : Blk w' ob 38 #[v']) (hrow : Own (intE .u32) 22 base w' v' (acc ++ withX f (dX ++ [z]))) (hst : v'.ownBlock = v.ownBlock ∨ ∃ b, v'.ownBlock = some b ∧ w0.heap.size ≤ b)
    (hf : Fr (fun k => k = ob ∨ v.ownBlock = some k ∨ w0.heap.size ≤ k) wr w') : Seen w0 w' mb r n D SX ob base v0 v' acc f (dX ++ [z]) cnt1 := by
  refine ⟨⟨_, hrg, fun y => ?_⟩, ?_, hbox, hrow, ?_, Fr.trans' h.fr hf fun k hk hs => ?_⟩
  · rw [List.mem_append, List.mem_singleton, hmem y]
    have hsk : Lit.sameKey (.int .u32 y.m.uid) (.int .u32 z.m.uid) = decide (y.m.uid = z.m.uid) := by simp [Lit.sameKey]
    constructor
    · rintro (⟨h1, h2⟩ | rfl)
      · exact ⟨h1, by simp [h2]⟩
      · exact ⟨hz, by simp [hsk]⟩
    · rintro ⟨h1, h2⟩
      rw [hsk] at h2
      by_cases he : y.m.uid = z.m.uid
      · exact .inr (uid_inj hnd h1 hz he)
      · exact .inl ⟨h1, by simpa [he] using h2⟩
  · rw [List.map_append, List.nodup_append]
    refine ⟨h.nd, by simp, fun a ha b hb => ?_⟩
    obtain ⟨y, hy, rfl⟩ := List.mem_map.1 ha
    simp at hb
    subst hb
    intro he
    obtain rfl := uid_inj hnd ((hmem y).1 hy).1 hz he
    have := ((hmem y).1 hy).2
    rw [hl] at this
    cases this
  · rcases hst with h1 | h1
    · rw [h1]; exact h.stay
    · exact .inr h1
  · rcases hs with hs | hs | hs
    · exact .inl hs
    · rcases h.stay with h1 | ⟨b, h1, h2⟩
      · exact .inr (h1 ▸ hs)
      · rw [h1] at hs; cases hs; omega
    · omega

set_option maxRecDepth 100000 in
set_option maxHeartbeats 6400000 in
theorem with1_any {w : World} {mb fb ob base : Nat} {SX : List MB} {f : Int} {v0 : Value} {acc : List Int} (h : HasMap uKeys w mb (SX.map fun x => (x.m.uid, x.val))) (hnd : (SX.map fun x => x.m.uid).Nodup) (hwf : ∀ x ∈ SX, 0 ≤ x.m.fl ∧ x.m.fl ≤ 255)
    (hfb : Blk w fb 31 #[.int .u8 f]) (hf : 0 ≤ f ∧ f ≤ 255) (hob : Blk w ob 38 #[v0]) (hrow : Own (intE .u32) 22 base w v0 acc) (hbs : base ≤ w.heap.size) (hlen : acc.length + SX.length ≤ 1000000) :
    Calls Try.prog 30 #[.map (some mb), .pointer (some ⟨fb, 0, none⟩), .pointer (some ⟨ob, 0, none⟩)] w fun e w' => e = .returned (.tuple #[]) ∧ ∃ v dX, dX.Perm SX ∧ Blk w' ob 38 #[v] ∧ Own (intE .u32) 22 base w' v (acc ++ withX f dX) ∧
      (v.ownBlock = v0.ownBlock ∨ ∃ b, v.ownBlock = some b ∧ w.heap.size ≤ b) ∧ Fr (fun k => k = ob ∨ v0.ownBlock = some k) w w' := by
  obtain ⟨D, hown, hD1, hD2⟩ := h.own
  obtain ⟨i0, hi, hz0, hz1, hz2⟩ := info_parts u32_info
  have hmlt := h.lt
  have hmo := h.ne_blk hob
  have hmf := h.ne_blk hfb
  have hmv : ∀ b, v0.ownBlock = some b → b ≠ mb ∧ b ≠ ob ∧ b ≠ fb ∧ b < w.heap.size := fun b hb => by
    obtain ⟨cs, h1⟩ := hrow.heap hb
    exact ⟨Ne.symm (h.ne_blk h1), h1.ne_ hob (by decide), h1.ne_ hfb (by decide), h1.lt⟩
  have hoks := h.oks
  have hget : ∀ x ∈ SX, get (SX.map fun x => (x.m.uid, x.val)) x.m.uid = some x.val := fun x hx => get_of_mem (by rw [List.map_map]; exact hnd) (List.mem_map.2 ⟨x, hx, rfl⟩)
  have HOWN := Lib.hid hown
  have hs0 : ∀ z, z ∈ ([] : List MB) ↔ z ∈ SX ∧ Maps.has D (.int .u32 z.m.uid) = false := fun z => by
    refine ⟨fun hz => absurd hz (by simp), fun ⟨hz, hh⟩ => ?_⟩
    have h1 := has_of (hD2 z.m.uid (hoks _ (List.mem_map.2 ⟨z, hz, rfl⟩)))
    rw [hget z hz] at h1
    change Maps.has D (.int .u32 z.m.uid) = true at h1
    rw [h1] at hh
    cases hh
  have HS0 := Lib.hid hs0
  have HFIND : Hid (∀ (x : Int) (c : Value), uKeys.ok x → (∀ zd, D.atKey (.int .u32 x) zd = .held c) → ∃ z ∈ SX, z.m.uid = x ∧ c = z.val) := fun x c hx hat => by
    have h1 := hD2 x hx
    cases hg : get (SX.map fun x => (x.m.uid, x.val)) x with
    | none =>
      rw [hg] at h1
      have h2 := (hat (.held (.bool true))).symm.trans (h1 _)
      have h3 := (hat (.held (.bool false))).symm.trans (h1 _)
      rw [h2] at h3
      cases h3
    | some u =>
      rw [hg] at h1
      have h2 := (hat (.held (.bool true))).symm.trans (h1 _)
      have h3 := mem_of_get hg
      obtain ⟨z, hz, hzz⟩ := List.mem_map.1 h3
      injection hzz with e1 e2
      injection h2 with h2
      exact ⟨z, hz, e1, by rw [h2, ← e2]⟩
  generalize hnn : (SX.map fun x : MB => (x.m.uid, x.val)).length = nn at *
  clear hD2 hget hoks hown hs0
  go_enter Try.func30, Try.ntmps30
  go_wp2_with (first
    | (at_range; refine wpList_range_own _ rfl _ 64 rfl 22 34 uKeys.law Try.underlying64 _ mb nn D rfl HOWN.out ?_; intro w0 hrg0 hg0 hs0)
    | fail)
  go_frame
  go_loopw [4] (fun _ wr => ∃ (v : Value) (dX : List MB) (cnt : Nat), Hid (Seen w wr mb w.heap.size nn D SX ob base v0 v acc f dX cnt)) (fun _ wr => wr.rangeLeft mb w.heap.size)
  case atStart =>
    have hn0 : New w w0 := Fr.of_grown hg0 fun _ h => by cases h
    exact ⟨v0, [], _, ⟨_, hrg0, HS0.out⟩, by simp, hn0.blk hob, by simpa [withX] using hrow.new hn0, .inl rfl, New.to hn0⟩
  case round =>
    obtain ⟨v, dX, cnt, HR⟩ := hrel
    obtain ⟨left, hrg, hmem⟩ := HR.out.rng
    have HMEM := Lib.hid hmem
    have HRG := Lib.hid hrg
    have hszw := HR.out.fr.size
    obtain ⟨vA, vn, vc, rfl⟩ := own_shape HR.out.row
    clear hmem
    go_wp2_with (first
      | (at_next; refine wpList_next_ranges _ rfl _ rfl 22 uKeys.law R0 (Value.int .u32) (fun c : Value => c) (fun key kl hk => by obtain ⟨x, hx, _⟩ := Maps.keyOf_int_inv Try.underlying22 hk; exact ⟨x, hx⟩) (fun v y _ => ⟨v, rfl⟩) mb w.heap.size nn _ _ _ rfl hrg ?_ ?_)
      | fail)
    · intro hc0 hl0
      have hperm : dX.Perm SX := nodup_perm (nodup_of_map HR.out.nd) (nodup_of_map hnd) fun z => by rw [HMEM.out z, hl0]; simp
      have HPERM := Lib.hid hperm
      clear hperm
      go_wp2
      go_end0
      exact ⟨rfl, _, dX, HPERM.out, HR.out.box, HR.out.row, HR.out.stay, HR.out.fr⟩
    · intro x c kl y py w1 cnt1 hkey hlk hRc hat hrg1 hlt hg1 hs1 hen
      obtain ⟨x', hx', rfl, hxw⟩ := Maps.keyOf_int_inv Try.underlying22 hkey
      injection hx' with _ hx'
      subst hx'
      simp only [R0, Option.some.injEq, Prod.mk.injEq] at hRc
      obtain ⟨rfl, rfl⟩ := hRc
      obtain ⟨z, hz, rfl, rfl⟩ := HFIND.out x c hxw hat
      obtain ⟨⟨uid, fl, body⟩, A, n, c⟩ := z
      have hn1 : Fr (fun k => k = w.heap.size) wr w1 := Fr.of_grown hg1 fun i hi => by injection hi with hi; exact hi.symm
      have hobl := hob.lt
      have hfbl := hfb.lt
      have hb1 := hn1.blk HR.out.box (by omega)
      have hfw : Blk wr fb 31 #[.int .u8 f] := HR.out.fr.blk hfb (fun hs => by rcases hs with hs | hs; exact hfb.ne_ hob (by decide) hs; exact (hmv _ hs).2.2.1 rfl)
      have hf1 := hn1.blk hfw (by omega)
      have cf : w1.cell? ⟨fb, 0, none⟩ = some (.int .u8 f) := hf1.cell 0
      have hfl1 : fb < w1.heap.size := hf1.lt
      have hol1 : ob < w1.heap.size := hb1.lt
      have co : w1.cell? ⟨ob, 0, none⟩ = some (.slice vA vn vc) := hb1.cell 0
      have zo := hb1.frozen 0
      have hrow1 := HR.out.row.fr hn1 (fun b hb hs => by
        obtain ⟨cs, h1⟩ := HR.out.row.heap hb
        exact ranges_ne hrg h1 hs)
      have hvb := fun b hb => HR.out.row.heap (g := b) hb
      have hvl := fun b hb => (HR.out.row.block (b := b) hb).2
      have HVL := Lib.hid hvl
      have hdl : dX.length ≤ SX.length := (nodup_of_map HR.out.nd).length_le_of_subset HR.out.sub
      have hwl := withX_len f dX
      have HS1 := Lib.hid hs1
      have hsle : wr.heap.size ≤ w1.heap.size := by omega
      clear hs1
      have hw0 := hwf _ hz
      simp only [MB.val] at hen hw0 ⊢
      obtain ⟨aa, haa⟩ : ∃ aa, andI fl f = aa := ⟨_, rfl⟩
      have hbits : bits .and .u8 fl f = aa := (u8_andI hw0.1 hw0.2 hf.1 hf.2).trans haa
      have hwx : withX f (dX ++ [⟨⟨uid, fl, body⟩, A, n, c⟩]) = withX f dX ++ (if aa == f then [uid] else []) := by
        rw [withX_app]
        congr 1
        unfold withX
        by_cases h1 : aa = f
        · subst haa; simp [h1]
        · subst haa; simp [h1]
      have HWX := Lib.hid hwx
      clear hwx haa
      have hobr : ob ≠ w.heap.size := by omega
      cases hq : (aa == f)
      · rw [hq] at HWX
        go_wp2_with fail
        go_roundw
        case rel =>
          refine ⟨_, _, cnt1, HR.out.step HMEM.out hnd hz hlk (hrg1.alloc _) (hb1.alloc _) ?_ (.inl rfl) ((fr_or hn1 fun k hk => .inr (.inr (by omega))).alloc _)⟩
          rw [HWX.out]
          simpa using hrow1.alloc _
        case measure => rw [(hrg1.alloc _).left_eq, hrg.left_eq]; exact hlt
      · rw [hq] at HWX
        have hO := (hrow1.alloc (.cells #[.int .u32 uid, .int .u8 fl, .slice A n c] 34)).alloc (.cells #[.int .u32 uid] 22)
        have hsz2 : ((w1.alloc (.cells #[.int .u32 uid, .int .u8 fl, .slice A n c] 34)).alloc (.cells #[.int .u32 uid] 22)).heap.size = w1.heap.size + 2 := by simp
        go_wp2_with (first
          | (at_builtin; refine wpList_push (E := intE .u32) rfl _ _ _ rfl Try.underlying38 hi hz0 hz1 hz2 rfl hO rfl uid (w1.heap.size + 1) (Blk.new1 _ _ _ _) 1 rfl (by unfold maxLen; simp; omega) (by simp; omega) (by omega) ?_; intro v2 w2 hv2 hf2 hl2
             obtain ⟨A2, n2, c2, rfl⟩ := own_shape hv2
             have hb2 : Blk w2 ob 38 #[.slice vA vn vc] := hf2.blk ((hb1.alloc _).alloc _) (fun hs => by obtain ⟨cs, h1⟩ := hvb _ hs; exact h1.ne_ HR.out.box (by decide) rfl)
             have co2 := hb2.cell 0
             have zo2 := hb2.frozen 0)
          | fail)
        have hF2 : Fr (fun k => k = ob ∨ (Value.slice vA vn vc).ownBlock = some k ∨ w.heap.size ≤ k) wr (w2.setCell ⟨ob, 0, none⟩ (.slice A2 n2 c2)) :=
          (Fr.trans (((fr_or hn1 fun k hk => .inr (.inr (by omega))).alloc _).alloc _) (fr_or hf2 fun k hk => .inr (.inl hk))).setCell (fun _ => .inl rfl) _
        have hrg2 : (w2.setCell ⟨ob, 0, none⟩ (.slice A2 n2 c2)).ranges Try.prog 22 R0 mb w.heap.size nn D (fun k => left k && !k.sameKey (.int .u32 uid)) cnt1 := by
          refine ranges_fr ((hrg1.alloc _).alloc _) (Fr.setCell (p := ⟨ob, 0, none⟩) (fr_or hf2 fun _ h => .inl h : Fr (fun k => (Value.slice vA vn vc).ownBlock = some k ∨ k = ob) _ _) (fun _ => .inr rfl) _) (fun hs => ?_) (fun hs => ?_)
          · rcases hs with hs | hs
            · obtain ⟨cs, h1⟩ := hvb _ hs
              exact ranges_map_ne hrg h1 rfl
            · exact hmo hs
          · rcases hs with hs | hs
            · obtain ⟨cs, h1⟩ := hvb _ hs
              exact ranges_ne hrg h1 rfl
            · omega
        go_roundw
        case rel =>
          refine ⟨_, _, cnt1, HR.out.step HMEM.out hnd hz hlk hrg2 (hb2.set_ 0 _) ?_ ?_ hF2⟩
          · rw [HWX.out, if_pos rfl, ← List.append_assoc]
            refine hv2.fr (S := fun k => k = ob) ((Fr.refl (fun k => k = ob) _).setCell (p := ⟨ob, 0, none⟩) (fun _ => rfl) _) fun b hb hs => ?_
            obtain ⟨cs, h1⟩ := hv2.heap hb
            exact h1.ne_ hb2 (by decide) hs
          · rcases hl2 with h1 | h1
            · exact .inl h1
            · exact .inr ⟨_, h1, by rw [hsz2]; omega⟩
        case measure => rw [hrg2.left_eq, hrg.left_eq]; exact hlt

end Go.Proofs.Ytjnaihhkbbeaoaa
