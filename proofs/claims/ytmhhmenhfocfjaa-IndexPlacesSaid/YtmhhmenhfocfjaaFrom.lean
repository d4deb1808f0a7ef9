/- An index: the iterator from. -/
import Derived.Test.YtmhhmenhfocfjaaIdxApp
import Derived.Test.YtmhhmenhfocfjaaIterU
namespace Go.Proofs.Ytmhhmenhfocfjaa
open Go.RowKit Go.Shelf Go.Proofs
attribute [local go_sem] Oper.semAt_some

set_option maxRecDepth 100000 in
set_option maxHeartbeats 4000000 in
theorem from1_in {base x : Nat} {lo : Int} {u : Value} {zs : List Int} (n : Nat) (hn : 1 ≤ n) (l Bx Bl n₀ : Nat) (hlen : zs.length ≤ 100000) (J Jx : List Int → World → Prop)
    (hY : ∀ pre y W, J pre W → pre.length < zs.length → YieldAt Fence.wide (n - 1) Try.prog l #[.int .u32 y] W fun e W' =>
      (e = .returned (.bool true) ∧ J (pre ++ [y]) W' ∧ Below n₀ W W') ∨ (e = .returned (.bool false) ∧ Jx (pre ++ [y]) W'))
    (W : World) (hBx : W.cell? ⟨Bx, 0, none⟩ = some (.pointer (some ⟨x, 0, none⟩))) (hBl : W.cell? ⟨Bl, 0, none⟩ = some (.int .u32 lo)) (hI : IdxU base W x u zs) (hlow : ∀ b, u.ownBlock = some b → b < n₀) (h0 : ∀ W', New W W' → J [] W') :
    CallsIn Fence.wide n Try.prog 35 #[.func (.yield l) #[] #[], .pointer (some ⟨Bx, 0, none⟩), .pointer (some ⟨Bl, 0, none⟩)] W fun e W' => (∃ v, e = .returned v) ∧ ∃ k, FindAt zs lo k ∧ (J (zs.drop k) W' ∨ (∃ pre, pre <+: zs.drop k ∧ Jx pre W')) := by
  have HF := Lib.hid (fun n => find_any (hI.at_.new ((New.refl W).drewN n)) hlen lo)
  have H := Lib.hid hI
  have HLOW := Lib.hid hlow
  have HY := Lib.hid hY
  have H0 := Lib.hid h0
  obtain ⟨A, c, rfl, hlc⟩ := hI.2.1.form
  have c0 : W.cell? ⟨x, 0, none⟩ = some (.slice A zs.length c) := hI.1.cell 0
  clear hI hlow hY h0
  refine callsIn_of_wp Try.func35 rfl trivial ?_ rfl
  simp only [Try.ntmps35, List.size_toArray, List.length_cons, List.length_nil, Nat.reduceAdd, Nat.reduceSub, Array.replicate_succ, Array.replicate_zero, List.push_toArray, List.append_toArray, List.nil_append, List.cons_append]
  gi_wp2_with fail
  refine wpIn_wide.2 ?_
  go_region_held3 (fun w' => w'.cell? ⟨x, 0, none⟩ = some (.slice A zs.length c) ∧ w'.cell? ⟨Bx, 0, none⟩ = some (.pointer (some ⟨x, 0, none⟩)) ∧ w'.cell? ⟨Bl, 0, none⟩ = some (.int .u32 lo)) (first | go_keep | assumption)
    ((first
      | (go_at_call 27
         refine (HF.out _).mono ?_
         rintro e w1 ⟨k, rfl, hk, hn1⟩
         have hn2 : New W w1 := ((New.refl W).drewN _).trans hn1
         have c1 : w1.cell? ⟨x, 0, none⟩ = some (.slice A zs.length c) := Fr.cell hn2 c0 id
         have c2 : w1.cell? ⟨Bx, 0, none⟩ = some (.pointer (some ⟨x, 0, none⟩)) := Fr.cell hn2 hBx id
         have c3 : w1.cell? ⟨Bl, 0, none⟩ = some (.int .u32 lo) := Fr.cell hn2 hBl id
         have HK := Lib.hid hk
         have hkl := hk.1
         clear hk)
      | fail))
  have HD : Hid (J [] w1) := H0.out w1 hn2
  rcases (H.out.new hn2).2.1 with ⟨hv, hz⟩ | ⟨g, off, c', hv, hgb, hgs, hgc, hgm, hgcells, -⟩
  · injection hv with e1 e2 e3
    subst hz e1 e3
    obtain rfl : k = 0 := by simpa using hkl
    rw [if_pos rfl]
    simp only [List.length_nil, Nat.sub_self]
    gi_wp2
    gi_loopw [15] (fun i wr => i = .int .i64 0 ∧ wr = w1) (fun _ _ => 0)
    case atStart => exact ⟨rfl, rfl⟩
    case round =>
      obtain ⟨rfl, rfl⟩ := hrel
      gi_wp2
      go_end0
      exact ⟨⟨_, rfl⟩, 0, HK.out, .inl HD.out⟩
  · injection hv with e1 e2 e3
    subst e1 e3
    have HG := Lib.hid hgcells
    have hbn : g < n₀ := HLOW.out g rfl
    clear hgcells e2
    by_cases hck : c = k
    · have hkz : k = zs.length := by omega
      have hdr : zs.drop k = [] := List.drop_eq_nil_of_le (by omega)
      have hz0 : zs.length - k = 0 := by omega
      have HDR := Lib.hid hdr
      have HKK := Lib.hid HK.out
      rw [hz0, if_pos hck]
      clear hdr hkz hz0 hck
      gi_wp2
      gi_loopw [15] (fun i wr => i = .int .i64 0 ∧ wr = w1) (fun _ _ => 0)
      case atStart => exact ⟨rfl, rfl⟩
      case round =>
        obtain ⟨rfl, rfl⟩ := hrel
        gi_wp2
        go_end0
        exact ⟨⟨_, rfl⟩, k, HK.out, .inl (by rw [HDR.out]; exact HD.out)⟩
    · have had : Option.map (fun a : Addr => a.add k) (some ⟨g, off, none⟩) = some ⟨g, off + k, none⟩ := by simp [Addr.add_lit]
      rw [if_neg hck, had]
      clear had
      obtain ⟨d, hd⟩ : ∃ d, zs.drop k = d := ⟨_, rfl⟩
      obtain ⟨m, hm⟩ : ∃ m, zs.length - k = m := ⟨_, rfl⟩
      have hdl : d.length = m := by rw [← hd, ← hm, List.length_drop]
      have hml : m ≤ 100000 := by omega
      have hmz : m ≤ zs.length := by omega
      have HDQ := Lib.hid hd
      have HDL := Lib.hid hdl
      have hcells : ∀ j y, d[j]? = some y → w1.cell? ⟨g, off + k + j, none⟩ = some (.int .u32 y) := by
        intro j y hy
        rw [← hd, List.getElem?_drop] at hy
        rw [Nat.add_assoc]
        exact HG.out _ _ hy
      have HC := Lib.hid hcells
      rw [hm]
      clear hd hdl hcells hm
      gi_wp2
      gi_loopw [15] (fun i wr => ∃ j : Nat, j ≤ m ∧ i = .int .i64 j ∧ J (d.take j) wr ∧ Below n₀ w1 wr) (fun i _ => m - (intOf i).toNat)
      case atStart => exact ⟨0, Nat.zero_le _, rfl, HD.out, Below.refl _ _⟩
      case round =>
        obtain ⟨j, hj, rfl, hJs, hnx⟩ := hrel
        by_cases hlt : j < m
        · obtain ⟨y, hy⟩ : ∃ y, d[j]? = some y := ⟨_, List.getElem?_eq_getElem (by have := HDL.out; omega)⟩
          have htk : d.take (j + 1) = d.take j ++ [y] := take_snocI hy
          have cy : wr.cell? ⟨g, off + k + j, none⟩ = some (.int .u32 y) := (hnx.cell (p := ⟨g, off + k + j, none⟩) hbn).trans (HC.out j y hy)
          have HTK := Lib.hid htk
          obtain ⟨fn, tmps, assign, body, hyy, hR⟩ := HY.out _ y wr hJs (by rw [List.length_take]; omega)
          clear htk hy
          gi_wp2
          refine hR.mono ?_
          rintro e W3 (⟨rfl, hJ3, hk3⟩ | ⟨rfl, hJx3⟩)
          · gi_wp2
            go_roundw
            case rel => exact ⟨j + 1, by omega, by simp, by rw [HTK.out]; exact hJ3, hnx.trans hk3⟩
            case measure => simp [intOf]; omega
          · gi_wp2
            refine bodyPost_ret (results_none rfl _ _ _) rfl ?_
            exact ⟨⟨_, rfl⟩, k, HK.out, .inr ⟨_, by rw [HDQ.out]; exact List.take_prefix (j + 1) d, by rw [HTK.out]; exact hJx3⟩⟩
        · obtain rfl : j = m := by omega
          have hall : d.take j = d := List.take_of_length_le (by have := HDL.out; omega)
          rw [hall] at hJs
          have HJS := Lib.hid hJs
          clear hall hJs
          gi_wp2
          go_end0
          exact ⟨⟨_, rfl⟩, k, HK.out, .inl (by rw [HDQ.out]; exact HJS.out)⟩

theorem IdxU.below {base x : Nat} {u : Value} {l : List Int} {w W : World} (h : IdxU base w x u l) (hb : Below w.heap.size w W) : IdxU base W x u l :=
  ⟨h.1.below hb h.1.lt, h.2.1.keep hb.size fun b hb' => hb.block b (h.2.1.block hb').2, h.2.2⟩

/-- What from's iterator yields: what stands from the place on at which lo would stand; or a prefix of it. -/
theorem from_stops {base x : Nat} {lo : Int} {u : Value} {zs : List Int} (n : Nat) (hn : 1 ≤ n) (Bx Bl n₀ : Nat) (hlen : zs.length ≤ 100000) (w : World) (hBx : w.cell? ⟨Bx, 0, none⟩ = some (.pointer (some ⟨x, 0, none⟩))) (hBl : w.cell? ⟨Bl, 0, none⟩ = some (.int .u32 lo))
    (hI : IdxU base w x u zs) (hlow : ∀ b, u.ownBlock = some b → b < n₀) :
    SeqStopsK Fence.wide n Try.prog 35 #[.pointer (some ⟨Bx, 0, none⟩), .pointer (some ⟨Bl, 0, none⟩)] (fun y : Int => #[Value.int .u32 y]) (Below n₀) (fun ys => ∃ k, FindAt zs lo k ∧ ys = zs.drop k) (fun pre => ∃ k, FindAt zs lo k ∧ pre <+: zs.drop k) zs.length w := fun l J Jx W hW hJ _ hY h0 => by
  refine (from1_in (base := base) (x := x) (lo := lo) (u := u) (zs := zs) n hn l Bx Bl n₀ hlen J Jx hY W ((hW.cell (p := ⟨Bx, 0, none⟩) (World.block_lt_of_cell? w _ hBx)).trans hBx) ((hW.cell (p := ⟨Bl, 0, none⟩) (World.block_lt_of_cell? w _ hBl)).trans hBl) (hI.below hW) hlow
    (fun W' hn => hJ [] W W' none h0 ⟨hn.os, hn.tape, hn.output, hn.size, fun i hi _ => hn.block i hi id⟩ (fun r e => by cases e))).mono ?_
  rintro e W' ⟨he, k, hk, hj | ⟨pre, hp, hj⟩⟩
  · exact ⟨he, .inl ⟨_, ⟨k, hk, rfl⟩, hj⟩⟩
  · exact ⟨he, .inr ⟨_, ⟨k, hk, hp⟩, hj⟩⟩

set_option maxHeartbeats 1000000 in
theorem from_any (x : Value) (hx : ∃ a, x = .pointer a) (lo : Int) (w : World) :
    Calls Try.prog 29 #[x, .int .u32 lo] w fun e w' => e = .returned (.func (.func 35) #[] #[.pointer (some ⟨w.heap.size, 0, none⟩), .pointer (some ⟨w.heap.size + 1, 0, none⟩)]) ∧ w' = (w.alloc (.cells #[x] 25)).alloc (.cells #[.int .u32 lo] 28) := by
  obtain ⟨a, rfl⟩ := hx
  go_enter Try.func29, Try.ntmps29
  go_wp2
  go_ret
  exact ⟨rfl, rfl⟩

end Go.Proofs.Ytmhhmenhfocfjaa
