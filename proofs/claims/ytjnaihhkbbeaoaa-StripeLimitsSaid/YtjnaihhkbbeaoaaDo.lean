/- do: a function is called with the messages of a stripe, under its lock. -/
import Derived.Test.YtjnaihhkbbeaoaaMu
import Derived.Test.YtjnaihhkbbeaoaaMore
import Derived.WalkSpells
import Derived.WalkLawsBesides
namespace Go.Proofs.Ytjnaihhkbbeaoaa
open Go.RowKit Go.MuLone

set_option maxRecDepth 100000 in
set_option maxHeartbeats 1600000 in
theorem do_any (q m fn : Nat) (cap : Array Value) (R : World → Prop) (w : World) (hp : Blk w q 72 #[.int .i32 0, .int .u32 0, .map (some m)])
    (hE : ∀ args w, (callFunc fn args).run Try.prog w = .ok (.enter fn args) w)
    (hf : Calls Try.prog fn (#[.map (some m)] ++ cap) (w.setCell ⟨q, 0, none⟩ (.int .i32 1)) fun e w2 => e = .returned (.tuple #[]) ∧ R w2)
    (hR : ∀ w2, R w2 → Blk w2 q 72 #[.int .i32 1, .int .u32 0, .map (some m)]) :
    Calls Try.prog 26 #[.pointer (some ⟨q, 0, none⟩), .func (.func fn) #[] cap] w fun e w' => e = .returned (.tuple #[]) ∧ ∃ w2, R w2 ∧ w' = w2.setCell ⟨q, 0, none⟩ (.int .i32 0) := by
  have c0 := hp.cell 0
  have f0 := hp.frozen 0
  have h1 : Blk (w.setCell ⟨q, 0, none⟩ (.int .i32 1)) q 72 #[.int .i32 1, .int .u32 0, .map (some m)] := hp.set_ 0 _
  have d2 : (w.setCell ⟨q, 0, none⟩ (.int .i32 1)).cell? ⟨q, 2, none⟩ = some (.map (some m)) := h1.cell 2
  go_enter_defers Try.func26, Try.ntmps26
  go_wp2_with (first | (go_at_call 41; refine (lock_free muLib ⟨q, 0, none⟩ _ c0 f0).mono ?_; rintro e w' ⟨rfl, rfl⟩) | fail)
  refine hf.mono ?_
  rintro e w2 ⟨rfl, hr⟩
  have h2 := hR _ hr
  have HR := Lib.hid hr
  clear hr hR hf
  go_wp2
  refine leaves_cons (f := 42) (args := #[.pointer (some ⟨q, 0, none⟩)]) (by simp) (by simp [go_sem]) ?_
  refine (unlock_deferred muLib ⟨q, 0, none⟩ .returning _ (h2.cell 0) (h2.frozen 0)).mono ?_
  rintro e u' w'' ⟨rfl, rfl, rfl⟩
  exact ⟨_, results_none rfl _ _ _, rfl, _, HR.out, rfl⟩

end Go.Proofs.Ytjnaihhkbbeaoaa
