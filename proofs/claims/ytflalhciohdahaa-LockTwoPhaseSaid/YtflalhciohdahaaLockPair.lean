/- A table beside the reference's: what the one turns leaves the other. -/
import Derived.Test.YtflalhciohdahaaLockAlive
import Derived.Test.YtflalhciohdahaaLockRA
namespace Go.Proofs.Ytflalhciohdahaa
open Go.RowKit

theorem Own.not_map {α : Type} {E : Elem α} {e : TypeId} {base : Nat} {w : World} {v : Value} {l : List α} {P : Program} {K : TypeId} {β : Type} [DecidableEq β] {KE : KeyEnc P K β} {b : Nat} {m : List (β × Value)} (h : Own E e base w v l) (hm : HasMap KE w b m) : v.ownBlock ≠ some b := by
  intro hb
  obtain ⟨D, ⟨es, clock, h3, _⟩, _⟩ := hm.own
  rcases h.2 with ⟨h1, _⟩ | ⟨g, _, cur, h1, _, hg, _⟩
  · rw [h1] at hb; cases hb
  · rw [h1] at hb
    cases hb
    rw [hg] at h3
    cases h3

theorem Blk.not_map {w : World} {g : Nat} {t : TypeId} {cs : Array Value} {P : Program} {K : TypeId} {β : Type} [DecidableEq β] {KE : KeyEnc P K β} {b : Nat} {m : List (β × Value)} (h : Blk w g t cs) (hm : HasMap KE w b m) : g ≠ b := by
  rintro rfl
  obtain ⟨D, ⟨es, clock, h3, _⟩, _⟩ := hm.own
  unfold Blk at h
  rw [h] at h3
  cases h3

theorem Tab.rfr {base : Nat} {w w' : World} {b bm g : Nat} {v : Value} {O O' : List Int} {N N' : Int} (h : Tab w b bm O N) (hr : RTab base w g v O' N') (hf : RFr g v w w') : Tab w' b bm O N := by
  obtain ⟨l, hm, _⟩ := h.map
  refine h.fr hf (fun hs => ?_) (fun hs => ?_)
  · rcases hs with hs | hs
    · exact h.blk.ne_ hr.blk (by decide) hs
    · exact hr.own.blk_ne h.blk (by decide) hs
  · rcases hs with hs | hs
    · exact hr.blk.not_map hm hs.symm
    · exact hr.own.not_map hm hs

theorem RTab.tfr {base : Nat} {w w' : World} {b bm g : Nat} {v : Value} {O O' : List Int} {N N' : Int} (hr : RTab base w g v O' N') (h : Tab w b bm O N) (hf : TFr b bm w w') : RTab base w' g v O' N' := by
  obtain ⟨l, hm, _⟩ := h.map
  refine hr.fr hf (fun hs => ?_) (fun q hq hs => ?_)
  · rcases hs with hs | hs
    · exact h.blk.ne_ hr.blk (by decide) hs.symm
    · exact hr.blk.not_map hm hs
  · rcases hs with rfl | rfl
    · exact hr.own.blk_ne h.blk (by decide) hq
    · exact hr.own.not_map hm hq

theorem RFr.new {g : Nat} {v : Value} {a w w' : World} {O : List Int} {N : Int} (hn : New a w) (hr : RTab a.heap.size w g v O N) (hg : a.heap.size ≤ g) (hf : RFr g v w w') : New a w' :=
  New.two hn hf fun i hi => by
    rcases hi with rfl | hi
    · exact hg
    · exact (hr.own.block hi).1

end Go.Proofs.Ytflalhciohdahaa
