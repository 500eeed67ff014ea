/- what a round inside a fence keeps. -/
import Derived.Test.YtbgohcedakpnbaaDoorMem
import Derived.RangeFuncNested
import Derived.RangeFuncBound
import Derived.RangeFuncCalls
import Derived.RangeFuncLeaves
import Derived.Shelf.Abstract
import Derived.Deep.WholeRow
set_option linter.unusedVariables false
namespace Go.Proofs.YtbgohcedakpnbaaDoor
open Go.RowKit Go.Shelf
theorem keepsOthers_setCell (w : World) (g o : Nat) (u : Value) (old : Array Value) (t : TypeId) (fr : Nat × Nat) (hg : w.heap[g]? = some (.cells old t fr)) : KeepsOthers w (w.setCell ⟨g, o, none⟩ u) :=
  ⟨by simp [World.setCell], fun k ob hk ho => by
    by_cases e : k = g
    · subst e
      rw [hg] at hk
      injection hk with hk
      subst hk
      simp [Obj.isCells] at ho
    · exact (Below.heap_setCell w ⟨g, o, none⟩ u k (fun h => e h)).trans hk⟩
theorem keepsOthers_below {w w' : World} (h : Below w.heap.size w w') : KeepsOthers w w' :=
  ⟨h.size, fun k o hk _ => (h.block k (Array.getElem?_eq_some_iff.1 hk).1).trans hk⟩
/-- a block of cells is kept by what writes to no block of cells -/
theorem blk_kept {W W' : World} {row : Option Nat} {g : Nat} {t : TypeId} {cs : Array Value} (h : Blk W g t cs) (hg : W.grownBy W' row) (hr : ∀ r, row = some r → ∃ o : Obj, W.heap[r]? = some o ∧ o.isCells = false) : Blk W' g t cs := by
  refine h.grown hg (fun e => ?_)
  obtain ⟨o, ho, hc⟩ := hr g e.symm
  unfold Blk at h
  rw [h] at ho
  injection ho with ho
  subst ho
  simp [Obj.isCells] at hc
/-- block B is left as it was -/
def Kept (B : Nat) (W W' : World) : Prop := W'.heap[B]? = W.heap[B]?
theorem Kept.refl (B : Nat) (W : World) : Kept B W W := rfl
theorem Kept.trans {B : Nat} {W W' W'' : World} (h : Kept B W W') (k : Kept B W' W'') : Kept B W W'' := Eq.trans k h
theorem Kept.below {B n : Nat} {W W' : World} (h : Below n W W') (hB : B < n) : Kept B W W' := h.block B hB
theorem Kept.setCell {B g : Nat} {W : World} (h : B ≠ g) (o : Nat) (u : Value) : Kept B W (W.setCell ⟨g, o, none⟩ u) := Below.heap_setCell W ⟨g, o, none⟩ u B h
theorem Kept.cell {B : Nat} {W W' : World} (h : Kept B W W') (o : Nat) : W'.cell? ⟨B, o, none⟩ = W.cell? ⟨B, o, none⟩ := World.cell?_of_block h
end Go.Proofs.YtbgohcedakpnbaaDoor
