/- strings.Builder: what leaves a builder as it was. -/
import Derived.Test.YtbgohcedakpnbaaDoorBld
set_option linter.unusedVariables false
namespace Go.Proofs.YtbgohcedakpnbaaDoor
open Go.RowKit Go.Shelf
theorem bld_grown {B b : Nat} {l : List UInt8} {W W' : World} {row : Option Nat} (h : Bld B b l W) (hg : W.grownBy W' row) (hr : ∀ r, row = some r → ∃ o : Obj, W.heap[r]? = some o ∧ o.isCells = false) : Bld B b l W' := by
  have key : ∀ (k : Nat) (cs : Array Value) (t : TypeId) (fr : Nat × Nat), W.heap[k]? = some (.cells cs t fr) → W'.heap[k]? = some (.cells cs t fr) := fun k cs t fr hk =>
    (hg.block k (Array.getElem?_eq_some_iff.1 hk).1 (fun e => by
      obtain ⟨o, ho, hc⟩ := hr k e.symm
      rw [hk] at ho; injection ho with ho; subst ho; cases hc)).trans hk
  have main : ∀ p, Lib.BuilderAtF 56 5 B b p (Lib.byteCells l) W → Lib.BuilderAtF 56 5 B b p (Lib.byteCells l) W' := fun p h => by
    obtain ⟨hB, v, hb, hown, hne⟩ := h
    refine ⟨hB, v, key _ _ _ _ hb, ⟨hown.1, ?_⟩, hne⟩
    rcases hown.2 with hn | ⟨g, cap, cur, fz, hv, hbg, hgg, rest⟩
    · exact .inl hn
    · exact .inr ⟨g, cap, cur, fz, hv, hbg, key _ _ _ _ hgg, rest⟩
  exact Or.imp (main _) (main _) h
theorem bld_below {B b : Nat} {l : List UInt8} {W W' : World} (h : Bld B b l W) (hb : Below W.heap.size W W') : Bld B b l W' :=
  bld_grown (row := none) h ⟨hb.os, hb.tape, hb.output, hb.size, fun k hk _ => hb.block k hk⟩ (fun r e => by cases e)
theorem Bld.alloc {B b : Nat} {l : List UInt8} {w : World} (h : Bld B b l w) (o : Obj) : Bld B b l (w.alloc o) := Lib.IsBuilderF.alloc h o
theorem Bld.drew {B b : Nat} {l : List UInt8} {w : World} (h : Bld B b l w) : Bld B b l w.drew := h
end Go.Proofs.YtbgohcedakpnbaaDoor
