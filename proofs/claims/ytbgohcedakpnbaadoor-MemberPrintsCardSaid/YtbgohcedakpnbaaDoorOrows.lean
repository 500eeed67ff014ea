/- Rows of one's own beside other rows of one's own. -/
import Derived.Test.YtbgohcedakpnbaaDoorORow
set_option linter.unusedVariables false
namespace Go.Proofs.YtbgohcedakpnbaaDoor
open Go.RowKit
section
variable {α β : Type} {e e' : TypeId} {enc : α → List Value} {enc2 : β → List Value} {sz sz' : Nat} {w w' : World} {base base' : Nat} {v v' : Value} {L : List α} {M : List β}
/-- rows of unlike types lie in unlike blocks -/
theorem orow_ne (h : ORow e enc sz w base v L) (h' : ORow e' enc2 sz' w base' v' M) (hne : e ≠ e') : ∀ g, v.ownBlock = some g → v'.ownBlock ≠ some g := by
  intro g hg hg'
  rcases h.2 with ⟨rfl, _⟩ | ⟨g1, cap, cur, rfl, _, hh, _⟩
  · simp [Value.ownBlock] at hg
  · rcases h'.2 with ⟨rfl, _⟩ | ⟨g2, cap2, cur2, rfl, _, hh2, _⟩
    · simp [Value.ownBlock] at hg'
    · have e1 : g1 = g := by simpa [Value.ownBlock] using hg
      have e2 : g2 = g := by simpa [Value.ownBlock] using hg'
      subst e1 e2
      exact Blk.ne_ (t := e) (t' := e') hh hh2 hne rfl
theorem orow_grown {row : Option Nat} (h : ORow e enc sz w base v L) (hg : w.grownBy w' row) (hne : ∀ g, v.ownBlock = some g → row ≠ some g) : ORow e enc sz w' base v L := by
  refine ⟨h.1, ?_⟩
  rcases h.2 with hn | ⟨g, cap, cur, rfl, hb', hh, rest⟩
  · exact .inl hn
  · have hlt := (Array.getElem?_eq_some_iff.1 hh).1
    exact .inr ⟨g, cap, cur, rfl, hb', (hg.block g hlt (fun e => hne g (by simp [Value.ownBlock]) e.symm)).trans hh, rest⟩
theorem orow_far {g : Nat} {t : TypeId} {cs : Array Value} (h : ORow e enc sz w base v L) (hg : Blk w g t cs) (hne : e ≠ t) (o : Nat) (u : Value) : ORow e enc sz (w.setCell ⟨g, o, none⟩ u) base v L :=
  own_far h (own_blk_ne h hg hne) o u
theorem blk_grown_row {g : Nat} {t : TypeId} {cs : Array Value} (hg : Blk w g t cs) (h : ORow e enc sz w base v L) (hne : e ≠ t) (hgr : w.grownBy w' v.ownBlock) : Blk w' g t cs :=
  hg.grown hgr (fun e => own_blk_ne h hg hne e.symm)
end
end Go.Proofs.YtbgohcedakpnbaaDoor
