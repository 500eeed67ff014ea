/- chapter 13, plain: a platter with an empty cache settles to itself. -/
import Derived.Test.YtefodifmfjpnlaaPlatP
set_option linter.unusedVariables false
namespace Go.Proofs.Ytefodifmfjpnlaa
open Go.RowKit
theorem settle_bare {p : Plat} (hc : checkP p = true) (h : p.cache = []) (f : Nat → Int) : settleF p f = (p, 0) := by
  obtain ⟨S, C⟩ := p
  dsimp only at h
  subst h
  unfold settleF
  rw [if_pos hc]
  rfl
theorem twice_plain {p : Plat} (hc : checkP p = true) (F : List Int) : (syncF p).2 = 0 ∧ checkP (syncF p).1 = true ∧ syncF (syncF p).1 = ((syncF p).1, 0) ∧ crashF (syncF p).1 F = ((syncF p).1, 0) ∧
    (∀ i, readF (syncF p).1 i = readF p i) ∧ (syncF p).1.sectors.length = p.sectors.length ∧ (syncF p).1.cache = [] := by
  obtain ⟨h1, h2, h3, h4, _⟩ := sync_ok hc
  exact ⟨h1, h4, settle_bare h4 h2 _, settle_bare h4 h2 _, read_sync hc, h3, h2⟩
theorem read_in {p : Plat} (hc : checkP p = true) {i : Nat} (hi : i < p.sectors.length) : (readF p i).2 = 0 := by
  rw [readF_ok hc, if_pos ((hasB_iff _ _).2 ⟨by omega, by omega⟩)]
end Go.Proofs.Ytefodifmfjpnlaa
