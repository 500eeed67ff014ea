/- twin: the rows of a Put's disk are short. -/
import Derived.Test.YtefodifmfjpnlaaDoorTwinS7
set_option linter.unusedVariables false
namespace Go.Proofs.YtefodifmfjpnlaaDoor
open Go.RowKit
theorem put_lens (p : Plat) (i : Int) (s : ByteArray) (most : Int) : (putF p i s most).1.sectors.length ≤ 1000 ∧ (putF p i s most).1.cache.length ≤ 1000 := by
  by_cases h : (putF p i s most).2.2 = 0
  · have hg := put_get h
    obtain ⟨hc, _⟩ := read_pos (get_read hg)
    have hN : mostN most ≤ 4 := by unfold mostN; split <;> omega
    rw [putF_do hg] at h ⊢
    have hd : (doTo p (i + (bodyF (markF (readF p i).1)).1) s i (markF (readF p i).1) (mostN most)).2 = 0 := by
      unfold doN at h
      split at h
      · assumption
      · exact h
    have he : doTo p (i + (bodyF (markF (readF p i).1)).1) s i (markF (readF p i).1) (mostN most) = ((doTo p (i + (bodyF (markF (readF p i).1)).1) s i (markF (readF p i).1) (mostN most)).1, 0) := by rw [← hd]
    rw [doN_ok he]
    exact doTo_len hc _ _ hN he
  · rw [(put_err h).1]; simp [noPlat]
end Go.Proofs.YtefodifmfjpnlaaDoor
