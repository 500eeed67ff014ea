/- NetBack, plain: what the three pairs of steps come to. -/
import Derived.Test.YtojabnaabgbclaaNetBig
set_option linter.unusedVariables false
namespace Go.Proofs.Ytojabnaabgbclaa
open Go.RowKit
theorem erase_last (L : List Letter) (x : Letter) : (L ++ [x]).eraseIdx L.length = L := by
  induction L with
  | nil => rfl
  | cons y L ih => simp [ih]
theorem stepF_at (F : Net → Nat → Int × Net) (N : Net) (j : Nat) (hc : checkB N = true) (hj : j < N.way.length) :
    stepF F N j = if (F N j).1 = 0 then (N.way.getD j noLetter, (F N j).2, 0) else (noLetter, noNet, (F N j).1) := by
  unfold stepF; rw [if_pos hc, if_pos ⟨by omega, by omega⟩, Int.toNat_natCast]
theorem stepF_err (F : Net → Nat → Int × Net) (N : Net) (i : Int) (h : (stepF F N i).2.2 ≠ 0) : (stepF F N i).1 = noLetter ∧ (stepF F N i).2.1 = noNet := by
  unfold stepF at *
  split
  · split
    · split
      · simp_all
      · exact ⟨rfl, rfl⟩
    · exact ⟨rfl, rfl⟩
  · exact ⟨rfl, rfl⟩
theorem back1 (N M : Net) (i : Int) (h : (stepF doubleF N i).2 = (M, 0)) :
    N.way.length ≤ 60 ∧ ((stepF loseF M N.way.length).2 = (noNet, 260) ∨ ∃ R, (stepF loseF M N.way.length).2 = (R, 0) ∧ R.way = N.way ∧ R.sent = N.sent ∧ R.delivered = N.delivered) := by
  obtain ⟨hc, hi, hF, _⟩ := step_ok_iff _ N M i (stepF doubleF N i).1 (by rw [← h])
  have hlt : i.toNat < N.way.length := by omega
  obtain ⟨hcm, hM⟩ := double_check N M _ hc hlt hF
  have h60 := (fine_of N hc).1
  refine ⟨h60, ?_⟩
  have hl : M.way.length = N.way.length + 1 := by rw [hM]; simp
  rw [stepF_at loseF M N.way.length hcm (by omega)]
  by_cases hf : M.lost = 1000000000
  · left
    simp [loseF, hf]
  · right
    refine ⟨{ M with way := M.way.eraseIdx N.way.length, lost := M.lost + 1 }, by simp [loseF, hf], ?_, ?_, ?_⟩
    · rw [hM]; exact erase_last _ _
    · rw [hM]
    · rw [hM]
theorem back2 (N M : Net) (l : Letter) (er : Int) (h : sendF N l = (M, er)) (he : er ≠ 0) : M = noNet := by
  unfold sendF at h
  repeat' split at h
  all_goals (injection h with h1 h2; first | exact h1.symm | (exact absurd h2.symm he))
theorem back3 (N M : Net) (l : Letter) (h : sendF N l = (M, 0)) :
    N.way.length < 60 ∧ (stepF deliverF M N.way.length = (noLetter, noNet, 260) ∨ ∃ R, stepF deliverF M N.way.length = (l, R, 0) ∧ R.way = N.way) := by
  have hcm := send_check N M l h
  obtain ⟨hc, _, _, h60, _, hM⟩ := send_ok_iff N M l h
  have hf := (fine_of N hc).1
  refine ⟨by omega, ?_⟩
  have hl : M.way.length = N.way.length + 1 := by rw [hM]; simp
  rw [stepF_at deliverF M N.way.length hcm (by omega)]
  by_cases hd : M.delivered = 1000000000
  · left; simp [deliverF, hd]
  · right
    refine ⟨{ M with way := M.way.eraseIdx N.way.length, delivered := M.delivered + 1 }, ?_, ?_⟩
    · have : M.way[N.way.length]?.getD noLetter = l := by rw [hM]; simp
      simp [deliverF, hd, this]
    · rw [hM]; exact erase_last _ _
end Go.Proofs.Ytojabnaabgbclaa
