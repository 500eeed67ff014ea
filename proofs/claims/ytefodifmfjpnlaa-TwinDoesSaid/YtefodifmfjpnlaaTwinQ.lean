/- chapter 14, plain: a Put that is stopped, and a crash behind it (for TwinCrash and TwinRow). -/
import Derived.Test.YtefodifmfjpnlaaTwinFar
set_option linter.unusedVariables false
namespace Go.Proofs.Ytefodifmfjpnlaa
open Go.RowKit
/-- what is read behind a crash of a platter that one text waits on -/
theorem crash_one {p : Plat} {i : Int} {s : ByteArray} (hp : p.cache = []) (h : (writeF p i s).2 = 0) (F : List Int) :
    ∃ x : ByteArray, (∀ o, readF (crashF (writeF p i s).1 F).1 o = if o = i then (x, 0) else readF p o) ∧
      (x = (readF p i).1 ∨ x = s ∨ ∃ n, x = mixB (readF p i).1 s n) := by
  obtain ⟨hc, hi, hs, hl, e⟩ := write_ok h
  have hc' := write_check h
  rw [e] at hc' ⊢
  obtain ⟨S, C⟩ := p
  dsimp only at hp
  subst hp
  dsimp only [List.nil_append] at hc' e ⊢
  have hn := (hasB_iff _ _).1 hi
  dsimp only at hn
  obtain ⟨j, rfl⟩ := Int.eq_ofNat_of_zero_le hn.1
  have hj : j < S.length := by omega
  have er : readF ⟨S, []⟩ (j : Int) = (S.getD j ByteArray.empty, 0) := by
    rw [readF_ok hc, if_pos hi]
    simp [readOf_bare]
  have ec : crashF ⟨S, [⟨(j : Int), s⟩]⟩ F = (⟨(fallF ⟨S, [⟨(j : Int), s⟩]⟩ ⟨(j : Int), s⟩ (F.getD 0 0)).sectors, []⟩, 0) := by
    unfold crashF settleF
    rw [if_pos hc']
    rfl
  obtain ⟨_, c2, _, c4, _⟩ := crash_ok hc' F
  rw [ec] at c2 c4 ⊢
  dsimp only at c2 c4 ⊢
  generalize hS : (fallF ⟨S, [⟨(j : Int), s⟩]⟩ ⟨(j : Int), s⟩ (F.getD 0 0)).sectors = S' at c2 c4 ⊢
  have hfar : ∀ k : Nat, k ≠ j → S'[k]? = S[k]? := by
    intro k hk
    rw [← hS]
    exact fallF_far ⟨S, _⟩ ⟨(j : Int), s⟩ _ k (by simp) (by simp; omega)
  refine ⟨S'.getD j ByteArray.empty, fun o => ?_, ?_⟩
  · by_cases ho : o = (j : Int)
    · subst ho
      rw [if_pos rfl, readF_ok c4, c2, if_pos hi]
      simp [readOf_bare]
    · rw [if_neg ho, readF_ok c4, readF_ok hc, c2]
      dsimp only
      by_cases hb : hasB S.length o = true
      · have hb' := (hasB_iff _ _).1 hb
        rw [if_pos hb, if_pos hb, readOf_bare, readOf_bare]
        simp only [List.getD, hfar o.toNat (by omega)]
      · rw [if_neg hb, if_neg hb]
  · rw [er, ← hS]
    unfold fallF
    dsimp only
    split
    · exact .inl rfl
    · split
      · refine .inr (.inl ?_)
        simp [List.getD, hj]
      · refine .inr (.inr ⟨(F.getD 0 0 - 2).toNat, ?_⟩)
        simp [List.getD, hj]
/-- a crash of a platter whose cache is empty is nothing -/
theorem crash_bare {p : Plat} (hc : checkP p = true) (h : p.cache = []) (F : List Int) : crashF p F = (p, 0) := settle_bare hc h _
/-- a mark that falls on another one -/
theorem mix_mark {old mark : ByteArray} {n : Nat} (ho : old.size ≤ 1) (hm : mark.size = 1) : mixB old mark n = old ∨ mixB old mark n = mark := by
  unfold mixB
  rcases Nat.eq_zero_or_pos n with rfl | hn
  · left
    by_cases h : 0 < old.size
    · rw [if_pos h]
      apply ByteArray.ext
      simp
    · rw [if_neg h]
      have : old = ByteArray.empty := by
        apply ByteArray.ext
        apply Array.eq_empty_of_size_eq_zero
        show old.size = 0
        omega
      subst this
      apply ByteArray.ext
      simp
  · right
    rw [if_neg (by omega)]
    have : min n mark.size = mark.size := by omega
    rw [this]
    simp
end Go.Proofs.Ytefodifmfjpnlaa
