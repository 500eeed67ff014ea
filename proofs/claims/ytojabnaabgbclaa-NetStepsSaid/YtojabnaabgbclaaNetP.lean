/- chapter 19, plain law: what steps keep. -/
import Derived.Test.YtojabnaabgbclaaNetK
set_option linter.unusedVariables false
namespace Go.Proofs.Ytojabnaabgbclaa
open Go.RowKit
def Inv (N : Net) (S : List Letter) : Prop := checkB N = true ∧ (∀ x ∈ N.way, x ∈ S) ∧ N.sent = S.length
theorem checkB_iff (N : Net) : checkB N = true ↔ Fine N ∧ (∀ x ∈ N.way, letterB x = true) ∧ N.sent + N.doubled = N.delivered + N.lost + N.way.length := by
  simp only [checkB, inB, Fine, Bool.and_eq_true, decide_eq_true_eq, List.all_eq_true]
  constructor
  · rintro ⟨a, ⟨b1, b2⟩, ⟨c1, c2⟩, ⟨d1, d2⟩, ⟨e1, e2⟩, f, g⟩
    exact ⟨⟨a, ⟨b1, b2⟩, ⟨c1, c2⟩, ⟨d1, d2⟩, ⟨e1, e2⟩⟩, f, g⟩
  · rintro ⟨⟨a, ⟨b1, b2⟩, ⟨c1, c2⟩, ⟨d1, d2⟩, ⟨e1, e2⟩⟩, f, g⟩
    exact ⟨a, ⟨b1, b2⟩, ⟨c1, c2⟩, ⟨d1, d2⟩, ⟨e1, e2⟩, f, g⟩
theorem letterB_of (l : Letter) (ha : addrB l = true) (ht : l.text.size ≤ 4000) : letterB l = true := by simp [letterB, ha, ht]
theorem erase_sub {L : List Letter} {i : Nat} {x : Letter} (h : x ∈ L.eraseIdx i) : x ∈ L := List.mem_of_mem_eraseIdx h

theorem send_ok_iff (N M : Net) (l : Letter) (h : sendF N l = (M, 0)) : checkB N = true ∧ addrB l = true ∧ l.text.size ≤ 4000 ∧ N.way.length ≠ 60 ∧ N.sent ≠ 1000000000 ∧ M = { N with way := N.way ++ [l], sent := N.sent + 1 } := by
  unfold sendF at h
  split at h
  · split at h
    · split at h
      · split at h
        · cases h
        · rename_i a b c d
          injection h with h1 _
          exact ⟨a, b, c, by omega, by omega, h1.symm⟩
      · cases h
    · cases h
  · cases h
theorem step_ok_iff (F : Net → Nat → Int × Net) (N M : Net) (i : Int) (l : Letter) (h : stepF F N i = (l, M, 0)) :
    checkB N = true ∧ (0 ≤ i ∧ i < N.way.length) ∧ F N i.toNat = (0, M) ∧ l = N.way.getD i.toNat noLetter := by
  unfold stepF at h
  split at h
  · split at h
    · split at h
      · rename_i a b c
        injection h with h1 h2
        injection h2 with h2 _
        exact ⟨a, b, by rw [← c, ← h2], h1.symm⟩
      · rename_i a b c
        injection h with h1 h2
        injection h2 with h2 h3
        exact absurd h3 c
    · injection h with h1 h2
      injection h2 with h2 h3
      cases h3
  · injection h with h1 h2
    injection h2 with h2 h3
    cases h3
theorem getD_mem {L : List Letter} {i : Nat} (h : i < L.length) : L.getD i noLetter ∈ L := by
  rw [List.getD_eq_getElem?_getD, List.getElem?_eq_getElem h]; exact List.getElem_mem h
theorem deliver_check (N M : Net) (i : Nat) (hc : checkB N = true) (hi : i < N.way.length) (h : deliverF N i = (0, M)) : checkB M = true ∧ M = { N with way := N.way.eraseIdx i, delivered := N.delivered + 1 } := by
  unfold deliverF at h
  split at h
  · cases h
  · rename_i hd
    injection h with _ h
    refine ⟨?_, h.symm⟩
    subst h
    rw [checkB_iff] at hc ⊢
    obtain ⟨⟨a, b, c, d, e⟩, f, g⟩ := hc
    have hl := List.length_eraseIdx_of_lt hi
    refine ⟨⟨by simp only; omega, b, by simp only; omega, d, e⟩, fun x hx => f x (erase_sub hx), by simp only; omega⟩
theorem lose_check (N M : Net) (i : Nat) (hc : checkB N = true) (hi : i < N.way.length) (h : loseF N i = (0, M)) : checkB M = true ∧ M = { N with way := N.way.eraseIdx i, lost := N.lost + 1 } := by
  unfold loseF at h
  split at h
  · cases h
  · rename_i hd
    injection h with _ h
    refine ⟨?_, h.symm⟩
    subst h
    rw [checkB_iff] at hc ⊢
    obtain ⟨⟨a, b, c, d, e⟩, f, g⟩ := hc
    have hl := List.length_eraseIdx_of_lt hi
    refine ⟨⟨by simp only; omega, b, c, by simp only; omega, e⟩, fun x hx => f x (erase_sub hx), by simp only; omega⟩
theorem double_check (N M : Net) (i : Nat) (hc : checkB N = true) (hi : i < N.way.length) (h : doubleF N i = (0, M)) : checkB M = true ∧ M = { N with way := N.way ++ [N.way.getD i noLetter], doubled := N.doubled + 1 } := by
  unfold doubleF at h
  split at h
  · cases h
  · rename_i hd
    injection h with _ h
    refine ⟨?_, h.symm⟩
    subst h
    rw [checkB_iff] at hc ⊢
    obtain ⟨⟨a, b, c, d, e⟩, f, g⟩ := hc
    have hl : (N.way ++ [N.way.getD i noLetter]).length = N.way.length + 1 := by simp
    refine ⟨⟨by simp only; omega, b, c, d, by simp only; omega⟩, fun x hx => ?_, by simp only; omega⟩
    rcases List.mem_append.1 hx with hx | hx
    · exact f x hx
    · rw [List.mem_singleton.1 hx]; exact f _ (getD_mem hi)
theorem send_check (N M : Net) (l : Letter) (h : sendF N l = (M, 0)) : checkB M = true := by
  obtain ⟨hc, ha, ht, h60, hs, rfl⟩ := send_ok_iff N M l h
  rw [checkB_iff] at hc ⊢
  obtain ⟨⟨a, b, c, d, e⟩, f, g⟩ := hc
  have hl : (N.way ++ [l]).length = N.way.length + 1 := by simp
  refine ⟨⟨by simp only; omega, by simp only; omega, c, d, e⟩, fun x hx => ?_, by simp only; omega⟩
  rcases List.mem_append.1 hx with hx | hx
  · exact f x hx
  · rw [List.mem_singleton.1 hx]; exact letterB_of l ha ht
theorem noNet_check : checkB noNet = true := by rfl
theorem inv_none : Inv noNet [] := ⟨noNet_check, by simp [noNet], rfl⟩

/-- WHAT A STEP OF A SCRIPT KEEPS -/
theorem inv_step (N M : Net) (S : List Letter) (o : Op) (l : Letter) (hI : Inv N S) (h : lstepF N o = (l, M, 0)) :
    Inv M (if o.kind = 1 then S ++ [o.letter] else S) ∧ (o.kind = 2 → l ∈ S) := by
  obtain ⟨hc, hs, hn⟩ := hI
  unfold lstepF at h
  by_cases h1 : o.kind = 1
  · rw [if_pos h1] at h ⊢
    injection h with _ h
    obtain ⟨_, _, _, _, _, rfl⟩ := send_ok_iff N M _ h
    refine ⟨⟨send_check N _ _ h, fun x hx => ?_, by simp [hn]⟩, fun h2 => by omega⟩
    rcases List.mem_append.1 hx with hx | hx
    · exact List.mem_append_left _ (hs x hx)
    · exact List.mem_append_right _ hx
  · rw [if_neg h1] at h ⊢
    by_cases h2 : o.kind = 2
    · rw [if_pos h2] at h
      obtain ⟨_, hi, hF, rfl⟩ := step_ok_iff _ N M _ _ h
      have hlt : o.i.toNat < N.way.length := by omega
      obtain ⟨hcm, rfl⟩ := deliver_check N M _ hc hlt hF
      exact ⟨⟨hcm, fun x hx => hs x (erase_sub hx), hn⟩, fun _ => hs _ (getD_mem hlt)⟩
    · rw [if_neg h2] at h
      by_cases h3 : o.kind = 3
      · rw [if_pos h3] at h
        injection h with _ h
        obtain ⟨_, hi, hF, _⟩ := step_ok_iff _ N M o.i (stepF loseF N o.i).1 (by rw [← h])
        have hlt : o.i.toNat < N.way.length := by omega
        obtain ⟨hcm, rfl⟩ := lose_check N M _ hc hlt hF
        exact ⟨⟨hcm, fun x hx => hs x (erase_sub hx), hn⟩, fun e => absurd e h2⟩
      · rw [if_neg h3] at h
        injection h with _ h
        obtain ⟨_, hi, hF, _⟩ := step_ok_iff _ N M o.i (stepF doubleF N o.i).1 (by rw [← h])
        have hlt : o.i.toNat < N.way.length := by omega
        obtain ⟨hcm, rfl⟩ := double_check N M _ hc hlt hF
        refine ⟨⟨hcm, fun x hx => ?_, hn⟩, fun e => absurd e h2⟩
        rcases List.mem_append.1 hx with hx | hx
        · exact hs x hx
        · rw [List.mem_singleton.1 hx]; exact hs _ (getD_mem hlt)
end Go.Proofs.Ytojabnaabgbclaa
