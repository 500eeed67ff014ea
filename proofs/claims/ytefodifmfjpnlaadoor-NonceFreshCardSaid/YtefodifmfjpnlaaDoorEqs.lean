/- two rows compared, element by element. -/
import Derived.Test.YtefodifmfjpnlaaDoorMem
set_option linter.unusedVariables false
namespace Go.Proofs.YtefodifmfjpnlaaDoor
open Go.RowKit
section
variable {α : Type} (eq : α → α → Bool)
def eqAll (L M : List α) : Bool := decide (L.length = M.length) && (L.zip M).all fun x => eq x.1 x.2
def eqTo (L M : List α) (k : Nat) : Prop := ((L.zip M).take k).all (fun x => eq x.1 x.2) = true
theorem zip_get {L M : List α} {k : Nat} {x y : α} (hx : L[k]? = some x) (hy : M[k]? = some y) : (L.zip M)[k]? = some (x, y) := by
  rw [List.getElem?_zip_eq_some]; exact ⟨hx, hy⟩
theorem eqTo_zero (L M : List α) : eqTo eq L M 0 := by simp [eqTo]
theorem eqTo_succ {L M : List α} {k : Nat} {x y : α} (hx : L[k]? = some x) (hy : M[k]? = some y) (h : eqTo eq L M k) (he : eq x y = true) : eqTo eq L M (k + 1) := by
  have hz := zip_get hx hy
  obtain ⟨hk, hg⟩ := List.getElem?_eq_some_iff.1 hz
  unfold eqTo at *
  rw [List.take_succ_eq_append_getElem hk, List.all_append, h, hg]; simp [he]
theorem eqAll_no {L M : List α} {k : Nat} {x y : α} (hx : L[k]? = some x) (hy : M[k]? = some y) (he : eq x y = false) : eqAll eq L M = false := by
  have hz := zip_get hx hy
  have : (L.zip M).all (fun x => eq x.1 x.2) = false := by
    rw [List.all_eq_false]; exact ⟨_, List.mem_of_getElem? hz, by simp [he]⟩
  simp [eqAll, this]
theorem eqAll_len {L M : List α} (h : L.length ≠ M.length) : eqAll eq L M = false := by simp [eqAll, h]
theorem eqAll_end {L M : List α} (hl : L.length = M.length) (h : eqTo eq L M L.length) : eqAll eq L M = true := by
  unfold eqTo at h
  rw [List.take_of_length_le (by simp; omega)] at h
  simp only [eqAll, hl, decide_true, Bool.true_and]; exact h
theorem eqAll_iff (he : ∀ x y, eq x y = true ↔ x = y) (L M : List α) : eqAll eq L M = true ↔ L = M := by
  constructor
  · intro h
    simp only [eqAll, Bool.and_eq_true, decide_eq_true_eq, List.all_eq_true] at h
    apply List.ext_getElem? 
    intro i
    rcases Nat.lt_or_ge i L.length with hi | hi
    · have hx := List.getElem?_eq_getElem hi
      have hy := List.getElem?_eq_getElem (show i < M.length by omega)
      have := h.2 _ (List.mem_of_getElem? (zip_get hx hy))
      rw [hx, hy]; exact congrArg some ((he _ _).1 this)
    · rw [List.getElem?_eq_none hi, List.getElem?_eq_none (by omega)]
  · rintro rfl
    simp only [eqAll, decide_true, Bool.true_and, List.all_eq_true]
    intro x hx
    rw [he]
    obtain ⟨i, hi⟩ := List.getElem?_of_mem hx
    rw [List.getElem?_zip_eq_some] at hi
    exact Option.some.inj (hi.1.symm.trans hi.2)
end
def eqS (a b : ByteArray) : Bool := decide (a.toList = b.toList)
theorem eqS_iff (a b : ByteArray) : eqS a b = true ↔ a = b := by simp [eqS, bytes_eq_iff]
theorem run_neq_str (a b : ByteArray) (w : World) : (binOp .neq 9 (.string a) (.string b)).run Tryd.prog w = .ok (.bool (!eqS a b)) w := by
  go_simp
  unfold eqS
  by_cases h : a.toList = b.toList <;> simp [h]
theorem run_eql_str (a b : ByteArray) (w : World) : (binOp .eql 9 (.string a) (.string b)).run Tryd.prog w = .ok (.bool (eqS a b)) w := by
  go_simp
  unfold eqS
  by_cases h : a.toList = b.toList <;> simp [h]
end Go.Proofs.YtefodifmfjpnlaaDoor
