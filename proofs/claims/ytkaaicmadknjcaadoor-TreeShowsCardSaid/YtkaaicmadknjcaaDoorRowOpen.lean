/- reading rows of texts and rows of shares. -/
import Derived.Test.YtkaaicmadknjcaaDoorShr
import Derived.Test.YtkaaicmadknjcaaDoorStrs
set_option linter.unusedVariables false
namespace Go.Proofs.YtkaaicmadknjcaaDoor
open Go.RowKit Go.ChangeShapes Go.WideShapes Go.ChangeAt Go.Deep
theorem bytes_str : Tryd.prog.bytesOf 9 = 16 := by kernel_rfl
theorem bytes_share : Tryd.prog.bytesOf 51 = 24 := by kernel_rfl
section
variable {H : Type} {enc' : TypeId × Value → H} {w : World} {base b0 : Nat} {spare : Nat → Bool} {held : Bool} {r : Reach} {v : Value} {d : DataW H} {p : List MemPlace}
set_option maxRecDepth 100000 in
theorem open_strrow (hv : Value.okWide Tryd.prog w r b0 54 v) (h : DataW.Trod enc' Tryd.prog w base spare held 54 v d p) (hw : Light 54 d) : ∃ A n c L, v = .slice A n c ∧ SlR encS 1 w w.heap.size A n L ∧ n ≤ 140737488351232 ∧ (∀ s ∈ L, StrOk s) := by
  obtain ⟨A, n, c, rfl⟩ := okWide_slice Tryd.underlying54 hv
  obtain ⟨fuel, hf⟩ := h
  obtain ⟨A', n', c', L, e, hS, hc, hm, ho, hby⟩ := open_row (enc := encS) (sz := 1) (Ok := StrOk) Tryd.underlying54 cells_str (by omega) trod_str hf hw
  simp only [Value.cells, List.cons.injEq, and_true, Value.slice.injEq] at e
  obtain ⟨rfl, rfl, rfl⟩ := e
  rw [bytes_str] at hby
  exact ⟨A, n, c, L, rfl, hS, by omega, ho⟩
set_option maxRecDepth 100000 in
theorem open_sharerow (hv : Value.okWide Tryd.prog w r b0 55 v) (h : DataW.Trod enc' Tryd.prog w base spare held 55 v d p) (hw : Light 55 d) : ∃ A n c L, v = .slice A n c ∧ SlR encSh 2 w w.heap.size A n L ∧ n ≤ 140737488351232 ∧ (∀ s ∈ L, ShOk s) := by
  obtain ⟨A, n, c, rfl⟩ := okWide_slice Tryd.underlying55 hv
  obtain ⟨fuel, hf⟩ := h
  obtain ⟨A', n', c', L, e, hS, hc, hm, ho, hby⟩ := open_row (enc := encSh) (sz := 2) (Ok := ShOk) Tryd.underlying55 cells_share (by omega) trod_share hf hw
  simp only [Value.cells, List.cons.injEq, and_true, Value.slice.injEq] at e
  obtain ⟨rfl, rfl, rfl⟩ := e
  rw [bytes_share] at hby
  exact ⟨A, n, c, L, rfl, hS, by omega, ho⟩
end
end Go.Proofs.YtkaaicmadknjcaaDoor
