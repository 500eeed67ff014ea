/- reading rows of Bools. -/
import Derived.Test.YtbgohcedakpnbaaDoorRowsOpen
import Derived.Test.YtbgohcedakpnbaaDoorSesH
set_option linter.unusedVariables false
namespace Go.Proofs.YtbgohcedakpnbaaDoor
open Go.RowKit Go.ChangeShapes Go.WideShapes Go.ChangeAt Go.Deep
theorem cells_bool : Tryd.prog.cellsOf 4 = 1 := by kernel_rfl
theorem bytes_bool : Tryd.prog.bytesOf 4 = 1 := by kernel_rfl
section
variable {H : Type} {enc' : TypeId × Value → H} {w : World} {base b0 : Nat} {spare : Nat → Bool} {held : Bool} {r : Reach} {v : Value} {d : DataW H} {p : List MemPlace}
theorem trod_bo (n : Nat) (cs : List Value) (x : DataW H × List MemPlace) (h : DataW.trod enc' Tryd.prog w base spare held n 4 cs = some x) (hw : Light 4 x.1) : ∃ i, cs = encBo i ∧ True := by
  obtain ⟨i, rfl, _⟩ := DataW.trod_bool Tryd.underlying4 h
  exact ⟨i, rfl, trivial⟩
set_option maxRecDepth 100000 in
theorem open_boolrow (hv : Value.okWide Tryd.prog w r b0 48 v) (h : DataW.Trod enc' Tryd.prog w base spare held 48 v d p) (hw : Light 48 d) : ∃ A n c L, v = .slice A n c ∧ SlR encBo 1 w w.heap.size A n L ∧ n ≤ 140737488351232 ∧ (∀ o ∈ L, True) := by
  obtain ⟨A, n, c, rfl⟩ := okWide_slice Tryd.underlying48 hv
  obtain ⟨fuel, hf⟩ := h
  obtain ⟨A', n', c', L, e, hS, hc, hm, ho, hby⟩ := open_row (enc := encBo) (sz := 1) (Ok := fun _ => True) Tryd.underlying48 cells_bool (by omega) trod_bo hf hw
  simp only [Value.cells, List.cons.injEq, and_true, Value.slice.injEq] at e
  obtain ⟨rfl, rfl, rfl⟩ := e
  exact ⟨A, n, c, L, rfl, hS, by have := hby; rw [bytes_bool] at this; omega, ho⟩
end
end Go.Proofs.YtbgohcedakpnbaaDoor
