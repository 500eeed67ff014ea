/- chapter 14: reading the arguments of TwinRow (texts; rows of rows of numbers). -/
import Derived.Test.YtefodifmfjpnlaaPlatLaw
set_option linter.unusedVariables false
namespace Go.Proofs.Ytefodifmfjpnlaa
open Go.RowKit Go.ChangeShapes Go.WideShapes Go.ChangeAt Go.Deep
structure IRow where
  a : Option Addr
  n : Nat
  c : Nat
  xs : List Int
def encR (r : IRow) : List Value := [.slice r.a r.n r.c]
theorem cells_ints : Try.prog.cellsOf 38 = 1 := by kernel_rfl
theorem bytes_ints : Try.prog.bytesOf 38 = 24 := by kernel_rfl
def RowOk (w : World) (r : IRow) : Prop := SlR encI 1 w w.heap.size r.a r.n r.xs ∧ r.n ≤ 140737488351232 ∧ ∀ o ∈ r.xs, WfI o
theorem SlC.irow {w : World} {b off : Nat} {L : List IRow} (h : SlC encR 1 w b off L) {k : Nat} {s : IRow} (hl : L[k]? = some s) :
    w.cell? ⟨b, off + k, none⟩ = some (.slice s.a s.n s.c) := by have := h k s hl 0 _ rfl; simpa using this
section
variable {H : Type} {enc' : TypeId × Value → H} {w : World} {base b0 : Nat} {spare : Nat → Bool} {held : Bool} {r : Reach} {v : Value} {d : DataW H} {p : List MemPlace}
theorem trod_irow (n : Nat) (cs : List Value) (x : DataW H × List MemPlace) (h : DataW.trod enc' Try.prog w base spare held n 38 cs = some x) (hw : Light 38 x.1) : ∃ s, cs = encR s ∧ RowOk w s := by
  obtain ⟨A', n', c', L, e, hS, hc, hm, ho, hby⟩ := open_row (enc := encI) (sz := 1) (Ok := WfI) Try.underlying38 cells_int (by omega) trod_i64 h hw
  rw [bytes_int] at hby
  exact ⟨⟨A', n', c', L⟩, e, hS, by dsimp only; omega, ho⟩
theorem open_intss (hv : Value.okWide Try.prog w r b0 53 v) (h : DataW.Trod enc' Try.prog w base spare held 53 v d p) (hw : Light 53 d) : ∃ A n c L, v = .slice A n c ∧ SlR encR 1 w w.heap.size A n L ∧ n ≤ 140737488351232 ∧ (∀ o ∈ L, RowOk w o) := by
  obtain ⟨A, n, c, rfl⟩ := okWide_slice Try.underlying53 hv
  obtain ⟨fuel, hf⟩ := h
  obtain ⟨A', n', c', L, e, hS, hc, hm, ho, hby⟩ := open_row (enc := encR) (sz := 1) (Ok := RowOk w) Try.underlying53 cells_ints (by omega) trod_irow hf hw
  simp only [Value.cells, List.cons.injEq, and_true, Value.slice.injEq] at e
  obtain ⟨rfl, rfl, rfl⟩ := e
  rw [bytes_ints] at hby
  exact ⟨A, n, c, L, rfl, hS, by omega, ho⟩
theorem open_strs (hv : Value.okWide Try.prog w r b0 22 v) (h : DataW.Trod enc' Try.prog w base spare held 22 v d p) (hw : Light 22 d) : ∃ A n c L, v = .slice A n c ∧ SlR encS 1 w w.heap.size A n L ∧ n ≤ 140737488351232 ∧ (∀ o ∈ L, StrOk o) := by
  obtain ⟨A, n, c, rfl⟩ := okWide_slice Try.underlying22 hv
  obtain ⟨fuel, hf⟩ := h
  obtain ⟨A', n', c', L, e, hS, hc, hm, ho, hby⟩ := open_row (enc := encS) (sz := 1) (Ok := StrOk) Try.underlying22 cells_str (by omega) trod_str hf hw
  simp only [Value.cells, List.cons.injEq, and_true, Value.slice.injEq] at e
  obtain ⟨rfl, rfl, rfl⟩ := e
  rw [bytes_str] at hby
  exact ⟨A, n, c, L, rfl, hS, by omega, ho⟩
end
end Go.Proofs.Ytefodifmfjpnlaa
