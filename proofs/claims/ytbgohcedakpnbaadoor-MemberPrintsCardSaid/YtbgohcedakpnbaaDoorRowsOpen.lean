/- reading rows of texts, of numbers and of Bools. -/
import Derived.Test.YtbgohcedakpnbaaDoorDoorOpen
import Derived.Test.YtbgohcedakpnbaaDoorInts
import Derived.Test.YtbgohcedakpnbaaDoorMemA
set_option linter.unusedVariables false
namespace Go.Proofs.YtbgohcedakpnbaaDoor
open Go.RowKit Go.ChangeShapes Go.WideShapes Go.ChangeAt Go.Deep
theorem cells_str : Tryd.prog.cellsOf 9 = 1 := by kernel_rfl
theorem cells_int : Tryd.prog.cellsOf 3 = 1 := by kernel_rfl
theorem bytes_str : Tryd.prog.bytesOf 9 = 16 := by kernel_rfl
theorem bytes_int : Tryd.prog.bytesOf 3 = 8 := by kernel_rfl
section
variable {H : Type} {enc' : TypeId × Value → H} {w : World} {base b0 : Nat} {spare : Nat → Bool} {held : Bool} {r : Reach} {v : Value} {d : DataW H} {p : List MemPlace}
theorem trod_str (n : Nat) (cs : List Value) (x : DataW H × List MemPlace) (h : DataW.trod enc' Tryd.prog w base spare held n 9 cs = some x) (hw : Light 9 x.1) : ∃ s, cs = encS s ∧ StrOk s := by
  obtain ⟨s, rfl, rfl, _⟩ := DataW.trod_string Tryd.underlying9 h
  exact ⟨s, rfl, by have := light_string hw; simpa [StrOk] using this⟩
theorem trod_i64 (n : Nat) (cs : List Value) (x : DataW H × List MemPlace) (h : DataW.trod enc' Tryd.prog w base spare held n 3 cs = some x) (hw : Light 3 x.1) : ∃ i, cs = encI i ∧ WfI i := by
  obtain ⟨i, rfl, _, hw⟩ := DataW.trod_int Tryd.underlying3 h
  exact ⟨i, rfl, wfI hw⟩
set_option maxRecDepth 100000 in
theorem open_strrow (hv : Value.okWide Tryd.prog w r b0 22 v) (h : DataW.Trod enc' Tryd.prog w base spare held 22 v d p) (hw : Light 22 d) : ∃ A n c L, v = .slice A n c ∧ SlR encS 1 w w.heap.size A n L ∧ n ≤ 140737488351232 ∧ (∀ s ∈ L, StrOk s) := by
  obtain ⟨A, n, c, rfl⟩ := okWide_slice Tryd.underlying22 hv
  obtain ⟨fuel, hf⟩ := h
  obtain ⟨A', n', c', L, e, hS, hc, hm, ho, hby⟩ := open_row (enc := encS) (sz := 1) (Ok := StrOk) Tryd.underlying22 cells_str (by omega) trod_str hf hw
  simp only [Value.cells, List.cons.injEq, and_true, Value.slice.injEq] at e
  obtain ⟨rfl, rfl, rfl⟩ := e
  rw [bytes_str] at hby
  exact ⟨A, n, c, L, rfl, hS, by omega, ho⟩
set_option maxRecDepth 100000 in
theorem open_introw (hv : Value.okWide Tryd.prog w r b0 39 v) (h : DataW.Trod enc' Tryd.prog w base spare held 39 v d p) (hw : Light 39 d) : ∃ A n c L, v = .slice A n c ∧ SlR encI 1 w w.heap.size A n L ∧ n ≤ 140737488351232 ∧ (∀ o ∈ L, WfI o) := by
  obtain ⟨A, n, c, rfl⟩ := okWide_slice Tryd.underlying39 hv
  obtain ⟨fuel, hf⟩ := h
  obtain ⟨A', n', c', L, e, hS, hc, hm, ho, hby⟩ := open_row (enc := encI) (sz := 1) (Ok := WfI) Tryd.underlying39 cells_int (by omega) trod_i64 hf hw
  simp only [Value.cells, List.cons.injEq, and_true, Value.slice.injEq] at e
  obtain ⟨rfl, rfl, rfl⟩ := e
  rw [bytes_int] at hby
  exact ⟨A, n, c, L, rfl, hS, by omega, ho⟩
end
end Go.Proofs.YtbgohcedakpnbaaDoor
/- reading a record. -/
namespace Go.Proofs.YtbgohcedakpnbaaDoor
open Go.RowKit Go.ChangeShapes Go.WideShapes Go.ChangeAt Go.Deep
theorem cells_rec : Tryd.prog.cellsOf 24 = 4 := by kernel_rfl
theorem cells_strs : Tryd.prog.cellsOf 22 = 1 := by kernel_rfl
section
variable {H : Type} {enc' : TypeId × Value → H} {w : World} {base b0 : Nat} {spare : Nat → Bool} {held : Bool} {r : Reach} {v : Value} {d : DataW H} {p : List MemPlace}
set_option maxRecDepth 100000 in
theorem open_rec (hv : Value.okWide Tryd.prog w r b0 24 v) (h : DataW.Trod enc' Tryd.prog w base spare held 24 v d p) (hw : Light 24 d) :
    ∃ (q : Rec) (A A' : Option Addr) (n c m d : Nat), v = recV q A n c A' m d ∧ SlR encS 1 w w.heap.size A n q.names ∧ SlR encS 1 w w.heap.size A' m q.pledges ∧ (∀ s ∈ q.names, s.size ≤ 140737488351232) ∧ (∀ s ∈ q.pledges, s.size ≤ 140737488351232) := by
  obtain ⟨cs, rfl, _⟩ := okWide_struct Tryd.underlying24 hv
  obtain ⟨fuel, hf⟩ := h
  obtain ⟨xs, m, _, hx, hlen, hyl, hg⟩ := DataW.trod_struct Tryd.underlying24 hf
  simp only [Prod.mk.injEq] at hx
  obtain ⟨rfl, _⟩ := hx
  rw [cells_rec] at hlen
  have hyl2 : xs.length = 4 := hyl
  obtain ⟨cs⟩ := cs
  simp only [Value.cells] at hlen hg
  match cs, hlen with
  | [c0, c1, c2, c3], _ =>
    match xs, hyl2 with
    | [y0, y1, y2, y3], _ =>
      have h0 : DataW.trod enc' Tryd.prog w base spare held m 3 [c0] = some y0 := by simpa [cells_int] using hg 0 _ rfl
      have h1 : DataW.trod enc' Tryd.prog w base spare held m 3 [c1] = some y1 := by simpa [cells_int] using hg 1 _ rfl
      have h2 : DataW.trod enc' Tryd.prog w base spare held m 22 [c2] = some y2 := by simpa [cells_strs, cells_int] using hg 2 _ rfl
      have h3 : DataW.trod enc' Tryd.prog w base spare held m 22 [c3] = some y3 := by simpa [cells_strs, cells_int] using hg 3 _ rfl
      obtain ⟨i0, e0, _, _⟩ := DataW.trod_int Tryd.underlying3 h0
      obtain ⟨i1, e1, _, _⟩ := DataW.trod_int Tryd.underlying3 h1
      obtain ⟨A, n, c, L, e2, hS, hc, hm, hok, hby⟩ := open_row (enc := encS) (sz := 1) (Ok := StrOk) Tryd.underlying22 cells_str (by omega) trod_str h2 (light_struct Tryd.underlying24 hw (j := 2) rfl rfl)
      obtain ⟨A', n', c', L', e3, hS', hc', hm', hok', hby'⟩ := open_row (enc := encS) (sz := 1) (Ok := StrOk) Tryd.underlying22 cells_str (by omega) trod_str h3 (light_struct Tryd.underlying24 hw (j := 3) rfl rfl)
      simp only [List.cons.injEq, and_true] at e0 e1 e2 e3
      subst e0 e1 e2 e3
      exact ⟨⟨i0, i1, L, L'⟩, A, A', n, c, n', c', rfl, hS, hS', hok, hok'⟩
end
end Go.Proofs.YtbgohcedakpnbaaDoor
