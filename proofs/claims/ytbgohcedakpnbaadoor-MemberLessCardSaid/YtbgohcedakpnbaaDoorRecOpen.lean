/- reading a record. -/
import Derived.Test.YtbgohcedakpnbaaDoorRowsOpen
import Derived.Test.YtbgohcedakpnbaaDoorMemA
set_option linter.unusedVariables false
namespace Go.Proofs.YtbgohcedakpnbaaDoor
open Go.RowKit Go.ChangeShapes Go.WideShapes Go.ChangeAt Go.Deep
theorem cells_rec : Tryd.prog.cellsOf 24 = 4 := by kernel_rfl
theorem cells_strs : Tryd.prog.cellsOf 22 = 1 := by kernel_rfl
section
variable {H : Type} {enc' : TypeId × Value → H} {w : World} {base b0 : Nat} {spare : Nat → Bool} {held : Bool} {r : Reach} {v : Value} {d : DataW H} {p : List MemPlace}
set_option maxRecDepth 100000 in
theorem open_rec (hv : Value.okWide Tryd.prog w r b0 24 v) (h : DataW.Trod enc' Tryd.prog w base spare held 24 v d p) (hw : Light 24 d) :
    ∃ (q : Rec) (A A' : Option Addr) (n c m d : Nat), v = recV q A n c A' m d ∧ SlR encS 1 w w.heap.size A n q.names ∧ SlR encS 1 w w.heap.size A' m q.pledges ∧ (∀ s ∈ q.names, s.size ≤ 140737488351232) ∧ (∀ s ∈ q.pledges, s.size ≤ 140737488351232) := by
  obtain ⟨cs, rfl, _⟩ := okWide_struct Tryd.underlying24 hv
  obtain ⟨fuel, hf⟩ := h
  obtain ⟨xs, m, _, hx, hlen, hyl, hg⟩ := DataW.trod_struct Tryd.underlying24 hf
  simp only [Prod.mk.injEq] at hx
  obtain ⟨rfl, _⟩ := hx
  rw [cells_rec] at hlen
  have hyl2 : xs.length = 4 := hyl
  obtain ⟨cs⟩ := cs
  simp only [Value.cells] at hlen hg
  match cs, hlen with
  | [c0, c1, c2, c3], _ =>
    match xs, hyl2 with
    | [y0, y1, y2, y3], _ =>
      have h0 : DataW.trod enc' Tryd.prog w base spare held m 3 [c0] = some y0 := by simpa [cells_int] using hg 0 _ rfl
      have h1 : DataW.trod enc' Tryd.prog w base spare held m 3 [c1] = some y1 := by simpa [cells_int] using hg 1 _ rfl
      have h2 : DataW.trod enc' Tryd.prog w base spare held m 22 [c2] = some y2 := by simpa [cells_strs, cells_int] using hg 2 _ rfl
      have h3 : DataW.trod enc' Tryd.prog w base spare held m 22 [c3] = some y3 := by simpa [cells_strs, cells_int] using hg 3 _ rfl
      obtain ⟨i0, e0, _, _⟩ := DataW.trod_int Tryd.underlying3 h0
      obtain ⟨i1, e1, _, _⟩ := DataW.trod_int Tryd.underlying3 h1
      obtain ⟨A, n, c, L, e2, hS, hc, hm, hok, hby⟩ := open_row (enc := encS) (sz := 1) (Ok := StrOk) Tryd.underlying22 cells_str (by omega) trod_str h2 (light_struct Tryd.underlying24 hw (j := 2) rfl rfl)
      obtain ⟨A', n', c', L', e3, hS', hc', hm', hok', hby'⟩ := open_row (enc := encS) (sz := 1) (Ok := StrOk) Tryd.underlying22 cells_str (by omega) trod_str h3 (light_struct Tryd.underlying24 hw (j := 3) rfl rfl)
      simp only [List.cons.injEq, and_true] at e0 e1 e2 e3
      subst e0 e1 e2 e3
      exact ⟨⟨i0, i1, L, L'⟩, A, A', n, c, n', c', rfl, hS, hS', hok, hok'⟩
end
end Go.Proofs.YtbgohcedakpnbaaDoor
