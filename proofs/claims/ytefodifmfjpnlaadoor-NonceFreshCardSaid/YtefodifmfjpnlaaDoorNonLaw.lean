/- chapter 15: reading the laws' arguments (a source; rows of steps). -/
import Derived.Test.YtefodifmfjpnlaaDoorPlatLaw
import Derived.Test.YtefodifmfjpnlaaDoorNonD
set_option linter.unusedVariables false
namespace Go.Proofs.YtefodifmfjpnlaaDoor
open Go.RowKit Go.ChangeShapes Go.WideShapes Go.ChangeAt Go.Deep
set_option maxRecDepth 100000 in
theorem cells_src : Tryd.prog.cellsOf 28 = 3 := by kernel_rfl
set_option maxRecDepth 100000 in
theorem cells_nop : Tryd.prog.cellsOf 48 = 3 := by kernel_rfl
set_option maxRecDepth 100000 in
theorem cells_nints : Tryd.prog.cellsOf 46 = 1 := by kernel_rfl
set_option maxRecDepth 100000 in
theorem bytes_nop : Tryd.prog.bytesOf 48 = 40 := by kernel_rfl
/-- a step as it came in -/
structure NOp where
  kind : Int
  deeds : Int
  a : Option Addr
  n : Nat
  c : Nat
  xs : List Int
def encO (o : NOp) : List Value := [.int .i64 o.kind, .int .i64 o.deeds, .slice o.a o.n o.c]
def NOpOk (w : World) (o : NOp) : Prop := SlR encI 1 w w.heap.size o.a o.n o.xs ∧ o.n ≤ 140737488351232 ∧ ∀ x ∈ o.xs, WfI x
section
variable {H : Type} {enc' : TypeId × Value → H} {w : World} {base b0 : Nat} {spare : Nat → Bool} {held : Bool} {r : Reach} {v : Value} {d : DataW H} {p : List MemPlace}
set_option maxRecDepth 100000 in
theorem open_src (hv : Value.okWide Tryd.prog w r b0 28 v) (h : DataW.Trod enc' Tryd.prog w base spare held 28 v d p) : ∃ s : Src, v = .agg #[.int .i64 s.pos, .int .i64 s.next, .int .i64 s.limit] := by
  obtain ⟨cs, rfl, _⟩ := okWide_struct Tryd.underlying28 hv
  obtain ⟨fuel, hf⟩ := h
  obtain ⟨xs, m, _, hx, hlen, hyl, hg⟩ := DataW.trod_struct Tryd.underlying28 hf
  rw [cells_src] at hlen
  have hyl2 : xs.length = 3 := hyl
  obtain ⟨cs⟩ := cs
  simp only [Value.cells] at hlen hg
  match cs, hlen with
  | [c0, c1, c2], _ =>
    match xs, hyl2 with
    | [y0, y1, y2], _ =>
      have h0 : DataW.trod enc' Tryd.prog w base spare held m 3 [c0] = some y0 := by simpa [cells_int] using hg 0 _ rfl
      have h1 : DataW.trod enc' Tryd.prog w base spare held m 3 [c1] = some y1 := by simpa [cells_int] using hg 1 _ rfl
      have h2 : DataW.trod enc' Tryd.prog w base spare held m 3 [c2] = some y2 := by simpa [cells_int] using hg 2 _ rfl
      obtain ⟨i0, e0, _, _⟩ := DataW.trod_int Tryd.underlying3 h0
      obtain ⟨i1, e1, _, _⟩ := DataW.trod_int Tryd.underlying3 h1
      obtain ⟨i2, e2, _, _⟩ := DataW.trod_int Tryd.underlying3 h2
      simp only [List.cons.injEq, and_true] at e0 e1 e2
      subst e0 e1 e2
      exact ⟨⟨i0, i1, i2⟩, rfl⟩
set_option maxRecDepth 100000 in
theorem trod_nints (n : Nat) (cs : List Value) (x : DataW H × List MemPlace) (h : DataW.trod enc' Tryd.prog w base spare held n 46 cs = some x) (hw : Light 46 x.1) : ∃ A k c L, cs = [.slice A k c] ∧ SlR encI 1 w w.heap.size A k L ∧ k ≤ 140737488351232 ∧ ∀ o ∈ L, WfI o := by
  obtain ⟨A', n', c', L, e, hS, hc, hm, ho, hby⟩ := open_row (enc := encI) (sz := 1) (Ok := WfI) Tryd.underlying46 cells_int (by omega) trod_i64 h hw
  rw [bytes_int] at hby
  exact ⟨A', n', c', L, e, hS, by omega, ho⟩
set_option maxRecDepth 100000 in
theorem trod_nop (n : Nat) (cs : List Value) (x : DataW H × List MemPlace) (h : DataW.trod enc' Tryd.prog w base spare held n 48 cs = some x) (hw : Light 48 x.1) : ∃ l, cs = encO l ∧ NOpOk w l := by
  obtain ⟨xs, m, _, hx, hlen, hyl, hg⟩ := DataW.trod_struct Tryd.underlying48 h
  subst hx
  rw [cells_nop] at hlen
  have hyl2 : xs.length = 3 := hyl
  match cs, hlen with
  | [c0, c1, c2], _ =>
    match xs, hyl2 with
    | [y0, y1, y2], _ =>
      have h0 : DataW.trod enc' Tryd.prog w base spare held m 3 [c0] = some y0 := by simpa [cells_int] using hg 0 _ rfl
      have h1 : DataW.trod enc' Tryd.prog w base spare held m 3 [c1] = some y1 := by simpa [cells_int] using hg 1 _ rfl
      have h2 : DataW.trod enc' Tryd.prog w base spare held m 46 [c2] = some y2 := by simpa [cells_nints, cells_int] using hg 2 _ rfl
      obtain ⟨i0, e0, _, _⟩ := DataW.trod_int Tryd.underlying3 h0
      obtain ⟨i1, e1, _, _⟩ := DataW.trod_int Tryd.underlying3 h1
      obtain ⟨A, k, c, L, e2, g1, g2, g3⟩ := trod_nints _ _ _ h2 (light_struct Tryd.underlying48 hw (j := 2) rfl rfl)
      simp only [List.cons.injEq, and_true] at e0 e1 e2
      subst e0 e1 e2
      exact ⟨⟨i0, i1, A, k, c, L⟩, rfl, g1, g2, g3⟩
set_option maxRecDepth 100000 in
theorem open_nops (hv : Value.okWide Tryd.prog w r b0 45 v) (h : DataW.Trod enc' Tryd.prog w base spare held 45 v d p) (hw : Light 45 d) : ∃ A n c L, v = .slice A n c ∧ SlR encO 3 w w.heap.size A n L ∧ n ≤ 140737488351232 ∧ (∀ o ∈ L, NOpOk w o) := by
  obtain ⟨A, n, c, rfl⟩ := okWide_slice Tryd.underlying45 hv
  obtain ⟨fuel, hf⟩ := h
  obtain ⟨A', n', c', L, e, hS, hc, hm, ho, hby⟩ := open_row (enc := encO) (sz := 3) (Ok := NOpOk w) Tryd.underlying45 cells_nop (by omega) trod_nop hf hw
  simp only [Value.cells, List.cons.injEq, and_true, Value.slice.injEq] at e
  obtain ⟨rfl, rfl, rfl⟩ := e
  rw [bytes_nop] at hby
  exact ⟨A, n, c, L, rfl, hS, by omega, ho⟩
end
end Go.Proofs.YtefodifmfjpnlaaDoor
