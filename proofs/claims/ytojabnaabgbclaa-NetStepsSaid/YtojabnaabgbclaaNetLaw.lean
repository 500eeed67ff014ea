/- chapter 19: reading the laws' arguments. -/
import Derived.Test.YtojabnaabgbclaaLaw
import Derived.Test.YtojabnaabgbclaaNetSentW
set_option linter.unusedVariables false
namespace Go.Proofs.Ytojabnaabgbclaa
open Go.RowKit Go.ChangeShapes Go.WideShapes Go.ChangeAt Go.Deep
theorem cells_str : Try.prog.cellsOf 9 = 1 := by kernel_rfl
theorem cells_int : Try.prog.cellsOf 3 = 1 := by kernel_rfl
theorem cells_letter : Try.prog.cellsOf 27 = 3 := by kernel_rfl
theorem cells_op : Try.prog.cellsOf 29 = 5 := by kernel_rfl
theorem cells_net : Try.prog.cellsOf 25 = 5 := by kernel_rfl
theorem cells_letters : Try.prog.cellsOf 23 = 1 := by kernel_rfl
def StrOk (s : ByteArray) : Prop := s.size ≤ 140737488351232
def LetterOk (l : Letter) : Prop := StrOk l.fr ∧ StrOk l.to ∧ StrOk l.text
def OpIs (o : Op) : Prop := LetterOk o.letter
section
variable {H : Type} {enc' : TypeId × Value → H} {w : World} {base : Nat} {spare : Nat → Bool} {held : Bool}
theorem trod_str (n : Nat) (cs : List Value) (x : DataW H × List MemPlace) (h : DataW.trod enc' Try.prog w base spare held n 9 cs = some x) (hw : Light 9 x.1) : ∃ s, cs = [.string s] ∧ StrOk s := by
  obtain ⟨s, rfl, rfl, _⟩ := DataW.trod_string Try.underlying9 h
  exact ⟨s, rfl, by have := light_string hw; simpa [StrOk] using this⟩
theorem trod_letter (n : Nat) (cs : List Value) (x : DataW H × List MemPlace) (h : DataW.trod enc' Try.prog w base spare held n 27 cs = some x) (hw : Light 27 x.1) : ∃ l, cs = encL l ∧ LetterOk l := by
  obtain ⟨xs, m, _, hx, hlen, hyl, hg⟩ := DataW.trod_struct Try.underlying27 h
  subst hx
  rw [cells_letter] at hlen
  have hyl3 : xs.length = 3 := hyl
  match cs, hlen with
  | [a, b, c], _ =>
    match xs, hyl3 with
    | [y0, y1, y2], _ =>
      have h0 : DataW.trod enc' Try.prog w base spare held m 9 [a] = some y0 := by simpa [cells_str] using hg 0 _ rfl
      have h1 : DataW.trod enc' Try.prog w base spare held m 9 [b] = some y1 := by simpa [cells_str] using hg 1 _ rfl
      have h2 : DataW.trod enc' Try.prog w base spare held m 9 [c] = some y2 := by simpa [cells_str] using hg 2 _ rfl
      obtain ⟨s0, e0, k0⟩ := trod_str _ _ _ h0 (light_struct Try.underlying27 hw (j := 0) rfl rfl)
      obtain ⟨s1, e1, k1⟩ := trod_str _ _ _ h1 (light_struct Try.underlying27 hw (j := 1) rfl rfl)
      obtain ⟨s2, e2, k2⟩ := trod_str _ _ _ h2 (light_struct Try.underlying27 hw (j := 2) rfl rfl)
      simp only [List.cons.injEq, and_true] at e0 e1 e2
      subst e0 e1 e2
      exact ⟨⟨s0, s1, s2⟩, rfl, k0, k1, k2⟩
theorem trod_op (n : Nat) (cs : List Value) (x : DataW H × List MemPlace) (h : DataW.trod enc' Try.prog w base spare held n 29 cs = some x) (hw : Light 29 x.1) : ∃ o, cs = encOp o ∧ OpIs o := by
  obtain ⟨xs, m, _, hx, hlen, hyl, hg⟩ := DataW.trod_struct Try.underlying29 h
  subst hx
  rw [cells_op] at hlen
  have hyl3 : xs.length = 3 := hyl
  match cs, hlen with
  | [a, b, c, d, e], _ =>
    match xs, hyl3 with
    | [y0, y1, y2], _ =>
      have h0 : DataW.trod enc' Try.prog w base spare held m 3 [a] = some y0 := by simpa [cells_int] using hg 0 _ rfl
      have h1 : DataW.trod enc' Try.prog w base spare held m 27 [b, c, d] = some y1 := by simpa [cells_letter] using hg 1 _ rfl
      have h2 : DataW.trod enc' Try.prog w base spare held m 3 [e] = some y2 := by simpa [cells_int] using hg 2 _ rfl
      obtain ⟨k, e0, _, _⟩ := DataW.trod_int Try.underlying3 h0
      obtain ⟨l, e1, k1⟩ := trod_letter _ _ _ h1 (light_struct Try.underlying29 hw (j := 1) rfl rfl)
      obtain ⟨i, e2, _, _⟩ := DataW.trod_int Try.underlying3 h2
      simp only [encL, List.cons.injEq, and_true] at e0 e1 e2
      obtain ⟨rfl, rfl, rfl⟩ := e1
      subst e0 e2
      exact ⟨⟨k, l, i⟩, rfl, k1⟩
end
def WfI (x : Int) : Prop := -9223372036854775808 ≤ x ∧ x ≤ 9223372036854775807
theorem wfI {x : Int} (h : (Lit.int .i64 x).wf = true) : WfI x := by
  simp [Lit.wf, IntKind.min, IntKind.max, IntKind.signed, IntKind.bits] at h
  exact h
def NetIs (w : World) (v : Value) (N : Net) : Prop := ∃ A c, v = .agg #[.slice A N.way.length c, .int .i64 N.sent, .int .i64 N.delivered, .int .i64 N.lost, .int .i64 N.doubled] ∧ SlR encL 3 w w.heap.size A N.way.length N.way ∧
  N.way.length ≤ 140737488351232 ∧ (∀ l ∈ N.way, LetterOk l) ∧ WfI N.sent ∧ WfI N.delivered ∧ WfI N.lost ∧ WfI N.doubled
theorem bytes_letter : Try.prog.bytesOf 27 = 48 := by kernel_rfl
theorem bytes_op : Try.prog.bytesOf 29 = 64 := by kernel_rfl
section
variable {H : Type} {enc' : TypeId × Value → H} {w : World} {base b0 : Nat} {spare : Nat → Bool} {held : Bool} {r : Reach} {v : Value} {d : DataW H} {p : List MemPlace}
theorem open_net (hv : Value.okWide Try.prog w r b0 25 v) (h : DataW.Trod enc' Try.prog w base spare held 25 v d p) (hw : Light 25 d) : ∃ N, NetIs w v N := by
  obtain ⟨cs, rfl, _⟩ := okWide_struct Try.underlying25 hv
  obtain ⟨fuel, hf⟩ := h
  obtain ⟨xs, m, _, hx, hlen, hyl, hg⟩ := DataW.trod_struct Try.underlying25 hf
  simp only [Prod.mk.injEq] at hx
  obtain ⟨rfl, _⟩ := hx
  rw [cells_net] at hlen
  have hyl5 : xs.length = 5 := hyl
  obtain ⟨cs⟩ := cs
  simp only [Value.cells] at hlen hg
  match cs, hlen with
  | [c0, c1, c2, c3, c4], _ =>
    match xs, hyl5 with
    | [y0, y1, y2, y3, y4], _ =>
      have h0 : DataW.trod enc' Try.prog w base spare held m 23 [c0] = some y0 := by simpa [cells_letters] using hg 0 _ rfl
      have h1 : DataW.trod enc' Try.prog w base spare held m 3 [c1] = some y1 := by simpa [cells_int] using hg 1 _ rfl
      have h2 : DataW.trod enc' Try.prog w base spare held m 3 [c2] = some y2 := by simpa [cells_int] using hg 2 _ rfl
      have h3 : DataW.trod enc' Try.prog w base spare held m 3 [c3] = some y3 := by simpa [cells_int] using hg 3 _ rfl
      have h4 : DataW.trod enc' Try.prog w base spare held m 3 [c4] = some y4 := by simpa [cells_int] using hg 4 _ rfl
      obtain ⟨A, n, c, L, e0, hS, hc, hm, hok, hby⟩ := open_row (enc := encL) (sz := 3) (Ok := LetterOk) Try.underlying23 cells_letter (by omega) trod_letter h0 (light_struct Try.underlying25 hw (j := 0) rfl rfl)
      obtain ⟨i1, e1, _, w1⟩ := DataW.trod_int Try.underlying3 h1
      obtain ⟨i2, e2, _, w2⟩ := DataW.trod_int Try.underlying3 h2
      obtain ⟨i3, e3, _, w3⟩ := DataW.trod_int Try.underlying3 h3
      obtain ⟨i4, e4, _, w4⟩ := DataW.trod_int Try.underlying3 h4
      simp only [List.cons.injEq, and_true] at e0 e1 e2 e3 e4
      subst e0 e1 e2 e3 e4
      obtain rfl := hS.1
      rw [bytes_letter] at hby
      exact ⟨⟨L, i1, i2, i3, i4⟩, A, c, rfl, hS, by simp only; omega, hok, wfI w1, wfI w2, wfI w3, wfI w4⟩
theorem open_letter (hv : Value.okWide Try.prog w r b0 27 v) (h : DataW.Trod enc' Try.prog w base spare held 27 v d p) (hw : Light 27 d) : ∃ l : Letter, v = .agg #[.string l.fr, .string l.to, .string l.text] ∧ LetterOk l := by
  obtain ⟨cs, rfl, _⟩ := okWide_struct Try.underlying27 hv
  obtain ⟨fuel, hf⟩ := h
  obtain ⟨l, e, ho⟩ := trod_letter _ _ _ hf hw
  obtain ⟨cs⟩ := cs
  simp only [Value.cells, encL] at e
  subst e
  exact ⟨l, rfl, ho⟩
theorem open_str (hv : Value.okWide Try.prog w r b0 9 v) (h : DataW.Trod enc' Try.prog w base spare held 9 v d p) (hw : Light 9 d) : ∃ s, v = .string s ∧ StrOk s := by
  obtain ⟨s, rfl, rfl, _⟩ := Go.ChangeMaps.open_string Try.underlying9 hv h
  exact ⟨s, rfl, by have := light_string hw; simpa [StrOk] using this⟩
theorem open_i64 (hv : Value.okWide Try.prog w r b0 3 v) (h : DataW.Trod enc' Try.prog w base spare held 3 v d p) : ∃ i, v = .int .i64 i ∧ WfI i := by
  obtain ⟨x, rfl, rfl, rfl, hx⟩ := open_int Try.underlying3 hv h
  exact ⟨x, rfl, wfI hx⟩
theorem open_ops (hv : Value.okWide Try.prog w r b0 22 v) (h : DataW.Trod enc' Try.prog w base spare held 22 v d p) (hw : Light 22 d) : ∃ A n c L, v = .slice A n c ∧ SlR encOp 5 w w.heap.size A n L ∧ n ≤ 140737488351232 ∧ (∀ o ∈ L, OpIs o) := by
  obtain ⟨A, n, c, rfl⟩ := okWide_slice Try.underlying22 hv
  obtain ⟨fuel, hf⟩ := h
  obtain ⟨A', n', c', L, e, hS, hc, hm, ho, hby⟩ := open_row (enc := encOp) (sz := 5) (Ok := OpIs) Try.underlying22 cells_op (by omega) trod_op hf hw
  simp only [Value.cells, List.cons.injEq, and_true, Value.slice.injEq] at e
  obtain ⟨rfl, rfl, rfl⟩ := e
  rw [bytes_op] at hby
  exact ⟨A, n, c, L, rfl, hS, by omega, ho⟩
theorem open_letters (hv : Value.okWide Try.prog w r b0 23 v) (h : DataW.Trod enc' Try.prog w base spare held 23 v d p) (hw : Light 23 d) : ∃ A n c L, v = .slice A n c ∧ SlR encL 3 w w.heap.size A n L ∧ n ≤ 140737488351232 ∧ (∀ o ∈ L, LetterOk o) := by
  obtain ⟨A, n, c, rfl⟩ := okWide_slice Try.underlying23 hv
  obtain ⟨fuel, hf⟩ := h
  obtain ⟨A', n', c', L, e, hS, hc, hm, ho, hby⟩ := open_row (enc := encL) (sz := 3) (Ok := LetterOk) Try.underlying23 cells_letter (by omega) trod_letter hf hw
  simp only [Value.cells, List.cons.injEq, and_true, Value.slice.injEq] at e
  obtain ⟨rfl, rfl, rfl⟩ := e
  rw [bytes_letter] at hby
  exact ⟨A, n, c, L, rfl, hS, by omega, ho⟩
end
end Go.Proofs.Ytojabnaabgbclaa
