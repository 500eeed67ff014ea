/- chapter 13: reading the laws' arguments. -/
import Derived.Test.YtefodifmfjpnlaaLaw
import Derived.Test.YtefodifmfjpnlaaPlatO
set_option linter.unusedVariables false
namespace Go.Proofs.Ytefodifmfjpnlaa
open Go.RowKit Go.ChangeShapes Go.WideShapes Go.ChangeAt Go.Deep
theorem cells_str : Try.prog.cellsOf 9 = 1 := by kernel_rfl
theorem cells_int : Try.prog.cellsOf 3 = 1 := by kernel_rfl
theorem cells_put : Try.prog.cellsOf 42 = 2 := by kernel_rfl
theorem cells_plat : Try.prog.cellsOf 25 = 2 := by kernel_rfl
theorem cells_strs : Try.prog.cellsOf 22 = 1 := by kernel_rfl
theorem cells_puts : Try.prog.cellsOf 23 = 1 := by kernel_rfl
def StrOk (s : ByteArray) : Prop := s.size ≤ 140737488351232
def WfI (x : Int) : Prop := -9223372036854775808 ≤ x ∧ x ≤ 9223372036854775807
theorem wfI {x : Int} (h : (Lit.int .i64 x).wf = true) : WfI x := by
  simp [Lit.wf, IntKind.min, IntKind.max, IntKind.signed, IntKind.bits] at h
  exact h
def PutOk (p : PPut) : Prop := WfI p.pos ∧ StrOk p.text
section
variable {H : Type} {enc' : TypeId × Value → H} {w : World} {base : Nat} {spare : Nat → Bool} {held : Bool}
theorem trod_str (n : Nat) (cs : List Value) (x : DataW H × List MemPlace) (h : DataW.trod enc' Try.prog w base spare held n 9 cs = some x) (hw : Light 9 x.1) : ∃ s, cs = encS s ∧ StrOk s := by
  obtain ⟨s, rfl, rfl, _⟩ := DataW.trod_string Try.underlying9 h
  exact ⟨s, rfl, by have := light_string hw; simpa [StrOk] using this⟩
theorem trod_i64 (n : Nat) (cs : List Value) (x : DataW H × List MemPlace) (h : DataW.trod enc' Try.prog w base spare held n 3 cs = some x) (hw : Light 3 x.1) : ∃ i, cs = encI i ∧ WfI i := by
  obtain ⟨i, rfl, _, hw⟩ := DataW.trod_int Try.underlying3 h
  exact ⟨i, rfl, wfI hw⟩
theorem trod_put (n : Nat) (cs : List Value) (x : DataW H × List MemPlace) (h : DataW.trod enc' Try.prog w base spare held n 42 cs = some x) (hw : Light 42 x.1) : ∃ l, cs = encP l ∧ PutOk l := by
  obtain ⟨xs, m, _, hx, hlen, hyl, hg⟩ := DataW.trod_struct Try.underlying42 h
  subst hx
  rw [cells_put] at hlen
  have hyl2 : xs.length = 2 := hyl
  match cs, hlen with
  | [a, b], _ =>
    match xs, hyl2 with
    | [y0, y1], _ =>
      have h0 : DataW.trod enc' Try.prog w base spare held m 3 [a] = some y0 := by simpa [cells_int] using hg 0 _ rfl
      have h1 : DataW.trod enc' Try.prog w base spare held m 9 [b] = some y1 := by simpa [cells_str] using hg 1 _ rfl
      obtain ⟨i0, e0, _, w0⟩ := DataW.trod_int Try.underlying3 h0
      obtain ⟨s1, e1, k1⟩ := trod_str _ _ _ h1 (light_struct Try.underlying42 hw (j := 1) rfl rfl)
      simp only [encS, List.cons.injEq, and_true] at e0 e1
      subst e0 e1
      exact ⟨⟨i0, s1⟩, rfl, wfI w0, k1⟩
end
theorem bytes_put : Try.prog.bytesOf 42 = 24 := by kernel_rfl
theorem bytes_str : Try.prog.bytesOf 9 = 16 := by kernel_rfl
theorem bytes_int : Try.prog.bytesOf 3 = 8 := by kernel_rfl
def PlatIs (w : World) (v : Value) (p : Plat) : Prop := ∃ A c A' c', v = .agg #[.slice A p.sectors.length c, .slice A' p.cache.length c'] ∧ PlatPre w A p.sectors.length A' p.cache.length p ∧
  p.sectors.length ≤ 140737488351232 ∧ p.cache.length ≤ 140737488351232 ∧ (∀ s ∈ p.sectors, StrOk s) ∧ (∀ l ∈ p.cache, PutOk l)
section
variable {H : Type} {enc' : TypeId × Value → H} {w : World} {base b0 : Nat} {spare : Nat → Bool} {held : Bool} {r : Reach} {v : Value} {d : DataW H} {p : List MemPlace}
theorem open_plat (hv : Value.okWide Try.prog w r b0 25 v) (h : DataW.Trod enc' Try.prog w base spare held 25 v d p) (hw : Light 25 d) : ∃ N, PlatIs w v N := by
  obtain ⟨cs, rfl, _⟩ := okWide_struct Try.underlying25 hv
  obtain ⟨fuel, hf⟩ := h
  obtain ⟨xs, m, _, hx, hlen, hyl, hg⟩ := DataW.trod_struct Try.underlying25 hf
  simp only [Prod.mk.injEq] at hx
  obtain ⟨rfl, _⟩ := hx
  rw [cells_plat] at hlen
  have hyl2 : xs.length = 2 := hyl
  obtain ⟨cs⟩ := cs
  simp only [Value.cells] at hlen hg
  match cs, hlen with
  | [c0, c1], _ =>
    match xs, hyl2 with
    | [y0, y1], _ =>
      have h0 : DataW.trod enc' Try.prog w base spare held m 22 [c0] = some y0 := by simpa [cells_strs] using hg 0 _ rfl
      have h1 : DataW.trod enc' Try.prog w base spare held m 23 [c1] = some y1 := by simpa [cells_puts] using hg 1 _ rfl
      obtain ⟨A, n, c, L, e0, hS, hc, hm, hok, hby⟩ := open_row (enc := encS) (sz := 1) (Ok := StrOk) Try.underlying22 cells_str (by omega) trod_str h0 (light_struct Try.underlying25 hw (j := 0) rfl rfl)
      obtain ⟨A', n', c', L', e1, hS', hc', hm', hok', hby'⟩ := open_row (enc := encP) (sz := 2) (Ok := PutOk) Try.underlying23 cells_put (by omega) trod_put h1 (light_struct Try.underlying25 hw (j := 1) rfl rfl)
      simp only [List.cons.injEq, and_true] at e0 e1
      subst e0 e1
      obtain rfl := hS.1
      obtain rfl := hS'.1
      rw [bytes_str] at hby
      rw [bytes_put] at hby'
      exact ⟨⟨L, L'⟩, A, c, A', c', rfl, PlatAt.pre ⟨hS, hS'⟩, by simp only; omega, by simp only; omega, hok, hok'⟩
theorem open_str (hv : Value.okWide Try.prog w r b0 9 v) (h : DataW.Trod enc' Try.prog w base spare held 9 v d p) (hw : Light 9 d) : ∃ s, v = .string s ∧ StrOk s := by
  obtain ⟨s, rfl, rfl, _⟩ := Go.ChangeMaps.open_string Try.underlying9 hv h
  exact ⟨s, rfl, by have := light_string hw; simpa [StrOk] using this⟩
theorem open_i64 (hv : Value.okWide Try.prog w r b0 3 v) (h : DataW.Trod enc' Try.prog w base spare held 3 v d p) : ∃ i, v = .int .i64 i ∧ WfI i := by
  obtain ⟨x, rfl, rfl, rfl, hx⟩ := open_int Try.underlying3 hv h
  exact ⟨x, rfl, wfI hx⟩
theorem open_ints (hv : Value.okWide Try.prog w r b0 38 v) (h : DataW.Trod enc' Try.prog w base spare held 38 v d p) (hw : Light 38 d) : ∃ A n c L, v = .slice A n c ∧ SlR encI 1 w w.heap.size A n L ∧ n ≤ 140737488351232 ∧ (∀ o ∈ L, WfI o) := by
  obtain ⟨A, n, c, rfl⟩ := okWide_slice Try.underlying38 hv
  obtain ⟨fuel, hf⟩ := h
  obtain ⟨A', n', c', L, e, hS, hc, hm, ho, hby⟩ := open_row (enc := encI) (sz := 1) (Ok := WfI) Try.underlying38 cells_int (by omega) trod_i64 hf hw
  simp only [Value.cells, List.cons.injEq, and_true, Value.slice.injEq] at e
  obtain ⟨rfl, rfl, rfl⟩ := e
  rw [bytes_int] at hby
  exact ⟨A, n, c, L, rfl, hS, by omega, ho⟩
end
end Go.Proofs.Ytefodifmfjpnlaa
