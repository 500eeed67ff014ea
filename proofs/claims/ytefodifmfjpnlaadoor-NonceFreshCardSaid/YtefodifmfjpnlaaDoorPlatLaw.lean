/- chapter 13: reading the laws' arguments. -/
import Derived.Test.YtefodifmfjpnlaaDoorLaw
import Derived.Test.YtefodifmfjpnlaaDoorPlatM
set_option linter.unusedVariables false
namespace Go.Proofs.YtefodifmfjpnlaaDoor
open Go.RowKit Go.ChangeShapes Go.WideShapes Go.ChangeAt Go.Deep
set_option maxRecDepth 100000 in
theorem cells_str : Tryd.prog.cellsOf 9 = 1 := by kernel_rfl
set_option maxRecDepth 100000 in
theorem cells_int : Tryd.prog.cellsOf 3 = 1 := by kernel_rfl
set_option maxRecDepth 100000 in
theorem cells_put : Tryd.prog.cellsOf 52 = 2 := by kernel_rfl
set_option maxRecDepth 100000 in
theorem cells_plat : Tryd.prog.cellsOf 25 = 2 := by kernel_rfl
set_option maxRecDepth 100000 in
theorem cells_strs : Tryd.prog.cellsOf 22 = 1 := by kernel_rfl
set_option maxRecDepth 100000 in
theorem cells_puts : Tryd.prog.cellsOf 23 = 1 := by kernel_rfl
def StrOk (s : ByteArray) : Prop := s.size ≤ 140737488351232
def WfI (x : Int) : Prop := -9223372036854775808 ≤ x ∧ x ≤ 9223372036854775807
set_option maxRecDepth 100000 in
theorem wfI {x : Int} (h : (Lit.int .i64 x).wf = true) : WfI x := by
  simp [Lit.wf, IntKind.min, IntKind.max, IntKind.signed, IntKind.bits] at h
  exact h
def PutOk (p : PPut) : Prop := WfI p.pos ∧ StrOk p.text
section
variable {H : Type} {enc' : TypeId × Value → H} {w : World} {base : Nat} {spare : Nat → Bool} {held : Bool}
set_option maxRecDepth 100000 in
theorem trod_str (n : Nat) (cs : List Value) (x : DataW H × List MemPlace) (h : DataW.trod enc' Tryd.prog w base spare held n 9 cs = some x) (hw : Light 9 x.1) : ∃ s, cs = encS s ∧ StrOk s := by
  obtain ⟨s, rfl, rfl, _⟩ := DataW.trod_string Tryd.underlying9 h
  exact ⟨s, rfl, by have := light_string hw; simpa [StrOk] using this⟩
set_option maxRecDepth 100000 in
theorem trod_i64 (n : Nat) (cs : List Value) (x : DataW H × List MemPlace) (h : DataW.trod enc' Tryd.prog w base spare held n 3 cs = some x) (hw : Light 3 x.1) : ∃ i, cs = encI i ∧ WfI i := by
  obtain ⟨i, rfl, _, hw⟩ := DataW.trod_int Tryd.underlying3 h
  exact ⟨i, rfl, wfI hw⟩
set_option maxRecDepth 100000 in
theorem trod_put (n : Nat) (cs : List Value) (x : DataW H × List MemPlace) (h : DataW.trod enc' Tryd.prog w base spare held n 52 cs = some x) (hw : Light 52 x.1) : ∃ l, cs = encP l ∧ PutOk l := by
  obtain ⟨xs, m, _, hx, hlen, hyl, hg⟩ := DataW.trod_struct Tryd.underlying52 h
  subst hx
  rw [cells_put] at hlen
  have hyl2 : xs.length = 2 := hyl
  match cs, hlen with
  | [a, b], _ =>
    match xs, hyl2 with
    | [y0, y1], _ =>
      have h0 : DataW.trod enc' Tryd.prog w base spare held m 3 [a] = some y0 := by simpa [cells_int] using hg 0 _ rfl
      have h1 : DataW.trod enc' Tryd.prog w base spare held m 9 [b] = some y1 := by simpa [cells_str] using hg 1 _ rfl
      obtain ⟨i0, e0, _, w0⟩ := DataW.trod_int Tryd.underlying3 h0
      obtain ⟨s1, e1, k1⟩ := trod_str _ _ _ h1 (light_struct Tryd.underlying52 hw (j := 1) rfl rfl)
      simp only [encS, List.cons.injEq, and_true] at e0 e1
      subst e0 e1
      exact ⟨⟨i0, s1⟩, rfl, wfI w0, k1⟩
end
set_option maxRecDepth 100000 in
theorem bytes_put : Tryd.prog.bytesOf 52 = 24 := by kernel_rfl
set_option maxRecDepth 100000 in
theorem bytes_str : Tryd.prog.bytesOf 9 = 16 := by kernel_rfl
set_option maxRecDepth 100000 in
theorem bytes_int : Tryd.prog.bytesOf 3 = 8 := by kernel_rfl
def PlatIs (w : World) (v : Value) (p : Plat) : Prop := ∃ A c A' c', v = .agg #[.slice A p.sectors.length c, .slice A' p.cache.length c'] ∧ PlatPre w A p.sectors.length A' p.cache.length p ∧
  p.sectors.length ≤ 140737488351232 ∧ p.cache.length ≤ 140737488351232 ∧ (∀ s ∈ p.sectors, StrOk s) ∧ (∀ l ∈ p.cache, PutOk l)
section
variable {H : Type} {enc' : TypeId × Value → H} {w : World} {base b0 : Nat} {spare : Nat → Bool} {held : Bool} {r : Reach} {v : Value} {d : DataW H} {p : List MemPlace}
set_option maxRecDepth 100000 in
theorem open_plat (hv : Value.okWide Tryd.prog w r b0 25 v) (h : DataW.Trod enc' Tryd.prog w base spare held 25 v d p) (hw : Light 25 d) : ∃ N, PlatIs w v N := by
  obtain ⟨cs, rfl, _⟩ := okWide_struct Tryd.underlying25 hv
  obtain ⟨fuel, hf⟩ := h
  obtain ⟨xs, m, _, hx, hlen, hyl, hg⟩ := DataW.trod_struct Tryd.underlying25 hf
  simp only [Prod.mk.injEq] at hx
  obtain ⟨rfl, _⟩ := hx
  rw [cells_plat] at hlen
  have hyl2 : xs.length = 2 := hyl
  obtain ⟨cs⟩ := cs
  simp only [Value.cells] at hlen hg
  match cs, hlen with
  | [c0, c1], _ =>
    match xs, hyl2 with
    | [y0, y1], _ =>
      have h0 : DataW.trod enc' Tryd.prog w base spare held m 22 [c0] = some y0 := by simpa [cells_strs] using hg 0 _ rfl
      have h1 : DataW.trod enc' Tryd.prog w base spare held m 23 [c1] = some y1 := by simpa [cells_puts] using hg 1 _ rfl
      obtain ⟨A, n, c, L, e0, hS, hc, hm, hok, hby⟩ := open_row (enc := encS) (sz := 1) (Ok := StrOk) Tryd.underlying22 cells_str (by omega) trod_str h0 (light_struct Tryd.underlying25 hw (j := 0) rfl rfl)
      obtain ⟨A', n', c', L', e1, hS', hc', hm', hok', hby'⟩ := open_row (enc := encP) (sz := 2) (Ok := PutOk) Tryd.underlying23 cells_put (by omega) trod_put h1 (light_struct Tryd.underlying25 hw (j := 1) rfl rfl)
      simp only [List.cons.injEq, and_true] at e0 e1
      subst e0 e1
      obtain rfl := hS.1
      obtain rfl := hS'.1
      rw [bytes_str] at hby
      rw [bytes_put] at hby'
      exact ⟨⟨L, L'⟩, A, c, A', c', rfl, PlatAt.pre ⟨hS, hS'⟩, by simp only; omega, by simp only; omega, hok, hok'⟩
set_option maxRecDepth 100000 in
theorem open_str (hv : Value.okWide Tryd.prog w r b0 9 v) (h : DataW.Trod enc' Tryd.prog w base spare held 9 v d p) (hw : Light 9 d) : ∃ s, v = .string s ∧ StrOk s := by
  obtain ⟨s, rfl, rfl, _⟩ := Go.ChangeMaps.open_string Tryd.underlying9 hv h
  exact ⟨s, rfl, by have := light_string hw; simpa [StrOk] using this⟩
set_option maxRecDepth 100000 in
theorem open_i64 (hv : Value.okWide Tryd.prog w r b0 3 v) (h : DataW.Trod enc' Tryd.prog w base spare held 3 v d p) : ∃ i, v = .int .i64 i ∧ WfI i := by
  obtain ⟨x, rfl, rfl, rfl, hx⟩ := open_int Tryd.underlying3 hv h
  exact ⟨x, rfl, wfI hx⟩
set_option maxRecDepth 100000 in
theorem open_ints (hv : Value.okWide Tryd.prog w r b0 46 v) (h : DataW.Trod enc' Tryd.prog w base spare held 46 v d p) (hw : Light 46 d) : ∃ A n c L, v = .slice A n c ∧ SlR encI 1 w w.heap.size A n L ∧ n ≤ 140737488351232 ∧ (∀ o ∈ L, WfI o) := by
  obtain ⟨A, n, c, rfl⟩ := okWide_slice Tryd.underlying46 hv
  obtain ⟨fuel, hf⟩ := h
  obtain ⟨A', n', c', L, e, hS, hc, hm, ho, hby⟩ := open_row (enc := encI) (sz := 1) (Ok := WfI) Tryd.underlying46 cells_int (by omega) trod_i64 hf hw
  simp only [Value.cells, List.cons.injEq, and_true, Value.slice.injEq] at e
  obtain ⟨rfl, rfl, rfl⟩ := e
  rw [bytes_int] at hby
  exact ⟨A, n, c, L, rfl, hS, by omega, ho⟩
end
end Go.Proofs.YtefodifmfjpnlaaDoor
