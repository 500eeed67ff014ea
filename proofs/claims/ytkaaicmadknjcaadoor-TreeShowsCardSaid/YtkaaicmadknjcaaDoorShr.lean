/- reading shares: a number and bytes. -/
import Derived.Test.YtkaaicmadknjcaaDoorDoorOpen
import Derived.Test.YtkaaicmadknjcaaDoorPldA
set_option linter.unusedVariables false
namespace Go.Proofs.YtkaaicmadknjcaaDoor
open Go.RowKit Go.ChangeShapes Go.WideShapes Go.ChangeAt Go.Deep
theorem cells_str : Tryd.prog.cellsOf 9 = 1 := by kernel_rfl
theorem cells_int : Tryd.prog.cellsOf 3 = 1 := by kernel_rfl
theorem cells_share : Tryd.prog.cellsOf 51 = 2 := by kernel_rfl
structure Sh where
  (x : Int) (b : ByteArray)
def encSh (s : Sh) : List Value := [.int .i64 s.x, .string s.b]
def ShOk (s : Sh) : Prop := StrOk s.b
section
variable {H : Type} {enc' : TypeId × Value → H} {w : World} {base b0 : Nat} {spare : Nat → Bool} {held : Bool} {r : Reach} {v : Value} {d : DataW H} {p : List MemPlace}
theorem trod_str (n : Nat) (cs : List Value) (x : DataW H × List MemPlace) (h : DataW.trod enc' Tryd.prog w base spare held n 9 cs = some x) (hw : Light 9 x.1) : ∃ s, cs = [.string s] ∧ StrOk s := by
  obtain ⟨s, rfl, rfl, _⟩ := DataW.trod_string Tryd.underlying9 h
  exact ⟨s, rfl, by have := light_string hw; simpa [StrOk] using this⟩
set_option maxRecDepth 100000 in
theorem trod_share (n : Nat) (cs : List Value) (x : DataW H × List MemPlace) (h : DataW.trod enc' Tryd.prog w base spare held n 51 cs = some x) (hw : Light 51 x.1) : ∃ s, cs = encSh s ∧ ShOk s := by
  obtain ⟨xs, m, _, hx, hlen, hyl, hg⟩ := DataW.trod_struct Tryd.underlying51 h
  subst hx
  rw [cells_share] at hlen
  have hyl2 : xs.length = 2 := hyl
  match cs, hlen with
  | [a, b], _ =>
    match xs, hyl2 with
    | [y0, y1], _ =>
      have h0 : DataW.trod enc' Tryd.prog w base spare held m 3 [a] = some y0 := by simpa [cells_int] using hg 0 _ rfl
      have h1 : DataW.trod enc' Tryd.prog w base spare held m 9 [b] = some y1 := by simpa [cells_str] using hg 1 _ rfl
      obtain ⟨k, e0, _, _⟩ := DataW.trod_int Tryd.underlying3 h0
      obtain ⟨s1, e1, k1⟩ := trod_str _ _ _ h1 (light_struct Tryd.underlying51 hw (j := 1) rfl rfl)
      simp only [List.cons.injEq, and_true] at e0 e1
      subst e0 e1
      exact ⟨⟨k, s1⟩, rfl, k1⟩
set_option maxRecDepth 100000 in
theorem open_share (hv : Value.okWide Tryd.prog w r b0 51 v) (h : DataW.Trod enc' Tryd.prog w base spare held 51 v d p) (hw : Light 51 d) : ∃ s : Sh, v = shV s.x s.b ∧ ShOk s := by
  obtain ⟨cs, rfl, hsz⟩ := okWide_struct Tryd.underlying51 hv
  obtain ⟨fuel, hf⟩ := h
  obtain ⟨s, e, hs⟩ := trod_share fuel cs.toList (d, p) (by simpa [Value.cells] using hf) hw
  refine ⟨s, ?_, hs⟩
  unfold shV
  congr 1
  apply Array.ext'
  rw [e]; rfl
end
end Go.Proofs.YtkaaicmadknjcaaDoor
