/- reading a law's plain arguments. -/
import Derived.Test.YtbgohcedakpnbaaDoorLaw
import Derived.Test.YtbgohcedakpnbaaDoorWordA
set_option linter.unusedVariables false
namespace Go.Proofs.YtbgohcedakpnbaaDoor
open Go.RowKit Go.ChangeShapes Go.WideShapes Go.ChangeAt Go.Deep
def StrOk (s : ByteArray) : Prop := s.size ≤ 140737488351232
def WfI (x : Int) : Prop := -9223372036854775808 ≤ x ∧ x ≤ 9223372036854775807
theorem wfI {x : Int} (h : (Lit.int .i64 x).wf = true) : WfI x := by
  simp [Lit.wf, IntKind.min, IntKind.max, IntKind.signed, IntKind.bits] at h
  exact h
section
variable {H : Type} {enc' : TypeId × Value → H} {w : World} {base b0 : Nat} {spare : Nat → Bool} {held : Bool} {r : Reach} {v : Value} {d : DataW H} {p : List MemPlace}
set_option maxRecDepth 100000 in
theorem open_str (hv : Value.okWide Tryd.prog w r b0 9 v) (h : DataW.Trod enc' Tryd.prog w base spare held 9 v d p) (hw : Light 9 d) : ∃ s, v = .string s ∧ StrOk s := by
  obtain ⟨s, rfl, rfl, _⟩ := Go.ChangeMaps.open_string Tryd.underlying9 hv h
  exact ⟨s, rfl, by have := light_string hw; simpa [StrOk] using this⟩
set_option maxRecDepth 100000 in
theorem open_i64 (hv : Value.okWide Tryd.prog w r b0 3 v) (h : DataW.Trod enc' Tryd.prog w base spare held 3 v d p) : ∃ i, v = .int .i64 i ∧ WfI i := by
  obtain ⟨x, rfl, rfl, rfl, hx⟩ := open_int Tryd.underlying3 hv h
  exact ⟨x, rfl, wfI hx⟩
end
end Go.Proofs.YtbgohcedakpnbaaDoor
