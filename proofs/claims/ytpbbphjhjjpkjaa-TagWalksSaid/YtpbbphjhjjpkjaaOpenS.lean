/- reading a law's texts. -/
import Derived.Test.YtpbbphjhjjpkjaaLaw
set_option linter.unusedVariables false
namespace Go.Proofs.Ytpbbphjhjjpkjaa
open Go.RowKit Go.ChangeShapes Go.WideShapes Go.ChangeAt Go.Deep
def StrOk (s : ByteArray) : Prop := s.size ≤ 140737488351232
section
variable {H : Type} {enc' : TypeId × Value → H} {w : World} {base b0 : Nat} {spare : Nat → Bool} {held : Bool} {r : Reach} {v : Value} {d : DataW H} {p : List MemPlace}
set_option maxRecDepth 100000 in
theorem open_str (hv : Value.okWide Try.prog w r b0 9 v) (h : DataW.Trod enc' Try.prog w base spare held 9 v d p) (hw : Light 9 d) : ∃ s, v = .string s ∧ StrOk s := by
  obtain ⟨s, rfl, rfl, _⟩ := Go.ChangeMaps.open_string Try.underlying9 hv h
  exact ⟨s, rfl, by have := light_string hw; simpa [StrOk] using this⟩
end
end Go.Proofs.Ytpbbphjhjjpkjaa
