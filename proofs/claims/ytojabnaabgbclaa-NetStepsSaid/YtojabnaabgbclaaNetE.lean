/- net: a step at a place of a copy. -/
import Derived.Test.YtojabnaabgbclaaNetD
set_option linter.unusedVariables false
namespace Go.Proofs.Ytojabnaabgbclaa
open Go.RowKit
def noNet : Net := ⟨[], 0, 0, 0, 0⟩
def lv (l : Letter) : Value := .agg #[.string l.fr, .string l.to, .string l.text]
/-- a value that is the net N, its letters in a row of their own, from B on -/
def NetOut (w' : World) (B : Nat) (v : Value) (N : Net) : Prop := ∃ A c, v = .agg #[.slice A N.way.length c, .int .i64 N.sent, .int .i64 N.delivered, .int .i64 N.lost, .int .i64 N.doubled] ∧
  w'.ownsRow B 27 3 (.slice A N.way.length c) N.way.length (flat encL N.way)
theorem NetOut.none_ (w' : World) (B : Nat) : NetOut w' B (.agg #[.slice none 0 0, .int .i64 0, .int .i64 0, .int .i64 0, .int .i64 0]) noNet := ⟨none, 0, rfl, World.ownsRow_nil _ _ _ _⟩
def stepF (F : Net → Nat → Int × Net) (N : Net) (i : Int) : Letter × Net × Int :=
  if checkB N = true then
    if 0 ≤ i ∧ i < N.way.length then
      if (F N i.toNat).1 = 0 then (N.way.getD i.toNat noLetter, (F N i.toNat).2, 0) else (noLetter, noNet, (F N i.toNat).1)
    else (noLetter, noNet, 1)
  else (noLetter, noNet, 190)
theorem fine_of (N : Net) (h : checkB N = true) : Fine N := by
  simp [checkB, inB] at h
  unfold Fine; omega
def Out3 (w : World) (r : Letter × Net × Int) (e : Ending) (w' : World) : Prop := ∃ v, e = .returned (.tuple #[lv r.1, v, .int .i64 r.2.2]) ∧ NetOut w' w.heap.size v r.2.1 ∧ Below w.heap.size w w'
end Go.Proofs.Ytojabnaabgbclaa
