/- net: letters, nets; addressed and Check. -/
import Derived.Test.YtojabnaabgbclaaName
set_option linter.unusedVariables false
namespace Go.Proofs.Ytojabnaabgbclaa
open Go.RowKit
structure Letter where
  fr : ByteArray
  to : ByteArray
  text : ByteArray
def encL (l : Letter) : List Value := [.string l.fr, .string l.to, .string l.text]
theorem encL_len (l : Letter) : (encL l).length = 3 := rfl
structure Net where
  way : List Letter
  sent : Int
  delivered : Int
  lost : Int
  doubled : Int
theorem SlC.letter {w : World} {b off : Nat} {L : List Letter} (h : SlC encL 3 w b off L) {k : Nat} {l : Letter} (hl : L[k]? = some l) :
    w.cell? ⟨b, off + k * 3, none⟩ = some (.string l.fr) ∧ w.cell? ⟨b, off + k * 3 + 1, none⟩ = some (.string l.to) ∧ w.cell? ⟨b, off + k * 3 + 2, none⟩ = some (.string l.text) :=
  ⟨h k l hl 0 _ rfl, h k l hl 1 _ rfl, h k l hl 2 _ rfl⟩

def addrB (l : Letter) : Bool := nameB l.fr && nameB l.to
def letterB (l : Letter) : Bool := addrB l && decide (l.text.size ≤ 4000)
def inB (x : Int) : Bool := decide (0 ≤ x) && decide (x ≤ 1000000000)
def checkB (N : Net) : Bool :=
  decide (N.way.length ≤ 60) && (inB N.sent && (inB N.delivered && (inB N.lost && (inB N.doubled && (N.way.all letterB && decide (N.sent + N.doubled = N.delivered + N.lost + N.way.length))))))

set_option maxHeartbeats 400000 in
theorem addressed_any (l : Letter) (w : World) :
    Calls Try.prog 27 #[.agg #[.string l.fr, .string l.to, .string l.text]] w fun e w' => e = .returned (.bool (addrB l)) ∧ Below w.heap.size w w' := by
  go_enter Try.func27, Try.ntmps27
  go_wp2_with (go_at_call 39; refine (name_any _ _).mono ?_; rintro e w' ⟨rfl, rfl⟩)
  all_goals
    go_ret
    exact ⟨ret_bool (by simp [addrB, *]), by go_grown⟩
end Go.Proofs.Ytojabnaabgbclaa
