/-
  No cell of these rows narrows 'for every input' (looked for: loops, veiled, ifaces, maps, wideKeys, modest, calm, conditions, laid).
  DERIVED. THE GIVEN ROWS OF THIS SEAT. 5 by the template 'for every input the law returns true; each argument reads behind the call as it read before'; 0 by the template 'total and deterministic' (their statements: YtojabnaabgbclaaTotals.lean).
  GIVEN WITH THE SEED: the statements are not yours to turn. If you find one false, say at which input.
  Laid BY PROGRAM, IN A SANDBOX (cutbox-rows.mjs): the forced cells as the released guide's own fill.sh prints them over the translation 0078513217f3b936… (all of the seat's roots in one cut). By AI agents, Wed Nov 11 2026. No macro, syntax, notation, axiom, sorry.
-/
import Derived.Test.YtojabnaabgbclaaChecked
import GoSem.Claim
import GoSem.ClaimJoined
import GoSem.ClaimMapViews
import Derived.JoinedTies
import Derived.KernelRfl
namespace Go.Proofs.Ytojabnaabgbclaa
/- THE CELL 'sum', in the pinned program and in every row, IS THE sha256 OF THE DUMP (.gsa) THAT YtojabnaabgbclaaProg.lean LOADS. Nothing in Lean hashes anything: it is a label: what it is worth is what the hold of that sum in a sandbox is worth. -/
noncomputable def Try.pinned : Pinned := { name := "ytojabnaabgbclaa", sum := "0078513217f3b9369d3ef066a82d5c10b2f5022469ba6722bab4b9a2057ea028", checked := Try.checked }
namespace Rows
def none {H : Type} : Left H := { results := [], args := [] }

/-- 'keyholelaw19.NetSent': WHATEVER THE INPUT: true; the input reads as it did. -/
def netSentSpec : ChangeSpec := { name := "netSent", fn := fun _ => fun
  | [d] => { results := [.lit (.bool true)], args := [d] }
  | _ => none }
def netSentRow : OpenClaim := { program := "ytojabnaabgbclaa", sum := "0078513217f3b9369d3ef066a82d5c10b2f5022469ba6722bab4b9a2057ea028", func := "keyhole/keyholelaw19.NetSent", spec := "netSent", unfollowed := true, recurses := true, apart := false }
def NetSentSaid : Prop := netSentRow.holds Try.pinned (OpenSpec.ofChange netSentSpec)

/-- ITS FALSE NEIGHBOUR: 'it returns false'. Refute it at one input. -/
def netSentWrong : ChangeSpec := { name := "netSent", fn := fun _ => fun
  | [d] => { results := [.lit (.bool false)], args := [d] }
  | _ => none }
def NetSentWrongFalsely : Prop := netSentRow.holds Try.pinned (OpenSpec.ofChange netSentWrong)

/-- 'keyholelaw19.NetBack': WHATEVER THE INPUT: true; the input reads as it did. -/
def netBackSpec : ChangeSpec := { name := "netBack", fn := fun _ => fun
  | [d1, d2, d3] => { results := [.lit (.bool true)], args := [d1, d2, d3] }
  | _ => none }
def netBackRow : OpenClaim := { program := "ytojabnaabgbclaa", sum := "0078513217f3b9369d3ef066a82d5c10b2f5022469ba6722bab4b9a2057ea028", func := "keyhole/keyholelaw19.NetBack", spec := "netBack", unfollowed := true, recurses := true, apart := false }
def NetBackSaid : Prop := netBackRow.holds Try.pinned (OpenSpec.ofChange netBackSpec)

/-- ITS FALSE NEIGHBOUR: 'it returns false'. Refute it at one input. -/
def netBackWrong : ChangeSpec := { name := "netBack", fn := fun _ => fun
  | [d1, d2, d3] => { results := [.lit (.bool false)], args := [d1, d2, d3] }
  | _ => none }
def NetBackWrongFalsely : Prop := netBackRow.holds Try.pinned (OpenSpec.ofChange netBackWrong)

/-- 'keyholelaw19.NetSteps': WHATEVER THE INPUT: true; the input reads as it did. -/
def netStepsSpec : ChangeSpec := { name := "netSteps", fn := fun _ => fun
  | [d1, d2, d3, d4] => { results := [.lit (.bool true)], args := [d1, d2, d3, d4] }
  | _ => none }
def netStepsRow : OpenClaim := { program := "ytojabnaabgbclaa", sum := "0078513217f3b9369d3ef066a82d5c10b2f5022469ba6722bab4b9a2057ea028", func := "keyhole/keyholelaw19.NetSteps", spec := "netSteps", unfollowed := true, recurses := true, apart := false }
def NetStepsSaid : Prop := netStepsRow.holds Try.pinned (OpenSpec.ofChange netStepsSpec)

/-- ITS FALSE NEIGHBOUR: 'it returns false'. Refute it at one input. -/
def netStepsWrong : ChangeSpec := { name := "netSteps", fn := fun _ => fun
  | [d1, d2, d3, d4] => { results := [.lit (.bool false)], args := [d1, d2, d3, d4] }
  | _ => none }
def NetStepsWrongFalsely : Prop := netStepsRow.holds Try.pinned (OpenSpec.ofChange netStepsWrong)

/-- 'keyholelaw19.NetOrder': WHATEVER THE INPUT: true; the input reads as it did. -/
def netOrderSpec : ChangeSpec := { name := "netOrder", fn := fun _ => fun
  | [d] => { results := [.lit (.bool true)], args := [d] }
  | _ => none }
def netOrderRow : OpenClaim := { program := "ytojabnaabgbclaa", sum := "0078513217f3b9369d3ef066a82d5c10b2f5022469ba6722bab4b9a2057ea028", func := "keyhole/keyholelaw19.NetOrder", spec := "netOrder", unfollowed := true, recurses := true, apart := false }
def NetOrderSaid : Prop := netOrderRow.holds Try.pinned (OpenSpec.ofChange netOrderSpec)

/-- ITS FALSE NEIGHBOUR: 'it returns false'. Refute it at one input. -/
def netOrderWrong : ChangeSpec := { name := "netOrder", fn := fun _ => fun
  | [d] => { results := [.lit (.bool false)], args := [d] }
  | _ => none }
def NetOrderWrongFalsely : Prop := netOrderRow.holds Try.pinned (OpenSpec.ofChange netOrderWrong)

/-- 'keyholelaw19.NetFor': WHATEVER THE INPUT: true; the input reads as it did. -/
def netForSpec : ChangeSpec := { name := "netFor", fn := fun _ => fun
  | [d1, d2] => { results := [.lit (.bool true)], args := [d1, d2] }
  | _ => none }
def netForRow : OpenClaim := { program := "ytojabnaabgbclaa", sum := "0078513217f3b9369d3ef066a82d5c10b2f5022469ba6722bab4b9a2057ea028", func := "keyhole/keyholelaw19.NetFor", spec := "netFor", unfollowed := true, recurses := true, apart := false }
def NetForSaid : Prop := netForRow.holds Try.pinned (OpenSpec.ofChange netForSpec)

/-- ITS FALSE NEIGHBOUR: 'it returns false'. Refute it at one input. -/
def netForWrong : ChangeSpec := { name := "netFor", fn := fun _ => fun
  | [d1, d2] => { results := [.lit (.bool false)], args := [d1, d2] }
  | _ => none }
def NetForWrongFalsely : Prop := netForRow.holds Try.pinned (OpenSpec.ofChange netForWrong)

/- THE SECOND FORM. 'bulk': how many values and letters a reading holds, each counted each time it is reached (what is shared counts as often as it is met; a slice's spare places count too). A statement '..UptoSaid' is the law's where the arguments, and the package variables that the reading takes, are together of bulk at most 1048576: NARROWER than '..Said'. Prove '..Said' where nothing that the law and all that it calls make is longer than what came in: it says more and counts as full. Else prove '..UptoSaid'. A law counts once. -/
mutual
def uptoBulk {H : Type} : DataW H → Nat
  | .lit (.string bytes) => bytes.length + 1
  | .lit _ => 1
  | .nil => 1
  | .ptr d => uptoBulk d + 1
  | .slice elems spare => uptoBulkAll elems + uptoBulkAll spare + 1
  | .agg parts => uptoBulkAll parts + 1
  | .iface _ d => uptoBulk d + 1
  | .map entries => uptoBulkEntries entries + 1
  | .held _ => 1
def uptoBulkAll {H : Type} : List (DataW H) → Nat
  | [] => 0
  | d :: r => uptoBulk d + uptoBulkAll r
def uptoBulkEntries {H : Type} : List (Lit × DataW H) → Nat
  | [] => 0
  | x :: r => uptoBulkEntry x + uptoBulkEntries r
def uptoBulkEntry {H : Type} : Lit × DataW H → Nat
  | (.string bytes, d) => bytes.length + uptoBulk d + 1
  | (_, d) => uptoBulk d + 1
 end
def uptoSmall : (H : Type) → List (DataW H) → Bool := fun _ ds => decide (uptoBulkAll ds ≤ 1048576)
def OpenSpec.upto (s : _root_.Go.ChangeSpec) : _root_.Go.OpenSpec := { _root_.Go.OpenSpec.ofChange s with cond := some uptoSmall }

/-- 'keyholelaw19.NetSent', WHERE WHAT IT READS IS OF BULK AT MOST 1048576: true; the input reads as it did. -/
def netSentUptoRow : OpenClaim := { program := "ytojabnaabgbclaa", sum := "0078513217f3b9369d3ef066a82d5c10b2f5022469ba6722bab4b9a2057ea028", func := "keyhole/keyholelaw19.NetSent", spec := "netSent", unfollowed := true, recurses := true, apart := false, narrowed := true }
def NetSentUptoSaid : Prop := netSentUptoRow.holds Try.pinned (OpenSpec.upto netSentSpec)

/-- 'keyholelaw19.NetBack', WHERE WHAT IT READS IS OF BULK AT MOST 1048576: true; the input reads as it did. -/
def netBackUptoRow : OpenClaim := { program := "ytojabnaabgbclaa", sum := "0078513217f3b9369d3ef066a82d5c10b2f5022469ba6722bab4b9a2057ea028", func := "keyhole/keyholelaw19.NetBack", spec := "netBack", unfollowed := true, recurses := true, apart := false, narrowed := true }
def NetBackUptoSaid : Prop := netBackUptoRow.holds Try.pinned (OpenSpec.upto netBackSpec)

/-- 'keyholelaw19.NetSteps', WHERE WHAT IT READS IS OF BULK AT MOST 1048576: true; the input reads as it did. -/
def netStepsUptoRow : OpenClaim := { program := "ytojabnaabgbclaa", sum := "0078513217f3b9369d3ef066a82d5c10b2f5022469ba6722bab4b9a2057ea028", func := "keyhole/keyholelaw19.NetSteps", spec := "netSteps", unfollowed := true, recurses := true, apart := false, narrowed := true }
def NetStepsUptoSaid : Prop := netStepsUptoRow.holds Try.pinned (OpenSpec.upto netStepsSpec)

/-- 'keyholelaw19.NetOrder', WHERE WHAT IT READS IS OF BULK AT MOST 1048576: true; the input reads as it did. -/
def netOrderUptoRow : OpenClaim := { program := "ytojabnaabgbclaa", sum := "0078513217f3b9369d3ef066a82d5c10b2f5022469ba6722bab4b9a2057ea028", func := "keyhole/keyholelaw19.NetOrder", spec := "netOrder", unfollowed := true, recurses := true, apart := false, narrowed := true }
def NetOrderUptoSaid : Prop := netOrderUptoRow.holds Try.pinned (OpenSpec.upto netOrderSpec)

/-- 'keyholelaw19.NetFor', WHERE WHAT IT READS IS OF BULK AT MOST 1048576: true; the input reads as it did. -/
def netForUptoRow : OpenClaim := { program := "ytojabnaabgbclaa", sum := "0078513217f3b9369d3ef066a82d5c10b2f5022469ba6722bab4b9a2057ea028", func := "keyhole/keyholelaw19.NetFor", spec := "netFor", unfollowed := true, recurses := true, apart := false, narrowed := true }
def NetForUptoSaid : Prop := netForUptoRow.holds Try.pinned (OpenSpec.upto netForSpec)

end Rows
end Go.Proofs.Ytojabnaabgbclaa
