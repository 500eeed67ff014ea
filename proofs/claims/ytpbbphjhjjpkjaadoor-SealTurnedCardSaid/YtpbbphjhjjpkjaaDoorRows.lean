/-
  NARROWER THAN 'FOR EVERY INPUT', by the rows' own cells (each row's printed sentence says how): SealBack: laid · SealTurned: laid · SealWhole: laid.
  DERIVED. THE GIVEN ROWS OF THIS SEAT. 3 by the template 'for every input the law returns true; each argument reads behind the call as it read before'; 0 by the template 'total and deterministic' (their statements: YtpbbphjhjjpkjaaDoorTotals.lean).
  GIVEN WITH THE SEED: the statements are not yours to turn. If you find one false, say at which input.
  Laid BY PROGRAM, IN A SANDBOX (cutbox-rows.mjs): the forced cells as the released guide's own fill.sh prints them over the translation e15a1a9853234ed0… (all of the seat's roots in one cut). By AI agents, Wed Nov 11 2026. No macro, syntax, notation, axiom, sorry.
-/
import Derived.Test.YtpbbphjhjjpkjaaDoorChecked
import GoSem.Claim
import GoSem.ClaimJoined
import GoSem.ClaimMapViews
import Derived.JoinedTies
import Derived.KernelRfl
namespace Go.Proofs.YtpbbphjhjjpkjaaDoor
/- THE CELL 'sum', in the pinned program and in every row, IS THE sha256 OF THE DUMP (.gsa) THAT YtpbbphjhjjpkjaaDoorProg.lean LOADS. Nothing in Lean hashes anything: it is a label: what it is worth is what the hold of that sum in a sandbox is worth. -/
noncomputable def Tryd.pinned : Pinned := { name := "ytpbbphjhjjpkjaadoor", sum := "e15a1a9853234ed0c411cb96ce166edcaaf896da3066feaef198339d2cd4e4f4", checked := Tryd.checked }
namespace Rows
def none {H : Type} : Left H := { results := [], args := [] }

/- WHAT THE LISTED PACKAGE-LEVEL VARIABLES READ AS WHEN THE CALL BEGINS. Each datum BY PROGRAM (the guide's laid-datum.mjs) off the statement by which the dump's own 'gosem.cut.vars' lays the variable. In a bare row this is a premise. The card (YtpbbphjhjjpkjaaDoorCards.lean) ties it to the program's text. -/
def laid_keyhole_stream_turns {H : Type} : DataW H := .agg [.agg [.lit (.int .i64 0), .lit (.int .i64 4), .lit (.int .i64 8), .lit (.int .i64 12)], .agg [.lit (.int .i64 1), .lit (.int .i64 5), .lit (.int .i64 9), .lit (.int .i64 13)], .agg [.lit (.int .i64 2), .lit (.int .i64 6), .lit (.int .i64 10), .lit (.int .i64 14)], .agg [.lit (.int .i64 3), .lit (.int .i64 7), .lit (.int .i64 11), .lit (.int .i64 15)], .agg [.lit (.int .i64 0), .lit (.int .i64 5), .lit (.int .i64 10), .lit (.int .i64 15)], .agg [.lit (.int .i64 1), .lit (.int .i64 6), .lit (.int .i64 11), .lit (.int .i64 12)], .agg [.lit (.int .i64 2), .lit (.int .i64 7), .lit (.int .i64 8), .lit (.int .i64 13)], .agg [.lit (.int .i64 3), .lit (.int .i64 4), .lit (.int .i64 9), .lit (.int .i64 14)]]

/-- 'keyholelaw06.SealBack': WHATEVER THE INPUT: true; the input reads as it did. -/
def sealBackSpec : ChangeSpec := { name := "sealBack", fn := fun _ => fun
  | [d1, d2, d3, d4, d5] => { results := [.lit (.bool true)], args := [d1, d2, d3, d4, d5] }
  | _ => none }
def sealBackRow : OpenClaim := { program := "ytpbbphjhjjpkjaadoor", sum := "e15a1a9853234ed0c411cb96ce166edcaaf896da3066feaef198339d2cd4e4f4", func := "keyhole/keyholelaw06.SealBack", spec := "sealBack", inPlace := ["internal/abi.NoEscape"], unfollowed := true, recurses := true, named := ["keyhole/stream.turns"], apart := false, laid := [("keyhole/stream.turns", laid_keyhole_stream_turns)] }
def SealBackSaid : Prop := sealBackRow.holds Tryd.pinned (OpenSpec.ofChange sealBackSpec)

/-- ITS FALSE NEIGHBOUR: 'it returns false'. Refute it at one input. -/
def sealBackWrong : ChangeSpec := { name := "sealBack", fn := fun _ => fun
  | [d1, d2, d3, d4, d5] => { results := [.lit (.bool false)], args := [d1, d2, d3, d4, d5] }
  | _ => none }
def SealBackWrongFalsely : Prop := sealBackRow.holds Tryd.pinned (OpenSpec.ofChange sealBackWrong)

/-- 'keyholelaw06.SealTurned': WHATEVER THE INPUT: true; the input reads as it did. -/
def sealTurnedSpec : ChangeSpec := { name := "sealTurned", fn := fun _ => fun
  | [d1, d2, d3, d4, d5] => { results := [.lit (.bool true)], args := [d1, d2, d3, d4, d5] }
  | _ => none }
def sealTurnedRow : OpenClaim := { program := "ytpbbphjhjjpkjaadoor", sum := "e15a1a9853234ed0c411cb96ce166edcaaf896da3066feaef198339d2cd4e4f4", func := "keyhole/keyholelaw06.SealTurned", spec := "sealTurned", inPlace := ["internal/abi.NoEscape"], unfollowed := true, recurses := true, named := ["keyhole/stream.turns"], apart := false, laid := [("keyhole/stream.turns", laid_keyhole_stream_turns)] }
def SealTurnedSaid : Prop := sealTurnedRow.holds Tryd.pinned (OpenSpec.ofChange sealTurnedSpec)

/-- ITS FALSE NEIGHBOUR: 'it returns false'. Refute it at one input. -/
def sealTurnedWrong : ChangeSpec := { name := "sealTurned", fn := fun _ => fun
  | [d1, d2, d3, d4, d5] => { results := [.lit (.bool false)], args := [d1, d2, d3, d4, d5] }
  | _ => none }
def SealTurnedWrongFalsely : Prop := sealTurnedRow.holds Tryd.pinned (OpenSpec.ofChange sealTurnedWrong)

/-- 'keyholelaw06.SealWhole': WHATEVER THE INPUT: true; the input reads as it did. -/
def sealWholeSpec : ChangeSpec := { name := "sealWhole", fn := fun _ => fun
  | [d1, d2, d3, d4] => { results := [.lit (.bool true)], args := [d1, d2, d3, d4] }
  | _ => none }
def sealWholeRow : OpenClaim := { program := "ytpbbphjhjjpkjaadoor", sum := "e15a1a9853234ed0c411cb96ce166edcaaf896da3066feaef198339d2cd4e4f4", func := "keyhole/keyholelaw06.SealWhole", spec := "sealWhole", inPlace := ["internal/abi.NoEscape"], unfollowed := true, recurses := true, named := ["keyhole/stream.turns"], apart := false, laid := [("keyhole/stream.turns", laid_keyhole_stream_turns)] }
def SealWholeSaid : Prop := sealWholeRow.holds Tryd.pinned (OpenSpec.ofChange sealWholeSpec)

/-- ITS FALSE NEIGHBOUR: 'it returns false'. Refute it at one input. -/
def sealWholeWrong : ChangeSpec := { name := "sealWhole", fn := fun _ => fun
  | [d1, d2, d3, d4] => { results := [.lit (.bool false)], args := [d1, d2, d3, d4] }
  | _ => none }
def SealWholeWrongFalsely : Prop := sealWholeRow.holds Tryd.pinned (OpenSpec.ofChange sealWholeWrong)

/- THE SECOND FORM. 'bulk': how many values and letters a reading holds, each counted each time it is reached (what is shared counts as often as it is met; a slice's spare places count too). A statement '..UptoSaid' is the law's where the arguments, and the package variables that the reading takes, are together of bulk at most 1048576: NARROWER than '..Said'. Prove '..Said' where nothing that the law and all that it calls make is longer than what came in: it says more and counts as full. Else prove '..UptoSaid'. A law counts once. -/
mutual
def uptoBulk {H : Type} : DataW H → Nat
  | .lit (.string bytes) => bytes.length + 1
  | .lit _ => 1
  | .nil => 1
  | .ptr d => uptoBulk d + 1
  | .slice elems spare => uptoBulkAll elems + uptoBulkAll spare + 1
  | .agg parts => uptoBulkAll parts + 1
  | .iface _ d => uptoBulk d + 1
  | .map entries => uptoBulkEntries entries + 1
  | .held _ => 1
def uptoBulkAll {H : Type} : List (DataW H) → Nat
  | [] => 0
  | d :: r => uptoBulk d + uptoBulkAll r
def uptoBulkEntries {H : Type} : List (Lit × DataW H) → Nat
  | [] => 0
  | x :: r => uptoBulkEntry x + uptoBulkEntries r
def uptoBulkEntry {H : Type} : Lit × DataW H → Nat
  | (.string bytes, d) => bytes.length + uptoBulk d + 1
  | (_, d) => uptoBulk d + 1
 end
def uptoSmall : (H : Type) → List (DataW H) → Bool := fun _ ds => decide (uptoBulkAll ds ≤ 1048576)
def OpenSpec.upto (s : _root_.Go.ChangeSpec) : _root_.Go.OpenSpec := { _root_.Go.OpenSpec.ofChange s with cond := some uptoSmall }

/-- 'keyholelaw06.SealBack', WHERE WHAT IT READS IS OF BULK AT MOST 1048576: true; the input reads as it did. -/
def sealBackUptoRow : OpenClaim := { program := "ytpbbphjhjjpkjaadoor", sum := "e15a1a9853234ed0c411cb96ce166edcaaf896da3066feaef198339d2cd4e4f4", func := "keyhole/keyholelaw06.SealBack", spec := "sealBack", inPlace := ["internal/abi.NoEscape"], unfollowed := true, recurses := true, named := ["keyhole/stream.turns"], apart := false, laid := [("keyhole/stream.turns", laid_keyhole_stream_turns)], narrowed := true }
def SealBackUptoSaid : Prop := sealBackUptoRow.holds Tryd.pinned (OpenSpec.upto sealBackSpec)

/-- 'keyholelaw06.SealTurned', WHERE WHAT IT READS IS OF BULK AT MOST 1048576: true; the input reads as it did. -/
def sealTurnedUptoRow : OpenClaim := { program := "ytpbbphjhjjpkjaadoor", sum := "e15a1a9853234ed0c411cb96ce166edcaaf896da3066feaef198339d2cd4e4f4", func := "keyhole/keyholelaw06.SealTurned", spec := "sealTurned", inPlace := ["internal/abi.NoEscape"], unfollowed := true, recurses := true, named := ["keyhole/stream.turns"], apart := false, laid := [("keyhole/stream.turns", laid_keyhole_stream_turns)], narrowed := true }
def SealTurnedUptoSaid : Prop := sealTurnedUptoRow.holds Tryd.pinned (OpenSpec.upto sealTurnedSpec)

/-- 'keyholelaw06.SealWhole', WHERE WHAT IT READS IS OF BULK AT MOST 1048576: true; the input reads as it did. -/
def sealWholeUptoRow : OpenClaim := { program := "ytpbbphjhjjpkjaadoor", sum := "e15a1a9853234ed0c411cb96ce166edcaaf896da3066feaef198339d2cd4e4f4", func := "keyhole/keyholelaw06.SealWhole", spec := "sealWhole", inPlace := ["internal/abi.NoEscape"], unfollowed := true, recurses := true, named := ["keyhole/stream.turns"], apart := false, laid := [("keyhole/stream.turns", laid_keyhole_stream_turns)], narrowed := true }
def SealWholeUptoSaid : Prop := sealWholeUptoRow.holds Tryd.pinned (OpenSpec.upto sealWholeSpec)

end Rows
end Go.Proofs.YtpbbphjhjjpkjaaDoor
