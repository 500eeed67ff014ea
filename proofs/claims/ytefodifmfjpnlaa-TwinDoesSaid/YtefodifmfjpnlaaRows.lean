/-
  No cell of these rows narrows 'for every input' (looked for: loops, veiled, ifaces, maps, wideKeys, modest, calm, conditions, laid).
  DERIVED. THE GIVEN ROWS OF THIS SEAT. 9 by the template 'for every input the law returns true; each argument reads behind the call as it read before'; 0 by the template 'total and deterministic' (their statements: YtefodifmfjpnlaaTotals.lean).
  GIVEN WITH THE SEED: the statements are not yours to turn. If you find one false, say at which input.
  Laid BY PROGRAM, IN A SANDBOX (cutbox-rows.mjs): the forced cells as the released guide's own fill.sh prints them over the translation 912dc6f8c4567785… (all of the seat's roots in one cut). By AI agents, Wed Nov 11 2026. No macro, syntax, notation, axiom, sorry.
-/
import Derived.Test.YtefodifmfjpnlaaChecked
import GoSem.Claim
import GoSem.ClaimJoined
import GoSem.ClaimMapViews
import Derived.JoinedTies
import Derived.KernelRfl
namespace Go.Proofs.Ytefodifmfjpnlaa
/- THE CELL 'sum', in the pinned program and in every row, IS THE sha256 OF THE DUMP (.gsa) THAT YtefodifmfjpnlaaProg.lean LOADS. Nothing in Lean hashes anything: it is a label: what it is worth is what the hold of that sum in a sandbox is worth. -/
noncomputable def Try.pinned : Pinned := { name := "ytefodifmfjpnlaa", sum := "912dc6f8c456778599f578403ad413d496e8527359600c287b75ee06dbcb55d3", checked := Try.checked }
namespace Rows
def none {H : Type} : Left H := { results := [], args := [] }

/-- 'keyholelaw13.PlatterNew': WHATEVER THE INPUT: true; the input reads as it did. -/
def platterNewSpec : ChangeSpec := { name := "platterNew", fn := fun _ => fun
  | [d] => { results := [.lit (.bool true)], args := [d] }
  | _ => none }
def platterNewRow : OpenClaim := { program := "ytefodifmfjpnlaa", sum := "912dc6f8c456778599f578403ad413d496e8527359600c287b75ee06dbcb55d3", func := "keyhole/keyholelaw13.PlatterNew", spec := "platterNew", unfollowed := true, recurses := true, apart := false }
def PlatterNewSaid : Prop := platterNewRow.holds Try.pinned (OpenSpec.ofChange platterNewSpec)

/-- ITS FALSE NEIGHBOUR: 'it returns false'. Refute it at one input. -/
def platterNewWrong : ChangeSpec := { name := "platterNew", fn := fun _ => fun
  | [d] => { results := [.lit (.bool false)], args := [d] }
  | _ => none }
def PlatterNewWrongFalsely : Prop := platterNewRow.holds Try.pinned (OpenSpec.ofChange platterNewWrong)

/-- 'keyholelaw13.PlatterLast': WHATEVER THE INPUT: true; the input reads as it did. -/
def platterLastSpec : ChangeSpec := { name := "platterLast", fn := fun _ => fun
  | [d1, d2, d3, d4] => { results := [.lit (.bool true)], args := [d1, d2, d3, d4] }
  | _ => none }
def platterLastRow : OpenClaim := { program := "ytefodifmfjpnlaa", sum := "912dc6f8c456778599f578403ad413d496e8527359600c287b75ee06dbcb55d3", func := "keyhole/keyholelaw13.PlatterLast", spec := "platterLast", unfollowed := true, recurses := true, apart := false }
def PlatterLastSaid : Prop := platterLastRow.holds Try.pinned (OpenSpec.ofChange platterLastSpec)

/-- ITS FALSE NEIGHBOUR: 'it returns false'. Refute it at one input. -/
def platterLastWrong : ChangeSpec := { name := "platterLast", fn := fun _ => fun
  | [d1, d2, d3, d4] => { results := [.lit (.bool false)], args := [d1, d2, d3, d4] }
  | _ => none }
def PlatterLastWrongFalsely : Prop := platterLastRow.holds Try.pinned (OpenSpec.ofChange platterLastWrong)

/-- 'keyholelaw13.PlatterCrash': WHATEVER THE INPUT: true; the input reads as it did. -/
def platterCrashSpec : ChangeSpec := { name := "platterCrash", fn := fun _ => fun
  | [d1, d2] => { results := [.lit (.bool true)], args := [d1, d2] }
  | _ => none }
def platterCrashRow : OpenClaim := { program := "ytefodifmfjpnlaa", sum := "912dc6f8c456778599f578403ad413d496e8527359600c287b75ee06dbcb55d3", func := "keyhole/keyholelaw13.PlatterCrash", spec := "platterCrash", unfollowed := true, recurses := true, apart := false }
def PlatterCrashSaid : Prop := platterCrashRow.holds Try.pinned (OpenSpec.ofChange platterCrashSpec)

/-- ITS FALSE NEIGHBOUR: 'it returns false'. Refute it at one input. -/
def platterCrashWrong : ChangeSpec := { name := "platterCrash", fn := fun _ => fun
  | [d1, d2] => { results := [.lit (.bool false)], args := [d1, d2] }
  | _ => none }
def PlatterCrashWrongFalsely : Prop := platterCrashRow.holds Try.pinned (OpenSpec.ofChange platterCrashWrong)

/-- 'keyholelaw13.PlatterTwice': WHATEVER THE INPUT: true; the input reads as it did. -/
def platterTwiceSpec : ChangeSpec := { name := "platterTwice", fn := fun _ => fun
  | [d1, d2] => { results := [.lit (.bool true)], args := [d1, d2] }
  | _ => none }
def platterTwiceRow : OpenClaim := { program := "ytefodifmfjpnlaa", sum := "912dc6f8c456778599f578403ad413d496e8527359600c287b75ee06dbcb55d3", func := "keyhole/keyholelaw13.PlatterTwice", spec := "platterTwice", unfollowed := true, recurses := true, apart := false }
def PlatterTwiceSaid : Prop := platterTwiceRow.holds Try.pinned (OpenSpec.ofChange platterTwiceSpec)

/-- ITS FALSE NEIGHBOUR: 'it returns false'. Refute it at one input. -/
def platterTwiceWrong : ChangeSpec := { name := "platterTwice", fn := fun _ => fun
  | [d1, d2] => { results := [.lit (.bool false)], args := [d1, d2] }
  | _ => none }
def PlatterTwiceWrongFalsely : Prop := platterTwiceRow.holds Try.pinned (OpenSpec.ofChange platterTwiceWrong)

/-- 'keyholelaw14.TwinDoes': WHATEVER THE INPUT: true; the input reads as it did. -/
def twinDoesSpec : ChangeSpec := { name := "twinDoes", fn := fun _ => fun
  | [d1, d2, d3, d4] => { results := [.lit (.bool true)], args := [d1, d2, d3, d4] }
  | _ => none }
def twinDoesRow : OpenClaim := { program := "ytefodifmfjpnlaa", sum := "912dc6f8c456778599f578403ad413d496e8527359600c287b75ee06dbcb55d3", func := "keyhole/keyholelaw14.TwinDoes", spec := "twinDoes", unfollowed := true, recurses := true, apart := false }
def TwinDoesSaid : Prop := twinDoesRow.holds Try.pinned (OpenSpec.ofChange twinDoesSpec)

/-- ITS FALSE NEIGHBOUR: 'it returns false'. Refute it at one input. -/
def twinDoesWrong : ChangeSpec := { name := "twinDoes", fn := fun _ => fun
  | [d1, d2, d3, d4] => { results := [.lit (.bool false)], args := [d1, d2, d3, d4] }
  | _ => none }
def TwinDoesWrongFalsely : Prop := twinDoesRow.holds Try.pinned (OpenSpec.ofChange twinDoesWrong)

/-- 'keyholelaw14.TwinBack': WHATEVER THE INPUT: true; the input reads as it did. -/
def twinBackSpec : ChangeSpec := { name := "twinBack", fn := fun _ => fun
  | [d1, d2, d3, d4] => { results := [.lit (.bool true)], args := [d1, d2, d3, d4] }
  | _ => none }
def twinBackRow : OpenClaim := { program := "ytefodifmfjpnlaa", sum := "912dc6f8c456778599f578403ad413d496e8527359600c287b75ee06dbcb55d3", func := "keyhole/keyholelaw14.TwinBack", spec := "twinBack", unfollowed := true, recurses := true, apart := false }
def TwinBackSaid : Prop := twinBackRow.holds Try.pinned (OpenSpec.ofChange twinBackSpec)

/-- ITS FALSE NEIGHBOUR: 'it returns false'. Refute it at one input. -/
def twinBackWrong : ChangeSpec := { name := "twinBack", fn := fun _ => fun
  | [d1, d2, d3, d4] => { results := [.lit (.bool false)], args := [d1, d2, d3, d4] }
  | _ => none }
def TwinBackWrongFalsely : Prop := twinBackRow.holds Try.pinned (OpenSpec.ofChange twinBackWrong)

/-- 'keyholelaw14.TwinCrash': WHATEVER THE INPUT: true; the input reads as it did. -/
def twinCrashSpec : ChangeSpec := { name := "twinCrash", fn := fun _ => fun
  | [d1, d2, d3, d4, d5] => { results := [.lit (.bool true)], args := [d1, d2, d3, d4, d5] }
  | _ => none }
def twinCrashRow : OpenClaim := { program := "ytefodifmfjpnlaa", sum := "912dc6f8c456778599f578403ad413d496e8527359600c287b75ee06dbcb55d3", func := "keyhole/keyholelaw14.TwinCrash", spec := "twinCrash", unfollowed := true, recurses := true, apart := false }
def TwinCrashSaid : Prop := twinCrashRow.holds Try.pinned (OpenSpec.ofChange twinCrashSpec)

/-- ITS FALSE NEIGHBOUR: 'it returns false'. Refute it at one input. -/
def twinCrashWrong : ChangeSpec := { name := "twinCrash", fn := fun _ => fun
  | [d1, d2, d3, d4, d5] => { results := [.lit (.bool false)], args := [d1, d2, d3, d4, d5] }
  | _ => none }
def TwinCrashWrongFalsely : Prop := twinCrashRow.holds Try.pinned (OpenSpec.ofChange twinCrashWrong)

/-- 'keyholelaw14.TwinRow': WHATEVER THE INPUT: true; the input reads as it did. -/
def twinRowSpec : ChangeSpec := { name := "twinRow", fn := fun _ => fun
  | [d1, d2, d3] => { results := [.lit (.bool true)], args := [d1, d2, d3] }
  | _ => none }
def twinRowRow : OpenClaim := { program := "ytefodifmfjpnlaa", sum := "912dc6f8c456778599f578403ad413d496e8527359600c287b75ee06dbcb55d3", func := "keyhole/keyholelaw14.TwinRow", spec := "twinRow", unfollowed := true, recurses := true, apart := false }
def TwinRowSaid : Prop := twinRowRow.holds Try.pinned (OpenSpec.ofChange twinRowSpec)

/-- ITS FALSE NEIGHBOUR: 'it returns false'. Refute it at one input. -/
def twinRowWrong : ChangeSpec := { name := "twinRow", fn := fun _ => fun
  | [d1, d2, d3] => { results := [.lit (.bool false)], args := [d1, d2, d3] }
  | _ => none }
def TwinRowWrongFalsely : Prop := twinRowRow.holds Try.pinned (OpenSpec.ofChange twinRowWrong)

/-- 'keyholelaw14.TwinNone': WHATEVER THE INPUT: true; the input reads as it did. -/
def twinNoneSpec : ChangeSpec := { name := "twinNone", fn := fun _ => fun
  | [d1, d2, d3, d4] => { results := [.lit (.bool true)], args := [d1, d2, d3, d4] }
  | _ => none }
def twinNoneRow : OpenClaim := { program := "ytefodifmfjpnlaa", sum := "912dc6f8c456778599f578403ad413d496e8527359600c287b75ee06dbcb55d3", func := "keyhole/keyholelaw14.TwinNone", spec := "twinNone", unfollowed := true, recurses := true, apart := false }
def TwinNoneSaid : Prop := twinNoneRow.holds Try.pinned (OpenSpec.ofChange twinNoneSpec)

/-- ITS FALSE NEIGHBOUR: 'it returns false'. Refute it at one input. -/
def twinNoneWrong : ChangeSpec := { name := "twinNone", fn := fun _ => fun
  | [d1, d2, d3, d4] => { results := [.lit (.bool false)], args := [d1, d2, d3, d4] }
  | _ => none }
def TwinNoneWrongFalsely : Prop := twinNoneRow.holds Try.pinned (OpenSpec.ofChange twinNoneWrong)

/- THE SECOND FORM. 'bulk': how many values and letters a reading holds, each counted each time it is reached (what is shared counts as often as it is met; a slice's spare places count too). A statement '..UptoSaid' is the law's where the arguments, and the package variables that the reading takes, are together of bulk at most 1048576: NARROWER than '..Said'. Prove '..Said' where nothing that the law and all that it calls make is longer than what came in: it says more and counts as full. Else prove '..UptoSaid'. A law counts once. -/
mutual
def uptoBulk {H : Type} : DataW H → Nat
  | .lit (.string bytes) => bytes.length + 1
  | .lit _ => 1
  | .nil => 1
  | .ptr d => uptoBulk d + 1
  | .slice elems spare => uptoBulkAll elems + uptoBulkAll spare + 1
  | .agg parts => uptoBulkAll parts + 1
  | .iface _ d => uptoBulk d + 1
  | .map entries => uptoBulkEntries entries + 1
  | .held _ => 1
def uptoBulkAll {H : Type} : List (DataW H) → Nat
  | [] => 0
  | d :: r => uptoBulk d + uptoBulkAll r
def uptoBulkEntries {H : Type} : List (Lit × DataW H) → Nat
  | [] => 0
  | x :: r => uptoBulkEntry x + uptoBulkEntries r
def uptoBulkEntry {H : Type} : Lit × DataW H → Nat
  | (.string bytes, d) => bytes.length + uptoBulk d + 1
  | (_, d) => uptoBulk d + 1
 end
def uptoSmall : (H : Type) → List (DataW H) → Bool := fun _ ds => decide (uptoBulkAll ds ≤ 1048576)
def OpenSpec.upto (s : _root_.Go.ChangeSpec) : _root_.Go.OpenSpec := { _root_.Go.OpenSpec.ofChange s with cond := some uptoSmall }

/-- 'keyholelaw13.PlatterNew', WHERE WHAT IT READS IS OF BULK AT MOST 1048576: true; the input reads as it did. -/
def platterNewUptoRow : OpenClaim := { program := "ytefodifmfjpnlaa", sum := "912dc6f8c456778599f578403ad413d496e8527359600c287b75ee06dbcb55d3", func := "keyhole/keyholelaw13.PlatterNew", spec := "platterNew", unfollowed := true, recurses := true, apart := false, narrowed := true }
def PlatterNewUptoSaid : Prop := platterNewUptoRow.holds Try.pinned (OpenSpec.upto platterNewSpec)

/-- 'keyholelaw13.PlatterLast', WHERE WHAT IT READS IS OF BULK AT MOST 1048576: true; the input reads as it did. -/
def platterLastUptoRow : OpenClaim := { program := "ytefodifmfjpnlaa", sum := "912dc6f8c456778599f578403ad413d496e8527359600c287b75ee06dbcb55d3", func := "keyhole/keyholelaw13.PlatterLast", spec := "platterLast", unfollowed := true, recurses := true, apart := false, narrowed := true }
def PlatterLastUptoSaid : Prop := platterLastUptoRow.holds Try.pinned (OpenSpec.upto platterLastSpec)

/-- 'keyholelaw13.PlatterCrash', WHERE WHAT IT READS IS OF BULK AT MOST 1048576: true; the input reads as it did. -/
def platterCrashUptoRow : OpenClaim := { program := "ytefodifmfjpnlaa", sum := "912dc6f8c456778599f578403ad413d496e8527359600c287b75ee06dbcb55d3", func := "keyhole/keyholelaw13.PlatterCrash", spec := "platterCrash", unfollowed := true, recurses := true, apart := false, narrowed := true }
def PlatterCrashUptoSaid : Prop := platterCrashUptoRow.holds Try.pinned (OpenSpec.upto platterCrashSpec)

/-- 'keyholelaw13.PlatterTwice', WHERE WHAT IT READS IS OF BULK AT MOST 1048576: true; the input reads as it did. -/
def platterTwiceUptoRow : OpenClaim := { program := "ytefodifmfjpnlaa", sum := "912dc6f8c456778599f578403ad413d496e8527359600c287b75ee06dbcb55d3", func := "keyhole/keyholelaw13.PlatterTwice", spec := "platterTwice", unfollowed := true, recurses := true, apart := false, narrowed := true }
def PlatterTwiceUptoSaid : Prop := platterTwiceUptoRow.holds Try.pinned (OpenSpec.upto platterTwiceSpec)

/-- 'keyholelaw14.TwinDoes', WHERE WHAT IT READS IS OF BULK AT MOST 1048576: true; the input reads as it did. -/
def twinDoesUptoRow : OpenClaim := { program := "ytefodifmfjpnlaa", sum := "912dc6f8c456778599f578403ad413d496e8527359600c287b75ee06dbcb55d3", func := "keyhole/keyholelaw14.TwinDoes", spec := "twinDoes", unfollowed := true, recurses := true, apart := false, narrowed := true }
def TwinDoesUptoSaid : Prop := twinDoesUptoRow.holds Try.pinned (OpenSpec.upto twinDoesSpec)

/-- 'keyholelaw14.TwinBack', WHERE WHAT IT READS IS OF BULK AT MOST 1048576: true; the input reads as it did. -/
def twinBackUptoRow : OpenClaim := { program := "ytefodifmfjpnlaa", sum := "912dc6f8c456778599f578403ad413d496e8527359600c287b75ee06dbcb55d3", func := "keyhole/keyholelaw14.TwinBack", spec := "twinBack", unfollowed := true, recurses := true, apart := false, narrowed := true }
def TwinBackUptoSaid : Prop := twinBackUptoRow.holds Try.pinned (OpenSpec.upto twinBackSpec)

/-- 'keyholelaw14.TwinCrash', WHERE WHAT IT READS IS OF BULK AT MOST 1048576: true; the input reads as it did. -/
def twinCrashUptoRow : OpenClaim := { program := "ytefodifmfjpnlaa", sum := "912dc6f8c456778599f578403ad413d496e8527359600c287b75ee06dbcb55d3", func := "keyhole/keyholelaw14.TwinCrash", spec := "twinCrash", unfollowed := true, recurses := true, apart := false, narrowed := true }
def TwinCrashUptoSaid : Prop := twinCrashUptoRow.holds Try.pinned (OpenSpec.upto twinCrashSpec)

/-- 'keyholelaw14.TwinRow', WHERE WHAT IT READS IS OF BULK AT MOST 1048576: true; the input reads as it did. -/
def twinRowUptoRow : OpenClaim := { program := "ytefodifmfjpnlaa", sum := "912dc6f8c456778599f578403ad413d496e8527359600c287b75ee06dbcb55d3", func := "keyhole/keyholelaw14.TwinRow", spec := "twinRow", unfollowed := true, recurses := true, apart := false, narrowed := true }
def TwinRowUptoSaid : Prop := twinRowUptoRow.holds Try.pinned (OpenSpec.upto twinRowSpec)

/-- 'keyholelaw14.TwinNone', WHERE WHAT IT READS IS OF BULK AT MOST 1048576: true; the input reads as it did. -/
def twinNoneUptoRow : OpenClaim := { program := "ytefodifmfjpnlaa", sum := "912dc6f8c456778599f578403ad413d496e8527359600c287b75ee06dbcb55d3", func := "keyhole/keyholelaw14.TwinNone", spec := "twinNone", unfollowed := true, recurses := true, apart := false, narrowed := true }
def TwinNoneUptoSaid : Prop := twinNoneUptoRow.holds Try.pinned (OpenSpec.upto twinNoneSpec)

end Rows
end Go.Proofs.Ytefodifmfjpnlaa
