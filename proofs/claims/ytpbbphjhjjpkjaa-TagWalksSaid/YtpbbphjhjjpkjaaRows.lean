/-
  No cell of these rows narrows 'for every input' (looked for: loops, veiled, ifaces, maps, wideKeys, modest, calm, conditions, laid).
  DERIVED. THE GIVEN ROWS OF THIS SEAT. 3 by the template 'for every input the law returns true; each argument reads behind the call as it read before'; 0 by the template 'total and deterministic' (their statements: YtpbbphjhjjpkjaaTotals.lean).
  GIVEN WITH THE SEED: the statements are not yours to turn. If you find one false, say at which input.
  Laid BY PROGRAM, IN A SANDBOX (cutbox-rows.mjs): the forced cells as the released guide's own fill.sh prints them over the translation 08b39c03c90a3b9c… (all of the seat's roots in one cut). By AI agents, Wed Nov 11 2026. No macro, syntax, notation, axiom, sorry.
-/
import Derived.Test.YtpbbphjhjjpkjaaChecked
import GoSem.Claim
import GoSem.ClaimJoined
import GoSem.ClaimMapViews
import Derived.JoinedTies
import Derived.KernelRfl
namespace Go.Proofs.Ytpbbphjhjjpkjaa
/- THE CELL 'sum', in the pinned program and in every row, IS THE sha256 OF THE DUMP (.gsa) THAT YtpbbphjhjjpkjaaProg.lean LOADS. Nothing in Lean hashes anything: it is a label: what it is worth is what the hold of that sum in a sandbox is worth. -/
noncomputable def Try.pinned : Pinned := { name := "ytpbbphjhjjpkjaa", sum := "08b39c03c90a3b9cfaed49f3821bf9b1f516a21f8a9cdf046be1de973198ba21", checked := Try.checked }
namespace Rows
def none {H : Type} : Left H := { results := [], args := [] }

/-- 'keyholelaw05.TagWalks': WHATEVER THE INPUT: true; the input reads as it did. -/
def tagWalksSpec : ChangeSpec := { name := "tagWalks", fn := fun _ => fun
  | [d1, d2] => { results := [.lit (.bool true)], args := [d1, d2] }
  | _ => none }
def tagWalksRow : OpenClaim := { program := "ytpbbphjhjjpkjaa", sum := "08b39c03c90a3b9cfaed49f3821bf9b1f516a21f8a9cdf046be1de973198ba21", func := "keyhole/keyholelaw05.TagWalks", spec := "tagWalks", unfollowed := true, recurses := true, apart := false }
def TagWalksSaid : Prop := tagWalksRow.holds Try.pinned (OpenSpec.ofChange tagWalksSpec)

/-- ITS FALSE NEIGHBOUR: 'it returns false'. Refute it at one input. -/
def tagWalksWrong : ChangeSpec := { name := "tagWalks", fn := fun _ => fun
  | [d1, d2] => { results := [.lit (.bool false)], args := [d1, d2] }
  | _ => none }
def TagWalksWrongFalsely : Prop := tagWalksRow.holds Try.pinned (OpenSpec.ofChange tagWalksWrong)

/-- 'keyholelaw05.TagZeros': WHATEVER THE INPUT: true; the input reads as it did. -/
def tagZerosSpec : ChangeSpec := { name := "tagZeros", fn := fun _ => fun
  | [d1, d2, d3] => { results := [.lit (.bool true)], args := [d1, d2, d3] }
  | _ => none }
def tagZerosRow : OpenClaim := { program := "ytpbbphjhjjpkjaa", sum := "08b39c03c90a3b9cfaed49f3821bf9b1f516a21f8a9cdf046be1de973198ba21", func := "keyhole/keyholelaw05.TagZeros", spec := "tagZeros", unfollowed := true, recurses := true, apart := false }
def TagZerosSaid : Prop := tagZerosRow.holds Try.pinned (OpenSpec.ofChange tagZerosSpec)

/-- ITS FALSE NEIGHBOUR: 'it returns false'. Refute it at one input. -/
def tagZerosWrong : ChangeSpec := { name := "tagZeros", fn := fun _ => fun
  | [d1, d2, d3] => { results := [.lit (.bool false)], args := [d1, d2, d3] }
  | _ => none }
def TagZerosWrongFalsely : Prop := tagZerosRow.holds Try.pinned (OpenSpec.ofChange tagZerosWrong)

/-- 'keyholelaw05.TagEmpty': WHATEVER THE INPUT: true; the input reads as it did. -/
def tagEmptySpec : ChangeSpec := { name := "tagEmpty", fn := fun _ => fun
  | [d1, d2] => { results := [.lit (.bool true)], args := [d1, d2] }
  | _ => none }
def tagEmptyRow : OpenClaim := { program := "ytpbbphjhjjpkjaa", sum := "08b39c03c90a3b9cfaed49f3821bf9b1f516a21f8a9cdf046be1de973198ba21", func := "keyhole/keyholelaw05.TagEmpty", spec := "tagEmpty", unfollowed := true, recurses := true, apart := false }
def TagEmptySaid : Prop := tagEmptyRow.holds Try.pinned (OpenSpec.ofChange tagEmptySpec)

/-- ITS FALSE NEIGHBOUR: 'it returns false'. Refute it at one input. -/
def tagEmptyWrong : ChangeSpec := { name := "tagEmpty", fn := fun _ => fun
  | [d1, d2] => { results := [.lit (.bool false)], args := [d1, d2] }
  | _ => none }
def TagEmptyWrongFalsely : Prop := tagEmptyRow.holds Try.pinned (OpenSpec.ofChange tagEmptyWrong)

/- THE SECOND FORM. 'bulk': how many values and letters a reading holds, each counted each time it is reached (what is shared counts as often as it is met; a slice's spare places count too). A statement '..UptoSaid' is the law's where the arguments, and the package variables that the reading takes, are together of bulk at most 1048576: NARROWER than '..Said'. Prove '..Said' where nothing that the law and all that it calls make is longer than what came in: it says more and counts as full. Else prove '..UptoSaid'. A law counts once. -/
mutual
def uptoBulk {H : Type} : DataW H → Nat
  | .lit (.string bytes) => bytes.length + 1
  | .lit _ => 1
  | .nil => 1
  | .ptr d => uptoBulk d + 1
  | .slice elems spare => uptoBulkAll elems + uptoBulkAll spare + 1
  | .agg parts => uptoBulkAll parts + 1
  | .iface _ d => uptoBulk d + 1
  | .map entries => uptoBulkEntries entries + 1
  | .held _ => 1
def uptoBulkAll {H : Type} : List (DataW H) → Nat
  | [] => 0
  | d :: r => uptoBulk d + uptoBulkAll r
def uptoBulkEntries {H : Type} : List (Lit × DataW H) → Nat
  | [] => 0
  | x :: r => uptoBulkEntry x + uptoBulkEntries r
def uptoBulkEntry {H : Type} : Lit × DataW H → Nat
  | (.string bytes, d) => bytes.length + uptoBulk d + 1
  | (_, d) => uptoBulk d + 1
 end
def uptoSmall : (H : Type) → List (DataW H) → Bool := fun _ ds => decide (uptoBulkAll ds ≤ 1048576)
def OpenSpec.upto (s : _root_.Go.ChangeSpec) : _root_.Go.OpenSpec := { _root_.Go.OpenSpec.ofChange s with cond := some uptoSmall }

/-- 'keyholelaw05.TagWalks', WHERE WHAT IT READS IS OF BULK AT MOST 1048576: true; the input reads as it did. -/
def tagWalksUptoRow : OpenClaim := { program := "ytpbbphjhjjpkjaa", sum := "08b39c03c90a3b9cfaed49f3821bf9b1f516a21f8a9cdf046be1de973198ba21", func := "keyhole/keyholelaw05.TagWalks", spec := "tagWalks", unfollowed := true, recurses := true, apart := false, narrowed := true }
def TagWalksUptoSaid : Prop := tagWalksUptoRow.holds Try.pinned (OpenSpec.upto tagWalksSpec)

/-- 'keyholelaw05.TagZeros', WHERE WHAT IT READS IS OF BULK AT MOST 1048576: true; the input reads as it did. -/
def tagZerosUptoRow : OpenClaim := { program := "ytpbbphjhjjpkjaa", sum := "08b39c03c90a3b9cfaed49f3821bf9b1f516a21f8a9cdf046be1de973198ba21", func := "keyhole/keyholelaw05.TagZeros", spec := "tagZeros", unfollowed := true, recurses := true, apart := false, narrowed := true }
def TagZerosUptoSaid : Prop := tagZerosUptoRow.holds Try.pinned (OpenSpec.upto tagZerosSpec)

/-- 'keyholelaw05.TagEmpty', WHERE WHAT IT READS IS OF BULK AT MOST 1048576: true; the input reads as it did. -/
def tagEmptyUptoRow : OpenClaim := { program := "ytpbbphjhjjpkjaa", sum := "08b39c03c90a3b9cfaed49f3821bf9b1f516a21f8a9cdf046be1de973198ba21", func := "keyhole/keyholelaw05.TagEmpty", spec := "tagEmpty", unfollowed := true, recurses := true, apart := false, narrowed := true }
def TagEmptyUptoSaid : Prop := tagEmptyUptoRow.holds Try.pinned (OpenSpec.upto tagEmptySpec)

end Rows
end Go.Proofs.Ytpbbphjhjjpkjaa
