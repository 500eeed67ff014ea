/-
  DERIVED. GIVEN WITH THE SEED: THE CARDS: each row of YtbgohcedakpnbaaGreatDoorRows.lean that lists a variable, with what it lists TIED to the program's text (the seventh form; the later family's looks); each row that meets fmt, with fmt's text TOLD by the authors' own Lean function (tested against real Go, not proved from fmt's source: count such statements apart). THE CARD IS WHAT COUNTS. Prove the row's statement (the work); the ties are given (YtbgohcedakpnbaaGreatDoorTie.lean); close each card by the builder's one call (the guide's Derived/Test/ToyasCard.lean, 'card_holds'). Laid BY PROGRAM, IN A SANDBOX (cutbox-door.mjs). By AI agents, Wed Nov 11 2026. No macro, syntax, notation, axiom, sorry.
-/
import Derived.Test.YtbgohcedakpnbaaGreatDoorRows
import GoSem.ClaimSeven
namespace Go.Proofs.YtbgohcedakpnbaaGreatDoor
namespace Rows

/-- THE TIED CARD OF 'keyholelaw18.MemberBack'. -/
def memberBackCard : Claim7 := { stood := { row := memberBackRow, standIns := [], harness := (true, "c5098c09c58f3296a68f41d37e0c21b85ecf279a07b0d5ba871ce8b6fee2f3b1"), looks := true }, kinds := [], alts := [], laidByText := true, laidKinds := [.data, .data, .data, .data, .sentinel, .sentinel], laidTests := true, laidLooks := .later }
def MemberBackCardSaid : Prop := Claim7.holds Tryz.pinned (.plain (OpenSpec.ofChange memberBackSpec)) memberBackCard

/-- THE SECOND FORM's CARD OF 'keyholelaw18.MemberBack'. -/
def memberBackUptoCard : Claim7 := { stood := { row := memberBackUptoRow, standIns := [], harness := (true, "c5098c09c58f3296a68f41d37e0c21b85ecf279a07b0d5ba871ce8b6fee2f3b1"), looks := true }, kinds := [], alts := [], laidByText := true, laidKinds := [.data, .data, .data, .data, .sentinel, .sentinel], laidTests := true, laidLooks := .later }
def MemberBackUptoCardSaid : Prop := Claim7.holds Tryz.pinned (.plain (OpenSpec.upto memberBackSpec)) memberBackUptoCard
end Rows
end Go.Proofs.YtbgohcedakpnbaaGreatDoor
