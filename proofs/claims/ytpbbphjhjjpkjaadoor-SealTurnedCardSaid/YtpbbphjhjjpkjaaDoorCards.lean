/-
  DERIVED. GIVEN WITH THE SEED: THE CARDS: each row of YtpbbphjhjjpkjaaDoorRows.lean that lists a variable, with what it lists TIED to the program's text (the seventh form; the later family's looks); each row that meets fmt, with fmt's text TOLD by the authors' own Lean function (tested against real Go, not proved from fmt's source: count such statements apart). THE CARD IS WHAT COUNTS. Prove the row's statement (the work); the ties are given (YtpbbphjhjjpkjaaDoorTie.lean); close each card by the builder's one call (the guide's Derived/Test/ToyasCard.lean, 'card_holds'). Laid BY PROGRAM, IN A SANDBOX (cutbox-door.mjs). By AI agents, Wed Nov 11 2026. No macro, syntax, notation, axiom, sorry.
-/
import Derived.Test.YtpbbphjhjjpkjaaDoorRows
import GoSem.ClaimSeven
namespace Go.Proofs.YtpbbphjhjjpkjaaDoor
namespace Rows

/-- THE TIED CARD OF 'keyholelaw06.SealBack'. -/
def sealBackCard : Claim7 := { stood := { row := sealBackRow, standIns := [], harness := (true, "3152292dfd5570da5e537cb8d87e31f66b11ed8acbe2c645c469d5391921f85e"), looks := false }, kinds := [], alts := [], laidByText := true, laidKinds := [.data], laidTests := true, laidLooks := .later }
def SealBackCardSaid : Prop := Claim7.holds Tryd.pinned (.plain (OpenSpec.ofChange sealBackSpec)) sealBackCard

/-- THE TIED CARD OF 'keyholelaw06.SealTurned'. -/
def sealTurnedCard : Claim7 := { stood := { row := sealTurnedRow, standIns := [], harness := (true, "3152292dfd5570da5e537cb8d87e31f66b11ed8acbe2c645c469d5391921f85e"), looks := false }, kinds := [], alts := [], laidByText := true, laidKinds := [.data], laidTests := true, laidLooks := .later }
def SealTurnedCardSaid : Prop := Claim7.holds Tryd.pinned (.plain (OpenSpec.ofChange sealTurnedSpec)) sealTurnedCard

/-- THE TIED CARD OF 'keyholelaw06.SealWhole'. -/
def sealWholeCard : Claim7 := { stood := { row := sealWholeRow, standIns := [], harness := (true, "3152292dfd5570da5e537cb8d87e31f66b11ed8acbe2c645c469d5391921f85e"), looks := false }, kinds := [], alts := [], laidByText := true, laidKinds := [.data], laidTests := true, laidLooks := .later }
def SealWholeCardSaid : Prop := Claim7.holds Tryd.pinned (.plain (OpenSpec.ofChange sealWholeSpec)) sealWholeCard

/-- THE SECOND FORM's CARD OF 'keyholelaw06.SealBack'. -/
def sealBackUptoCard : Claim7 := { stood := { row := sealBackUptoRow, standIns := [], harness := (true, "3152292dfd5570da5e537cb8d87e31f66b11ed8acbe2c645c469d5391921f85e"), looks := false }, kinds := [], alts := [], laidByText := true, laidKinds := [.data], laidTests := true, laidLooks := .later }
def SealBackUptoCardSaid : Prop := Claim7.holds Tryd.pinned (.plain (OpenSpec.upto sealBackSpec)) sealBackUptoCard

/-- THE SECOND FORM's CARD OF 'keyholelaw06.SealTurned'. -/
def sealTurnedUptoCard : Claim7 := { stood := { row := sealTurnedUptoRow, standIns := [], harness := (true, "3152292dfd5570da5e537cb8d87e31f66b11ed8acbe2c645c469d5391921f85e"), looks := false }, kinds := [], alts := [], laidByText := true, laidKinds := [.data], laidTests := true, laidLooks := .later }
def SealTurnedUptoCardSaid : Prop := Claim7.holds Tryd.pinned (.plain (OpenSpec.upto sealTurnedSpec)) sealTurnedUptoCard

/-- THE SECOND FORM's CARD OF 'keyholelaw06.SealWhole'. -/
def sealWholeUptoCard : Claim7 := { stood := { row := sealWholeUptoRow, standIns := [], harness := (true, "3152292dfd5570da5e537cb8d87e31f66b11ed8acbe2c645c469d5391921f85e"), looks := false }, kinds := [], alts := [], laidByText := true, laidKinds := [.data], laidTests := true, laidLooks := .later }
def SealWholeUptoCardSaid : Prop := Claim7.holds Tryd.pinned (.plain (OpenSpec.upto sealWholeSpec)) sealWholeUptoCard
end Rows
end Go.Proofs.YtpbbphjhjjpkjaaDoor
