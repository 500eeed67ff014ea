/-
  DERIVED. GIVEN WITH THE SEED: THE CARDS: each row of YtefodifmfjpnlaaDoorRows.lean that lists a variable, with what it lists TIED to the program's text (the seventh form; the later family's looks); each row that meets fmt, with fmt's text TOLD by the authors' own Lean function (tested against real Go, not proved from fmt's source: count such statements apart). THE CARD IS WHAT COUNTS. Prove the row's statement (the work); the ties are given (YtefodifmfjpnlaaDoorTie.lean); close each card by the builder's one call (the guide's Derived/Test/ToyasCard.lean, 'card_holds'). Laid BY PROGRAM, IN A SANDBOX (cutbox-door.mjs). By AI agents, Wed Nov 11 2026. No macro, syntax, notation, axiom, sorry.
-/
import Derived.Test.YtefodifmfjpnlaaDoorRows
import GoSem.ClaimSeven
namespace Go.Proofs.YtefodifmfjpnlaaDoor
namespace Rows

/-- THE TIED CARD OF 'keyholelaw15.NonceOpens'. -/
def nonceOpensCard : Claim7 := { stood := { row := nonceOpensRow, standIns := [], harness := (true, "fac4d2d77dabf9fc87e73c1e81448063205d728147922d39cc38307206e0fd88"), looks := false }, kinds := [], alts := [], laidByText := true, laidKinds := [.data, .data, .data], laidTests := true, laidLooks := .later }
def NonceOpensCardSaid : Prop := Claim7.holds Tryd.pinned (.plain (OpenSpec.ofChange nonceOpensSpec)) nonceOpensCard

/-- THE TIED CARD OF 'keyholelaw15.NonceNext'. -/
def nonceNextCard : Claim7 := { stood := { row := nonceNextRow, standIns := [], harness := (true, "fac4d2d77dabf9fc87e73c1e81448063205d728147922d39cc38307206e0fd88"), looks := false }, kinds := [], alts := [], laidByText := true, laidKinds := [.data, .data, .data], laidTests := true, laidLooks := .later }
def NonceNextCardSaid : Prop := Claim7.holds Tryd.pinned (.plain (OpenSpec.ofChange nonceNextSpec)) nonceNextCard

/-- THE TIED CARD OF 'keyholelaw15.NonceOrder'. -/
def nonceOrderCard : Claim7 := { stood := { row := nonceOrderRow, standIns := [], harness := (true, "fac4d2d77dabf9fc87e73c1e81448063205d728147922d39cc38307206e0fd88"), looks := false }, kinds := [], alts := [], laidByText := true, laidKinds := [.data, .data, .data], laidTests := true, laidLooks := .later }
def NonceOrderCardSaid : Prop := Claim7.holds Tryd.pinned (.plain (OpenSpec.ofChange nonceOrderSpec)) nonceOrderCard

/-- THE TIED CARD OF 'keyholelaw15.NonceAhead'. -/
def nonceAheadCard : Claim7 := { stood := { row := nonceAheadRow, standIns := [], harness := (true, "fac4d2d77dabf9fc87e73c1e81448063205d728147922d39cc38307206e0fd88"), looks := false }, kinds := [], alts := [], laidByText := true, laidKinds := [.data, .data, .data], laidTests := true, laidLooks := .later }
def NonceAheadCardSaid : Prop := Claim7.holds Tryd.pinned (.plain (OpenSpec.ofChange nonceAheadSpec)) nonceAheadCard

/-- THE TIED CARD OF 'keyholelaw15.NonceFresh'. -/
def nonceFreshCard : Claim7 := { stood := { row := nonceFreshRow, standIns := [], harness := (true, "fac4d2d77dabf9fc87e73c1e81448063205d728147922d39cc38307206e0fd88"), looks := false }, kinds := [], alts := [], laidByText := true, laidKinds := [.data, .data, .data], laidTests := true, laidLooks := .later }
def NonceFreshCardSaid : Prop := Claim7.holds Tryd.pinned (.plain (OpenSpec.ofChange nonceFreshSpec)) nonceFreshCard

/-- THE SECOND FORM's CARD OF 'keyholelaw15.NonceOpens'. -/
def nonceOpensUptoCard : Claim7 := { stood := { row := nonceOpensUptoRow, standIns := [], harness := (true, "fac4d2d77dabf9fc87e73c1e81448063205d728147922d39cc38307206e0fd88"), looks := false }, kinds := [], alts := [], laidByText := true, laidKinds := [.data, .data, .data], laidTests := true, laidLooks := .later }
def NonceOpensUptoCardSaid : Prop := Claim7.holds Tryd.pinned (.plain (OpenSpec.upto nonceOpensSpec)) nonceOpensUptoCard

/-- THE SECOND FORM's CARD OF 'keyholelaw15.NonceNext'. -/
def nonceNextUptoCard : Claim7 := { stood := { row := nonceNextUptoRow, standIns := [], harness := (true, "fac4d2d77dabf9fc87e73c1e81448063205d728147922d39cc38307206e0fd88"), looks := false }, kinds := [], alts := [], laidByText := true, laidKinds := [.data, .data, .data], laidTests := true, laidLooks := .later }
def NonceNextUptoCardSaid : Prop := Claim7.holds Tryd.pinned (.plain (OpenSpec.upto nonceNextSpec)) nonceNextUptoCard

/-- THE SECOND FORM's CARD OF 'keyholelaw15.NonceOrder'. -/
def nonceOrderUptoCard : Claim7 := { stood := { row := nonceOrderUptoRow, standIns := [], harness := (true, "fac4d2d77dabf9fc87e73c1e81448063205d728147922d39cc38307206e0fd88"), looks := false }, kinds := [], alts := [], laidByText := true, laidKinds := [.data, .data, .data], laidTests := true, laidLooks := .later }
def NonceOrderUptoCardSaid : Prop := Claim7.holds Tryd.pinned (.plain (OpenSpec.upto nonceOrderSpec)) nonceOrderUptoCard

/-- THE SECOND FORM's CARD OF 'keyholelaw15.NonceAhead'. -/
def nonceAheadUptoCard : Claim7 := { stood := { row := nonceAheadUptoRow, standIns := [], harness := (true, "fac4d2d77dabf9fc87e73c1e81448063205d728147922d39cc38307206e0fd88"), looks := false }, kinds := [], alts := [], laidByText := true, laidKinds := [.data, .data, .data], laidTests := true, laidLooks := .later }
def NonceAheadUptoCardSaid : Prop := Claim7.holds Tryd.pinned (.plain (OpenSpec.upto nonceAheadSpec)) nonceAheadUptoCard

/-- THE SECOND FORM's CARD OF 'keyholelaw15.NonceFresh'. -/
def nonceFreshUptoCard : Claim7 := { stood := { row := nonceFreshUptoRow, standIns := [], harness := (true, "fac4d2d77dabf9fc87e73c1e81448063205d728147922d39cc38307206e0fd88"), looks := false }, kinds := [], alts := [], laidByText := true, laidKinds := [.data, .data, .data], laidTests := true, laidLooks := .later }
def NonceFreshUptoCardSaid : Prop := Claim7.holds Tryd.pinned (.plain (OpenSpec.upto nonceFreshSpec)) nonceFreshUptoCard
end Rows
end Go.Proofs.YtefodifmfjpnlaaDoor
