/-
  DERIVED. GIVEN WITH THE SEED: THE CARDS: each row of YtbgohcedakpnbaaDoorRows.lean that lists a variable, with what it lists TIED to the program's text (the seventh form; the later family's looks); each row that meets fmt, with fmt's text TOLD by the authors' own Lean function (tested against real Go, not proved from fmt's source: count such statements apart). THE CARD IS WHAT COUNTS. Prove the row's statement (the work); the ties are given (YtbgohcedakpnbaaDoorTie.lean); close each card by the builder's one call (the guide's Derived/Test/ToyasCard.lean, 'card_holds'). Laid BY PROGRAM, IN A SANDBOX (cutbox-door.mjs). By AI agents, Wed Nov 11 2026. No macro, syntax, notation, axiom, sorry.
-/
import Derived.Test.YtbgohcedakpnbaaDoorRows
import GoSem.ClaimSeven
namespace Go.Proofs.YtbgohcedakpnbaaDoor
namespace Rows

/-- THE TIED CARD OF 'keyholelaw18.MemberPrints'. -/
def memberPrintsCard : Claim7 := { stood := { row := memberPrintsRow, standIns := [], harness := (true, "3695b007b7e912b34b3a516417d140512a7cf7f91138e4fe51c29444435a1c08"), looks := true }, kinds := [], alts := [], laidByText := true, laidKinds := [.data, .data, .data, .sentinel, .sentinel], laidTests := true, laidLooks := .later }
def MemberPrintsCardSaid : Prop := Claim7.holds Tryd.pinned (.plain (OpenSpec.ofChange memberPrintsSpec)) memberPrintsCard

/-- THE TIED CARD OF 'keyholelaw18.MemberPlaces'. -/
def memberPlacesCard : Claim7 := { stood := { row := memberPlacesRow, standIns := [], harness := (true, "3695b007b7e912b34b3a516417d140512a7cf7f91138e4fe51c29444435a1c08"), looks := true }, kinds := [], alts := [], laidByText := true, laidKinds := [.data, .data, .data, .sentinel, .sentinel], laidTests := true, laidLooks := .later }
def MemberPlacesCardSaid : Prop := Claim7.holds Tryd.pinned (.plain (OpenSpec.ofChange memberPlacesSpec)) memberPlacesCard

/-- THE TIED CARD OF 'keyholelaw18.MemberLess'. -/
def memberLessCard : Claim7 := { stood := { row := memberLessRow, standIns := [], harness := (true, "3695b007b7e912b34b3a516417d140512a7cf7f91138e4fe51c29444435a1c08"), looks := true }, kinds := [], alts := [], laidByText := true, laidKinds := [.data, .data, .data, .sentinel, .sentinel], laidTests := true, laidLooks := .later }
def MemberLessCardSaid : Prop := Claim7.holds Tryd.pinned (.plain (OpenSpec.ofChange memberLessSpec)) memberLessCard

/-- THE TIED CARD OF 'keyholelaw20.SessionOnce'. -/
def sessionOnceCard : Claim7 := { stood := { row := sessionOnceRow, standIns := [], harness := (true, "3695b007b7e912b34b3a516417d140512a7cf7f91138e4fe51c29444435a1c08"), looks := true }, kinds := [], alts := [], laidByText := true, laidKinds := [.data, .data], laidTests := true, laidLooks := .later }
def SessionOnceCardSaid : Prop := Claim7.holds Tryd.pinned (.plain (OpenSpec.ofChange sessionOnceSpec)) sessionOnceCard

/-- THE TIED CARD OF 'keyholelaw20.SessionEnds'. -/
def sessionEndsCard : Claim7 := { stood := { row := sessionEndsRow, standIns := [], harness := (true, "3695b007b7e912b34b3a516417d140512a7cf7f91138e4fe51c29444435a1c08"), looks := true }, kinds := [], alts := [], laidByText := true, laidKinds := [.data, .data], laidTests := true, laidLooks := .later }
def SessionEndsCardSaid : Prop := Claim7.holds Tryd.pinned (.plain (OpenSpec.ofChange sessionEndsSpec)) sessionEndsCard

/-- THE TIED CARD OF 'keyholelaw20.SessionLost'. -/
def sessionLostCard : Claim7 := { stood := { row := sessionLostRow, standIns := [], harness := (true, "3695b007b7e912b34b3a516417d140512a7cf7f91138e4fe51c29444435a1c08"), looks := true }, kinds := [], alts := [], laidByText := true, laidKinds := [.data, .data], laidTests := true, laidLooks := .later }
def SessionLostCardSaid : Prop := Claim7.holds Tryd.pinned (.plain (OpenSpec.ofChange sessionLostSpec)) sessionLostCard

/-- THE TIED CARD OF 'keyholelaw20.SessionPairs'. -/
def sessionPairsCard : Claim7 := { stood := { row := sessionPairsRow, standIns := [], harness := (true, "3695b007b7e912b34b3a516417d140512a7cf7f91138e4fe51c29444435a1c08"), looks := true }, kinds := [], alts := [], laidByText := true, laidKinds := [.data, .data], laidTests := true, laidLooks := .later }
def SessionPairsCardSaid : Prop := Claim7.holds Tryd.pinned (.plain (OpenSpec.ofChange sessionPairsSpec)) sessionPairsCard

/-- THE SECOND FORM's CARD OF 'keyholelaw18.MemberPrints'. -/
def memberPrintsUptoCard : Claim7 := { stood := { row := memberPrintsUptoRow, standIns := [], harness := (true, "3695b007b7e912b34b3a516417d140512a7cf7f91138e4fe51c29444435a1c08"), looks := true }, kinds := [], alts := [], laidByText := true, laidKinds := [.data, .data, .data, .sentinel, .sentinel], laidTests := true, laidLooks := .later }
def MemberPrintsUptoCardSaid : Prop := Claim7.holds Tryd.pinned (.plain (OpenSpec.upto memberPrintsSpec)) memberPrintsUptoCard

/-- THE SECOND FORM's CARD OF 'keyholelaw18.MemberPlaces'. -/
def memberPlacesUptoCard : Claim7 := { stood := { row := memberPlacesUptoRow, standIns := [], harness := (true, "3695b007b7e912b34b3a516417d140512a7cf7f91138e4fe51c29444435a1c08"), looks := true }, kinds := [], alts := [], laidByText := true, laidKinds := [.data, .data, .data, .sentinel, .sentinel], laidTests := true, laidLooks := .later }
def MemberPlacesUptoCardSaid : Prop := Claim7.holds Tryd.pinned (.plain (OpenSpec.upto memberPlacesSpec)) memberPlacesUptoCard

/-- THE SECOND FORM's CARD OF 'keyholelaw18.MemberLess'. -/
def memberLessUptoCard : Claim7 := { stood := { row := memberLessUptoRow, standIns := [], harness := (true, "3695b007b7e912b34b3a516417d140512a7cf7f91138e4fe51c29444435a1c08"), looks := true }, kinds := [], alts := [], laidByText := true, laidKinds := [.data, .data, .data, .sentinel, .sentinel], laidTests := true, laidLooks := .later }
def MemberLessUptoCardSaid : Prop := Claim7.holds Tryd.pinned (.plain (OpenSpec.upto memberLessSpec)) memberLessUptoCard

/-- THE SECOND FORM's CARD OF 'keyholelaw20.SessionOnce'. -/
def sessionOnceUptoCard : Claim7 := { stood := { row := sessionOnceUptoRow, standIns := [], harness := (true, "3695b007b7e912b34b3a516417d140512a7cf7f91138e4fe51c29444435a1c08"), looks := true }, kinds := [], alts := [], laidByText := true, laidKinds := [.data, .data], laidTests := true, laidLooks := .later }
def SessionOnceUptoCardSaid : Prop := Claim7.holds Tryd.pinned (.plain (OpenSpec.upto sessionOnceSpec)) sessionOnceUptoCard

/-- THE SECOND FORM's CARD OF 'keyholelaw20.SessionEnds'. -/
def sessionEndsUptoCard : Claim7 := { stood := { row := sessionEndsUptoRow, standIns := [], harness := (true, "3695b007b7e912b34b3a516417d140512a7cf7f91138e4fe51c29444435a1c08"), looks := true }, kinds := [], alts := [], laidByText := true, laidKinds := [.data, .data], laidTests := true, laidLooks := .later }
def SessionEndsUptoCardSaid : Prop := Claim7.holds Tryd.pinned (.plain (OpenSpec.upto sessionEndsSpec)) sessionEndsUptoCard

/-- THE SECOND FORM's CARD OF 'keyholelaw20.SessionLost'. -/
def sessionLostUptoCard : Claim7 := { stood := { row := sessionLostUptoRow, standIns := [], harness := (true, "3695b007b7e912b34b3a516417d140512a7cf7f91138e4fe51c29444435a1c08"), looks := true }, kinds := [], alts := [], laidByText := true, laidKinds := [.data, .data], laidTests := true, laidLooks := .later }
def SessionLostUptoCardSaid : Prop := Claim7.holds Tryd.pinned (.plain (OpenSpec.upto sessionLostSpec)) sessionLostUptoCard

/-- THE SECOND FORM's CARD OF 'keyholelaw20.SessionPairs'. -/
def sessionPairsUptoCard : Claim7 := { stood := { row := sessionPairsUptoRow, standIns := [], harness := (true, "3695b007b7e912b34b3a516417d140512a7cf7f91138e4fe51c29444435a1c08"), looks := true }, kinds := [], alts := [], laidByText := true, laidKinds := [.data, .data], laidTests := true, laidLooks := .later }
def SessionPairsUptoCardSaid : Prop := Claim7.holds Tryd.pinned (.plain (OpenSpec.upto sessionPairsSpec)) sessionPairsUptoCard
end Rows
end Go.Proofs.YtbgohcedakpnbaaDoor
