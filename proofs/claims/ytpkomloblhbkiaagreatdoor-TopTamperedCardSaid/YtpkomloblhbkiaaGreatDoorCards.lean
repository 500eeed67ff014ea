/-
  DERIVED. GIVEN WITH THE SEED: THE CARDS: each row of YtpkomloblhbkiaaGreatDoorRows.lean that lists a variable, with what it lists TIED to the program's text (the seventh form; the later family's looks); each row that meets fmt, with fmt's text TOLD by the authors' own Lean function (tested against real Go, not proved from fmt's source: count such statements apart). THE CARD IS WHAT COUNTS. Prove the row's statement (the work); the ties are given (YtpkomloblhbkiaaGreatDoorTie.lean); close each card by the builder's one call (the guide's Derived/Test/ToyasCard.lean, 'card_holds'). Laid BY PROGRAM, IN A SANDBOX (cutbox-door.mjs). By AI agents, Wed Nov 11 2026. No macro, syntax, notation, axiom, sorry.
-/
import Derived.Test.YtpkomloblhbkiaaGreatDoorRows
import GoSem.ClaimSeven
namespace Go.Proofs.YtpkomloblhbkiaaGreatDoor
namespace Rows

/-- THE TIED CARD OF 'keyholetop.TopVault'. -/
def topVaultCard : Claim7 := { stood := { row := topVaultRow, standIns := [], harness := (true, "5f44dd4d95a317aeee76e0492593b9f222ec1d8a9a3a40476510e69d7c5df91c"), looks := false }, kinds := [], alts := [], laidByText := true, laidKinds := [.data, .data, .data, .data, .data], laidTests := true, laidLooks := .later }
def TopVaultCardSaid : Prop := Claim7.holds Tryz.pinned (.plain (OpenSpec.ofChange topVaultSpec)) topVaultCard

/-- THE TIED CARD OF 'keyholetop.TopTampered'. -/
def topTamperedCard : Claim7 := { stood := { row := topTamperedRow, standIns := [], harness := (true, "5f44dd4d95a317aeee76e0492593b9f222ec1d8a9a3a40476510e69d7c5df91c"), looks := false }, kinds := [], alts := [], laidByText := true, laidKinds := [.data, .data, .data, .data, .data], laidTests := true, laidLooks := .later }
def TopTamperedCardSaid : Prop := Claim7.holds Tryz.pinned (.plain (OpenSpec.ofChange topTamperedSpec)) topTamperedCard

/-- THE SECOND FORM's CARD OF 'keyholetop.TopVault'. -/
def topVaultUptoCard : Claim7 := { stood := { row := topVaultUptoRow, standIns := [], harness := (true, "5f44dd4d95a317aeee76e0492593b9f222ec1d8a9a3a40476510e69d7c5df91c"), looks := false }, kinds := [], alts := [], laidByText := true, laidKinds := [.data, .data, .data, .data, .data], laidTests := true, laidLooks := .later }
def TopVaultUptoCardSaid : Prop := Claim7.holds Tryz.pinned (.plain (OpenSpec.upto topVaultSpec)) topVaultUptoCard

/-- THE SECOND FORM's CARD OF 'keyholetop.TopTampered'. -/
def topTamperedUptoCard : Claim7 := { stood := { row := topTamperedUptoRow, standIns := [], harness := (true, "5f44dd4d95a317aeee76e0492593b9f222ec1d8a9a3a40476510e69d7c5df91c"), looks := false }, kinds := [], alts := [], laidByText := true, laidKinds := [.data, .data, .data, .data, .data], laidTests := true, laidLooks := .later }
def TopTamperedUptoCardSaid : Prop := Claim7.holds Tryz.pinned (.plain (OpenSpec.upto topTamperedSpec)) topTamperedUptoCard
end Rows
end Go.Proofs.YtpkomloblhbkiaaGreatDoor
