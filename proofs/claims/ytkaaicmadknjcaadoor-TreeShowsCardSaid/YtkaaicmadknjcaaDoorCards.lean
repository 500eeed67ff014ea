/-
  DERIVED. GIVEN WITH THE SEED: THE CARDS: each row of YtkaaicmadknjcaaDoorRows.lean that lists a variable, with what it lists TIED to the program's text (the seventh form; the later family's looks); each row that meets fmt, with fmt's text TOLD by the authors' own Lean function (tested against real Go, not proved from fmt's source: count such statements apart). THE CARD IS WHAT COUNTS. Prove the row's statement (the work); the ties are given (YtkaaicmadknjcaaDoorTie.lean); close each card by the builder's one call (the guide's Derived/Test/ToyasCard.lean, 'card_holds'). Laid BY PROGRAM, IN A SANDBOX (cutbox-door.mjs). By AI agents, Wed Nov 11 2026. No macro, syntax, notation, axiom, sorry.
-/
import Derived.Test.YtkaaicmadknjcaaDoorRows
import GoSem.ClaimSeven
namespace Go.Proofs.YtkaaicmadknjcaaDoor
namespace Rows

/-- THE TIED CARD OF 'keyholelaw02.DigestSteps'. -/
def digestStepsCard : Claim7 := { stood := { row := digestStepsRow, standIns := [], harness := (true, "a5c8c176ef503824aed6c40cc98d019f33b7cf63dd68467548fc158f0554691e"), looks := false }, kinds := [], alts := [], laidByText := true, laidKinds := [.data], laidTests := true, laidLooks := .later }
def DigestStepsCardSaid : Prop := Claim7.holds Tryd.pinned (.plain (OpenSpec.ofChange digestStepsSpec)) digestStepsCard

/-- THE TIED CARD OF 'keyholelaw02.DigestSums'. -/
def digestSumsCard : Claim7 := { stood := { row := digestSumsRow, standIns := [], harness := (true, "a5c8c176ef503824aed6c40cc98d019f33b7cf63dd68467548fc158f0554691e"), looks := false }, kinds := [], alts := [], laidByText := true, laidKinds := [.data], laidTests := true, laidLooks := .later }
def DigestSumsCardSaid : Prop := Claim7.holds Tryd.pinned (.plain (OpenSpec.ofChange digestSumsSpec)) digestSumsCard

/-- THE TIED CARD OF 'keyholelaw02.DigestWalks'. -/
def digestWalksCard : Claim7 := { stood := { row := digestWalksRow, standIns := [], harness := (true, "a5c8c176ef503824aed6c40cc98d019f33b7cf63dd68467548fc158f0554691e"), looks := false }, kinds := [], alts := [], laidByText := true, laidKinds := [.data], laidTests := true, laidLooks := .later }
def DigestWalksCardSaid : Prop := Claim7.holds Tryd.pinned (.plain (OpenSpec.ofChange digestWalksSpec)) digestWalksCard

/-- THE TIED CARD OF 'keyholelaw02.DigestPads'. -/
def digestPadsCard : Claim7 := { stood := { row := digestPadsRow, standIns := [], harness := (true, "a5c8c176ef503824aed6c40cc98d019f33b7cf63dd68467548fc158f0554691e"), looks := false }, kinds := [], alts := [], laidByText := true, laidKinds := [.data], laidTests := true, laidLooks := .later }
def DigestPadsCardSaid : Prop := Claim7.holds Tryd.pinned (.plain (OpenSpec.ofChange digestPadsSpec)) digestPadsCard

/-- THE TIED CARD OF 'keyholelaw02.DigestGoes'. -/
def digestGoesCard : Claim7 := { stood := { row := digestGoesRow, standIns := [], harness := (true, "a5c8c176ef503824aed6c40cc98d019f33b7cf63dd68467548fc158f0554691e"), looks := false }, kinds := [], alts := [], laidByText := true, laidKinds := [.data], laidTests := true, laidLooks := .later }
def DigestGoesCardSaid : Prop := Claim7.holds Tryd.pinned (.plain (OpenSpec.ofChange digestGoesSpec)) digestGoesCard

/-- THE TIED CARD OF 'keyholelaw03.KeyedZeros'. -/
def keyedZerosCard : Claim7 := { stood := { row := keyedZerosRow, standIns := [], harness := (true, "a5c8c176ef503824aed6c40cc98d019f33b7cf63dd68467548fc158f0554691e"), looks := false }, kinds := [], alts := [], laidByText := true, laidKinds := [.data], laidTests := true, laidLooks := .later }
def KeyedZerosCardSaid : Prop := Claim7.holds Tryd.pinned (.plain (OpenSpec.ofChange keyedZerosSpec)) keyedZerosCard

/-- THE TIED CARD OF 'keyholelaw03.KeyedNext'. -/
def keyedNextCard : Claim7 := { stood := { row := keyedNextRow, standIns := [], harness := (true, "a5c8c176ef503824aed6c40cc98d019f33b7cf63dd68467548fc158f0554691e"), looks := false }, kinds := [], alts := [], laidByText := true, laidKinds := [.data], laidTests := true, laidLooks := .later }
def KeyedNextCardSaid : Prop := Claim7.holds Tryd.pinned (.plain (OpenSpec.ofChange keyedNextSpec)) keyedNextCard

/-- THE TIED CARD OF 'keyholelaw03.KeyedMacs'. -/
def keyedMacsCard : Claim7 := { stood := { row := keyedMacsRow, standIns := [], harness := (true, "a5c8c176ef503824aed6c40cc98d019f33b7cf63dd68467548fc158f0554691e"), looks := false }, kinds := [], alts := [], laidByText := true, laidKinds := [.data], laidTests := true, laidLooks := .later }
def KeyedMacsCardSaid : Prop := Claim7.holds Tryd.pinned (.plain (OpenSpec.ofChange keyedMacsSpec)) keyedMacsCard

/-- THE TIED CARD OF 'keyholelaw03.KeyedExpands'. -/
def keyedExpandsCard : Claim7 := { stood := { row := keyedExpandsRow, standIns := [], harness := (true, "a5c8c176ef503824aed6c40cc98d019f33b7cf63dd68467548fc158f0554691e"), looks := false }, kinds := [], alts := [], laidByText := true, laidKinds := [.data], laidTests := true, laidLooks := .later }
def KeyedExpandsCardSaid : Prop := Claim7.holds Tryd.pinned (.plain (OpenSpec.ofChange keyedExpandsSpec)) keyedExpandsCard

/-- THE TIED CARD OF 'keyholelaw03.KeyedFront'. -/
def keyedFrontCard : Claim7 := { stood := { row := keyedFrontRow, standIns := [], harness := (true, "a5c8c176ef503824aed6c40cc98d019f33b7cf63dd68467548fc158f0554691e"), looks := false }, kinds := [], alts := [], laidByText := true, laidKinds := [.data], laidTests := true, laidLooks := .later }
def KeyedFrontCardSaid : Prop := Claim7.holds Tryd.pinned (.plain (OpenSpec.ofChange keyedFrontSpec)) keyedFrontCard

/-- THE TIED CARD OF 'keyholelaw17.PledgeMakes'. -/
def pledgeMakesCard : Claim7 := { stood := { row := pledgeMakesRow, standIns := [], harness := (true, "a5c8c176ef503824aed6c40cc98d019f33b7cf63dd68467548fc158f0554691e"), looks := false }, kinds := [], alts := [], laidByText := true, laidKinds := [.data], laidTests := true, laidLooks := .later }
def PledgeMakesCardSaid : Prop := Claim7.holds Tryd.pinned (.plain (OpenSpec.ofChange pledgeMakesSpec)) pledgeMakesCard

/-- THE TIED CARD OF 'keyholelaw17.PledgeAll'. -/
def pledgeAllCard : Claim7 := { stood := { row := pledgeAllRow, standIns := [], harness := (true, "a5c8c176ef503824aed6c40cc98d019f33b7cf63dd68467548fc158f0554691e"), looks := false }, kinds := [], alts := [], laidByText := true, laidKinds := [.data], laidTests := true, laidLooks := .later }
def PledgeAllCardSaid : Prop := Claim7.holds Tryd.pinned (.plain (OpenSpec.ofChange pledgeAllSpec)) pledgeAllCard

/-- THE TIED CARD OF 'keyholelaw17.PledgeRows'. -/
def pledgeRowsCard : Claim7 := { stood := { row := pledgeRowsRow, standIns := [], harness := (true, "a5c8c176ef503824aed6c40cc98d019f33b7cf63dd68467548fc158f0554691e"), looks := false }, kinds := [], alts := [], laidByText := true, laidKinds := [.data], laidTests := true, laidLooks := .later }
def PledgeRowsCardSaid : Prop := Claim7.holds Tryd.pinned (.plain (OpenSpec.ofChange pledgeRowsSpec)) pledgeRowsCard

/-- THE TIED CARD OF 'keyholelaw17.PledgeShows'. -/
def pledgeShowsCard : Claim7 := { stood := { row := pledgeShowsRow, standIns := [], harness := (true, "a5c8c176ef503824aed6c40cc98d019f33b7cf63dd68467548fc158f0554691e"), looks := false }, kinds := [], alts := [], laidByText := true, laidKinds := [.data], laidTests := true, laidLooks := .later }
def PledgeShowsCardSaid : Prop := Claim7.holds Tryd.pinned (.plain (OpenSpec.ofChange pledgeShowsSpec)) pledgeShowsCard

/-- THE TIED CARD OF 'keyholelaw17.PledgeOne'. -/
def pledgeOneCard : Claim7 := { stood := { row := pledgeOneRow, standIns := [], harness := (true, "a5c8c176ef503824aed6c40cc98d019f33b7cf63dd68467548fc158f0554691e"), looks := false }, kinds := [], alts := [], laidByText := true, laidKinds := [.data], laidTests := true, laidLooks := .later }
def PledgeOneCardSaid : Prop := Claim7.holds Tryd.pinned (.plain (OpenSpec.ofChange pledgeOneSpec)) pledgeOneCard

/-- THE TIED CARD OF 'keyholelaw11.TreeRoots'. -/
def treeRootsCard : Claim7 := { stood := { row := treeRootsRow, standIns := [], harness := (true, "a5c8c176ef503824aed6c40cc98d019f33b7cf63dd68467548fc158f0554691e"), looks := false }, kinds := [], alts := [], laidByText := true, laidKinds := [.data], laidTests := true, laidLooks := .later }
def TreeRootsCardSaid : Prop := Claim7.holds Tryd.pinned (.plain (OpenSpec.ofChange treeRootsSpec)) treeRootsCard

/-- THE TIED CARD OF 'keyholelaw11.TreeClimbs'. -/
def treeClimbsCard : Claim7 := { stood := { row := treeClimbsRow, standIns := [], harness := (true, "a5c8c176ef503824aed6c40cc98d019f33b7cf63dd68467548fc158f0554691e"), looks := false }, kinds := [], alts := [], laidByText := true, laidKinds := [.data], laidTests := true, laidLooks := .later }
def TreeClimbsCardSaid : Prop := Claim7.holds Tryd.pinned (.plain (OpenSpec.ofChange treeClimbsSpec)) treeClimbsCard

/-- THE TIED CARD OF 'keyholelaw11.TreeTold'. -/
def treeToldCard : Claim7 := { stood := { row := treeToldRow, standIns := [], harness := (true, "a5c8c176ef503824aed6c40cc98d019f33b7cf63dd68467548fc158f0554691e"), looks := false }, kinds := [], alts := [], laidByText := true, laidKinds := [.data], laidTests := true, laidLooks := .later }
def TreeToldCardSaid : Prop := Claim7.holds Tryd.pinned (.plain (OpenSpec.ofChange treeToldSpec)) treeToldCard

/-- THE TIED CARD OF 'keyholelaw11.TreeShows'. -/
def treeShowsCard : Claim7 := { stood := { row := treeShowsRow, standIns := [], harness := (true, "a5c8c176ef503824aed6c40cc98d019f33b7cf63dd68467548fc158f0554691e"), looks := false }, kinds := [], alts := [], laidByText := true, laidKinds := [.data], laidTests := true, laidLooks := .later }
def TreeShowsCardSaid : Prop := Claim7.holds Tryd.pinned (.plain (OpenSpec.ofChange treeShowsSpec)) treeShowsCard

/-- THE SECOND FORM's CARD OF 'keyholelaw02.DigestSteps'. -/
def digestStepsUptoCard : Claim7 := { stood := { row := digestStepsUptoRow, standIns := [], harness := (true, "a5c8c176ef503824aed6c40cc98d019f33b7cf63dd68467548fc158f0554691e"), looks := false }, kinds := [], alts := [], laidByText := true, laidKinds := [.data], laidTests := true, laidLooks := .later }
def DigestStepsUptoCardSaid : Prop := Claim7.holds Tryd.pinned (.plain (OpenSpec.upto digestStepsSpec)) digestStepsUptoCard

/-- THE SECOND FORM's CARD OF 'keyholelaw02.DigestSums'. -/
def digestSumsUptoCard : Claim7 := { stood := { row := digestSumsUptoRow, standIns := [], harness := (true, "a5c8c176ef503824aed6c40cc98d019f33b7cf63dd68467548fc158f0554691e"), looks := false }, kinds := [], alts := [], laidByText := true, laidKinds := [.data], laidTests := true, laidLooks := .later }
def DigestSumsUptoCardSaid : Prop := Claim7.holds Tryd.pinned (.plain (OpenSpec.upto digestSumsSpec)) digestSumsUptoCard

/-- THE SECOND FORM's CARD OF 'keyholelaw02.DigestWalks'. -/
def digestWalksUptoCard : Claim7 := { stood := { row := digestWalksUptoRow, standIns := [], harness := (true, "a5c8c176ef503824aed6c40cc98d019f33b7cf63dd68467548fc158f0554691e"), looks := false }, kinds := [], alts := [], laidByText := true, laidKinds := [.data], laidTests := true, laidLooks := .later }
def DigestWalksUptoCardSaid : Prop := Claim7.holds Tryd.pinned (.plain (OpenSpec.upto digestWalksSpec)) digestWalksUptoCard

/-- THE SECOND FORM's CARD OF 'keyholelaw02.DigestPads'. -/
def digestPadsUptoCard : Claim7 := { stood := { row := digestPadsUptoRow, standIns := [], harness := (true, "a5c8c176ef503824aed6c40cc98d019f33b7cf63dd68467548fc158f0554691e"), looks := false }, kinds := [], alts := [], laidByText := true, laidKinds := [.data], laidTests := true, laidLooks := .later }
def DigestPadsUptoCardSaid : Prop := Claim7.holds Tryd.pinned (.plain (OpenSpec.upto digestPadsSpec)) digestPadsUptoCard

/-- THE SECOND FORM's CARD OF 'keyholelaw02.DigestGoes'. -/
def digestGoesUptoCard : Claim7 := { stood := { row := digestGoesUptoRow, standIns := [], harness := (true, "a5c8c176ef503824aed6c40cc98d019f33b7cf63dd68467548fc158f0554691e"), looks := false }, kinds := [], alts := [], laidByText := true, laidKinds := [.data], laidTests := true, laidLooks := .later }
def DigestGoesUptoCardSaid : Prop := Claim7.holds Tryd.pinned (.plain (OpenSpec.upto digestGoesSpec)) digestGoesUptoCard

/-- THE SECOND FORM's CARD OF 'keyholelaw03.KeyedZeros'. -/
def keyedZerosUptoCard : Claim7 := { stood := { row := keyedZerosUptoRow, standIns := [], harness := (true, "a5c8c176ef503824aed6c40cc98d019f33b7cf63dd68467548fc158f0554691e"), looks := false }, kinds := [], alts := [], laidByText := true, laidKinds := [.data], laidTests := true, laidLooks := .later }
def KeyedZerosUptoCardSaid : Prop := Claim7.holds Tryd.pinned (.plain (OpenSpec.upto keyedZerosSpec)) keyedZerosUptoCard

/-- THE SECOND FORM's CARD OF 'keyholelaw03.KeyedNext'. -/
def keyedNextUptoCard : Claim7 := { stood := { row := keyedNextUptoRow, standIns := [], harness := (true, "a5c8c176ef503824aed6c40cc98d019f33b7cf63dd68467548fc158f0554691e"), looks := false }, kinds := [], alts := [], laidByText := true, laidKinds := [.data], laidTests := true, laidLooks := .later }
def KeyedNextUptoCardSaid : Prop := Claim7.holds Tryd.pinned (.plain (OpenSpec.upto keyedNextSpec)) keyedNextUptoCard

/-- THE SECOND FORM's CARD OF 'keyholelaw03.KeyedMacs'. -/
def keyedMacsUptoCard : Claim7 := { stood := { row := keyedMacsUptoRow, standIns := [], harness := (true, "a5c8c176ef503824aed6c40cc98d019f33b7cf63dd68467548fc158f0554691e"), looks := false }, kinds := [], alts := [], laidByText := true, laidKinds := [.data], laidTests := true, laidLooks := .later }
def KeyedMacsUptoCardSaid : Prop := Claim7.holds Tryd.pinned (.plain (OpenSpec.upto keyedMacsSpec)) keyedMacsUptoCard

/-- THE SECOND FORM's CARD OF 'keyholelaw03.KeyedExpands'. -/
def keyedExpandsUptoCard : Claim7 := { stood := { row := keyedExpandsUptoRow, standIns := [], harness := (true, "a5c8c176ef503824aed6c40cc98d019f33b7cf63dd68467548fc158f0554691e"), looks := false }, kinds := [], alts := [], laidByText := true, laidKinds := [.data], laidTests := true, laidLooks := .later }
def KeyedExpandsUptoCardSaid : Prop := Claim7.holds Tryd.pinned (.plain (OpenSpec.upto keyedExpandsSpec)) keyedExpandsUptoCard

/-- THE SECOND FORM's CARD OF 'keyholelaw03.KeyedFront'. -/
def keyedFrontUptoCard : Claim7 := { stood := { row := keyedFrontUptoRow, standIns := [], harness := (true, "a5c8c176ef503824aed6c40cc98d019f33b7cf63dd68467548fc158f0554691e"), looks := false }, kinds := [], alts := [], laidByText := true, laidKinds := [.data], laidTests := true, laidLooks := .later }
def KeyedFrontUptoCardSaid : Prop := Claim7.holds Tryd.pinned (.plain (OpenSpec.upto keyedFrontSpec)) keyedFrontUptoCard

/-- THE SECOND FORM's CARD OF 'keyholelaw17.PledgeMakes'. -/
def pledgeMakesUptoCard : Claim7 := { stood := { row := pledgeMakesUptoRow, standIns := [], harness := (true, "a5c8c176ef503824aed6c40cc98d019f33b7cf63dd68467548fc158f0554691e"), looks := false }, kinds := [], alts := [], laidByText := true, laidKinds := [.data], laidTests := true, laidLooks := .later }
def PledgeMakesUptoCardSaid : Prop := Claim7.holds Tryd.pinned (.plain (OpenSpec.upto pledgeMakesSpec)) pledgeMakesUptoCard

/-- THE SECOND FORM's CARD OF 'keyholelaw17.PledgeAll'. -/
def pledgeAllUptoCard : Claim7 := { stood := { row := pledgeAllUptoRow, standIns := [], harness := (true, "a5c8c176ef503824aed6c40cc98d019f33b7cf63dd68467548fc158f0554691e"), looks := false }, kinds := [], alts := [], laidByText := true, laidKinds := [.data], laidTests := true, laidLooks := .later }
def PledgeAllUptoCardSaid : Prop := Claim7.holds Tryd.pinned (.plain (OpenSpec.upto pledgeAllSpec)) pledgeAllUptoCard

/-- THE SECOND FORM's CARD OF 'keyholelaw17.PledgeRows'. -/
def pledgeRowsUptoCard : Claim7 := { stood := { row := pledgeRowsUptoRow, standIns := [], harness := (true, "a5c8c176ef503824aed6c40cc98d019f33b7cf63dd68467548fc158f0554691e"), looks := false }, kinds := [], alts := [], laidByText := true, laidKinds := [.data], laidTests := true, laidLooks := .later }
def PledgeRowsUptoCardSaid : Prop := Claim7.holds Tryd.pinned (.plain (OpenSpec.upto pledgeRowsSpec)) pledgeRowsUptoCard

/-- THE SECOND FORM's CARD OF 'keyholelaw17.PledgeShows'. -/
def pledgeShowsUptoCard : Claim7 := { stood := { row := pledgeShowsUptoRow, standIns := [], harness := (true, "a5c8c176ef503824aed6c40cc98d019f33b7cf63dd68467548fc158f0554691e"), looks := false }, kinds := [], alts := [], laidByText := true, laidKinds := [.data], laidTests := true, laidLooks := .later }
def PledgeShowsUptoCardSaid : Prop := Claim7.holds Tryd.pinned (.plain (OpenSpec.upto pledgeShowsSpec)) pledgeShowsUptoCard

/-- THE SECOND FORM's CARD OF 'keyholelaw17.PledgeOne'. -/
def pledgeOneUptoCard : Claim7 := { stood := { row := pledgeOneUptoRow, standIns := [], harness := (true, "a5c8c176ef503824aed6c40cc98d019f33b7cf63dd68467548fc158f0554691e"), looks := false }, kinds := [], alts := [], laidByText := true, laidKinds := [.data], laidTests := true, laidLooks := .later }
def PledgeOneUptoCardSaid : Prop := Claim7.holds Tryd.pinned (.plain (OpenSpec.upto pledgeOneSpec)) pledgeOneUptoCard

/-- THE SECOND FORM's CARD OF 'keyholelaw11.TreeRoots'. -/
def treeRootsUptoCard : Claim7 := { stood := { row := treeRootsUptoRow, standIns := [], harness := (true, "a5c8c176ef503824aed6c40cc98d019f33b7cf63dd68467548fc158f0554691e"), looks := false }, kinds := [], alts := [], laidByText := true, laidKinds := [.data], laidTests := true, laidLooks := .later }
def TreeRootsUptoCardSaid : Prop := Claim7.holds Tryd.pinned (.plain (OpenSpec.upto treeRootsSpec)) treeRootsUptoCard

/-- THE SECOND FORM's CARD OF 'keyholelaw11.TreeClimbs'. -/
def treeClimbsUptoCard : Claim7 := { stood := { row := treeClimbsUptoRow, standIns := [], harness := (true, "a5c8c176ef503824aed6c40cc98d019f33b7cf63dd68467548fc158f0554691e"), looks := false }, kinds := [], alts := [], laidByText := true, laidKinds := [.data], laidTests := true, laidLooks := .later }
def TreeClimbsUptoCardSaid : Prop := Claim7.holds Tryd.pinned (.plain (OpenSpec.upto treeClimbsSpec)) treeClimbsUptoCard

/-- THE SECOND FORM's CARD OF 'keyholelaw11.TreeTold'. -/
def treeToldUptoCard : Claim7 := { stood := { row := treeToldUptoRow, standIns := [], harness := (true, "a5c8c176ef503824aed6c40cc98d019f33b7cf63dd68467548fc158f0554691e"), looks := false }, kinds := [], alts := [], laidByText := true, laidKinds := [.data], laidTests := true, laidLooks := .later }
def TreeToldUptoCardSaid : Prop := Claim7.holds Tryd.pinned (.plain (OpenSpec.upto treeToldSpec)) treeToldUptoCard

/-- THE SECOND FORM's CARD OF 'keyholelaw11.TreeShows'. -/
def treeShowsUptoCard : Claim7 := { stood := { row := treeShowsUptoRow, standIns := [], harness := (true, "a5c8c176ef503824aed6c40cc98d019f33b7cf63dd68467548fc158f0554691e"), looks := false }, kinds := [], alts := [], laidByText := true, laidKinds := [.data], laidTests := true, laidLooks := .later }
def TreeShowsUptoCardSaid : Prop := Claim7.holds Tryd.pinned (.plain (OpenSpec.upto treeShowsSpec)) treeShowsUptoCard
end Rows
end Go.Proofs.YtkaaicmadknjcaaDoor
