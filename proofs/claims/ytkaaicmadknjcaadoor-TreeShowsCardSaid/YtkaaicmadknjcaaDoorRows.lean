/-
  NARROWER THAN 'FOR EVERY INPUT', by the rows' own cells (each row's printed sentence says how): DigestSteps: laid · DigestSums: laid · DigestWalks: laid · DigestPads: laid · DigestGoes: laid · KeyedZeros: laid · KeyedNext: laid · KeyedMacs: laid · KeyedExpands: laid · KeyedFront: laid · PledgeMakes: laid · PledgeAll: laid · PledgeRows: laid · PledgeShows: laid · PledgeOne: laid · TreeRoots: laid · TreeClimbs: laid · TreeTold: laid · TreeShows: laid.
  DERIVED. THE GIVEN ROWS OF THIS SEAT. 19 by the template 'for every input the law returns true; each argument reads behind the call as it read before'; 0 by the template 'total and deterministic' (their statements: YtkaaicmadknjcaaDoorTotals.lean).
  GIVEN WITH THE SEED: the statements are not yours to turn. If you find one false, say at which input.
  Laid BY PROGRAM, IN A SANDBOX (cutbox-rows.mjs): the forced cells as the released guide's own fill.sh prints them over the translation 32898b4e5cb4ea6a… (all of the seat's roots in one cut). By AI agents, Wed Nov 11 2026. No macro, syntax, notation, axiom, sorry.
-/
import Derived.Test.YtkaaicmadknjcaaDoorChecked
import GoSem.Claim
import GoSem.ClaimJoined
import GoSem.ClaimMapViews
import Derived.JoinedTies
import Derived.KernelRfl
namespace Go.Proofs.YtkaaicmadknjcaaDoor
/- THE CELL 'sum', in the pinned program and in every row, IS THE sha256 OF THE DUMP (.gsa) THAT YtkaaicmadknjcaaDoorProg.lean LOADS. Nothing in Lean hashes anything: it is a label: what it is worth is what the hold of that sum in a sandbox is worth. -/
noncomputable def Tryd.pinned : Pinned := { name := "ytkaaicmadknjcaadoor", sum := "32898b4e5cb4ea6ab3f508095375f9441f0d089e83c8e17babe61a1a83d82f2f", checked := Tryd.checked }
namespace Rows
def none {H : Type} : Left H := { results := [], args := [] }

/- WHAT THE LISTED PACKAGE-LEVEL VARIABLES READ AS WHEN THE CALL BEGINS. Each datum BY PROGRAM (the guide's laid-datum.mjs) off the statement by which the dump's own 'gosem.cut.vars' lays the variable. In a bare row this is a premise. The card (YtkaaicmadknjcaaDoorCards.lean) ties it to the program's text. -/
def laid_keyhole_digest_rounds {H : Type} : DataW H := .agg [.lit (.int .i64 1116352408), .lit (.int .i64 1899447441), .lit (.int .i64 3049323471), .lit (.int .i64 3921009573), .lit (.int .i64 961987163), .lit (.int .i64 1508970993), .lit (.int .i64 2453635748), .lit (.int .i64 2870763221), .lit (.int .i64 3624381080), .lit (.int .i64 310598401), .lit (.int .i64 607225278), .lit (.int .i64 1426881987), .lit (.int .i64 1925078388), .lit (.int .i64 2162078206), .lit (.int .i64 2614888103), .lit (.int .i64 3248222580), .lit (.int .i64 3835390401), .lit (.int .i64 4022224774), .lit (.int .i64 264347078), .lit (.int .i64 604807628), .lit (.int .i64 770255983), .lit (.int .i64 1249150122), .lit (.int .i64 1555081692), .lit (.int .i64 1996064986), .lit (.int .i64 2554220882), .lit (.int .i64 2821834349), .lit (.int .i64 2952996808), .lit (.int .i64 3210313671), .lit (.int .i64 3336571891), .lit (.int .i64 3584528711), .lit (.int .i64 113926993), .lit (.int .i64 338241895), .lit (.int .i64 666307205), .lit (.int .i64 773529912), .lit (.int .i64 1294757372), .lit (.int .i64 1396182291), .lit (.int .i64 1695183700), .lit (.int .i64 1986661051), .lit (.int .i64 2177026350), .lit (.int .i64 2456956037), .lit (.int .i64 2730485921), .lit (.int .i64 2820302411), .lit (.int .i64 3259730800), .lit (.int .i64 3345764771), .lit (.int .i64 3516065817), .lit (.int .i64 3600352804), .lit (.int .i64 4094571909), .lit (.int .i64 275423344), .lit (.int .i64 430227734), .lit (.int .i64 506948616), .lit (.int .i64 659060556), .lit (.int .i64 883997877), .lit (.int .i64 958139571), .lit (.int .i64 1322822218), .lit (.int .i64 1537002063), .lit (.int .i64 1747873779), .lit (.int .i64 1955562222), .lit (.int .i64 2024104815), .lit (.int .i64 2227730452), .lit (.int .i64 2361852424), .lit (.int .i64 2428436474), .lit (.int .i64 2756734187), .lit (.int .i64 3204031479), .lit (.int .i64 3329325298)]

/-- 'keyholelaw02.DigestSteps': WHATEVER THE INPUT: true; the input reads as it did. -/
def digestStepsSpec : ChangeSpec := { name := "digestSteps", fn := fun _ => fun
  | [d1, d2, d3] => { results := [.lit (.bool true)], args := [d1, d2, d3] }
  | _ => none }
def digestStepsRow : OpenClaim := { program := "ytkaaicmadknjcaadoor", sum := "32898b4e5cb4ea6ab3f508095375f9441f0d089e83c8e17babe61a1a83d82f2f", func := "keyhole/keyholelaw02.DigestSteps", spec := "digestSteps", unfollowed := true, recurses := true, named := ["keyhole/digest.rounds"], apart := false, laid := [("keyhole/digest.rounds", laid_keyhole_digest_rounds)] }
def DigestStepsSaid : Prop := digestStepsRow.holds Tryd.pinned (OpenSpec.ofChange digestStepsSpec)

/-- ITS FALSE NEIGHBOUR: 'it returns false'. Refute it at one input. -/
def digestStepsWrong : ChangeSpec := { name := "digestSteps", fn := fun _ => fun
  | [d1, d2, d3] => { results := [.lit (.bool false)], args := [d1, d2, d3] }
  | _ => none }
def DigestStepsWrongFalsely : Prop := digestStepsRow.holds Tryd.pinned (OpenSpec.ofChange digestStepsWrong)

/-- 'keyholelaw02.DigestSums': WHATEVER THE INPUT: true; the input reads as it did. -/
def digestSumsSpec : ChangeSpec := { name := "digestSums", fn := fun _ => fun
  | [d1, d2] => { results := [.lit (.bool true)], args := [d1, d2] }
  | _ => none }
def digestSumsRow : OpenClaim := { program := "ytkaaicmadknjcaadoor", sum := "32898b4e5cb4ea6ab3f508095375f9441f0d089e83c8e17babe61a1a83d82f2f", func := "keyhole/keyholelaw02.DigestSums", spec := "digestSums", unfollowed := true, recurses := true, named := ["keyhole/digest.rounds"], apart := false, laid := [("keyhole/digest.rounds", laid_keyhole_digest_rounds)] }
def DigestSumsSaid : Prop := digestSumsRow.holds Tryd.pinned (OpenSpec.ofChange digestSumsSpec)

/-- ITS FALSE NEIGHBOUR: 'it returns false'. Refute it at one input. -/
def digestSumsWrong : ChangeSpec := { name := "digestSums", fn := fun _ => fun
  | [d1, d2] => { results := [.lit (.bool false)], args := [d1, d2] }
  | _ => none }
def DigestSumsWrongFalsely : Prop := digestSumsRow.holds Tryd.pinned (OpenSpec.ofChange digestSumsWrong)

/-- 'keyholelaw02.DigestWalks': WHATEVER THE INPUT: true; the input reads as it did. -/
def digestWalksSpec : ChangeSpec := { name := "digestWalks", fn := fun _ => fun
  | [d] => { results := [.lit (.bool true)], args := [d] }
  | _ => none }
def digestWalksRow : OpenClaim := { program := "ytkaaicmadknjcaadoor", sum := "32898b4e5cb4ea6ab3f508095375f9441f0d089e83c8e17babe61a1a83d82f2f", func := "keyhole/keyholelaw02.DigestWalks", spec := "digestWalks", unfollowed := true, recurses := true, named := ["keyhole/digest.rounds"], apart := false, laid := [("keyhole/digest.rounds", laid_keyhole_digest_rounds)] }
def DigestWalksSaid : Prop := digestWalksRow.holds Tryd.pinned (OpenSpec.ofChange digestWalksSpec)

/-- ITS FALSE NEIGHBOUR: 'it returns false'. Refute it at one input. -/
def digestWalksWrong : ChangeSpec := { name := "digestWalks", fn := fun _ => fun
  | [d] => { results := [.lit (.bool false)], args := [d] }
  | _ => none }
def DigestWalksWrongFalsely : Prop := digestWalksRow.holds Tryd.pinned (OpenSpec.ofChange digestWalksWrong)

/-- 'keyholelaw02.DigestPads': WHATEVER THE INPUT: true; the input reads as it did. -/
def digestPadsSpec : ChangeSpec := { name := "digestPads", fn := fun _ => fun
  | [d1, d2] => { results := [.lit (.bool true)], args := [d1, d2] }
  | _ => none }
def digestPadsRow : OpenClaim := { program := "ytkaaicmadknjcaadoor", sum := "32898b4e5cb4ea6ab3f508095375f9441f0d089e83c8e17babe61a1a83d82f2f", func := "keyhole/keyholelaw02.DigestPads", spec := "digestPads", unfollowed := true, recurses := true, named := ["keyhole/digest.rounds"], apart := false, laid := [("keyhole/digest.rounds", laid_keyhole_digest_rounds)] }
def DigestPadsSaid : Prop := digestPadsRow.holds Tryd.pinned (OpenSpec.ofChange digestPadsSpec)

/-- ITS FALSE NEIGHBOUR: 'it returns false'. Refute it at one input. -/
def digestPadsWrong : ChangeSpec := { name := "digestPads", fn := fun _ => fun
  | [d1, d2] => { results := [.lit (.bool false)], args := [d1, d2] }
  | _ => none }
def DigestPadsWrongFalsely : Prop := digestPadsRow.holds Tryd.pinned (OpenSpec.ofChange digestPadsWrong)

/-- 'keyholelaw02.DigestGoes': WHATEVER THE INPUT: true; the input reads as it did. -/
def digestGoesSpec : ChangeSpec := { name := "digestGoes", fn := fun _ => fun
  | [d1, d2] => { results := [.lit (.bool true)], args := [d1, d2] }
  | _ => none }
def digestGoesRow : OpenClaim := { program := "ytkaaicmadknjcaadoor", sum := "32898b4e5cb4ea6ab3f508095375f9441f0d089e83c8e17babe61a1a83d82f2f", func := "keyhole/keyholelaw02.DigestGoes", spec := "digestGoes", unfollowed := true, recurses := true, named := ["keyhole/digest.rounds"], apart := false, laid := [("keyhole/digest.rounds", laid_keyhole_digest_rounds)] }
def DigestGoesSaid : Prop := digestGoesRow.holds Tryd.pinned (OpenSpec.ofChange digestGoesSpec)

/-- ITS FALSE NEIGHBOUR: 'it returns false'. Refute it at one input. -/
def digestGoesWrong : ChangeSpec := { name := "digestGoes", fn := fun _ => fun
  | [d1, d2] => { results := [.lit (.bool false)], args := [d1, d2] }
  | _ => none }
def DigestGoesWrongFalsely : Prop := digestGoesRow.holds Tryd.pinned (OpenSpec.ofChange digestGoesWrong)

/-- 'keyholelaw03.KeyedZeros': WHATEVER THE INPUT: true; the input reads as it did. -/
def keyedZerosSpec : ChangeSpec := { name := "keyedZeros", fn := fun _ => fun
  | [d1, d2, d3] => { results := [.lit (.bool true)], args := [d1, d2, d3] }
  | _ => none }
def keyedZerosRow : OpenClaim := { program := "ytkaaicmadknjcaadoor", sum := "32898b4e5cb4ea6ab3f508095375f9441f0d089e83c8e17babe61a1a83d82f2f", func := "keyhole/keyholelaw03.KeyedZeros", spec := "keyedZeros", inPlace := ["internal/abi.NoEscape"], unfollowed := true, recurses := true, named := ["keyhole/digest.rounds"], apart := false, laid := [("keyhole/digest.rounds", laid_keyhole_digest_rounds)] }
def KeyedZerosSaid : Prop := keyedZerosRow.holds Tryd.pinned (OpenSpec.ofChange keyedZerosSpec)

/-- ITS FALSE NEIGHBOUR: 'it returns false'. Refute it at one input. -/
def keyedZerosWrong : ChangeSpec := { name := "keyedZeros", fn := fun _ => fun
  | [d1, d2, d3] => { results := [.lit (.bool false)], args := [d1, d2, d3] }
  | _ => none }
def KeyedZerosWrongFalsely : Prop := keyedZerosRow.holds Tryd.pinned (OpenSpec.ofChange keyedZerosWrong)

/-- 'keyholelaw03.KeyedNext': WHATEVER THE INPUT: true; the input reads as it did. -/
def keyedNextSpec : ChangeSpec := { name := "keyedNext", fn := fun _ => fun
  | [d1, d2] => { results := [.lit (.bool true)], args := [d1, d2] }
  | _ => none }
def keyedNextRow : OpenClaim := { program := "ytkaaicmadknjcaadoor", sum := "32898b4e5cb4ea6ab3f508095375f9441f0d089e83c8e17babe61a1a83d82f2f", func := "keyhole/keyholelaw03.KeyedNext", spec := "keyedNext", inPlace := ["internal/abi.NoEscape"], unfollowed := true, recurses := true, named := ["keyhole/digest.rounds"], apart := false, laid := [("keyhole/digest.rounds", laid_keyhole_digest_rounds)] }
def KeyedNextSaid : Prop := keyedNextRow.holds Tryd.pinned (OpenSpec.ofChange keyedNextSpec)

/-- ITS FALSE NEIGHBOUR: 'it returns false'. Refute it at one input. -/
def keyedNextWrong : ChangeSpec := { name := "keyedNext", fn := fun _ => fun
  | [d1, d2] => { results := [.lit (.bool false)], args := [d1, d2] }
  | _ => none }
def KeyedNextWrongFalsely : Prop := keyedNextRow.holds Tryd.pinned (OpenSpec.ofChange keyedNextWrong)

/-- 'keyholelaw03.KeyedMacs': WHATEVER THE INPUT: true; the input reads as it did. -/
def keyedMacsSpec : ChangeSpec := { name := "keyedMacs", fn := fun _ => fun
  | [d1, d2, d3] => { results := [.lit (.bool true)], args := [d1, d2, d3] }
  | _ => none }
def keyedMacsRow : OpenClaim := { program := "ytkaaicmadknjcaadoor", sum := "32898b4e5cb4ea6ab3f508095375f9441f0d089e83c8e17babe61a1a83d82f2f", func := "keyhole/keyholelaw03.KeyedMacs", spec := "keyedMacs", inPlace := ["internal/abi.NoEscape"], unfollowed := true, recurses := true, named := ["keyhole/digest.rounds"], apart := false, laid := [("keyhole/digest.rounds", laid_keyhole_digest_rounds)] }
def KeyedMacsSaid : Prop := keyedMacsRow.holds Tryd.pinned (OpenSpec.ofChange keyedMacsSpec)

/-- ITS FALSE NEIGHBOUR: 'it returns false'. Refute it at one input. -/
def keyedMacsWrong : ChangeSpec := { name := "keyedMacs", fn := fun _ => fun
  | [d1, d2, d3] => { results := [.lit (.bool false)], args := [d1, d2, d3] }
  | _ => none }
def KeyedMacsWrongFalsely : Prop := keyedMacsRow.holds Tryd.pinned (OpenSpec.ofChange keyedMacsWrong)

/-- 'keyholelaw03.KeyedExpands': WHATEVER THE INPUT: true; the input reads as it did. -/
def keyedExpandsSpec : ChangeSpec := { name := "keyedExpands", fn := fun _ => fun
  | [d1, d2, d3, d4] => { results := [.lit (.bool true)], args := [d1, d2, d3, d4] }
  | _ => none }
def keyedExpandsRow : OpenClaim := { program := "ytkaaicmadknjcaadoor", sum := "32898b4e5cb4ea6ab3f508095375f9441f0d089e83c8e17babe61a1a83d82f2f", func := "keyhole/keyholelaw03.KeyedExpands", spec := "keyedExpands", inPlace := ["internal/abi.NoEscape"], unfollowed := true, recurses := true, named := ["keyhole/digest.rounds"], apart := false, laid := [("keyhole/digest.rounds", laid_keyhole_digest_rounds)] }
def KeyedExpandsSaid : Prop := keyedExpandsRow.holds Tryd.pinned (OpenSpec.ofChange keyedExpandsSpec)

/-- ITS FALSE NEIGHBOUR: 'it returns false'. Refute it at one input. -/
def keyedExpandsWrong : ChangeSpec := { name := "keyedExpands", fn := fun _ => fun
  | [d1, d2, d3, d4] => { results := [.lit (.bool false)], args := [d1, d2, d3, d4] }
  | _ => none }
def KeyedExpandsWrongFalsely : Prop := keyedExpandsRow.holds Tryd.pinned (OpenSpec.ofChange keyedExpandsWrong)

/-- 'keyholelaw03.KeyedFront': WHATEVER THE INPUT: true; the input reads as it did. -/
def keyedFrontSpec : ChangeSpec := { name := "keyedFront", fn := fun _ => fun
  | [d1, d2, d3, d4, d5] => { results := [.lit (.bool true)], args := [d1, d2, d3, d4, d5] }
  | _ => none }
def keyedFrontRow : OpenClaim := { program := "ytkaaicmadknjcaadoor", sum := "32898b4e5cb4ea6ab3f508095375f9441f0d089e83c8e17babe61a1a83d82f2f", func := "keyhole/keyholelaw03.KeyedFront", spec := "keyedFront", inPlace := ["internal/abi.NoEscape"], unfollowed := true, recurses := true, named := ["keyhole/digest.rounds"], apart := false, laid := [("keyhole/digest.rounds", laid_keyhole_digest_rounds)] }
def KeyedFrontSaid : Prop := keyedFrontRow.holds Tryd.pinned (OpenSpec.ofChange keyedFrontSpec)

/-- ITS FALSE NEIGHBOUR: 'it returns false'. Refute it at one input. -/
def keyedFrontWrong : ChangeSpec := { name := "keyedFront", fn := fun _ => fun
  | [d1, d2, d3, d4, d5] => { results := [.lit (.bool false)], args := [d1, d2, d3, d4, d5] }
  | _ => none }
def KeyedFrontWrongFalsely : Prop := keyedFrontRow.holds Tryd.pinned (OpenSpec.ofChange keyedFrontWrong)

/-- 'keyholelaw17.PledgeMakes': WHATEVER THE INPUT: true; the input reads as it did. -/
def pledgeMakesSpec : ChangeSpec := { name := "pledgeMakes", fn := fun _ => fun
  | [d1, d2, d3] => { results := [.lit (.bool true)], args := [d1, d2, d3] }
  | _ => none }
def pledgeMakesRow : OpenClaim := { program := "ytkaaicmadknjcaadoor", sum := "32898b4e5cb4ea6ab3f508095375f9441f0d089e83c8e17babe61a1a83d82f2f", func := "keyhole/keyholelaw17.PledgeMakes", spec := "pledgeMakes", unfollowed := true, recurses := true, named := ["keyhole/digest.rounds"], apart := false, laid := [("keyhole/digest.rounds", laid_keyhole_digest_rounds)] }
def PledgeMakesSaid : Prop := pledgeMakesRow.holds Tryd.pinned (OpenSpec.ofChange pledgeMakesSpec)

/-- ITS FALSE NEIGHBOUR: 'it returns false'. Refute it at one input. -/
def pledgeMakesWrong : ChangeSpec := { name := "pledgeMakes", fn := fun _ => fun
  | [d1, d2, d3] => { results := [.lit (.bool false)], args := [d1, d2, d3] }
  | _ => none }
def PledgeMakesWrongFalsely : Prop := pledgeMakesRow.holds Tryd.pinned (OpenSpec.ofChange pledgeMakesWrong)

/-- 'keyholelaw17.PledgeAll': WHATEVER THE INPUT: true; the input reads as it did. -/
def pledgeAllSpec : ChangeSpec := { name := "pledgeAll", fn := fun _ => fun
  | [d1, d2] => { results := [.lit (.bool true)], args := [d1, d2] }
  | _ => none }
def pledgeAllRow : OpenClaim := { program := "ytkaaicmadknjcaadoor", sum := "32898b4e5cb4ea6ab3f508095375f9441f0d089e83c8e17babe61a1a83d82f2f", func := "keyhole/keyholelaw17.PledgeAll", spec := "pledgeAll", unfollowed := true, recurses := true, named := ["keyhole/digest.rounds"], apart := false, laid := [("keyhole/digest.rounds", laid_keyhole_digest_rounds)] }
def PledgeAllSaid : Prop := pledgeAllRow.holds Tryd.pinned (OpenSpec.ofChange pledgeAllSpec)

/-- ITS FALSE NEIGHBOUR: 'it returns false'. Refute it at one input. -/
def pledgeAllWrong : ChangeSpec := { name := "pledgeAll", fn := fun _ => fun
  | [d1, d2] => { results := [.lit (.bool false)], args := [d1, d2] }
  | _ => none }
def PledgeAllWrongFalsely : Prop := pledgeAllRow.holds Tryd.pinned (OpenSpec.ofChange pledgeAllWrong)

/-- 'keyholelaw17.PledgeRows': WHATEVER THE INPUT: true; the input reads as it did. -/
def pledgeRowsSpec : ChangeSpec := { name := "pledgeRows", fn := fun _ => fun
  | [d1, d2, d3, d4] => { results := [.lit (.bool true)], args := [d1, d2, d3, d4] }
  | _ => none }
def pledgeRowsRow : OpenClaim := { program := "ytkaaicmadknjcaadoor", sum := "32898b4e5cb4ea6ab3f508095375f9441f0d089e83c8e17babe61a1a83d82f2f", func := "keyhole/keyholelaw17.PledgeRows", spec := "pledgeRows", unfollowed := true, recurses := true, named := ["keyhole/digest.rounds"], apart := false, laid := [("keyhole/digest.rounds", laid_keyhole_digest_rounds)] }
def PledgeRowsSaid : Prop := pledgeRowsRow.holds Tryd.pinned (OpenSpec.ofChange pledgeRowsSpec)

/-- ITS FALSE NEIGHBOUR: 'it returns false'. Refute it at one input. -/
def pledgeRowsWrong : ChangeSpec := { name := "pledgeRows", fn := fun _ => fun
  | [d1, d2, d3, d4] => { results := [.lit (.bool false)], args := [d1, d2, d3, d4] }
  | _ => none }
def PledgeRowsWrongFalsely : Prop := pledgeRowsRow.holds Tryd.pinned (OpenSpec.ofChange pledgeRowsWrong)

/-- 'keyholelaw17.PledgeShows': WHATEVER THE INPUT: true; the input reads as it did. -/
def pledgeShowsSpec : ChangeSpec := { name := "pledgeShows", fn := fun _ => fun
  | [d1, d2, d3, d4] => { results := [.lit (.bool true)], args := [d1, d2, d3, d4] }
  | _ => none }
def pledgeShowsRow : OpenClaim := { program := "ytkaaicmadknjcaadoor", sum := "32898b4e5cb4ea6ab3f508095375f9441f0d089e83c8e17babe61a1a83d82f2f", func := "keyhole/keyholelaw17.PledgeShows", spec := "pledgeShows", unfollowed := true, recurses := true, named := ["keyhole/digest.rounds"], apart := false, laid := [("keyhole/digest.rounds", laid_keyhole_digest_rounds)] }
def PledgeShowsSaid : Prop := pledgeShowsRow.holds Tryd.pinned (OpenSpec.ofChange pledgeShowsSpec)

/-- ITS FALSE NEIGHBOUR: 'it returns false'. Refute it at one input. -/
def pledgeShowsWrong : ChangeSpec := { name := "pledgeShows", fn := fun _ => fun
  | [d1, d2, d3, d4] => { results := [.lit (.bool false)], args := [d1, d2, d3, d4] }
  | _ => none }
def PledgeShowsWrongFalsely : Prop := pledgeShowsRow.holds Tryd.pinned (OpenSpec.ofChange pledgeShowsWrong)

/-- 'keyholelaw17.PledgeOne': WHATEVER THE INPUT: true; the input reads as it did. -/
def pledgeOneSpec : ChangeSpec := { name := "pledgeOne", fn := fun _ => fun
  | [d1, d2, d3, d4] => { results := [.lit (.bool true)], args := [d1, d2, d3, d4] }
  | _ => none }
def pledgeOneRow : OpenClaim := { program := "ytkaaicmadknjcaadoor", sum := "32898b4e5cb4ea6ab3f508095375f9441f0d089e83c8e17babe61a1a83d82f2f", func := "keyhole/keyholelaw17.PledgeOne", spec := "pledgeOne", unfollowed := true, recurses := true, named := ["keyhole/digest.rounds"], apart := false, laid := [("keyhole/digest.rounds", laid_keyhole_digest_rounds)] }
def PledgeOneSaid : Prop := pledgeOneRow.holds Tryd.pinned (OpenSpec.ofChange pledgeOneSpec)

/-- ITS FALSE NEIGHBOUR: 'it returns false'. Refute it at one input. -/
def pledgeOneWrong : ChangeSpec := { name := "pledgeOne", fn := fun _ => fun
  | [d1, d2, d3, d4] => { results := [.lit (.bool false)], args := [d1, d2, d3, d4] }
  | _ => none }
def PledgeOneWrongFalsely : Prop := pledgeOneRow.holds Tryd.pinned (OpenSpec.ofChange pledgeOneWrong)

/-- 'keyholelaw11.TreeRoots': WHATEVER THE INPUT: true; the input reads as it did. -/
def treeRootsSpec : ChangeSpec := { name := "treeRoots", fn := fun _ => fun
  | [d1, d2, d3, d4] => { results := [.lit (.bool true)], args := [d1, d2, d3, d4] }
  | _ => none }
def treeRootsRow : OpenClaim := { program := "ytkaaicmadknjcaadoor", sum := "32898b4e5cb4ea6ab3f508095375f9441f0d089e83c8e17babe61a1a83d82f2f", func := "keyhole/keyholelaw11.TreeRoots", spec := "treeRoots", unfollowed := true, recurses := true, named := ["keyhole/digest.rounds"], apart := false, laid := [("keyhole/digest.rounds", laid_keyhole_digest_rounds)] }
def TreeRootsSaid : Prop := treeRootsRow.holds Tryd.pinned (OpenSpec.ofChange treeRootsSpec)

/-- ITS FALSE NEIGHBOUR: 'it returns false'. Refute it at one input. -/
def treeRootsWrong : ChangeSpec := { name := "treeRoots", fn := fun _ => fun
  | [d1, d2, d3, d4] => { results := [.lit (.bool false)], args := [d1, d2, d3, d4] }
  | _ => none }
def TreeRootsWrongFalsely : Prop := treeRootsRow.holds Tryd.pinned (OpenSpec.ofChange treeRootsWrong)

/-- 'keyholelaw11.TreeClimbs': WHATEVER THE INPUT: true; the input reads as it did. -/
def treeClimbsSpec : ChangeSpec := { name := "treeClimbs", fn := fun _ => fun
  | [d1, d2, d3, d4] => { results := [.lit (.bool true)], args := [d1, d2, d3, d4] }
  | _ => none }
def treeClimbsRow : OpenClaim := { program := "ytkaaicmadknjcaadoor", sum := "32898b4e5cb4ea6ab3f508095375f9441f0d089e83c8e17babe61a1a83d82f2f", func := "keyhole/keyholelaw11.TreeClimbs", spec := "treeClimbs", unfollowed := true, recurses := true, named := ["keyhole/digest.rounds"], apart := false, laid := [("keyhole/digest.rounds", laid_keyhole_digest_rounds)] }
def TreeClimbsSaid : Prop := treeClimbsRow.holds Tryd.pinned (OpenSpec.ofChange treeClimbsSpec)

/-- ITS FALSE NEIGHBOUR: 'it returns false'. Refute it at one input. -/
def treeClimbsWrong : ChangeSpec := { name := "treeClimbs", fn := fun _ => fun
  | [d1, d2, d3, d4] => { results := [.lit (.bool false)], args := [d1, d2, d3, d4] }
  | _ => none }
def TreeClimbsWrongFalsely : Prop := treeClimbsRow.holds Tryd.pinned (OpenSpec.ofChange treeClimbsWrong)

/-- 'keyholelaw11.TreeTold': WHATEVER THE INPUT: true; the input reads as it did. -/
def treeToldSpec : ChangeSpec := { name := "treeTold", fn := fun _ => fun
  | [d1, d2, d3, d4] => { results := [.lit (.bool true)], args := [d1, d2, d3, d4] }
  | _ => none }
def treeToldRow : OpenClaim := { program := "ytkaaicmadknjcaadoor", sum := "32898b4e5cb4ea6ab3f508095375f9441f0d089e83c8e17babe61a1a83d82f2f", func := "keyhole/keyholelaw11.TreeTold", spec := "treeTold", unfollowed := true, recurses := true, named := ["keyhole/digest.rounds"], apart := false, laid := [("keyhole/digest.rounds", laid_keyhole_digest_rounds)] }
def TreeToldSaid : Prop := treeToldRow.holds Tryd.pinned (OpenSpec.ofChange treeToldSpec)

/-- ITS FALSE NEIGHBOUR: 'it returns false'. Refute it at one input. -/
def treeToldWrong : ChangeSpec := { name := "treeTold", fn := fun _ => fun
  | [d1, d2, d3, d4] => { results := [.lit (.bool false)], args := [d1, d2, d3, d4] }
  | _ => none }
def TreeToldWrongFalsely : Prop := treeToldRow.holds Tryd.pinned (OpenSpec.ofChange treeToldWrong)

/-- 'keyholelaw11.TreeShows': WHATEVER THE INPUT: true; the input reads as it did. -/
def treeShowsSpec : ChangeSpec := { name := "treeShows", fn := fun _ => fun
  | [d1, d2, d3, d4, d5] => { results := [.lit (.bool true)], args := [d1, d2, d3, d4, d5] }
  | _ => none }
def treeShowsRow : OpenClaim := { program := "ytkaaicmadknjcaadoor", sum := "32898b4e5cb4ea6ab3f508095375f9441f0d089e83c8e17babe61a1a83d82f2f", func := "keyhole/keyholelaw11.TreeShows", spec := "treeShows", unfollowed := true, recurses := true, named := ["keyhole/digest.rounds"], apart := false, laid := [("keyhole/digest.rounds", laid_keyhole_digest_rounds)] }
def TreeShowsSaid : Prop := treeShowsRow.holds Tryd.pinned (OpenSpec.ofChange treeShowsSpec)

/-- ITS FALSE NEIGHBOUR: 'it returns false'. Refute it at one input. -/
def treeShowsWrong : ChangeSpec := { name := "treeShows", fn := fun _ => fun
  | [d1, d2, d3, d4, d5] => { results := [.lit (.bool false)], args := [d1, d2, d3, d4, d5] }
  | _ => none }
def TreeShowsWrongFalsely : Prop := treeShowsRow.holds Tryd.pinned (OpenSpec.ofChange treeShowsWrong)

/- THE SECOND FORM. 'bulk': how many values and letters a reading holds, each counted each time it is reached (what is shared counts as often as it is met; a slice's spare places count too). A statement '..UptoSaid' is the law's where the arguments, and the package variables that the reading takes, are together of bulk at most 1048576: NARROWER than '..Said'. Prove '..Said' where nothing that the law and all that it calls make is longer than what came in: it says more and counts as full. Else prove '..UptoSaid'. A law counts once. -/
mutual
def uptoBulk {H : Type} : DataW H → Nat
  | .lit (.string bytes) => bytes.length + 1
  | .lit _ => 1
  | .nil => 1
  | .ptr d => uptoBulk d + 1
  | .slice elems spare => uptoBulkAll elems + uptoBulkAll spare + 1
  | .agg parts => uptoBulkAll parts + 1
  | .iface _ d => uptoBulk d + 1
  | .map entries => uptoBulkEntries entries + 1
  | .held _ => 1
def uptoBulkAll {H : Type} : List (DataW H) → Nat
  | [] => 0
  | d :: r => uptoBulk d + uptoBulkAll r
def uptoBulkEntries {H : Type} : List (Lit × DataW H) → Nat
  | [] => 0
  | x :: r => uptoBulkEntry x + uptoBulkEntries r
def uptoBulkEntry {H : Type} : Lit × DataW H → Nat
  | (.string bytes, d) => bytes.length + uptoBulk d + 1
  | (_, d) => uptoBulk d + 1
 end
def uptoSmall : (H : Type) → List (DataW H) → Bool := fun _ ds => decide (uptoBulkAll ds ≤ 1048576)
def OpenSpec.upto (s : _root_.Go.ChangeSpec) : _root_.Go.OpenSpec := { _root_.Go.OpenSpec.ofChange s with cond := some uptoSmall }

/-- 'keyholelaw02.DigestSteps', WHERE WHAT IT READS IS OF BULK AT MOST 1048576: true; the input reads as it did. -/
def digestStepsUptoRow : OpenClaim := { program := "ytkaaicmadknjcaadoor", sum := "32898b4e5cb4ea6ab3f508095375f9441f0d089e83c8e17babe61a1a83d82f2f", func := "keyhole/keyholelaw02.DigestSteps", spec := "digestSteps", unfollowed := true, recurses := true, named := ["keyhole/digest.rounds"], apart := false, laid := [("keyhole/digest.rounds", laid_keyhole_digest_rounds)], narrowed := true }
def DigestStepsUptoSaid : Prop := digestStepsUptoRow.holds Tryd.pinned (OpenSpec.upto digestStepsSpec)

/-- 'keyholelaw02.DigestSums', WHERE WHAT IT READS IS OF BULK AT MOST 1048576: true; the input reads as it did. -/
def digestSumsUptoRow : OpenClaim := { program := "ytkaaicmadknjcaadoor", sum := "32898b4e5cb4ea6ab3f508095375f9441f0d089e83c8e17babe61a1a83d82f2f", func := "keyhole/keyholelaw02.DigestSums", spec := "digestSums", unfollowed := true, recurses := true, named := ["keyhole/digest.rounds"], apart := false, laid := [("keyhole/digest.rounds", laid_keyhole_digest_rounds)], narrowed := true }
def DigestSumsUptoSaid : Prop := digestSumsUptoRow.holds Tryd.pinned (OpenSpec.upto digestSumsSpec)

/-- 'keyholelaw02.DigestWalks', WHERE WHAT IT READS IS OF BULK AT MOST 1048576: true; the input reads as it did. -/
def digestWalksUptoRow : OpenClaim := { program := "ytkaaicmadknjcaadoor", sum := "32898b4e5cb4ea6ab3f508095375f9441f0d089e83c8e17babe61a1a83d82f2f", func := "keyhole/keyholelaw02.DigestWalks", spec := "digestWalks", unfollowed := true, recurses := true, named := ["keyhole/digest.rounds"], apart := false, laid := [("keyhole/digest.rounds", laid_keyhole_digest_rounds)], narrowed := true }
def DigestWalksUptoSaid : Prop := digestWalksUptoRow.holds Tryd.pinned (OpenSpec.upto digestWalksSpec)

/-- 'keyholelaw02.DigestPads', WHERE WHAT IT READS IS OF BULK AT MOST 1048576: true; the input reads as it did. -/
def digestPadsUptoRow : OpenClaim := { program := "ytkaaicmadknjcaadoor", sum := "32898b4e5cb4ea6ab3f508095375f9441f0d089e83c8e17babe61a1a83d82f2f", func := "keyhole/keyholelaw02.DigestPads", spec := "digestPads", unfollowed := true, recurses := true, named := ["keyhole/digest.rounds"], apart := false, laid := [("keyhole/digest.rounds", laid_keyhole_digest_rounds)], narrowed := true }
def DigestPadsUptoSaid : Prop := digestPadsUptoRow.holds Tryd.pinned (OpenSpec.upto digestPadsSpec)

/-- 'keyholelaw02.DigestGoes', WHERE WHAT IT READS IS OF BULK AT MOST 1048576: true; the input reads as it did. -/
def digestGoesUptoRow : OpenClaim := { program := "ytkaaicmadknjcaadoor", sum := "32898b4e5cb4ea6ab3f508095375f9441f0d089e83c8e17babe61a1a83d82f2f", func := "keyhole/keyholelaw02.DigestGoes", spec := "digestGoes", unfollowed := true, recurses := true, named := ["keyhole/digest.rounds"], apart := false, laid := [("keyhole/digest.rounds", laid_keyhole_digest_rounds)], narrowed := true }
def DigestGoesUptoSaid : Prop := digestGoesUptoRow.holds Tryd.pinned (OpenSpec.upto digestGoesSpec)

/-- 'keyholelaw03.KeyedZeros', WHERE WHAT IT READS IS OF BULK AT MOST 1048576: true; the input reads as it did. -/
def keyedZerosUptoRow : OpenClaim := { program := "ytkaaicmadknjcaadoor", sum := "32898b4e5cb4ea6ab3f508095375f9441f0d089e83c8e17babe61a1a83d82f2f", func := "keyhole/keyholelaw03.KeyedZeros", spec := "keyedZeros", inPlace := ["internal/abi.NoEscape"], unfollowed := true, recurses := true, named := ["keyhole/digest.rounds"], apart := false, laid := [("keyhole/digest.rounds", laid_keyhole_digest_rounds)], narrowed := true }
def KeyedZerosUptoSaid : Prop := keyedZerosUptoRow.holds Tryd.pinned (OpenSpec.upto keyedZerosSpec)

/-- 'keyholelaw03.KeyedNext', WHERE WHAT IT READS IS OF BULK AT MOST 1048576: true; the input reads as it did. -/
def keyedNextUptoRow : OpenClaim := { program := "ytkaaicmadknjcaadoor", sum := "32898b4e5cb4ea6ab3f508095375f9441f0d089e83c8e17babe61a1a83d82f2f", func := "keyhole/keyholelaw03.KeyedNext", spec := "keyedNext", inPlace := ["internal/abi.NoEscape"], unfollowed := true, recurses := true, named := ["keyhole/digest.rounds"], apart := false, laid := [("keyhole/digest.rounds", laid_keyhole_digest_rounds)], narrowed := true }
def KeyedNextUptoSaid : Prop := keyedNextUptoRow.holds Tryd.pinned (OpenSpec.upto keyedNextSpec)

/-- 'keyholelaw03.KeyedMacs', WHERE WHAT IT READS IS OF BULK AT MOST 1048576: true; the input reads as it did. -/
def keyedMacsUptoRow : OpenClaim := { program := "ytkaaicmadknjcaadoor", sum := "32898b4e5cb4ea6ab3f508095375f9441f0d089e83c8e17babe61a1a83d82f2f", func := "keyhole/keyholelaw03.KeyedMacs", spec := "keyedMacs", inPlace := ["internal/abi.NoEscape"], unfollowed := true, recurses := true, named := ["keyhole/digest.rounds"], apart := false, laid := [("keyhole/digest.rounds", laid_keyhole_digest_rounds)], narrowed := true }
def KeyedMacsUptoSaid : Prop := keyedMacsUptoRow.holds Tryd.pinned (OpenSpec.upto keyedMacsSpec)

/-- 'keyholelaw03.KeyedExpands', WHERE WHAT IT READS IS OF BULK AT MOST 1048576: true; the input reads as it did. -/
def keyedExpandsUptoRow : OpenClaim := { program := "ytkaaicmadknjcaadoor", sum := "32898b4e5cb4ea6ab3f508095375f9441f0d089e83c8e17babe61a1a83d82f2f", func := "keyhole/keyholelaw03.KeyedExpands", spec := "keyedExpands", inPlace := ["internal/abi.NoEscape"], unfollowed := true, recurses := true, named := ["keyhole/digest.rounds"], apart := false, laid := [("keyhole/digest.rounds", laid_keyhole_digest_rounds)], narrowed := true }
def KeyedExpandsUptoSaid : Prop := keyedExpandsUptoRow.holds Tryd.pinned (OpenSpec.upto keyedExpandsSpec)

/-- 'keyholelaw03.KeyedFront', WHERE WHAT IT READS IS OF BULK AT MOST 1048576: true; the input reads as it did. -/
def keyedFrontUptoRow : OpenClaim := { program := "ytkaaicmadknjcaadoor", sum := "32898b4e5cb4ea6ab3f508095375f9441f0d089e83c8e17babe61a1a83d82f2f", func := "keyhole/keyholelaw03.KeyedFront", spec := "keyedFront", inPlace := ["internal/abi.NoEscape"], unfollowed := true, recurses := true, named := ["keyhole/digest.rounds"], apart := false, laid := [("keyhole/digest.rounds", laid_keyhole_digest_rounds)], narrowed := true }
def KeyedFrontUptoSaid : Prop := keyedFrontUptoRow.holds Tryd.pinned (OpenSpec.upto keyedFrontSpec)

/-- 'keyholelaw17.PledgeMakes', WHERE WHAT IT READS IS OF BULK AT MOST 1048576: true; the input reads as it did. -/
def pledgeMakesUptoRow : OpenClaim := { program := "ytkaaicmadknjcaadoor", sum := "32898b4e5cb4ea6ab3f508095375f9441f0d089e83c8e17babe61a1a83d82f2f", func := "keyhole/keyholelaw17.PledgeMakes", spec := "pledgeMakes", unfollowed := true, recurses := true, named := ["keyhole/digest.rounds"], apart := false, laid := [("keyhole/digest.rounds", laid_keyhole_digest_rounds)], narrowed := true }
def PledgeMakesUptoSaid : Prop := pledgeMakesUptoRow.holds Tryd.pinned (OpenSpec.upto pledgeMakesSpec)

/-- 'keyholelaw17.PledgeAll', WHERE WHAT IT READS IS OF BULK AT MOST 1048576: true; the input reads as it did. -/
def pledgeAllUptoRow : OpenClaim := { program := "ytkaaicmadknjcaadoor", sum := "32898b4e5cb4ea6ab3f508095375f9441f0d089e83c8e17babe61a1a83d82f2f", func := "keyhole/keyholelaw17.PledgeAll", spec := "pledgeAll", unfollowed := true, recurses := true, named := ["keyhole/digest.rounds"], apart := false, laid := [("keyhole/digest.rounds", laid_keyhole_digest_rounds)], narrowed := true }
def PledgeAllUptoSaid : Prop := pledgeAllUptoRow.holds Tryd.pinned (OpenSpec.upto pledgeAllSpec)

/-- 'keyholelaw17.PledgeRows', WHERE WHAT IT READS IS OF BULK AT MOST 1048576: true; the input reads as it did. -/
def pledgeRowsUptoRow : OpenClaim := { program := "ytkaaicmadknjcaadoor", sum := "32898b4e5cb4ea6ab3f508095375f9441f0d089e83c8e17babe61a1a83d82f2f", func := "keyhole/keyholelaw17.PledgeRows", spec := "pledgeRows", unfollowed := true, recurses := true, named := ["keyhole/digest.rounds"], apart := false, laid := [("keyhole/digest.rounds", laid_keyhole_digest_rounds)], narrowed := true }
def PledgeRowsUptoSaid : Prop := pledgeRowsUptoRow.holds Tryd.pinned (OpenSpec.upto pledgeRowsSpec)

/-- 'keyholelaw17.PledgeShows', WHERE WHAT IT READS IS OF BULK AT MOST 1048576: true; the input reads as it did. -/
def pledgeShowsUptoRow : OpenClaim := { program := "ytkaaicmadknjcaadoor", sum := "32898b4e5cb4ea6ab3f508095375f9441f0d089e83c8e17babe61a1a83d82f2f", func := "keyhole/keyholelaw17.PledgeShows", spec := "pledgeShows", unfollowed := true, recurses := true, named := ["keyhole/digest.rounds"], apart := false, laid := [("keyhole/digest.rounds", laid_keyhole_digest_rounds)], narrowed := true }
def PledgeShowsUptoSaid : Prop := pledgeShowsUptoRow.holds Tryd.pinned (OpenSpec.upto pledgeShowsSpec)

/-- 'keyholelaw17.PledgeOne', WHERE WHAT IT READS IS OF BULK AT MOST 1048576: true; the input reads as it did. -/
def pledgeOneUptoRow : OpenClaim := { program := "ytkaaicmadknjcaadoor", sum := "32898b4e5cb4ea6ab3f508095375f9441f0d089e83c8e17babe61a1a83d82f2f", func := "keyhole/keyholelaw17.PledgeOne", spec := "pledgeOne", unfollowed := true, recurses := true, named := ["keyhole/digest.rounds"], apart := false, laid := [("keyhole/digest.rounds", laid_keyhole_digest_rounds)], narrowed := true }
def PledgeOneUptoSaid : Prop := pledgeOneUptoRow.holds Tryd.pinned (OpenSpec.upto pledgeOneSpec)

/-- 'keyholelaw11.TreeRoots', WHERE WHAT IT READS IS OF BULK AT MOST 1048576: true; the input reads as it did. -/
def treeRootsUptoRow : OpenClaim := { program := "ytkaaicmadknjcaadoor", sum := "32898b4e5cb4ea6ab3f508095375f9441f0d089e83c8e17babe61a1a83d82f2f", func := "keyhole/keyholelaw11.TreeRoots", spec := "treeRoots", unfollowed := true, recurses := true, named := ["keyhole/digest.rounds"], apart := false, laid := [("keyhole/digest.rounds", laid_keyhole_digest_rounds)], narrowed := true }
def TreeRootsUptoSaid : Prop := treeRootsUptoRow.holds Tryd.pinned (OpenSpec.upto treeRootsSpec)

/-- 'keyholelaw11.TreeClimbs', WHERE WHAT IT READS IS OF BULK AT MOST 1048576: true; the input reads as it did. -/
def treeClimbsUptoRow : OpenClaim := { program := "ytkaaicmadknjcaadoor", sum := "32898b4e5cb4ea6ab3f508095375f9441f0d089e83c8e17babe61a1a83d82f2f", func := "keyhole/keyholelaw11.TreeClimbs", spec := "treeClimbs", unfollowed := true, recurses := true, named := ["keyhole/digest.rounds"], apart := false, laid := [("keyhole/digest.rounds", laid_keyhole_digest_rounds)], narrowed := true }
def TreeClimbsUptoSaid : Prop := treeClimbsUptoRow.holds Tryd.pinned (OpenSpec.upto treeClimbsSpec)

/-- 'keyholelaw11.TreeTold', WHERE WHAT IT READS IS OF BULK AT MOST 1048576: true; the input reads as it did. -/
def treeToldUptoRow : OpenClaim := { program := "ytkaaicmadknjcaadoor", sum := "32898b4e5cb4ea6ab3f508095375f9441f0d089e83c8e17babe61a1a83d82f2f", func := "keyhole/keyholelaw11.TreeTold", spec := "treeTold", unfollowed := true, recurses := true, named := ["keyhole/digest.rounds"], apart := false, laid := [("keyhole/digest.rounds", laid_keyhole_digest_rounds)], narrowed := true }
def TreeToldUptoSaid : Prop := treeToldUptoRow.holds Tryd.pinned (OpenSpec.upto treeToldSpec)

/-- 'keyholelaw11.TreeShows', WHERE WHAT IT READS IS OF BULK AT MOST 1048576: true; the input reads as it did. -/
def treeShowsUptoRow : OpenClaim := { program := "ytkaaicmadknjcaadoor", sum := "32898b4e5cb4ea6ab3f508095375f9441f0d089e83c8e17babe61a1a83d82f2f", func := "keyhole/keyholelaw11.TreeShows", spec := "treeShows", unfollowed := true, recurses := true, named := ["keyhole/digest.rounds"], apart := false, laid := [("keyhole/digest.rounds", laid_keyhole_digest_rounds)], narrowed := true }
def TreeShowsUptoSaid : Prop := treeShowsUptoRow.holds Tryd.pinned (OpenSpec.upto treeShowsSpec)

end Rows
end Go.Proofs.YtkaaicmadknjcaaDoor
