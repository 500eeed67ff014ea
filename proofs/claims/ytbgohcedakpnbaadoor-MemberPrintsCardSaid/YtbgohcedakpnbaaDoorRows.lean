/-
  NARROWER THAN 'FOR EVERY INPUT', by the rows' own cells (each row's printed sentence says how): MemberPrints: laid · MemberPlaces: laid · MemberLess: laid · SessionOnce: laid · SessionEnds: laid · SessionLost: laid · SessionPairs: laid.
  DERIVED. THE GIVEN ROWS OF THIS SEAT. 7 by the template 'for every input the law returns true; each argument reads behind the call as it read before'; 0 by the template 'total and deterministic' (their statements: YtbgohcedakpnbaaDoorTotals.lean).
  GIVEN WITH THE SEED: the statements are not yours to turn. If you find one false, say at which input.
  Laid BY PROGRAM, IN A SANDBOX (cutbox-rows.mjs): the forced cells as the released guide's own fill.sh prints them over the translation c73416e545d80194… (all of the seat's roots in one cut). By AI agents, Wed Nov 11 2026. No macro, syntax, notation, axiom, sorry.
-/
import Derived.Test.YtbgohcedakpnbaaDoorChecked
import GoSem.Claim
import GoSem.ClaimJoined
import GoSem.ClaimMapViews
import Derived.JoinedTies
import Derived.KernelRfl
namespace Go.Proofs.YtbgohcedakpnbaaDoor
/- THE CELL 'sum', in the pinned program and in every row, IS THE sha256 OF THE DUMP (.gsa) THAT YtbgohcedakpnbaaDoorProg.lean LOADS. Nothing in Lean hashes anything: it is a label: what it is worth is what the hold of that sum in a sandbox is worth. -/
noncomputable def Tryd.pinned : Pinned := { name := "ytbgohcedakpnbaadoor", sum := "c73416e545d80194ce02d80caecef89848ba7d71b65702ce25ea2d02586bdb63", checked := Tryd.checked }
namespace Rows
def none {H : Type} : Left H := { results := [], args := [] }

/- WHAT THE LISTED PACKAGE-LEVEL VARIABLES READ AS WHEN THE CALL BEGINS. Each datum BY PROGRAM (the guide's laid-datum.mjs) off the statement by which the dump's own 'gosem.cut.vars' lays the variable. In a bare row this is a premise. The card (YtbgohcedakpnbaaDoorCards.lean) ties it to the program's text. -/
def laid_math_bits_deBruijn32tab {H : Type} : DataW H := .agg [.lit (.int .u8 0), .lit (.int .u8 1), .lit (.int .u8 28), .lit (.int .u8 2), .lit (.int .u8 29), .lit (.int .u8 14), .lit (.int .u8 24), .lit (.int .u8 3), .lit (.int .u8 30), .lit (.int .u8 22), .lit (.int .u8 20), .lit (.int .u8 15), .lit (.int .u8 25), .lit (.int .u8 17), .lit (.int .u8 4), .lit (.int .u8 8), .lit (.int .u8 31), .lit (.int .u8 27), .lit (.int .u8 13), .lit (.int .u8 23), .lit (.int .u8 21), .lit (.int .u8 19), .lit (.int .u8 16), .lit (.int .u8 7), .lit (.int .u8 26), .lit (.int .u8 12), .lit (.int .u8 18), .lit (.int .u8 6), .lit (.int .u8 11), .lit (.int .u8 5), .lit (.int .u8 10), .lit (.int .u8 9)]
def laid_math_bits_deBruijn64tab {H : Type} : DataW H := .agg [.lit (.int .u8 0), .lit (.int .u8 1), .lit (.int .u8 56), .lit (.int .u8 2), .lit (.int .u8 57), .lit (.int .u8 49), .lit (.int .u8 28), .lit (.int .u8 3), .lit (.int .u8 61), .lit (.int .u8 58), .lit (.int .u8 42), .lit (.int .u8 50), .lit (.int .u8 38), .lit (.int .u8 29), .lit (.int .u8 17), .lit (.int .u8 4), .lit (.int .u8 62), .lit (.int .u8 47), .lit (.int .u8 59), .lit (.int .u8 36), .lit (.int .u8 45), .lit (.int .u8 43), .lit (.int .u8 51), .lit (.int .u8 22), .lit (.int .u8 53), .lit (.int .u8 39), .lit (.int .u8 33), .lit (.int .u8 30), .lit (.int .u8 24), .lit (.int .u8 18), .lit (.int .u8 12), .lit (.int .u8 5), .lit (.int .u8 63), .lit (.int .u8 55), .lit (.int .u8 48), .lit (.int .u8 27), .lit (.int .u8 60), .lit (.int .u8 41), .lit (.int .u8 37), .lit (.int .u8 16), .lit (.int .u8 46), .lit (.int .u8 35), .lit (.int .u8 44), .lit (.int .u8 21), .lit (.int .u8 52), .lit (.int .u8 32), .lit (.int .u8 23), .lit (.int .u8 11), .lit (.int .u8 54), .lit (.int .u8 26), .lit (.int .u8 40), .lit (.int .u8 15), .lit (.int .u8 34), .lit (.int .u8 20), .lit (.int .u8 31), .lit (.int .u8 10), .lit (.int .u8 25), .lit (.int .u8 14), .lit (.int .u8 19), .lit (.int .u8 9), .lit (.int .u8 13), .lit (.int .u8 8), .lit (.int .u8 7), .lit (.int .u8 6)]
def laid_internal_strconv_uint64pow10 {H : Type} : DataW H := .agg [.lit (.int .u64 1), .lit (.int .u64 10), .lit (.int .u64 100), .lit (.int .u64 1000), .lit (.int .u64 10000), .lit (.int .u64 100000), .lit (.int .u64 1000000), .lit (.int .u64 10000000), .lit (.int .u64 100000000), .lit (.int .u64 1000000000), .lit (.int .u64 10000000000), .lit (.int .u64 100000000000), .lit (.int .u64 1000000000000), .lit (.int .u64 10000000000000), .lit (.int .u64 100000000000000), .lit (.int .u64 1000000000000000), .lit (.int .u64 10000000000000000), .lit (.int .u64 100000000000000000), .lit (.int .u64 1000000000000000000), .lit (.int .u64 10000000000000000000)]
def laid_strconv_ErrRange {H : Type} : DataW H := .iface "*errors.errorString" (.ptr (.agg [.lit (.string [118, 97, 108, 117, 101, 32, 111, 117, 116, 32, 111, 102, 32, 114, 97, 110, 103, 101])]))
def laid_strconv_ErrSyntax {H : Type} : DataW H := .iface "*errors.errorString" (.ptr (.agg [.lit (.string [105, 110, 118, 97, 108, 105, 100, 32, 115, 121, 110, 116, 97, 120])]))
def laid_keyhole_stream_turns {H : Type} : DataW H := .agg [.agg [.lit (.int .i64 0), .lit (.int .i64 4), .lit (.int .i64 8), .lit (.int .i64 12)], .agg [.lit (.int .i64 1), .lit (.int .i64 5), .lit (.int .i64 9), .lit (.int .i64 13)], .agg [.lit (.int .i64 2), .lit (.int .i64 6), .lit (.int .i64 10), .lit (.int .i64 14)], .agg [.lit (.int .i64 3), .lit (.int .i64 7), .lit (.int .i64 11), .lit (.int .i64 15)], .agg [.lit (.int .i64 0), .lit (.int .i64 5), .lit (.int .i64 10), .lit (.int .i64 15)], .agg [.lit (.int .i64 1), .lit (.int .i64 6), .lit (.int .i64 11), .lit (.int .i64 12)], .agg [.lit (.int .i64 2), .lit (.int .i64 7), .lit (.int .i64 8), .lit (.int .i64 13)], .agg [.lit (.int .i64 3), .lit (.int .i64 4), .lit (.int .i64 9), .lit (.int .i64 14)]]
def laid_keyhole_digest_rounds {H : Type} : DataW H := .agg [.lit (.int .i64 1116352408), .lit (.int .i64 1899447441), .lit (.int .i64 3049323471), .lit (.int .i64 3921009573), .lit (.int .i64 961987163), .lit (.int .i64 1508970993), .lit (.int .i64 2453635748), .lit (.int .i64 2870763221), .lit (.int .i64 3624381080), .lit (.int .i64 310598401), .lit (.int .i64 607225278), .lit (.int .i64 1426881987), .lit (.int .i64 1925078388), .lit (.int .i64 2162078206), .lit (.int .i64 2614888103), .lit (.int .i64 3248222580), .lit (.int .i64 3835390401), .lit (.int .i64 4022224774), .lit (.int .i64 264347078), .lit (.int .i64 604807628), .lit (.int .i64 770255983), .lit (.int .i64 1249150122), .lit (.int .i64 1555081692), .lit (.int .i64 1996064986), .lit (.int .i64 2554220882), .lit (.int .i64 2821834349), .lit (.int .i64 2952996808), .lit (.int .i64 3210313671), .lit (.int .i64 3336571891), .lit (.int .i64 3584528711), .lit (.int .i64 113926993), .lit (.int .i64 338241895), .lit (.int .i64 666307205), .lit (.int .i64 773529912), .lit (.int .i64 1294757372), .lit (.int .i64 1396182291), .lit (.int .i64 1695183700), .lit (.int .i64 1986661051), .lit (.int .i64 2177026350), .lit (.int .i64 2456956037), .lit (.int .i64 2730485921), .lit (.int .i64 2820302411), .lit (.int .i64 3259730800), .lit (.int .i64 3345764771), .lit (.int .i64 3516065817), .lit (.int .i64 3600352804), .lit (.int .i64 4094571909), .lit (.int .i64 275423344), .lit (.int .i64 430227734), .lit (.int .i64 506948616), .lit (.int .i64 659060556), .lit (.int .i64 883997877), .lit (.int .i64 958139571), .lit (.int .i64 1322822218), .lit (.int .i64 1537002063), .lit (.int .i64 1747873779), .lit (.int .i64 1955562222), .lit (.int .i64 2024104815), .lit (.int .i64 2227730452), .lit (.int .i64 2361852424), .lit (.int .i64 2428436474), .lit (.int .i64 2756734187), .lit (.int .i64 3204031479), .lit (.int .i64 3329325298)]

/-- 'keyholelaw18.MemberPrints': WHATEVER THE INPUT: true; the input reads as it did. -/
def memberPrintsSpec : ChangeSpec := { name := "memberPrints", fn := fun _ => fun
  | [d1, d2, d3] => { results := [.lit (.bool true)], args := [d1, d2, d3] }
  | _ => none }
def memberPrintsRow : OpenClaim := { program := "ytbgohcedakpnbaadoor", sum := "c73416e545d80194ce02d80caecef89848ba7d71b65702ce25ea2d02586bdb63", func := "keyhole/keyholelaw18.MemberPrints", spec := "memberPrints", inPlace := ["internal/abi.NoEscape", "internal/bytealg.IndexByteString", "internal/bytealg.IndexString"], unfollowed := true, recurses := true, named := ["internal/strconv.uint64pow10", "math/bits.deBruijn32tab", "math/bits.deBruijn64tab", "internal/bytealg.MaxLen", "strconv.ErrSyntax", "strconv.ErrRange"], apart := false, laid := [("math/bits.deBruijn32tab", laid_math_bits_deBruijn32tab), ("math/bits.deBruijn64tab", laid_math_bits_deBruijn64tab), ("internal/strconv.uint64pow10", laid_internal_strconv_uint64pow10), ("strconv.ErrRange", laid_strconv_ErrRange), ("strconv.ErrSyntax", laid_strconv_ErrSyntax)] }
def MemberPrintsSaid : Prop := memberPrintsRow.holds Tryd.pinned (OpenSpec.ofChange memberPrintsSpec)

/-- ITS FALSE NEIGHBOUR: 'it returns false'. Refute it at one input. -/
def memberPrintsWrong : ChangeSpec := { name := "memberPrints", fn := fun _ => fun
  | [d1, d2, d3] => { results := [.lit (.bool false)], args := [d1, d2, d3] }
  | _ => none }
def MemberPrintsWrongFalsely : Prop := memberPrintsRow.holds Tryd.pinned (OpenSpec.ofChange memberPrintsWrong)

/-- 'keyholelaw18.MemberPlaces': WHATEVER THE INPUT: true; the input reads as it did. -/
def memberPlacesSpec : ChangeSpec := { name := "memberPlaces", fn := fun _ => fun
  | [d] => { results := [.lit (.bool true)], args := [d] }
  | _ => none }
def memberPlacesRow : OpenClaim := { program := "ytbgohcedakpnbaadoor", sum := "c73416e545d80194ce02d80caecef89848ba7d71b65702ce25ea2d02586bdb63", func := "keyhole/keyholelaw18.MemberPlaces", spec := "memberPlaces", inPlace := ["internal/abi.NoEscape", "internal/bytealg.IndexByteString", "internal/bytealg.IndexString"], unfollowed := true, recurses := true, named := ["internal/strconv.uint64pow10", "math/bits.deBruijn32tab", "math/bits.deBruijn64tab", "internal/bytealg.MaxLen", "strconv.ErrSyntax", "strconv.ErrRange"], apart := false, laid := [("math/bits.deBruijn32tab", laid_math_bits_deBruijn32tab), ("math/bits.deBruijn64tab", laid_math_bits_deBruijn64tab), ("internal/strconv.uint64pow10", laid_internal_strconv_uint64pow10), ("strconv.ErrRange", laid_strconv_ErrRange), ("strconv.ErrSyntax", laid_strconv_ErrSyntax)] }
def MemberPlacesSaid : Prop := memberPlacesRow.holds Tryd.pinned (OpenSpec.ofChange memberPlacesSpec)

/-- ITS FALSE NEIGHBOUR: 'it returns false'. Refute it at one input. -/
def memberPlacesWrong : ChangeSpec := { name := "memberPlaces", fn := fun _ => fun
  | [d] => { results := [.lit (.bool false)], args := [d] }
  | _ => none }
def MemberPlacesWrongFalsely : Prop := memberPlacesRow.holds Tryd.pinned (OpenSpec.ofChange memberPlacesWrong)

/-- 'keyholelaw18.MemberLess': WHATEVER THE INPUT: true; the input reads as it did. -/
def memberLessSpec : ChangeSpec := { name := "memberLess", fn := fun _ => fun
  | [d1, d2] => { results := [.lit (.bool true)], args := [d1, d2] }
  | _ => none }
def memberLessRow : OpenClaim := { program := "ytbgohcedakpnbaadoor", sum := "c73416e545d80194ce02d80caecef89848ba7d71b65702ce25ea2d02586bdb63", func := "keyhole/keyholelaw18.MemberLess", spec := "memberLess", inPlace := ["internal/abi.NoEscape", "internal/bytealg.IndexByteString", "internal/bytealg.IndexString"], unfollowed := true, recurses := true, named := ["internal/strconv.uint64pow10", "math/bits.deBruijn32tab", "math/bits.deBruijn64tab", "internal/bytealg.MaxLen", "strconv.ErrSyntax", "strconv.ErrRange"], apart := false, laid := [("math/bits.deBruijn32tab", laid_math_bits_deBruijn32tab), ("math/bits.deBruijn64tab", laid_math_bits_deBruijn64tab), ("internal/strconv.uint64pow10", laid_internal_strconv_uint64pow10), ("strconv.ErrRange", laid_strconv_ErrRange), ("strconv.ErrSyntax", laid_strconv_ErrSyntax)] }
def MemberLessSaid : Prop := memberLessRow.holds Tryd.pinned (OpenSpec.ofChange memberLessSpec)

/-- ITS FALSE NEIGHBOUR: 'it returns false'. Refute it at one input. -/
def memberLessWrong : ChangeSpec := { name := "memberLess", fn := fun _ => fun
  | [d1, d2] => { results := [.lit (.bool false)], args := [d1, d2] }
  | _ => none }
def MemberLessWrongFalsely : Prop := memberLessRow.holds Tryd.pinned (OpenSpec.ofChange memberLessWrong)

/-- 'keyholelaw20.SessionOnce': WHATEVER THE INPUT: true; the input reads as it did. -/
def sessionOnceSpec : ChangeSpec := { name := "sessionOnce", fn := fun _ => fun
  | [d1, d2, d3, d4] => { results := [.lit (.bool true)], args := [d1, d2, d3, d4] }
  | _ => none }
def sessionOnceRow : OpenClaim := { program := "ytbgohcedakpnbaadoor", sum := "c73416e545d80194ce02d80caecef89848ba7d71b65702ce25ea2d02586bdb63", func := "keyhole/keyholelaw20.SessionOnce", spec := "sessionOnce", inPlace := ["internal/abi.NoEscape"], unfollowed := true, recurses := true, named := ["keyhole/digest.rounds", "keyhole/stream.turns"], apart := false, laid := [("keyhole/stream.turns", laid_keyhole_stream_turns), ("keyhole/digest.rounds", laid_keyhole_digest_rounds)] }
def SessionOnceSaid : Prop := sessionOnceRow.holds Tryd.pinned (OpenSpec.ofChange sessionOnceSpec)

/-- ITS FALSE NEIGHBOUR: 'it returns false'. Refute it at one input. -/
def sessionOnceWrong : ChangeSpec := { name := "sessionOnce", fn := fun _ => fun
  | [d1, d2, d3, d4] => { results := [.lit (.bool false)], args := [d1, d2, d3, d4] }
  | _ => none }
def SessionOnceWrongFalsely : Prop := sessionOnceRow.holds Tryd.pinned (OpenSpec.ofChange sessionOnceWrong)

/-- 'keyholelaw20.SessionEnds': WHATEVER THE INPUT: true; the input reads as it did. -/
def sessionEndsSpec : ChangeSpec := { name := "sessionEnds", fn := fun _ => fun
  | [d1, d2, d3, d4] => { results := [.lit (.bool true)], args := [d1, d2, d3, d4] }
  | _ => none }
def sessionEndsRow : OpenClaim := { program := "ytbgohcedakpnbaadoor", sum := "c73416e545d80194ce02d80caecef89848ba7d71b65702ce25ea2d02586bdb63", func := "keyhole/keyholelaw20.SessionEnds", spec := "sessionEnds", inPlace := ["internal/abi.NoEscape"], unfollowed := true, recurses := true, named := ["keyhole/digest.rounds", "keyhole/stream.turns"], apart := false, laid := [("keyhole/stream.turns", laid_keyhole_stream_turns), ("keyhole/digest.rounds", laid_keyhole_digest_rounds)] }
def SessionEndsSaid : Prop := sessionEndsRow.holds Tryd.pinned (OpenSpec.ofChange sessionEndsSpec)

/-- ITS FALSE NEIGHBOUR: 'it returns false'. Refute it at one input. -/
def sessionEndsWrong : ChangeSpec := { name := "sessionEnds", fn := fun _ => fun
  | [d1, d2, d3, d4] => { results := [.lit (.bool false)], args := [d1, d2, d3, d4] }
  | _ => none }
def SessionEndsWrongFalsely : Prop := sessionEndsRow.holds Tryd.pinned (OpenSpec.ofChange sessionEndsWrong)

/-- 'keyholelaw20.SessionLost': WHATEVER THE INPUT: true; the input reads as it did. -/
def sessionLostSpec : ChangeSpec := { name := "sessionLost", fn := fun _ => fun
  | [d1, d2, d3, d4] => { results := [.lit (.bool true)], args := [d1, d2, d3, d4] }
  | _ => none }
def sessionLostRow : OpenClaim := { program := "ytbgohcedakpnbaadoor", sum := "c73416e545d80194ce02d80caecef89848ba7d71b65702ce25ea2d02586bdb63", func := "keyhole/keyholelaw20.SessionLost", spec := "sessionLost", inPlace := ["internal/abi.NoEscape"], unfollowed := true, recurses := true, named := ["keyhole/digest.rounds", "keyhole/stream.turns"], apart := false, laid := [("keyhole/stream.turns", laid_keyhole_stream_turns), ("keyhole/digest.rounds", laid_keyhole_digest_rounds)] }
def SessionLostSaid : Prop := sessionLostRow.holds Tryd.pinned (OpenSpec.ofChange sessionLostSpec)

/-- ITS FALSE NEIGHBOUR: 'it returns false'. Refute it at one input. -/
def sessionLostWrong : ChangeSpec := { name := "sessionLost", fn := fun _ => fun
  | [d1, d2, d3, d4] => { results := [.lit (.bool false)], args := [d1, d2, d3, d4] }
  | _ => none }
def SessionLostWrongFalsely : Prop := sessionLostRow.holds Tryd.pinned (OpenSpec.ofChange sessionLostWrong)

/-- 'keyholelaw20.SessionPairs': WHATEVER THE INPUT: true; the input reads as it did. -/
def sessionPairsSpec : ChangeSpec := { name := "sessionPairs", fn := fun _ => fun
  | [d1, d2] => { results := [.lit (.bool true)], args := [d1, d2] }
  | _ => none }
def sessionPairsRow : OpenClaim := { program := "ytbgohcedakpnbaadoor", sum := "c73416e545d80194ce02d80caecef89848ba7d71b65702ce25ea2d02586bdb63", func := "keyhole/keyholelaw20.SessionPairs", spec := "sessionPairs", inPlace := ["internal/abi.NoEscape"], unfollowed := true, recurses := true, named := ["keyhole/digest.rounds", "keyhole/stream.turns"], apart := false, laid := [("keyhole/stream.turns", laid_keyhole_stream_turns), ("keyhole/digest.rounds", laid_keyhole_digest_rounds)] }
def SessionPairsSaid : Prop := sessionPairsRow.holds Tryd.pinned (OpenSpec.ofChange sessionPairsSpec)

/-- ITS FALSE NEIGHBOUR: 'it returns false'. Refute it at one input. -/
def sessionPairsWrong : ChangeSpec := { name := "sessionPairs", fn := fun _ => fun
  | [d1, d2] => { results := [.lit (.bool false)], args := [d1, d2] }
  | _ => none }
def SessionPairsWrongFalsely : Prop := sessionPairsRow.holds Tryd.pinned (OpenSpec.ofChange sessionPairsWrong)

/- THE SECOND FORM. 'bulk': how many values and letters a reading holds, each counted each time it is reached (what is shared counts as often as it is met; a slice's spare places count too). A statement '..UptoSaid' is the law's where the arguments, and the package variables that the reading takes, are together of bulk at most 1048576: NARROWER than '..Said'. Prove '..Said' where nothing that the law and all that it calls make is longer than what came in: it says more and counts as full. Else prove '..UptoSaid'. A law counts once. -/
mutual
def uptoBulk {H : Type} : DataW H → Nat
  | .lit (.string bytes) => bytes.length + 1
  | .lit _ => 1
  | .nil => 1
  | .ptr d => uptoBulk d + 1
  | .slice elems spare => uptoBulkAll elems + uptoBulkAll spare + 1
  | .agg parts => uptoBulkAll parts + 1
  | .iface _ d => uptoBulk d + 1
  | .map entries => uptoBulkEntries entries + 1
  | .held _ => 1
def uptoBulkAll {H : Type} : List (DataW H) → Nat
  | [] => 0
  | d :: r => uptoBulk d + uptoBulkAll r
def uptoBulkEntries {H : Type} : List (Lit × DataW H) → Nat
  | [] => 0
  | x :: r => uptoBulkEntry x + uptoBulkEntries r
def uptoBulkEntry {H : Type} : Lit × DataW H → Nat
  | (.string bytes, d) => bytes.length + uptoBulk d + 1
  | (_, d) => uptoBulk d + 1
 end
def uptoSmall : (H : Type) → List (DataW H) → Bool := fun _ ds => decide (uptoBulkAll ds ≤ 1048576)
def OpenSpec.upto (s : _root_.Go.ChangeSpec) : _root_.Go.OpenSpec := { _root_.Go.OpenSpec.ofChange s with cond := some uptoSmall }

/-- 'keyholelaw18.MemberPrints', WHERE WHAT IT READS IS OF BULK AT MOST 1048576: true; the input reads as it did. -/
def memberPrintsUptoRow : OpenClaim := { program := "ytbgohcedakpnbaadoor", sum := "c73416e545d80194ce02d80caecef89848ba7d71b65702ce25ea2d02586bdb63", func := "keyhole/keyholelaw18.MemberPrints", spec := "memberPrints", inPlace := ["internal/abi.NoEscape", "internal/bytealg.IndexByteString", "internal/bytealg.IndexString"], unfollowed := true, recurses := true, named := ["internal/strconv.uint64pow10", "math/bits.deBruijn32tab", "math/bits.deBruijn64tab", "internal/bytealg.MaxLen", "strconv.ErrSyntax", "strconv.ErrRange"], apart := false, laid := [("math/bits.deBruijn32tab", laid_math_bits_deBruijn32tab), ("math/bits.deBruijn64tab", laid_math_bits_deBruijn64tab), ("internal/strconv.uint64pow10", laid_internal_strconv_uint64pow10), ("strconv.ErrRange", laid_strconv_ErrRange), ("strconv.ErrSyntax", laid_strconv_ErrSyntax)], narrowed := true }
def MemberPrintsUptoSaid : Prop := memberPrintsUptoRow.holds Tryd.pinned (OpenSpec.upto memberPrintsSpec)

/-- 'keyholelaw18.MemberPlaces', WHERE WHAT IT READS IS OF BULK AT MOST 1048576: true; the input reads as it did. -/
def memberPlacesUptoRow : OpenClaim := { program := "ytbgohcedakpnbaadoor", sum := "c73416e545d80194ce02d80caecef89848ba7d71b65702ce25ea2d02586bdb63", func := "keyhole/keyholelaw18.MemberPlaces", spec := "memberPlaces", inPlace := ["internal/abi.NoEscape", "internal/bytealg.IndexByteString", "internal/bytealg.IndexString"], unfollowed := true, recurses := true, named := ["internal/strconv.uint64pow10", "math/bits.deBruijn32tab", "math/bits.deBruijn64tab", "internal/bytealg.MaxLen", "strconv.ErrSyntax", "strconv.ErrRange"], apart := false, laid := [("math/bits.deBruijn32tab", laid_math_bits_deBruijn32tab), ("math/bits.deBruijn64tab", laid_math_bits_deBruijn64tab), ("internal/strconv.uint64pow10", laid_internal_strconv_uint64pow10), ("strconv.ErrRange", laid_strconv_ErrRange), ("strconv.ErrSyntax", laid_strconv_ErrSyntax)], narrowed := true }
def MemberPlacesUptoSaid : Prop := memberPlacesUptoRow.holds Tryd.pinned (OpenSpec.upto memberPlacesSpec)

/-- 'keyholelaw18.MemberLess', WHERE WHAT IT READS IS OF BULK AT MOST 1048576: true; the input reads as it did. -/
def memberLessUptoRow : OpenClaim := { program := "ytbgohcedakpnbaadoor", sum := "c73416e545d80194ce02d80caecef89848ba7d71b65702ce25ea2d02586bdb63", func := "keyhole/keyholelaw18.MemberLess", spec := "memberLess", inPlace := ["internal/abi.NoEscape", "internal/bytealg.IndexByteString", "internal/bytealg.IndexString"], unfollowed := true, recurses := true, named := ["internal/strconv.uint64pow10", "math/bits.deBruijn32tab", "math/bits.deBruijn64tab", "internal/bytealg.MaxLen", "strconv.ErrSyntax", "strconv.ErrRange"], apart := false, laid := [("math/bits.deBruijn32tab", laid_math_bits_deBruijn32tab), ("math/bits.deBruijn64tab", laid_math_bits_deBruijn64tab), ("internal/strconv.uint64pow10", laid_internal_strconv_uint64pow10), ("strconv.ErrRange", laid_strconv_ErrRange), ("strconv.ErrSyntax", laid_strconv_ErrSyntax)], narrowed := true }
def MemberLessUptoSaid : Prop := memberLessUptoRow.holds Tryd.pinned (OpenSpec.upto memberLessSpec)

/-- 'keyholelaw20.SessionOnce', WHERE WHAT IT READS IS OF BULK AT MOST 1048576: true; the input reads as it did. -/
def sessionOnceUptoRow : OpenClaim := { program := "ytbgohcedakpnbaadoor", sum := "c73416e545d80194ce02d80caecef89848ba7d71b65702ce25ea2d02586bdb63", func := "keyhole/keyholelaw20.SessionOnce", spec := "sessionOnce", inPlace := ["internal/abi.NoEscape"], unfollowed := true, recurses := true, named := ["keyhole/digest.rounds", "keyhole/stream.turns"], apart := false, laid := [("keyhole/stream.turns", laid_keyhole_stream_turns), ("keyhole/digest.rounds", laid_keyhole_digest_rounds)], narrowed := true }
def SessionOnceUptoSaid : Prop := sessionOnceUptoRow.holds Tryd.pinned (OpenSpec.upto sessionOnceSpec)

/-- 'keyholelaw20.SessionEnds', WHERE WHAT IT READS IS OF BULK AT MOST 1048576: true; the input reads as it did. -/
def sessionEndsUptoRow : OpenClaim := { program := "ytbgohcedakpnbaadoor", sum := "c73416e545d80194ce02d80caecef89848ba7d71b65702ce25ea2d02586bdb63", func := "keyhole/keyholelaw20.SessionEnds", spec := "sessionEnds", inPlace := ["internal/abi.NoEscape"], unfollowed := true, recurses := true, named := ["keyhole/digest.rounds", "keyhole/stream.turns"], apart := false, laid := [("keyhole/stream.turns", laid_keyhole_stream_turns), ("keyhole/digest.rounds", laid_keyhole_digest_rounds)], narrowed := true }
def SessionEndsUptoSaid : Prop := sessionEndsUptoRow.holds Tryd.pinned (OpenSpec.upto sessionEndsSpec)

/-- 'keyholelaw20.SessionLost', WHERE WHAT IT READS IS OF BULK AT MOST 1048576: true; the input reads as it did. -/
def sessionLostUptoRow : OpenClaim := { program := "ytbgohcedakpnbaadoor", sum := "c73416e545d80194ce02d80caecef89848ba7d71b65702ce25ea2d02586bdb63", func := "keyhole/keyholelaw20.SessionLost", spec := "sessionLost", inPlace := ["internal/abi.NoEscape"], unfollowed := true, recurses := true, named := ["keyhole/digest.rounds", "keyhole/stream.turns"], apart := false, laid := [("keyhole/stream.turns", laid_keyhole_stream_turns), ("keyhole/digest.rounds", laid_keyhole_digest_rounds)], narrowed := true }
def SessionLostUptoSaid : Prop := sessionLostUptoRow.holds Tryd.pinned (OpenSpec.upto sessionLostSpec)

/-- 'keyholelaw20.SessionPairs', WHERE WHAT IT READS IS OF BULK AT MOST 1048576: true; the input reads as it did. -/
def sessionPairsUptoRow : OpenClaim := { program := "ytbgohcedakpnbaadoor", sum := "c73416e545d80194ce02d80caecef89848ba7d71b65702ce25ea2d02586bdb63", func := "keyhole/keyholelaw20.SessionPairs", spec := "sessionPairs", inPlace := ["internal/abi.NoEscape"], unfollowed := true, recurses := true, named := ["keyhole/digest.rounds", "keyhole/stream.turns"], apart := false, laid := [("keyhole/stream.turns", laid_keyhole_stream_turns), ("keyhole/digest.rounds", laid_keyhole_digest_rounds)], narrowed := true }
def SessionPairsUptoSaid : Prop := sessionPairsUptoRow.holds Tryd.pinned (OpenSpec.upto sessionPairsSpec)

end Rows
end Go.Proofs.YtbgohcedakpnbaaDoor
