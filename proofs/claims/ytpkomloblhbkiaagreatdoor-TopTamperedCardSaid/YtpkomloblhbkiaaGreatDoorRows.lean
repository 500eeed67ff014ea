/-
  NARROWER THAN 'FOR EVERY INPUT', by the rows' own cells (each row's printed sentence says how): TopVault: laid · TopTampered: laid.
  DERIVED. THE GIVEN ROWS OF THIS SEAT. 2 by the template 'for every input the law returns true; each argument reads behind the call as it read before'; 0 by the template 'total and deterministic' (their statements: YtpkomloblhbkiaaGreatDoorTotals.lean).
  GIVEN WITH THE SEED: the statements are not yours to turn. If you find one false, say at which input.
  Laid BY PROGRAM, IN A SANDBOX (cutbox-rows.mjs): the forced cells as the released guide's own fill.sh prints them over the translation 094ec41850cfde57… (all of the seat's roots in one cut). By AI agents, Wed Nov 11 2026. No macro, syntax, notation, axiom, sorry.
-/
import Derived.Test.YtpkomloblhbkiaaGreatDoorChecked
import GoSem.Claim
import GoSem.ClaimJoined
import GoSem.ClaimMapViews
import Derived.JoinedTies
import Derived.KernelRfl
namespace Go.Proofs.YtpkomloblhbkiaaGreatDoor
/- THE CELL 'sum', in the pinned program and in every row, IS THE sha256 OF THE DUMP (.gsa) THAT YtpkomloblhbkiaaGreatDoorProg.lean LOADS. Nothing in Lean hashes anything: it is a label: what it is worth is what the hold of that sum in a sandbox is worth. -/
noncomputable def Tryz.pinned : Pinned := { name := "ytpkomloblhbkiaagreatdoor", sum := "094ec41850cfde57d65d77eacc895e87082cb1f13f9aa40da9a1981df30303de", checked := Tryz.checked }
namespace Rows
def none {H : Type} : Left H := { results := [], args := [] }

/- WHAT THE LISTED PACKAGE-LEVEL VARIABLES READ AS WHEN THE CALL BEGINS. Each datum BY PROGRAM (the guide's laid-datum.mjs) off the statement by which the dump's own 'gosem.cut.vars' lays the variable. In a bare row this is a premise. The card (YtpkomloblhbkiaaGreatDoorCards.lean) ties it to the program's text. -/
def laid_math_bits_deBruijn32tab {H : Type} : DataW H := .agg [.lit (.int .u8 0), .lit (.int .u8 1), .lit (.int .u8 28), .lit (.int .u8 2), .lit (.int .u8 29), .lit (.int .u8 14), .lit (.int .u8 24), .lit (.int .u8 3), .lit (.int .u8 30), .lit (.int .u8 22), .lit (.int .u8 20), .lit (.int .u8 15), .lit (.int .u8 25), .lit (.int .u8 17), .lit (.int .u8 4), .lit (.int .u8 8), .lit (.int .u8 31), .lit (.int .u8 27), .lit (.int .u8 13), .lit (.int .u8 23), .lit (.int .u8 21), .lit (.int .u8 19), .lit (.int .u8 16), .lit (.int .u8 7), .lit (.int .u8 26), .lit (.int .u8 12), .lit (.int .u8 18), .lit (.int .u8 6), .lit (.int .u8 11), .lit (.int .u8 5), .lit (.int .u8 10), .lit (.int .u8 9)]
def laid_math_bits_deBruijn64tab {H : Type} : DataW H := .agg [.lit (.int .u8 0), .lit (.int .u8 1), .lit (.int .u8 56), .lit (.int .u8 2), .lit (.int .u8 57), .lit (.int .u8 49), .lit (.int .u8 28), .lit (.int .u8 3), .lit (.int .u8 61), .lit (.int .u8 58), .lit (.int .u8 42), .lit (.int .u8 50), .lit (.int .u8 38), .lit (.int .u8 29), .lit (.int .u8 17), .lit (.int .u8 4), .lit (.int .u8 62), .lit (.int .u8 47), .lit (.int .u8 59), .lit (.int .u8 36), .lit (.int .u8 45), .lit (.int .u8 43), .lit (.int .u8 51), .lit (.int .u8 22), .lit (.int .u8 53), .lit (.int .u8 39), .lit (.int .u8 33), .lit (.int .u8 30), .lit (.int .u8 24), .lit (.int .u8 18), .lit (.int .u8 12), .lit (.int .u8 5), .lit (.int .u8 63), .lit (.int .u8 55), .lit (.int .u8 48), .lit (.int .u8 27), .lit (.int .u8 60), .lit (.int .u8 41), .lit (.int .u8 37), .lit (.int .u8 16), .lit (.int .u8 46), .lit (.int .u8 35), .lit (.int .u8 44), .lit (.int .u8 21), .lit (.int .u8 52), .lit (.int .u8 32), .lit (.int .u8 23), .lit (.int .u8 11), .lit (.int .u8 54), .lit (.int .u8 26), .lit (.int .u8 40), .lit (.int .u8 15), .lit (.int .u8 34), .lit (.int .u8 20), .lit (.int .u8 31), .lit (.int .u8 10), .lit (.int .u8 25), .lit (.int .u8 14), .lit (.int .u8 19), .lit (.int .u8 9), .lit (.int .u8 13), .lit (.int .u8 8), .lit (.int .u8 7), .lit (.int .u8 6)]
def laid_internal_strconv_uint64pow10 {H : Type} : DataW H := .agg [.lit (.int .u64 1), .lit (.int .u64 10), .lit (.int .u64 100), .lit (.int .u64 1000), .lit (.int .u64 10000), .lit (.int .u64 100000), .lit (.int .u64 1000000), .lit (.int .u64 10000000), .lit (.int .u64 100000000), .lit (.int .u64 1000000000), .lit (.int .u64 10000000000), .lit (.int .u64 100000000000), .lit (.int .u64 1000000000000), .lit (.int .u64 10000000000000), .lit (.int .u64 100000000000000), .lit (.int .u64 1000000000000000), .lit (.int .u64 10000000000000000), .lit (.int .u64 100000000000000000), .lit (.int .u64 1000000000000000000), .lit (.int .u64 10000000000000000000)]
def laid_keyhole_stream_turns {H : Type} : DataW H := .agg [.agg [.lit (.int .i64 0), .lit (.int .i64 4), .lit (.int .i64 8), .lit (.int .i64 12)], .agg [.lit (.int .i64 1), .lit (.int .i64 5), .lit (.int .i64 9), .lit (.int .i64 13)], .agg [.lit (.int .i64 2), .lit (.int .i64 6), .lit (.int .i64 10), .lit (.int .i64 14)], .agg [.lit (.int .i64 3), .lit (.int .i64 7), .lit (.int .i64 11), .lit (.int .i64 15)], .agg [.lit (.int .i64 0), .lit (.int .i64 5), .lit (.int .i64 10), .lit (.int .i64 15)], .agg [.lit (.int .i64 1), .lit (.int .i64 6), .lit (.int .i64 11), .lit (.int .i64 12)], .agg [.lit (.int .i64 2), .lit (.int .i64 7), .lit (.int .i64 8), .lit (.int .i64 13)], .agg [.lit (.int .i64 3), .lit (.int .i64 4), .lit (.int .i64 9), .lit (.int .i64 14)]]
def laid_keyhole_digest_rounds {H : Type} : DataW H := .agg [.lit (.int .i64 1116352408), .lit (.int .i64 1899447441), .lit (.int .i64 3049323471), .lit (.int .i64 3921009573), .lit (.int .i64 961987163), .lit (.int .i64 1508970993), .lit (.int .i64 2453635748), .lit (.int .i64 2870763221), .lit (.int .i64 3624381080), .lit (.int .i64 310598401), .lit (.int .i64 607225278), .lit (.int .i64 1426881987), .lit (.int .i64 1925078388), .lit (.int .i64 2162078206), .lit (.int .i64 2614888103), .lit (.int .i64 3248222580), .lit (.int .i64 3835390401), .lit (.int .i64 4022224774), .lit (.int .i64 264347078), .lit (.int .i64 604807628), .lit (.int .i64 770255983), .lit (.int .i64 1249150122), .lit (.int .i64 1555081692), .lit (.int .i64 1996064986), .lit (.int .i64 2554220882), .lit (.int .i64 2821834349), .lit (.int .i64 2952996808), .lit (.int .i64 3210313671), .lit (.int .i64 3336571891), .lit (.int .i64 3584528711), .lit (.int .i64 113926993), .lit (.int .i64 338241895), .lit (.int .i64 666307205), .lit (.int .i64 773529912), .lit (.int .i64 1294757372), .lit (.int .i64 1396182291), .lit (.int .i64 1695183700), .lit (.int .i64 1986661051), .lit (.int .i64 2177026350), .lit (.int .i64 2456956037), .lit (.int .i64 2730485921), .lit (.int .i64 2820302411), .lit (.int .i64 3259730800), .lit (.int .i64 3345764771), .lit (.int .i64 3516065817), .lit (.int .i64 3600352804), .lit (.int .i64 4094571909), .lit (.int .i64 275423344), .lit (.int .i64 430227734), .lit (.int .i64 506948616), .lit (.int .i64 659060556), .lit (.int .i64 883997877), .lit (.int .i64 958139571), .lit (.int .i64 1322822218), .lit (.int .i64 1537002063), .lit (.int .i64 1747873779), .lit (.int .i64 1955562222), .lit (.int .i64 2024104815), .lit (.int .i64 2227730452), .lit (.int .i64 2361852424), .lit (.int .i64 2428436474), .lit (.int .i64 2756734187), .lit (.int .i64 3204031479), .lit (.int .i64 3329325298)]

/-- 'keyholetop.TopVault': WHATEVER THE INPUT: true; the input reads as it did. -/
def topVaultSpec : ChangeSpec := { name := "topVault", fn := fun _ => fun
  | [d1, d2, d3] => { results := [.lit (.bool true)], args := [d1, d2, d3] }
  | _ => none }
def topVaultRow : OpenClaim := { program := "ytpkomloblhbkiaagreatdoor", sum := "094ec41850cfde57d65d77eacc895e87082cb1f13f9aa40da9a1981df30303de", func := "keyhole/keyholetop.TopVault", spec := "topVault", inPlace := ["internal/abi.NoEscape"], unfollowed := true, recurses := true, named := ["keyhole/digest.rounds", "internal/strconv.uint64pow10", "math/bits.deBruijn32tab", "math/bits.deBruijn64tab", "keyhole/stream.turns"], apart := false, laid := [("math/bits.deBruijn32tab", laid_math_bits_deBruijn32tab), ("math/bits.deBruijn64tab", laid_math_bits_deBruijn64tab), ("internal/strconv.uint64pow10", laid_internal_strconv_uint64pow10), ("keyhole/stream.turns", laid_keyhole_stream_turns), ("keyhole/digest.rounds", laid_keyhole_digest_rounds)] }
def TopVaultSaid : Prop := topVaultRow.holds Tryz.pinned (OpenSpec.ofChange topVaultSpec)

/-- ITS FALSE NEIGHBOUR: 'it returns false'. Refute it at one input. -/
def topVaultWrong : ChangeSpec := { name := "topVault", fn := fun _ => fun
  | [d1, d2, d3] => { results := [.lit (.bool false)], args := [d1, d2, d3] }
  | _ => none }
def TopVaultWrongFalsely : Prop := topVaultRow.holds Tryz.pinned (OpenSpec.ofChange topVaultWrong)

/-- 'keyholetop.TopTampered': WHATEVER THE INPUT: true; the input reads as it did. -/
def topTamperedSpec : ChangeSpec := { name := "topTampered", fn := fun _ => fun
  | [d1, d2, d3, d4, d5] => { results := [.lit (.bool true)], args := [d1, d2, d3, d4, d5] }
  | _ => none }
def topTamperedRow : OpenClaim := { program := "ytpkomloblhbkiaagreatdoor", sum := "094ec41850cfde57d65d77eacc895e87082cb1f13f9aa40da9a1981df30303de", func := "keyhole/keyholetop.TopTampered", spec := "topTampered", inPlace := ["internal/abi.NoEscape"], unfollowed := true, recurses := true, named := ["keyhole/digest.rounds", "internal/strconv.uint64pow10", "math/bits.deBruijn32tab", "math/bits.deBruijn64tab", "keyhole/stream.turns"], apart := false, laid := [("math/bits.deBruijn32tab", laid_math_bits_deBruijn32tab), ("math/bits.deBruijn64tab", laid_math_bits_deBruijn64tab), ("internal/strconv.uint64pow10", laid_internal_strconv_uint64pow10), ("keyhole/stream.turns", laid_keyhole_stream_turns), ("keyhole/digest.rounds", laid_keyhole_digest_rounds)] }
def TopTamperedSaid : Prop := topTamperedRow.holds Tryz.pinned (OpenSpec.ofChange topTamperedSpec)

/-- ITS FALSE NEIGHBOUR: 'it returns false'. Refute it at one input. -/
def topTamperedWrong : ChangeSpec := { name := "topTampered", fn := fun _ => fun
  | [d1, d2, d3, d4, d5] => { results := [.lit (.bool false)], args := [d1, d2, d3, d4, d5] }
  | _ => none }
def TopTamperedWrongFalsely : Prop := topTamperedRow.holds Tryz.pinned (OpenSpec.ofChange topTamperedWrong)

/- THE SECOND FORM. 'bulk': how many values and letters a reading holds, each counted each time it is reached (what is shared counts as often as it is met; a slice's spare places count too). A statement '..UptoSaid' is the law's where the arguments, and the package variables that the reading takes, are together of bulk at most 1048576: NARROWER than '..Said'. Prove '..Said' where nothing that the law and all that it calls make is longer than what came in: it says more and counts as full. Else prove '..UptoSaid'. A law counts once. -/
mutual
def uptoBulk {H : Type} : DataW H → Nat
  | .lit (.string bytes) => bytes.length + 1
  | .lit _ => 1
  | .nil => 1
  | .ptr d => uptoBulk d + 1
  | .slice elems spare => uptoBulkAll elems + uptoBulkAll spare + 1
  | .agg parts => uptoBulkAll parts + 1
  | .iface _ d => uptoBulk d + 1
  | .map entries => uptoBulkEntries entries + 1
  | .held _ => 1
def uptoBulkAll {H : Type} : List (DataW H) → Nat
  | [] => 0
  | d :: r => uptoBulk d + uptoBulkAll r
def uptoBulkEntries {H : Type} : List (Lit × DataW H) → Nat
  | [] => 0
  | x :: r => uptoBulkEntry x + uptoBulkEntries r
def uptoBulkEntry {H : Type} : Lit × DataW H → Nat
  | (.string bytes, d) => bytes.length + uptoBulk d + 1
  | (_, d) => uptoBulk d + 1
 end
def uptoSmall : (H : Type) → List (DataW H) → Bool := fun _ ds => decide (uptoBulkAll ds ≤ 1048576)
def OpenSpec.upto (s : _root_.Go.ChangeSpec) : _root_.Go.OpenSpec := { _root_.Go.OpenSpec.ofChange s with cond := some uptoSmall }

/-- 'keyholetop.TopVault', WHERE WHAT IT READS IS OF BULK AT MOST 1048576: true; the input reads as it did. -/
def topVaultUptoRow : OpenClaim := { program := "ytpkomloblhbkiaagreatdoor", sum := "094ec41850cfde57d65d77eacc895e87082cb1f13f9aa40da9a1981df30303de", func := "keyhole/keyholetop.TopVault", spec := "topVault", inPlace := ["internal/abi.NoEscape"], unfollowed := true, recurses := true, named := ["keyhole/digest.rounds", "internal/strconv.uint64pow10", "math/bits.deBruijn32tab", "math/bits.deBruijn64tab", "keyhole/stream.turns"], apart := false, laid := [("math/bits.deBruijn32tab", laid_math_bits_deBruijn32tab), ("math/bits.deBruijn64tab", laid_math_bits_deBruijn64tab), ("internal/strconv.uint64pow10", laid_internal_strconv_uint64pow10), ("keyhole/stream.turns", laid_keyhole_stream_turns), ("keyhole/digest.rounds", laid_keyhole_digest_rounds)], narrowed := true }
def TopVaultUptoSaid : Prop := topVaultUptoRow.holds Tryz.pinned (OpenSpec.upto topVaultSpec)

/-- 'keyholetop.TopTampered', WHERE WHAT IT READS IS OF BULK AT MOST 1048576: true; the input reads as it did. -/
def topTamperedUptoRow : OpenClaim := { program := "ytpkomloblhbkiaagreatdoor", sum := "094ec41850cfde57d65d77eacc895e87082cb1f13f9aa40da9a1981df30303de", func := "keyhole/keyholetop.TopTampered", spec := "topTampered", inPlace := ["internal/abi.NoEscape"], unfollowed := true, recurses := true, named := ["keyhole/digest.rounds", "internal/strconv.uint64pow10", "math/bits.deBruijn32tab", "math/bits.deBruijn64tab", "keyhole/stream.turns"], apart := false, laid := [("math/bits.deBruijn32tab", laid_math_bits_deBruijn32tab), ("math/bits.deBruijn64tab", laid_math_bits_deBruijn64tab), ("internal/strconv.uint64pow10", laid_internal_strconv_uint64pow10), ("keyhole/stream.turns", laid_keyhole_stream_turns), ("keyhole/digest.rounds", laid_keyhole_digest_rounds)], narrowed := true }
def TopTamperedUptoSaid : Prop := topTamperedUptoRow.holds Tryz.pinned (OpenSpec.upto topTamperedSpec)

end Rows
end Go.Proofs.YtpkomloblhbkiaaGreatDoor
