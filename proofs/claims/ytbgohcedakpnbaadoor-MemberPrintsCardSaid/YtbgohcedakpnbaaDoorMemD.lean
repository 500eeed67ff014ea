/- member, plain: digits in base 16, lines, the text of a record. -/
import Derived.Test.YtbgohcedakpnbaaDoorMemP
import Derived.Test.YtbgohcedakpnbaaDoorNonP
set_option linter.unusedVariables false
namespace Go.Proofs.YtbgohcedakpnbaaDoor
def mhexD (n : Nat) : UInt8 := if n < 10 then UInt8.ofNat (48 + n) else UInt8.ofNat (87 + n)
def hexP (c : UInt8) : List UInt8 := [mhexD (c.toNat / 16), mhexD (c.toNat % 16)]
def hexM (s : ByteArray) : ByteArray := ⟨(s.data.toList.flatMap hexP).toArray⟩
theorem hexFlat_len (l : List UInt8) : (l.flatMap hexP).length = 2 * l.length := by
  induction l with
  | nil => rfl
  | cons c r ih => rw [List.flatMap_cons, List.length_append, ih]; simp [hexP]; omega
theorem hexM_size (s : ByteArray) : (hexM s).size = 2 * s.size := by
  show (s.data.toList.flatMap hexP).toArray.size = _
  rw [List.size_toArray, hexFlat_len]
  simp
theorem hexFlat_snoc {l : List UInt8} {k : Nat} {c : UInt8} (h : l[k]? = some c) : (l.take k).flatMap hexP ++ hexP c = (l.take (k + 1)).flatMap hexP := by
  rw [List.take_add_one, h, List.flatMap_append]
  simp
def epochT : ByteArray := ⟨#[101, 112, 111, 99, 104, 32]⟩
def blankT : ByteArray := ⟨#[32]⟩
/-- the first line of a record, and the line of a place -/
def line0 (r : Rec) : ByteArray := epochT ++ digB r.epoch.toNat ++ blankT ++ digB r.k.toNat
def lineAt (n p : ByteArray) : ByteArray := n ++ blankT ++ hexM p
def linesL (r : Rec) : List ByteArray := line0 r :: List.zipWith lineAt r.names r.pledges
/-- lines, each with a byte 10 behind it -/
def catT (L : List ByteArray) : List UInt8 := L.flatMap fun s => s.data.toList ++ [10]
def printB (r : Rec) : ByteArray := ⟨(catT (linesL r)).toArray⟩
theorem catT_snoc (L : List ByteArray) (s : ByteArray) : catT (L ++ [s]) = catT L ++ s.data.toList ++ [10] := by simp [catT]
/-- what Print tells -/
def printF (r : Rec) : ByteArray × Int := if checkB r = true then (printB r, 0) else (⟨#[]⟩, 180)
end Go.Proofs.YtbgohcedakpnbaaDoor
