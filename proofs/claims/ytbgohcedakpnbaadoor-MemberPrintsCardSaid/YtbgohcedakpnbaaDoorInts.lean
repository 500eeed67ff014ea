/- rows of ints, of texts, of bytes: how they lie. -/
import Derived.Test.YtbgohcedakpnbaaDoorBase
set_option linter.unusedVariables false
namespace Go.Proofs.YtbgohcedakpnbaaDoor
open Go.RowKit
def encI (n : Int) : List Value := [.int .i64 n]
theorem encI_len (n : Int) : (encI n).length = 1 := rfl
theorem SlC.int {w : World} {b off : Nat} {L : List Int} (h : SlC encI 1 w b off L) {k : Nat} {s : Int} (hl : L[k]? = some s) : w.cell? ⟨b, off + k, none⟩ = some (.int .i64 s) := by have := h k s hl 0 _ rfl; simpa using this
def ints (L : List Nat) : List Int := L.map fun (n : Nat) => (n : Int)
theorem ints_get {L : List Nat} {k n : Nat} (h : L[k]? = some n) : (ints L)[k]? = some (n : Int) := by simp [ints, h]
theorem int_info3 : (Tryd.prog.info? 3).map (fun i => (i.zero, i.size, i.bytes)) = some (some (.int .i64 0), 1, 8) := by kernel_rfl
theorem byte_info : (Tryd.prog.info? 5).map (fun i => (i.zero, i.size, i.bytes)) = some (some (.int .u8 0), 1, 1) := by kernel_rfl
def vB (b : UInt8) : Value := .int .u8 (b.toNat : Nat)
def encS (s : ByteArray) : List Value := [.string s]
theorem encS_len (s : ByteArray) : (encS s).length = 1 := rfl
theorem SlC.str {w : World} {b off : Nat} {L : List ByteArray} (h : SlC encS 1 w b off L) {k : Nat} {s : ByteArray} (hl : L[k]? = some s) : w.cell? ⟨b, off + k, none⟩ = some (.string s) := by have := h k s hl 0 _ rfl; simpa using this
end Go.Proofs.YtbgohcedakpnbaaDoor
