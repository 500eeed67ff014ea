/- Plain: Macs, and what a key is expanded to. -/
import Derived.Test.YtbgohcedakpnbaaDoorDigB
set_option linter.unusedVariables false
namespace Go.Proofs.YtbgohcedakpnbaaDoor
open Go.RowKit
theorem one_size (x : UInt8) : (⟨#[x]⟩ : ByteArray).size = 1 := rfl
def overL (p : UInt8) (l : List UInt8) : List UInt8 := (l ++ List.replicate (64 - l.length) 0).map (fun c => c ^^^ p)
def overB (p : UInt8) (k : ByteArray) : ByteArray := ⟨(overL p k.data.toList).toArray⟩
theorem overB_size {p : UInt8} {k : ByteArray} (h : k.size ≤ 64) : (overB p k).size = 64 := by
  show (overL p k.data.toList).toArray.size = 64
  have : k.data.toList.length = k.size := by simp
  simp [overL]
  omega
def keyB (key : ByteArray) : ByteArray := if 64 < key.size then sumS key else key
theorem keyB_le (key : ByteArray) : (keyB key).size ≤ 64 := by
  unfold keyB
  split
  · rw [sumS_size]; omega
  · omega
def macB (key s : ByteArray) : ByteArray := sumS (overB 92 (keyB key) ++ sumS (overB 54 (keyB key) ++ s))
theorem macB_size (key s : ByteArray) : (macB key s).size = 32 := sumS_size _
theorem macB_long {key : ByteArray} (s : ByteArray) (h : 64 < key.size) : macB (sumS key) s = macB key s := by
  have e1 : keyB (sumS key) = keyB key := by
    unfold keyB
    rw [sumS_size, if_neg (by omega), if_pos h]
  unfold macB
  rw [e1]
def zerosB (n : Nat) : ByteArray := ⟨(List.replicate n (0 : UInt8)).toArray⟩
theorem zerosB_size (n : Nat) : (zerosB n).size = n := by show (List.replicate n (0 : UInt8)).toArray.size = n; simp
theorem overB_zeros (p : UInt8) {k : ByteArray} {n : Nat} (h : k.size + n ≤ 64) : overB p (k ++ zerosB n) = overB p k := by
  have hl : k.data.toList.length = k.size := by simp
  have e : (k ++ zerosB n).data.toList = k.data.toList ++ List.replicate n 0 := by
    rw [ByteArray.data_append, Array.toList_append]; rfl
  unfold overB overL
  rw [e, List.append_assoc, List.length_append, List.length_replicate, hl, List.replicate_append_replicate]
  rw [show n + (64 - (k.size + n)) = 64 - k.size by omega]
theorem macB_zeros {key : ByteArray} (s : ByteArray) {n : Nat} (h : key.size + n ≤ 64) : macB (key ++ zerosB n) s = macB key s := by
  have h1 : keyB (key ++ zerosB n) = key ++ zerosB n := by unfold keyB; rw [if_neg (by rw [ByteArray.size_append, zerosB_size]; omega)]
  have h2 : keyB key = key := by unfold keyB; rw [if_neg (by omega)]
  unfold macB
  rw [h1, h2, overB_zeros _ h, overB_zeros _ h]
/-- the parts: T1, T2 .. -/
def partK (key info : ByteArray) : Nat → ByteArray
  | 0 => ByteArray.empty
  | i + 1 => macB key (partK key info i ++ info ++ ⟨#[UInt8.ofNat (i + 1)]⟩)
theorem partK_size (key info : ByteArray) (i : Nat) : (partK key info (i + 1)).size = 32 := macB_size _ _
theorem partK_le (key info : ByteArray) (i : Nat) : (partK key info i).size ≤ 32 := by
  cases i with
  | zero => simp [partK]
  | succ i => rw [partK_size]; omega
def catK (key info : ByteArray) : Nat → ByteArray
  | 0 => ByteArray.empty
  | i + 1 => catK key info i ++ partK key info (i + 1)
theorem catK_size (key info : ByteArray) (i : Nat) : (catK key info i).size = 32 * i := by
  induction i with
  | zero => rfl
  | succ i ih => rw [catK, ByteArray.size_append, ih, partK_size]; omega
theorem catK_left (key info : ByteArray) {n i j : Nat} (h : n ≤ 32 * i) (hij : i ≤ j) : (catK key info j).extract 0 n = (catK key info i).extract 0 n := by
  induction j with
  | zero => obtain rfl : i = 0 := by omega
            rfl
  | succ j ih =>
    by_cases e : i = j + 1
    · rw [e]
    · rw [catK, extract_left (by rw [catK_size]; omega), ih (by omega)]
def expB (key info : ByteArray) (n : Nat) : ByteArray := (catK key info ((n + 31) / 32)).extract 0 n
theorem expB_of (key info : ByteArray) {n j : Nat} (h : n ≤ 32 * j) : (catK key info j).extract 0 n = expB key info n :=
  catK_left key info (by omega) (by omega)
theorem expB_size (key info : ByteArray) (n : Nat) : (expB key info n).size = n := by
  unfold expB
  rw [ByteArray.size_extract, catK_size]; omega
theorem expB_left (key info : ByteArray) {n m : Nat} (h : n ≤ m) : (expB key info m).extract 0 n = expB key info n := by
  have h1 : expB key info m = (catK key info ((m + 31) / 32)).extract 0 m := rfl
  rw [h1, ByteArray.extract_extract, Nat.zero_add, Nat.zero_add, Nat.min_eq_left h]
  exact expB_of key info (j := (m + 31) / 32) (by omega)
def expS (key info : ByteArray) (n : Int) : ByteArray := if 1 ≤ n ∧ n ≤ 8160 then expB key info n.toNat else ByteArray.empty
def expE (n : Int) : Int := if 1 ≤ n ∧ n ≤ 8160 then 0 else 1
/-- the step that ends: the last part is cut -/
theorem cat_cut (key info : ByteArray) {n i : Nat} (h1 : 32 * i < n) (h2 : n ≤ 32 * i + 32) : catK key info i ++ (partK key info (i + 1)).extract 0 (n - 32 * i) = expB key info n := by
  rw [← expB_of key info (show n ≤ 32 * (i + 1) by omega), catK]
  rw [ByteArray.extract_append, catK_size, show (0 : Nat) - 32 * i = 0 by omega]
  congr 1
  have : (catK key info i).extract 0 n = (catK key info i).extract 0 (min n (catK key info i).size) := (extract_clip _ _ _).symm
  rw [this, catK_size, Nat.min_eq_right (by omega), ← catK_size key info i, ByteArray.extract_zero_size]
theorem exp64_left (key info : ByteArray) : (expB key info 64).extract 0 32 = macB key (info ++ ⟨#[1]⟩) := by
  rw [expB_left key info (by omega)]
  unfold expB
  show (catK key info 1).extract 0 32 = _
  rw [show (32 : Nat) = (catK key info 1).size by rw [catK_size], ByteArray.extract_zero_size]
  show ByteArray.empty ++ macB key (ByteArray.empty ++ info ++ ⟨#[UInt8.ofNat 1]⟩) = _
  rw [ByteArray.empty_append, ByteArray.empty_append]
  rfl
theorem exp64_right (key info : ByteArray) : (expB key info 64).extract 32 64 = macB key ((expB key info 64).extract 0 32 ++ info ++ ⟨#[2]⟩) := by
  rw [exp64_left]
  have e : expB key info 64 = partK key info 1 ++ partK key info 2 := by
    unfold expB
    show (ByteArray.empty ++ partK key info 1 ++ partK key info 2).extract 0 64 = _
    rw [ByteArray.empty_append]
    have : (partK key info 1 ++ partK key info 2).size = 64 := by rw [ByteArray.size_append, partK_size, partK_size]
    rw [← this, ByteArray.extract_zero_size]
  rw [e, ByteArray.extract_append, partK_size]
  rw [ByteArray.extract_eq_empty_iff.2 (by rw [partK_size]; omega), ByteArray.empty_append]
  show (partK key info 2).extract 0 32 = _
  rw [show (32 : Nat) = (partK key info 2).size by rw [partK_size], ByteArray.extract_zero_size]
  show macB key (partK key info 1 ++ info ++ ⟨#[UInt8.ofNat 2]⟩) = _
  show macB key (macB key (ByteArray.empty ++ info ++ ⟨#[UInt8.ofNat 1]⟩) ++ info ++ _) = _
  rw [ByteArray.empty_append]
  rfl
end Go.Proofs.YtbgohcedakpnbaaDoor
