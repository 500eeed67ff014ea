/- session, plain: a frame's number. -/
import Derived.Test.YtbgohcedakpnbaaDoorInts
set_option linter.unusedVariables false
namespace Go.Proofs.YtbgohcedakpnbaaDoor
def slowL (n : Nat) : Nat → List UInt8
  | 0 => []
  | k + 1 => UInt8.ofNat (n / 2 ^ (8 * k) % 256) :: slowL n k
theorem slowL_len (n k : Nat) : (slowL n k).length = k := by
  induction k with
  | zero => rfl
  | succ k ih => rw [slowL, List.length_cons, ih]
def be8L (n k : Nat) : List UInt8 := List.replicate (8 - k) 0 ++ slowL n k
theorem be8L_len (n k : Nat) (h : k ≤ 8) : (be8L n k).length = 8 := by simp [be8L, slowL_len]; omega
theorem be8L_set (n k : Nat) (h : k < 8) : (be8L n k).set (7 - k) (UInt8.ofNat (n / 2 ^ (8 * k) % 256)) = be8L n (k + 1) := by
  unfold be8L
  rw [show 8 - k = (7 - k) + 1 by omega, List.replicate_succ', List.append_assoc, List.set_append_right _ _ (by simp), List.length_replicate, Nat.sub_self, List.singleton_append, List.set_cons_zero, slowL, show 8 - (k + 1) = 7 - k by omega]
theorem be8L_zero (n : Nat) : be8L n 0 = List.replicate 8 0 := by simp [be8L, slowL]
def be8 (n : Nat) : ByteArray := ⟨(be8L n 8).toArray⟩
theorem be8_size (n : Nat) : (be8 n).size = 8 := by
  show (be8L n 8).toArray.size = 8
  rw [List.size_toArray, be8L_len n 8 (by decide)]
/-- the number that the first k bytes of l tell -/
def numTo (l : List UInt8) : Nat → Nat
  | 0 => 0
  | k + 1 => numTo l k * 256 + (l.getD k 0).toNat
theorem numTo_lt (l : List UInt8) (k : Nat) : numTo l k < 256 ^ k := by
  induction k with
  | zero => exact Nat.one_pos
  | succ k ih =>
    have := (l.getD k 0).toNat_lt
    rw [numTo, Nat.pow_succ]
    omega
theorem slowL_get (n : Nat) : ∀ (k j : Nat), j < k → (slowL n k).getD j 0 = UInt8.ofNat (n / 2 ^ (8 * (k - 1 - j)) % 256) := by
  intro k
  induction k with
  | zero => intro j h; omega
  | succ k ih =>
    intro j h
    cases j with
    | zero => simp [slowL]
    | succ j =>
      rw [slowL, List.getD_cons_succ, ih j (by omega)]
      congr 5
      omega
theorem numTo_low (n k : Nat) (r : List UInt8) (j : Nat) (h : j ≤ k) : numTo (slowL n k ++ r) j = n / 2 ^ (8 * (k - j)) % 256 ^ j := by
  induction j with
  | zero => simp [numTo, Nat.mod_one]
  | succ j ih =>
    have e : (slowL n k ++ r).getD j 0 = (slowL n k).getD j 0 := by
      rw [List.getD_eq_getElem?_getD, List.getD_eq_getElem?_getD, List.getElem?_append_left (by rw [slowL_len]; omega)]
    rw [numTo, ih (by omega), e, slowL_get n k j (by omega), show k - 1 - j = k - (j + 1) by omega]
    generalize hm : n / 2 ^ (8 * (k - (j + 1))) = m
    have h1 : n / 2 ^ (8 * (k - j)) = m / 256 := by
      rw [← hm, Nat.div_div_eq_div_mul, show 8 * (k - j) = 8 * (k - (j + 1)) + 8 by omega, Nat.pow_add]
    have h2 : (UInt8.ofNat (m % 256)).toNat = m % 256 := by simp
    rw [h1, h2, Nat.pow_succ, Nat.mul_comm (256 ^ j) 256, Nat.mod_mul]
    omega
theorem numTo_be8 (n : Nat) (r : List UInt8) (h : n ≤ 1000000000) : numTo (be8L n 8 ++ r) 8 = n := by
  have e : be8L n 8 = slowL n 8 := by simp [be8L]
  rw [e, numTo_low n 8 r 8 (Nat.le_refl _)]
  simp
  omega
/-- what Number tells -/
def numS (s : ByteArray) : Int × Bool :=
  if s.size < 8 then (0, false) else if 1 ≤ numTo s.data.toList 8 ∧ numTo s.data.toList 8 ≤ 1000000000 then (((numTo s.data.toList 8 : Nat) : Int), true) else (0, false)
theorem be8_app (n : Nat) (x : ByteArray) : (be8 n ++ x).size = 8 + x.size := by rw [ByteArray.size_append, be8_size]
theorem numS_frame (n : Nat) (x : ByteArray) (h1 : 1 ≤ n) (h2 : n ≤ 1000000000) : numS (be8 n ++ x) = ((n : Int), true) := by
  have e : (be8 n ++ x).data.toList = be8L n 8 ++ x.data.toList := by simp [be8]
  unfold numS
  rw [be8_app, if_neg (by omega), e, numTo_be8 n _ h2, if_pos ⟨h1, h2⟩]
/-- a side's nonce of a number -/
def sesN (side n : Nat) : ByteArray := ⟨#[UInt8.ofNat side, 0, 0, 0]⟩ ++ be8 n
theorem sesN_size (side n : Nat) : (sesN side n).size = 12 := by
  unfold sesN
  rw [ByteArray.size_append, be8_size]
  rfl
end Go.Proofs.YtbgohcedakpnbaaDoor
