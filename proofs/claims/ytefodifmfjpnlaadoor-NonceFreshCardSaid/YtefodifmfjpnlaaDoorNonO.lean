/- nonce, plain: the lesser number's nonce is less. -/
import Derived.Test.YtefodifmfjpnlaaDoorNonP
set_option linter.unusedVariables false
namespace Go.Proofs.YtefodifmfjpnlaaDoor
theorem low_less (n m k : Nat) : Op.bytesLess (lowL n k) (lowL m k) = decide (n % 2 ^ (8 * k) < m % 2 ^ (8 * k)) := by
  induction k with
  | zero => simp [lowL, Op.bytesLess, Nat.mod_one]
  | succ k ih =>
    have hp : 2 ^ (8 * (k + 1)) = 2 ^ (8 * k) * 256 := by rw [show 8 * (k + 1) = 8 * k + 8 by omega, Nat.pow_add]
    rw [lowL, lowL, Op.bytesLess, ih, hp, Nat.mod_mul, Nat.mod_mul]
    have hpos : 0 < 2 ^ (8 * k) := Nat.two_pow_pos _
    generalize 2 ^ (8 * k) = P at *
    have a1 : n / P % 256 < 256 := Nat.mod_lt _ (by decide)
    have b1 : m / P % 256 < 256 := Nat.mod_lt _ (by decide)
    have a2 : n % P < P := Nat.mod_lt _ hpos
    have b2 : m % P < P := Nat.mod_lt _ hpos
    generalize n / P % 256 = x at *
    generalize m / P % 256 = y at *
    generalize n % P = u at *
    generalize m % P = v at *
    have e1 : (UInt8.ofNat x < UInt8.ofNat y) ↔ x < y := by
      rw [UInt8.lt_iff_toNat_lt, UInt8.toNat_ofNat_of_lt' a1, UInt8.toNat_ofNat_of_lt' b1]
    have e2 : (UInt8.ofNat x = UInt8.ofNat y) ↔ x = y := by
      rw [← UInt8.toNat_inj, UInt8.toNat_ofNat_of_lt' a1, UInt8.toNat_ofNat_of_lt' b1]
    rcases Nat.lt_trichotomy x y with h | h | h
    · have : u + P * x < v + P * y := by
        have := Nat.mul_le_mul_left P (show x + 1 ≤ y from h)
        rw [Nat.mul_add, Nat.mul_one] at this
        omega
      simp [e1, h, this]
    · subst h
      simp
    · have : ¬ (u + P * x < v + P * y) := by
        have := Nat.mul_le_mul_left P (show y + 1 ≤ x from h)
        rw [Nat.mul_add, Nat.mul_one] at this
        omega
      have h1 : ¬ x < y := by omega
      have h2 : ¬ x = y := by omega
      simp [e1, e2, h1, h2, this]
theorem less_zeros (l r : List UInt8) (k : Nat) : Op.bytesLess (List.replicate k 0 ++ l) (List.replicate k 0 ++ r) = Op.bytesLess l r := by
  induction k with
  | zero => rfl
  | succ k ih => rw [List.replicate_succ, List.cons_append, List.cons_append, Op.bytesLess, ih]; simp
theorem nonB_less {n m : Nat} (hn : n ≤ 1000000000) (hm : m ≤ 1000000000) : Op.bytesLess (nonB n).toList (nonB m).toList = decide (n < m) := by
  rw [show (nonB n).toList = beL n 8 from by simp [nonB, ByteArray.toList_eq], show (nonB m).toList = beL m 8 from by simp [nonB, ByteArray.toList_eq]]
  unfold beL
  rw [less_zeros, low_less, Nat.mod_eq_of_lt (by omega), Nat.mod_eq_of_lt (by omega)]
theorem bytesLess_self (l : List UInt8) : Op.bytesLess l l = false := by
  induction l with
  | nil => rfl
  | cons a l ih => rw [Op.bytesLess, ih]; simp
theorem nonB_inj {n m : Nat} (hn : n ≤ 1000000000) (hm : m ≤ 1000000000) (h : (nonB n).toList = (nonB m).toList) : n = m := by
  have h1 := nonB_less hn hm
  have h2 := nonB_less hm hn
  rw [h, bytesLess_self] at h1
  rw [h, bytesLess_self] at h2
  have := of_decide_eq_false h1.symm
  have := of_decide_eq_false h2.symm
  omega
theorem nonB_eq {n m : Nat} (hn : n ≤ 1000000000) (hm : m ≤ 1000000000) : ((nonB n).toList == (nonB m).toList) = decide (n = m) := by
  by_cases h : n = m
  · subst h; simp
  · have : (nonB n).toList ≠ (nonB m).toList := fun e => h (nonB_inj hn hm e)
    simp [h, this]
end Go.Proofs.YtefodifmfjpnlaaDoor
