/- Plain: the words of chapters 1 and 2, as the document tells them. -/
import Derived.Test.YtkaaicmadknjcaaDoorDigA
set_option linter.unusedVariables false
namespace Go.Proofs.YtkaaicmadknjcaaDoor
open Go.RowKit
theorem bit_of (x i : Nat) : x / 2 ^ i % 2 = (x.testBit i).toNat := by
  rw [Nat.testBit_eq_decide_div_mod_eq]
  rcases Nat.mod_two_eq_zero_or_one (x / 2 ^ i) with h | h <;> simp [h]
theorem xor_mod_succ (a b i : Nat) : (a ^^^ b) % 2 ^ (i + 1) = (a ^^^ b) % 2 ^ i + (if a / 2 ^ i % 2 ≠ b / 2 ^ i % 2 then 2 ^ i else 0) := by
  rw [Nat.mod_pow_succ, bit_of, bit_of, bit_of, Nat.testBit_xor]
  cases a.testBit i <;> cases b.testBit i <;> simp
theorem and_mod_succ (a b i : Nat) : (a &&& b) % 2 ^ (i + 1) = (a &&& b) % 2 ^ i + (if a / 2 ^ i % 2 = 1 ∧ b / 2 ^ i % 2 = 1 then 2 ^ i else 0) := by
  rw [Nat.mod_pow_succ, bit_of, bit_of, bit_of, Nat.testBit_and]
  cases a.testBit i <;> cases b.testBit i <;> simp
theorem rotl_zero (x : Nat) (hx : x < 4294967296) : rotl x 0 = x := by
  unfold rotl
  rw [Nat.pow_zero, Nat.mul_one, Nat.mod_eq_of_lt hx, Nat.sub_zero, Nat.div_eq_of_lt (by omega)]
  simp
theorem rotl_sum (x s : Nat) (hx : x < 4294967296) (hs : s ≤ 32) : rotl x s = x % 2 ^ (32 - s) * 2 ^ s + x / 2 ^ (32 - s) := by
  have hp : 2 ^ (32 - s) * 2 ^ s = 4294967296 := by rw [← Nat.pow_add]; rw [show 32 - s + s = 32 by omega]
  have h1 : x * 2 ^ s % 4294967296 = x % 2 ^ (32 - s) * 2 ^ s := by rw [← hp, Nat.mul_mod_mul_right]
  have h2 : x / 2 ^ (32 - s) < 2 ^ s := by
    rw [Nat.div_lt_iff_lt_mul (Nat.two_pow_pos _), Nat.mul_comm, hp]; exact hx
  unfold rotl
  rw [h1, ← Nat.shiftLeft_eq, ← Nat.shiftLeft_add_eq_or_of_lt h2]
theorem turn_step (x s : Nat) (hx : x < 4294967296) (hs : s < 32) : 2 * rotl x s % 4294967296 + 2 * rotl x s / 4294967296 = rotl x (s + 1) := by
  rw [rotl_sum x s hx (by omega), rotl_sum x (s + 1) hx (by omega)]
  obtain ⟨k, hk⟩ : ∃ k, 31 - s = k := ⟨_, rfl⟩
  have e1 : 32 - s = k + 1 := by omega
  have e2 : 32 - (s + 1) = k := by omega
  rw [e1, e2]
  have hp : 2 ^ k * 2 ^ s = 2147483648 := by rw [← Nat.pow_add]; rw [show k + s = 31 by omega]
  have hq : x / 2 ^ (k + 1) < 2 ^ s := by
    rw [Nat.div_lt_iff_lt_mul (Nat.two_pow_pos _), Nat.pow_succ, Nat.mul_comm, Nat.mul_right_comm, hp]; exact hx
  have hd : x % 2 ^ (k + 1) = x % 2 ^ k + 2 ^ k * (x / 2 ^ k % 2) := Nat.mod_pow_succ
  have hdd : x / 2 ^ (k + 1) = x / 2 ^ k / 2 := by rw [Nat.pow_succ, Nat.div_div_eq_div_mul]
  have hm : x % 2 ^ k < 2 ^ k := Nat.mod_lt _ (Nat.two_pow_pos _)
  rw [hdd] at hq ⊢
  rw [hd]
  generalize x / 2 ^ k = q at *
  generalize x % 2 ^ k = r at *
  have hr : r * 2 ^ s + 2 ^ s ≤ 2147483648 := by
    rw [← hp]
    calc r * 2 ^ s + 2 ^ s = (r + 1) * 2 ^ s := by rw [Nat.add_mul, Nat.one_mul]
      _ ≤ 2 ^ k * 2 ^ s := Nat.mul_le_mul_right _ hm
  have hb := Nat.mod_two_eq_zero_or_one q
  have h3 : r * 2 ^ (s + 1) = r * 2 ^ s * 2 := by rw [Nat.pow_succ, Nat.mul_assoc]
  have h4 : 2 ^ k * (q % 2) * 2 ^ s = 2147483648 * (q % 2) := by rw [Nat.mul_right_comm, hp]
  rw [Nat.add_mul, h3, h4]
  generalize r * 2 ^ s = R at *
  rcases hb with h | h <;> rw [h]
  · omega
  · omega
/-- word j of s, r of its bytes taken in -/
def partW (s : ByteArray) (h : Bool) (j : Nat) : Nat → Nat
  | 0 => 0
  | r + 1 => partW s h j r ||| byteAt s (4 * j + r) * 2 ^ belowW h r
theorem cutTo_get (s : ByteArray) (h : Bool) (i j : Nat) (hj : j < s.size / 4) : (cutTo s h i)[j]? = some (partW s h j (min (i - 4 * j) 4)) := by
  induction i with
  | zero => simp [cutTo, partW, hj]
  | succ i ih =>
    rw [cutTo]
    by_cases e : i / 4 = j
    · rw [e, List.getElem?_set_self (by rw [cutTo_len]; exact hj)]
      have h1 : min (i - 4 * j) 4 = i % 4 := by omega
      have h2 : min (i + 1 - 4 * j) 4 = i % 4 + 1 := by omega
      rw [h1] at ih
      rw [h2, partW, List.getD_eq_getElem?_getD, ih, show 4 * j + i % 4 = i by omega]
      rfl
    · rw [List.getElem?_set_ne e, ih]
      congr 2
      omega
/-- word j of s, as numbers -/
def wordAt (s : ByteArray) (h : Bool) (j : Nat) : Nat :=
  if h then 256 * (256 * (256 * byteAt s (4 * j) + byteAt s (4 * j + 1)) + byteAt s (4 * j + 2)) + byteAt s (4 * j + 3)
  else 256 * (256 * (256 * byteAt s (4 * j + 3) + byteAt s (4 * j + 2)) + byteAt s (4 * j + 1)) + byteAt s (4 * j)
theorem or_high (a b k : Nat) (h : b < 2 ^ k) : a * 2 ^ k ||| b = a * 2 ^ k + b := by
  rw [← Nat.shiftLeft_eq, ← Nat.shiftLeft_add_eq_or_of_lt h]
theorem part_word (s : ByteArray) (h : Bool) (j : Nat) : partW s h j 4 = wordAt s h j := by
  have b0 := byteAt_lt s (4 * j)
  have b1 := byteAt_lt s (4 * j + 1)
  have b2 := byteAt_lt s (4 * j + 2)
  have b3 := byteAt_lt s (4 * j + 3)
  simp only [partW, belowW, wordAt, Nat.add_zero, Nat.zero_or]
  generalize byteAt s (4 * j) = x0 at *
  generalize byteAt s (4 * j + 1) = x1 at *
  generalize byteAt s (4 * j + 2) = x2 at *
  generalize byteAt s (4 * j + 3) = x3 at *
  cases h
  · simp only [Bool.false_eq_true, if_false, Nat.mul_zero, Nat.pow_zero, Nat.mul_one]
    have e1 : x0 ||| x1 * 2 ^ 8 = x1 * 2 ^ 8 + x0 := by rw [Nat.or_comm, or_high _ _ _ (by omega)]
    have e2 : x0 ||| x1 * 2 ^ 8 ||| x2 * 2 ^ 16 = x2 * 2 ^ 16 + (x1 * 2 ^ 8 + x0) := by rw [e1, Nat.or_comm, or_high _ _ _ (by omega)]
    have e3 : x0 ||| x1 * 2 ^ 8 ||| x2 * 2 ^ 16 ||| x3 * 2 ^ 24 = x3 * 2 ^ 24 + (x2 * 2 ^ 16 + (x1 * 2 ^ 8 + x0)) := by rw [e2, Nat.or_comm, or_high _ _ _ (by omega)]
    rw [show 8 * 2 = 16 by rfl, show 8 * 3 = 24 by rfl, e3]
    omega
  · simp only [if_true, Nat.mul_zero, Nat.sub_zero, Nat.mul_one]
    have e1 : x0 * 2 ^ 24 ||| x1 * 2 ^ 16 = (x0 * 2 ^ 8 + x1) * 2 ^ 16 := by rw [or_high _ _ _ (by omega)]; omega
    have e2 : x0 * 2 ^ 24 ||| x1 * 2 ^ 16 ||| x2 * 2 ^ 8 = ((x0 * 2 ^ 8 + x1) * 2 ^ 8 + x2) * 2 ^ 8 := by rw [e1, or_high _ _ _ (by omega)]; omega
    have e3 : x0 * 2 ^ 24 ||| x1 * 2 ^ 16 ||| x2 * 2 ^ 8 ||| x3 = ((x0 * 2 ^ 8 + x1) * 2 ^ 8 + x2) * 2 ^ 8 + x3 := by rw [e2, or_high _ _ _ (by omega)]
    rw [show 24 - 8 = 16 by rfl, show 24 - 8 * 2 = 8 by rfl, show 24 - 8 * 3 = 0 by rfl, Nat.pow_zero, Nat.mul_one, e3]
    omega
theorem cutW_eq (s : ByteArray) (h : Bool) : cutW s h = (List.range (s.size / 4)).map (wordAt s h) := by
  apply List.ext_getElem?
  intro j
  by_cases hj : j < s.size / 4
  · rw [cutW, cutTo_get s h _ j hj, show min (s.size - 4 * j) 4 = 4 by omega, part_word]
    simp [hj]
  · rw [List.getElem?_eq_none (by rw [cutW, cutTo_len]; omega), List.getElem?_eq_none (by simp; omega)]
/-- a word's bytes -/
def toldB (h : Bool) (x : Nat) : List UInt8 :=
  if h then [UInt8.ofNat (x / 16777216), UInt8.ofNat (x / 65536 % 256), UInt8.ofNat (x / 256 % 256), UInt8.ofNat (x % 256)]
  else [UInt8.ofNat (x % 256), UInt8.ofNat (x / 256 % 256), UInt8.ofNat (x / 65536 % 256), UInt8.ofNat (x / 16777216)]
theorem joinB_take (L : List Nat) (h : Bool) (hw : words L) (k : Nat) (hk : k ≤ L.length) : ((List.range (4 * k)).map fun t => UInt8.ofNat (joinByte L h t)) = (L.take k).flatMap (toldB h) := by
  induction k with
  | zero => rfl
  | succ k ih =>
    obtain ⟨x, hx⟩ : ∃ x, L[k]? = some x := ⟨_, List.getElem?_eq_getElem (by omega)⟩
    have hx2 := hw x (List.mem_of_getElem? hx)
    rw [show 4 * (k + 1) = 4 * k + 1 + 1 + 1 + 1 by omega, List.range_succ, List.range_succ, List.range_succ, List.range_succ]
    rw [List.take_add_one, hx, List.flatMap_append, ← ih (by omega)]
    simp only [List.map_append, List.map_cons, List.map_nil, List.append_assoc]
    congr 1
    have j0 : joinByte L h (4 * k) = x / 2 ^ belowW h 0 % 256 := by unfold joinByte; rw [show 4 * k / 4 = k by omega, show 4 * k % 4 = 0 by omega, List.getD_eq_getElem?_getD, hx]; rfl
    have j1 : joinByte L h (4 * k + 1) = x / 2 ^ belowW h 1 % 256 := by unfold joinByte; rw [show (4 * k + 1) / 4 = k by omega, show (4 * k + 1) % 4 = 1 by omega, List.getD_eq_getElem?_getD, hx]; rfl
    have j2 : joinByte L h (4 * k + 1 + 1) = x / 2 ^ belowW h 2 % 256 := by unfold joinByte; rw [show (4 * k + 1 + 1) / 4 = k by omega, show (4 * k + 1 + 1) % 4 = 2 by omega, List.getD_eq_getElem?_getD, hx]; rfl
    have j3 : joinByte L h (4 * k + 1 + 1 + 1) = x / 2 ^ belowW h 3 % 256 := by unfold joinByte; rw [show (4 * k + 1 + 1 + 1) / 4 = k by omega, show (4 * k + 1 + 1 + 1) % 4 = 3 by omega, List.getD_eq_getElem?_getD, hx]; rfl
    rw [j0, j1, j2, j3]
    have hm : x / 16777216 % 256 = x / 16777216 := Nat.mod_eq_of_lt (by omega)
    cases h <;> simp [belowW, toldB, hm]
theorem joinW_eq (L : List Nat) (h : Bool) (hw : words L) : (joinW L h).data.toList = L.flatMap (toldB h) := by
  have := joinB_take L h hw L.length (Nat.le_refl _)
  rw [List.take_length] at this
  rw [joinW, List.toList_toArray, this]
/-- the words of a block, k of them made behind the 16: as the document tells them -/
def growTo (l : List Nat) : Nat → List Nat
  | 0 => l
  | k + 1 => growTo l k ++ [sumW [(growTo l k).getD k 0, s0W ((growTo l k).getD (k + 1) 0), (growTo l k).getD (k + 9) 0, s1W ((growTo l k).getD (k + 14) 0)]]
theorem growTo_len (l : List Nat) (k : Nat) : (growTo l k).length = l.length + k := by
  induction k with
  | zero => rfl
  | succ k ih => rw [growTo, List.length_append, ih]; rfl
theorem getD_append (L M : List Nat) (i : Nat) (h : i < L.length) : (L ++ M).getD i 0 = L.getD i 0 := by
  rw [List.getD_eq_getElem?_getD, List.getD_eq_getElem?_getD, List.getElem?_append_left h]
theorem spreadTo_grow (l : List Nat) (hl : l.length = 16) (k : Nat) (hk : k ≤ 48) : spreadTo l k = growTo l k ++ List.replicate (48 - k) 0 := by
  induction k with
  | zero => simp [spreadTo, growTo, hl]
  | succ k ih =>
    have hg := growTo_len l k
    rw [hl] at hg
    rw [spreadTo, growTo, ih (by omega)]
    rw [getD_append _ _ _ (by omega), getD_append _ _ _ (by omega), getD_append _ _ _ (by omega), getD_append _ _ _ (by omega)]
    rw [List.set_append_right _ _ (by omega), hg, Nat.sub_self]
    rw [show 48 - k = (48 - (k + 1)) + 1 by omega, List.replicate_succ]
    simp
theorem spreadTo_grown (l : List Nat) (hl : l.length = 16) : spreadTo l 48 = growTo l 48 := by
  rw [spreadTo_grow l hl 48 (by omega)]; simp
end Go.Proofs.YtkaaicmadknjcaaDoor
