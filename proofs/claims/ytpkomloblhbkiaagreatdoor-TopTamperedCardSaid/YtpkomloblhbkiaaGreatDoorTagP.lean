/- Plain: the numbers of chapter 5. -/
import Derived.Test.YtpkomloblhbkiaaGreatDoorWordA
set_option linter.unusedVariables false
set_option linter.unusedSimpArgs false
namespace Go.Proofs.YtpkomloblhbkiaaGreatDoor
open Go.RowKit
/-- the number of digits of base 256, the lowest first -/
def valD : List Nat → Nat
  | [] => 0
  | x :: l => x + 256 * valD l
def primeP : Nat := 1361129467683753853853498429727072845819
/-- the number of parts of 26 digits of base two -/
def valN : List Nat → Nat
  | [] => 0
  | x :: l => x + 67108864 * valN l
theorem valN5 (a b c d e : Nat) : valN [a, b, c, d, e] = a + 67108864 * b + 4503599627370496 * c + 302231454903657293676544 * d + 20282409603651670423947251286016 * e := by
  simp only [valN]; omega
/-- the row of 17 digits of a number -/
def rowOf (V : Nat) : List Nat := (List.range 17).map fun i => V / 256 ^ i % 256
def partsOf (V : Nat) : List Nat := (List.range 5).map fun i => V / 67108864 ^ i % 67108864
theorem partsOf_eq (V : Nat) : partsOf V = [V % 67108864, V / 67108864 % 67108864, V / 4503599627370496 % 67108864, V / 302231454903657293676544 % 67108864, V / 20282409603651670423947251286016 % 67108864] := by
  simp [partsOf, List.range_succ]
theorem parts_val (V : Nat) (h : V < 1361129467683753853853498429727072845824) : valN (partsOf V) = V := by
  rw [partsOf_eq, valN5]; omega
theorem val_parts (a b c d e : Nat) (ha : a < 67108864) (hb : b < 67108864) (hc : c < 67108864) (hd : d < 67108864) (he : e < 67108864) : partsOf (valN [a, b, c, d, e]) = [a, b, c, d, e] := by
  rw [partsOf_eq, valN5]
  simp only [List.cons.injEq, and_true]
  omega
theorem digit_at (V i : Nat) (hi : i < 17) (h : V < 1361129467683753853853498429727072845824) :
    V / 256 ^ i % 256 = (V / 67108864 ^ (8 * i / 26) % 67108864 / 2 ^ (8 * i % 26) + (if 8 * i / 26 < 4 then V / 67108864 ^ (8 * i / 26 + 1) % 67108864 * 2 ^ (26 - 8 * i % 26) else 0)) % 256 := by
  have hc : i = 0 ∨ i = 1 ∨ i = 2 ∨ i = 3 ∨ i = 4 ∨ i = 5 ∨ i = 6 ∨ i = 7 ∨ i = 8 ∨ i = 9 ∨ i = 10 ∨ i = 11 ∨ i = 12 ∨ i = 13 ∨ i = 14 ∨ i = 15 ∨ i = 16 := by omega
  rcases hc with rfl | rfl | rfl | rfl | rfl | rfl | rfl | rfl | rfl | rfl | rfl | rfl | rfl | rfl | rfl | rfl | rfl <;> simp <;> omega
/-- what a digit does to the parts -/
def putD (l : List Nat) (i x : Nat) : List Nat :=
  let m := l.set (8 * i / 26) (l.getD (8 * i / 26) 0 + x * 2 ^ (8 * i % 26) % 67108864)
  if 8 * i / 26 < 4 then m.set (8 * i / 26 + 1) (m.getD (8 * i / 26 + 1) 0 + x * 2 ^ (8 * i % 26) / 67108864) else m
theorem putD_at (V i x : Nat) (hi : i < 17) (hx : x < 256) (hV : V < 256 ^ i) (h : V + x * 256 ^ i < 1361129467683753853853498429727072845824) :
    putD (partsOf V) i x = partsOf (V + x * 256 ^ i) := by
  rw [partsOf_eq, partsOf_eq]
  have hc : i = 0 ∨ i = 1 ∨ i = 2 ∨ i = 3 ∨ i = 4 ∨ i = 5 ∨ i = 6 ∨ i = 7 ∨ i = 8 ∨ i = 9 ∨ i = 10 ∨ i = 11 ∨ i = 12 ∨ i = 13 ∨ i = 14 ∨ i = 15 ∨ i = 16 := by omega
  rcases hc with rfl | rfl | rfl | rfl | rfl | rfl | rfl | rfl | rfl | rfl | rfl | rfl | rfl | rfl | rfl | rfl | rfl <;> simp [putD] at hV h ⊢ <;> omega
theorem valD_snoc (l : List Nat) (x : Nat) : valD (l ++ [x]) = valD l + x * 256 ^ l.length := by
  induction l with
  | nil => simp [valD]
  | cons y l ih => simp only [List.cons_append, valD, ih, List.length_cons, Nat.pow_succ]; rw [Nat.mul_add, Nat.mul_comm (256 ^ l.length) 256, Nat.mul_left_comm x 256]; omega
theorem valD_lt (l : List Nat) (h : ∀ x ∈ l, x < 256) : valD l < 256 ^ l.length := by
  induction l with
  | nil => simp [valD]
  | cons y l ih =>
    have h1 := h y (by simp)
    have h2 := ih (fun x hx => h x (by simp [hx]))
    simp only [valD, List.length_cons, Nat.pow_succ]
    omega
/-- times -/
def mulTo (n m : List Nat) : List Nat :=
  let p := fun i k => n.getD i 0 * m.getD k 0
  [p 0 0 + p 1 4 * 5 + p 2 3 * 5 + p 3 2 * 5 + p 4 1 * 5,
   p 0 1 + p 1 0 + p 2 4 * 5 + p 3 3 * 5 + p 4 2 * 5,
   p 0 2 + p 1 1 + p 2 0 + p 3 4 * 5 + p 4 3 * 5,
   p 0 3 + p 1 2 + p 2 1 + p 3 0 + p 4 4 * 5,
   p 0 4 + p 1 3 + p 2 2 + p 3 1 + p 4 0]
theorem mulTo_val (a b c d e f g h i j : Nat) : valN (mulTo [a, b, c, d, e] [f, g, h, i, j]) % primeP = valN [a, b, c, d, e] * valN [f, g, h, i, j] % primeP := by
  have key : ∃ q, valN [a, b, c, d, e] * valN [f, g, h, i, j] = valN (mulTo [a, b, c, d, e] [f, g, h, i, j]) + primeP * q := by
    refine ⟨(b * j + c * i + d * h + e * g) + 67108864 * (c * j + d * i + e * h) + 4503599627370496 * (d * j + e * i) + 302231454903657293676544 * (e * j), ?_⟩
    simp only [valN5, mulTo, primeP, List.getD_cons_zero, List.getD_cons_succ]
    simp only [Nat.add_mul, Nat.mul_add, Nat.mul_assoc, Nat.mul_comm g (5 : Nat), Nat.mul_comm h (5 : Nat), Nat.mul_comm i (5 : Nat), Nat.mul_comm j (5 : Nat), Nat.mul_left_comm b (5 : Nat), Nat.mul_left_comm c (5 : Nat), Nat.mul_left_comm d (5 : Nat), Nat.mul_left_comm e (5 : Nat), Nat.mul_left_comm a (67108864 : Nat), Nat.mul_left_comm a (4503599627370496 : Nat), Nat.mul_left_comm a (302231454903657293676544 : Nat), Nat.mul_left_comm a (20282409603651670423947251286016 : Nat), Nat.mul_left_comm b (67108864 : Nat), Nat.mul_left_comm b (4503599627370496 : Nat), Nat.mul_left_comm b (302231454903657293676544 : Nat), Nat.mul_left_comm b (20282409603651670423947251286016 : Nat), Nat.mul_left_comm c (67108864 : Nat), Nat.mul_left_comm c (4503599627370496 : Nat), Nat.mul_left_comm c (302231454903657293676544 : Nat), Nat.mul_left_comm c (20282409603651670423947251286016 : Nat), Nat.mul_left_comm d (67108864 : Nat), Nat.mul_left_comm d (4503599627370496 : Nat), Nat.mul_left_comm d (302231454903657293676544 : Nat), Nat.mul_left_comm d (20282409603651670423947251286016 : Nat), Nat.mul_left_comm e (67108864 : Nat), Nat.mul_left_comm e (4503599627370496 : Nat), Nat.mul_left_comm e (302231454903657293676544 : Nat), Nat.mul_left_comm e (20282409603651670423947251286016 : Nat)]
    omega
  obtain ⟨q, hq⟩ := key
  rw [hq, Nat.add_mul_mod_self_left]
/-- carrying, i parts done: the parts, and what is over -/
def carryTo (l : List Nat) : Nat → List Nat × Nat
  | 0 => (l, 0)
  | i + 1 => ((carryTo l i).1.set i (((carryTo l i).1.getD i 0 + (carryTo l i).2) % 67108864), ((carryTo l i).1.getD i 0 + (carryTo l i).2) / 67108864)
theorem carryTo_len (l : List Nat) (i : Nat) : (carryTo l i).1.length = l.length := by
  induction i with
  | zero => rfl
  | succ i ih => rw [carryTo, List.length_set, ih]
def small (l : List Nat) : Prop := ∀ x ∈ l, x < 67108864
/-- a whole round of carrying -/
def carried (l : List Nat) : List Nat := (carryTo l 5).1.set 0 ((carryTo l 5).1.getD 0 0 + 5 * (carryTo l 5).2)
theorem carry_val (a b c d e : Nat) : valN (carried [a, b, c, d, e]) + primeP * (carryTo [a, b, c, d, e] 5).2 = valN [a, b, c, d, e] := by
  simp only [carried, carryTo, List.set_cons_zero, List.set_cons_succ, List.getD_cons_zero, List.getD_cons_succ, Nat.add_zero, valN5, primeP]
  omega
theorem carry_small (a b c d e : Nat) (h : (carryTo [a, b, c, d, e] 5).2 = 0) : small (carried [a, b, c, d, e]) := by
  intro x hx
  simp only [carried, carryTo, List.set_cons_zero, List.set_cons_succ, List.getD_cons_zero, List.getD_cons_succ, Nat.add_zero, List.mem_cons, List.not_mem_nil, or_false] at hx h
  omega
/-- parts below a bound -/
def under (B : Nat) (l : List Nat) : Prop := ∀ x ∈ l, x < B
theorem under5 {B a b c d e : Nat} (h : under B [a, b, c, d, e]) : a < B ∧ b < B ∧ c < B ∧ d < B ∧ e < B := by
  refine ⟨h _ ?_, h _ ?_, h _ ?_, h _ ?_, h _ ?_⟩ <;> simp
theorem carry_over (l : List Nat) (hl : l.length = 5) (h : under 1152921504606846976 l) (i : Nat) (hi : i ≤ 5) : under 1152921504606846976 (carryTo l i).1 ∧ (carryTo l i).2 < 34359738368 := by
  induction i with
  | zero => exact ⟨h, by simp [carryTo]⟩
  | succ i ih =>
    obtain ⟨h1, h2⟩ := ih (by omega)
    have hm : (carryTo l i).1.getD i 0 < 1152921504606846976 := by
      have hlt : i < (carryTo l i).1.length := by rw [carryTo_len]; omega
      rw [List.getD_eq_getElem?_getD, List.getElem?_eq_getElem hlt]
      exact h1 _ (List.getElem_mem hlt)
    refine ⟨?_, by simp only [carryTo]; omega⟩
    intro x hx
    rw [carryTo] at hx
    rcases List.mem_or_eq_of_mem_set hx with hx | rfl
    · exact h1 x hx
    · omega
theorem carried_under (l : List Nat) (hl : l.length = 5) (h : under 1152921504606846976 l) : under 1152921504606846976 (carried l) := by
  obtain ⟨h1, h2⟩ := carry_over l hl h 5 (by omega)
  intro x hx
  rw [carried] at hx
  rcases List.mem_or_eq_of_mem_set hx with hx | rfl
  · exact h1 x hx
  · obtain ⟨a, b, c, d, e, rfl⟩ : ∃ a b c d e, l = [a, b, c, d, e] := by
      match l, hl with
      | [a, b, c, d, e], _ => exact ⟨a, b, c, d, e, rfl⟩
    have h0 : (carryTo [a, b, c, d, e] 5).1.getD 0 0 < 67108864 := by
      simp only [carryTo, List.set_cons_zero, List.set_cons_succ, List.getD_cons_zero, List.getD_cons_succ, Nat.add_zero]
      omega
    omega
theorem carried_len (l : List Nat) : (carried l).length = l.length := by rw [carried, List.length_set, carryTo_len]
theorem list5 {α : Type} {l : List α} (h : l.length = 5) : ∃ a b c d e, l = [a, b, c, d, e] := by
  match l, h with
  | [a, b, c, d, e], _ => exact ⟨a, b, c, d, e, rfl⟩
/-- a round of carrying: the number stays what it is by P, and goes down where something was over -/
theorem carry_round (l : List Nat) (hl : l.length = 5) : valN (carried l) % primeP = valN l % primeP ∧ (0 < (carryTo l 5).2 → valN (carried l) + 1 < valN l) ∧ ((carryTo l 5).2 = 0 → valN (carried l) = valN l ∧ small (carried l)) := by
  obtain ⟨a, b, c, d, e, rfl⟩ := list5 hl
  have h := carry_val a b c d e
  refine ⟨by rw [← h, Nat.add_mul_mod_self_left], fun h0 => ?_, fun h0 => ⟨by rw [h0] at h; omega, carry_small a b c d e h0⟩⟩
  unfold primeP at h
  omega
/-- what is left: parts within bounds, of a number below 2^130 -/
theorem left_no (a b c d e : Nat) (h : small [a, b, c, d, e]) (hc : ¬ (67108859 ≤ a ∧ b = 67108863 ∧ c = 67108863 ∧ d = 67108863 ∧ e = 67108863)) : partsOf (valN [a, b, c, d, e] % primeP) = [a, b, c, d, e] := by
  obtain ⟨h1, h2, h3, h4, h5⟩ := under5 h
  have hv : valN [a, b, c, d, e] < primeP := by rw [valN5]; unfold primeP; omega
  rw [Nat.mod_eq_of_lt hv]
  exact val_parts a b c d e h1 h2 h3 h4 h5
theorem parts_few (x : Nat) (h : x < 67108864) : partsOf x = [x, 0, 0, 0, 0] := by
  rw [partsOf_eq]
  simp only [List.cons.injEq, and_true]
  omega
theorem mod_once (V x p : Nat) (h : V = x + p) (hx : x < p) : V % p = x := by
  rw [h, Nat.add_mod_right, Nat.mod_eq_of_lt hx]
theorem left_yes (a b c d e : Nat) (h : a < 67108864) (hc : 67108859 ≤ a) (hb : b = 67108863) (hc' : c = 67108863) (hd : d = 67108863) (he : e = 67108863) : partsOf (valN [a, b, c, d, e] % primeP) = [a - 67108859, 0, 0, 0, 0] := by
  have hv : valN [a, b, c, d, e] = (a - 67108859) + primeP := by rw [valN5]; unfold primeP; omega
  rw [mod_once _ _ _ hv (by unfold primeP; omega)]
  exact parts_few _ (by omega)
theorem rowOf_len (V : Nat) : (rowOf V).length = 17 := by simp [rowOf]
theorem rowOf_digits (V : Nat) : ∀ x ∈ rowOf V, x < 256 := by
  intro x hx
  obtain ⟨i, _, rfl⟩ := List.mem_map.1 hx
  exact Nat.mod_lt _ (by decide)
theorem rowOf_eq (V : Nat) : rowOf V = [V % 256, V / 256 % 256, V / 256 ^ 2 % 256, V / 256 ^ 3 % 256, V / 256 ^ 4 % 256, V / 256 ^ 5 % 256, V / 256 ^ 6 % 256, V / 256 ^ 7 % 256, V / 256 ^ 8 % 256, V / 256 ^ 9 % 256, V / 256 ^ 10 % 256, V / 256 ^ 11 % 256, V / 256 ^ 12 % 256, V / 256 ^ 13 % 256, V / 256 ^ 14 % 256, V / 256 ^ 15 % 256, V / 256 ^ 16 % 256] := by
  simp [rowOf, List.range_succ]
theorem rowOf_val (V : Nat) (h : V < 1361129467683753853853498429727072845824) : valD (rowOf V) = V := by
  rw [rowOf_eq]
  simp only [valD, Nat.reducePow]
  omega
/-- a row of digits, of a number below P -/
def Digits (l : List Nat) : Prop := l.length = 17 ∧ (∀ x ∈ l, x < 256) ∧ valD l < primeP
theorem rowOf_good (V : Nat) (h : V < primeP) : Digits (rowOf V) := ⟨rowOf_len V, rowOf_digits V, by rw [rowOf_val V (by unfold primeP at h; omega)]; exact h⟩
theorem list17 {l : List Nat} (h : l.length = 17) : ∃ a0 a1 a2 a3 a4 a5 a6 a7 a8 a9 a10 a11 a12 a13 a14 a15 a16, l = [a0, a1, a2, a3, a4, a5, a6, a7, a8, a9, a10, a11, a12, a13, a14, a15, a16] := by
  obtain ⟨a0, l0, rfl⟩ := List.exists_cons_of_length_eq_add_one h
  replace h : l0.length = 16 := by simpa using h
  obtain ⟨a1, l1, rfl⟩ := List.exists_cons_of_length_eq_add_one h
  replace h : l1.length = 15 := by simpa using h
  obtain ⟨a2, l2, rfl⟩ := List.exists_cons_of_length_eq_add_one h
  replace h : l2.length = 14 := by simpa using h
  obtain ⟨a3, l3, rfl⟩ := List.exists_cons_of_length_eq_add_one h
  replace h : l3.length = 13 := by simpa using h
  obtain ⟨a4, l4, rfl⟩ := List.exists_cons_of_length_eq_add_one h
  replace h : l4.length = 12 := by simpa using h
  obtain ⟨a5, l5, rfl⟩ := List.exists_cons_of_length_eq_add_one h
  replace h : l5.length = 11 := by simpa using h
  obtain ⟨a6, l6, rfl⟩ := List.exists_cons_of_length_eq_add_one h
  replace h : l6.length = 10 := by simpa using h
  obtain ⟨a7, l7, rfl⟩ := List.exists_cons_of_length_eq_add_one h
  replace h : l7.length = 9 := by simpa using h
  obtain ⟨a8, l8, rfl⟩ := List.exists_cons_of_length_eq_add_one h
  replace h : l8.length = 8 := by simpa using h
  obtain ⟨a9, l9, rfl⟩ := List.exists_cons_of_length_eq_add_one h
  replace h : l9.length = 7 := by simpa using h
  obtain ⟨a10, l10, rfl⟩ := List.exists_cons_of_length_eq_add_one h
  replace h : l10.length = 6 := by simpa using h
  obtain ⟨a11, l11, rfl⟩ := List.exists_cons_of_length_eq_add_one h
  replace h : l11.length = 5 := by simpa using h
  obtain ⟨a12, l12, rfl⟩ := List.exists_cons_of_length_eq_add_one h
  replace h : l12.length = 4 := by simpa using h
  obtain ⟨a13, l13, rfl⟩ := List.exists_cons_of_length_eq_add_one h
  replace h : l13.length = 3 := by simpa using h
  obtain ⟨a14, l14, rfl⟩ := List.exists_cons_of_length_eq_add_one h
  replace h : l14.length = 2 := by simpa using h
  obtain ⟨a15, l15, rfl⟩ := List.exists_cons_of_length_eq_add_one h
  replace h : l15.length = 1 := by simpa using h
  obtain ⟨a16, l16, rfl⟩ := List.exists_cons_of_length_eq_add_one h
  replace h : l16.length = 0 := by simpa using h
  obtain rfl : l16 = [] := List.eq_nil_of_length_eq_zero h
  exact ⟨a0, a1, a2, a3, a4, a5, a6, a7, a8, a9, a10, a11, a12, a13, a14, a15, a16, rfl⟩
theorem digits_last (l : List Nat) (h : Digits l) : l.getD 16 0 ≤ 3 := by
  obtain ⟨hl, hd, hv⟩ := h
  obtain ⟨a0, a1, a2, a3, a4, a5, a6, a7, a8, a9, a10, a11, a12, a13, a14, a15, a16, rfl⟩ := list17 hl
  simp only [valD, primeP] at hv
  simp only [List.getD_cons_succ, List.getD_cons_zero]
  omega
theorem valD_top (l : List Nat) (h : ∀ x ∈ l, 255 ≤ x) : 256 ^ l.length ≤ valD l + 1 := by
  induction l with
  | nil => simp [valD]
  | cons y l ih =>
    have h1 := h y (by simp)
    have h2 := ih (fun x hx => h x (by simp [hx]))
    simp only [valD, List.length_cons, Nat.pow_succ]
    omega
theorem low_of_top (a0 z : Nat) (mid : List Nat) (hl : mid.length = 15) (h : ∀ x ∈ mid, 255 ≤ x) (hz : z = 3) (hv : valD (a0 :: (mid ++ [z])) < primeP) : a0 < 251 := by
  have h1 := valD_top mid h
  rw [hl] at h1
  rw [valD, valD_snoc, hl, hz] at hv
  unfold primeP at hv
  simp only [Nat.reducePow] at h1 hv
  omega
/-- where the upper digits are as great as they may be the lowest one is below 251 -/
theorem digits_low (l : List Nat) (h : Digits l) (h3 : l.getD 16 0 = 3) (hm : ∀ k, k < 15 → 255 ≤ l.getD (k + 1) 0) : l.getD 0 0 < 251 := by
  obtain ⟨hl, hd, hv⟩ := h
  obtain ⟨a0, a1, a2, a3, a4, a5, a6, a7, a8, a9, a10, a11, a12, a13, a14, a15, a16, rfl⟩ := list17 hl
  refine low_of_top a0 a16 [a1, a2, a3, a4, a5, a6, a7, a8, a9, a10, a11, a12, a13, a14, a15] rfl ?_ h3 hv
  intro x hx
  obtain ⟨k, hk, rfl⟩ := List.mem_iff_getElem.1 hx
  have h1 : 255 ≤ (a0 :: ([a1, a2, a3, a4, a5, a6, a7, a8, a9, a10, a11, a12, a13, a14, a15] ++ [a16])).getD (k + 1) 0 := hm k hk
  rw [List.getD_cons_succ, List.getD_eq_getElem?_getD, List.getElem?_append_left hk, List.getElem?_eq_getElem hk] at h1
  exact h1
/-- the row behind a part -/
def stepR (acc r part : List Nat) : List Nat := rowOf ((valD acc + valD (part ++ [1])) * valD r % primeP)
theorem stepR_good (acc r part : List Nat) : Digits (stepR acc r part) := rowOf_good _ (Nat.mod_lt _ (by unfold primeP; omega))
def zeroR : List Nat := List.replicate 17 0
theorem zeroR_val : valD zeroR = 0 := by decide
theorem zeroR_good : Digits zeroR := ⟨rfl, by decide, by rw [zeroR_val]; decide⟩
end Go.Proofs.YtpkomloblhbkiaaGreatDoor
