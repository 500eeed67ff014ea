/- the references of chapters 1 and 2: words. -/
import Derived.Test.YtkaaicmadknjcaaDoorRefP
import Derived.IntWalk
set_option linter.unusedVariables false
namespace Go.Proofs.YtkaaicmadknjcaaDoor
open Go.RowKit
set_option maxHeartbeats 400000 in
theorem unlike_any (a b : Nat) (w : World) (ha : a < 4294967296) (hb : b < 4294967296) :
    Calls Tryd.prog 86 #[.int .i64 a, .int .i64 b] w fun e w' => e = .returned (.int .i64 (a ^^^ b : Nat)) ∧ w = w' := by
  have HF : Hid ((a ^^^ b) % 2 ^ 32 = a ^^^ b) := Lib.hid (Nat.mod_eq_of_lt (Nat.xor_lt_two_pow (by omega) (by omega)))
  go_enter Tryd.func86, Tryd.ntmps86
  go_wp2
  go_loop [0, 1, 5, 6, 7] (fun sa sb sn sw si => ∃ (i A B N W : Nat), i ≤ 32 ∧ sa = .int .i64 A ∧ sb = .int .i64 B ∧ sn = .int .i64 N ∧ sw = .int .i64 W ∧ si = .int .i64 i ∧ A ≤ 4294967295 ∧ B ≤ 4294967295 ∧ N ≤ 4294967295 ∧ W ≤ 4294967296 ∧
    Hid (A = a / 2 ^ i) ∧ Hid (B = b / 2 ^ i) ∧ Hid (N = (a ^^^ b) % 2 ^ i) ∧ Hid (W = 2 ^ i)) (fun _ _ _ _ si => 32 - (intOf si).toNat)
  case atStart => exact ⟨0, a, b, 0, 1, by omega, rfl, rfl, rfl, rfl, rfl, by omega, by omega, by omega, by omega, Lib.hid (by simp), Lib.hid (by simp), Lib.hid (by simp [Nat.mod_one]), Lib.hid (by simp)⟩
  case round =>
    obtain ⟨i, A, B, N, W, hi, rfl, rfl, rfl, rfl, rfl, hA, hB, hN, hW, HA, HB, HN, HW⟩ := hrel
    by_cases hlt : i < 32
    · have HA1 : Hid (A / 2 = a / 2 ^ (i + 1)) := Lib.hid (by rw [HA.out, Nat.pow_succ, Nat.div_div_eq_div_mul])
      have HB1 : Hid (B / 2 = b / 2 ^ (i + 1)) := Lib.hid (by rw [HB.out, Nat.pow_succ, Nat.div_div_eq_div_mul])
      have HW1 : Hid (2 * W = 2 ^ (i + 1)) := Lib.hid (by rw [HW.out, Nat.pow_succ, Nat.mul_comm])
      have hW2 : 2 * W ≤ 4294967296 := by
        rw [HW1.out]; exact Nat.pow_le_pow_right (by decide) (show i + 1 ≤ 32 by omega)
      have hS := xor_mod_succ a b i
      rw [← HN.out, ← HA.out, ← HB.out, ← HW.out] at hS
      by_cases hc : A % 2 ≠ B % 2
      · rw [if_pos hc] at hS
        have hN2 : N + W ≤ 4294967295 := by
          have h1 : (a ^^^ b) % 2 ^ (i + 1) < 2 ^ (i + 1) := Nat.mod_lt _ (Nat.two_pow_pos _)
          have h2 : 2 ^ (i + 1) ≤ 2 ^ 32 := Nat.pow_le_pow_right (by decide) (by omega)
          omega
        have HS := Lib.hid hS
        clear hS
        have t1 : (((A : Int) % 2) != ((B : Int) % 2)) = true := by simp; omega
        clear hc
        go_wp2
        go_round
        case rel => exact ⟨i + 1, A / 2, B / 2, N + W, 2 * W, by omega, by go_num, by go_num, by go_num, by go_num, by go_num, by omega, by omega, by omega, by omega, HA1, HB1, Lib.hid HS.out.symm, HW1⟩
        case measure => simp [intOf]; omega
      · rw [if_neg hc] at hS
        have HS := Lib.hid hS
        clear hS
        have t1 : (((A : Int) % 2) != ((B : Int) % 2)) = false := by simp; omega
        clear hc
        go_wp2
        go_round
        case rel => exact ⟨i + 1, A / 2, B / 2, N, 2 * W, by omega, by go_num, by go_num, rfl, by go_num, by go_num, by omega, by omega, by omega, by omega, HA1, HB1, Lib.hid (by rw [HS.out]; rfl), HW1⟩
        case measure => simp [intOf]; omega
    · obtain rfl : i = 32 := by omega
      go_wp2
      go_ret
      exact ⟨ret_int (by rw [HN.out, HF.out]), rfl⟩
set_option maxHeartbeats 400000 in
theorem both_any (a b : Nat) (w : World) (ha : a < 4294967296) (hb : b < 4294967296) :
    Calls Tryd.prog 87 #[.int .i64 a, .int .i64 b] w fun e w' => e = .returned (.int .i64 (a &&& b : Nat)) ∧ w = w' := by
  have HF : Hid ((a &&& b) % 2 ^ 32 = a &&& b) := Lib.hid (Nat.mod_eq_of_lt (Nat.and_lt_two_pow _ (by omega)))
  go_enter Tryd.func87, Tryd.ntmps87
  go_wp2
  go_loop [0, 1, 5, 6, 7] (fun sa sb sn sw si => ∃ (i A B N W : Nat), i ≤ 32 ∧ sa = .int .i64 A ∧ sb = .int .i64 B ∧ sn = .int .i64 N ∧ sw = .int .i64 W ∧ si = .int .i64 i ∧ A ≤ 4294967295 ∧ B ≤ 4294967295 ∧ N ≤ 4294967295 ∧ W ≤ 4294967296 ∧
    Hid (A = a / 2 ^ i) ∧ Hid (B = b / 2 ^ i) ∧ Hid (N = (a &&& b) % 2 ^ i) ∧ Hid (W = 2 ^ i)) (fun _ _ _ _ si => 32 - (intOf si).toNat)
  case atStart => exact ⟨0, a, b, 0, 1, by omega, rfl, rfl, rfl, rfl, rfl, by omega, by omega, by omega, by omega, Lib.hid (by simp), Lib.hid (by simp), Lib.hid (by simp [Nat.mod_one]), Lib.hid (by simp)⟩
  case round =>
    obtain ⟨i, A, B, N, W, hi, rfl, rfl, rfl, rfl, rfl, hA, hB, hN, hW, HA, HB, HN, HW⟩ := hrel
    by_cases hlt : i < 32
    · have HA1 : Hid (A / 2 = a / 2 ^ (i + 1)) := Lib.hid (by rw [HA.out, Nat.pow_succ, Nat.div_div_eq_div_mul])
      have HB1 : Hid (B / 2 = b / 2 ^ (i + 1)) := Lib.hid (by rw [HB.out, Nat.pow_succ, Nat.div_div_eq_div_mul])
      have HW1 : Hid (2 * W = 2 ^ (i + 1)) := Lib.hid (by rw [HW.out, Nat.pow_succ, Nat.mul_comm])
      have hW2 : 2 * W ≤ 4294967296 := by
        rw [HW1.out]; exact Nat.pow_le_pow_right (by decide) (show i + 1 ≤ 32 by omega)
      have hS := and_mod_succ a b i
      rw [← HN.out, ← HA.out, ← HB.out, ← HW.out] at hS
      by_cases hc : A % 2 = 1 ∧ B % 2 = 1
      · rw [if_pos hc] at hS
        have hN2 : N + W ≤ 4294967295 := by
          have h1 : (a &&& b) % 2 ^ (i + 1) < 2 ^ (i + 1) := Nat.mod_lt _ (Nat.two_pow_pos _)
          have h2 : 2 ^ (i + 1) ≤ 2 ^ 32 := Nat.pow_le_pow_right (by decide) (by omega)
          omega
        have HS := Lib.hid hS
        clear hS
        have t1 : (((A : Int) % 2) == 1) = true := by simp; omega
        have t2 : (((B : Int) % 2) == 1) = true := by simp; omega
        clear hc
        go_wp2
        go_round
        case rel => exact ⟨i + 1, A / 2, B / 2, N + W, 2 * W, by omega, by go_num, by go_num, by go_num, by go_num, by go_num, by omega, by omega, by omega, by omega, HA1, HB1, Lib.hid HS.out.symm, HW1⟩
        case measure => simp [intOf]; omega
      · rw [if_neg hc] at hS
        have HS := Lib.hid hS
        clear hS
        by_cases h1 : A % 2 = 1
        · have t1 : (((A : Int) % 2) == 1) = true := by simp; omega
          have t2 : (((B : Int) % 2) == 1) = false := by simp; omega
          clear h1
          clear hc
          go_wp2
          go_round
          case rel => exact ⟨i + 1, A / 2, B / 2, N, 2 * W, by omega, by go_num, by go_num, rfl, by go_num, by go_num, by omega, by omega, by omega, by omega, HA1, HB1, Lib.hid (by rw [HS.out]; rfl), HW1⟩
          case measure => simp [intOf]; omega
        · have t1 : (((A : Int) % 2) == 1) = false := by simp; omega
          clear h1
          clear hc
          go_wp2
          go_round
          case rel => exact ⟨i + 1, A / 2, B / 2, N, 2 * W, by omega, by go_num, by go_num, rfl, by go_num, by go_num, by omega, by omega, by omega, by omega, HA1, HB1, Lib.hid (by rw [HS.out]; rfl), HW1⟩
          case measure => simp [intOf]; omega
    · obtain rfl : i = 32 := by omega
      go_wp2
      go_ret
      exact ⟨ret_int (by rw [HN.out, HF.out]), rfl⟩
theorem rsum_any (a b : Nat) (w : World) (ha : a < 4294967296) (hb : b < 4294967296) :
    Calls Tryd.prog 131 #[.int .i64 a, .int .i64 b] w fun e w' => e = .returned (.int .i64 ((a + b) % 4294967296 : Nat)) ∧ w = w' := by
  go_enter Tryd.func131, Tryd.ntmps131
  go_wp2
  go_ret
  exact ⟨ret_int (by omega), rfl⟩
set_option maxHeartbeats 400000 in
theorem turned_any (x n : Nat) (w : World) (hx : x < 4294967296) (hn : n ≤ 32) :
    Calls Tryd.prog 132 #[.int .i64 x, .int .i64 n] w fun e w' => e = .returned (.int .i64 (rotl x n : Nat)) ∧ w = w' := by
  go_enter Tryd.func132, Tryd.ntmps132
  go_wp2
  go_loop [0, 5] (fun sx si => ∃ (i X : Nat), i ≤ n ∧ sx = .int .i64 X ∧ si = .int .i64 i ∧ X ≤ 4294967295 ∧ Hid (rotl x i = X)) (fun _ si => n - (intOf si).toNat)
  case atStart => exact ⟨0, x, by omega, rfl, rfl, by omega, Lib.hid (rotl_zero x hx)⟩
  case round =>
    obtain ⟨i, X, hi, rfl, rfl, hX, HX⟩ := hrel
    by_cases hlt : i < n
    · have hs := turn_step x i hx (by omega)
      have hl := rotl_lt (s := i + 1) hx
      rw [HX.out] at hs
      rw [← hs] at hl
      have HS := Lib.hid hs
      clear hs
      go_wp2
      go_round
      case rel => exact ⟨i + 1, 2 * X % 4294967296 + 2 * X / 4294967296, by omega, by go_num, by go_num, by omega, Lib.hid HS.out.symm⟩
      case measure => simp [intOf]; omega
    · obtain rfl : i = n := by omega
      go_wp2
      go_ret
      exact ⟨ret_int (by rw [HX.out]), rfl⟩
set_option maxHeartbeats 400000 in
theorem rfall_any (x n : Nat) (w : World) (hx : x < 4294967296) (hn : n ≤ 32) :
    Calls Tryd.prog 130 #[.int .i64 x, .int .i64 n] w fun e w' => e = .returned (.int .i64 (x / 2 ^ n : Nat)) ∧ w = w' := by
  go_enter Tryd.func130, Tryd.ntmps130
  go_wp2
  go_loop [0, 5] (fun sx si => ∃ (i X : Nat), i ≤ n ∧ sx = .int .i64 X ∧ si = .int .i64 i ∧ X ≤ 4294967295 ∧ Hid (x / 2 ^ i = X)) (fun _ si => n - (intOf si).toNat)
  case atStart => exact ⟨0, x, by omega, rfl, rfl, by omega, Lib.hid (by simp)⟩
  case round =>
    obtain ⟨i, X, hi, rfl, rfl, hX, HX⟩ := hrel
    by_cases hlt : i < n
    · go_wp2
      go_round
      case rel => exact ⟨i + 1, X / 2, by omega, by go_num, by go_num, by omega, Lib.hid (by rw [Nat.pow_succ, ← Nat.div_div_eq_div_mul, HX.out])⟩
      case measure => simp [intOf]; omega
    · obtain rfl : i = n := by omega
      go_wp2
      go_ret
      exact ⟨ret_int (by rw [← HX.out]; simp), rfl⟩
theorem rback_any (x n : Nat) (w : World) (hx : x < 4294967296) (hn : n ≤ 32) :
    Calls Tryd.prog 90 #[.int .i64 x, .int .i64 n] w fun e w' => e = .returned (.int .i64 (rotl x (32 - n) : Nat)) ∧ w = w' := by
  obtain ⟨m, hm⟩ : ∃ m, 32 - n = m := ⟨_, rfl⟩
  have e1 : (32 : Int) - (n : Int) = (m : Int) := by omega
  rw [hm]
  clear hm
  go_enter Tryd.func90, Tryd.ntmps90
  go_wp2_with fail
  refine (turned_any x m _ hx (by omega)).mono ?_
  rintro e w1 ⟨rfl, rfl⟩
  go_wp2_with fail
  go_ret
  exact ⟨rfl, rfl⟩
theorem three_any (a b c : Nat) (w : World) (ha : a < 4294967296) (hb : b < 4294967296) (hc : c < 4294967296) :
    Calls Tryd.prog 88 #[.int .i64 a, .int .i64 b, .int .i64 c] w fun e w' => e = .returned (.int .i64 (xorW [a, b, c] : Nat)) ∧ w = w' := by
  have hab : a ^^^ b < 4294967296 := Nat.xor_lt_two_pow (n := 32) ha hb
  obtain ⟨y, hy⟩ : ∃ y, a ^^^ b = y := ⟨_, rfl⟩
  have HE : Hid (xorW [a, b, c] = y ^^^ c) := Lib.hid (by simp [xorW, hy])
  rw [hy] at hab
  have HY := Lib.hid hy
  clear hy
  go_enter Tryd.func88, Tryd.ntmps88
  go_wp2_with fail
  refine (unlike_any a b _ ha hb).mono ?_
  rintro e w1 ⟨rfl, rfl⟩
  rw [HY.out]
  go_wp2_with fail
  refine (unlike_any y c _ hab hc).mono ?_
  rintro e w1 ⟨rfl, rfl⟩
  go_wp2_with fail
  go_ret
  exact ⟨ret_int (by rw [HE.out]), rfl⟩
set_option maxHeartbeats 400000 in
theorem radd_any (L : List Nat) (A : Option Addr) (n c : Nat) (w : World) (hL : SlR encI 1 w w.heap.size A n (ints L)) (hn : n ≤ 140737488355328) (hw : words L) (hpos : 0 < n) :
    Calls Tryd.prog 89 #[.slice A n c] w fun e w' => e = .returned (.int .i64 (sumW L : Nat)) ∧ w = w' := by
  have HW := Lib.hid hw
  obtain ⟨hl, hA⟩ := hL
  have hl2 : L.length = n := by simpa [ints] using hl
  have HN := Lib.hid hl2
  obtain ⟨b, off, rfl, hb, hC⟩ := hA.resolve_left (by omega)
  have HC := Lib.hid hC
  clear hw hl hl2 hC hA
  go_enter Tryd.func89, Tryd.ntmps89
  go_wp2_with fail
  go_loop [3, 4] (fun s i => ∃ k : Nat, k ≤ n ∧ i = .int .i64 k ∧ s = .int .i64 (sumW (L.take k) : Nat)) (fun _ i => n - (intOf i).toNat)
  case atStart => exact ⟨0, Nat.zero_le _, rfl, rfl⟩
  case round =>
    obtain ⟨k, hk, rfl, rfl⟩ := hrel
    by_cases hlt : k < n
    · obtain ⟨x, hx⟩ : ∃ x, L[k]? = some x := ⟨L[k]'(by rw [HN.out]; exact hlt), List.getElem?_eq_getElem _⟩
      have c0 := HC.out.int (ints_get hx)
      have hxw := HW.out x (List.mem_of_getElem? hx)
      have HS := Lib.hid (sumW_snoc hx)
      have hs := sumW_lt (L.take k)
      generalize sumW (L.take k) = s at HS hs ⊢
      clear hx
      go_wp2_with fail
      refine (rsum_any s x _ hs hxw).mono ?_
      rintro e w1 ⟨rfl, rfl⟩
      go_wp2_with fail
      go_round
      case rel => exact ⟨k + 1, by omega, by go_num, by rw [HS.out]; exact congrArg (Value.int .i64) (by omega)⟩
      case measure => simp [intOf]; omega
    · obtain rfl : k = n := by omega
      go_wp2_with fail
      go_ret
      exact ⟨by rw [← HN.out, List.take_length]; rfl, rfl⟩
end Go.Proofs.YtkaaicmadknjcaaDoor
