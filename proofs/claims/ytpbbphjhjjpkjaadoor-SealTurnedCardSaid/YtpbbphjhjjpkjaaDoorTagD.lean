/- tag: digits, read. -/
import Derived.Test.YtpbbphjhjjpkjaaDoorTagC
set_option linter.unusedVariables false
namespace Go.Proofs.YtpbbphjhjjpkjaaDoor
open Go.RowKit
theorem mask8 (a : Nat) (ha : a < 9223372036854775808) : bits .and .i64 (a : Int) 255 = ((a % 256 : Nat) : Int) := by
  have := i64_and_nat a 255 ha (by omega)
  rw [show ((255 : Nat) : Int) = 255 from rfl] at this
  rw [this]
  have h2 : a &&& 255 = a % 256 := Nat.and_two_pow_sub_one_eq_mod a 8
  rw [h2]
theorem tor_high (a b k : Nat) (h : b < 2 ^ k) : a * 2 ^ k ||| b = a * 2 ^ k + b := by
  rw [← Nat.shiftLeft_eq, ← Nat.shiftLeft_add_eq_or_of_lt h]
theorem pow_cast (b : Nat) : ((2 : Int) ^ b) = ((2 ^ b : Nat) : Int) := by simp
theorem wrap64_nat (n : Nat) (h : n < 9223372036854775808) : wrap64 (n : Int) = n := by
  unfold wrap64; omega
theorem dig_val (x y b : Nat) (hx : x < 67108864) (hy : y < 67108864) (hb : b < 26) :
    bits .and .i64 (bits .or .i64 ((x : Int) / 2 ^ b) (wrap64 ((y : Int) * 2 ^ (26 - b)))) 255 = (((x / 2 ^ b + y * 2 ^ (26 - b)) % 256 : Nat) : Int) := by
  have hp : 2 ^ (26 - b) * 2 ^ b = 67108864 := by rw [← Nat.pow_add, show 26 - b + b = 26 by omega]
  have h1 : x / 2 ^ b < 2 ^ (26 - b) := by rw [Nat.div_lt_iff_lt_mul (Nat.two_pow_pos _), hp]; exact hx
  have h2 : 2 ^ (26 - b) ≤ 67108864 := Nat.pow_le_pow_right (n := 2) (by omega) (show 26 - b ≤ 26 by omega)
  have h3 : y * 2 ^ (26 - b) ≤ 67108864 * 67108864 := Nat.mul_le_mul (by omega) h2
  have e1 : (x : Int) / 2 ^ b = ((x / 2 ^ b : Nat) : Int) := by rw [pow_cast]; simp
  have e2 : (y : Int) * 2 ^ (26 - b) = ((y * 2 ^ (26 - b) : Nat) : Int) := by rw [pow_cast]; simp
  rw [e1, e2, wrap64_nat _ (by omega), i64_or_nat _ _ (by omega) (by omega), Nat.or_comm, tor_high _ _ _ h1, mask8 _ (by omega), Nat.add_comm]
theorem dig_val4 (x b : Nat) (hx : x < 67108864) : bits .and .i64 ((x : Int) / 2 ^ b) 255 = ((x / 2 ^ b % 256 : Nat) : Int) := by
  have e1 : (x : Int) / 2 ^ b = ((x / 2 ^ b : Nat) : Int) := by rw [pow_cast]; simp
  have := Nat.div_le_self x (2 ^ b)
  rw [e1, mask8 _ (by omega)]
theorem make17 (w : World) : (Instr.makeSlice 42 (.int .i64 17) (.int .i64 17)).run Tryd.prog w = .ok (.slice (some ⟨w.heap.size, 0, none⟩) 17 17) (w.alloc (.cells (List.replicate 17 (Value.int .i64 0)).toArray 3)) :=
  run_mkrow (P := Tryd.prog) 42 3 (.int .i64 0) 8 Tryd.underlying42 int_info3 rfl 17 (by omega) (by omega) w
def digTo (V k : Nat) : List Nat := (rowOf V).take k ++ List.replicate (17 - k) 0
theorem digTo_len (V k : Nat) (h : k ≤ 17) : (digTo V k).length = 17 := by simp [digTo, rowOf_len]; omega
theorem digTo_step (V k : Nat) (h : k < 17) : (digTo V k).set k (V / 256 ^ k % 256) = digTo V (k + 1) := by
  have hl : ((rowOf V).take k).length = k := by rw [List.length_take, rowOf_len]; omega
  have hg : (rowOf V)[k]? = some (V / 256 ^ k % 256) := by simp [rowOf, h]
  unfold digTo
  rw [List.set_append_right _ _ (by omega), hl, Nat.sub_self, show 17 - k = (17 - (k + 1)) + 1 by omega, List.replicate_succ, List.set_cons_zero, List.take_add_one, hg]
  simp
theorem digTo_end (V : Nat) : digTo V 17 = rowOf V := by
  unfold digTo
  rw [List.take_of_length_le (by rw [rowOf_len]; omega)]
  simp
theorem parts_get (V k : Nat) (hk : k < 5) : (partsOf V)[k]? = some (V / 67108864 ^ k % 67108864) := by simp [partsOf, hk]
set_option maxHeartbeats 1000000 in
theorem digits_any (V : Nat) (w : World) (hV : V < 1361129467683753853853498429727072845824) :
    Calls Tryd.prog 34 #[tnumV (partsOf V)] w fun e w' => ∃ g, e = .returned (.slice (some ⟨g, 0, none⟩) 17 17) ∧ Row vN w' g 3 (rowOf V) ∧ w.heap.size ≤ g ∧ Below w.heap.size w w' := by
  have HV := Lib.hid hV
  obtain ⟨L, hL⟩ : ∃ L, partsOf V = L := ⟨_, rfl⟩
  rw [hL]
  have HL := Lib.hid hL
  have hmk := make17
  clear hL hV
  unfold tnumV
  go_enter Tryd.func34, Tryd.ntmps34
  go_wp2_with fail
  clear hmk
  have h0 : Hid (Row vN ((w.alloc (.cells (L.map vN).toArray 63)).alloc (.cells (List.replicate 17 (Value.int .i64 0)).toArray 3)) (w.heap.size + 1) 3 (digTo V 0)) := Lib.hid (Blk.new_at (by simp) _ _)
  have hP0 : Hid (Row vN ((w.alloc (.cells (L.map vN).toArray 63)).alloc (.cells (List.replicate 17 (Value.int .i64 0)).toArray 3)) w.heap.size 63 L) := Lib.hid ((Blk.new w _ _).alloc _)
  go_loopw [11] (fun iv wr => ∃ i : Nat, i ≤ 17 ∧ iv = .int .i64 i ∧ Hid (Row vN wr (w.heap.size + 1) 3 (digTo V i)) ∧ Hid (Row vN wr w.heap.size 63 L) ∧ Below w.heap.size w wr) (fun iv _ => 17 - (intOf iv).toNat)
  case atStart => exact ⟨0, by omega, rfl, h0, hP0, by go_grown⟩
  case round =>
    clear h0 hP0
    obtain ⟨i, hi, rfl, HR, HP, hB⟩ := hrel
    by_cases hlt : i < 17
    · have hd := digit_at V i hlt HV.out
      obtain ⟨k, hk⟩ : ∃ k, 8 * i / 26 = k := ⟨_, rfl⟩
      obtain ⟨b, hb⟩ : ∃ b, 8 * i % 26 = b := ⟨_, rfl⟩
      have hk5 : k < 5 := by omega
      have hb26 : b < 26 := by omega
      rw [hk, hb] at hd
      have hx := parts_get V k hk5
      rw [HL.out] at hx
      have hx1 : V / 67108864 ^ k % 67108864 < 67108864 := Nat.mod_lt _ (by omega)
      generalize V / 67108864 ^ k % 67108864 = x at hx hx1 hd
      have cx := HP.out.get hx
      have hz := getD_at (L := digTo V i) (k := i) (by rw [digTo_len V i hi]; exact hlt)
      have cz := HR.out.get hz
      have fz := HR.out.free i
      simp only [vN] at cx cz
      have ek : (8 * (i : Int)) / 26 = (k : Int) := by omega
      have eb : (8 * (i : Int)) % 26 = (b : Int) := by omega
      have i0 : (0 : Int) ≤ i := by omega
      have i1 : (i : Int) < 17 := by omega
      have k0 : (0 : Int) ≤ k := by omega
      have k1 : (k : Int) < 5 := by omega
      have b0 : (0 : Int) ≤ b := by omega
      have b1 : (b : Int) < 26 := by omega
      have hgl := HR.out.lt
      by_cases hk4 : k < 4
      · have tk : decide ((k : Int) < 4) = true := by simp; omega
        rw [if_pos hk4] at hd
        have hy := parts_get V (k + 1) (by omega)
        rw [HL.out] at hy
        have hy1 : V / 67108864 ^ (k + 1) % 67108864 < 67108864 := Nat.mod_lt _ (by omega)
        generalize V / 67108864 ^ (k + 1) % 67108864 = y at hy hy1 hd
        obtain ⟨k', hk'⟩ : ∃ k', k + 1 = k' := ⟨_, rfl⟩
        rw [hk'] at hy
        have cy := HP.out.get hy
        simp only [vN] at cy
        have ek' : (k : Int) + 1 = (k' : Int) := by omega
        have k'0 : (0 : Int) ≤ k' := by omega
        have k'1 : (k' : Int) < 5 := by omega
        have HD := Lib.hid hd
        clear hd hx hy hz hk hb hk4 hk'
        go_wp2_with fail
        go_roundw
        case rel =>
          refine ⟨i + 1, by omega, by go_num, Lib.hid ?_, Lib.hid (HP.out.far (show w.heap.size ≠ w.heap.size + 1 by omega) _), by go_grown⟩
          rw [dig_val x y b hx1 hy1 hb26, ← HD.out, ← digTo_step V i hlt]
          exact HR.out.set_ i _
        case measure => simp [intOf]; omega
      · have tk : decide ((k : Int) < 4) = false := by simp; omega
        rw [if_neg hk4, Nat.add_zero] at hd
        have HD := Lib.hid hd
        clear hd hx hz hk hb hk4
        go_wp2_with fail
        go_roundw
        case rel =>
          refine ⟨i + 1, by omega, by go_num, Lib.hid ?_, Lib.hid (HP.out.far (show w.heap.size ≠ w.heap.size + 1 by omega) _), by go_grown⟩
          rw [dig_val4 x b hx1, ← HD.out, ← digTo_step V i hlt]
          exact HR.out.set_ i _
        case measure => simp [intOf]; omega
    · obtain rfl : i = 17 := by omega
      have HE := Lib.hid (digTo_end V)
      go_wp2_with fail
      go_ret
      exact ⟨_, rfl, by have := HR.out; rw [HE.out] at this; exact this, by omega, hB⟩
end Go.Proofs.YtpbbphjhjjpkjaaDoor
