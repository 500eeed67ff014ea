/- the reference's Pad. -/
import Derived.Test.YtkaaicmadknjcaaDoorRefC
set_option linter.unusedVariables false
namespace Go.Proofs.YtkaaicmadknjcaaDoor
open Go.RowKit
theorem rpad_no (n : Int) (w : World) (h : n < 0 ∨ 1000000000 < n) :
    Calls Tryd.prog 25 #[.int .i64 n] w fun e w' => e = .returned (.tuple #[.string ByteArray.empty, .bool false]) ∧ w = w' := by
  rcases h with h | h
  · go_enter Tryd.func25, Tryd.ntmps25
    go_wp2
    go_ret2
    exact ⟨rfl, rfl⟩
  · have h0 : 0 ≤ n := by omega
    go_enter Tryd.func25, Tryd.ntmps25
    go_wp2
    go_ret2
    exact ⟨rfl, rfl⟩
set_option maxHeartbeats 400000 in
set_option maxRecDepth 100000 in
theorem rpad_in (n : Nat) (w : World) (h : n ≤ 1000000000) :
    Calls Tryd.prog 25 #[.int .i64 n] w fun e w' => e = .returned (.tuple #[.string (padB n), .bool true]) ∧ Below w.heap.size w w' := by
  obtain ⟨z, hz⟩ : ∃ z, padZ n = z := ⟨_, rfl⟩
  have hz2 : z < 64 := by rw [← hz, padZ]; omega
  have hz3 : (n + z + 9) % 64 = 0 := by rw [← hz, padZ]; omega
  have hz4 : ∀ k, k < z → (n + k + 9) % 64 ≠ 0 := by intro k hk; rw [← hz, padZ] at hk; omega
  have HZ := Lib.hid (And.intro hz (And.intro hz3 hz4))
  clear hz hz3 hz4
  go_enter Tryd.func25, Tryd.ntmps25
  go_wp2_with fail
  have hR0 : BRow (w.alloc (.cells #[.int .u8 128] 5)) w.heap.size (.slice (some ⟨w.heap.size, 0, none⟩) 1 1) (128 :: List.replicate 0 0) := brow_new w (Nat.le_refl _) [128] (Blk.new w _ _) (by decide)
  go_loopw [4] (fun v wr => ∃ (k m : Nat) (A : Option Addr) (c : Nat), v = .slice A m c ∧ Hid (m = k + 1) ∧ k ≤ z ∧ Hid (BRow wr w.heap.size (.slice A m c) (128 :: List.replicate k 0)) ∧ Below w.heap.size w wr) (fun v _ => 100 - lenV v)
  case atStart => exact ⟨0, 1, _, _, rfl, rfl, by omega, hR0, by go_grown⟩
  case round =>
    obtain ⟨k, m, A, c, rfl, HM, hk, HR, hB⟩ := hrel
    have hm1 : m ≤ 64 := by have := HM.out; omega
    clear hR0
    have hsz := hB.size
    by_cases hlt : k < z
    · have t := HZ.out.2.2 k hlt
      have t1 : ((n : Int) + (m : Int) + 8) % 64 ≠ 0 := by have := HM.out; omega
      have t2 : (((n : Int) + (m : Int) + 8) % 64 != 0) = true := by simpa using t1
      clear t t1
      have HE : Hid ((128 :: List.replicate k 0) ++ [0] = (128 :: List.replicate (k + 1) 0 : List UInt8)) := Lib.hid (by rw [List.replicate_succ', List.cons_append])
      have HL : Hid ((128 :: List.replicate k 0 : List UInt8).length = m) := Lib.hid (by have := HM.out; simp; omega)
      go_wp2_with (at_builtin; go_loud (refine wpList_append_byte rfl (.tmp 21) (.tmp 22) rfl rfl (brow_alloc HR.out _) wr.heap.size 0 _ rfl (Blk.new wr _ _) rfl m HL.out (128 :: List.replicate (k + 1) 0) HE.out (by omega) (by simp; omega) ?_); intro A1 c1 w1 HR1 hg1 hb1)
      clear hg1
      go_roundw
      case rel => exact ⟨k + 1, m + 1, A1, c1, rfl, Lib.hid (by rw [HM.out]), by omega, HR1, Below.trans (by go_grown) hb1⟩
      case measure => simp [lenV]; omega
    · obtain rfl : k = z := by omega
      have t := HZ.out.2.1
      have t1 : ((n : Int) + (m : Int) + 8) % 64 = 0 := by have := HM.out; omega
      have t2 : (((n : Int) + (m : Int) + 8) % 64 != 0) = false := by simpa using t1
      have HR0 : Hid (BRow wr w.heap.size (.slice A m c) (padL n 0)) := by
        refine Lib.hid ?_
        unfold padL
        rw [HZ.out.1]
        simpa using HR.out
      clear t t1 HR
      go_wp2_with fail
      clear t2
      obtain ⟨wo, rfl⟩ : ∃ wo : World, wo = wr := ⟨_, rfl⟩
      go_loopw [4, 5, 6] (fun v dv iv wr => ∃ (i j D : Nat) (A : Option Addr) (c : Nat), i ≤ 8 ∧ iv = .int .i64 i ∧ dv = .int .i64 D ∧ D ≤ 72057594037927936 ∧ Hid (i < 8 → D = 2 ^ (56 - 8 * i)) ∧ v = .slice A j c ∧ Hid (j = m + i) ∧ Hid (BRow wr w.heap.size (.slice A j c) (padL n i)) ∧ Below w.heap.size w wr) (fun _ _ iv _ => 8 - (intOf iv).toNat)
      case atStart => exact ⟨0, m, 72057594037927936, A, c, by omega, rfl, rfl, by omega, Lib.hid (fun _ => rfl), rfl, rfl, HR0, hB⟩
      case round =>
        obtain ⟨i, j, D, A, c, hi, rfl, rfl, hD, HD, rfl, HJ, HR, hB⟩ := hrel
        have hj2 : j ≤ 72 := by have := HJ.out; omega
        have hsz := hB.size
        by_cases hlt : i < 8
        · have hDv := HD.out hlt
          have hD0 : 0 < D := by rw [hDv]; exact Nat.two_pow_pos _
          have HV : Hid (Value.int .u8 (((8 * (n : Int)) / (D : Int)).tmod 256 % 256) = vB (UInt8.ofNat (8 * n / 2 ^ (56 - 8 * i) % 256))) := Lib.hid (by rw [Int.tmod_eq_emod_of_nonneg (Int.ediv_nonneg (by omega) (by omega)), Int.emod_emod, ofNat_mod, ← hDv]; simp)
          have HD1 : Hid (i + 1 < 8 → D / 256 = 2 ^ (56 - 8 * (i + 1))) := Lib.hid (fun h => by
            rw [hDv, show 56 - 8 * i = 56 - 8 * (i + 1) + 8 by omega, Nat.pow_add]
            exact Nat.mul_div_cancel _ (by decide))
          have hd1 : ((D : Int) == 0) = false := by simp; omega
          clear hDv
          have hlen : (padL n i).length = j := by have := HJ.out; have := HM.out; unfold padL; rw [HZ.out.1]; simp; omega
          have HL := Lib.hid hlen
          have HE : Hid (padL n i ++ [UInt8.ofNat (8 * n / 2 ^ (56 - 8 * i) % 256)] = padL n (i + 1)) := Lib.hid (by unfold padL; rw [List.range_succ]; simp)
          clear hlen
          go_wp2_with (at_builtin; go_loud (refine wpList_append_byte rfl (.tmp 28) (.tmp 35) rfl rfl (brow_alloc HR.out _) wr.heap.size (UInt8.ofNat (8 * n / 2 ^ (56 - 8 * i) % 256)) _ rfl (Blk.new wr _ _) HV.out j HL.out (padL n (i + 1)) HE.out (by omega) (by simp; omega) ?_); intro A1 c1 w1 HR1 hg1 hb1)
          clear hg1
          go_roundw
          case rel => exact ⟨i + 1, j + 1, D / 256, A1, c1, by omega, by go_num, by go_num, by omega, HD1, rfl, Lib.hid (by rw [HJ.out]; rfl), HR1, Below.trans (by go_grown) hb1⟩
          case measure => simp [intOf]; omega
        · obtain rfl : i = 8 := by omega
          have hj8 := HJ.out
          have hm8 := HM.out
          have hlen : (padL n 8).length = j := by unfold padL; rw [HZ.out.1]; simp; omega
          have hcv := run_brow 40 9 5 Tryd.underlying40 Tryd.underlying5 Tryd.underlying9 hlen HR.out
          clear hlen hj8 hm8
          go_wp2
          go_ret2
          exact ⟨rfl, hB⟩
end Go.Proofs.YtkaaicmadknjcaaDoor
