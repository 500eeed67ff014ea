/- TagZeros. -/
import Derived.Test.YtpbbphjhjjpkjaaTagN
set_option linter.unusedVariables false
namespace Go.Proofs.Ytpbbphjhjjpkjaa
open Go.RowKit
set_option maxRecDepth 100000 in
theorem clamp_zeros : bytesN (clampB (manyB 0 16)) ++ [0] = zeroR := by decide +kernel
theorem step_zeros (a p : List Nat) : stepR a zeroR p = zeroR := by
  unfold stepR
  rw [zeroR_val, Nat.mul_zero, Nat.zero_mod]
  decide
theorem acc_zeros (pre : List P16) : accR zeroR pre = zeroR := by
  rcases List.eq_nil_or_concat pre with rfl | ⟨l, x, rfl⟩
  · rfl
  · rw [List.concat_eq_append, accR_snoc, step_zeros]
theorem key_front (a b : ByteArray) (h : a.size = 16) : (a ++ b).extract 0 16 = a := by
  apply ByteArray.ext
  apply Array.ext'
  have hl : a.data.toList.length = 16 := by simpa using h
  rw [ByteArray.data_extract, Array.toList_extract, List.extract_eq_take_drop, ByteArray.data_append, Array.toList_append, List.drop_zero, List.take_append_of_le_length (by omega), List.take_of_length_le (by omega)]
theorem key_back (a b : ByteArray) (h : a.size = 16) : (a ++ b).data.toList.drop 16 = b.data.toList := by
  have hl : a.data.toList.length = 16 := by simpa using h
  rw [ByteArray.data_append, Array.toList_append, List.drop_append_of_le_length (by omega), List.drop_of_length_le (by omega), List.nil_append]
theorem tag_zeros (b s : ByteArray) (h : b.size = 16) : tagB (manyB 0 16 ++ b) s = b := by
  have h2 : (manyB 0 16 ++ b).size = 32 := by rw [ByteArray.size_append, manyB_size, h]
  have h3 : keyR (manyB 0 16 ++ b) = zeroR := by rw [keyR, key_front _ _ (manyB_size 0 16), clamp_zeros]
  rw [tagB, h3, acc_zeros, tag_zero _ h2, key_back _ _ (manyB_size 0 16)]
theorem twice16 (a : UInt8) : a % 16 % 16 = a % 16 := by
  apply UInt8.toNat_inj.1
  show a.toNat % 16 % 16 = a.toNat % 16
  omega
theorem sub4_nat (a : UInt8) : (a - a % 4).toNat = a.toNat - a.toNat % 4 := by
  have h : (a % 4).toNat = a.toNat % 4 := rfl
  have hle : a % 4 ≤ a := by rw [UInt8.le_iff_toNat_le, h]; omega
  rw [UInt8.toNat_sub_of_le _ _ hle, h]
theorem twice4 (a : UInt8) : (a - a % 4) - (a - a % 4) % 4 = a - a % 4 := by
  apply UInt8.toNat_inj.1
  rw [sub4_nat, sub4_nat]
  omega
theorem clamp16 (a0 a1 a2 a3 a4 a5 a6 a7 a8 a9 a10 a11 a12 a13 a14 a15 : UInt8) : clampL [a0, a1, a2, a3, a4, a5, a6, a7, a8, a9, a10, a11, a12, a13, a14, a15] = [a0, a1, a2, a3 % 16, a4 - a4 % 4, a5, a6, a7 % 16, a8 - a8 % 4, a9, a10, a11 % 16, a12 - a12 % 4, a13, a14, a15 % 16] := by
  simp [clampL, clamp2, clamp1, m1, m2]
theorem list16 {l : List UInt8} (h : l.length = 16) : ∃ a0 a1 a2 a3 a4 a5 a6 a7 a8 a9 a10 a11 a12 a13 a14 a15, l = [a0, a1, a2, a3, a4, a5, a6, a7, a8, a9, a10, a11, a12, a13, a14, a15] := by
  obtain ⟨a0, l0, rfl⟩ := List.exists_cons_of_length_eq_add_one (n := 15) h
  have h0 : l0.length = 15 := by simpa using h
  obtain ⟨a1, l1, rfl⟩ := List.exists_cons_of_length_eq_add_one (n := 14) h0
  have h1 : l1.length = 14 := by simpa using h0
  obtain ⟨a2, l2, rfl⟩ := List.exists_cons_of_length_eq_add_one (n := 13) h1
  have h2 : l2.length = 13 := by simpa using h1
  obtain ⟨a3, l3, rfl⟩ := List.exists_cons_of_length_eq_add_one (n := 12) h2
  have h3 : l3.length = 12 := by simpa using h2
  obtain ⟨a4, l4, rfl⟩ := List.exists_cons_of_length_eq_add_one (n := 11) h3
  have h4 : l4.length = 11 := by simpa using h3
  obtain ⟨a5, l5, rfl⟩ := List.exists_cons_of_length_eq_add_one (n := 10) h4
  have h5 : l5.length = 10 := by simpa using h4
  obtain ⟨a6, l6, rfl⟩ := List.exists_cons_of_length_eq_add_one (n := 9) h5
  have h6 : l6.length = 9 := by simpa using h5
  obtain ⟨a7, l7, rfl⟩ := List.exists_cons_of_length_eq_add_one (n := 8) h6
  have h7 : l7.length = 8 := by simpa using h6
  obtain ⟨a8, l8, rfl⟩ := List.exists_cons_of_length_eq_add_one (n := 7) h7
  have h8 : l8.length = 7 := by simpa using h7
  obtain ⟨a9, l9, rfl⟩ := List.exists_cons_of_length_eq_add_one (n := 6) h8
  have h9 : l9.length = 6 := by simpa using h8
  obtain ⟨a10, l10, rfl⟩ := List.exists_cons_of_length_eq_add_one (n := 5) h9
  have h10 : l10.length = 5 := by simpa using h9
  obtain ⟨a11, l11, rfl⟩ := List.exists_cons_of_length_eq_add_one (n := 4) h10
  have h11 : l11.length = 4 := by simpa using h10
  obtain ⟨a12, l12, rfl⟩ := List.exists_cons_of_length_eq_add_one (n := 3) h11
  have h12 : l12.length = 3 := by simpa using h11
  obtain ⟨a13, l13, rfl⟩ := List.exists_cons_of_length_eq_add_one (n := 2) h12
  have h13 : l13.length = 2 := by simpa using h12
  obtain ⟨a14, l14, rfl⟩ := List.exists_cons_of_length_eq_add_one (n := 1) h13
  have h14 : l14.length = 1 := by simpa using h13
  obtain ⟨a15, l15, rfl⟩ := List.exists_cons_of_length_eq_add_one (n := 0) h14
  have h15 : l15.length = 0 := by simpa using h14
  obtain rfl := List.eq_nil_of_length_eq_zero h15
  exact ⟨a0, a1, a2, a3, a4, a5, a6, a7, a8, a9, a10, a11, a12, a13, a14, a15, rfl⟩
theorem clamp_twice (r : ByteArray) (h : r.size = 16) : clampB (clampB r) = clampB r := by
  obtain ⟨a0, a1, a2, a3, a4, a5, a6, a7, a8, a9, a10, a11, a12, a13, a14, a15, e⟩ := list16 (l := r.data.toList) (by simpa using h)
  unfold clampB
  rw [e, clamp16]
  show (⟨(clampL [a0, a1, a2, a3 % 16, a4 - a4 % 4, a5, a6, a7 % 16, a8 - a8 % 4, a9, a10, a11 % 16, a12 - a12 % 4, a13, a14, a15 % 16]).toArray⟩ : ByteArray) = _
  rw [clamp16]
  simp only [twice16, twice4]
theorem tag_clamped (r b s : ByteArray) (h : r.size = 16) (hb : b.size = 16) : tagB (clampB r ++ b) s = tagB (r ++ b) s := by
  have hc := clampB_size r h
  have e : endR (clampB r ++ b) = endR (r ++ b) := by
    unfold endR bytesN
    rw [← List.map_drop, ← List.map_drop, key_back _ _ hc, key_back _ _ h]
  rw [tagB, tagB, keyR, keyR, key_front _ _ hc, key_front _ _ h, clamp_twice r h, e]
set_option maxHeartbeats 400000 in
theorem tagZeros_any (r b s : ByteArray) (w : World) (hr : StrOk r) (hb : StrOk b) (hs : StrOk s) :
    Calls Try.prog 4 #[.string r, .string b, .string s] w fun e w' => e = .returned (.bool true) ∧ Below w.heap.size w w' := by
  unfold StrOk at hr hb hs
  by_cases hbad : r.size = 16 ∧ b.size = 16 ∧ s.size ≤ 1000
  · obtain ⟨h1, h2, h3⟩ := hbad
    have t1 : ((r.size : Int) != 16) = false := by simp; omega
    have t2 : ((b.size : Int) != 16) = false := by simp; omega
    have t3 : decide (1000 < (s.size : Int)) = false := by simp; omega
    have hm := fun W : World => many_any 0 16 W (by omega)
    have hz := manyB_size 0 16
    have hT1 := fun W : World => tag_any (manyB 0 16 ++ b) s W (by rw [ByteArray.size_append, hz, h2]) (by omega)
    rw [tag_zeros b s h2] at hT1
    have hC := fun W : World => clamp_b r W h1
    have hc := clampB_size r h1
    have hT2 := fun W : World => tag_any (r ++ b) s W (by rw [ByteArray.size_append, h1, h2]) (by omega)
    have hT3 := fun W : World => tag_any (clampB r ++ b) s W (by rw [ByteArray.size_append, hc, h2]) (by omega)
    rw [tag_clamped r b s h1 h2] at hT3
    have hC2 := fun W : World => clamp_b (clampB r) W hc
    rw [clamp_twice r h1] at hC2
    have HM := Lib.hid hm
    have H1 := Lib.hid hT1
    have HC := Lib.hid hC
    have H2 := Lib.hid hT2
    have H3 := Lib.hid hT3
    have HC2 := Lib.hid hC2
    clear hm hT1 hC hT2 hT3 hC2
    generalize tagB (r ++ b) s = T at H2 H3
    generalize clampB r = c at *
    generalize manyB 0 16 = Z at *
    go_enter Try.func4, Try.ntmps4
    go_wp2_with fail
    refine (HM.out _).mono ?_
    rintro e w1 ⟨rfl, hb1⟩
    go_wp2_with fail
    refine (H1.out _).mono ?_
    rintro e w2 ⟨rfl, hb2⟩
    have hB2 := hb1.trans (hb2.mono hb1.size)
    have hs2 := hB2.size
    clear hb1 hb2
    go_wp2_with fail
    refine (HC.out _).mono ?_
    rintro e w3 ⟨rfl, hb3⟩
    have hB3 := hB2.trans (hb3.mono hs2)
    have hs3 := hB3.size
    clear hb3
    go_wp2_with fail
    refine (H2.out _).mono ?_
    rintro e w4 ⟨rfl, hb4⟩
    have hB4 := hB3.trans (hb4.mono hs3)
    have hs4 := hB4.size
    clear hb4
    go_wp2_with fail
    refine (H3.out _).mono ?_
    rintro e w5 ⟨rfl, hb5⟩
    have hB5 := hB4.trans (hb5.mono hs4)
    have hs5 := hB5.size
    clear hb5
    go_wp2_with fail
    refine (HC2.out _).mono ?_
    rintro e w6 ⟨rfl, hb6⟩
    have hB6 := hB5.trans (hb6.mono hs5)
    have hs6 := hB6.size
    clear hb6
    go_wp2_with fail
    refine (tags_any _).mono ?_
    rintro e w7 ⟨rfl, hb7⟩
    go_wp2_with fail
    go_ret
    exact ⟨rfl, hB6.trans (hb7.mono hs6)⟩
  · by_cases h1 : r.size = 16
    · have t1 : ((r.size : Int) != 16) = false := by simp; omega
      by_cases h2 : b.size = 16
      · have t2 : ((b.size : Int) != 16) = false := by simp; omega
        have t3 : decide (1000 < (s.size : Int)) = true := by simp; omega
        clear hbad h1 h2
        go_enter Try.func4, Try.ntmps4
        go_wp2_with fail
        refine (tags_any _).mono ?_
        rintro e w3 ⟨rfl, hb3⟩
        go_wp2_with fail
        go_ret
        exact ⟨rfl, hb3⟩
      · have t2 : ((b.size : Int) != 16) = true := by simp; omega
        clear hbad h1 h2
        go_enter Try.func4, Try.ntmps4
        go_wp2_with fail
        refine (tags_any _).mono ?_
        rintro e w3 ⟨rfl, hb3⟩
        go_wp2_with fail
        go_ret
        exact ⟨rfl, hb3⟩
    · have t1 : ((r.size : Int) != 16) = true := by simp; omega
      clear hbad h1
      go_enter Try.func4, Try.ntmps4
      go_wp2_with fail
      refine (tags_any _).mono ?_
      rintro e w3 ⟨rfl, hb3⟩
      go_wp2_with fail
      go_ret
      exact ⟨rfl, hb3⟩
end Go.Proofs.Ytpbbphjhjjpkjaa
