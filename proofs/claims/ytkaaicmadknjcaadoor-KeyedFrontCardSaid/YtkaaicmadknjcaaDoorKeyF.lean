/- keyed: Expand and Derive for any number; large; chapter 3's rows. -/
import Derived.Test.YtkaaicmadknjcaaDoorKeyC
import Derived.Test.YtkaaicmadknjcaaDoorKeyE
import Derived.Test.YtkaaicmadknjcaaDoorPldE
set_option linter.unusedVariables false
namespace Go.Proofs.YtkaaicmadknjcaaDoor
open Go.RowKit
theorem kexp_all (key info : ByteArray) (n : Int) (w : World) (hG : Rounds w) (hk : key.size ≤ 1000000) (hi : info.size ≤ 100000) :
    Calls Tryd.prog 37 #[.string key, .string info, .int .i64 n] w fun e w' => e = .returned (.tuple #[.string (expS key info n), .int .i64 (expE n)]) ∧ Below w.heap.size w w' := by
  by_cases h : 1 ≤ n ∧ n ≤ 8160
  · obtain ⟨m, rfl⟩ : ∃ m : Nat, n = m := ⟨n.toNat, by omega⟩
    have := kexp_in key info m w hG hk hi (by omega) (by omega)
    unfold expS expE
    rw [if_pos h, if_pos h]
    exact this
  · unfold expS expE
    rw [if_neg h, if_neg h]
    exact kexp_no key info n w (by omega)
theorem kderive_all (key salt info : ByteArray) (n : Int) (w : World) (hG : Rounds w) (hk : key.size ≤ 1000000) (hs : salt.size ≤ 1000000) (hi : info.size ≤ 100000) :
    Calls Tryd.prog 42 #[.string key, .string salt, .string info, .int .i64 n] w fun e w' => e = .returned (.tuple #[.string (expS (macB salt key) info n), .int .i64 (expE n)]) ∧ Below w.heap.size w w' := by
  have HG := Lib.hid hG
  have HM := Lib.hid (extract_any salt key w hG hs hk)
  have h2 := fun (W : World) (h : Rounds W) => kexp_all (macB salt key) info n W h (by rw [macB_size]; omega) hi
  clear hG hk hs hi
  generalize macB salt key = M at *
  generalize expS M info n = X at *
  generalize expE n = Y at *
  have H2 := Lib.hid h2
  clear h2
  go_enter Tryd.func42, Tryd.ntmps42
  go_wp2_with fail
  refine HM.out.mono ?_
  rintro e w1 ⟨rfl, hb1⟩
  go_wp2_with fail
  refine (H2.out _ (rounds_of HG.out hb1)).mono ?_
  rintro e w2 ⟨rfl, hb2⟩
  go_wp2_with fail
  go_ret2
  exact ⟨rfl, hb1.trans (hb2.mono hb1.size)⟩
def lenSum (L : List ByteArray) : Nat := (L.map ByteArray.size).sum
theorem lenSum_take {L : List ByteArray} {k : Nat} {x : ByteArray} (h : L[k]? = some x) : lenSum (L.take (k + 1)) = lenSum (L.take k) + x.size := by
  obtain ⟨hk, he⟩ := List.getElem?_eq_some_iff.1 h
  rw [List.take_succ_eq_append_getElem hk, he]
  simp [lenSum]
theorem lenSum_le (L : List ByteArray) (k : Nat) : lenSum (L.take k) ≤ lenSum L := by
  have h : lenSum L = lenSum (L.take k) + lenSum (L.drop k) := by
    unfold lenSum
    rw [← List.sum_append, ← List.map_append, List.take_append_drop]
  omega
set_option maxHeartbeats 400000 in
theorem large_any (L : List ByteArray) (A : Option Addr) (n c : Nat) (w : World) (hL : SlR encS 1 w w.heap.size A n L) (hn : n ≤ 1000) (hpos : 0 < n) (hs : lenSum L ≤ 1152921504606846976) :
    Calls Tryd.prog 36 #[.slice A n c] w fun e w' => e = .returned (.bool (decide (400 < lenSum L))) ∧ w = w' := by
  obtain ⟨rfl, hA⟩ := hL
  obtain ⟨b, off, rfl, hb, hC⟩ := hA.resolve_left (by omega)
  have HC := Lib.hid hC
  have HS := Lib.hid hs
  clear hC hA hs
  go_enter Tryd.func36, Tryd.ntmps36
  go_wp2
  go_loop [3, 4] (fun v i => ∃ k m : Nat, k ≤ L.length ∧ i = .int .i64 k ∧ v = .int .i64 m ∧ Hid (m = lenSum (L.take k))) (fun _ i => L.length - (intOf i).toNat)
  case atStart => exact ⟨0, 0, Nat.zero_le _, rfl, rfl, rfl⟩
  case round =>
    obtain ⟨k, m, hk, rfl, rfl, HM⟩ := hrel
    have hm : m ≤ 1152921504606846976 := by rw [HM.out]; exact Nat.le_trans (lenSum_le L k) HS.out
    by_cases hlt : k < L.length
    · obtain ⟨x, hx⟩ : ∃ x, L[k]? = some x := ⟨L[k], List.getElem?_eq_getElem hlt⟩
      have c0 := HC.out.str hx
      have hms : m + x.size ≤ 1152921504606846976 := by rw [HM.out, ← lenSum_take hx]; exact Nat.le_trans (lenSum_le L (k + 1)) HS.out
      have HX : Hid (m + x.size = lenSum (L.take (k + 1))) := Lib.hid (by rw [lenSum_take hx, HM.out])
      clear hx
      go_wp2
      go_round
      case rel => exact ⟨k + 1, m + x.size, by omega, by go_num, by go_num, HX⟩
      case measure => simp [intOf]; omega
    · obtain rfl : k = L.length := by omega
      have HE : Hid (m = lenSum L) := Lib.hid (by rw [HM.out, List.take_length])
      go_wp2
      go_ret
      exact ⟨ret_bool (by rw [← HE.out, decide_eq_decide]; omega), rfl⟩
theorem large2 (a b : ByteArray) (g : Nat) (W : World) (hB : Blk W g 9 #[.string a, .string b]) (hg : g < W.heap.size) (ha : a.size ≤ 140737488351232) (hb : b.size ≤ 140737488351232) :
    Calls Tryd.prog 36 #[.slice (some ⟨g, 0, none⟩) 2 2] W fun e w' => e = .returned (.bool (decide (400 < lenSum [a, b]))) ∧ W = w' :=
  large_any [a, b] _ 2 2 W (slr_strs [a, b] hB hg) (by omega) (by omega) (by simp [lenSum]; omega)
theorem large3 (a b c : ByteArray) (g : Nat) (W : World) (hB : Blk W g 9 #[.string a, .string b, .string c]) (hg : g < W.heap.size) (ha : a.size ≤ 140737488351232) (hb : b.size ≤ 140737488351232) (hc : c.size ≤ 140737488351232) :
    Calls Tryd.prog 36 #[.slice (some ⟨g, 0, none⟩) 3 3] W fun e w' => e = .returned (.bool (decide (400 < lenSum [a, b, c]))) ∧ W = w' :=
  large_any [a, b, c] _ 3 3 W (slr_strs [a, b, c] hB hg) (by omega) (by omega) (by simp [lenSum]; omega)
def jefe : ByteArray := ⟨#[74, 101, 102, 101]⟩
def whatT : ByteArray := ⟨#[119, 104, 97, 116, 32, 100, 111, 32, 121, 97, 32, 119, 97, 110, 116, 32, 102, 111, 114, 32, 110, 111, 116, 104, 105, 110, 103, 63]⟩
def macT : ByteArray := ⟨#[53, 98, 100, 99, 99, 49, 52, 54, 98, 102, 54, 48, 55, 53, 52, 101, 54, 97, 48, 52, 50, 52, 50, 54, 48, 56, 57, 53, 55, 53, 99, 55, 53, 97, 48, 48, 51, 102, 48, 56, 57, 100, 50, 55, 51, 57, 56, 51, 57, 100, 101, 99, 53, 56, 98, 57, 54, 52, 101, 99, 51, 56, 52, 51]⟩
theorem mac_row : hexB (macB jefe whatT) = macT := by decide +kernel
theorem macT_eq : (macT.toList == [53, 98, 100, 99, 99, 49, 52, 54, 98, 102, 54, 48, 55, 53, 52, 101, 54, 97, 48, 52, 50, 52, 50, 54, 48, 56, 57, 53, 55, 53, 99, 55, 53, 97, 48, 48, 51, 102, 48, 56, 57, 100, 50, 55, 51, 57, 56, 51, 57, 100, 101, 99, 53, 56, 98, 57, 54, 52, 101, 99, 51, 56, 52, 51]) = true := by rw [Lib.toList_data]; decide +kernel
theorem macB_ne_empty (key s : ByteArray) : ((macB key s).toList == ByteArray.empty.toList) = false := by
  rw [beq_eq_false_iff_ne]
  intro h
  have h2 := congrArg List.length h
  rw [Lib.toList_data, Lib.toList_data] at h2
  have h3 := macB_size key s
  have h4 : (macB key s).data.toList.length = (macB key s).size := by simp
  have h5 : ByteArray.empty.data.toList.length = 0 := rfl
  omega
set_option maxHeartbeats 1000000 in
set_option maxRecDepth 100000 in
theorem macs_any (w : World) (hG : Rounds w) : Calls Tryd.prog 34 #[] w fun e w' => e = .returned (.bool true) ∧ Below w.heap.size w w' := by
  have HG := Lib.hid hG
  have hM := fun (W : World) (h : Rounds W) => mac_any jefe whatT W h (by decide) (by decide)
  have hX := fun (W : World) => hex_any (macB jefe whatT) W (by rw [macB_size]; omega)
  have hC1 := fun (W : World) (h : Rounds W) => kcheck_any jefe whatT (macB jefe whatT) W h (by decide) (by decide)
  have hC2 := fun (W : World) (h : Rounds W) => kcheck_any jefe ByteArray.empty ByteArray.empty W h (by decide) (by decide)
  have hE1 := fun (W : World) => kexp_no ⟨#[97]⟩ ⟨#[98]⟩ 0 W (by omega)
  have hE2 := fun (W : World) => kexp_no ⟨#[97]⟩ ⟨#[98]⟩ 8161 W (by omega)
  rw [mac_row] at hX
  have hself : ((macB jefe whatT).toList == (macB jefe whatT).toList) = true := by simp
  rw [hself] at hC1
  rw [macB_ne_empty] at hC2
  generalize macB jefe whatT = M at *
  unfold jefe whatT at *
  have HM := Lib.hid hM
  have HX := Lib.hid hX
  have HC1 := Lib.hid hC1
  have HC2 := Lib.hid hC2
  have HE1 := Lib.hid hE1
  have HE2 := Lib.hid hE2
  clear hG hM hX hC1 hC2 hE1 hE2 hself
  have t1 := macT_eq
  go_enter Tryd.func34, Tryd.ntmps34
  go_wp2_with fail
  refine (HM.out _ HG.out).mono ?_
  rintro e w1 ⟨rfl, hB1⟩
  go_wp2_with fail
  refine (HE1.out _).mono ?_
  rintro e w2 ⟨rfl, hb2⟩
  have hB2 := hB1.trans (hb2.mono hB1.size)
  clear hb2 hB1
  go_wp2_with fail
  refine (HE2.out _).mono ?_
  rintro e w3 ⟨rfl, hb3⟩
  have hB3 := hB2.trans (hb3.mono hB2.size)
  clear hb3 hB2
  go_wp2_with fail
  refine (HX.out _).mono ?_
  rintro e w4 ⟨rfl, hb4⟩
  have hB4 := hB3.trans (hb4.mono hB3.size)
  clear hb4 hB3
  go_wp2_with fail
  refine (HC1.out _ (rounds_of HG.out hB4)).mono ?_
  rintro e w5 ⟨rfl, hb5⟩
  have hB5 := hB4.trans (hb5.mono hB4.size)
  clear hb5 hB4
  go_wp2_with fail
  refine (HC2.out _ (rounds_of HG.out hB5)).mono ?_
  rintro e w6 ⟨rfl, hb6⟩
  have hB6 := hB5.trans (hb6.mono hB5.size)
  clear hb6 hB5
  go_wp2_with fail
  go_ret
  exact ⟨rfl, hB6⟩
end Go.Proofs.YtkaaicmadknjcaaDoor
