/- chapter 2's rows. -/
import Derived.Test.YtkaaicmadknjcaaDoorDigE
import Derived.Test.YtkaaicmadknjcaaDoorHex
set_option linter.unusedVariables false
namespace Go.Proofs.YtkaaicmadknjcaaDoor
open Go.RowKit
def row1T : ByteArray := ⟨#[101, 51, 98, 48, 99, 52, 52, 50, 57, 56, 102, 99, 49, 99, 49, 52, 57, 97, 102, 98, 102, 52, 99, 56, 57, 57, 54, 102, 98, 57, 50, 52, 50, 55, 97, 101, 52, 49, 101, 52, 54, 52, 57, 98, 57, 51, 52, 99, 97, 52, 57, 53, 57, 57, 49, 98, 55, 56, 53, 50, 98, 56, 53, 53]⟩
def row2T : ByteArray := ⟨#[98, 97, 55, 56, 49, 54, 98, 102, 56, 102, 48, 49, 99, 102, 101, 97, 52, 49, 52, 49, 52, 48, 100, 101, 53, 100, 97, 101, 50, 50, 50, 51, 98, 48, 48, 51, 54, 49, 97, 51, 57, 54, 49, 55, 55, 97, 57, 99, 98, 52, 49, 48, 102, 102, 54, 49, 102, 50, 48, 48, 49, 53, 97, 100]⟩
theorem row1 : hexB (sumS ⟨#[]⟩) = row1T := by decide +kernel
theorem row2 : hexB (sumS ⟨#[97, 98, 99]⟩) = row2T := by decide +kernel
theorem row1_eq : (row1T.toList == [101, 51, 98, 48, 99, 52, 52, 50, 57, 56, 102, 99, 49, 99, 49, 52, 57, 97, 102, 98, 102, 52, 99, 56, 57, 57, 54, 102, 98, 57, 50, 52, 50, 55, 97, 101, 52, 49, 101, 52, 54, 52, 57, 98, 57, 51, 52, 99, 97, 52, 57, 53, 57, 57, 49, 98, 55, 56, 53, 50, 98, 56, 53, 53]) = true := by rw [Lib.toList_data]; decide +kernel
theorem row2_eq : (row2T.toList == [98, 97, 55, 56, 49, 54, 98, 102, 56, 102, 48, 49, 99, 102, 101, 97, 52, 49, 52, 49, 52, 48, 100, 101, 53, 100, 97, 101, 50, 50, 50, 51, 98, 48, 48, 51, 54, 49, 97, 51, 57, 54, 49, 55, 55, 97, 57, 99, 98, 52, 49, 48, 102, 102, 54, 49, 102, 50, 48, 48, 49, 53, 97, 100]) = true := by rw [Lib.toList_data]; decide +kernel
theorem eq_data (a b : ByteArray) : (a.toList == b.toList) = (a.data.toList == b.data.toList) := by rw [Lib.toList_data, Lib.toList_data]
set_option maxHeartbeats 400000 in
set_option maxRecDepth 100000 in
theorem sums_any (w : World) (hG : Rounds w) : Calls Tryd.prog 26 #[] w fun e w' => e = .returned (.bool true) ∧ Below w.heap.size w w' := by
  have HG := Lib.hid hG
  clear hG
  go_enter Tryd.func26, Tryd.ntmps26
  go_wp2_with fail
  refine (sum_in ⟨#[]⟩ _ (by decide) HG.out).mono ?_
  rintro e w1 ⟨rfl, hb1⟩
  have hG1 := rounds_of HG.out hb1
  have HG1 := Lib.hid hG1
  clear hG1
  go_wp2_with fail
  refine (hex_any (sumS ⟨#[]⟩) _ (by rw [sumS_size]; omega)).mono ?_
  rintro e w2 ⟨rfl, hb2⟩
  rw [row1]
  have HG2 := Lib.hid (rounds_of HG1.out hb2)
  have hB2 := hb1.trans (hb2.mono hb1.size)
  clear hb1 hb2
  go_wp2_with fail
  refine (sum_in ⟨#[97, 98, 99]⟩ _ (by decide) HG2.out).mono ?_
  rintro e w3 ⟨rfl, hb3⟩
  go_wp2_with fail
  refine (hex_any (sumS ⟨#[97, 98, 99]⟩) _ (by rw [sumS_size]; omega)).mono ?_
  rintro e w4 ⟨rfl, hb4⟩
  rw [row2]
  have hB3 := hB2.trans (hb3.mono hB2.size)
  have hB4 := hB3.trans (hb4.mono hB3.size)
  clear hb3 hb4 hB2 hB3
  have t1 := row1_eq
  have t2 := row2_eq
  go_wp2_with fail
  refine (same_any ⟨#[97]⟩ ⟨#[97]⟩ _).mono ?_
  rintro e w5 ⟨rfl, rfl⟩
  rw [eq_data, show ((⟨#[97]⟩ : ByteArray).data.toList == (⟨#[97]⟩ : ByteArray).data.toList) = true from rfl]
  go_wp2_with fail
  refine (same_any ⟨#[97]⟩ ⟨#[97, 98]⟩ _).mono ?_
  rintro e w5 ⟨rfl, rfl⟩
  rw [eq_data, show ((⟨#[97]⟩ : ByteArray).data.toList == (⟨#[97, 98]⟩ : ByteArray).data.toList) = false from rfl]
  go_wp2_with fail
  go_ret
  exact ⟨rfl, hB4⟩
end Go.Proofs.YtkaaicmadknjcaaDoor
