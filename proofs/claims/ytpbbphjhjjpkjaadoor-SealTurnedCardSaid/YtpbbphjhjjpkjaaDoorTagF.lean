/- tag: isRow, digitsOf. -/
import Derived.Test.YtpbbphjhjjpkjaaDoorTagE
set_option linter.unusedVariables false
namespace Go.Proofs.YtpbbphjhjjpkjaaDoor
open Go.RowKit
theorem SlC.at_ {w : World} {b off : Nat} {L : List Int} (h : SlC encI 1 w b off L) {k : Nat} {s : Int} (hl : L[k]? = some s) {o : Nat} (ho : o = off + k) : w.cell? ⟨b, o, none⟩ = some (.int .i64 s) := by subst ho; exact h.int hl
set_option maxHeartbeats 1000000 in
set_option maxRecDepth 100000 in
theorem isrow_good (D : List Nat) (A : Option Addr) (c : Nat) (w : World) (hS : SlR encI 1 w w.heap.size A 17 (ints D)) (hD : Digits D) (hc : 17 ≤ c) (hc2 : c ≤ 9223372036854775807) :
    Calls Tryd.prog 29 #[.slice A 17 c] w fun e w' => e = .returned (.bool true) ∧ w = w' := by
  obtain ⟨hl, hA⟩ := hS
  obtain ⟨b, off, rfl, hb, hC⟩ := hA.resolve_left (by omega)
  have hl2 := hD.1
  have hlast := digits_last D hD
  have hlow := digits_low D hD
  have HC := Lib.hid hC
  have HD := Lib.hid hD
  have HW := Lib.hid hlow
  have hz := getD_at (L := D) (k := 16) (by omega)
  obtain ⟨z, hz'⟩ : ∃ z, D.getD 16 0 = z := ⟨_, rfl⟩
  rw [hz'] at hz hlast
  have cz := hC.at_ (ints_get hz) (o := off + 16) rfl
  have h0 := getD_at (L := D) (k := 0) (by omega)
  have c0 := hC.at_ (ints_get h0) (o := off) rfl
  have HZ := Lib.hid hz'
  clear hl hA hC hD hl2 hlow hz hz' h0
  go_enter Tryd.func29, Tryd.ntmps29
  go_wp2_with fail
  go_loop [12] (fun i => ∃ k : Nat, k ≤ 17 ∧ i = .int .i64 k) (fun i => 17 - (intOf i).toNat)
  case atStart => exact ⟨0, by omega, rfl⟩
  case round =>
    obtain ⟨k, hk, rfl⟩ := hrel
    by_cases hlt : k < 17
    · obtain ⟨x, hx⟩ : ∃ x, D[k]? = some x := ⟨_, List.getElem?_eq_getElem (by rw [HD.out.1]; exact hlt)⟩
      have hx1 := HD.out.2.1 x (List.mem_of_getElem? hx)
      have cx := HC.out.int (ints_get hx)
      have t1 : decide ((x : Int) < 0) = false := by simp
      have t2 : decide (255 < (x : Int)) = false := by simp; omega
      clear hx
      go_wp2_with fail
      go_round
      case rel => exact ⟨k + 1, by omega, by go_num⟩
      case measure => simp [intOf]; omega
    · obtain rfl : k = 17 := by omega
      by_cases h3 : z < 3
      · go_wp2_with fail
        go_ret
        exact ⟨rfl, rfl⟩
      · obtain rfl : z = 3 := by omega
        go_wp2_with fail
        go_loop [34] (fun i => ∃ k : Nat, k ≤ 15 ∧ i = .int .i64 k ∧ Hid (∀ j, j < k → 255 ≤ D.getD (j + 1) 0)) (fun i => 15 - (intOf i).toNat)
        case atStart => exact ⟨0, by omega, rfl, Lib.hid (fun j hj => by omega)⟩
        case round =>
          obtain ⟨k, hk, rfl, HU⟩ := hrel
          by_cases hlt : k < 15
          · have hx := getD_at (L := D) (k := k + 1) (by rw [HD.out.1]; omega)
            obtain ⟨x, hx'⟩ : ∃ x, D.getD (k + 1) 0 = x := ⟨_, rfl⟩
            rw [hx'] at hx
            have cx := HC.out.at_ (ints_get hx) (o := off + 1 + k) (by omega)
            by_cases h255 : x < 255
            · have t : decide ((x : Int) < 255) = true := by simp; omega
              clear hx hx' h255
              go_wp2_with fail
              go_ret
              exact ⟨rfl, rfl⟩
            · have t : decide ((x : Int) < 255) = false := by simp; omega
              have HX : Hid (∀ j, j < k + 1 → 255 ≤ D.getD (j + 1) 0) := Lib.hid (fun j hj => by
                by_cases e : j = k
                · subst e; rw [hx']; omega
                · exact HU.out j (by omega))
              clear hx hx' h255
              go_wp2_with fail
              go_round
              case rel => exact ⟨k + 1, by omega, by go_num, HX⟩
              case measure => simp [intOf]; omega
          · obtain rfl : k = 15 := by omega
            have hlo := HW.out HZ.out HU.out
            have t : decide (((D.getD 0 0 : Nat) : Int) < 251) = true := by simp only [decide_eq_true_eq]; omega
            generalize D.getD 0 0 = y at c0 t hlo
            go_wp2_with fail
            go_ret
            exact ⟨rfl, rfl⟩
end Go.Proofs.YtpbbphjhjjpkjaaDoor
