/- member.Name: whether a text is a name. -/
import Derived.Test.YtojabnaabgbclaaBase
set_option linter.unusedVariables false
namespace Go.Proofs.Ytojabnaabgbclaa
open Go.RowKit
def okb (c : UInt8) : Bool := (decide (97 ≤ c.toNat) && decide (c.toNat ≤ 122)) || (decide (48 ≤ c.toNat) && decide (c.toNat ≤ 57))
def okUpto (s : ByteArray) (k : Nat) : Bool := (s.data.toList.take k).all okb
def nameB (s : ByteArray) : Bool := decide (1 ≤ s.size) && (decide (s.size ≤ 20) && okUpto s s.size)
theorem okUpto_zero (s : ByteArray) : okUpto s 0 = true := by simp [okUpto]
theorem okUpto_succ (s : ByteArray) (k : Nat) (h : k < s.size) : okUpto s (k+1) = (okUpto s k && okb s[k]) := by
  unfold okUpto
  rw [List.take_succ_eq_append_getElem (by simpa using h), List.all_append]
  simp; rfl
theorem okUpto_mono (s : ByteArray) (k : Nat) (h : okUpto s k = false) : okUpto s s.size = false := by
  unfold okUpto at *
  rw [List.all_eq_false] at *
  obtain ⟨x, hx, hn⟩ := h
  refine ⟨x, ?_, hn⟩
  rw [List.take_of_length_le (by simp)]
  exact List.mem_of_mem_take hx
theorem nameB_no (s : ByteArray) (k : Nat) (h : k < s.size) (hk : okb s[k] = false) : nameB s = false := by
  have := okUpto_mono s (k+1) (by rw [okUpto_succ s k h, hk]; simp)
  simp [nameB, this]

set_option maxHeartbeats 400000 in
theorem name_any (s : ByteArray) (w : World) :
    Calls Try.prog 39 #[.string s] w fun e w' => e = .returned (.bool (nameB s)) ∧ w = w' := by
  by_cases h1 : 1 ≤ s.size ∧ s.size ≤ 20
  · obtain ⟨h1, h2⟩ := h1
    go_enter Try.func39, Try.ntmps39
    go_wp2
    go_loop [16] (fun i => ∃ k : Nat, k ≤ s.size ∧ i = .int .i64 k ∧ Hid (okUpto s k = true)) (fun i => s.size - (intOf i).toNat)
    case atStart => exact ⟨0, Nat.zero_le _, rfl, okUpto_zero s⟩
    case round =>
      obtain ⟨k, hk, rfl, HK⟩ := hrel
      by_cases hlt : k < s.size
      · have hno := nameB_no s k hlt
        have HN := Lib.hid hno
        clear hno
        go_wp2
        all_goals first
          | (go_ret; exact ⟨ret_bool (HN.out (by simp only [okb]; simp at *; omega)).symm, rfl⟩)
          | (go_round
             case rel => exact ⟨k + 1, by omega, by go_num, by unfold Hid; rw [okUpto_succ s k hlt, HK.out]; simp only [okb]; simp at *; omega⟩
             case measure => simp [intOf]; omega)
      · obtain rfl : k = s.size := by omega
        go_wp2
        go_ret
        exact ⟨ret_bool (by simp [nameB, HK.out, h1, h2]), rfl⟩
  · have hn : nameB s = false := by simp [nameB]; omega
    rw [hn]
    by_cases h2 : s.size < 1
    · go_enter Try.func39, Try.ntmps39
      go_wp2
      go_ret
      exact ⟨rfl, rfl⟩
    · go_enter Try.func39, Try.ntmps39
      go_wp2
      go_ret
      exact ⟨rfl, rfl⟩
end Go.Proofs.Ytojabnaabgbclaa
