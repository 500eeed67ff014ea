/- the reference's Hex; digest.Same. -/
import Derived.Test.YtbgohcedakpnbaaDoorDigB
import Derived.IntWalk
set_option linter.unusedVariables false
namespace Go.Proofs.YtbgohcedakpnbaaDoor
open Go.RowKit
def hexB (s : ByteArray) : ByteArray := ⟨(hexL s.data.toList).toArray⟩
def digs : ByteArray := ⟨#[48, 49, 50, 51, 52, 53, 54, 55, 56, 57, 97, 98, 99, 100, 101, 102]⟩
theorem digs_at : ∀ a, a < 16 → digs.extract a (a + 1) = ⟨#[hexD a]⟩ := by decide +kernel
theorem same_any (a b : ByteArray) (w : World) : Calls Tryd.prog 89 #[.string a, .string b] w fun e w' => e = .returned (.bool (a.toList == b.toList)) ∧ w = w' := by
  go_enter Tryd.func89, Tryd.ntmps89
  go_wp2
  go_ret
  exact ⟨rfl, rfl⟩
theorem hex_step (l : List UInt8) (c : UInt8) (o : ByteArray) (h : o = ⟨(hexL l).toArray⟩) : o ++ digs.extract (c.toNat / 16) (c.toNat / 16 + 1) ++ digs.extract (c.toNat % 16) (c.toNat % 16 + 1) = ⟨(hexL (l ++ [c])).toArray⟩ := by
  have h1 := UInt8.toNat_lt c
  rw [digs_at _ (by omega), digs_at _ (by omega), h]
  apply ByteArray.ext
  rw [ByteArray.data_append, ByteArray.data_append]
  simp [hexL]
theorem take_snoc (s : ByteArray) (k : Nat) (h : k < s.size) : s.data.toList.take (k + 1) = s.data.toList.take k ++ [s[k]] := by
  rw [List.take_succ_eq_append_getElem (by simpa using h)]; rfl
set_option maxHeartbeats 400000 in
set_option maxRecDepth 100000 in
theorem hex_any (s : ByteArray) (w : World) (hs : s.size ≤ 1000) :
    Calls Tryd.prog 35 #[.string s] w fun e w' => e = .returned (.string (hexB s)) ∧ Below w.heap.size w w' := by
  go_enter Tryd.func35, Tryd.ntmps35
  go_wp2
  go_loopw [4, 5] (fun ov iv wr => ∃ (k : Nat) (o : ByteArray), k ≤ s.size ∧ iv = .int .i64 k ∧ ov = .string o ∧ Hid (o = ⟨(hexL (s.data.toList.take k)).toArray⟩) ∧ Hid (o.size = 2 * k) ∧ Below w.heap.size w wr) (fun _ iv _ => s.size - (intOf iv).toNat)
  case atStart => exact ⟨0, _, Nat.zero_le _, rfl, rfl, rfl, rfl, Below.refl _ _⟩
  case round =>
    obtain ⟨k, o, hk, rfl, rfl, HO, HN, hB⟩ := hrel
    by_cases hlt : k < s.size
    · have hc := UInt8.toNat_lt s[k]
      obtain ⟨a, ha⟩ : ∃ a, s[k].toNat / 16 = a := ⟨_, rfl⟩
      obtain ⟨b, hb⟩ : ∃ b, s[k].toNat % 16 = b := ⟨_, rfl⟩
      have HST : Hid (o ++ digs.extract a (a + 1) ++ digs.extract b (b + 1) = ⟨(hexL (s.data.toList.take (k + 1))).toArray⟩) := by
        have := hex_step (s.data.toList.take k) s[k] o HO.out
        rw [ha, hb, ← take_snoc s k hlt] at this
        exact Lib.hid this
      have ea : (s[k].toNat : Int) / 16 = (a : Int) := by omega
      have eb : (s[k].toNat : Int) % 16 = (b : Int) := by omega
      have a0 : (0 : Int) ≤ (a : Int) := by omega
      have b0 : (0 : Int) ≤ (b : Int) := by omega
      have a1 : (a : Int) + 1 ≤ 16 := by omega
      have b1 : (b : Int) + 1 ≤ 16 := by omega
      have a2 : IntKind.i64.wrap ((a : Int) + 1) = (a : Int) + 1 := IntWalk.i64_in _ (by omega)
      have b2 : IntKind.i64.wrap ((b : Int) + 1) = (b : Int) + 1 := IntWalk.i64_in _ (by omega)
      have ob : o.size ≤ 2000 := by have := HN.out; omega
      clear ha hb
      go_wp2
      go_region
      all_goals
        go_wp2
        go_roundw
        case rel => exact ⟨k + 1, _, by omega, by go_num, rfl, HST, Lib.hid (by have := HN.out; have e1 := congrArg ByteArray.size (digs_at a (by omega)); have e2 := congrArg ByteArray.size (digs_at b (by omega)); rw [ByteArray.size_append, ByteArray.size_append]; show o.size + (digs.extract a (a + 1)).size + (digs.extract b (b + 1)).size = _; rw [e1, e2]; show o.size + 1 + 1 = _; omega), by go_grown⟩
        case measure => simp [intOf]; omega
    · obtain rfl : k = s.size := by omega
      go_wp2
      go_ret
      refine ⟨?_, hB⟩
      rw [HO.out, List.take_of_length_le (by simp)]
      rfl
end Go.Proofs.YtbgohcedakpnbaaDoor
