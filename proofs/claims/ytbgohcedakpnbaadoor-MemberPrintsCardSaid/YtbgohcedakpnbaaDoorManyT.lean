/- keyholeref01.Many. -/
import Derived.Test.YtbgohcedakpnbaaDoorTagK
set_option linter.unusedVariables false
namespace Go.Proofs.YtbgohcedakpnbaaDoor
open Go.RowKit
def tmanyB (c : UInt8) (n : Nat) : ByteArray := ⟨(List.replicate n c).toArray⟩
theorem tmanyB_size (c : UInt8) (n : Nat) : (tmanyB c n).size = n := by show (List.replicate n c).toArray.size = n; simp
theorem tmany_step (c : UInt8) (n k : Nat) (h : k < n) : (List.replicate k c ++ List.replicate (n - k) 0).set k c = List.replicate (k + 1) c ++ List.replicate (n - (k + 1)) 0 := by
  rw [List.set_append_right _ _ (by simp), List.length_replicate, Nat.sub_self, show n - k = (n - (k + 1)) + 1 by omega, List.replicate_succ, List.set_cons_zero, List.replicate_succ']
  simp
set_option maxHeartbeats 400000 in
theorem tmany_any (c : UInt8) (n : Nat) (w : World) (hn : n ≤ 1000000) :
    Calls Tryd.prog 46 #[.int .u8 c.toNat, .int .i64 n] w fun e w' => e = .returned (.string (tmanyB c n)) ∧ Below w.heap.size w w' := by
  have hmk := run_mkrow (P := Tryd.prog) 54 5 (.int .u8 0) 1 Tryd.underlying54 byte_info rfl n (by omega) (by omega)
  have hR0 : Hid (Row vB (w.alloc (.cells (List.replicate n (Value.int .u8 0)).toArray 5)) w.heap.size 5 (List.replicate 0 c ++ List.replicate (n - 0) 0)) := by
    refine Lib.hid ?_
    have := Row.new (f := vB) w 5 n 0
    rw [show vB 0 = Value.int .u8 0 from rfl] at this
    rw [List.replicate_zero, List.nil_append, Nat.sub_zero]
    exact this
  go_enter Tryd.func46, Tryd.ntmps46
  go_wp2_with fail
  clear hmk
  go_loopw [6] (fun iv wr => ∃ k : Nat, k ≤ n ∧ iv = .int .i64 k ∧ Hid (Row vB wr w.heap.size 5 (List.replicate k c ++ List.replicate (n - k) 0)) ∧ Below w.heap.size w wr) (fun iv _ => n - (intOf iv).toNat)
  case atStart => exact ⟨0, by omega, rfl, hR0, by go_grown⟩
  case round =>
    clear hR0
    obtain ⟨k, hk, rfl, HR, hB⟩ := hrel
    by_cases hlt : k < n
    · obtain ⟨x, hx⟩ : ∃ x, (List.replicate k c ++ List.replicate (n - k) 0)[k]? = some x := ⟨_, List.getElem?_eq_getElem (by simp; omega)⟩
      have c0 := HR.out.get hx
      have f0 := HR.out.free k
      have HE := Lib.hid (tmany_step c n k hlt)
      have hlt2 := HR.out.lt
      clear hx
      go_wp2_with fail
      go_roundw
      case rel => exact ⟨k + 1, by omega, by go_num, Lib.hid (by have := HR.out.set_ k c; rw [HE.out] at this; exact this), by go_grown⟩
      case measure => simp [intOf]; omega
    · obtain rfl : k = n := by omega
      have hrow : Blk wr w.heap.size 5 ((List.replicate k c).map vB).toArray := by
        have := HR.out
        simpa [Row] using this
      have hcv := run_blk (P := Tryd.prog) (L := List.replicate k c) (n := k) (c := k) 54 9 5 Tryd.underlying54 Tryd.underlying5 Tryd.underlying9 (by simp) hrow
      clear hrow
      go_wp2
      go_ret
      exact ⟨rfl, hB⟩
end Go.Proofs.YtbgohcedakpnbaaDoor
