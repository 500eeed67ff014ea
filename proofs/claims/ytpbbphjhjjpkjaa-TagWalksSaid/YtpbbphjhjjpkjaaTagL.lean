/- Chapter 5's rows: Many, Ints of like rows, row. -/
import Derived.Test.YtpbbphjhjjpkjaaTagK
set_option linter.unusedVariables false
namespace Go.Proofs.Ytpbbphjhjjpkjaa
open Go.RowKit
def manyB (c : UInt8) (n : Nat) : ByteArray := ⟨(List.replicate n c).toArray⟩
theorem manyB_size (c : UInt8) (n : Nat) : (manyB c n).size = n := by show (List.replicate n c).toArray.size = n; simp
theorem many_step (c : UInt8) (n k : Nat) (h : k < n) : (List.replicate k c ++ List.replicate (n - k) 0).set k c = List.replicate (k + 1) c ++ List.replicate (n - (k + 1)) 0 := by
  rw [List.set_append_right _ _ (by simp), List.length_replicate, Nat.sub_self, show n - k = (n - (k + 1)) + 1 by omega, List.replicate_succ, List.set_cons_zero, List.replicate_succ']
  simp
set_option maxHeartbeats 400000 in
theorem many_any (c : UInt8) (n : Nat) (w : World) (hn : n ≤ 1000000) :
    Calls Try.prog 11 #[.int .u8 c.toNat, .int .i64 n] w fun e w' => e = .returned (.string (manyB c n)) ∧ Below w.heap.size w w' := by
  have hmk := run_mkrow (P := Try.prog) 37 5 (.int .u8 0) 1 Try.underlying37 byte_info rfl n (by omega) (by omega)
  have hR0 : Hid (Row vB (w.alloc (.cells (List.replicate n (Value.int .u8 0)).toArray 5)) w.heap.size 5 (List.replicate 0 c ++ List.replicate (n - 0) 0)) := by
    refine Lib.hid ?_
    have := Row.new (f := vB) w 5 n 0
    rw [show vB 0 = Value.int .u8 0 from rfl] at this
    rw [List.replicate_zero, List.nil_append, Nat.sub_zero]
    exact this
  go_enter Try.func11, Try.ntmps11
  go_wp2_with fail
  clear hmk
  go_loopw [6] (fun iv wr => ∃ k : Nat, k ≤ n ∧ iv = .int .i64 k ∧ Hid (Row vB wr w.heap.size 5 (List.replicate k c ++ List.replicate (n - k) 0)) ∧ Below w.heap.size w wr) (fun iv _ => n - (intOf iv).toNat)
  case atStart => exact ⟨0, by omega, rfl, hR0, by go_grown⟩
  case round =>
    clear hR0
    obtain ⟨k, hk, rfl, HR, hB⟩ := hrel
    by_cases hlt : k < n
    · obtain ⟨x, hx⟩ : ∃ x, (List.replicate k c ++ List.replicate (n - k) 0)[k]? = some x := ⟨_, List.getElem?_eq_getElem (by simp; omega)⟩
      have c0 := HR.out.get hx
      have f0 := HR.out.free k
      have HE := Lib.hid (many_step c n k hlt)
      have hlt2 := HR.out.lt
      clear hx
      go_wp2_with fail
      go_roundw
      case rel => exact ⟨k + 1, by omega, by go_num, Lib.hid (by have := HR.out.set_ k c; rw [HE.out] at this; exact this), by go_grown⟩
      case measure => simp [intOf]; omega
    · obtain rfl : k = n := by omega
      have hrow : Blk wr w.heap.size 5 ((List.replicate k c).map vB).toArray := by
        have := HR.out
        simpa [Row] using this
      have hcv := run_blk (P := Try.prog) (L := List.replicate k c) (n := k) (c := k) 37 9 5 Try.underlying37 Try.underlying5 Try.underlying9 (by simp) hrow
      clear hrow
      go_wp2
      go_ret
      exact ⟨rfl, hB⟩
set_option maxHeartbeats 400000 in
theorem ints_same (L : List Nat) (b b' off off' n c c' : Nat) (w : World) (hl : L.length = n) (h : SlC encI 1 w b off (ints L)) (h' : SlC encI 1 w b' off' (ints L)) (hb : b < w.heap.size) (hb' : b' < w.heap.size) (hn : n ≤ 1000000) :
    Calls Try.prog 13 #[.slice (some ⟨b, off, none⟩) n c, .slice (some ⟨b', off', none⟩) n c'] w fun e w' => e = .returned (.bool true) ∧ Below w.heap.size w w' := by
  have HC := Lib.hid h
  have HC' := Lib.hid h'
  have HL := Lib.hid hl
  clear h h' hl
  go_enter Try.func13, Try.ntmps13
  go_wp2_with fail
  go_loopw [5] (fun i wr => ∃ k : Nat, k ≤ n ∧ i = .int .i64 k ∧ Below w.heap.size w wr) (fun i _ => n - (intOf i).toNat)
  case atStart => exact ⟨0, by omega, rfl, Below.refl _ _⟩
  case round =>
    obtain ⟨k, hk, rfl, hB⟩ := hrel
    by_cases hlt : k < n
    · obtain ⟨x, hx⟩ : ∃ x, L[k]? = some x := ⟨_, List.getElem?_eq_getElem (by rw [HL.out]; exact hlt)⟩
      have cx := (HC.out.below hB hb).int (ints_get hx)
      have cy := (HC'.out.below hB hb').int (ints_get hx)
      have k0 : (0 : Int) ≤ k := by omega
      have kn : (k : Int) < (n : Int) := by omega
      clear hx
      go_wp2_with fail
      go_region
      all_goals
        go_wp2_with fail
        go_roundw
        case rel => exact ⟨k + 1, by omega, by go_num, by go_grown⟩
        case measure => simp [intOf]; omega
    · obtain rfl : k = n := by omega
      go_wp2_with fail
      go_ret
      exact ⟨rfl, hB⟩
/-- the row of a number below 65536 -/
def rowN (n : Nat) : List Nat := (zeroR.set 0 (n % 256)).set 1 (n / 256)
theorem rowN_good (n : Nat) (h : n < 65536) : Digits (rowN n) := by
  refine ⟨rfl, ?_, ?_⟩
  · intro x hx
    simp [rowN, zeroR, List.replicate] at hx
    omega
  · simp [rowN, zeroR, List.replicate, valD, primeP]
    omega
theorem row_any (n : Nat) (w : World) (h : n < 65536) :
    Calls Try.prog 12 #[.int .i64 n] w fun e w' => e = .returned (.slice (some ⟨w.heap.size, 0, none⟩) 17 17) ∧ Row vN w' w.heap.size 3 (rowN n) ∧ Below w.heap.size w w' ∧ w'.heap.size = w.heap.size + 1 := by
  have hmk := make17
  have e1 : Int.tmod (n : Int) 256 = ((n % 256 : Nat) : Int) := by rw [Int.tmod_eq_emod_of_nonneg (by omega)]; rfl
  have e2 : Int.tdiv (n : Int) 256 = ((n / 256 : Nat) : Int) := by rw [Int.tdiv_eq_ediv_of_nonneg (by omega)]; rfl
  have w1 : IntKind.i64.wrap ((n % 256 : Nat) : Int) = ((n % 256 : Nat) : Int) := wrap_i64_nat _ (by omega)
  have w2 : IntKind.i64.wrap ((n / 256 : Nat) : Int) = ((n / 256 : Nat) : Int) := wrap_i64_nat _ (by omega)
  have hR : Hid (Row vN (w.alloc (.cells (List.replicate 17 (Value.int .i64 0)).toArray 3)) w.heap.size 3 zeroR) := Lib.hid (Blk.new _ _ _)
  have c0 := hR.out.get (k := 0) (x := 0) rfl
  have f0 := hR.out.free 0
  have c1 := (hR.out.set_ 0 (n % 256)).get (k := 1) (x := 0) rfl
  have f1 := (hR.out.set_ 0 (n % 256)).free 1
  go_enter Try.func12, Try.ntmps12
  go_wp2_with fail
  go_ret
  refine ⟨rfl, ?_, by go_grown, by simp⟩
  exact Blk.new w _ _
end Go.Proofs.Ytpbbphjhjjpkjaa
