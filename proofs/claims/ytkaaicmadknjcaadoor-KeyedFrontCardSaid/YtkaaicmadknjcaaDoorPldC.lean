/- Many; far; chapter 17's rows. -/
import Derived.Test.YtkaaicmadknjcaaDoorPldB
import Derived.Test.YtkaaicmadknjcaaDoorStrs
set_option linter.unusedVariables false
namespace Go.Proofs.YtkaaicmadknjcaaDoor
open Go.RowKit
def manyB (c : UInt8) (n : Nat) : ByteArray := ⟨(List.replicate n c).toArray⟩
theorem manyB_size (c : UInt8) (n : Nat) : (manyB c n).size = n := by show (List.replicate n c).toArray.size = n; simp
theorem many_step (c : UInt8) (n k : Nat) (h : k < n) : (List.replicate k c ++ List.replicate (n - k) 0).set k c = List.replicate (k + 1) c ++ List.replicate (n - (k + 1)) 0 := by
  rw [List.set_append_right _ _ (by simp), List.length_replicate, Nat.sub_self, show n - k = (n - (k + 1)) + 1 by omega, List.replicate_succ, List.set_cons_zero, List.replicate_succ']
  simp
set_option maxHeartbeats 400000 in
theorem many_any (c : UInt8) (n : Nat) (w : World) (hn : n ≤ 1000000) :
    Calls Tryd.prog 100 #[.int .u8 c.toNat, .int .i64 n] w fun e w' => e = .returned (.string (manyB c n)) ∧ Below w.heap.size w w' := by
  have hmk := run_mkrow (P := Tryd.prog) 40 5 (.int .u8 0) 1 Tryd.underlying40 byte_info rfl n (by omega) (by omega)
  have hR0 : Hid (Row vB (w.alloc (.cells (List.replicate n (Value.int .u8 0)).toArray 5)) w.heap.size 5 (List.replicate 0 c ++ List.replicate (n - 0) 0)) := by
    refine Lib.hid ?_
    have := Row.new (f := vB) w 5 n 0
    rw [show vB 0 = Value.int .u8 0 from rfl] at this
    rw [List.replicate_zero, List.nil_append, Nat.sub_zero]
    exact this
  go_enter Tryd.func100, Tryd.ntmps100
  go_wp2_with fail
  clear hmk
  go_loopw [6] (fun iv wr => ∃ k : Nat, k ≤ n ∧ iv = .int .i64 k ∧ Hid (Row vB wr w.heap.size 5 (List.replicate k c ++ List.replicate (n - k) 0)) ∧ Below w.heap.size w wr) (fun iv _ => n - (intOf iv).toNat)
  case atStart => exact ⟨0, by omega, rfl, hR0, by go_grown⟩
  case round =>
    clear hR0
    obtain ⟨k, hk, rfl, HR, hB⟩ := hrel
    by_cases hlt : k < n
    · obtain ⟨x, hx⟩ : ∃ x, (List.replicate k c ++ List.replicate (n - k) 0)[k]? = some x := ⟨_, List.getElem?_eq_getElem (by simp; omega)⟩
      have c0 := HR.out.get hx
      have f0 := HR.out.free k
      have HE := Lib.hid (many_step c n k hlt)
      have hlt2 := HR.out.lt
      clear hx
      go_wp2_with fail
      go_roundw
      case rel => exact ⟨k + 1, by omega, by go_num, Lib.hid (by have := HR.out.set_ k c; rw [HE.out] at this; exact this), by go_grown⟩
      case measure => simp [intOf]; omega
    · obtain rfl : k = n := by omega
      have hrow : Blk wr w.heap.size 5 ((List.replicate k c).map vB).toArray := by
        have := HR.out
        simpa [Row] using this
      have hcv := run_brow (base := w.heap.size) (L := List.replicate k c) (n := k) (c := k) 40 9 5 Tryd.underlying40 Tryd.underlying5 Tryd.underlying9 (by simp) (by
        have := brow_new wr (Nat.le_refl w.heap.size) (List.replicate k c) hrow (by simp; omega)
        simpa using this)
      clear hrow
      go_wp2
      go_ret
      exact ⟨rfl, hB⟩
def farB (L : List ByteArray) : Bool := L.any (fun s => decide (100 < s.size)) || decide (20 < L.length)
set_option maxHeartbeats 400000 in
theorem far_any (L : List ByteArray) (A : Option Addr) (n c : Nat) (w : World) (hL : SlR encS 1 w w.heap.size A n L) (hn : n ≤ 140737488351232) :
    Calls Tryd.prog 44 #[.slice A n c] w fun e w' => e = .returned (.bool (farB L)) ∧ w = w' := by
  obtain ⟨rfl, hA⟩ := hL
  have HEnd : Hid ((∀ i s, L[i]? = some s → i < L.length → s.size ≤ 100) → farB L = decide (20 < L.length)) := Lib.hid (fun h => by
    have : L.any (fun s => decide (100 < s.size)) = false := by
      rw [List.any_eq_false]
      intro s hs
      obtain ⟨i, hi⟩ := List.getElem?_of_mem hs
      have := h i s hi (List.getElem?_eq_some_iff.1 hi).1
      simp; omega
    simp [farB, this])
  have HNo : Hid (∀ (k : Nat) (x : ByteArray), L[k]? = some x → 100 < x.size → farB L = true) := Lib.hid (fun k x hx h => by
    have : L.any (fun s => decide (100 < s.size)) = true := List.any_eq_true.2 ⟨x, List.mem_of_getElem? hx, by simpa using h⟩
    simp [farB, this])
  generalize hv : farB L = v at HEnd HNo ⊢
  clear hv
  by_cases h0 : L.length = 0
  · have HL0 := Lib.hid h0
    have hd : v = decide (20 < L.length) := HEnd.out (fun i s _ h => by omega)
    have hd2 : v = false := by rw [hd, h0]; rfl
    subst hd2
    rw [h0]
    clear hd h0 HEnd HNo hA hn HL0
    go_enter Tryd.func44, Tryd.ntmps44
    go_wp2
    go_loop [3] (fun i => i = .int .i64 0) (fun _ => 0)
    case atStart => rfl
    case round =>
      subst hrel
      go_wp2
      go_ret
      exact ⟨rfl, rfl⟩
  · obtain ⟨b, off, rfl, hb, hC⟩ := hA.resolve_left h0
    have HC := Lib.hid hC
    clear hC hA h0
    go_enter Tryd.func44, Tryd.ntmps44
    go_wp2
    go_loop [3] (fun i => ∃ k : Nat, k ≤ L.length ∧ i = .int .i64 k ∧ Hid (∀ i s, L[i]? = some s → i < k → s.size ≤ 100)) (fun i => L.length - (intOf i).toNat)
    case atStart => exact ⟨0, Nat.zero_le _, rfl, Lib.hid (fun i s _ h => by omega)⟩
    case round =>
      obtain ⟨k, hk, rfl, HU⟩ := hrel
      by_cases hlt : k < L.length
      · obtain ⟨x, hx⟩ : ∃ x, L[k]? = some x := ⟨L[k], List.getElem?_eq_getElem hlt⟩
        have c0 := HC.out.str hx
        by_cases hx1 : 100 < x.size
        · have hv := HNo.out k x hx hx1
          subst hv
          clear hx
          go_wp2
          go_ret
          exact ⟨rfl, rfl⟩
        · have hx2 : x.size ≤ 100 := by omega
          have HX : Hid (∀ i s, L[i]? = some s → i < k + 1 → s.size ≤ 100) := Lib.hid (fun i s hi h => by
            by_cases e : i = k
            · subst e
              rw [hx] at hi
              injection hi with hi
              subst hi; exact hx2
            · exact HU.out i s hi (by omega))
          clear hx hx1
          go_wp2
          go_round
          case rel => exact ⟨k + 1, by omega, by go_num, HX⟩
          case measure => simp [intOf]; omega
      · obtain rfl : k = L.length := by omega
        have hv := Lib.hid (HEnd.out HU.out)
        go_wp2
        go_ret
        exact ⟨ret_bool (by rw [hv.out, decide_eq_decide]; omega), rfl⟩
end Go.Proofs.YtkaaicmadknjcaaDoor
