/- tag: rows of ints; plus. -/
import Derived.Test.YtpbbphjhjjpkjaaDoorInts
import Derived.Test.YtpbbphjhjjpkjaaDoorTagP
import Derived.Test.YtpbbphjhjjpkjaaDoorBits
import Derived.Test.YtpbbphjhjjpkjaaDoorRow
import Derived.Deep.WholeRow
import Derived.Laws.Tables
import Derived.RegionTactic
import Derived.Deep.RegionHeld3
import Derived.IntWalk
set_option linter.unusedVariables false
namespace Go.Proofs.YtpbbphjhjjpkjaaDoor
open Go.RowKit
def vN (n : Nat) : Value := .int .i64 n
theorem below_setRow {B : Nat} {a w : World} (h : Below B a w) {g : Nat} (hg : B ≤ g) (cs : Array Value) : Below B a (w.setRow g cs) :=
  ⟨h.os, h.tape, h.output, by simpa using h.size, fun i hi => (setRow_other w g i cs (by omega)).trans (h.block i hi)⟩
/-- a number as the program bears it -/
def tnumV (L : List Nat) : Value := .agg (L.map vN).toArray
def plusTo (n m : List Nat) : Nat → List Nat
  | 0 => n
  | k + 1 => (plusTo n m k).set k ((plusTo n m k).getD k 0 + m.getD k 0)
theorem plusTo_len (n m : List Nat) (k : Nat) : (plusTo n m k).length = n.length := by
  induction k with
  | zero => rfl
  | succ k ih => rw [plusTo, List.length_set, ih]
theorem plus_val {n m : List Nat} (hn : n.length = 5) (hm : m.length = 5) : valN (plusTo n m 5) = valN n + valN m := by
  obtain ⟨a, b, c, d, e, rfl⟩ := list5 hn
  obtain ⟨f, g, h, i, j, rfl⟩ := list5 hm
  simp only [plusTo, List.set_cons_zero, List.set_cons_succ, List.getD_cons_zero, List.getD_cons_succ, valN5]
  omega
theorem getD_lt {B : Nat} {L : List Nat} (h : under B L) {k : Nat} (hk : k < L.length) : L.getD k 0 < B := by
  rw [List.getD_eq_getElem?_getD, List.getElem?_eq_getElem hk]
  exact h _ (List.getElem_mem hk)
theorem getD_at {L : List Nat} {k : Nat} (hk : k < L.length) : L[k]? = some (L.getD k 0) := by
  rw [List.getD_eq_getElem?_getD, List.getElem?_eq_getElem hk]; rfl
theorem plusTo_rest (n m : List Nat) (k j : Nat) (h : k ≤ j) : (plusTo n m k).getD j 0 = n.getD j 0 := by
  induction k with
  | zero => rfl
  | succ k ih =>
    rw [plusTo, List.getD_eq_getElem?_getD, List.getElem?_set_ne (by omega), ← List.getD_eq_getElem?_getD, ih (by omega)]
theorem plus_under {n m : List Nat} (hn : n.length = 5) (hm : m.length = 5) (h1 : under 67108864 n) (h2 : under 67108864 m) : under 134217728 (plusTo n m 5) := by
  obtain ⟨a, b, c, d, e, rfl⟩ := list5 hn
  obtain ⟨f, g, h, i, j, rfl⟩ := list5 hm
  obtain ⟨x1, x2, x3, x4, x5⟩ := under5 h1
  obtain ⟨y1, y2, y3, y4, y5⟩ := under5 h2
  intro x hx
  simp only [plusTo, List.set_cons_zero, List.set_cons_succ, List.getD_cons_zero, List.getD_cons_succ, List.mem_cons, List.not_mem_nil, or_false] at hx
  omega
theorem num_size {L : List Nat} (h : L.length = 5) : (L.map vN).toArray.size = 5 := by simp [h]
theorem num_one (L : List Nat) : (L.map vN).toArray.all (·.oneCell') = true := all_oneCell_toArray (fun v hv => by
  obtain ⟨x, _, rfl⟩ := List.mem_map.1 hv
  rfl)
theorem num_info {L : List Nat} (h : L.length = 5) : (Tryd.prog.info? 63).map (·.size) = some (L.map vN).toArray.size := by rw [num_size h]; kernel_rfl
set_option maxHeartbeats 400000 in
theorem plus_any (n m : List Nat) (w : World) (hn : n.length = 5) (hm : m.length = 5) (h1 : under 67108864 n) (h2 : under 67108864 m) :
    Calls Tryd.prog 31 #[tnumV n, tnumV m] w fun e w' => e = .returned (tnumV (plusTo n m 5)) ∧ Below w.heap.size w w' := by
  have HN := Lib.hid (And.intro hn (And.intro hm (And.intro h1 h2)))
  clear hn hm h1 h2
  unfold tnumV
  go_enter Tryd.func31, Tryd.ntmps31
  go_wp2_with fail
  have hA0 : Hid (Row vN (((w.alloc (.cells (n.map vN).toArray 63)).alloc (.cells (m.map vN).toArray 63)).alloc (.cells #[.int .i64 0, .int .i64 0, .int .i64 0, .int .i64 0, .int .i64 0] 63)) w.heap.size 63 (plusTo n m 0)) := Lib.hid (((Blk.new w _ _).alloc _).alloc _)
  have hM0 : Hid (Row vN (((w.alloc (.cells (n.map vN).toArray 63)).alloc (.cells (m.map vN).toArray 63)).alloc (.cells #[.int .i64 0, .int .i64 0, .int .i64 0, .int .i64 0, .int .i64 0] 63)) (w.heap.size + 1) 63 m) := Lib.hid ((Blk.new_at (by simp) _ _).alloc _)
  have hZ0 : Hid (Blk (((w.alloc (.cells (n.map vN).toArray 63)).alloc (.cells (m.map vN).toArray 63)).alloc (.cells #[.int .i64 0, .int .i64 0, .int .i64 0, .int .i64 0, .int .i64 0] 63)) (w.heap.size + 2) 63 #[.int .i64 0, .int .i64 0, .int .i64 0, .int .i64 0, .int .i64 0]) := Lib.hid (Blk.new_at (by simp) _ _)
  go_loopw [6] (fun iv wr => ∃ k : Nat, k ≤ 5 ∧ iv = .int .i64 k ∧ Hid (Row vN wr w.heap.size 63 (plusTo n m k)) ∧ Hid (Row vN wr (w.heap.size + 1) 63 m) ∧ Hid (Blk wr (w.heap.size + 2) 63 #[.int .i64 0, .int .i64 0, .int .i64 0, .int .i64 0, .int .i64 0]) ∧ Below w.heap.size w wr) (fun iv _ => 5 - (intOf iv).toNat)
  case atStart => exact ⟨0, by omega, rfl, hA0, hM0, hZ0, by go_grown⟩
  case round =>
    clear hA0 hM0 hZ0
    obtain ⟨k, hk, rfl, HA, HM, HZ, hB⟩ := hrel
    by_cases hlt : k < 5
    · have hl := plusTo_len n m k
      have hx := getD_at (L := plusTo n m k) (k := k) (by rw [hl, HN.out.1]; exact hlt)
      have hy := getD_at (L := m) (k := k) (by rw [HN.out.2.1]; exact hlt)
      have hx1 : (plusTo n m k).getD k 0 < 67108864 := by rw [plusTo_rest n m k k (Nat.le_refl _)]; exact getD_lt HN.out.2.2.1 (by rw [HN.out.1]; exact hlt)
      have hy1 := getD_lt HN.out.2.2.2 (k := k) (by rw [HN.out.2.1]; exact hlt)
      have HS : plusTo n m (k + 1) = (plusTo n m k).set k ((plusTo n m k).getD k 0 + m.getD k 0) := rfl
      generalize (plusTo n m k).getD k 0 = x at hx hx1 HS
      generalize m.getD k 0 = y at hy hy1 HS
      have cx := HA.out.get hx
      have fx := HA.out.free k
      have cy := HM.out.get hy
      simp only [vN] at cx cy
      have HS' := Lib.hid HS
      have k0 : (0 : Int) ≤ k := by omega
      have k1 : (k : Int) < 5 := by omega
      have hgl := HA.out.lt
      clear hx hy HS hl
      go_wp2_with fail
      go_region
      all_goals
        go_wp2_with fail
        go_roundw
        case rel =>
          refine ⟨k + 1, by omega, by go_num, Lib.hid ?_, Lib.hid ?_, Lib.hid ?_, by go_grown⟩
          · have := HA.out.set_ k (x + y)
            rw [HS'.out]
            exact this
          · exact HM.out.far (by simp) _
          · exact HZ.out.far (by simp) _
        case measure => simp [intOf]; omega
    · obtain rfl : k = 5 := by omega
      have hl : (plusTo n m 5).length = 5 := by rw [plusTo_len, HN.out.1]
      have HL := Lib.hid hl
      clear hl
      go_wp2_with (first
        | (refine wpList_load_row rfl 63 (.tmp 2) rfl w.heap.size rfl 63 ((plusTo n m 5).map vN).toArray (0, 0) (.array 5 3) HA.out (by kernel_rfl) rfl (num_info HL.out) ?_)
        | (refine wpList_store_row rfl 63 (.tmp 4) (.tmp 18) rfl (w.heap.size + 1 + 1) ((plusTo n m 5).map vN).toArray rfl rfl 63 #[.int .i64 0, .int .i64 0, .int .i64 0, .int .i64 0, .int .i64 0] HZ.out (num_info HL.out) (by rw [num_size HL.out]; rfl) (num_one _) ?_))
      refine bodyPost_ret (results_cell_row (Tryd.results31) _ _ (w.heap.size + 1 + 1) 63 ((plusTo n m 5).map vN).toArray (0, 0) (.array 5 3) rfl (setRow_heap _ _ _ _ _ _ HZ.out) (by kernel_rfl) rfl (num_info HL.out)) rfl ?_
      exact ⟨rfl, below_setRow hB (by omega) _⟩
end Go.Proofs.YtpbbphjhjjpkjaaDoor
