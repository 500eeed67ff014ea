/- tag: rows of ints; plus. -/
import Derived.Test.YtpkomloblhbkiaaGreatDoorWordA
import Derived.Test.YtpkomloblhbkiaaGreatDoorTagP
import Derived.Test.YtpkomloblhbkiaaGreatDoorBytes
import Derived.Deep.WholeRow
import Derived.Laws.Tables
import Derived.RegionTactic
import Derived.Deep.RegionHeld3
import Derived.IntWalk
set_option linter.unusedVariables false
namespace Go.Proofs.YtpkomloblhbkiaaGreatDoor
open Go.RowKit
def vN (n : Nat) : Value := .int .i64 n
theorem below_setRow {B : Nat} {a w : World} (h : Below B a w) {g : Nat} (hg : B ≤ g) (cs : Array Value) : Below B a (w.setRow g cs) :=
  ⟨h.os, h.tape, h.output, by simpa using h.size, fun i hi => (setRow_other w g i cs (by omega)).trans (h.block i hi)⟩
/-- a number as the program bears it -/
def tnumV (L : List Nat) : Value := .agg (L.map vN).toArray
def plusTo (n m : List Nat) : Nat → List Nat
  | 0 => n
  | k + 1 => (plusTo n m k).set k ((plusTo n m k).getD k 0 + m.getD k 0)
theorem plusTo_len (n m : List Nat) (k : Nat) : (plusTo n m k).length = n.length := by
  induction k with
  | zero => rfl
  | succ k ih => rw [plusTo, List.length_set, ih]
theorem plus_val {n m : List Nat} (hn : n.length = 5) (hm : m.length = 5) : valN (plusTo n m 5) = valN n + valN m := by
  obtain ⟨a, b, c, d, e, rfl⟩ := list5 hn
  obtain ⟨f, g, h, i, j, rfl⟩ := list5 hm
  simp only [plusTo, List.set_cons_zero, List.set_cons_succ, List.getD_cons_zero, List.getD_cons_succ, valN5]
  omega
theorem getD_lt {B : Nat} {L : List Nat} (h : under B L) {k : Nat} (hk : k < L.length) : L.getD k 0 < B := by
  rw [List.getD_eq_getElem?_getD, List.getElem?_eq_getElem hk]
  exact h _ (List.getElem_mem hk)
theorem getD_at {L : List Nat} {k : Nat} (hk : k < L.length) : L[k]? = some (L.getD k 0) := by
  rw [List.getD_eq_getElem?_getD, List.getElem?_eq_getElem hk]; rfl
theorem plusTo_rest (n m : List Nat) (k j : Nat) (h : k ≤ j) : (plusTo n m k).getD j 0 = n.getD j 0 := by
  induction k with
  | zero => rfl
  | succ k ih =>
    rw [plusTo, List.getD_eq_getElem?_getD, List.getElem?_set_ne (by omega), ← List.getD_eq_getElem?_getD, ih (by omega)]
theorem plus_under {n m : List Nat} (hn : n.length = 5) (hm : m.length = 5) (h1 : under 67108864 n) (h2 : under 67108864 m) : under 134217728 (plusTo n m 5) := by
  obtain ⟨a, b, c, d, e, rfl⟩ := list5 hn
  obtain ⟨f, g, h, i, j, rfl⟩ := list5 hm
  obtain ⟨x1, x2, x3, x4, x5⟩ := under5 h1
  obtain ⟨y1, y2, y3, y4, y5⟩ := under5 h2
  intro x hx
  simp only [plusTo, List.set_cons_zero, List.set_cons_succ, List.getD_cons_zero, List.getD_cons_succ, List.mem_cons, List.not_mem_nil, or_false] at hx
  omega
theorem num_size {L : List Nat} (h : L.length = 5) : (L.map vN).toArray.size = 5 := by simp [h]
theorem num_one (L : List Nat) : (L.map vN).toArray.all (·.oneCell') = true := all_oneCell_toArray (fun v hv => by
  obtain ⟨x, _, rfl⟩ := List.mem_map.1 hv
  rfl)
theorem num_info {L : List Nat} (h : L.length = 5) : (Tryz.prog.info? 194).map (·.size) = some (L.map vN).toArray.size := by rw [num_size h]; kernel_rfl
set_option maxHeartbeats 400000 in
theorem plus_any (n m : List Nat) (w : World) (hn : n.length = 5) (hm : m.length = 5) (h1 : under 67108864 n) (h2 : under 67108864 m) :
    Calls Tryz.prog 137 #[tnumV n, tnumV m] w fun e w' => e = .returned (tnumV (plusTo n m 5)) ∧ Below w.heap.size w w' := by
  have HN := Lib.hid (And.intro hn (And.intro hm (And.intro h1 h2)))
  clear hn hm h1 h2
  unfold tnumV
  go_enter Tryz.func137, Tryz.ntmps137
  go_wp2_with fail
  have hA0 : Hid (Row vN (((w.alloc (.cells (n.map vN).toArray 194)).alloc (.cells (m.map vN).toArray 194)).alloc (.cells #[.int .i64 0, .int .i64 0, .int .i64 0, .int .i64 0, .int .i64 0] 194)) w.heap.size 194 (plusTo n m 0)) := Lib.hid (((Blk.new w _ _).alloc _).alloc _)
  have hM0 : Hid (Row vN (((w.alloc (.cells (n.map vN).toArray 194)).alloc (.cells (m.map vN).toArray 194)).alloc (.cells #[.int .i64 0, .int .i64 0, .int .i64 0, .int .i64 0, .int .i64 0] 194)) (w.heap.size + 1) 194 m) := Lib.hid ((Blk.new_at (by simp) _ _).alloc _)
  have hZ0 : Hid (Blk (((w.alloc (.cells (n.map vN).toArray 194)).alloc (.cells (m.map vN).toArray 194)).alloc (.cells #[.int .i64 0, .int .i64 0, .int .i64 0, .int .i64 0, .int .i64 0] 194)) (w.heap.size + 2) 194 #[.int .i64 0, .int .i64 0, .int .i64 0, .int .i64 0, .int .i64 0]) := Lib.hid (Blk.new_at (by simp) _ _)
  go_loopw [6] (fun iv wr => ∃ k : Nat, k ≤ 5 ∧ iv = .int .i64 k ∧ Hid (Row vN wr w.heap.size 194 (plusTo n m k)) ∧ Hid (Row vN wr (w.heap.size + 1) 194 m) ∧ Hid (Blk wr (w.heap.size + 2) 194 #[.int .i64 0, .int .i64 0, .int .i64 0, .int .i64 0, .int .i64 0]) ∧ Below w.heap.size w wr) (fun iv _ => 5 - (intOf iv).toNat)
  case atStart => exact ⟨0, by omega, rfl, hA0, hM0, hZ0, by go_grown⟩
  case round =>
    clear hA0 hM0 hZ0
    obtain ⟨k, hk, rfl, HA, HM, HZ, hB⟩ := hrel
    by_cases hlt : k < 5
    · have hl := plusTo_len n m k
      have hx := getD_at (L := plusTo n m k) (k := k) (by rw [hl, HN.out.1]; exact hlt)
      have hy := getD_at (L := m) (k := k) (by rw [HN.out.2.1]; exact hlt)
      have hx1 : (plusTo n m k).getD k 0 < 67108864 := by rw [plusTo_rest n m k k (Nat.le_refl _)]; exact getD_lt HN.out.2.2.1 (by rw [HN.out.1]; exact hlt)
      have hy1 := getD_lt HN.out.2.2.2 (k := k) (by rw [HN.out.2.1]; exact hlt)
      have HS : plusTo n m (k + 1) = (plusTo n m k).set k ((plusTo n m k).getD k 0 + m.getD k 0) := rfl
      generalize (plusTo n m k).getD k 0 = x at hx hx1 HS
      generalize m.getD k 0 = y at hy hy1 HS
      have cx := HA.out.get hx
      have fx := HA.out.free k
      have cy := HM.out.get hy
      simp only [vN] at cx cy
      have HS' := Lib.hid HS
      have k0 : (0 : Int) ≤ k := by omega
      have k1 : (k : Int) < 5 := by omega
      have hgl := HA.out.lt
      clear hx hy HS hl
      go_wp2_with fail
      go_region
      all_goals
        go_wp2_with fail
        go_roundw
        case rel =>
          refine ⟨k + 1, by omega, by go_num, Lib.hid ?_, Lib.hid ?_, Lib.hid ?_, by go_grown⟩
          · have := HA.out.set_ k (x + y)
            rw [HS'.out]
            exact this
          · exact HM.out.far (by simp) _
          · exact HZ.out.far (by simp) _
        case measure => simp [intOf]; omega
    · obtain rfl : k = 5 := by omega
      have hl : (plusTo n m 5).length = 5 := by rw [plusTo_len, HN.out.1]
      have HL := Lib.hid hl
      clear hl
      go_wp2_with (first
        | (refine wpList_load_row rfl 194 (.tmp 2) rfl w.heap.size rfl 194 ((plusTo n m 5).map vN).toArray (0, 0) (.array 5 3) HA.out (by kernel_rfl) rfl (num_info HL.out) ?_)
        | (refine wpList_store_row rfl 194 (.tmp 4) (.tmp 18) rfl (w.heap.size + 1 + 1) ((plusTo n m 5).map vN).toArray rfl rfl 194 #[.int .i64 0, .int .i64 0, .int .i64 0, .int .i64 0, .int .i64 0] HZ.out (num_info HL.out) (by rw [num_size HL.out]; rfl) (num_one _) ?_))
      refine bodyPost_ret (results_cell_row (Tryz.results137) _ _ (w.heap.size + 1 + 1) 194 ((plusTo n m 5).map vN).toArray (0, 0) (.array 5 3) rfl (setRow_heap _ _ _ _ _ _ HZ.out) (by kernel_rfl) rfl (num_info HL.out)) rfl ?_
      exact ⟨rfl, below_setRow hB (by omega) _⟩
end Go.Proofs.YtpkomloblhbkiaaGreatDoor
/- tag: times. -/
namespace Go.Proofs.YtpkomloblhbkiaaGreatDoor
open Go.RowKit
def tStep (n m t : List Nat) (i k : Nat) : List Nat := t.set ((i + k) % 5) (t.getD ((i + k) % 5) 0 + (if 5 ≤ i + k then n.getD i 0 * m.getD k 0 * 5 else n.getD i 0 * m.getD k 0))
def timesIn (n m t : List Nat) (i : Nat) : Nat → List Nat
  | 0 => t
  | k + 1 => tStep n m (timesIn n m t i k) i k
def timesTo (n m : List Nat) : Nat → List Nat
  | 0 => [0, 0, 0, 0, 0]
  | i + 1 => timesIn n m (timesTo n m i) i 5
theorem timesIn_len (n m t : List Nat) (i k : Nat) : (timesIn n m t i k).length = t.length := by
  induction k with
  | zero => rfl
  | succ k ih => rw [timesIn, tStep, List.length_set, ih]
theorem timesTo_len (n m : List Nat) (i : Nat) : (timesTo n m i).length = 5 := by
  induction i with
  | zero => rfl
  | succ i ih => rw [timesTo, timesIn_len, ih]
theorem times_mul {n m : List Nat} (hn : n.length = 5) (hm : m.length = 5) : timesTo n m 5 = mulTo n m := by
  obtain ⟨a, b, c, d, e, rfl⟩ := list5 hn
  obtain ⟨f, g, h, i, j, rfl⟩ := list5 hm
  simp only [timesTo, timesIn, tStep, mulTo, Nat.reduceAdd, Nat.reduceMod, Nat.reduceLeDiff, if_true, if_false, List.set_cons_zero, List.set_cons_succ, List.getD_cons_zero, List.getD_cons_succ, List.cons.injEq, and_true]
  omega
theorem tStep_under {n m t : List Nat} {i k B : Nat} (ht : t.length = 5) (h : ∀ x ∈ t, x ≤ B) (hp : n.getD i 0 * m.getD k 0 ≤ 9007199254740992) : ∀ x ∈ tStep n m t i k, x ≤ B + 45035996273704960 := by
  intro x hx
  rw [tStep] at hx
  rcases List.mem_or_eq_of_mem_set hx with hx | rfl
  · have := h x hx; omega
  · have hlt : (i + k) % 5 < t.length := by rw [ht]; exact Nat.mod_lt _ (by omega)
    have h1 := h _ (List.getElem_mem hlt)
    rw [List.getD_eq_getElem?_getD, List.getElem?_eq_getElem hlt]
    simp only [Option.getD_some]
    split <;> omega
theorem prod_le {x y : Nat} (hx : x < 134217728) (hy : y < 67108864) : x * y ≤ 9007199254740992 := by
  have := Nat.mul_le_mul (Nat.le_of_lt hx) (Nat.le_of_lt hy)
  omega
def Z5 : Array Value := #[.int .i64 0, .int .i64 0, .int .i64 0, .int .i64 0, .int .i64 0]
/-- the boxes of times -/
def TimesAt (g : Nat) (n m T : List Nat) (W : World) : Prop := Row vN W g 194 n ∧ Row vN W (g + 1) 194 m ∧ Blk W (g + 1 + 1) 194 Z5 ∧ Row vN W (g + 1 + 1 + 1) 194 T
theorem TimesAt.step {g : Nat} {n m T : List Nat} {W : World} (h : TimesAt g n m T W) (j v : Nat) : TimesAt g n m (T.set j v) (W.setCell ⟨g + 1 + 1 + 1, j, none⟩ (.int .i64 v)) :=
  ⟨h.1.far (show g ≠ g + 1 + 1 + 1 by omega) _, h.2.1.far (show g + 1 ≠ g + 1 + 1 + 1 by omega) _, h.2.2.1.far (show g + 1 + 1 ≠ g + 1 + 1 + 1 by omega) _, h.2.2.2.set_ j v⟩
theorem TimesAt.drew {g : Nat} {n m T : List Nat} {W : World} (h : TimesAt g n m T W) : TimesAt g n m T W.drew := h
set_option maxHeartbeats 1000000 in
theorem times_any (n m : List Nat) (w : World) (hn : n.length = 5) (hm : m.length = 5) (h1 : under 134217728 n) (h2 : under 67108864 m) :
    Calls Tryz.prog 138 #[tnumV n, tnumV m] w fun e w' => e = .returned (tnumV (timesTo n m 5)) ∧ under 1152921504606846976 (timesTo n m 5) ∧ Below w.heap.size w w' := by
  have HN := Lib.hid (And.intro hn (And.intro hm (And.intro h1 h2)))
  clear hn hm h1 h2
  unfold tnumV
  go_enter Tryz.func138, Tryz.ntmps138
  go_wp2_with fail
  have h0 : Hid (TimesAt w.heap.size n m (timesTo n m 0) ((((w.alloc (.cells (n.map vN).toArray 194)).alloc (.cells (m.map vN).toArray 194)).alloc (.cells #[.int .i64 0, .int .i64 0, .int .i64 0, .int .i64 0, .int .i64 0] 194)).alloc (.cells #[.int .i64 0, .int .i64 0, .int .i64 0, .int .i64 0, .int .i64 0] 194))) :=
    Lib.hid ⟨(((Blk.new w _ _).alloc _).alloc _).alloc _, ((Blk.new_at (by simp) _ _).alloc _).alloc _, (Blk.new_at (by simp) _ _).alloc _, Blk.new_at (by simp) _ _⟩
  go_loopw [9] (fun iv wr => ∃ i : Nat, i ≤ 5 ∧ iv = .int .i64 i ∧ Hid (TimesAt w.heap.size n m (timesTo n m i) wr) ∧ Hid (∀ x ∈ timesTo n m i, x ≤ 5 * i * 45035996273704960) ∧ Below w.heap.size w wr) (fun iv _ => 5 - (intOf iv).toNat)
  case atStart => exact ⟨0, by omega, rfl, h0, Lib.hid (fun x hx => by simp [timesTo] at hx; omega), by go_grown⟩
  case round =>
    clear h0
    obtain ⟨i, hi, rfl, HT, HU, hB⟩ := hrel
    by_cases hlt : i < 5
    · obtain ⟨wo, rfl⟩ : ∃ wo : World, wo = wr := ⟨_, rfl⟩
      go_wp2_with fail
      go_loopw [12] (fun kv wr => ∃ k : Nat, k ≤ 5 ∧ kv = .int .i64 k ∧ Hid (TimesAt w.heap.size n m (timesIn n m (timesTo n m i) i k) wr) ∧ Hid (∀ x ∈ timesIn n m (timesTo n m i) i k, x ≤ (5 * i + k) * 45035996273704960) ∧ Below w.heap.size w wr) (fun kv _ => 5 - (intOf kv).toNat)
      case atStart => exact ⟨0, by omega, rfl, HT, Lib.hid (fun x hx => by have := HU.out x hx; omega), hB⟩
      case round =>
        clear HT HU hB
        obtain ⟨k, hk, rfl, HT, HU, hB⟩ := hrel
        by_cases hlk : k < 5
        · have hx := getD_at (L := n) (k := i) (by rw [HN.out.1]; exact hlt)
          have hy := getD_at (L := m) (k := k) (by rw [HN.out.2.1]; exact hlk)
          have hx1 := getD_lt HN.out.2.2.1 (k := i) (by rw [HN.out.1]; exact hlt)
          have hy1 := getD_lt HN.out.2.2.2 (k := k) (by rw [HN.out.2.1]; exact hlk)
          have hp := prod_le hx1 hy1
          have htl : (timesIn n m (timesTo n m i) i k).length = 5 := by rw [timesIn_len, timesTo_len]
          have HU2 := tStep_under htl HU.out hp
          obtain ⟨j, hj⟩ : ∃ j, (i + k) % 5 = j := ⟨_, rfl⟩
          have hj5 : j < 5 := by omega
          have hz := getD_at (L := timesIn n m (timesTo n m i) i k) (k := j) (by rw [htl]; exact hj5)
          have hz1 : (timesIn n m (timesTo n m i) i k).getD j 0 ≤ 1080863910568919040 := by
            rw [List.getD_eq_getElem?_getD, List.getElem?_eq_getElem (by rw [htl]; exact hj5)]
            have := HU.out _ (List.getElem_mem (by rw [htl]; exact hj5))
            simp only [Option.getD_some]
            have h24 : (5 * i + k) * 45035996273704960 ≤ 24 * 45035996273704960 := Nat.mul_le_mul_right _ (by omega)
            omega
          have HS : timesIn n m (timesTo n m i) i (k + 1) = (timesIn n m (timesTo n m i) i k).set j ((timesIn n m (timesTo n m i) i k).getD j 0 + (if 5 ≤ i + k then n.getD i 0 * m.getD k 0 * 5 else n.getD i 0 * m.getD k 0)) := by rw [← hj]; rfl
          have HU3 : ∀ x ∈ timesIn n m (timesTo n m i) i (k + 1), x ≤ (5 * i + (k + 1)) * 45035996273704960 := fun x hx => by
            have := HU2 x hx
            have e : (5 * i + (k + 1)) * 45035996273704960 = (5 * i + k) * 45035996273704960 + 45035996273704960 := by omega
            omega
          generalize n.getD i 0 = x at hx hx1 hp HS
          generalize m.getD k 0 = y at hy hy1 hp HS
          obtain ⟨p, hpp⟩ : ∃ p, x * y = p := ⟨_, rfl⟩
          rw [hpp] at hp HS
          have exy : (x : Int) * (y : Int) = (p : Int) := by rw [← hpp]; simp
          generalize (timesIn n m (timesTo n m i) i k).getD j 0 = z at hz hz1 HS
          have cx := HT.out.1.get hx
          have cy := HT.out.2.1.get hy
          have cz := HT.out.2.2.2.get hz
          have fz := HT.out.2.2.2.free j
          simp only [vN] at cx cy cz
          have i0 : (0 : Int) ≤ i := by omega
          have i1 : (i : Int) < 5 := by omega
          have k0 : (0 : Int) ≤ k := by omega
          have k1 : (k : Int) < 5 := by omega
          have j0 : (0 : Int) ≤ j := by omega
          have j1 : (j : Int) < 5 := by omega
          have ej : ((i : Int) + (k : Int)) % 5 = (j : Int) := by omega
          have hgl := HT.out.2.2.2.lt
          have HU' := Lib.hid HU3
          by_cases hge : 5 ≤ i + k
          · have tg : decide (5 ≤ (i : Int) + (k : Int)) = true := by simp; omega
            rw [if_pos hge] at HS
            have HS' := Lib.hid HS
            clear hx hy hz HS HU2 HU3 hge hpp hj htl
            go_wp2_with fail
            go_region
            all_goals
              go_wp2_with fail
              go_roundw
              case rel => exact ⟨k + 1, by omega, by go_num, Lib.hid (by have := HT.out.step j (z + p * 5); rw [HS'.out]; exact this), HU', by go_grown⟩
              case measure => simp [intOf]; omega
          · have tg : decide (5 ≤ (i : Int) + (k : Int)) = false := by simp; omega
            rw [if_neg hge] at HS
            have HS' := Lib.hid HS
            clear hx hy hz HS HU2 HU3 hge hpp hj htl
            go_wp2_with fail
            go_region
            all_goals
              go_wp2_with fail
              go_roundw
              case rel => exact ⟨k + 1, by omega, by go_num, Lib.hid (by have := HT.out.step j (z + p); rw [HS'.out]; exact this), HU', by go_grown⟩
              case measure => simp [intOf]; omega
        · obtain rfl : k = 5 := by omega
          go_wp2_with fail
          go_roundw
          case rel => exact ⟨i + 1, by omega, by go_num, HT, Lib.hid (fun x hx => by have := HU.out x hx; omega), hB⟩
          case measure => simp [intOf]; omega
    · obtain rfl : i = 5 := by omega
      have HL := Lib.hid (timesTo_len n m 5)
      have HF : Hid (under 1152921504606846976 (timesTo n m 5)) := Lib.hid (fun x hx => by have := HU.out x hx; omega)
      go_wp2_with (first
        | (refine wpList_load_row rfl 194 (.tmp 5) rfl (w.heap.size + 1 + 1 + 1) rfl 194 ((timesTo n m 5).map vN).toArray (0, 0) (.array 5 3) HT.out.2.2.2 (by kernel_rfl) rfl (num_info HL.out) ?_)
        | (refine wpList_store_row rfl 194 (.tmp 4) (.tmp 39) rfl (w.heap.size + 1 + 1) ((timesTo n m 5).map vN).toArray rfl rfl 194 Z5 HT.out.2.2.1 (num_info HL.out) (by rw [num_size HL.out]; rfl) (num_one _) ?_))
      refine bodyPost_ret (results_cell_row (Tryz.results138) _ _ (w.heap.size + 1 + 1) 194 ((timesTo n m 5).map vN).toArray (0, 0) (.array 5 3) rfl (setRow_heap _ _ _ _ _ _ HT.out.2.2.1) (by kernel_rfl) rfl (num_info HL.out)) rfl ?_
      exact ⟨rfl, HF.out, below_setRow hB (by omega) _⟩
end Go.Proofs.YtpkomloblhbkiaaGreatDoor
/- tag: left. -/
namespace Go.Proofs.YtpkomloblhbkiaaGreatDoor
open Go.RowKit
theorem mask26 (a : Nat) (ha : a < 9223372036854775808) : bits .and .i64 (a : Int) 67108863 = ((a % 67108864 : Nat) : Int) := by
  have := i64_and_nat a 67108863 ha (by omega)
  rw [show ((67108863 : Nat) : Int) = 67108863 from rfl] at this
  rw [this]
  have h2 : a &&& 67108863 = a % 67108864 := Nat.and_two_pow_sub_one_eq_mod a 26
  rw [h2]
/-- the boxes of left -/
def LeftAt (g : Nat) (L : List Nat) (W : World) : Prop := Row vN W g 194 L ∧ Blk W (g + 1) 194 Z5
theorem LeftAt.step {g : Nat} {L : List Nat} {W : World} (h : LeftAt g L W) (j v : Nat) : LeftAt g (L.set j v) (W.setCell ⟨g, j, none⟩ (.int .i64 v)) :=
  ⟨h.1.set_ j v, h.2.far (show g + 1 ≠ g by omega) _⟩
theorem carry_at {L : List Nat} (hL : L.length = 5) (hu : under 1152921504606846976 L) (i : Nat) (hi : i < 5) : (carryTo L i).1.getD i 0 < 1152921504606846976 ∧ (carryTo L i).2 < 34359738368 := by
  obtain ⟨h1, h2⟩ := carry_over L hL hu i (by omega)
  exact ⟨getD_lt h1 (by rw [carryTo_len, hL]; exact hi), h2⟩
set_option maxHeartbeats 1000000 in
theorem left_any (n : List Nat) (w : World) (hn : n.length = 5) (h1 : under 1152921504606846976 n) :
    Calls Tryz.prog 139 #[tnumV n] w fun e w' => e = .returned (tnumV (partsOf (valN n % primeP))) ∧ Below w.heap.size w w' := by
  have HN := Lib.hid (And.intro hn h1)
  obtain ⟨V, hV⟩ : ∃ V, partsOf (valN n % primeP) = V := ⟨_, rfl⟩
  rw [hV]
  have HV := Lib.hid hV
  clear hn h1 hV
  unfold tnumV
  go_enter Tryz.func139, Tryz.ntmps139
  go_wp2_with fail
  have h0 : Hid (LeftAt w.heap.size n ((w.alloc (.cells (n.map vN).toArray 194)).alloc (.cells #[.int .i64 0, .int .i64 0, .int .i64 0, .int .i64 0, .int .i64 0] 194))) := Lib.hid ⟨(Blk.new w _ _).alloc _, Blk.new_at (by simp) _ _⟩
  go_loopg [3] (valN n + 1) (fun gk ov wr => ∃ (L : List Nat) (o : Nat), ov = .int .i64 o ∧ Hid (gk = valN L + (if o = 0 then 0 else 1)) ∧ o ≤ 34359738368 ∧ Hid (L.length = 5 ∧ under 1152921504606846976 L ∧ valN L % primeP = valN n % primeP) ∧ Hid (o = 0 → small L) ∧ Hid (LeftAt w.heap.size L wr) ∧ Below w.heap.size w wr)
  case atStart => exact ⟨n, 1, rfl, Lib.hid rfl, by omega, Lib.hid ⟨HN.out.1, HN.out.2, rfl⟩, Lib.hid (fun h => by omega), h0, by go_grown⟩
  case round =>
    clear h0
    obtain ⟨L, o, rfl, HG, ho, HL, HS, HT, hB⟩ := hrel
    by_cases ho0 : o = 0
    · subst ho0
      obtain ⟨a, b, c, d, e, rfl⟩ := list5 HL.out.1
      have hsm := HS.out rfl
      have hv := HV.out
      rw [← HL.out.2.2] at hv
      obtain ⟨s1, s2, s3, s4, s5⟩ := under5 hsm
      have x0 := HT.out.1.cells 0 _ rfl
      have x1 := HT.out.1.cells 1 _ rfl
      have x2 := HT.out.1.cells 2 _ rfl
      have x3 := HT.out.1.cells 3 _ rfl
      have x4 := HT.out.1.cells 4 _ rfl
      simp only [List.map_cons, List.map_nil, List.getElem_toArray, List.getElem_cons_zero, List.getElem_cons_succ, vN] at x0 x1 x2 x3 x4
      by_cases q1 : 67108859 ≤ a
      · have t1 : decide (67108859 ≤ (a : Int)) = true := by simp; omega
        by_cases q2 : b = 67108863
        · have t2 : ((b : Int) == 67108863) = true := by simp; omega
          by_cases q3 : c = 67108863
          · have t3 : ((c : Int) == 67108863) = true := by simp; omega
            by_cases q4 : d = 67108863
            · have t4 : ((d : Int) == 67108863) = true := by simp; omega
              by_cases q5 : e = 67108863
              · have t5 : ((e : Int) == 67108863) = true := by simp; omega
                obtain ⟨z, hz⟩ : ∃ z, a - 67108859 = z := ⟨_, rfl⟩
                have HE : V = [z, 0, 0, 0, 0] := hv.symm.trans (by rw [left_yes a b c d e s1 q1 q2 q3 q4 q5, hz])
                have ez : (a : Int) - 67108859 = (z : Int) := by omega
                have HEE := Lib.hid HE
                clear HE hv hsm hz q1 q2 q3 q4 q5
                go_wp2_with (refine wpList_store_row rfl 194 (.tmp 2) (.tmp 58) rfl (w.heap.size + 1) #[.int .i64 z, .int .i64 0, .int .i64 0, .int .i64 0, .int .i64 0] rfl rfl 194 Z5 HT.out.2 (by kernel_rfl) (by rfl) (by simp [Value.oneCell']) ?_)
                refine bodyPost_ret (results_cell_row (Tryz.results139) _ _ (w.heap.size + 1) 194 #[.int .i64 z, .int .i64 0, .int .i64 0, .int .i64 0, .int .i64 0] (0, 0) (.array 5 3) rfl (setRow_heap _ _ _ _ _ _ HT.out.2) (by kernel_rfl) rfl (by kernel_rfl)) rfl ?_
                exact ⟨by rw [HEE.out]; rfl, below_setRow hB (by omega) _⟩
              · have t5 : ((e : Int) == 67108863) = false := by simp; omega
                have HE : V = [a, b, c, d, e] := hv.symm.trans (left_no a b c d e hsm (by omega))
                have HR : Hid (Row vN wr w.heap.size 194 V) := Lib.hid (by rw [HE]; exact HT.out.1)
                have HVL : Hid (V.length = 5) := Lib.hid (by rw [HE]; rfl)
                clear HE hv hsm q1 q2 q3 q4 q5
                go_wp2_with (first
                  | (refine wpList_load_row rfl 194 (.tmp 1) rfl w.heap.size rfl 194 (V.map vN).toArray (0, 0) (.array 5 3) HR.out (by kernel_rfl) rfl (num_info HVL.out) ?_)
                  | (refine wpList_store_row rfl 194 (.tmp 2) (.tmp 59) rfl (w.heap.size + 1) (V.map vN).toArray rfl rfl 194 Z5 HT.out.2 (num_info HVL.out) (by rw [num_size HVL.out]; rfl) (num_one _) ?_))
                refine bodyPost_ret (results_cell_row (Tryz.results139) _ _ (w.heap.size + 1) 194 (V.map vN).toArray (0, 0) (.array 5 3) rfl (setRow_heap _ _ _ _ _ _ HT.out.2) (by kernel_rfl) rfl (num_info HVL.out)) rfl ?_
                exact ⟨rfl, below_setRow hB (by omega) _⟩
            · have t4 : ((d : Int) == 67108863) = false := by simp; omega
              have HE : V = [a, b, c, d, e] := hv.symm.trans (left_no a b c d e hsm (by omega))
              have HR : Hid (Row vN wr w.heap.size 194 V) := Lib.hid (by rw [HE]; exact HT.out.1)
              have HVL : Hid (V.length = 5) := Lib.hid (by rw [HE]; rfl)
              clear HE hv hsm q1 q2 q3 q4
              go_wp2_with (first
                | (refine wpList_load_row rfl 194 (.tmp 1) rfl w.heap.size rfl 194 (V.map vN).toArray (0, 0) (.array 5 3) HR.out (by kernel_rfl) rfl (num_info HVL.out) ?_)
                | (refine wpList_store_row rfl 194 (.tmp 2) (.tmp 59) rfl (w.heap.size + 1) (V.map vN).toArray rfl rfl 194 Z5 HT.out.2 (num_info HVL.out) (by rw [num_size HVL.out]; rfl) (num_one _) ?_))
              refine bodyPost_ret (results_cell_row (Tryz.results139) _ _ (w.heap.size + 1) 194 (V.map vN).toArray (0, 0) (.array 5 3) rfl (setRow_heap _ _ _ _ _ _ HT.out.2) (by kernel_rfl) rfl (num_info HVL.out)) rfl ?_
              exact ⟨rfl, below_setRow hB (by omega) _⟩
          · have t3 : ((c : Int) == 67108863) = false := by simp; omega
            have HE : V = [a, b, c, d, e] := hv.symm.trans (left_no a b c d e hsm (by omega))
            have HR : Hid (Row vN wr w.heap.size 194 V) := Lib.hid (by rw [HE]; exact HT.out.1)
            have HVL : Hid (V.length = 5) := Lib.hid (by rw [HE]; rfl)
            clear HE hv hsm q1 q2 q3
            go_wp2_with (first
              | (refine wpList_load_row rfl 194 (.tmp 1) rfl w.heap.size rfl 194 (V.map vN).toArray (0, 0) (.array 5 3) HR.out (by kernel_rfl) rfl (num_info HVL.out) ?_)
              | (refine wpList_store_row rfl 194 (.tmp 2) (.tmp 59) rfl (w.heap.size + 1) (V.map vN).toArray rfl rfl 194 Z5 HT.out.2 (num_info HVL.out) (by rw [num_size HVL.out]; rfl) (num_one _) ?_))
            refine bodyPost_ret (results_cell_row (Tryz.results139) _ _ (w.heap.size + 1) 194 (V.map vN).toArray (0, 0) (.array 5 3) rfl (setRow_heap _ _ _ _ _ _ HT.out.2) (by kernel_rfl) rfl (num_info HVL.out)) rfl ?_
            exact ⟨rfl, below_setRow hB (by omega) _⟩
        · have t2 : ((b : Int) == 67108863) = false := by simp; omega
          have HE : V = [a, b, c, d, e] := hv.symm.trans (left_no a b c d e hsm (by omega))
          have HR : Hid (Row vN wr w.heap.size 194 V) := Lib.hid (by rw [HE]; exact HT.out.1)
          have HVL : Hid (V.length = 5) := Lib.hid (by rw [HE]; rfl)
          clear HE hv hsm q1 q2
          go_wp2_with (first
            | (refine wpList_load_row rfl 194 (.tmp 1) rfl w.heap.size rfl 194 (V.map vN).toArray (0, 0) (.array 5 3) HR.out (by kernel_rfl) rfl (num_info HVL.out) ?_)
            | (refine wpList_store_row rfl 194 (.tmp 2) (.tmp 59) rfl (w.heap.size + 1) (V.map vN).toArray rfl rfl 194 Z5 HT.out.2 (num_info HVL.out) (by rw [num_size HVL.out]; rfl) (num_one _) ?_))
          refine bodyPost_ret (results_cell_row (Tryz.results139) _ _ (w.heap.size + 1) 194 (V.map vN).toArray (0, 0) (.array 5 3) rfl (setRow_heap _ _ _ _ _ _ HT.out.2) (by kernel_rfl) rfl (num_info HVL.out)) rfl ?_
          exact ⟨rfl, below_setRow hB (by omega) _⟩
      · have t1 : decide (67108859 ≤ (a : Int)) = false := by simp; omega
        have HE : V = [a, b, c, d, e] := hv.symm.trans (left_no a b c d e hsm (by omega))
        have HR : Hid (Row vN wr w.heap.size 194 V) := Lib.hid (by rw [HE]; exact HT.out.1)
        have HVL : Hid (V.length = 5) := Lib.hid (by rw [HE]; rfl)
        clear HE hv hsm q1
        go_wp2_with (first
          | (refine wpList_load_row rfl 194 (.tmp 1) rfl w.heap.size rfl 194 (V.map vN).toArray (0, 0) (.array 5 3) HR.out (by kernel_rfl) rfl (num_info HVL.out) ?_)
          | (refine wpList_store_row rfl 194 (.tmp 2) (.tmp 59) rfl (w.heap.size + 1) (V.map vN).toArray rfl rfl 194 Z5 HT.out.2 (num_info HVL.out) (by rw [num_size HVL.out]; rfl) (num_one _) ?_))
        refine bodyPost_ret (results_cell_row (Tryz.results139) _ _ (w.heap.size + 1) 194 (V.map vN).toArray (0, 0) (.array 5 3) rfl (setRow_heap _ _ _ _ _ _ HT.out.2) (by kernel_rfl) rfl (num_info HVL.out)) rfl ?_
        exact ⟨rfl, below_setRow hB (by omega) _⟩
    · have t1 : ((o : Int) != 0) = true := by simp; omega
      have HO := Lib.hid ho0
      clear ho0
      obtain ⟨wo, rfl⟩ : ∃ wo : World, wo = wr := ⟨_, rfl⟩
      go_wp2_with fail
      clear t1
      go_loopw [3, 7] (fun ov iv wr => ∃ i q : Nat, i ≤ 5 ∧ iv = .int .i64 i ∧ ov = .int .i64 q ∧ Hid ((carryTo L i).2 = q) ∧ Hid (LeftAt w.heap.size (carryTo L i).1 wr) ∧ Below w.heap.size w wr) (fun _ iv _ => 5 - (intOf iv).toNat)
      case atStart => exact ⟨0, 0, by omega, rfl, rfl, rfl, HT, hB⟩
      case round =>
        clear HT hB
        obtain ⟨i, q, hi, rfl, rfl, HQ, HT, hB⟩ := hrel
        by_cases hlt : i < 5
        · obtain ⟨hx1, hq1⟩ := carry_at HL.out.1 HL.out.2.1 i hlt
          have hx := getD_at (L := (carryTo L i).1) (k := i) (by rw [carryTo_len, HL.out.1]; exact hlt)
          rw [HQ.out] at hq1
          have HS1 : (carryTo L (i + 1)).1 = (carryTo L i).1.set i (((carryTo L i).1.getD i 0 + q) % 67108864) := by rw [carryTo, HQ.out]
          have HS2 : (carryTo L (i + 1)).2 = ((carryTo L i).1.getD i 0 + q) / 67108864 := by rw [carryTo, HQ.out]
          generalize (carryTo L i).1.getD i 0 = x at hx hx1 HS1 HS2
          have hm := mask26 (x + q) (by omega)
          rw [show ((x + q : Nat) : Int) = (x : Int) + (q : Int) from by simp] at hm
          obtain ⟨y, hy⟩ : ∃ y, (x + q) % 67108864 = y := ⟨_, rfl⟩
          rw [hy] at hm HS1
          have cx := HT.out.1.get hx
          have fx := HT.out.1.free i
          simp only [vN] at cx
          have i0 : (0 : Int) ≤ i := by omega
          have i1 : (i : Int) < 5 := by omega
          have hgl := HT.out.1.lt
          have HSS := Lib.hid (And.intro HS1 HS2)
          clear hx HS1 HS2 hy
          go_wp2_with fail
          go_roundw
          case rel => exact ⟨i + 1, (x + q) / 67108864, by omega, by go_num, by go_num, Lib.hid HSS.out.2, Lib.hid (by have := (HT.out.step i (x + q)).step i y; rw [List.set_set, ← HSS.out.1] at this; exact this), by go_grown⟩
          case measure => simp [intOf]; omega
        · obtain rfl : i = 5 := by omega
          obtain ⟨hc1, hc2⟩ := carry_over L HL.out.1 HL.out.2.1 5 (by omega)
          rw [HQ.out] at hc2
          obtain ⟨r1, r2, r3⟩ := carry_round L HL.out.1
          have hcu := carried_under L HL.out.1 HL.out.2.1
          have hcl := carried_len L
          have hx := getD_at (L := (carryTo L 5).1) (k := 0) (by rw [carryTo_len, HL.out.1]; omega)
          have hx1 := getD_lt hc1 (k := 0) (by rw [carryTo_len, HL.out.1]; omega)
          have HS1 : carried L = (carryTo L 5).1.set 0 ((carryTo L 5).1.getD 0 0 + 5 * q) := by rw [carried, HQ.out]
          rw [HQ.out] at r2 r3
          generalize (carryTo L 5).1.getD 0 0 = x at hx hx1 HS1
          have cx := HT.out.1.get hx
          have fx := HT.out.1.free 0
          simp only [vN] at cx
          have hgl := HT.out.1.lt
          have HSS := Lib.hid (And.intro HS1 (And.intro r1 (And.intro r2 (And.intro r3 (And.intro hcu hcl)))))
          clear hx HS1 r1 r2 r3 hcu hcl hc1
          go_wp2_with fail
          go_roundg (valN (carried L) + (if q = 0 then 0 else 1))
          case measure =>
            have hr := HSS.out.2.2.1
            have hr3 := HSS.out.2.2.2.1
            have hg := HG.out
            rw [if_neg HO.out] at hg
            by_cases hq0 : q = 0
            · rw [if_pos hq0, (hr3 hq0).1]; omega
            · rw [if_neg hq0]
              have := hr (by omega)
              omega
          case rel => exact ⟨carried L, q, rfl, rfl, by omega, Lib.hid ⟨by rw [HSS.out.2.2.2.2.2]; exact HL.out.1, HSS.out.2.2.2.2.1, HSS.out.2.1.trans HL.out.2.2⟩, Lib.hid (fun h => (HSS.out.2.2.2.1 h).2), Lib.hid (by have := HT.out.step 0 (x + 5 * q); rw [← HSS.out.1] at this; exact this), by go_grown⟩
end Go.Proofs.YtpkomloblhbkiaaGreatDoor
/- tag: digits, read. -/
namespace Go.Proofs.YtpkomloblhbkiaaGreatDoor
open Go.RowKit
theorem mask8 (a : Nat) (ha : a < 9223372036854775808) : bits .and .i64 (a : Int) 255 = ((a % 256 : Nat) : Int) := by
  have := i64_and_nat a 255 ha (by omega)
  rw [show ((255 : Nat) : Int) = 255 from rfl] at this
  rw [this]
  have h2 : a &&& 255 = a % 256 := Nat.and_two_pow_sub_one_eq_mod a 8
  rw [h2]
theorem tor_high (a b k : Nat) (h : b < 2 ^ k) : a * 2 ^ k ||| b = a * 2 ^ k + b := by
  rw [← Nat.shiftLeft_eq, ← Nat.shiftLeft_add_eq_or_of_lt h]
theorem pow_cast (b : Nat) : ((2 : Int) ^ b) = ((2 ^ b : Nat) : Int) := by simp
theorem wrap64_nat (n : Nat) (h : n < 9223372036854775808) : wrap64 (n : Int) = n := by
  unfold wrap64; omega
theorem dig_val (x y b : Nat) (hx : x < 67108864) (hy : y < 67108864) (hb : b < 26) :
    bits .and .i64 (bits .or .i64 ((x : Int) / 2 ^ b) (wrap64 ((y : Int) * 2 ^ (26 - b)))) 255 = (((x / 2 ^ b + y * 2 ^ (26 - b)) % 256 : Nat) : Int) := by
  have hp : 2 ^ (26 - b) * 2 ^ b = 67108864 := by rw [← Nat.pow_add, show 26 - b + b = 26 by omega]
  have h1 : x / 2 ^ b < 2 ^ (26 - b) := by rw [Nat.div_lt_iff_lt_mul (Nat.two_pow_pos _), hp]; exact hx
  have h2 : 2 ^ (26 - b) ≤ 67108864 := Nat.pow_le_pow_right (n := 2) (by omega) (show 26 - b ≤ 26 by omega)
  have h3 : y * 2 ^ (26 - b) ≤ 67108864 * 67108864 := Nat.mul_le_mul (by omega) h2
  have e1 : (x : Int) / 2 ^ b = ((x / 2 ^ b : Nat) : Int) := by rw [pow_cast]; simp
  have e2 : (y : Int) * 2 ^ (26 - b) = ((y * 2 ^ (26 - b) : Nat) : Int) := by rw [pow_cast]; simp
  rw [e1, e2, wrap64_nat _ (by omega), i64_or_nat _ _ (by omega) (by omega), Nat.or_comm, tor_high _ _ _ h1, mask8 _ (by omega), Nat.add_comm]
theorem dig_val4 (x b : Nat) (hx : x < 67108864) : bits .and .i64 ((x : Int) / 2 ^ b) 255 = ((x / 2 ^ b % 256 : Nat) : Int) := by
  have e1 : (x : Int) / 2 ^ b = ((x / 2 ^ b : Nat) : Int) := by rw [pow_cast]; simp
  have := Nat.div_le_self x (2 ^ b)
  rw [e1, mask8 _ (by omega)]
theorem make17 (w : World) : (Instr.makeSlice 29 (.int .i64 17) (.int .i64 17)).run Tryz.prog w = .ok (.slice (some ⟨w.heap.size, 0, none⟩) 17 17) (w.alloc (.cells (List.replicate 17 (Value.int .i64 0)).toArray 3)) :=
  run_mkrow (P := Tryz.prog) 29 3 (.int .i64 0) 8 Tryz.underlying29 int_info3 rfl 17 (by omega) (by omega) w
def digTo (V k : Nat) : List Nat := (rowOf V).take k ++ List.replicate (17 - k) 0
theorem digTo_len (V k : Nat) (h : k ≤ 17) : (digTo V k).length = 17 := by simp [digTo, rowOf_len]; omega
theorem digTo_step (V k : Nat) (h : k < 17) : (digTo V k).set k (V / 256 ^ k % 256) = digTo V (k + 1) := by
  have hl : ((rowOf V).take k).length = k := by rw [List.length_take, rowOf_len]; omega
  have hg : (rowOf V)[k]? = some (V / 256 ^ k % 256) := by simp [rowOf, h]
  unfold digTo
  rw [List.set_append_right _ _ (by omega), hl, Nat.sub_self, show 17 - k = (17 - (k + 1)) + 1 by omega, List.replicate_succ, List.set_cons_zero, List.take_add_one, hg]
  simp
theorem digTo_end (V : Nat) : digTo V 17 = rowOf V := by
  unfold digTo
  rw [List.take_of_length_le (by rw [rowOf_len]; omega)]
  simp
theorem parts_get (V k : Nat) (hk : k < 5) : (partsOf V)[k]? = some (V / 67108864 ^ k % 67108864) := by simp [partsOf, hk]
set_option maxHeartbeats 1000000 in
theorem digits_any (V : Nat) (w : World) (hV : V < 1361129467683753853853498429727072845824) :
    Calls Tryz.prog 140 #[tnumV (partsOf V)] w fun e w' => ∃ g, e = .returned (.slice (some ⟨g, 0, none⟩) 17 17) ∧ Row vN w' g 3 (rowOf V) ∧ w.heap.size ≤ g ∧ Below w.heap.size w w' := by
  have HV := Lib.hid hV
  obtain ⟨L, hL⟩ : ∃ L, partsOf V = L := ⟨_, rfl⟩
  rw [hL]
  have HL := Lib.hid hL
  have hmk := make17
  clear hL hV
  unfold tnumV
  go_enter Tryz.func140, Tryz.ntmps140
  go_wp2_with fail
  clear hmk
  have h0 : Hid (Row vN ((w.alloc (.cells (L.map vN).toArray 194)).alloc (.cells (List.replicate 17 (Value.int .i64 0)).toArray 3)) (w.heap.size + 1) 3 (digTo V 0)) := Lib.hid (Blk.new_at (by simp) _ _)
  have hP0 : Hid (Row vN ((w.alloc (.cells (L.map vN).toArray 194)).alloc (.cells (List.replicate 17 (Value.int .i64 0)).toArray 3)) w.heap.size 194 L) := Lib.hid ((Blk.new w _ _).alloc _)
  go_loopw [11] (fun iv wr => ∃ i : Nat, i ≤ 17 ∧ iv = .int .i64 i ∧ Hid (Row vN wr (w.heap.size + 1) 3 (digTo V i)) ∧ Hid (Row vN wr w.heap.size 194 L) ∧ Below w.heap.size w wr) (fun iv _ => 17 - (intOf iv).toNat)
  case atStart => exact ⟨0, by omega, rfl, h0, hP0, by go_grown⟩
  case round =>
    clear h0 hP0
    obtain ⟨i, hi, rfl, HR, HP, hB⟩ := hrel
    by_cases hlt : i < 17
    · have hd := digit_at V i hlt HV.out
      obtain ⟨k, hk⟩ : ∃ k, 8 * i / 26 = k := ⟨_, rfl⟩
      obtain ⟨b, hb⟩ : ∃ b, 8 * i % 26 = b := ⟨_, rfl⟩
      have hk5 : k < 5 := by omega
      have hb26 : b < 26 := by omega
      rw [hk, hb] at hd
      have hx := parts_get V k hk5
      rw [HL.out] at hx
      have hx1 : V / 67108864 ^ k % 67108864 < 67108864 := Nat.mod_lt _ (by omega)
      generalize V / 67108864 ^ k % 67108864 = x at hx hx1 hd
      have cx := HP.out.get hx
      have hz := getD_at (L := digTo V i) (k := i) (by rw [digTo_len V i hi]; exact hlt)
      have cz := HR.out.get hz
      have fz := HR.out.free i
      simp only [vN] at cx cz
      have ek : (8 * (i : Int)) / 26 = (k : Int) := by omega
      have eb : (8 * (i : Int)) % 26 = (b : Int) := by omega
      have i0 : (0 : Int) ≤ i := by omega
      have i1 : (i : Int) < 17 := by omega
      have k0 : (0 : Int) ≤ k := by omega
      have k1 : (k : Int) < 5 := by omega
      have b0 : (0 : Int) ≤ b := by omega
      have b1 : (b : Int) < 26 := by omega
      have hgl := HR.out.lt
      by_cases hk4 : k < 4
      · have tk : decide ((k : Int) < 4) = true := by simp; omega
        rw [if_pos hk4] at hd
        have hy := parts_get V (k + 1) (by omega)
        rw [HL.out] at hy
        have hy1 : V / 67108864 ^ (k + 1) % 67108864 < 67108864 := Nat.mod_lt _ (by omega)
        generalize V / 67108864 ^ (k + 1) % 67108864 = y at hy hy1 hd
        obtain ⟨k', hk'⟩ : ∃ k', k + 1 = k' := ⟨_, rfl⟩
        rw [hk'] at hy
        have cy := HP.out.get hy
        simp only [vN] at cy
        have ek' : (k : Int) + 1 = (k' : Int) := by omega
        have k'0 : (0 : Int) ≤ k' := by omega
        have k'1 : (k' : Int) < 5 := by omega
        have HD := Lib.hid hd
        clear hd hx hy hz hk hb hk4 hk'
        go_wp2_with fail
        go_roundw
        case rel =>
          refine ⟨i + 1, by omega, by go_num, Lib.hid ?_, Lib.hid (HP.out.far (show w.heap.size ≠ w.heap.size + 1 by omega) _), by go_grown⟩
          rw [dig_val x y b hx1 hy1 hb26, ← HD.out, ← digTo_step V i hlt]
          exact HR.out.set_ i _
        case measure => simp [intOf]; omega
      · have tk : decide ((k : Int) < 4) = false := by simp; omega
        rw [if_neg hk4, Nat.add_zero] at hd
        have HD := Lib.hid hd
        clear hd hx hz hk hb hk4
        go_wp2_with fail
        go_roundw
        case rel =>
          refine ⟨i + 1, by omega, by go_num, Lib.hid ?_, Lib.hid (HP.out.far (show w.heap.size ≠ w.heap.size + 1 by omega) _), by go_grown⟩
          rw [dig_val4 x b hx1, ← HD.out, ← digTo_step V i hlt]
          exact HR.out.set_ i _
        case measure => simp [intOf]; omega
    · obtain rfl : i = 17 := by omega
      have HE := Lib.hid (digTo_end V)
      go_wp2_with fail
      go_ret
      exact ⟨_, rfl, by have := HR.out; rw [HE.out] at this; exact this, by omega, hB⟩
end Go.Proofs.YtpkomloblhbkiaaGreatDoor
/- tag: read. -/
namespace Go.Proofs.YtpkomloblhbkiaaGreatDoor
open Go.RowKit
theorem valD_append (l m : List Nat) : valD (l ++ m) = valD l + 256 ^ l.length * valD m := by
  induction l with
  | nil => simp [valD]
  | cons x l ih => simp only [List.cons_append, valD, ih, List.length_cons, Nat.pow_succ]; rw [Nat.mul_add, Nat.mul_comm (256 ^ l.length) 256, Nat.mul_assoc]; omega
theorem valD_take (l : List Nat) (k : Nat) : valD (l.take k) ≤ valD l := by
  have := valD_append (l.take k) (l.drop k)
  rw [List.take_append_drop] at this
  omega
theorem valD_take_succ {l : List Nat} {k x : Nat} (h : l[k]? = some x) : valD (l.take (k + 1)) = valD (l.take k) + x * 256 ^ k := by
  have hk : k < l.length := (List.getElem?_eq_some_iff.1 h).1
  rw [List.take_add_one, h]
  simp only [Option.toList_some]
  rw [valD_snoc, List.length_take, Nat.min_eq_left (by omega)]
/-- the boxes of read -/
def ReadAt (g : Nat) (L : List Nat) (W : World) : Prop := Blk W g 194 Z5 ∧ Row vN W (g + 1) 194 L
theorem ReadAt.step {g : Nat} {L : List Nat} {W : World} (h : ReadAt g L W) (j v : Nat) : ReadAt g (L.set j v) (W.setCell ⟨g + 1, j, none⟩ (.int .i64 v)) :=
  ⟨h.1.far (show g ≠ g + 1 by omega) _, h.2.set_ j v⟩
theorem parts_len (V : Nat) : (partsOf V).length = 5 := by simp [partsOf]
theorem parts_getD (V k : Nat) : (partsOf V).getD k 0 < 67108864 := by
  rw [List.getD_eq_getElem?_getD]
  by_cases h : k < 5
  · rw [parts_get V k h]; exact Nat.mod_lt _ (by omega)
  · rw [List.getElem?_eq_none (by rw [parts_len]; omega)]; simp
theorem shl_le (x b : Nat) (hx : x < 256) (hb : b < 26) : x * 2 ^ b ≤ 17179869184 := by
  have h2 : 2 ^ b ≤ 67108864 := Nat.pow_le_pow_right (n := 2) (by omega) (show b ≤ 26 by omega)
  have := Nat.mul_le_mul (show x ≤ 256 by omega) h2
  omega
theorem shl_val (x b : Nat) (hx : x < 256) (hb : b < 26) : wrap64 ((x : Int) * 2 ^ b) = ((x * 2 ^ b : Nat) : Int) := by
  have := shl_le x b hx hb
  have e2 : (x : Int) * 2 ^ b = ((x * 2 ^ b : Nat) : Int) := by rw [pow_cast]; simp
  rw [e2, wrap64_nat _ (by omega)]
theorem read_lo (p x b : Nat) (hp : p < 67108864) (hx : x < 256) (hb : b < 26) : wrap64 ((p : Int) + bits .and .i64 (wrap64 ((x : Int) * 2 ^ b)) 67108863) = ((p + x * 2 ^ b % 67108864 : Nat) : Int) := by
  have h := shl_le x b hx hb
  rw [shl_val x b hx hb, mask26 _ (by omega)]
  rw [show (p : Int) + ((x * 2 ^ b % 67108864 : Nat) : Int) = ((p + x * 2 ^ b % 67108864 : Nat) : Int) from by simp]
  exact wrap64_nat _ (by omega)
theorem read_hi (q x b : Nat) (hq : q < 67108864) (hx : x < 256) (hb : b < 26) : wrap64 ((q : Int) + wrap64 ((x : Int) * 2 ^ b) / 67108864) = ((q + x * 2 ^ b / 67108864 : Nat) : Int) := by
  have h := shl_le x b hx hb
  rw [shl_val x b hx hb]
  rw [show (q : Int) + ((x * 2 ^ b : Nat) : Int) / 67108864 = ((q + x * 2 ^ b / 67108864 : Nat) : Int) from by simp]
  exact wrap64_nat _ (by omega)
set_option maxHeartbeats 1000000 in
theorem tread_any (D : List Nat) (A : Option Addr) (n c : Nat) (w : World) (hD : SlR encI 1 w w.heap.size A n (ints D)) (hn : n ≤ 17) (h256 : ∀ x ∈ D, x < 256) (hv : valD D < 1361129467683753853853498429727072845824) (hpos : 0 < n) :
    Calls Tryz.prog 136 #[.slice A n c] w fun e w' => e = .returned (tnumV (partsOf (valD D))) ∧ Below w.heap.size w w' := by
  obtain ⟨hl, hA⟩ := hD
  have hl2 : D.length = n := by simpa [ints] using hl
  obtain ⟨bb, off, rfl, hbl, hC⟩ := hA.resolve_left (by omega)
  have HC := Lib.hid hC
  have HD := Lib.hid (And.intro hl2 (And.intro h256 hv))
  obtain ⟨VV, hVV⟩ : ∃ VV, partsOf (valD D) = VV := ⟨_, rfl⟩
  rw [hVV]
  have HVV := Lib.hid hVV
  clear hl hl2 hA hC h256 hv hVV
  unfold tnumV
  go_enter Tryz.func136, Tryz.ntmps136
  go_wp2_with fail
  have h0 : Hid (ReadAt w.heap.size (partsOf (valD (D.take 0))) ((w.alloc (.cells #[.int .i64 0, .int .i64 0, .int .i64 0, .int .i64 0, .int .i64 0] 194)).alloc (.cells #[.int .i64 0, .int .i64 0, .int .i64 0, .int .i64 0, .int .i64 0] 194))) := Lib.hid ⟨(Blk.new w _ _).alloc _, by have := Blk.new_at (w := w.alloc (.cells #[.int .i64 0, .int .i64 0, .int .i64 0, .int .i64 0, .int .i64 0] 194)) (g := w.heap.size + 1) (by simp) 194 Z5; rw [show partsOf (valD (D.take 0)) = [0, 0, 0, 0, 0] from by rw [List.take_zero]; decide]; exact this⟩
  go_loopw [9] (fun iv wr => ∃ i : Nat, i ≤ n ∧ iv = .int .i64 i ∧ Hid (ReadAt w.heap.size (partsOf (valD (D.take i))) wr) ∧ Below w.heap.size w wr) (fun iv _ => n - (intOf iv).toNat)
  case atStart => exact ⟨0, by omega, rfl, h0, by go_grown⟩
  case round =>
    clear h0
    obtain ⟨i, hi, rfl, HR, hB⟩ := hrel
    by_cases hlt : i < n
    · obtain ⟨x, hx⟩ : ∃ x, D[i]? = some x := ⟨_, List.getElem?_eq_getElem (by rw [HD.out.1]; exact hlt)⟩
      have hx1 := HD.out.2.1 x (List.mem_of_getElem? hx)
      have cx := (HC.out.below hB hbl).int (ints_get hx)
      have hvs := valD_take_succ hx
      have hle := valD_take D (i + 1)
      have hlt2 : valD (D.take i) < 256 ^ i := by
        have := valD_lt (D.take i) (fun y hy => HD.out.2.1 y (List.mem_of_mem_take hy))
        rwa [List.length_take, HD.out.1, Nat.min_eq_left (by omega)] at this
      have hput := putD_at (valD (D.take i)) i x (by omega) hx1 hlt2 (by have := HD.out.2.2; omega)
      rw [← hvs] at hput
      generalize valD (D.take i) = V at *
      obtain ⟨k, hk⟩ : ∃ k, 8 * i / 26 = k := ⟨_, rfl⟩
      obtain ⟨b, hb⟩ : ∃ b, 8 * i % 26 = b := ⟨_, rfl⟩
      have hk5 : k < 5 := by omega
      have hb26 : b < 26 := by omega
      unfold putD at hput
      simp only [hk, hb] at hput
      have hp := getD_at (L := partsOf V) (k := k) (by rw [parts_len]; exact hk5)
      have hp1 := parts_getD V k
      have ek : (8 * (i : Int)) / 26 = (k : Int) := by omega
      have eb : (8 * (i : Int)) % 26 = (b : Int) := by omega
      have i0 : (0 : Int) ≤ i := by omega
      have k0 : (0 : Int) ≤ k := by omega
      have k1 : (k : Int) < 5 := by omega
      have b0 : (0 : Int) ≤ b := by omega
      have b1 : (b : Int) < 26 := by omega
      have hgl := HR.out.2.lt
      have cp := HR.out.2.get hp
      have fp := HR.out.2.free k
      simp only [vN] at cp
      by_cases hk4 : k < 4
      · have tk : decide ((k : Int) < 4) = true := by simp; omega
        obtain ⟨k', hk'⟩ : ∃ k', k + 1 = k' := ⟨_, rfl⟩
        have hne : k ≠ k' := by omega
        rw [if_pos hk4, hk'] at hput
        rw [List.getD_eq_getElem?_getD (l := List.set _ _ _), List.getElem?_set_ne hne, ← List.getD_eq_getElem?_getD] at hput
        have hq := getD_at (L := partsOf V) (k := k') (by rw [parts_len]; omega)
        have hq1 := parts_getD V k'
        generalize (partsOf V).getD k 0 = p at hp hp1 hput cp
        generalize (partsOf V).getD k' 0 = q at hq hq1 hput
        have cq := HR.out.2.get hq
        have fq := HR.out.2.free k'
        simp only [vN] at cq
        have ek' : (k : Int) + 1 = (k' : Int) := by omega
        have k'0 : (0 : Int) ≤ k' := by omega
        have k'1 : (k' : Int) < 5 := by omega
        have HP := Lib.hid hput
        clear hput hx hvs hle hlt2 hp hq hk hb hk4 hk'
        go_wp2_with fail
        go_roundw
        case rel =>
          refine ⟨i + 1, by omega, by go_num, Lib.hid ?_, by go_grown⟩
          rw [read_lo p x b hp1 hx1 hb26, read_hi q x b hq1 hx1 hb26, ← HP.out]
          exact (HR.out.step k _).step k' _
        case measure => simp [intOf]; omega
      · have tk : decide ((k : Int) < 4) = false := by simp; omega
        rw [if_neg hk4] at hput
        generalize (partsOf V).getD k 0 = p at hp hp1 hput cp
        have HP := Lib.hid hput
        clear hput hx hvs hle hlt2 hp hk hb hk4
        go_wp2_with fail
        go_roundw
        case rel =>
          refine ⟨i + 1, by omega, by go_num, Lib.hid ?_, by go_grown⟩
          rw [read_lo p x b hp1 hx1 hb26, ← HP.out]
          exact HR.out.step k _
        case measure => simp [intOf]; omega
    · obtain rfl : i = n := by omega
      have hE : D.take i = D := List.take_of_length_le (by rw [HD.out.1]; exact Nat.le_refl _)
      have hR := HR.out
      rw [hE, HVV.out] at hR
      have HL := Lib.hid (parts_len (valD D))
      rw [HVV.out] at HL
      have HR' := Lib.hid hR
      clear hE hR HR
      go_wp2_with (first
        | (refine wpList_load_row rfl 194 (.tmp 3) rfl (w.heap.size + 1) rfl 194 (VV.map vN).toArray (0, 0) (.array 5 3) HR'.out.2 (by kernel_rfl) rfl (num_info HL.out) ?_)
        | (refine wpList_store_row rfl 194 (.tmp 2) (.tmp 40) rfl w.heap.size (VV.map vN).toArray rfl rfl 194 Z5 HR'.out.1 (num_info HL.out) (by rw [num_size HL.out]; rfl) (num_one _) ?_))
      refine bodyPost_ret (results_cell_row (Tryz.results136) _ _ w.heap.size 194 (VV.map vN).toArray (0, 0) (.array 5 3) rfl (setRow_heap _ _ _ _ _ _ HR'.out.1) (by kernel_rfl) rfl (num_info HL.out)) rfl ?_
      exact ⟨rfl, below_setRow hB (by omega) _⟩
end Go.Proofs.YtpkomloblhbkiaaGreatDoor
/- tag: isRow, digitsOf. -/
namespace Go.Proofs.YtpkomloblhbkiaaGreatDoor
open Go.RowKit
theorem SlC.at_ {w : World} {b off : Nat} {L : List Int} (h : SlC encI 1 w b off L) {k : Nat} {s : Int} (hl : L[k]? = some s) {o : Nat} (ho : o = off + k) : w.cell? ⟨b, o, none⟩ = some (.int .i64 s) := by subst ho; exact h.int hl
set_option maxHeartbeats 1000000 in
set_option maxRecDepth 100000 in
theorem isrow_good (D : List Nat) (A : Option Addr) (c : Nat) (w : World) (hS : SlR encI 1 w w.heap.size A 17 (ints D)) (hD : Digits D) (hc : 17 ≤ c) (hc2 : c ≤ 9223372036854775807) :
    Calls Tryz.prog 135 #[.slice A 17 c] w fun e w' => e = .returned (.bool true) ∧ w = w' := by
  obtain ⟨hl, hA⟩ := hS
  obtain ⟨b, off, rfl, hb, hC⟩ := hA.resolve_left (by omega)
  have hl2 := hD.1
  have hlast := digits_last D hD
  have hlow := digits_low D hD
  have HC := Lib.hid hC
  have HD := Lib.hid hD
  have HW := Lib.hid hlow
  have hz := getD_at (L := D) (k := 16) (by omega)
  obtain ⟨z, hz'⟩ : ∃ z, D.getD 16 0 = z := ⟨_, rfl⟩
  rw [hz'] at hz hlast
  have cz := hC.at_ (ints_get hz) (o := off + 16) rfl
  have h0 := getD_at (L := D) (k := 0) (by omega)
  have c0 := hC.at_ (ints_get h0) (o := off) rfl
  have HZ := Lib.hid hz'
  clear hl hA hC hD hl2 hlow hz hz' h0
  go_enter Tryz.func135, Tryz.ntmps135
  go_wp2_with fail
  go_loop [12] (fun i => ∃ k : Nat, k ≤ 17 ∧ i = .int .i64 k) (fun i => 17 - (intOf i).toNat)
  case atStart => exact ⟨0, by omega, rfl⟩
  case round =>
    obtain ⟨k, hk, rfl⟩ := hrel
    by_cases hlt : k < 17
    · obtain ⟨x, hx⟩ : ∃ x, D[k]? = some x := ⟨_, List.getElem?_eq_getElem (by rw [HD.out.1]; exact hlt)⟩
      have hx1 := HD.out.2.1 x (List.mem_of_getElem? hx)
      have cx := HC.out.int (ints_get hx)
      have t1 : decide ((x : Int) < 0) = false := by simp
      have t2 : decide (255 < (x : Int)) = false := by simp; omega
      clear hx
      go_wp2_with fail
      go_round
      case rel => exact ⟨k + 1, by omega, by go_num⟩
      case measure => simp [intOf]; omega
    · obtain rfl : k = 17 := by omega
      by_cases h3 : z < 3
      · go_wp2_with fail
        go_ret
        exact ⟨rfl, rfl⟩
      · obtain rfl : z = 3 := by omega
        go_wp2_with fail
        go_loop [34] (fun i => ∃ k : Nat, k ≤ 15 ∧ i = .int .i64 k ∧ Hid (∀ j, j < k → 255 ≤ D.getD (j + 1) 0)) (fun i => 15 - (intOf i).toNat)
        case atStart => exact ⟨0, by omega, rfl, Lib.hid (fun j hj => by omega)⟩
        case round =>
          obtain ⟨k, hk, rfl, HU⟩ := hrel
          by_cases hlt : k < 15
          · have hx := getD_at (L := D) (k := k + 1) (by rw [HD.out.1]; omega)
            obtain ⟨x, hx'⟩ : ∃ x, D.getD (k + 1) 0 = x := ⟨_, rfl⟩
            rw [hx'] at hx
            have cx := HC.out.at_ (ints_get hx) (o := off + 1 + k) (by omega)
            by_cases h255 : x < 255
            · have t : decide ((x : Int) < 255) = true := by simp; omega
              clear hx hx' h255
              go_wp2_with fail
              go_ret
              exact ⟨rfl, rfl⟩
            · have t : decide ((x : Int) < 255) = false := by simp; omega
              have HX : Hid (∀ j, j < k + 1 → 255 ≤ D.getD (j + 1) 0) := Lib.hid (fun j hj => by
                by_cases e : j = k
                · subst e; rw [hx']; omega
                · exact HU.out j (by omega))
              clear hx hx' h255
              go_wp2_with fail
              go_round
              case rel => exact ⟨k + 1, by omega, by go_num, HX⟩
              case measure => simp [intOf]; omega
          · obtain rfl : k = 15 := by omega
            have hlo := HW.out HZ.out HU.out
            have t : decide (((D.getD 0 0 : Nat) : Int) < 251) = true := by simp only [decide_eq_true_eq]; omega
            generalize D.getD 0 0 = y at c0 t hlo
            go_wp2_with fail
            go_ret
            exact ⟨rfl, rfl⟩
end Go.Proofs.YtpkomloblhbkiaaGreatDoor
