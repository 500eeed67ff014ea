/- tag: times. -/
import Derived.Test.YtpbbphjhjjpkjaaDoorTagA
set_option linter.unusedVariables false
namespace Go.Proofs.YtpbbphjhjjpkjaaDoor
open Go.RowKit
def tStep (n m t : List Nat) (i k : Nat) : List Nat := t.set ((i + k) % 5) (t.getD ((i + k) % 5) 0 + (if 5 ≤ i + k then n.getD i 0 * m.getD k 0 * 5 else n.getD i 0 * m.getD k 0))
def timesIn (n m t : List Nat) (i : Nat) : Nat → List Nat
  | 0 => t
  | k + 1 => tStep n m (timesIn n m t i k) i k
def timesTo (n m : List Nat) : Nat → List Nat
  | 0 => [0, 0, 0, 0, 0]
  | i + 1 => timesIn n m (timesTo n m i) i 5
theorem timesIn_len (n m t : List Nat) (i k : Nat) : (timesIn n m t i k).length = t.length := by
  induction k with
  | zero => rfl
  | succ k ih => rw [timesIn, tStep, List.length_set, ih]
theorem timesTo_len (n m : List Nat) (i : Nat) : (timesTo n m i).length = 5 := by
  induction i with
  | zero => rfl
  | succ i ih => rw [timesTo, timesIn_len, ih]
theorem times_mul {n m : List Nat} (hn : n.length = 5) (hm : m.length = 5) : timesTo n m 5 = mulTo n m := by
  obtain ⟨a, b, c, d, e, rfl⟩ := list5 hn
  obtain ⟨f, g, h, i, j, rfl⟩ := list5 hm
  simp only [timesTo, timesIn, tStep, mulTo, Nat.reduceAdd, Nat.reduceMod, Nat.reduceLeDiff, if_true, if_false, List.set_cons_zero, List.set_cons_succ, List.getD_cons_zero, List.getD_cons_succ, List.cons.injEq, and_true]
  omega
def tB : Nat := 45035996273704960
theorem tStep_under {n m t : List Nat} {i k B : Nat} (ht : t.length = 5) (h : ∀ x ∈ t, x ≤ B) (hp : n.getD i 0 * m.getD k 0 ≤ 9007199254740992) : ∀ x ∈ tStep n m t i k, x ≤ B + 45035996273704960 := by
  intro x hx
  rw [tStep] at hx
  rcases List.mem_or_eq_of_mem_set hx with hx | rfl
  · have := h x hx; omega
  · have hlt : (i + k) % 5 < t.length := by rw [ht]; exact Nat.mod_lt _ (by omega)
    have h1 := h _ (List.getElem_mem hlt)
    rw [List.getD_eq_getElem?_getD, List.getElem?_eq_getElem hlt]
    simp only [Option.getD_some]
    split <;> omega
theorem prod_le {x y : Nat} (hx : x < 134217728) (hy : y < 67108864) : x * y ≤ 9007199254740992 := by
  have := Nat.mul_le_mul (Nat.le_of_lt hx) (Nat.le_of_lt hy)
  omega
def Z5 : Array Value := #[.int .i64 0, .int .i64 0, .int .i64 0, .int .i64 0, .int .i64 0]
/-- the boxes of times -/
def TimesAt (g : Nat) (n m T : List Nat) (W : World) : Prop := Row vN W g 63 n ∧ Row vN W (g + 1) 63 m ∧ Blk W (g + 1 + 1) 63 Z5 ∧ Row vN W (g + 1 + 1 + 1) 63 T
theorem TimesAt.step {g : Nat} {n m T : List Nat} {W : World} (h : TimesAt g n m T W) (j v : Nat) : TimesAt g n m (T.set j v) (W.setCell ⟨g + 1 + 1 + 1, j, none⟩ (.int .i64 v)) :=
  ⟨h.1.far (show g ≠ g + 1 + 1 + 1 by omega) _, h.2.1.far (show g + 1 ≠ g + 1 + 1 + 1 by omega) _, h.2.2.1.far (show g + 1 + 1 ≠ g + 1 + 1 + 1 by omega) _, h.2.2.2.set_ j v⟩
theorem TimesAt.drew {g : Nat} {n m T : List Nat} {W : World} (h : TimesAt g n m T W) : TimesAt g n m T W.drew := h
set_option maxHeartbeats 1000000 in
theorem times_any (n m : List Nat) (w : World) (hn : n.length = 5) (hm : m.length = 5) (h1 : under 134217728 n) (h2 : under 67108864 m) :
    Calls Tryd.prog 32 #[tnumV n, tnumV m] w fun e w' => e = .returned (tnumV (timesTo n m 5)) ∧ under 1152921504606846976 (timesTo n m 5) ∧ Below w.heap.size w w' := by
  have HN := Lib.hid (And.intro hn (And.intro hm (And.intro h1 h2)))
  clear hn hm h1 h2
  unfold tnumV
  go_enter Tryd.func32, Tryd.ntmps32
  go_wp2_with fail
  have h0 : Hid (TimesAt w.heap.size n m (timesTo n m 0) ((((w.alloc (.cells (n.map vN).toArray 63)).alloc (.cells (m.map vN).toArray 63)).alloc (.cells #[.int .i64 0, .int .i64 0, .int .i64 0, .int .i64 0, .int .i64 0] 63)).alloc (.cells #[.int .i64 0, .int .i64 0, .int .i64 0, .int .i64 0, .int .i64 0] 63))) :=
    Lib.hid ⟨(((Blk.new w _ _).alloc _).alloc _).alloc _, ((Blk.new_at (by simp) _ _).alloc _).alloc _, (Blk.new_at (by simp) _ _).alloc _, Blk.new_at (by simp) _ _⟩
  go_loopw [9] (fun iv wr => ∃ i : Nat, i ≤ 5 ∧ iv = .int .i64 i ∧ Hid (TimesAt w.heap.size n m (timesTo n m i) wr) ∧ Hid (∀ x ∈ timesTo n m i, x ≤ 5 * i * 45035996273704960) ∧ Below w.heap.size w wr) (fun iv _ => 5 - (intOf iv).toNat)
  case atStart => exact ⟨0, by omega, rfl, h0, Lib.hid (fun x hx => by simp [timesTo] at hx; omega), by go_grown⟩
  case round =>
    clear h0
    obtain ⟨i, hi, rfl, HT, HU, hB⟩ := hrel
    by_cases hlt : i < 5
    · obtain ⟨wo, rfl⟩ : ∃ wo : World, wo = wr := ⟨_, rfl⟩
      go_wp2_with fail
      go_loopw [12] (fun kv wr => ∃ k : Nat, k ≤ 5 ∧ kv = .int .i64 k ∧ Hid (TimesAt w.heap.size n m (timesIn n m (timesTo n m i) i k) wr) ∧ Hid (∀ x ∈ timesIn n m (timesTo n m i) i k, x ≤ (5 * i + k) * 45035996273704960) ∧ Below w.heap.size w wr) (fun kv _ => 5 - (intOf kv).toNat)
      case atStart => exact ⟨0, by omega, rfl, HT, Lib.hid (fun x hx => by have := HU.out x hx; omega), hB⟩
      case round =>
        clear HT HU hB
        obtain ⟨k, hk, rfl, HT, HU, hB⟩ := hrel
        by_cases hlk : k < 5
        · have hx := getD_at (L := n) (k := i) (by rw [HN.out.1]; exact hlt)
          have hy := getD_at (L := m) (k := k) (by rw [HN.out.2.1]; exact hlk)
          have hx1 := getD_lt HN.out.2.2.1 (k := i) (by rw [HN.out.1]; exact hlt)
          have hy1 := getD_lt HN.out.2.2.2 (k := k) (by rw [HN.out.2.1]; exact hlk)
          have hp := prod_le hx1 hy1
          have htl : (timesIn n m (timesTo n m i) i k).length = 5 := by rw [timesIn_len, timesTo_len]
          have HU2 := tStep_under htl HU.out hp
          obtain ⟨j, hj⟩ : ∃ j, (i + k) % 5 = j := ⟨_, rfl⟩
          have hj5 : j < 5 := by omega
          have hz := getD_at (L := timesIn n m (timesTo n m i) i k) (k := j) (by rw [htl]; exact hj5)
          have hz1 : (timesIn n m (timesTo n m i) i k).getD j 0 ≤ 1080863910568919040 := by
            rw [List.getD_eq_getElem?_getD, List.getElem?_eq_getElem (by rw [htl]; exact hj5)]
            have := HU.out _ (List.getElem_mem (by rw [htl]; exact hj5))
            simp only [Option.getD_some]
            have h24 : (5 * i + k) * 45035996273704960 ≤ 24 * 45035996273704960 := Nat.mul_le_mul_right _ (by omega)
            omega
          have HS : timesIn n m (timesTo n m i) i (k + 1) = (timesIn n m (timesTo n m i) i k).set j ((timesIn n m (timesTo n m i) i k).getD j 0 + (if 5 ≤ i + k then n.getD i 0 * m.getD k 0 * 5 else n.getD i 0 * m.getD k 0)) := by rw [← hj]; rfl
          have HU3 : ∀ x ∈ timesIn n m (timesTo n m i) i (k + 1), x ≤ (5 * i + (k + 1)) * 45035996273704960 := fun x hx => by
            have := HU2 x hx
            have e : (5 * i + (k + 1)) * 45035996273704960 = (5 * i + k) * 45035996273704960 + 45035996273704960 := by omega
            omega
          generalize n.getD i 0 = x at hx hx1 hp HS
          generalize m.getD k 0 = y at hy hy1 hp HS
          obtain ⟨p, hpp⟩ : ∃ p, x * y = p := ⟨_, rfl⟩
          rw [hpp] at hp HS
          have exy : (x : Int) * (y : Int) = (p : Int) := by rw [← hpp]; simp
          generalize (timesIn n m (timesTo n m i) i k).getD j 0 = z at hz hz1 HS
          have cx := HT.out.1.get hx
          have cy := HT.out.2.1.get hy
          have cz := HT.out.2.2.2.get hz
          have fz := HT.out.2.2.2.free j
          simp only [vN] at cx cy cz
          have i0 : (0 : Int) ≤ i := by omega
          have i1 : (i : Int) < 5 := by omega
          have k0 : (0 : Int) ≤ k := by omega
          have k1 : (k : Int) < 5 := by omega
          have j0 : (0 : Int) ≤ j := by omega
          have j1 : (j : Int) < 5 := by omega
          have ej : ((i : Int) + (k : Int)) % 5 = (j : Int) := by omega
          have hgl := HT.out.2.2.2.lt
          have HU' := Lib.hid HU3
          by_cases hge : 5 ≤ i + k
          · have tg : decide (5 ≤ (i : Int) + (k : Int)) = true := by simp; omega
            rw [if_pos hge] at HS
            have HS' := Lib.hid HS
            clear hx hy hz HS HU2 HU3 hge hpp hj htl
            go_wp2_with fail
            go_region
            all_goals
              go_wp2_with fail
              go_roundw
              case rel => exact ⟨k + 1, by omega, by go_num, Lib.hid (by have := HT.out.step j (z + p * 5); rw [HS'.out]; exact this), HU', by go_grown⟩
              case measure => simp [intOf]; omega
          · have tg : decide (5 ≤ (i : Int) + (k : Int)) = false := by simp; omega
            rw [if_neg hge] at HS
            have HS' := Lib.hid HS
            clear hx hy hz HS HU2 HU3 hge hpp hj htl
            go_wp2_with fail
            go_region
            all_goals
              go_wp2_with fail
              go_roundw
              case rel => exact ⟨k + 1, by omega, by go_num, Lib.hid (by have := HT.out.step j (z + p); rw [HS'.out]; exact this), HU', by go_grown⟩
              case measure => simp [intOf]; omega
        · obtain rfl : k = 5 := by omega
          go_wp2_with fail
          go_roundw
          case rel => exact ⟨i + 1, by omega, by go_num, HT, Lib.hid (fun x hx => by have := HU.out x hx; omega), hB⟩
          case measure => simp [intOf]; omega
    · obtain rfl : i = 5 := by omega
      have HL := Lib.hid (timesTo_len n m 5)
      have HF : Hid (under 1152921504606846976 (timesTo n m 5)) := Lib.hid (fun x hx => by have := HU.out x hx; omega)
      go_wp2_with (first
        | (refine wpList_load_row rfl 63 (.tmp 5) rfl (w.heap.size + 1 + 1 + 1) rfl 63 ((timesTo n m 5).map vN).toArray (0, 0) (.array 5 3) HT.out.2.2.2 (by kernel_rfl) rfl (num_info HL.out) ?_)
        | (refine wpList_store_row rfl 63 (.tmp 4) (.tmp 39) rfl (w.heap.size + 1 + 1) ((timesTo n m 5).map vN).toArray rfl rfl 63 Z5 HT.out.2.2.1 (num_info HL.out) (by rw [num_size HL.out]; rfl) (num_one _) ?_))
      refine bodyPost_ret (results_cell_row (Tryd.results32) _ _ (w.heap.size + 1 + 1) 63 ((timesTo n m 5).map vN).toArray (0, 0) (.array 5 3) rfl (setRow_heap _ _ _ _ _ _ HT.out.2.2.1) (by kernel_rfl) rfl (num_info HL.out)) rfl ?_
      exact ⟨rfl, HF.out, below_setRow hB (by omega) _⟩
end Go.Proofs.YtpbbphjhjjpkjaaDoor
