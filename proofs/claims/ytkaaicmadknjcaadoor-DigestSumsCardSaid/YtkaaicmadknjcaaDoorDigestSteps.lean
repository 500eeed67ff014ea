/- DigestSteps and DigestSums: the walks. -/
import Derived.Test.YtkaaicmadknjcaaDoorRefH
import Derived.Test.YtkaaicmadknjcaaDoorDigL
import Derived.ChangeKeysEq
set_option linter.unusedVariables false
namespace Go.Proofs.YtkaaicmadknjcaaDoor
open Go.RowKit
theorem eqItems_same (d : Nat) (xs : Array Value) (w : World) : ∀ is : List Nat, (∀ i ∈ is, ∃ n : Int, xs[i]? = some (.int .i64 n)) → (Op.eqItems (d + 1) 3 (Tryd.prog.cellsOf 3) xs xs is).run Tryd.prog w = .ok true w
  | [], _ => by simp [Op.eqItems]
  | i :: is, h => by
    have hc : Tryd.prog.cellsOf 3 = 1 := by kernel_rfl
    have hp : Tryd.prog.plainKey 3 = true := by kernel_rfl
    obtain ⟨n, hn⟩ := h i (by simp)
    have ih := eqItems_same d xs w is (fun j hj => h j (by simp [hj]))
    rw [hc] at ih ⊢
    have h1 : (part 3 xs (i * 1)).run Tryd.prog w = .ok (.int .i64 n) w := run_part_plain w hp (by rw [Nat.mul_one]; exact hn)
    have h2 : (Op.equalIn (d + 1) 3 (.int .i64 n) (.int .i64 n)).run Tryd.prog w = .ok true w := by simp [Op.equalIn, run_underlying Tryd.underlying3]
    simp only [Op.eqItems, Sem.run_bind, h1, h2, Result.andThen_ok]
    simpa using ih
theorem eql8 (a b c d e f g h : Int) (w : World) : (binOp .eql 22 (.agg #[.int .i64 a, .int .i64 b, .int .i64 c, .int .i64 d, .int .i64 e, .int .i64 f, .int .i64 g, .int .i64 h]) (.agg #[.int .i64 a, .int .i64 b, .int .i64 c, .int .i64 d, .int .i64 e, .int .i64 f, .int .i64 g, .int .i64 h])).run Tryd.prog w = .ok (.bool true) w := by
  obtain ⟨i0, hi0, _⟩ := info_parts int_info3
  have h := run_equalIn_array (P := Tryd.prog) w 9999 #[.int .i64 a, .int .i64 b, .int .i64 c, .int .i64 d, .int .i64 e, .int .i64 f, .int .i64 g, .int .i64 h] #[.int .i64 a, .int .i64 b, .int .i64 c, .int .i64 d, .int .i64 e, .int .i64 f, .int .i64 g, .int .i64 h] Tryd.underlying22 hi0
  rw [eqItems_same 9998 _ w (List.range 8) (by
    intro i hi
    have hi8 := List.mem_range.1 hi
    have hc : i = 0 ∨ i = 1 ∨ i = 2 ∨ i = 3 ∨ i = 4 ∨ i = 5 ∨ i = 6 ∨ i = 7 := by omega
    rcases hc with rfl | rfl | rfl | rfl | rfl | rfl | rfl | rfl <;> exact ⟨_, rfl⟩)] at h
  simp only [binOp]
  simp [Op.equal, Op.maxDepth, h]
set_option maxHeartbeats 1000000 in
set_option maxRecDepth 100000 in
theorem steps_in (L R : List Int) (ok e : Bool) (s S : ByteArray) (n : Int) (w : World) (hG : Rounds w) (hs : s.size ≤ 200) (hL : L.length = 8) (hR : R.length = 8)
    (h1 : ∀ w, Rounds w → Calls Tryd.prog 22 #[stV L, .string s] w fun r w' => r = .returned (.tuple #[stV R, .bool ok]) ∧ Below w.heap.size w w')
    (h2 : ∀ w, Calls Tryd.prog 23 #[stV L, .string s] w fun r w' => r = .returned (.tuple #[stV R, .bool ok]) ∧ Below w.heap.size w w')
    (h3 : ∀ w, Calls Tryd.prog 24 #[.int .i64 n] w fun r w' => r = .returned (.tuple #[.string S, .bool e]) ∧ Below w.heap.size w w')
    (h4 : ∀ w, Calls Tryd.prog 25 #[.int .i64 n] w fun r w' => r = .returned (.tuple #[.string S, .bool e]) ∧ Below w.heap.size w w') :
    Calls Tryd.prog 3 #[stV L, .string s, .int .i64 n] w fun e w' => e = .returned (.bool true) ∧ Below w.heap.size w w' := by
  obtain ⟨a0, a1, a2, a3, a4, a5, a6, a7, rfl⟩ := list8 hL
  obtain ⟨r0, r1, r2, r3, r4, r5, r6, r7, rfl⟩ := list8 hR
  unfold stV at *
  simp only [List.map_cons, List.map_nil, vI] at *
  have HG := Lib.hid hG
  have H1 := Lib.hid h1
  have H2 := Lib.hid h2
  have H3 := Lib.hid h3
  have H4 := Lib.hid h4
  have hbb : (S.toList == S.toList) = true := by simp
  have hoo : (ok == ok) = true := by simp
  have hee : (e == e) = true := by simp
  clear hG h1 h2 h3 h4 hL hR
  go_enter Tryd.func3, Tryd.ntmps3
  go_wp2_with fail
  refine (H1.out _ (HG.out.below (B := w.heap.size) (by go_grown) HG.out.pos)).mono ?_
  rintro r w1 ⟨rfl, hb1⟩
  have hA1 := (Blk.new w 22 #[.int .i64 a0, .int .i64 a1, .int .i64 a2, .int .i64 a3, .int .i64 a4, .int .i64 a5, .int .i64 a6, .int .i64 a7]).below hb1 (by simp)
  have hB1 : Below w.heap.size w w1 := Below.trans (by go_grown) (hb1.mono (by simp))
  have hs1 := hb1.size
  clear hb1
  have v0 := hA1.cells 0 _ rfl
  have v1 := hA1.cells 1 _ rfl
  have v2 := hA1.cells 2 _ rfl
  have v3 := hA1.cells 3 _ rfl
  have v4 := hA1.cells 4 _ rfl
  have v5 := hA1.cells 5 _ rfl
  have v6 := hA1.cells 6 _ rfl
  have v7 := hA1.cells 7 _ rfl
  simp only [List.getElem_toArray, List.getElem_cons_zero, List.getElem_cons_succ] at v0 v1 v2 v3 v4 v5 v6 v7
  have hz1 : w.heap.size < w1.heap.size := hA1.lt
  go_wp2_with fail
  refine (H2.out _).mono ?_
  rintro r w2 ⟨rfl, hb2⟩
  have hR2 := (Blk.new w1 22 #[.int .i64 r0, .int .i64 r1, .int .i64 r2, .int .i64 r3, .int .i64 r4, .int .i64 r5, .int .i64 r6, .int .i64 r7]).below hb2 (by simp)
  have hB2 : Below w.heap.size w w2 := hB1.trans (Below.trans (by go_grown) (hb2.mono (by simp; omega)))
  have hg2 : w1.heap.size < w2.heap.size := hR2.lt
  clear hb2 hA1 v0 v1 v2 v3 v4 v5 v6 v7
  go_wp2_with fail
  refine (H3.out _).mono ?_
  rintro r w3 ⟨rfl, hb3⟩
  have hS3 := (Blk.new w2 22 #[.int .i64 r0, .int .i64 r1, .int .i64 r2, .int .i64 r3, .int .i64 r4, .int .i64 r5, .int .i64 r6, .int .i64 r7]).below hb3 (by simp)
  have hR3 := (hR2.alloc (.cells #[.int .i64 r0, .int .i64 r1, .int .i64 r2, .int .i64 r3, .int .i64 r4, .int .i64 r5, .int .i64 r6, .int .i64 r7] 22)).below hb3 (by simp; omega)
  have hB3 : Below w.heap.size w w3 := hB2.trans (Below.trans (by go_grown) (hb3.mono (by simp; have := hB2.size; omega)))
  clear hb3 hR2
  go_wp2_with fail
  refine (H4.out _).mono ?_
  rintro r w4 ⟨rfl, hb4⟩
  have hS4 := hS3.below hb4 hS3.lt
  have hR4 := hR3.below hb4 hR3.lt
  have hB4 := hB3.trans (hb4.mono hB3.size)
  clear hb4 hS3 hR3
  go_wp2_with fail
  refine (sums_any _ (rounds_of HG.out hB4)).mono ?_
  rintro r w5 ⟨rfl, hb5⟩
  have hS5 := hS4.below hb5 hS4.lt
  have hR5 := hR4.below hb5 hR4.lt
  have hB5 := hB4.trans (hb5.mono hB4.size)
  clear hb5 hS4 hR4
  have v0 := hS5.cells 0 _ rfl
  have v1 := hS5.cells 1 _ rfl
  have v2 := hS5.cells 2 _ rfl
  have v3 := hS5.cells 3 _ rfl
  have v4 := hS5.cells 4 _ rfl
  have v5 := hS5.cells 5 _ rfl
  have v6 := hS5.cells 6 _ rfl
  have v7 := hS5.cells 7 _ rfl
  have u0 := hR5.cells 0 _ rfl
  have u1 := hR5.cells 1 _ rfl
  have u2 := hR5.cells 2 _ rfl
  have u3 := hR5.cells 3 _ rfl
  have u4 := hR5.cells 4 _ rfl
  have u5 := hR5.cells 5 _ rfl
  have u6 := hR5.cells 6 _ rfl
  have u7 := hR5.cells 7 _ rfl
  simp only [List.getElem_toArray, List.getElem_cons_zero, List.getElem_cons_succ] at v0 v1 v2 v3 v4 v5 v6 v7 u0 u1 u2 u3 u4 u5 u6 u7
  have heq := eql8 r0 r1 r2 r3 r4 r5 r6 r7
  go_wp2_with fail
  refine (start_any _).mono ?_
  rintro r w6 ⟨rfl, hb6⟩
  have hB6 := hB5.trans (hb6.mono hB5.size)
  clear hb6 v0 v1 v2 v3 v4 v5 v6 v7 u0 u1 u2 u3 u4 u5 u6 u7 heq
  go_wp2_with fail
  refine (rstart_any _).mono ?_
  rintro r w7 ⟨rfl, hb7⟩
  have hB7 := hB6.trans (hb7.mono hB6.size)
  have hes : ∀ W, (binOp .eql 22 (.agg ((ints startL).map vI).toArray) (.agg ((ints startL).map vI).toArray)).run Tryd.prog W = .ok (.bool true) W := fun W => eql8 1779033703 3144134277 1013904242 2773480762 1359893119 2600822924 528734635 1541459225 W
  go_wp2_with fail
  go_ret
  exact ⟨rfl, hB7⟩
theorem steps_big (v : Value) (s : ByteArray) (n : Int) (w : World) (hs : 200 < s.size) (hm : s.size ≤ 140737488351232) (L : List Int) (hL : L.length = 8) (hv : v = stV L) :
    Calls Tryd.prog 3 #[v, .string s, .int .i64 n] w fun e w' => e = .returned (.bool true) ∧ Below w.heap.size w w' := by
  subst hv
  obtain ⟨a0, a1, a2, a3, a4, a5, a6, a7, rfl⟩ := list8 hL
  unfold stV at *
  simp only [List.map_cons, List.map_nil, vI] at *
  clear hL
  go_enter Tryd.func3, Tryd.ntmps3
  go_wp2_with fail
  go_ret
  exact ⟨rfl, by go_grown⟩
theorem ints_of_is {L : List Int} (h : L.all isB = true) : ∃ M : List Nat, L = ints M ∧ words M := by
  refine ⟨L.map Int.toNat, ?_, ?_⟩
  · unfold ints
    rw [List.map_map]
    refine ((List.map_congr_left (g := id) fun x hx => ?_).trans (List.map_id L)).symm
    have := (isB_iff x).1 (List.all_eq_true.1 h x hx)
    have hx0 := this.1
    simp only [Function.comp_apply, id_eq]
    omega
  · intro n hn
    obtain ⟨x, hx, rfl⟩ := List.mem_map.1 hn
    have := (isB_iff x).1 (List.all_eq_true.1 h x hx)
    omega
theorem steps_all (L : List Int) (s : ByteArray) (n : Int) (w : World) (hG : Rounds w) (hL : L.length = 8) (hm : s.size ≤ 140737488351232) :
    Calls Tryd.prog 3 #[stV L, .string s, .int .i64 n] w fun e w' => e = .returned (.bool true) ∧ Below w.heap.size w w' := by
  by_cases hs : 200 < s.size
  · exact steps_big _ s n w hs hm L hL rfl
  · obtain ⟨S, e, h3, h4⟩ : ∃ S e, (∀ w, Calls Tryd.prog 24 #[.int .i64 n] w fun r w' => r = .returned (.tuple #[.string S, .bool e]) ∧ Below w.heap.size w w') ∧
        (∀ w, Calls Tryd.prog 25 #[.int .i64 n] w fun r w' => r = .returned (.tuple #[.string S, .bool e]) ∧ Below w.heap.size w w') := by
      by_cases hn : n < 0 ∨ 1000000000 < n
      · exact ⟨_, _, fun w => (pad_no n w hn).mono (fun _ _ ⟨h1, h2⟩ => ⟨h1, h2 ▸ Below.refl _ _⟩), fun w => (rpad_no n w hn).mono (fun _ _ ⟨h1, h2⟩ => ⟨h1, h2 ▸ Below.refl _ _⟩)⟩
      · obtain ⟨k, rfl⟩ : ∃ k : Nat, n = k := ⟨n.toNat, by omega⟩
        exact ⟨_, _, fun w => pad_in k w (by omega), fun w => rpad_in k w (by omega)⟩
    by_cases hb : L.all isB = false ∨ s.size ≠ 64
    · exact steps_in L zero8 false e s S n w hG (by omega) hL rfl (fun w _ => step_bad L s w hL hb) (fun w => rstep_bad L s w hL hb) h3 h4
    · have h1 : L.all isB = true := by
        cases h : L.all isB
        · exact absurd (Or.inl h) hb
        · rfl
      obtain ⟨M, rfl, hM⟩ := ints_of_is h1
      have hst : State M := ⟨by simpa [ints] using hL, hM⟩
      exact steps_in (ints M) (ints (stepL M s)) true e s S n w hG (by omega) hL (by simpa [ints] using (stepL_state M s).1) (fun w hG => step_good M s w (by omega) hG hst) (fun w => rstep_good M s w (by omega) hst) h3 h4
theorem dsums_all (s t : ByteArray) (w : World) (hG : Rounds w) (hs : s.size ≤ 140737488351232) (ht : t.size ≤ 140737488351232) :
    Calls Tryd.prog 4 #[.string s, .string t] w fun e w' => e = .returned (.bool true) ∧ Below w.heap.size w w' := by
  have HG := Lib.hid hG
  clear hG
  by_cases h1 : 300 < s.size
  · have g1 : decide (300 < (s.size : Int)) = true := by simp; omega
    clear h1
    go_enter Tryd.func4, Tryd.ntmps4
    go_wp2_with fail
    go_ret
    exact ⟨rfl, Below.refl _ _⟩
  · have g1 : decide (300 < (s.size : Int)) = false := by simp; omega
    by_cases h2 : 300 < t.size
    · have g2 : decide (300 < (t.size : Int)) = true := by simp; omega
      clear h1 h2
      go_enter Tryd.func4, Tryd.ntmps4
      go_wp2_with fail
      go_ret
      exact ⟨rfl, Below.refl _ _⟩
    · have g2 : decide (300 < (t.size : Int)) = false := by simp; omega
      have hee : (sumS s).toList == (sumS s).toList := by simp
      obtain ⟨q, hq⟩ : ∃ q, (s.toList == t.toList) = q := ⟨_, rfl⟩
      have hqq : (q == q) = true := by simp
      have HQ := Lib.hid hq
      clear hq
      go_enter Tryd.func4, Tryd.ntmps4
      go_wp2_with fail
      refine (sums_any _ HG.out).mono ?_
      rintro r w1 ⟨rfl, hb1⟩
      go_wp2_with fail
      refine (sum_in s _ (by omega) (rounds_of HG.out hb1)).mono ?_
      rintro r w2 ⟨rfl, hb2⟩
      have hB2 := hb1.trans (hb2.mono hb1.size)
      clear hb1 hb2
      go_wp2_with fail
      refine (rsum_str s _ (by omega)).mono ?_
      rintro r w3 ⟨rfl, hb3⟩
      have hB3 := hB2.trans (hb3.mono hB2.size)
      clear hb3
      go_wp2_with fail
      refine (same_any s t _).mono ?_
      rintro r w4 ⟨rfl, rfl⟩
      rw [HQ.out]
      have hq := HQ.out
      go_wp2_with fail
      go_ret
      exact ⟨rfl, hB3⟩
end Go.Proofs.YtkaaicmadknjcaaDoor
