/- DigestGoes: the walk. -/
import Derived.Test.YtkaaicmadknjcaaDoorDigestWalks
import Derived.RegionTactic
set_option linter.unusedVariables false
namespace Go.Proofs.YtkaaicmadknjcaaDoor
open Go.RowKit
theorem byteAt_join (L : List Nat) (h : Bool) (i : Nat) (hi : i < 4 * L.length) : byteAt (joinW L h) i = joinByte L h i := by
  unfold byteAt joinW
  rw [List.toList_toArray, List.getD_eq_getElem?_getD, List.getElem?_map, List.getElem?_range hi]
  simp [joinByte]
theorem cut_join (L : List Nat) (hw : words L) : cutW (joinW L true) true = L := by
  rw [cutW_eq, joinW_size, Nat.mul_div_cancel_left _ (by omega)]
  apply List.ext_getElem?
  intro j
  by_cases hj : j < L.length
  · obtain ⟨x, hx⟩ : ∃ x, L[j]? = some x := ⟨_, List.getElem?_eq_getElem hj⟩
    have hx2 := hw x (List.mem_of_getElem? hx)
    rw [List.getElem?_map, List.getElem?_range hj, hx]
    simp only [Option.map_some, Option.some.injEq, wordAt, if_true]
    rw [byteAt_join _ _ _ (by omega), byteAt_join _ _ _ (by omega), byteAt_join _ _ _ (by omega), byteAt_join _ _ _ (by omega)]
    have g : ∀ r, r < 4 → joinByte L true (4 * j + r) = x / 2 ^ (24 - 8 * r) % 256 := by
      intro r hr
      unfold joinByte belowW
      rw [show (4 * j + r) / 4 = j by omega, show (4 * j + r) % 4 = r by omega, List.getD_eq_getElem?_getD, hx]
      rfl
    rw [show 4 * j = 4 * j + 0 from rfl, g 0 (by omega), show 4 * j + 0 + 1 = 4 * j + 1 from rfl, g 1 (by omega), show 4 * j + 0 + 2 = 4 * j + 2 from rfl, g 2 (by omega), show 4 * j + 0 + 3 = 4 * j + 3 from rfl, g 3 (by omega)]
    simp only [Nat.mul_zero, Nat.sub_zero, Nat.reduceMul, Nat.reduceSub, Nat.reducePow, Nat.pow_zero, Nat.div_one]
    omega
  · rw [List.getElem?_eq_none (by simp; omega), List.getElem?_eq_none (by omega)]
theorem get8 {a b c d e f g h k : Nat} (hk : k < 8) : ∃ x : Nat, (#[.int .i64 a, .int .i64 b, .int .i64 c, .int .i64 d, .int .i64 e, .int .i64 f, .int .i64 g, .int .i64 h] : Array Value)[k]? = some (.int .i64 x) := by
  match k, hk with
  | 0, _ => exact ⟨a, rfl⟩
  | 1, _ => exact ⟨b, rfl⟩
  | 2, _ => exact ⟨c, rfl⟩
  | 3, _ => exact ⟨d, rfl⟩
  | 4, _ => exact ⟨e, rfl⟩
  | 5, _ => exact ⟨f, rfl⟩
  | 6, _ => exact ⟨g, rfl⟩
  | 7, _ => exact ⟨h, rfl⟩
theorem goes_sums (s : ByteArray) (b : Int) (w : World) (hG : Rounds w) (hs : s.size ≤ 140737488355328) (h : 2000 < s.size ∨ b < 0 ∨ 40 < b ∨ (s.size : Int) < 64 * b) :
    Calls Tryd.prog 7 #[.string s, .int .i64 b] w fun e w' => e = .returned (.bool true) ∧ Below w.heap.size w w' := by
  have HG := Lib.hid hG
  clear hG
  by_cases h1 : 2000 < s.size
  · clear h
    go_enter Tryd.func7, Tryd.ntmps7
    go_wp2_with fail
    refine (sums_any _ HG.out).mono ?_
    rintro e w1 ⟨rfl, hb1⟩
    go_wp2_with fail
    go_ret
    exact ⟨rfl, hb1⟩
  · have g1 : decide (2000 < (s.size : Int)) = false := by simp; omega
    by_cases h2 : b < 0
    · clear h h1
      go_enter Tryd.func7, Tryd.ntmps7
      go_wp2_with fail
      refine (sums_any _ HG.out).mono ?_
      rintro e w1 ⟨rfl, hb1⟩
      go_wp2_with fail
      go_ret
      exact ⟨rfl, hb1⟩
    · have g2 : decide (b < 0) = false := by simp; omega
      have g3 : 0 ≤ b := by omega
      by_cases h3 : 40 < b
      · clear h h1 h2
        go_enter Tryd.func7, Tryd.ntmps7
        go_wp2_with fail
        refine (sums_any _ HG.out).mono ?_
        rintro e w1 ⟨rfl, hb1⟩
        go_wp2_with fail
        go_ret
        exact ⟨rfl, hb1⟩
      · have g4 : decide (40 < b) = false := by simp; omega
        have g5 : b ≤ 40 := by omega
        have h4 : (s.size : Int) < 64 * b := by omega
        have g6 : decide ((s.size : Int) < 64 * b) = true := by simpa using h4
        clear h h1 h2 h3
        go_enter Tryd.func7, Tryd.ntmps7
        go_wp2_with fail
        refine (sums_any _ HG.out).mono ?_
        rintro e w1 ⟨rfl, hb1⟩
        go_wp2_with fail
        go_ret
        exact ⟨rfl, hb1⟩
set_option maxHeartbeats 2000000 in
set_option maxRecDepth 100000 in
theorem goes_in (s : ByteArray) (n : Nat) (w : World) (hG : Rounds w) (hs : s.size ≤ 2000) (hn : n ≤ 40) (hns : 64 * n ≤ s.size) :
    Calls Tryd.prog 7 #[.string s, .int .i64 n] w fun e w' => e = .returned (.bool true) ∧ Below w.heap.size w w' := by
  have HG := Lib.hid hG
  have hp := pad_bounds s.size
  have hpw := pad_whole s.size
  obtain ⟨p, hpe⟩ : ∃ p, padB s.size = p := ⟨_, rfl⟩
  rw [hpe] at hp hpw
  have HP := Lib.hid (And.intro hpe hpw)
  have g1 : decide (2000 < (s.size : Int)) = false := by simp; omega
  have g2 : decide ((n : Int) < 0) = false := by simp
  have g4 : decide (40 < (n : Int)) = false := by simp; omega
  have g6 : decide ((s.size : Int) < 64 * (n : Int)) = false := by simp; omega
  clear hG hpe hpw
  obtain ⟨z0, z1, z2, z3, z4, z5, z6, z7, hx⟩ := stepL_words startL_state
  have HX := Lib.hid hx
  have HSt : Hid ((ints startL).map vI = [.int .i64 z0, .int .i64 z1, .int .i64 z2, .int .i64 z3, .int .i64 z4, .int .i64 z5, .int .i64 z6, .int .i64 z7]) := Lib.hid (by rw [hx]; rfl)
  clear hx
  go_enter Tryd.func7, Tryd.ntmps7
  go_wp2_with fail
  refine (start_any _).mono ?_
  rintro r w2 ⟨rfl, hB2⟩
  rw [HSt.out]
  clear g1 g2 g4 g6
  go_wp2_with fail
  have hb0 : Hid (Blk (w2.alloc (.cells #[.int .i64 z0, .int .i64 z1, .int .i64 z2, .int .i64 z3, .int .i64 z4, .int .i64 z5, .int .i64 z6, .int .i64 z7] 22)) w2.heap.size 22 #[.int .i64 z0, .int .i64 z1, .int .i64 z2, .int .i64 z3, .int .i64 z4, .int .i64 z5, .int .i64 z6, .int .i64 z7]) := Lib.hid (Blk.new _ _ _)
  have h2 := hB2.size
  go_loopw [6] (fun iv wr => ∃ (i z0 z1 z2 z3 z4 z5 z6 z7 : Nat), iv = .int .i64 i ∧ i ≤ n ∧ Hid (foldB startL s i = [z0, z1, z2, z3, z4, z5, z6, z7]) ∧
    Hid (Blk wr w2.heap.size 22 #[.int .i64 z0, .int .i64 z1, .int .i64 z2, .int .i64 z3, .int .i64 z4, .int .i64 z5, .int .i64 z6, .int .i64 z7]) ∧ Below w.heap.size w wr) (fun iv _ => n - (intOf iv).toNat)
  case atStart => exact ⟨0, z0, z1, z2, z3, z4, z5, z6, z7, rfl, by omega, HX, hb0, by go_grown⟩
  case round =>
    clear hb0 HX
    obtain ⟨i, z0, z1, z2, z3, z4, z5, z6, z7, rfl, hi, HL, HB, hB⟩ := hrel
    by_cases hlt : i < n
    · obtain ⟨a, ha⟩ : ∃ a, 64 * i = a := ⟨_, rfl⟩
      obtain ⟨j, hj⟩ : ∃ j, a + 64 = j := ⟨_, rfl⟩
      obtain ⟨c, hc⟩ : ∃ c, s.extract a j = c := ⟨_, rfl⟩
      have hcs : c.size = 64 := by rw [← hc, size_extract]; omega
      have hstep : foldB startL s (i + 1) = stepL (foldB startL s i) c := by rw [foldB, ← hc, ← hj, ← ha]
      obtain ⟨y0, y1, y2, y3, y4, y5, y6, y7, hy⟩ := stepL_words (stepL_state (foldB startL s i) c)
      have HY := Lib.hid hy
      have HN1 : Hid (foldB startL s (i + 1) = [y0, y1, y2, y3, y4, y5, y6, y7]) := Lib.hid (hstep.trans hy)
      have HC := Lib.hid hcs
      have HS := Lib.hid (foldB_state startL_state s i)
      have e0 : 64 * (i : Int) = (a : Int) := by omega
      have e1 : (a : Int) + 64 = (j : Int) := by omega
      have e2 : IntKind.i64.wrap (j : Int) = (j : Int) := IntWalk.i64_in _ (by omega)
      have e2' : IntKind.i64.wrap (a : Int) = (a : Int) := IntWalk.i64_in _ (by omega)
      have e3 : (0 : Int) ≤ (a : Int) := by omega
      have e4 : (a : Int) ≤ (j : Int) := by omega
      have e5 : (j : Int) ≤ (s.size : Int) := by omega
      obtain ⟨c0, c1, c2, c3, c4, c5, c6, c7⟩ := keep8 HB.out (Below.refl _ wr)
      have HGr := Lib.hid (rounds_of HG.out hB)
      clear hstep hy hcs hj ha
      go_wp2_with fail
      go_region_held3 (fun w' => w'.cell? ⟨w2.heap.size, 0, none⟩ = some (.int .i64 z0) ∧ w'.cell? ⟨w2.heap.size, 1, none⟩ = some (.int .i64 z1) ∧ w'.cell? ⟨w2.heap.size, 2, none⟩ = some (.int .i64 z2) ∧ w'.cell? ⟨w2.heap.size, 3, none⟩ = some (.int .i64 z3) ∧ w'.cell? ⟨w2.heap.size, 4, none⟩ = some (.int .i64 z4) ∧ w'.cell? ⟨w2.heap.size, 5, none⟩ = some (.int .i64 z5) ∧ w'.cell? ⟨w2.heap.size, 6, none⟩ = some (.int .i64 z6) ∧ w'.cell? ⟨w2.heap.size, 7, none⟩ = some (.int .i64 z7))
        ((refine keep8 HB.out ?_; go_grown))
        ((go_at_call 22; (with_reducible refine Calls.mono (step_grown (W0 := wr) (c := c) HL.out HY.out HC.out HGr.out ?_ HS.out) ?_); (focus (go_grown; done)); rintro r w3 ⟨rfl, hB3, hb3⟩; have hs3 := hB3.size; have hs4 := hb3.size; (first | (have hZ := keep8z hb3; obtain ⟨q0, q1, q2, q3, q4, q5, q6, q7⟩ := keep8 hZ (Below.refl _ w3); have q8 := hZ.frozen) | skip); clear hb3))
      · have hY : Blk (w3.alloc (.cells #[.int .i64 y0, .int .i64 y1, .int .i64 y2, .int .i64 y3, .int .i64 y4, .int .i64 y5, .int .i64 y6, .int .i64 y7] 22)) w3.heap.size 22 #[.int .i64 y0, .int .i64 y1, .int .i64 y2, .int .i64 y3, .int .i64 y4, .int .i64 y5, .int .i64 y6, .int .i64 y7] := Blk.new w3 _ _
        have hX : Blk (w3.alloc (.cells #[.int .i64 y0, .int .i64 y1, .int .i64 y2, .int .i64 y3, .int .i64 y4, .int .i64 y5, .int .i64 y6, .int .i64 y7] 22)) w2.heap.size 22 #[.int .i64 z0, .int .i64 z1, .int .i64 z2, .int .i64 z3, .int .i64 z4, .int .i64 z5, .int .i64 z6, .int .i64 z7] := (HB.out.below hB3 HB.out.lt).alloc _
        have hBw : Below w.heap.size w (w3.alloc (.cells #[.int .i64 y0, .int .i64 y1, .int .i64 y2, .int .i64 y3, .int .i64 y4, .int .i64 y5, .int .i64 y6, .int .i64 y7] 22)) := (hB.trans (hB3.mono hB.size)).alloc (by have := hB.size; omega) _
        generalize w3.alloc (.cells #[.int .i64 y0, .int .i64 y1, .int .i64 y2, .int .i64 y3, .int .i64 y4, .int .i64 y5, .int .i64 y6, .int .i64 y7] 22) = W at hY hX hBw ⊢
        clear c0 c1 c2 c3 c4 c5 c6 c7
        go_wp2_with (first
          | (refine wpList_load_row rfl 22 (.tmp 7) rfl w3.heap.size rfl 22 #[.int .i64 y0, .int .i64 y1, .int .i64 y2, .int .i64 y3, .int .i64 y4, .int .i64 y5, .int .i64 y6, .int .i64 y7] (0, 0) (.array 8 3) hY (by kernel_rfl) rfl (by kernel_rfl) ?_)
          | (refine wpList_store_row rfl 22 (.tmp 5) (.tmp 57) rfl w2.heap.size #[.int .i64 y0, .int .i64 y1, .int .i64 y2, .int .i64 y3, .int .i64 y4, .int .i64 y5, .int .i64 y6, .int .i64 y7] rfl rfl 22 #[.int .i64 z0, .int .i64 z1, .int .i64 z2, .int .i64 z3, .int .i64 z4, .int .i64 z5, .int .i64 z6, .int .i64 z7] hX (by kernel_rfl) (by rfl) (by simp [Value.oneCell']) ?_))
        go_roundw
        case rel => exact ⟨i + 1, y0, y1, y2, y3, y4, y5, y6, y7, by go_num, by omega, HN1, Lib.hid (setRow_heap _ _ _ _ _ _ hX), below_setRow hBw (by omega) _⟩
        case measure => simp [intOf]; omega
      · have hY : Blk (World.setCell (World.setCell (World.setCell (World.setCell (World.setCell (World.setCell (World.setCell (World.setCell w3 ⟨wr.heap.size, 0, none⟩ (.int .i64 y0)) ⟨wr.heap.size, 1, none⟩ (.int .i64 y1)) ⟨wr.heap.size, 2, none⟩ (.int .i64 y2)) ⟨wr.heap.size, 3, none⟩ (.int .i64 y3)) ⟨wr.heap.size, 4, none⟩ (.int .i64 y4)) ⟨wr.heap.size, 5, none⟩ (.int .i64 y5)) ⟨wr.heap.size, 6, none⟩ (.int .i64 y6)) ⟨wr.heap.size, 7, none⟩ (.int .i64 y7)) wr.heap.size 22 #[.int .i64 y0, .int .i64 y1, .int .i64 y2, .int .i64 y3, .int .i64 y4, .int .i64 y5, .int .i64 y6, .int .i64 y7] := ((((((((hZ.set_ 0 (.int .i64 y0)).set_ 1 (.int .i64 y1)).set_ 2 (.int .i64 y2)).set_ 3 (.int .i64 y3)).set_ 4 (.int .i64 y4)).set_ 5 (.int .i64 y5)).set_ 6 (.int .i64 y6)).set_ 7 (.int .i64 y7))
        have hX : Blk (World.setCell (World.setCell (World.setCell (World.setCell (World.setCell (World.setCell (World.setCell (World.setCell w3 ⟨wr.heap.size, 0, none⟩ (.int .i64 y0)) ⟨wr.heap.size, 1, none⟩ (.int .i64 y1)) ⟨wr.heap.size, 2, none⟩ (.int .i64 y2)) ⟨wr.heap.size, 3, none⟩ (.int .i64 y3)) ⟨wr.heap.size, 4, none⟩ (.int .i64 y4)) ⟨wr.heap.size, 5, none⟩ (.int .i64 y5)) ⟨wr.heap.size, 6, none⟩ (.int .i64 y6)) ⟨wr.heap.size, 7, none⟩ (.int .i64 y7)) w2.heap.size 22 #[.int .i64 z0, .int .i64 z1, .int .i64 z2, .int .i64 z3, .int .i64 z4, .int .i64 z5, .int .i64 z6, .int .i64 z7] := (((((((((HB.out.below hB3 HB.out.lt).far (p := ⟨wr.heap.size, 0, none⟩) (by have := HB.out.lt; simp; omega) (.int .i64 y0)).far (p := ⟨wr.heap.size, 1, none⟩) (by have := HB.out.lt; simp; omega) (.int .i64 y1)).far (p := ⟨wr.heap.size, 2, none⟩) (by have := HB.out.lt; simp; omega) (.int .i64 y2)).far (p := ⟨wr.heap.size, 3, none⟩) (by have := HB.out.lt; simp; omega) (.int .i64 y3)).far (p := ⟨wr.heap.size, 4, none⟩) (by have := HB.out.lt; simp; omega) (.int .i64 y4)).far (p := ⟨wr.heap.size, 5, none⟩) (by have := HB.out.lt; simp; omega) (.int .i64 y5)).far (p := ⟨wr.heap.size, 6, none⟩) (by have := HB.out.lt; simp; omega) (.int .i64 y6)).far (p := ⟨wr.heap.size, 7, none⟩) (by have := HB.out.lt; simp; omega) (.int .i64 y7))
        have hBw : Below w.heap.size w (World.setCell (World.setCell (World.setCell (World.setCell (World.setCell (World.setCell (World.setCell (World.setCell w3 ⟨wr.heap.size, 0, none⟩ (.int .i64 y0)) ⟨wr.heap.size, 1, none⟩ (.int .i64 y1)) ⟨wr.heap.size, 2, none⟩ (.int .i64 y2)) ⟨wr.heap.size, 3, none⟩ (.int .i64 y3)) ⟨wr.heap.size, 4, none⟩ (.int .i64 y4)) ⟨wr.heap.size, 5, none⟩ (.int .i64 y5)) ⟨wr.heap.size, 6, none⟩ (.int .i64 y6)) ⟨wr.heap.size, 7, none⟩ (.int .i64 y7)) := (Below.setCell (Below.setCell (Below.setCell (Below.setCell (Below.setCell (Below.setCell (Below.setCell (Below.setCell (hB.trans (hB3.mono hB.size)) (p := ⟨wr.heap.size, 0, none⟩) hB.size (.int .i64 y0)) (p := ⟨wr.heap.size, 1, none⟩) hB.size (.int .i64 y1)) (p := ⟨wr.heap.size, 2, none⟩) hB.size (.int .i64 y2)) (p := ⟨wr.heap.size, 3, none⟩) hB.size (.int .i64 y3)) (p := ⟨wr.heap.size, 4, none⟩) hB.size (.int .i64 y4)) (p := ⟨wr.heap.size, 5, none⟩) hB.size (.int .i64 y5)) (p := ⟨wr.heap.size, 6, none⟩) hB.size (.int .i64 y6)) (p := ⟨wr.heap.size, 7, none⟩) hB.size (.int .i64 y7))
        clear q0 q1 q2 q3 q4 q5 q6 q7 q8 hZ
        generalize World.setCell (World.setCell (World.setCell (World.setCell (World.setCell (World.setCell (World.setCell (World.setCell w3 ⟨wr.heap.size, 0, none⟩ (.int .i64 y0)) ⟨wr.heap.size, 1, none⟩ (.int .i64 y1)) ⟨wr.heap.size, 2, none⟩ (.int .i64 y2)) ⟨wr.heap.size, 3, none⟩ (.int .i64 y3)) ⟨wr.heap.size, 4, none⟩ (.int .i64 y4)) ⟨wr.heap.size, 5, none⟩ (.int .i64 y5)) ⟨wr.heap.size, 6, none⟩ (.int .i64 y6)) ⟨wr.heap.size, 7, none⟩ (.int .i64 y7) = W at hY hX hBw ⊢
        clear c0 c1 c2 c3 c4 c5 c6 c7
        go_wp2_with (first
          | (refine wpList_load_row rfl 22 (.tmp 7) rfl wr.heap.size rfl 22 #[.int .i64 y0, .int .i64 y1, .int .i64 y2, .int .i64 y3, .int .i64 y4, .int .i64 y5, .int .i64 y6, .int .i64 y7] (0, 0) (.array 8 3) hY (by kernel_rfl) rfl (by kernel_rfl) ?_)
          | (refine wpList_store_row rfl 22 (.tmp 5) (.tmp 57) rfl w2.heap.size #[.int .i64 y0, .int .i64 y1, .int .i64 y2, .int .i64 y3, .int .i64 y4, .int .i64 y5, .int .i64 y6, .int .i64 y7] rfl rfl 22 #[.int .i64 z0, .int .i64 z1, .int .i64 z2, .int .i64 z3, .int .i64 z4, .int .i64 z5, .int .i64 z6, .int .i64 z7] hX (by kernel_rfl) (by rfl) (by simp [Value.oneCell']) ?_))
        go_roundw
        case rel => exact ⟨i + 1, y0, y1, y2, y3, y4, y5, y6, y7, by go_num, by omega, HN1, Lib.hid (setRow_heap _ _ _ _ _ _ hX), below_setRow hBw (by omega) _⟩
        case measure => simp [intOf]; omega
    · obtain rfl : i = n := by omega
      have HL0 := HL
      have HB0 := HB
      have hB0 := hB
      clear HL HB hB
      obtain ⟨wo, rfl⟩ : ∃ wo : World, wo = wr := ⟨_, rfl⟩
      obtain ⟨a, ha⟩ : ∃ a, 64 * i = a := ⟨_, rfl⟩
      have e0 : 64 * (i : Int) = (a : Int) := by omega
      have e3 : (0 : Int) ≤ (a : Int) := by omega
      have e4 : (a : Int) ≤ (s.size : Int) := by omega
      obtain ⟨q, hq⟩ : ∃ q, s.extract a s.size = q := ⟨_, rfl⟩
      have hqs : q.size = s.size - a := by rw [← hq, size_extract, Nat.min_self]
      have HA := Lib.hid (And.intro ha (And.intro hq hqs))
      have hq2 : q.size ≤ 2000 := by omega
      go_wp2_with fail
      refine (pad_in s.size _ (by omega)).mono ?_
      rintro r w4 ⟨rfl, hb4⟩
      rw [HP.out.1]
      have HB4 := Lib.hid (HB0.out.below hb4 HB0.out.lt)
      have hB4 := hB0.trans (hb4.mono hB0.size)
      have hw4 : w2.heap.size < w4.heap.size := HB4.out.lt
      clear hb4 HB0 hB0
      have hc0 : ((q.size : Int) + (p.size : Int)) % 64 = 0 := by have := HP.out.2; omega
      have hcb : (((q.size : Int) + (p.size : Int)) % 64 != 0) = false := by simp [hc0]
      have hqp : (q.size : Int) + (p.size : Int) ≤ 3000 := by omega
      clear hc0 hqs ha
      go_wp2_with fail
      have HR0 : Hid (q ++ p = (s ++ p).extract (64 * i) (s ++ p).size) := Lib.hid (by rw [← HA.out.2.1, ← HA.out.1]; exact rest_join s p (by omega))
      have hrs : (q ++ p).size = q.size + p.size := ByteArray.size_append
      obtain ⟨rr, hrr⟩ : ∃ rr, q ++ p = rr := ⟨_, rfl⟩
      rw [hrr] at HR0 hrs ⊢
      have hr64 : rr.size % 64 = 0 := by have h1 := HP.out.2; have h2 := HA.out.1; have h3 := HA.out.2.2; omega
      have hrl : rr.size ≤ 2100 := by omega
      have HRS := Lib.hid (And.intro hrs hrr)
      have HS0 := Lib.hid (foldB_state startL_state s i)
      have H64 := Lib.hid hr64
      clear hrs hrr hcb hqp hr64
      go_loopw [12] (fun iv wr => ∃ (k t z0 z1 z2 z3 z4 z5 z6 z7 : Nat), iv = .int .i64 t ∧ Hid (t = 64 * k) ∧ t ≤ rr.size ∧ Hid (foldB (foldB startL s i) rr k = [z0, z1, z2, z3, z4, z5, z6, z7]) ∧
        Hid (Blk wr w2.heap.size 22 #[.int .i64 z0, .int .i64 z1, .int .i64 z2, .int .i64 z3, .int .i64 z4, .int .i64 z5, .int .i64 z6, .int .i64 z7]) ∧ Below w.heap.size w wr) (fun iv _ => rr.size - (intOf iv).toNat)
      case atStart => exact ⟨0, 0, _, _, _, _, _, _, _, _, rfl, rfl, by omega, HL0, HB4, hB4⟩
      case round =>
        clear HL0 HB4
        obtain ⟨k, t, z0, z1, z2, z3, z4, z5, z6, z7, rfl, HI, ht, HL, HB, hB⟩ := hrel
        by_cases hlt : t < rr.size
        · have ht64 : t + 64 ≤ rr.size := by have := HI.out; have := H64.out; omega
          obtain ⟨j, hj⟩ : ∃ j, t + 64 = j := ⟨_, rfl⟩
          obtain ⟨c, hc⟩ : ∃ c, rr.extract t j = c := ⟨_, rfl⟩
          have hcs : c.size = 64 := by rw [← hc, size_extract]; omega
          have hstep : foldB (foldB startL s i) rr (k + 1) = stepL (foldB (foldB startL s i) rr k) c := by rw [foldB, ← hc, ← hj, HI.out]
          obtain ⟨y0, y1, y2, y3, y4, y5, y6, y7, hy⟩ := stepL_words (stepL_state (foldB (foldB startL s i) rr k) c)
          have HY := Lib.hid hy
          have HN1 : Hid (foldB (foldB startL s i) rr (k + 1) = [y0, y1, y2, y3, y4, y5, y6, y7]) := Lib.hid (hstep.trans hy)
          have HC := Lib.hid hcs
          have HS := Lib.hid (foldB_state HS0.out rr k)
          have e1 : (t : Int) + 64 = (j : Int) := by omega
          have e2 : IntKind.i64.wrap (j : Int) = (j : Int) := IntWalk.i64_in _ (by omega)
          have e5 : (0 : Int) ≤ (t : Int) := by omega
          have e6 : (t : Int) ≤ (j : Int) := by omega
          have e7 : (j : Int) ≤ (rr.size : Int) := by omega
          obtain ⟨c0, c1, c2, c3, c4, c5, c6, c7⟩ := keep8 HB.out (Below.refl _ wr)
          have HGr := Lib.hid (rounds_of HG.out hB)
          have HJ := Lib.hid hj
          clear hstep hy hcs hj ht64
          go_wp2_with fail
          go_region_held3 (fun w' => w'.cell? ⟨w2.heap.size, 0, none⟩ = some (.int .i64 z0) ∧ w'.cell? ⟨w2.heap.size, 1, none⟩ = some (.int .i64 z1) ∧ w'.cell? ⟨w2.heap.size, 2, none⟩ = some (.int .i64 z2) ∧ w'.cell? ⟨w2.heap.size, 3, none⟩ = some (.int .i64 z3) ∧ w'.cell? ⟨w2.heap.size, 4, none⟩ = some (.int .i64 z4) ∧ w'.cell? ⟨w2.heap.size, 5, none⟩ = some (.int .i64 z5) ∧ w'.cell? ⟨w2.heap.size, 6, none⟩ = some (.int .i64 z6) ∧ w'.cell? ⟨w2.heap.size, 7, none⟩ = some (.int .i64 z7))
            ((refine keep8 HB.out ?_; go_grown))
            ((go_at_call 22; (with_reducible refine Calls.mono (step_grown (W0 := wr) (c := c) HL.out HY.out HC.out HGr.out ?_ HS.out) ?_); (focus (go_grown; done)); rintro r w3 ⟨rfl, hB3, hb3⟩; have hs3 := hB3.size; have hs4 := hb3.size; (first | (have hZ := keep8z hb3; obtain ⟨q0, q1, q2, q3, q4, q5, q6, q7⟩ := keep8 hZ (Below.refl _ w3); have q8 := hZ.frozen) | skip); clear hb3))
          · have hY : Blk (w3.alloc (.cells #[.int .i64 y0, .int .i64 y1, .int .i64 y2, .int .i64 y3, .int .i64 y4, .int .i64 y5, .int .i64 y6, .int .i64 y7] 22)) w3.heap.size 22 #[.int .i64 y0, .int .i64 y1, .int .i64 y2, .int .i64 y3, .int .i64 y4, .int .i64 y5, .int .i64 y6, .int .i64 y7] := Blk.new w3 _ _
            have hX : Blk (w3.alloc (.cells #[.int .i64 y0, .int .i64 y1, .int .i64 y2, .int .i64 y3, .int .i64 y4, .int .i64 y5, .int .i64 y6, .int .i64 y7] 22)) w2.heap.size 22 #[.int .i64 z0, .int .i64 z1, .int .i64 z2, .int .i64 z3, .int .i64 z4, .int .i64 z5, .int .i64 z6, .int .i64 z7] := (HB.out.below hB3 HB.out.lt).alloc _
            have hBw : Below w.heap.size w (w3.alloc (.cells #[.int .i64 y0, .int .i64 y1, .int .i64 y2, .int .i64 y3, .int .i64 y4, .int .i64 y5, .int .i64 y6, .int .i64 y7] 22)) := (hB.trans (hB3.mono hB.size)).alloc (by have := hB.size; omega) _
            generalize w3.alloc (.cells #[.int .i64 y0, .int .i64 y1, .int .i64 y2, .int .i64 y3, .int .i64 y4, .int .i64 y5, .int .i64 y6, .int .i64 y7] 22) = W at hY hX hBw ⊢
            clear c0 c1 c2 c3 c4 c5 c6 c7
            go_wp2_with (first
              | (refine wpList_load_row rfl 22 (.tmp 13) rfl w3.heap.size rfl 22 #[.int .i64 y0, .int .i64 y1, .int .i64 y2, .int .i64 y3, .int .i64 y4, .int .i64 y5, .int .i64 y6, .int .i64 y7] (0, 0) (.array 8 3) hY (by kernel_rfl) rfl (by kernel_rfl) ?_)
              | (refine wpList_store_row rfl 22 (.tmp 5) (.tmp 96) rfl w2.heap.size #[.int .i64 y0, .int .i64 y1, .int .i64 y2, .int .i64 y3, .int .i64 y4, .int .i64 y5, .int .i64 y6, .int .i64 y7] rfl rfl 22 #[.int .i64 z0, .int .i64 z1, .int .i64 z2, .int .i64 z3, .int .i64 z4, .int .i64 z5, .int .i64 z6, .int .i64 z7] hX (by kernel_rfl) (by rfl) (by simp [Value.oneCell']) ?_))
            go_roundw
            case rel => exact ⟨k + 1, j, y0, y1, y2, y3, y4, y5, y6, y7, rfl, Lib.hid (by rw [← HJ.out, HI.out]; omega), by omega, HN1, Lib.hid (setRow_heap _ _ _ _ _ _ hX), below_setRow hBw (by omega) _⟩
            case measure => have hjj := HJ.out; simp [intOf]; omega
          · have hY : Blk (World.setCell (World.setCell (World.setCell (World.setCell (World.setCell (World.setCell (World.setCell (World.setCell w3 ⟨wr.heap.size, 0, none⟩ (.int .i64 y0)) ⟨wr.heap.size, 1, none⟩ (.int .i64 y1)) ⟨wr.heap.size, 2, none⟩ (.int .i64 y2)) ⟨wr.heap.size, 3, none⟩ (.int .i64 y3)) ⟨wr.heap.size, 4, none⟩ (.int .i64 y4)) ⟨wr.heap.size, 5, none⟩ (.int .i64 y5)) ⟨wr.heap.size, 6, none⟩ (.int .i64 y6)) ⟨wr.heap.size, 7, none⟩ (.int .i64 y7)) wr.heap.size 22 #[.int .i64 y0, .int .i64 y1, .int .i64 y2, .int .i64 y3, .int .i64 y4, .int .i64 y5, .int .i64 y6, .int .i64 y7] := ((((((((hZ.set_ 0 (.int .i64 y0)).set_ 1 (.int .i64 y1)).set_ 2 (.int .i64 y2)).set_ 3 (.int .i64 y3)).set_ 4 (.int .i64 y4)).set_ 5 (.int .i64 y5)).set_ 6 (.int .i64 y6)).set_ 7 (.int .i64 y7))
            have hX : Blk (World.setCell (World.setCell (World.setCell (World.setCell (World.setCell (World.setCell (World.setCell (World.setCell w3 ⟨wr.heap.size, 0, none⟩ (.int .i64 y0)) ⟨wr.heap.size, 1, none⟩ (.int .i64 y1)) ⟨wr.heap.size, 2, none⟩ (.int .i64 y2)) ⟨wr.heap.size, 3, none⟩ (.int .i64 y3)) ⟨wr.heap.size, 4, none⟩ (.int .i64 y4)) ⟨wr.heap.size, 5, none⟩ (.int .i64 y5)) ⟨wr.heap.size, 6, none⟩ (.int .i64 y6)) ⟨wr.heap.size, 7, none⟩ (.int .i64 y7)) w2.heap.size 22 #[.int .i64 z0, .int .i64 z1, .int .i64 z2, .int .i64 z3, .int .i64 z4, .int .i64 z5, .int .i64 z6, .int .i64 z7] := (((((((((HB.out.below hB3 HB.out.lt).far (p := ⟨wr.heap.size, 0, none⟩) (by have := HB.out.lt; simp; omega) (.int .i64 y0)).far (p := ⟨wr.heap.size, 1, none⟩) (by have := HB.out.lt; simp; omega) (.int .i64 y1)).far (p := ⟨wr.heap.size, 2, none⟩) (by have := HB.out.lt; simp; omega) (.int .i64 y2)).far (p := ⟨wr.heap.size, 3, none⟩) (by have := HB.out.lt; simp; omega) (.int .i64 y3)).far (p := ⟨wr.heap.size, 4, none⟩) (by have := HB.out.lt; simp; omega) (.int .i64 y4)).far (p := ⟨wr.heap.size, 5, none⟩) (by have := HB.out.lt; simp; omega) (.int .i64 y5)).far (p := ⟨wr.heap.size, 6, none⟩) (by have := HB.out.lt; simp; omega) (.int .i64 y6)).far (p := ⟨wr.heap.size, 7, none⟩) (by have := HB.out.lt; simp; omega) (.int .i64 y7))
            have hBw : Below w.heap.size w (World.setCell (World.setCell (World.setCell (World.setCell (World.setCell (World.setCell (World.setCell (World.setCell w3 ⟨wr.heap.size, 0, none⟩ (.int .i64 y0)) ⟨wr.heap.size, 1, none⟩ (.int .i64 y1)) ⟨wr.heap.size, 2, none⟩ (.int .i64 y2)) ⟨wr.heap.size, 3, none⟩ (.int .i64 y3)) ⟨wr.heap.size, 4, none⟩ (.int .i64 y4)) ⟨wr.heap.size, 5, none⟩ (.int .i64 y5)) ⟨wr.heap.size, 6, none⟩ (.int .i64 y6)) ⟨wr.heap.size, 7, none⟩ (.int .i64 y7)) := (Below.setCell (Below.setCell (Below.setCell (Below.setCell (Below.setCell (Below.setCell (Below.setCell (Below.setCell (hB.trans (hB3.mono hB.size)) (p := ⟨wr.heap.size, 0, none⟩) hB.size (.int .i64 y0)) (p := ⟨wr.heap.size, 1, none⟩) hB.size (.int .i64 y1)) (p := ⟨wr.heap.size, 2, none⟩) hB.size (.int .i64 y2)) (p := ⟨wr.heap.size, 3, none⟩) hB.size (.int .i64 y3)) (p := ⟨wr.heap.size, 4, none⟩) hB.size (.int .i64 y4)) (p := ⟨wr.heap.size, 5, none⟩) hB.size (.int .i64 y5)) (p := ⟨wr.heap.size, 6, none⟩) hB.size (.int .i64 y6)) (p := ⟨wr.heap.size, 7, none⟩) hB.size (.int .i64 y7))
            clear q0 q1 q2 q3 q4 q5 q6 q7 q8 hZ
            generalize World.setCell (World.setCell (World.setCell (World.setCell (World.setCell (World.setCell (World.setCell (World.setCell w3 ⟨wr.heap.size, 0, none⟩ (.int .i64 y0)) ⟨wr.heap.size, 1, none⟩ (.int .i64 y1)) ⟨wr.heap.size, 2, none⟩ (.int .i64 y2)) ⟨wr.heap.size, 3, none⟩ (.int .i64 y3)) ⟨wr.heap.size, 4, none⟩ (.int .i64 y4)) ⟨wr.heap.size, 5, none⟩ (.int .i64 y5)) ⟨wr.heap.size, 6, none⟩ (.int .i64 y6)) ⟨wr.heap.size, 7, none⟩ (.int .i64 y7) = W at hY hX hBw ⊢
            clear c0 c1 c2 c3 c4 c5 c6 c7
            go_wp2_with (first
              | (refine wpList_load_row rfl 22 (.tmp 13) rfl wr.heap.size rfl 22 #[.int .i64 y0, .int .i64 y1, .int .i64 y2, .int .i64 y3, .int .i64 y4, .int .i64 y5, .int .i64 y6, .int .i64 y7] (0, 0) (.array 8 3) hY (by kernel_rfl) rfl (by kernel_rfl) ?_)
              | (refine wpList_store_row rfl 22 (.tmp 5) (.tmp 96) rfl w2.heap.size #[.int .i64 y0, .int .i64 y1, .int .i64 y2, .int .i64 y3, .int .i64 y4, .int .i64 y5, .int .i64 y6, .int .i64 y7] rfl rfl 22 #[.int .i64 z0, .int .i64 z1, .int .i64 z2, .int .i64 z3, .int .i64 z4, .int .i64 z5, .int .i64 z6, .int .i64 z7] hX (by kernel_rfl) (by rfl) (by simp [Value.oneCell']) ?_))
            go_roundw
            case rel => exact ⟨k + 1, j, y0, y1, y2, y3, y4, y5, y6, y7, rfl, Lib.hid (by rw [← HJ.out, HI.out]; omega), by omega, HN1, Lib.hid (setRow_heap _ _ _ _ _ _ hX), below_setRow hBw (by omega) _⟩
            case measure => have hjj := HJ.out; simp [intOf]; omega
        · obtain rfl : t = rr.size := by omega
          have hst := foldB_state HS0.out rr k
          rw [HL.out] at hst
          have hfin : stateS s = [z0, z1, z2, z3, z4, z5, z6, z7] := by
            have h1 := HRS.out.1
            have h2 := HI.out
            have h3 := HA.out.1
            have h4 := HA.out.2.2
            have h5 := HR0.out
            rw [stateS, HP.out.1, show (s.size + p.size) / 64 = i + k by omega, foldB_add, foldB_left (by omega), ← h5, HL.out]
          have hcj : cutW (sumS s) true = [z0, z1, z2, z3, z4, z5, z6, z7] := by rw [sumS, hfin, cut_join _ hst.2]
          have hos := sumS_size s
          obtain ⟨o, ho⟩ : ∃ o, sumS s = o := ⟨_, rfl⟩
          rw [ho] at hcj hos
          have HO := Lib.hid (And.intro ho (And.intro hcj hos))
          clear hst hfin hcj hos ho
          have hsz2000 : s.size ≤ 1000000000 := by omega
          go_wp2_with fail
          refine (sum_in s _ hsz2000 (rounds_of HG.out hB)).mono ?_
          rintro r w5 ⟨rfl, hb5⟩
          rw [HO.out.1]
          have HB5 := Lib.hid (HB.out.below hb5 HB.out.lt)
          have hB5 := hB.trans (hb5.mono hB.size)
          have hg5 := HB5.out.lt
          clear hb5 hsz2000
          go_wp2_with fail
          refine (cut_high o _ (by rw [HO.out.2.2]) (by rw [HO.out.2.2]; omega)).mono ?_
          rintro r w6 ⟨g, rfl, hR6, hg6, hb6⟩
          rw [HO.out.2.1] at hR6
          rw [show o.size / 4 = 8 by rw [HO.out.2.2]]
          have HB6 := Lib.hid (HB5.out.below hb6 HB5.out.lt)
          have hB6 := hB5.trans (hb6.mono hB5.size)
          have HR6 : Hid (Blk w6 g 3 #[.int .i64 z0, .int .i64 z1, .int .i64 z2, .int .i64 z3, .int .i64 z4, .int .i64 z5, .int .i64 z6, .int .i64 z7]) := Lib.hid hR6
          clear hb6 hg6 hR6
          go_wp2_with fail
          obtain ⟨wq, rfl⟩ : ∃ wq : World, wq = wr := ⟨_, rfl⟩
          go_loopw [17] (fun iv wr => ∃ k : Nat, k ≤ 8 ∧ iv = .int .i64 k ∧ Below w6.heap.size w6 wr) (fun iv _ => 8 - (intOf iv).toNat)
          case atStart => exact ⟨0, by omega, rfl, Below.refl _ _⟩
          case round =>
            obtain ⟨k, hk, rfl, hBk⟩ := hrel
            by_cases hlt : k < 8
            · obtain ⟨x, hx⟩ : ∃ x : Nat, (#[.int .i64 z0, .int .i64 z1, .int .i64 z2, .int .i64 z3, .int .i64 z4, .int .i64 z5, .int .i64 z6, .int .i64 z7] : Array Value)[k]? = some (.int .i64 x) := get8 hlt
              have ca := ((HR6.out.below hBk HR6.out.lt).cell k).trans hx
              have cb := ((HB6.out.below hBk HB6.out.lt).cell k).trans hx
              have k0 : (0 : Int) ≤ (k : Int) := by omega
              have k1 : (k : Int) < 8 := by omega
              clear hx
              go_wp2_with fail
              go_region
              go_wp2_with fail
              go_roundw
              case rel => exact ⟨k + 1, by omega, by go_num, hBk.drew⟩
              case measure => simp [intOf]; omega
            · obtain rfl : k = 8 := by omega
              have hBf := hB6.trans (hBk.mono hB6.size)
              go_wp2_with fail
              refine (sums_any _ (rounds_of HG.out hBf)).mono ?_
              rintro r w7 ⟨rfl, hb7⟩
              go_wp2_with fail
              go_ret
              exact ⟨rfl, hBf.trans (hb7.mono hBf.size)⟩
theorem goes_all (s : ByteArray) (b : Int) (w : World) (hG : Rounds w) (hs : s.size ≤ 140737488351232) :
    Calls Tryd.prog 7 #[.string s, .int .i64 b] w fun e w' => e = .returned (.bool true) ∧ Below w.heap.size w w' := by
  by_cases h : 2000 < s.size ∨ b < 0 ∨ 40 < b ∨ (s.size : Int) < 64 * b
  · exact goes_sums s b w hG (by omega) h
  · obtain ⟨n, rfl⟩ := Int.eq_ofNat_of_zero_le (show 0 ≤ b by omega)
    exact goes_in s n w hG (by omega) (by omega) (by omega)
end Go.Proofs.YtkaaicmadknjcaaDoor
