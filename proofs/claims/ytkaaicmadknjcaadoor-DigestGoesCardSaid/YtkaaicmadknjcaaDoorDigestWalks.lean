/- DigestWalks: the walk. -/
import Derived.Test.YtkaaicmadknjcaaDoorDigL
import Derived.Deep.RegionHeld3
set_option linter.unusedVariables false
namespace Go.Proofs.YtkaaicmadknjcaaDoor
open Go.RowKit
theorem keep8 {w wr : World} {g : Nat} {a b c d e f h i : Int} (H : Blk wr g 22 #[.int .i64 a, .int .i64 b, .int .i64 c, .int .i64 d, .int .i64 e, .int .i64 f, .int .i64 h, .int .i64 i]) (hb : Below wr.heap.size wr w) :
    w.cell? ⟨g, 0, none⟩ = some (.int .i64 a) ∧ w.cell? ⟨g, 1, none⟩ = some (.int .i64 b) ∧ w.cell? ⟨g, 2, none⟩ = some (.int .i64 c) ∧ w.cell? ⟨g, 3, none⟩ = some (.int .i64 d) ∧ w.cell? ⟨g, 4, none⟩ = some (.int .i64 e) ∧ w.cell? ⟨g, 5, none⟩ = some (.int .i64 f) ∧ w.cell? ⟨g, 6, none⟩ = some (.int .i64 h) ∧ w.cell? ⟨g, 7, none⟩ = some (.int .i64 i) :=
  have H' := H.below hb H.lt
  ⟨H'.cell 0, H'.cell 1, H'.cell 2, H'.cell 3, H'.cell 4, H'.cell 5, H'.cell 6, H'.cell 7⟩
theorem walks_far (s : ByteArray) (w : World) (h : 2000 < s.size) :
    Calls Tryd.prog 5 #[.string s] w fun e w' => e = .returned (.bool true) ∧ Below w.heap.size w w' := by
  go_enter Tryd.func5, Tryd.ntmps5
  go_wp2
  go_ret
  exact ⟨rfl, Below.refl _ _⟩
theorem stepL_words {L : List Nat} (hL : State L) : ∃ a b c d e f g i : Nat, L = [a, b, c, d, e, f, g, i] := list8 hL.1
/-- eight numbers, as the program bears them -/
theorem step_lit {L : List Nat} {x0 x1 x2 x3 x4 x5 x6 x7 y0 y1 y2 y3 y4 y5 y6 y7 : Nat} {c : ByteArray} {w : World} (hL : L = [x0, x1, x2, x3, x4, x5, x6, x7]) (hM : stepL L c = [y0, y1, y2, y3, y4, y5, y6, y7]) (hs : c.size = 64) (hG : Rounds w) (hS : State L) :
    Calls Tryd.prog 22 #[.agg #[.int .i64 x0, .int .i64 x1, .int .i64 x2, .int .i64 x3, .int .i64 x4, .int .i64 x5, .int .i64 x6, .int .i64 x7], .string c] w fun r w' =>
      r = .returned (.tuple #[.agg #[.int .i64 y0, .int .i64 y1, .int .i64 y2, .int .i64 y3, .int .i64 y4, .int .i64 y5, .int .i64 y6, .int .i64 y7], .bool true]) ∧ Below w.heap.size w w' := by
  have := step_good L c w hs hG hS
  rw [hM, hL] at this
  exact this
theorem step_grown {L : List Nat} {x0 x1 x2 x3 x4 x5 x6 x7 y0 y1 y2 y3 y4 y5 y6 y7 : Nat} {c : ByteArray} {W0 w : World} (hL : L = [x0, x1, x2, x3, x4, x5, x6, x7]) (hM : stepL L c = [y0, y1, y2, y3, y4, y5, y6, y7]) (hs : c.size = 64) (hG : Rounds W0) (hpre : Below W0.heap.size W0 w) (hS : State L) :
    Calls Tryd.prog 22 #[.agg #[.int .i64 x0, .int .i64 x1, .int .i64 x2, .int .i64 x3, .int .i64 x4, .int .i64 x5, .int .i64 x6, .int .i64 x7], .string c] w fun r w' =>
      r = .returned (.tuple #[.agg #[.int .i64 y0, .int .i64 y1, .int .i64 y2, .int .i64 y3, .int .i64 y4, .int .i64 y5, .int .i64 y6, .int .i64 y7], .bool true]) ∧ Below W0.heap.size W0 w' ∧ Below w.heap.size w w' :=
  (step_lit hL hM hs (rounds_of hG hpre) hS).mono fun r w' ⟨h1, h2⟩ => ⟨h1, hpre.trans (h2.mono hpre.size), h2⟩
/-- a box of eight zeros, made ahead of a call -/
theorem keep8z {wr w3 : World} (hb : Below (wr.drew.alloc (.cells #[.int .i64 0, .int .i64 0, .int .i64 0, .int .i64 0, .int .i64 0, .int .i64 0, .int .i64 0, .int .i64 0] 22)).heap.size (wr.drew.alloc (.cells #[.int .i64 0, .int .i64 0, .int .i64 0, .int .i64 0, .int .i64 0, .int .i64 0, .int .i64 0, .int .i64 0] 22)) w3) :
    Blk w3 wr.heap.size 22 #[.int .i64 0, .int .i64 0, .int .i64 0, .int .i64 0, .int .i64 0, .int .i64 0, .int .i64 0, .int .i64 0] := (Blk.new wr.drew _ _).below hb (by simp)
set_option maxHeartbeats 1000000 in
set_option maxRecDepth 100000 in
theorem walks_in (s : ByteArray) (w : World) (hG : Rounds w) (hs : s.size ≤ 2000) :
    Calls Tryd.prog 5 #[.string s] w fun e w' => e = .returned (.bool true) ∧ Below w.heap.size w w' := by
  have HG := Lib.hid hG
  have hp := pad_bounds s.size
  have hpw := pad_whole s.size
  obtain ⟨p, hpe⟩ : ∃ p, padB s.size = p := ⟨_, rfl⟩
  rw [hpe] at hp hpw
  have HP := Lib.hid hpe
  have hc : ((s.size : Int) + (p.size : Int)) % 64 = 0 := by omega
  have hcb : (((s.size : Int) + (p.size : Int)) % 64 != 0) = false := by simp [hc]
  have HPW := Lib.hid hpw
  clear hG hpe hpw hc
  go_enter Tryd.func5, Tryd.ntmps5
  go_wp2_with fail
  refine (pad_in s.size _ (by omega)).mono ?_
  rintro r w1 ⟨rfl, hb1⟩
  rw [HP.out]
  go_wp2_with fail
  refine (start_any _).mono ?_
  rintro r w2 ⟨rfl, hb2⟩
  have hB2 := hb1.trans (hb2.mono hb1.size)
  clear hb1 hb2 hcb
  obtain ⟨x0, x1, x2, x3, x4, x5, x6, x7, hx⟩ := stepL_words startL_state
  rw [hx]
  have HX := Lib.hid hx
  clear hx
  simp only [ints, List.map_cons, List.map_nil, vI]
  go_wp2_with fail
  have hsz : (s ++ p).size = s.size + p.size := ByteArray.size_append
  generalize hal : s ++ p = al at *
  have hN : al.size % 64 = 0 := by have := HPW.out; omega
  have hN2 : al.size ≤ 2100 := by omega
  have HAL := Lib.hid (And.intro hal hsz)
  have hb0 : Hid (Blk (w2.alloc (.cells #[.int .i64 x0, .int .i64 x1, .int .i64 x2, .int .i64 x3, .int .i64 x4, .int .i64 x5, .int .i64 x6, .int .i64 x7] 22)) w2.heap.size 22 #[.int .i64 x0, .int .i64 x1, .int .i64 x2, .int .i64 x3, .int .i64 x4, .int .i64 x5, .int .i64 x6, .int .i64 x7]) := Lib.hid (Blk.new _ _ _)
  have h2 := hB2.size
  clear hal hsz hp
  go_loopw [7] (fun iv wr => ∃ (k i z0 z1 z2 z3 z4 z5 z6 z7 : Nat), iv = .int .i64 i ∧ Hid (i = 64 * k) ∧ i ≤ al.size ∧ Hid (foldB startL al k = [z0, z1, z2, z3, z4, z5, z6, z7]) ∧
    Hid (Blk wr w2.heap.size 22 #[.int .i64 z0, .int .i64 z1, .int .i64 z2, .int .i64 z3, .int .i64 z4, .int .i64 z5, .int .i64 z6, .int .i64 z7]) ∧ Below w.heap.size w wr) (fun iv _ => al.size - (intOf iv).toNat)
  case atStart => exact ⟨0, 0, x0, x1, x2, x3, x4, x5, x6, x7, rfl, rfl, by omega, HX, hb0, by go_grown⟩
  case round =>
    clear hb0 HX
    obtain ⟨k, i, z0, z1, z2, z3, z4, z5, z6, z7, rfl, HI, hi, HL, HB, hB⟩ := hrel
    by_cases hlt : i < al.size
    · have hi64 : i + 64 ≤ al.size := by have := HI.out; omega
      obtain ⟨j, hj⟩ : ∃ j, i + 64 = j := ⟨_, rfl⟩
      obtain ⟨c, hc⟩ : ∃ c, al.extract i j = c := ⟨_, rfl⟩
      have hcs : c.size = 64 := by rw [← hc, size_extract]; omega
      have hstep : foldB startL al (k + 1) = stepL (foldB startL al k) c := by rw [foldB, ← hc, ← hj, HI.out]
      obtain ⟨y0, y1, y2, y3, y4, y5, y6, y7, hy⟩ := stepL_words (stepL_state (foldB startL al k) c)
      have HY := Lib.hid hy
      have HN1 : Hid (foldB startL al (k + 1) = [y0, y1, y2, y3, y4, y5, y6, y7]) := Lib.hid (hstep.trans hy)
      have HC := Lib.hid hcs
      have HS := Lib.hid (foldB_state startL_state al k)
      have e1 : (i : Int) + 64 = (j : Int) := by omega
      have e2 : IntKind.i64.wrap (j : Int) = (j : Int) := IntWalk.i64_in _ (by omega)
      have e3 : (0 : Int) ≤ (i : Int) := by omega
      have e4 : (i : Int) ≤ (j : Int) := by omega
      have e5 : (j : Int) ≤ (al.size : Int) := by omega
      obtain ⟨c0, c1, c2, c3, c4, c5, c6, c7⟩ := keep8 HB.out (Below.refl _ wr)
      have HJ := Lib.hid hj
      have HGr := Lib.hid (rounds_of HG.out hB)
      clear hstep hy hcs hj hi64
      go_wp2_with fail
      go_region_held3 (fun w' => w'.cell? ⟨w2.heap.size, 0, none⟩ = some (.int .i64 z0) ∧ w'.cell? ⟨w2.heap.size, 1, none⟩ = some (.int .i64 z1) ∧ w'.cell? ⟨w2.heap.size, 2, none⟩ = some (.int .i64 z2) ∧ w'.cell? ⟨w2.heap.size, 3, none⟩ = some (.int .i64 z3) ∧ w'.cell? ⟨w2.heap.size, 4, none⟩ = some (.int .i64 z4) ∧ w'.cell? ⟨w2.heap.size, 5, none⟩ = some (.int .i64 z5) ∧ w'.cell? ⟨w2.heap.size, 6, none⟩ = some (.int .i64 z6) ∧ w'.cell? ⟨w2.heap.size, 7, none⟩ = some (.int .i64 z7))
        ((refine keep8 HB.out ?_; go_grown))
        ((go_at_call 22; (with_reducible refine Calls.mono (step_grown (W0 := wr) (c := c) HL.out HY.out HC.out HGr.out ?_ HS.out) ?_); (focus (go_grown; done)); rintro r w3 ⟨rfl, hB3, hb3⟩; have hs3 := hB3.size; have hs4 := hb3.size; (first | (have hZ := keep8z hb3; obtain ⟨q0, q1, q2, q3, q4, q5, q6, q7⟩ := keep8 hZ (Below.refl _ w3); have q8 := hZ.frozen) | skip); clear hb3))
      · have hY : Blk (w3.alloc (.cells #[.int .i64 y0, .int .i64 y1, .int .i64 y2, .int .i64 y3, .int .i64 y4, .int .i64 y5, .int .i64 y6, .int .i64 y7] 22)) w3.heap.size 22 #[.int .i64 y0, .int .i64 y1, .int .i64 y2, .int .i64 y3, .int .i64 y4, .int .i64 y5, .int .i64 y6, .int .i64 y7] := Blk.new w3 _ _
        have hX : Blk (w3.alloc (.cells #[.int .i64 y0, .int .i64 y1, .int .i64 y2, .int .i64 y3, .int .i64 y4, .int .i64 y5, .int .i64 y6, .int .i64 y7] 22)) w2.heap.size 22 #[.int .i64 z0, .int .i64 z1, .int .i64 z2, .int .i64 z3, .int .i64 z4, .int .i64 z5, .int .i64 z6, .int .i64 z7] := (HB.out.below hB3 HB.out.lt).alloc _
        have hBw : Below w.heap.size w (w3.alloc (.cells #[.int .i64 y0, .int .i64 y1, .int .i64 y2, .int .i64 y3, .int .i64 y4, .int .i64 y5, .int .i64 y6, .int .i64 y7] 22)) := (hB.trans (hB3.mono hB.size)).alloc (by have := hB.size; omega) _
        generalize w3.alloc (.cells #[.int .i64 y0, .int .i64 y1, .int .i64 y2, .int .i64 y3, .int .i64 y4, .int .i64 y5, .int .i64 y6, .int .i64 y7] 22) = W at hY hX hBw ⊢
        clear c0 c1 c2 c3 c4 c5 c6 c7
        go_wp2_with (first
          | (refine wpList_load_row rfl 22 (.tmp 8) rfl w3.heap.size rfl 22 #[.int .i64 y0, .int .i64 y1, .int .i64 y2, .int .i64 y3, .int .i64 y4, .int .i64 y5, .int .i64 y6, .int .i64 y7] (0, 0) (.array 8 3) hY (by kernel_rfl) rfl (by kernel_rfl) ?_)
          | (refine wpList_store_row rfl 22 (.tmp 6) (.tmp 51) rfl w2.heap.size #[.int .i64 y0, .int .i64 y1, .int .i64 y2, .int .i64 y3, .int .i64 y4, .int .i64 y5, .int .i64 y6, .int .i64 y7] rfl rfl 22 #[.int .i64 z0, .int .i64 z1, .int .i64 z2, .int .i64 z3, .int .i64 z4, .int .i64 z5, .int .i64 z6, .int .i64 z7] hX (by kernel_rfl) (by rfl) (by simp [Value.oneCell']) ?_))
        go_roundw
        case rel => exact ⟨k + 1, j, y0, y1, y2, y3, y4, y5, y6, y7, rfl, Lib.hid (by rw [← HJ.out, HI.out]; omega), by omega, HN1, Lib.hid (setRow_heap _ _ _ _ _ _ hX), below_setRow hBw (by omega) _⟩
        case measure => have hjj := HJ.out; simp [intOf]; omega
      · have hY : Blk (World.setCell (World.setCell (World.setCell (World.setCell (World.setCell (World.setCell (World.setCell (World.setCell w3 ⟨wr.heap.size, 0, none⟩ (.int .i64 y0)) ⟨wr.heap.size, 1, none⟩ (.int .i64 y1)) ⟨wr.heap.size, 2, none⟩ (.int .i64 y2)) ⟨wr.heap.size, 3, none⟩ (.int .i64 y3)) ⟨wr.heap.size, 4, none⟩ (.int .i64 y4)) ⟨wr.heap.size, 5, none⟩ (.int .i64 y5)) ⟨wr.heap.size, 6, none⟩ (.int .i64 y6)) ⟨wr.heap.size, 7, none⟩ (.int .i64 y7)) wr.heap.size 22 #[.int .i64 y0, .int .i64 y1, .int .i64 y2, .int .i64 y3, .int .i64 y4, .int .i64 y5, .int .i64 y6, .int .i64 y7] := ((((((((hZ.set_ 0 (.int .i64 y0)).set_ 1 (.int .i64 y1)).set_ 2 (.int .i64 y2)).set_ 3 (.int .i64 y3)).set_ 4 (.int .i64 y4)).set_ 5 (.int .i64 y5)).set_ 6 (.int .i64 y6)).set_ 7 (.int .i64 y7))
        have hX : Blk (World.setCell (World.setCell (World.setCell (World.setCell (World.setCell (World.setCell (World.setCell (World.setCell w3 ⟨wr.heap.size, 0, none⟩ (.int .i64 y0)) ⟨wr.heap.size, 1, none⟩ (.int .i64 y1)) ⟨wr.heap.size, 2, none⟩ (.int .i64 y2)) ⟨wr.heap.size, 3, none⟩ (.int .i64 y3)) ⟨wr.heap.size, 4, none⟩ (.int .i64 y4)) ⟨wr.heap.size, 5, none⟩ (.int .i64 y5)) ⟨wr.heap.size, 6, none⟩ (.int .i64 y6)) ⟨wr.heap.size, 7, none⟩ (.int .i64 y7)) w2.heap.size 22 #[.int .i64 z0, .int .i64 z1, .int .i64 z2, .int .i64 z3, .int .i64 z4, .int .i64 z5, .int .i64 z6, .int .i64 z7] := (((((((((HB.out.below hB3 HB.out.lt).far (p := ⟨wr.heap.size, 0, none⟩) (by have := HB.out.lt; simp; omega) (.int .i64 y0)).far (p := ⟨wr.heap.size, 1, none⟩) (by have := HB.out.lt; simp; omega) (.int .i64 y1)).far (p := ⟨wr.heap.size, 2, none⟩) (by have := HB.out.lt; simp; omega) (.int .i64 y2)).far (p := ⟨wr.heap.size, 3, none⟩) (by have := HB.out.lt; simp; omega) (.int .i64 y3)).far (p := ⟨wr.heap.size, 4, none⟩) (by have := HB.out.lt; simp; omega) (.int .i64 y4)).far (p := ⟨wr.heap.size, 5, none⟩) (by have := HB.out.lt; simp; omega) (.int .i64 y5)).far (p := ⟨wr.heap.size, 6, none⟩) (by have := HB.out.lt; simp; omega) (.int .i64 y6)).far (p := ⟨wr.heap.size, 7, none⟩) (by have := HB.out.lt; simp; omega) (.int .i64 y7))
        have hBw : Below w.heap.size w (World.setCell (World.setCell (World.setCell (World.setCell (World.setCell (World.setCell (World.setCell (World.setCell w3 ⟨wr.heap.size, 0, none⟩ (.int .i64 y0)) ⟨wr.heap.size, 1, none⟩ (.int .i64 y1)) ⟨wr.heap.size, 2, none⟩ (.int .i64 y2)) ⟨wr.heap.size, 3, none⟩ (.int .i64 y3)) ⟨wr.heap.size, 4, none⟩ (.int .i64 y4)) ⟨wr.heap.size, 5, none⟩ (.int .i64 y5)) ⟨wr.heap.size, 6, none⟩ (.int .i64 y6)) ⟨wr.heap.size, 7, none⟩ (.int .i64 y7)) := (Below.setCell (Below.setCell (Below.setCell (Below.setCell (Below.setCell (Below.setCell (Below.setCell (Below.setCell (hB.trans (hB3.mono hB.size)) (p := ⟨wr.heap.size, 0, none⟩) hB.size (.int .i64 y0)) (p := ⟨wr.heap.size, 1, none⟩) hB.size (.int .i64 y1)) (p := ⟨wr.heap.size, 2, none⟩) hB.size (.int .i64 y2)) (p := ⟨wr.heap.size, 3, none⟩) hB.size (.int .i64 y3)) (p := ⟨wr.heap.size, 4, none⟩) hB.size (.int .i64 y4)) (p := ⟨wr.heap.size, 5, none⟩) hB.size (.int .i64 y5)) (p := ⟨wr.heap.size, 6, none⟩) hB.size (.int .i64 y6)) (p := ⟨wr.heap.size, 7, none⟩) hB.size (.int .i64 y7))
        clear q0 q1 q2 q3 q4 q5 q6 q7 q8 hZ
        generalize World.setCell (World.setCell (World.setCell (World.setCell (World.setCell (World.setCell (World.setCell (World.setCell w3 ⟨wr.heap.size, 0, none⟩ (.int .i64 y0)) ⟨wr.heap.size, 1, none⟩ (.int .i64 y1)) ⟨wr.heap.size, 2, none⟩ (.int .i64 y2)) ⟨wr.heap.size, 3, none⟩ (.int .i64 y3)) ⟨wr.heap.size, 4, none⟩ (.int .i64 y4)) ⟨wr.heap.size, 5, none⟩ (.int .i64 y5)) ⟨wr.heap.size, 6, none⟩ (.int .i64 y6)) ⟨wr.heap.size, 7, none⟩ (.int .i64 y7) = W at hY hX hBw ⊢
        clear c0 c1 c2 c3 c4 c5 c6 c7
        go_wp2_with (first
          | (refine wpList_load_row rfl 22 (.tmp 8) rfl wr.heap.size rfl 22 #[.int .i64 y0, .int .i64 y1, .int .i64 y2, .int .i64 y3, .int .i64 y4, .int .i64 y5, .int .i64 y6, .int .i64 y7] (0, 0) (.array 8 3) hY (by kernel_rfl) rfl (by kernel_rfl) ?_)
          | (refine wpList_store_row rfl 22 (.tmp 6) (.tmp 51) rfl w2.heap.size #[.int .i64 y0, .int .i64 y1, .int .i64 y2, .int .i64 y3, .int .i64 y4, .int .i64 y5, .int .i64 y6, .int .i64 y7] rfl rfl 22 #[.int .i64 z0, .int .i64 z1, .int .i64 z2, .int .i64 z3, .int .i64 z4, .int .i64 z5, .int .i64 z6, .int .i64 z7] hX (by kernel_rfl) (by rfl) (by simp [Value.oneCell']) ?_))
        go_roundw
        case rel => exact ⟨k + 1, j, y0, y1, y2, y3, y4, y5, y6, y7, rfl, Lib.hid (by rw [← HJ.out, HI.out]; omega), by omega, HN1, Lib.hid (setRow_heap _ _ _ _ _ _ hX), below_setRow hBw (by omega) _⟩
        case measure => have hjj := HJ.out; simp [intOf]; omega
    · obtain rfl : i = al.size := by omega
      have hst := foldB_state startL_state al k
      rw [HL.out] at hst
      have hlt0 := HB.out.lt
      have hsl := slr_newT (W := wr) [z0, z1, z2, z3, z4, z5, z6, z7] (B := wr.heap.size) HB.out hlt0
      have hv : joinW [z0, z1, z2, z3, z4, z5, z6, z7] true = sumS s := by
        have h1 := HAL.out.2
        have h2 := HI.out
        rw [← HL.out, sumS, stateS, HP.out, HAL.out.1, ← h1, h2, Nat.mul_div_cancel_left k (by omega)]
      have hos := sumS_size s
      obtain ⟨o, ho⟩ : ∃ o, sumS s = o := ⟨_, rfl⟩
      rw [ho] at hv hos
      have t1 : ((o.size : Int) == 32) = true := by simp; omega
      have HV := Lib.hid (And.intro hv ho)
      have HSL := Lib.hid (And.intro hsl hst.2)
      clear hst hsl hv hos ho
      go_wp2_with fail
      refine (join_high [z0, z1, z2, z3, z4, z5, z6, z7] _ 8 8 wr HSL.out.1 (by omega) HSL.out.2 (by omega)).mono ?_
      rintro e w3 ⟨rfl, hb3⟩
      rw [HV.out.1]
      have hB3 := hB.trans (hb3.mono hB.size)
      have HG3 := Lib.hid (rounds_of HG.out hB3)
      clear hb3
      go_wp2_with fail
      refine (sums_any _ HG3.out).mono ?_
      rintro e w4 ⟨rfl, hb4⟩
      have hB4 := hB3.trans (hb4.mono hB3.size)
      have HG4 := Lib.hid (rounds_of HG.out hB4)
      clear hb4
      go_wp2_with fail
      refine (sum_in s _ (by omega) HG4.out).mono ?_
      rintro e w5 ⟨rfl, hb5⟩
      rw [HV.out.2]
      have hB5 := hB4.trans (hb5.mono hB4.size)
      clear hb5
      go_wp2_with fail
      go_ret
      exact ⟨rfl, hB5⟩
theorem walks_all (s : ByteArray) (w : World) (hG : Rounds w) :
    Calls Tryd.prog 5 #[.string s] w fun e w' => e = .returned (.bool true) ∧ Below w.heap.size w w' := by
  by_cases h : 2000 < s.size
  · exact walks_far s w h
  · exact walks_in s w hG (by omega)
end Go.Proofs.YtkaaicmadknjcaaDoor
