/- PledgeOne: the walk. -/
import Derived.Test.YtkaaicmadknjcaaDoorPldH
set_option linter.unusedVariables false
set_option linter.unusedSimpArgs false
namespace Go.Proofs.YtkaaicmadknjcaaDoor
open Go.RowKit
theorem pone_far (s b s2 b2 : ByteArray) (x y : Int) (w : World) (hf : farB [s, s2, b, b2] = true) :
    Calls Tryd.prog 17 #[.string s, shV x b, .string s2, shV y b2] w fun e w' => e = .returned (.bool true) ∧ Below w.heap.size w w' := by
  have HF := Lib.hid hf
  clear hf
  unfold shV
  go_enter Tryd.func17, Tryd.ntmps17
  go_wp2_with fail
  refine (far4 s s2 b b2 (w.heap.size + 1 + 1) _ (Blk.new_at (by simp) _ _) (by simp)).mono ?_
  rintro e w1 ⟨rfl, rfl⟩
  rw [HF.out]
  go_wp2_with fail
  go_ret
  exact ⟨rfl, by go_grown⟩
set_option maxRecDepth 100000 in
set_option maxHeartbeats 1000000 in
theorem pone_e (s b s2 b2 M N : ByteArray) (x y f : Int) (w : World) (hG : Rounds w) (hf : farB [s, s2, b, b2] = false)
    (hK : ∀ W, Rounds W → Calls Tryd.prog 45 #[.string s, shV x b] W fun e w' => e = .returned (.tuple #[.string M, .int .i64 1]) ∧ Below W.heap.size W w')
    (hL : ∀ W, Rounds W → Calls Tryd.prog 45 #[.string s2, shV y b2] W fun e w' => e = .returned (.tuple #[.string N, .int .i64 f]) ∧ Below W.heap.size W w')
    (hP : ∀ W, Rounds W → Calls Tryd.prog 56 #[.string s, shV x b, .string s2, shV y b2] W fun e w' => e = .returned (.tuple #[.string ByteArray.empty, .string ByteArray.empty, .bool false]) ∧ Below W.heap.size W w') :
    Calls Tryd.prog 17 #[.string s, shV x b, .string s2, shV y b2] w fun e w' => e = .returned (.bool true) ∧ Below w.heap.size w w' := by
  have HG := Lib.hid hG
  have HF := Lib.hid hf
  have HK := Lib.hid hK
  have HL := Lib.hid hL
  have HP := Lib.hid hP
  clear hG hf hK hL hP
  unfold shV at *
  go_enter Tryd.func17, Tryd.ntmps17
  go_wp2_with fail
  refine (far4 s s2 b b2 (w.heap.size + 1 + 1) _ (Blk.new_at (by simp) _ _) (by simp)).mono ?_
  rintro e w1 ⟨rfl, rfl⟩
  rw [HF.out]
  go_wp2_with fail
  refine (HK.out _ (HG.out.below (B := w.heap.size) (by go_grown) HG.out.pos)).mono ?_
  rintro e w2 ⟨rfl, hb2⟩
  have hX2 := (((Blk.new w 51 #[.int .i64 x, .string b]).alloc (.cells #[.int .i64 y, .string b2] 51)).alloc (.cells #[.string s, .string s2, .string b, .string b2] 9)).below hb2 (by first | (simp; done) | (simp; omega))
  have hY2 := ((Blk.new_at (g := w.heap.size + 1) (w := w.alloc (.cells #[.int .i64 x, .string b] 51)) (by simp) 51 #[.int .i64 y, .string b2]).alloc (.cells #[.string s, .string s2, .string b, .string b2] 9)).below hb2 (by first | (simp; done) | (simp; omega))
  have hB2 : Below w.heap.size w w2 := Below.trans (by go_grown) (hb2.mono (by first | (simp; done) | (simp; omega)))
  clear hb2
  have d0 := hY2.cells 0 _ rfl
  have d1 := hY2.cells 1 _ rfl
  simp only [List.getElem_toArray, List.getElem_cons_zero, List.getElem_cons_succ] at d0 d1
  go_wp2_with fail
  refine (HL.out _ (rounds_of HG.out hB2)).mono ?_
  rintro e w3 ⟨rfl, hb3⟩
  have hX3 := hX2.below hb3 hX2.lt
  have hY3 := hY2.below hb3 hY2.lt
  have hB3 := hB2.trans (hb3.mono hB2.size)
  clear hb3 d0 d1 hX2 hY2
  have hs3 := hB3.size
  have c0 := hX3.cells 0 _ rfl
  have c1 := hX3.cells 1 _ rfl
  have d0 := hY3.cells 0 _ rfl
  have d1 := hY3.cells 1 _ rfl
  simp only [List.getElem_toArray, List.getElem_cons_zero, List.getElem_cons_succ] at c0 c1 d0 d1
  go_wp2_with fail
  refine (HP.out _ (rounds_of HG.out hB3)).mono ?_
  rintro e w4 ⟨rfl, hb4⟩
  have hX4 := hX3.below hb4 hX3.lt
  have hY4 := hY3.below hb4 hY3.lt
  have hB4 := hB3.trans (hb4.mono hB3.size)
  clear hb4 c0 c1 d0 d1 hX3 hY3
  have hs4 := hB4.size
  have c0 := hX4.cells 0 _ rfl
  have c1 := hX4.cells 1 _ rfl
  have d0 := hY4.cells 0 _ rfl
  have d1 := hY4.cells 1 _ rfl
  simp only [List.getElem_toArray, List.getElem_cons_zero, List.getElem_cons_succ] at c0 c1 d0 d1
  go_wp2_with fail
  refine (pledges_any _ (rounds_of HG.out hB4)).mono ?_
  rintro e w5 ⟨rfl, hb5⟩
  have hB5 := hB4.trans (hb5.mono hs4)
  clear hb5 c0 c1 d0 d1 hX4 hY4
  have hs5 := hB5.size
  go_wp2_with fail
  go_ret
  exact ⟨rfl, hB5⟩
set_option maxRecDepth 100000 in
set_option maxHeartbeats 1000000 in
theorem pone_f (s b s2 b2 M N : ByteArray) (x y : Int) (w : World) (hG : Rounds w) (hf : farB [s, s2, b, b2] = false)
    (hK : ∀ W, Rounds W → Calls Tryd.prog 45 #[.string s, shV x b] W fun e w' => e = .returned (.tuple #[.string M, .int .i64 0]) ∧ Below W.heap.size W w')
    (hL : ∀ W, Rounds W → Calls Tryd.prog 45 #[.string s2, shV y b2] W fun e w' => e = .returned (.tuple #[.string N, .int .i64 1]) ∧ Below W.heap.size W w')
    (hP : ∀ W, Rounds W → Calls Tryd.prog 56 #[.string s, shV x b, .string s2, shV y b2] W fun e w' => e = .returned (.tuple #[.string ByteArray.empty, .string ByteArray.empty, .bool false]) ∧ Below W.heap.size W w') :
    Calls Tryd.prog 17 #[.string s, shV x b, .string s2, shV y b2] w fun e w' => e = .returned (.bool true) ∧ Below w.heap.size w w' := by
  have HG := Lib.hid hG
  have HF := Lib.hid hf
  have HK := Lib.hid hK
  have HL := Lib.hid hL
  have HP := Lib.hid hP
  clear hG hf hK hL hP
  unfold shV at *
  go_enter Tryd.func17, Tryd.ntmps17
  go_wp2_with fail
  refine (far4 s s2 b b2 (w.heap.size + 1 + 1) _ (Blk.new_at (by simp) _ _) (by simp)).mono ?_
  rintro e w1 ⟨rfl, rfl⟩
  rw [HF.out]
  go_wp2_with fail
  refine (HK.out _ (HG.out.below (B := w.heap.size) (by go_grown) HG.out.pos)).mono ?_
  rintro e w2 ⟨rfl, hb2⟩
  have hX2 := (((Blk.new w 51 #[.int .i64 x, .string b]).alloc (.cells #[.int .i64 y, .string b2] 51)).alloc (.cells #[.string s, .string s2, .string b, .string b2] 9)).below hb2 (by first | (simp; done) | (simp; omega))
  have hY2 := ((Blk.new_at (g := w.heap.size + 1) (w := w.alloc (.cells #[.int .i64 x, .string b] 51)) (by simp) 51 #[.int .i64 y, .string b2]).alloc (.cells #[.string s, .string s2, .string b, .string b2] 9)).below hb2 (by first | (simp; done) | (simp; omega))
  have hB2 : Below w.heap.size w w2 := Below.trans (by go_grown) (hb2.mono (by first | (simp; done) | (simp; omega)))
  clear hb2
  have d0 := hY2.cells 0 _ rfl
  have d1 := hY2.cells 1 _ rfl
  simp only [List.getElem_toArray, List.getElem_cons_zero, List.getElem_cons_succ] at d0 d1
  go_wp2_with fail
  refine (HL.out _ (rounds_of HG.out hB2)).mono ?_
  rintro e w3 ⟨rfl, hb3⟩
  have hX3 := hX2.below hb3 hX2.lt
  have hY3 := hY2.below hb3 hY2.lt
  have hB3 := hB2.trans (hb3.mono hB2.size)
  clear hb3 d0 d1 hX2 hY2
  have hs3 := hB3.size
  have c0 := hX3.cells 0 _ rfl
  have c1 := hX3.cells 1 _ rfl
  have d0 := hY3.cells 0 _ rfl
  have d1 := hY3.cells 1 _ rfl
  simp only [List.getElem_toArray, List.getElem_cons_zero, List.getElem_cons_succ] at c0 c1 d0 d1
  go_wp2_with fail
  refine (HP.out _ (rounds_of HG.out hB3)).mono ?_
  rintro e w4 ⟨rfl, hb4⟩
  have hX4 := hX3.below hb4 hX3.lt
  have hY4 := hY3.below hb4 hY3.lt
  have hB4 := hB3.trans (hb4.mono hB3.size)
  clear hb4 c0 c1 d0 d1 hX3 hY3
  have hs4 := hB4.size
  have c0 := hX4.cells 0 _ rfl
  have c1 := hX4.cells 1 _ rfl
  have d0 := hY4.cells 0 _ rfl
  have d1 := hY4.cells 1 _ rfl
  simp only [List.getElem_toArray, List.getElem_cons_zero, List.getElem_cons_succ] at c0 c1 d0 d1
  go_wp2_with fail
  refine (pledges_any _ (rounds_of HG.out hB4)).mono ?_
  rintro e w5 ⟨rfl, hb5⟩
  have hB5 := hB4.trans (hb5.mono hs4)
  clear hb5 c0 c1 d0 d1 hX4 hY4
  have hs5 := hB5.size
  go_wp2_with fail
  go_ret
  exact ⟨rfl, hB5⟩
set_option maxRecDepth 100000 in
set_option maxHeartbeats 1000000 in
theorem pone_ne (s b s2 b2 M N : ByteArray) (x y : Int) (w : World) (hG : Rounds w) (hf : farB [s, s2, b, b2] = false) (hne : (M.toList == N.toList) = false)
    (hK : ∀ W, Rounds W → Calls Tryd.prog 45 #[.string s, shV x b] W fun e w' => e = .returned (.tuple #[.string M, .int .i64 0]) ∧ Below W.heap.size W w')
    (hL : ∀ W, Rounds W → Calls Tryd.prog 45 #[.string s2, shV y b2] W fun e w' => e = .returned (.tuple #[.string N, .int .i64 0]) ∧ Below W.heap.size W w')
    (hP : ∀ W, Rounds W → Calls Tryd.prog 56 #[.string s, shV x b, .string s2, shV y b2] W fun e w' => e = .returned (.tuple #[.string ByteArray.empty, .string ByteArray.empty, .bool false]) ∧ Below W.heap.size W w') :
    Calls Tryd.prog 17 #[.string s, shV x b, .string s2, shV y b2] w fun e w' => e = .returned (.bool true) ∧ Below w.heap.size w w' := by
  have HG := Lib.hid hG
  have HF := Lib.hid hf
  have HK := Lib.hid hK
  have HL := Lib.hid hL
  have HP := Lib.hid hP
  have hne2 : (M.toList != N.toList) = true := by simp [bne, hne]
  clear hG hf hK hL hP
  unfold shV at *
  go_enter Tryd.func17, Tryd.ntmps17
  go_wp2_with fail
  refine (far4 s s2 b b2 (w.heap.size + 1 + 1) _ (Blk.new_at (by simp) _ _) (by simp)).mono ?_
  rintro e w1 ⟨rfl, rfl⟩
  rw [HF.out]
  go_wp2_with fail
  refine (HK.out _ (HG.out.below (B := w.heap.size) (by go_grown) HG.out.pos)).mono ?_
  rintro e w2 ⟨rfl, hb2⟩
  have hX2 := (((Blk.new w 51 #[.int .i64 x, .string b]).alloc (.cells #[.int .i64 y, .string b2] 51)).alloc (.cells #[.string s, .string s2, .string b, .string b2] 9)).below hb2 (by first | (simp; done) | (simp; omega))
  have hY2 := ((Blk.new_at (g := w.heap.size + 1) (w := w.alloc (.cells #[.int .i64 x, .string b] 51)) (by simp) 51 #[.int .i64 y, .string b2]).alloc (.cells #[.string s, .string s2, .string b, .string b2] 9)).below hb2 (by first | (simp; done) | (simp; omega))
  have hB2 : Below w.heap.size w w2 := Below.trans (by go_grown) (hb2.mono (by first | (simp; done) | (simp; omega)))
  clear hb2
  have d0 := hY2.cells 0 _ rfl
  have d1 := hY2.cells 1 _ rfl
  simp only [List.getElem_toArray, List.getElem_cons_zero, List.getElem_cons_succ] at d0 d1
  go_wp2_with fail
  refine (HL.out _ (rounds_of HG.out hB2)).mono ?_
  rintro e w3 ⟨rfl, hb3⟩
  have hX3 := hX2.below hb3 hX2.lt
  have hY3 := hY2.below hb3 hY2.lt
  have hB3 := hB2.trans (hb3.mono hB2.size)
  clear hb3 d0 d1 hX2 hY2
  have hs3 := hB3.size
  have c0 := hX3.cells 0 _ rfl
  have c1 := hX3.cells 1 _ rfl
  have d0 := hY3.cells 0 _ rfl
  have d1 := hY3.cells 1 _ rfl
  simp only [List.getElem_toArray, List.getElem_cons_zero, List.getElem_cons_succ] at c0 c1 d0 d1
  go_wp2_with fail
  refine (HP.out _ (rounds_of HG.out hB3)).mono ?_
  rintro e w4 ⟨rfl, hb4⟩
  have hX4 := hX3.below hb4 hX3.lt
  have hY4 := hY3.below hb4 hY3.lt
  have hB4 := hB3.trans (hb4.mono hB3.size)
  clear hb4 c0 c1 d0 d1 hX3 hY3
  have hs4 := hB4.size
  have c0 := hX4.cells 0 _ rfl
  have c1 := hX4.cells 1 _ rfl
  have d0 := hY4.cells 0 _ rfl
  have d1 := hY4.cells 1 _ rfl
  simp only [List.getElem_toArray, List.getElem_cons_zero, List.getElem_cons_succ] at c0 c1 d0 d1
  go_wp2_with fail
  refine (pledges_any _ (rounds_of HG.out hB4)).mono ?_
  rintro e w5 ⟨rfl, hb5⟩
  have hB5 := hB4.trans (hb5.mono hs4)
  clear hb5 c0 c1 d0 d1 hX4 hY4
  have hs5 := hB5.size
  go_wp2_with fail
  go_ret
  exact ⟨rfl, hB5⟩
set_option maxRecDepth 100000 in
set_option maxHeartbeats 1000000 in
theorem pone_same (s b M : ByteArray) (x : Int) (w : World) (hG : Rounds w) (hf : farB [s, s, b, b] = false)
    (hK : ∀ W, Rounds W → Calls Tryd.prog 45 #[.string s, shV x b] W fun e w' => e = .returned (.tuple #[.string M, .int .i64 0]) ∧ Below W.heap.size W w')
    (hL : ∀ W, Rounds W → Calls Tryd.prog 45 #[.string s, shV x b] W fun e w' => e = .returned (.tuple #[.string M, .int .i64 0]) ∧ Below W.heap.size W w')
    (hP : ∀ W, Rounds W → Calls Tryd.prog 56 #[.string s, shV x b, .string s, shV x b] W fun e w' => e = .returned (.tuple #[.string ByteArray.empty, .string ByteArray.empty, .bool false]) ∧ Below W.heap.size W w') :
    Calls Tryd.prog 17 #[.string s, shV x b, .string s, shV x b] w fun e w' => e = .returned (.bool true) ∧ Below w.heap.size w w' := by
  have HG := Lib.hid hG
  have HF := Lib.hid hf
  have HK := Lib.hid hK
  have HL := Lib.hid hL
  have HP := Lib.hid hP
  have h1 : (M.toList != M.toList) = false := by simp
  clear hG hf hK hL hP
  unfold shV at *
  go_enter Tryd.func17, Tryd.ntmps17
  go_wp2_with fail
  refine (far4 s s b b (w.heap.size + 1 + 1) _ (Blk.new_at (by simp) _ _) (by simp)).mono ?_
  rintro e w1 ⟨rfl, rfl⟩
  rw [HF.out]
  go_wp2_with fail
  refine (HK.out _ (HG.out.below (B := w.heap.size) (by go_grown) HG.out.pos)).mono ?_
  rintro e w2 ⟨rfl, hb2⟩
  have hX2 := (((Blk.new w 51 #[.int .i64 x, .string b]).alloc (.cells #[.int .i64 x, .string b] 51)).alloc (.cells #[.string s, .string s, .string b, .string b] 9)).below hb2 (by first | (simp; done) | (simp; omega))
  have hY2 := ((Blk.new_at (g := w.heap.size + 1) (w := w.alloc (.cells #[.int .i64 x, .string b] 51)) (by simp) 51 #[.int .i64 x, .string b]).alloc (.cells #[.string s, .string s, .string b, .string b] 9)).below hb2 (by first | (simp; done) | (simp; omega))
  have hB2 : Below w.heap.size w w2 := Below.trans (by go_grown) (hb2.mono (by first | (simp; done) | (simp; omega)))
  clear hb2
  have d0 := hY2.cells 0 _ rfl
  have d1 := hY2.cells 1 _ rfl
  simp only [List.getElem_toArray, List.getElem_cons_zero, List.getElem_cons_succ] at d0 d1
  go_wp2_with fail
  refine (HL.out _ (rounds_of HG.out hB2)).mono ?_
  rintro e w3 ⟨rfl, hb3⟩
  have hX3 := hX2.below hb3 hX2.lt
  have hY3 := hY2.below hb3 hY2.lt
  have hB3 := hB2.trans (hb3.mono hB2.size)
  clear hb3 d0 d1 hX2 hY2
  have hs3 := hB3.size
  have c0 := hX3.cells 0 _ rfl
  have c1 := hX3.cells 1 _ rfl
  have d0 := hY3.cells 0 _ rfl
  have d1 := hY3.cells 1 _ rfl
  simp only [List.getElem_toArray, List.getElem_cons_zero, List.getElem_cons_succ] at c0 c1 d0 d1
  go_wp2_with fail
  refine (HP.out _ (rounds_of HG.out hB3)).mono ?_
  rintro e w4 ⟨rfl, hb4⟩
  have hX4 := hX3.below hb4 hX3.lt
  have hY4 := hY3.below hb4 hY3.lt
  have hB4 := hB3.trans (hb4.mono hB3.size)
  clear hb4 c0 c1 d0 d1 hX3 hY3
  have hs4 := hB4.size
  have c0 := hX4.cells 0 _ rfl
  have c1 := hX4.cells 1 _ rfl
  have d0 := hY4.cells 0 _ rfl
  have d1 := hY4.cells 1 _ rfl
  simp only [List.getElem_toArray, List.getElem_cons_zero, List.getElem_cons_succ] at c0 c1 d0 d1
  go_wp2_with fail
  refine (pledges_any _ (rounds_of HG.out hB4)).mono ?_
  rintro e w5 ⟨rfl, hb5⟩
  have hB5 := hB4.trans (hb5.mono hs4)
  clear hb5 c0 c1 d0 d1 hX4 hY4
  have hs5 := hB5.size
  go_wp2_with fail
  go_ret
  exact ⟨rfl, hB5⟩
set_option maxRecDepth 100000 in
set_option maxHeartbeats 1000000 in
theorem pone_s (s b s2 b2 M T U : ByteArray) (x y : Int) (w : World) (hG : Rounds w) (hf : farB [s, s2, b, b2] = false) (hss : (s.toList == s2.toList) = false) (hTU : (T.toList == U.toList) = false)
    (hSA : ∀ W, Rounds W → Calls Tryd.prog 29 #[.string T] W fun r w' => r = .returned (.string M) ∧ Below W.heap.size W w')
    (hSB : ∀ W, Rounds W → Calls Tryd.prog 29 #[.string U] W fun r w' => r = .returned (.string M) ∧ Below W.heap.size W w')
    (hK : ∀ W, Rounds W → Calls Tryd.prog 45 #[.string s, shV x b] W fun e w' => e = .returned (.tuple #[.string M, .int .i64 0]) ∧ Below W.heap.size W w')
    (hL : ∀ W, Rounds W → Calls Tryd.prog 45 #[.string s2, shV y b2] W fun e w' => e = .returned (.tuple #[.string M, .int .i64 0]) ∧ Below W.heap.size W w')
    (hP : ∀ W, Rounds W → Calls Tryd.prog 56 #[.string s, shV x b, .string s2, shV y b2] W fun e w' => e = .returned (.tuple #[.string T, .string U, .bool true]) ∧ Below W.heap.size W w') :
    Calls Tryd.prog 17 #[.string s, shV x b, .string s2, shV y b2] w fun e w' => e = .returned (.bool true) ∧ Below w.heap.size w w' := by
  have HG := Lib.hid hG
  have HF := Lib.hid hf
  have HK := Lib.hid hK
  have HL := Lib.hid hL
  have HP := Lib.hid hP
  have HSA := Lib.hid hSA
  have HSB := Lib.hid hSB
  have hTU2 : (T.toList != U.toList) = true := by simp [bne, hTU]
  have h1 : (M.toList != M.toList) = false := by simp
  have h2 : (M.toList == M.toList) = true := by simp
  clear hSA hSB
  clear hG hf hK hL hP
  unfold shV at *
  go_enter Tryd.func17, Tryd.ntmps17
  go_wp2_with fail
  refine (far4 s s2 b b2 (w.heap.size + 1 + 1) _ (Blk.new_at (by simp) _ _) (by simp)).mono ?_
  rintro e w1 ⟨rfl, rfl⟩
  rw [HF.out]
  go_wp2_with fail
  refine (HK.out _ (HG.out.below (B := w.heap.size) (by go_grown) HG.out.pos)).mono ?_
  rintro e w2 ⟨rfl, hb2⟩
  have hX2 := (((Blk.new w 51 #[.int .i64 x, .string b]).alloc (.cells #[.int .i64 y, .string b2] 51)).alloc (.cells #[.string s, .string s2, .string b, .string b2] 9)).below hb2 (by first | (simp; done) | (simp; omega))
  have hY2 := ((Blk.new_at (g := w.heap.size + 1) (w := w.alloc (.cells #[.int .i64 x, .string b] 51)) (by simp) 51 #[.int .i64 y, .string b2]).alloc (.cells #[.string s, .string s2, .string b, .string b2] 9)).below hb2 (by first | (simp; done) | (simp; omega))
  have hB2 : Below w.heap.size w w2 := Below.trans (by go_grown) (hb2.mono (by first | (simp; done) | (simp; omega)))
  clear hb2
  have d0 := hY2.cells 0 _ rfl
  have d1 := hY2.cells 1 _ rfl
  simp only [List.getElem_toArray, List.getElem_cons_zero, List.getElem_cons_succ] at d0 d1
  go_wp2_with fail
  refine (HL.out _ (rounds_of HG.out hB2)).mono ?_
  rintro e w3 ⟨rfl, hb3⟩
  have hX3 := hX2.below hb3 hX2.lt
  have hY3 := hY2.below hb3 hY2.lt
  have hB3 := hB2.trans (hb3.mono hB2.size)
  clear hb3 d0 d1 hX2 hY2
  have hs3 := hB3.size
  have c0 := hX3.cells 0 _ rfl
  have c1 := hX3.cells 1 _ rfl
  have d0 := hY3.cells 0 _ rfl
  have d1 := hY3.cells 1 _ rfl
  simp only [List.getElem_toArray, List.getElem_cons_zero, List.getElem_cons_succ] at c0 c1 d0 d1
  go_wp2_with fail
  refine (HP.out _ (rounds_of HG.out hB3)).mono ?_
  rintro e w4 ⟨rfl, hb4⟩
  have hX4 := hX3.below hb4 hX3.lt
  have hY4 := hY3.below hb4 hY3.lt
  have hB4 := hB3.trans (hb4.mono hB3.size)
  clear hb4 c0 c1 d0 d1 hX3 hY3
  have hs4 := hB4.size
  have c0 := hX4.cells 0 _ rfl
  have c1 := hX4.cells 1 _ rfl
  have d0 := hY4.cells 0 _ rfl
  have d1 := hY4.cells 1 _ rfl
  simp only [List.getElem_toArray, List.getElem_cons_zero, List.getElem_cons_succ] at c0 c1 d0 d1
  go_wp2_with fail
  refine (pledges_any _ (rounds_of HG.out hB4)).mono ?_
  rintro e w5 ⟨rfl, hb5⟩
  have hB5 := hB4.trans (hb5.mono hs4)
  clear hb5 c0 c1 d0 d1 hX4 hY4
  have hs5 := hB5.size
  go_wp2_with fail
  refine (HSA.out _ (rounds_of HG.out hB5)).mono ?_
  rintro e w6 ⟨rfl, hb6⟩
  have hB6 := hB5.trans (hb6.mono hs5)
  clear hb6
  have hs6 := hB6.size
  go_wp2_with fail
  refine (HSB.out _ (rounds_of HG.out hB6)).mono ?_
  rintro e w7 ⟨rfl, hb7⟩
  have hB7 := hB6.trans (hb7.mono hs6)
  clear hb7
  go_wp2_with fail
  go_ret
  exact ⟨rfl, hB7⟩
set_option maxRecDepth 100000 in
set_option maxHeartbeats 1000000 in
theorem pone_x (s b b2 M T U : ByteArray) (x y : Int) (w : World) (hG : Rounds w) (hf : farB [s, s, b, b2] = false) (hss : (x == y) = false) (hTU : (T.toList == U.toList) = false)
    (hSA : ∀ W, Rounds W → Calls Tryd.prog 29 #[.string T] W fun r w' => r = .returned (.string M) ∧ Below W.heap.size W w')
    (hSB : ∀ W, Rounds W → Calls Tryd.prog 29 #[.string U] W fun r w' => r = .returned (.string M) ∧ Below W.heap.size W w')
    (hK : ∀ W, Rounds W → Calls Tryd.prog 45 #[.string s, shV x b] W fun e w' => e = .returned (.tuple #[.string M, .int .i64 0]) ∧ Below W.heap.size W w')
    (hL : ∀ W, Rounds W → Calls Tryd.prog 45 #[.string s, shV y b2] W fun e w' => e = .returned (.tuple #[.string M, .int .i64 0]) ∧ Below W.heap.size W w')
    (hP : ∀ W, Rounds W → Calls Tryd.prog 56 #[.string s, shV x b, .string s, shV y b2] W fun e w' => e = .returned (.tuple #[.string T, .string U, .bool true]) ∧ Below W.heap.size W w') :
    Calls Tryd.prog 17 #[.string s, shV x b, .string s, shV y b2] w fun e w' => e = .returned (.bool true) ∧ Below w.heap.size w w' := by
  have HG := Lib.hid hG
  have HF := Lib.hid hf
  have HK := Lib.hid hK
  have HL := Lib.hid hL
  have HP := Lib.hid hP
  have HSA := Lib.hid hSA
  have HSB := Lib.hid hSB
  have hTU2 : (T.toList != U.toList) = true := by simp [bne, hTU]
  have h1 : (M.toList != M.toList) = false := by simp
  have h2 : (M.toList == M.toList) = true := by simp
  clear hSA hSB
  have hxy : ¬ x = y := by simpa using hss
  clear hG hf hK hL hP
  unfold shV at *
  go_enter Tryd.func17, Tryd.ntmps17
  go_wp2_with fail
  refine (far4 s s b b2 (w.heap.size + 1 + 1) _ (Blk.new_at (by simp) _ _) (by simp)).mono ?_
  rintro e w1 ⟨rfl, rfl⟩
  rw [HF.out]
  go_wp2_with fail
  refine (HK.out _ (HG.out.below (B := w.heap.size) (by go_grown) HG.out.pos)).mono ?_
  rintro e w2 ⟨rfl, hb2⟩
  have hX2 := (((Blk.new w 51 #[.int .i64 x, .string b]).alloc (.cells #[.int .i64 y, .string b2] 51)).alloc (.cells #[.string s, .string s, .string b, .string b2] 9)).below hb2 (by first | (simp; done) | (simp; omega))
  have hY2 := ((Blk.new_at (g := w.heap.size + 1) (w := w.alloc (.cells #[.int .i64 x, .string b] 51)) (by simp) 51 #[.int .i64 y, .string b2]).alloc (.cells #[.string s, .string s, .string b, .string b2] 9)).below hb2 (by first | (simp; done) | (simp; omega))
  have hB2 : Below w.heap.size w w2 := Below.trans (by go_grown) (hb2.mono (by first | (simp; done) | (simp; omega)))
  clear hb2
  have d0 := hY2.cells 0 _ rfl
  have d1 := hY2.cells 1 _ rfl
  simp only [List.getElem_toArray, List.getElem_cons_zero, List.getElem_cons_succ] at d0 d1
  go_wp2_with fail
  refine (HL.out _ (rounds_of HG.out hB2)).mono ?_
  rintro e w3 ⟨rfl, hb3⟩
  have hX3 := hX2.below hb3 hX2.lt
  have hY3 := hY2.below hb3 hY2.lt
  have hB3 := hB2.trans (hb3.mono hB2.size)
  clear hb3 d0 d1 hX2 hY2
  have hs3 := hB3.size
  have c0 := hX3.cells 0 _ rfl
  have c1 := hX3.cells 1 _ rfl
  have d0 := hY3.cells 0 _ rfl
  have d1 := hY3.cells 1 _ rfl
  simp only [List.getElem_toArray, List.getElem_cons_zero, List.getElem_cons_succ] at c0 c1 d0 d1
  go_wp2_with fail
  refine (HP.out _ (rounds_of HG.out hB3)).mono ?_
  rintro e w4 ⟨rfl, hb4⟩
  have hX4 := hX3.below hb4 hX3.lt
  have hY4 := hY3.below hb4 hY3.lt
  have hB4 := hB3.trans (hb4.mono hB3.size)
  clear hb4 c0 c1 d0 d1 hX3 hY3
  have hs4 := hB4.size
  have c0 := hX4.cells 0 _ rfl
  have c1 := hX4.cells 1 _ rfl
  have d0 := hY4.cells 0 _ rfl
  have d1 := hY4.cells 1 _ rfl
  simp only [List.getElem_toArray, List.getElem_cons_zero, List.getElem_cons_succ] at c0 c1 d0 d1
  go_wp2_with fail
  refine (pledges_any _ (rounds_of HG.out hB4)).mono ?_
  rintro e w5 ⟨rfl, hb5⟩
  have hB5 := hB4.trans (hb5.mono hs4)
  clear hb5 c0 c1 d0 d1 hX4 hY4
  have hs5 := hB5.size
  go_wp2_with fail
  refine (HSA.out _ (rounds_of HG.out hB5)).mono ?_
  rintro e w6 ⟨rfl, hb6⟩
  have hB6 := hB5.trans (hb6.mono hs5)
  clear hb6
  have hs6 := hB6.size
  go_wp2_with fail
  refine (HSB.out _ (rounds_of HG.out hB6)).mono ?_
  rintro e w7 ⟨rfl, hb7⟩
  have hB7 := hB6.trans (hb7.mono hs6)
  clear hb7
  go_wp2_with fail
  go_ret
  exact ⟨rfl, hB7⟩
set_option maxRecDepth 100000 in
set_option maxHeartbeats 1000000 in
theorem pone_b (s b b2 M T U : ByteArray) (x : Int) (w : World) (hG : Rounds w) (hf : farB [s, s, b, b2] = false) (hss : (b.toList == b2.toList) = false) (hTU : (T.toList == U.toList) = false)
    (hSA : ∀ W, Rounds W → Calls Tryd.prog 29 #[.string T] W fun r w' => r = .returned (.string M) ∧ Below W.heap.size W w')
    (hSB : ∀ W, Rounds W → Calls Tryd.prog 29 #[.string U] W fun r w' => r = .returned (.string M) ∧ Below W.heap.size W w')
    (hK : ∀ W, Rounds W → Calls Tryd.prog 45 #[.string s, shV x b] W fun e w' => e = .returned (.tuple #[.string M, .int .i64 0]) ∧ Below W.heap.size W w')
    (hL : ∀ W, Rounds W → Calls Tryd.prog 45 #[.string s, shV x b2] W fun e w' => e = .returned (.tuple #[.string M, .int .i64 0]) ∧ Below W.heap.size W w')
    (hP : ∀ W, Rounds W → Calls Tryd.prog 56 #[.string s, shV x b, .string s, shV x b2] W fun e w' => e = .returned (.tuple #[.string T, .string U, .bool true]) ∧ Below W.heap.size W w') :
    Calls Tryd.prog 17 #[.string s, shV x b, .string s, shV x b2] w fun e w' => e = .returned (.bool true) ∧ Below w.heap.size w w' := by
  have HG := Lib.hid hG
  have HF := Lib.hid hf
  have HK := Lib.hid hK
  have HL := Lib.hid hL
  have HP := Lib.hid hP
  have HSA := Lib.hid hSA
  have HSB := Lib.hid hSB
  have hTU2 : (T.toList != U.toList) = true := by simp [bne, hTU]
  have h1 : (M.toList != M.toList) = false := by simp
  have h2 : (M.toList == M.toList) = true := by simp
  clear hSA hSB
  have hbb : ¬ b.toList = b2.toList := by simpa using hss
  clear hG hf hK hL hP
  unfold shV at *
  go_enter Tryd.func17, Tryd.ntmps17
  go_wp2_with fail
  refine (far4 s s b b2 (w.heap.size + 1 + 1) _ (Blk.new_at (by simp) _ _) (by simp)).mono ?_
  rintro e w1 ⟨rfl, rfl⟩
  rw [HF.out]
  go_wp2_with fail
  refine (HK.out _ (HG.out.below (B := w.heap.size) (by go_grown) HG.out.pos)).mono ?_
  rintro e w2 ⟨rfl, hb2⟩
  have hX2 := (((Blk.new w 51 #[.int .i64 x, .string b]).alloc (.cells #[.int .i64 x, .string b2] 51)).alloc (.cells #[.string s, .string s, .string b, .string b2] 9)).below hb2 (by first | (simp; done) | (simp; omega))
  have hY2 := ((Blk.new_at (g := w.heap.size + 1) (w := w.alloc (.cells #[.int .i64 x, .string b] 51)) (by simp) 51 #[.int .i64 x, .string b2]).alloc (.cells #[.string s, .string s, .string b, .string b2] 9)).below hb2 (by first | (simp; done) | (simp; omega))
  have hB2 : Below w.heap.size w w2 := Below.trans (by go_grown) (hb2.mono (by first | (simp; done) | (simp; omega)))
  clear hb2
  have d0 := hY2.cells 0 _ rfl
  have d1 := hY2.cells 1 _ rfl
  simp only [List.getElem_toArray, List.getElem_cons_zero, List.getElem_cons_succ] at d0 d1
  go_wp2_with fail
  refine (HL.out _ (rounds_of HG.out hB2)).mono ?_
  rintro e w3 ⟨rfl, hb3⟩
  have hX3 := hX2.below hb3 hX2.lt
  have hY3 := hY2.below hb3 hY2.lt
  have hB3 := hB2.trans (hb3.mono hB2.size)
  clear hb3 d0 d1 hX2 hY2
  have hs3 := hB3.size
  have c0 := hX3.cells 0 _ rfl
  have c1 := hX3.cells 1 _ rfl
  have d0 := hY3.cells 0 _ rfl
  have d1 := hY3.cells 1 _ rfl
  simp only [List.getElem_toArray, List.getElem_cons_zero, List.getElem_cons_succ] at c0 c1 d0 d1
  go_wp2_with fail
  refine (HP.out _ (rounds_of HG.out hB3)).mono ?_
  rintro e w4 ⟨rfl, hb4⟩
  have hX4 := hX3.below hb4 hX3.lt
  have hY4 := hY3.below hb4 hY3.lt
  have hB4 := hB3.trans (hb4.mono hB3.size)
  clear hb4 c0 c1 d0 d1 hX3 hY3
  have hs4 := hB4.size
  have c0 := hX4.cells 0 _ rfl
  have c1 := hX4.cells 1 _ rfl
  have d0 := hY4.cells 0 _ rfl
  have d1 := hY4.cells 1 _ rfl
  simp only [List.getElem_toArray, List.getElem_cons_zero, List.getElem_cons_succ] at c0 c1 d0 d1
  go_wp2_with fail
  refine (pledges_any _ (rounds_of HG.out hB4)).mono ?_
  rintro e w5 ⟨rfl, hb5⟩
  have hB5 := hB4.trans (hb5.mono hs4)
  clear hb5 c0 c1 d0 d1 hX4 hY4
  have hs5 := hB5.size
  go_wp2_with fail
  refine (HSA.out _ (rounds_of HG.out hB5)).mono ?_
  rintro e w6 ⟨rfl, hb6⟩
  have hB6 := hB5.trans (hb6.mono hs5)
  clear hb6
  have hs6 := hB6.size
  go_wp2_with fail
  refine (HSB.out _ (rounds_of HG.out hB6)).mono ?_
  rintro e w7 ⟨rfl, hb7⟩
  have hB7 := hB6.trans (hb7.mono hs6)
  clear hb7
  go_wp2_with fail
  go_ret
  exact ⟨rfl, hB7⟩
theorem pone_all (s b s2 b2 : ByteArray) (x y : Int) (w : World) (hG : Rounds w) (hs : s.size ≤ 140737488351232) (hb : b.size ≤ 140737488351232) (hs2 : s2.size ≤ 140737488351232) (hb2 : b2.size ≤ 140737488351232) :
    Calls Tryd.prog 17 #[.string s, shV x b, .string s2, shV y b2] w fun e w' => e = .returned (.bool true) ∧ Below w.heap.size w w' := by
  cases hf : farB [s, s2, b, b2]
  · have hK := fun W h => pmake_any s b x W h hs hb
    have hL := fun W h => pmake_any s2 b2 y W h hs2 hb2
    have hP := fun W h => pwit_any s b s2 b2 x y W h hs hb hs2 hb2
    unfold witV at hP
    cases hr : rightB s x b
    · have hq : witB s x b s2 y b2 = false := by simp [witB, hr]
      rw [hq] at hP
      rw [(makeS_wrong hr).2] at hK
      exact pone_e s b s2 b2 _ _ x y _ w hG hf hK hL hP
    · cases hr2 : rightB s2 y b2
      · have hq : witB s x b s2 y b2 = false := by simp [witB, hr2]
        rw [hq] at hP
        rw [(makeS_right hr).2] at hK
        rw [(makeS_wrong hr2).2] at hL
        exact pone_f s b s2 b2 _ _ x y w hG hf hK hL hP
      · rw [(makeS_right hr).2, (makeS_right hr).1] at hK
        rw [(makeS_right hr2).2, (makeS_right hr2).1] at hL
        have R1 := rightB_iff.1 hr
        have R2 := rightB_iff.1 hr2
        by_cases hMN : sumS (textB s x b) = sumS (textB s2 y b2)
        · by_cases hsame : s = s2 ∧ x = y ∧ b = b2
          · obtain ⟨rfl, rfl, rfl⟩ := hsame
            have hq : witB s x b s x b = false := by simp [witB]
            rw [hq] at hP
            exact pone_same s b _ x w hG hf hK hL hP
          · have hTU : ((textB s x b).toList == (textB s2 y b2).toList) = false := by
              rw [beq_eq_false_iff_ne]
              exact fun h => hsame (text_inj R1 R2 h)
            have hq : witB s x b s2 y b2 = true := by simp [witB, hr, hr2, hTU, hMN]
            have hT : (textB s x b).size ≤ 1000000000 := by rw [textB_size R1]; omega
            have hU : (textB s2 y b2).size ≤ 1000000000 := by rw [textB_size R2]; omega
            have hSA := fun (W : World) (h : Rounds W) => sum_in (textB s x b) W hT h
            have hSB := fun (W : World) (h : Rounds W) => sum_in (textB s2 y b2) W hU h
            rw [hq] at hP
            rw [← hMN] at hL hSB
            by_cases e1 : s = s2
            · subst e1
              by_cases e2 : x = y
              · subst e2
                have e3 : (b.toList == b2.toList) = false := by
                  rw [beq_eq_false_iff_ne]
                  exact fun h => hsame ⟨rfl, rfl, str_inj h⟩
                exact pone_b s b b2 _ _ _ x w hG hf e3 hTU hSA hSB hK hL hP
              · exact pone_x s b b2 _ _ _ x y w hG hf (by simpa using e2) hTU hSA hSB hK hL hP
            · have e3 : (s.toList == s2.toList) = false := by
                rw [beq_eq_false_iff_ne]
                exact fun h => e1 (str_inj h)
              exact pone_s s b s2 b2 _ _ _ x y w hG hf e3 hTU hSA hSB hK hL hP
        · have hne : ((sumS (textB s x b)).toList == (sumS (textB s2 y b2)).toList) = false := by
            rw [beq_eq_false_iff_ne]
            exact fun h => hMN (str_inj h)
          have hq : witB s x b s2 y b2 = false := by simp [witB, hne]
          rw [hq] at hP
          exact pone_ne s b s2 b2 _ _ x y w hG hf hne hK hL hP
  · exact pone_far s b s2 b2 x y w hf
end Go.Proofs.YtkaaicmadknjcaaDoor
