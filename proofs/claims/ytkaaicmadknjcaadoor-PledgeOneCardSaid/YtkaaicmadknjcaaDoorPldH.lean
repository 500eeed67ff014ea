/- PledgeShows: the walk. -/
import Derived.Test.YtkaaicmadknjcaaDoorPldG
set_option linter.unusedVariables false
set_option linter.unusedSimpArgs false
namespace Go.Proofs.YtkaaicmadknjcaaDoor
open Go.RowKit
theorem shows_far (s b s2 b2 : ByteArray) (x y : Int) (w : World) (hf : farB [s, s2, b, b2] = true) :
    Calls Tryd.prog 16 #[.string s, shV x b, .string s2, shV y b2] w fun e w' => e = .returned (.bool true) ∧ Below w.heap.size w w' := by
  have HF := Lib.hid hf
  clear hf
  unfold shV
  go_enter Tryd.func16, Tryd.ntmps16
  go_wp2_with fail
  refine (far4 s s2 b b2 (w.heap.size + 1 + 1) _ (Blk.new_at (by simp) _ _) (by simp)).mono ?_
  rintro e w1 ⟨rfl, rfl⟩
  rw [HF.out]
  go_wp2_with fail
  go_ret
  exact ⟨rfl, by go_grown⟩
set_option maxRecDepth 100000 in
set_option maxHeartbeats 1000000 in
theorem shows_lit (s b s2 b2 M N : ByteArray) (x y : Int) (q : Bool) (w : World) (hG : Rounds w) (hf : farB [s, s2, b, b2] = false)
    (hP : ∀ W, Rounds W → Calls Tryd.prog 56 #[.string s, shV x b, .string s2, shV y b2] W fun e w' => e = .returned (.tuple #[.string M, .string N, .bool q]) ∧ Below W.heap.size W w')
    (hR : ∀ W, Calls Tryd.prog 57 #[.string s, shV x b, .string s2, shV y b2] W fun e w' => e = .returned (.tuple #[.string M, .string N, .bool q]) ∧ Below W.heap.size W w') :
    Calls Tryd.prog 16 #[.string s, shV x b, .string s2, shV y b2] w fun e w' => e = .returned (.bool true) ∧ Below w.heap.size w w' := by
  have HG := Lib.hid hG
  have HF := Lib.hid hf
  have HP := Lib.hid hP
  have HR := Lib.hid hR
  have hqq : (q == q) = true := by simp
  have hmm : (M.toList == M.toList) = true := by simp
  have hnn : (N.toList == N.toList) = true := by simp
  clear hG hf hP hR
  unfold shV at *
  go_enter Tryd.func16, Tryd.ntmps16
  go_wp2_with fail
  refine (far4 s s2 b b2 (w.heap.size + 1 + 1) _ (Blk.new_at (by simp) _ _) (by simp)).mono ?_
  rintro e w1 ⟨rfl, rfl⟩
  rw [HF.out]
  go_wp2_with fail
  refine (HP.out _ (HG.out.below (B := w.heap.size) (by go_grown) HG.out.pos)).mono ?_
  rintro e w2 ⟨rfl, hb2⟩
  have hX2 := (((Blk.new w 51 #[.int .i64 x, .string b]).alloc (.cells #[.int .i64 y, .string b2] 51)).alloc (.cells #[.string s, .string s2, .string b, .string b2] 9)).below hb2 (by first | (simp; done) | (simp; omega))
  have hY2 := ((Blk.new_at (g := w.heap.size + 1) (w := w.alloc (.cells #[.int .i64 x, .string b] 51)) (by simp) 51 #[.int .i64 y, .string b2]).alloc (.cells #[.string s, .string s2, .string b, .string b2] 9)).below hb2 (by first | (simp; done) | (simp; omega))
  have hB2 : Below w.heap.size w w2 := Below.trans (by go_grown) (hb2.mono (by first | (simp; done) | (simp; omega)))
  clear hb2
  have c0 := hX2.cells 0 _ rfl
  have c1 := hX2.cells 1 _ rfl
  have d0 := hY2.cells 0 _ rfl
  have d1 := hY2.cells 1 _ rfl
  simp only [List.getElem_toArray, List.getElem_cons_zero, List.getElem_cons_succ] at c0 c1 d0 d1
  go_wp2_with fail
  refine (HR.out _).mono ?_
  rintro e w3 ⟨rfl, hb3⟩
  have hB3 := hB2.trans (hb3.mono hB2.size)
  clear hb3 c0 c1 d0 d1 hX2 hY2
  have hs3 := hB3.size
  have HG3 := Lib.hid (rounds_of HG.out hB3)
  go_wp2_with fail
  refine (pledges_any _ HG3.out).mono ?_
  rintro e w4 ⟨rfl, hb4⟩
  go_wp2_with fail
  go_ret
  exact ⟨rfl, hB3.trans (hb4.mono hs3)⟩
theorem shows_all (s b s2 b2 : ByteArray) (x y : Int) (w : World) (hG : Rounds w) (hs : s.size ≤ 140737488351232) (hb : b.size ≤ 140737488351232) (hs2 : s2.size ≤ 140737488351232) (hb2 : b2.size ≤ 140737488351232) :
    Calls Tryd.prog 16 #[.string s, shV x b, .string s2, shV y b2] w fun e w' => e = .returned (.bool true) ∧ Below w.heap.size w w' := by
  cases hf : farB [s, s2, b, b2]
  · exact shows_lit s b s2 b2 _ _ x y _ w hG hf (fun W h => pwit_any s b s2 b2 x y W h hs hb hs2 hb2) (fun W => rwit_any s b s2 b2 x y W hs hb hs2 hb2)
  · exact shows_far s b s2 b2 x y w hf
end Go.Proofs.YtkaaicmadknjcaaDoor
