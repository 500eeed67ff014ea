/- Witness: the reference's. -/
import Derived.Test.YtkaaicmadknjcaaDoorPldE
set_option linter.unusedVariables false
namespace Go.Proofs.YtkaaicmadknjcaaDoor
open Go.RowKit
def witV (T U : ByteArray) (q : Bool) : Value := .tuple #[.string (if q then T else ByteArray.empty), .string (if q then U else ByteArray.empty), .bool q]
set_option maxRecDepth 100000 in
set_option maxHeartbeats 1000000 in
theorem rwit_lit (s b s2 b2 T U : ByteArray) (x y : Int) (r1 r2 : Bool) (w : World) (hT : T.size ≤ 1000000) (hU : U.size ≤ 1000000)
    (h1 : ∀ W, Calls Tryd.prog 105 #[.string s, shV x b] W fun e w' => e = .returned (.tuple #[.string T, .bool r1]) ∧ Below W.heap.size W w')
    (h2 : ∀ W, Calls Tryd.prog 105 #[.string s2, shV y b2] W fun e w' => e = .returned (.tuple #[.string U, .bool r2]) ∧ Below W.heap.size W w') :
    Calls Tryd.prog 57 #[.string s, shV x b, .string s2, shV y b2] w fun e w' => e = .returned (witV T U (r1 && r2 && !(T.toList == U.toList) && ((sumS T).toList == (sumS U).toList))) ∧ Below w.heap.size w w' := by
  have H1 := Lib.hid h1
  have H2 := Lib.hid h2
  have HS1 := Lib.hid (fun W => rsum_str T W hT)
  have HS2 := Lib.hid (fun W => rsum_str U W hU)
  clear h1 h2 hT hU
  generalize sumS T = M at *
  generalize sumS U = N at *
  obtain ⟨q, hq⟩ : ∃ q, (r1 && r2 && !(T.toList == U.toList) && (M.toList == N.toList)) = q := ⟨_, rfl⟩
  rw [hq]
  have HQ := Lib.hid hq
  clear hq
  unfold shV at *
  go_enter Tryd.func57, Tryd.ntmps57
  go_wp2_with fail
  refine (H1.out _).mono ?_
  rintro e w1 ⟨rfl, hb1⟩
  have hY := ((Blk.new_at (g := w.heap.size + 1) (w := w.alloc (.cells #[.int .i64 x, .string b] 51)) (by simp) 51 #[.int .i64 y, .string b2])).below hb1 (by simp)
  have hB1 : Below w.heap.size w w1 := Below.trans (by go_grown) (hb1.mono (by simp; omega))
  have hs1 := hB1.size
  have c0 := hY.cells 0 _ rfl
  have c1 := hY.cells 1 _ rfl
  simp only [List.getElem_toArray, List.getElem_cons_zero, List.getElem_cons_succ] at c0 c1
  clear hb1
  go_wp2_with fail
  refine (H2.out _).mono ?_
  rintro e w2 ⟨rfl, hb2⟩
  have hB2 := hB1.trans (hb2.mono hs1)
  have hs2 := hB2.size
  clear hb2 c0 c1
  cases r1
  · obtain rfl : q = false := by
      have h := HQ.out
      rw [← h]; simp
    go_wp2_with fail
    refine bodyPost_ret (results_tmp3 rfl _ _ _) rfl ?_
    exact ⟨rfl, hB2⟩
  · cases r2
    · obtain rfl : q = false := by
        have h := HQ.out
        rw [← h]; simp
      go_wp2_with fail
      refine bodyPost_ret (results_tmp3 rfl _ _ _) rfl ?_
      exact ⟨rfl, hB2⟩
    · by_cases e1 : T.toList = U.toList
      · obtain rfl : q = false := by
          have h := HQ.out
          rw [← h]; simp [e1]
        go_wp2_with fail
        refine bodyPost_ret (results_tmp3 rfl _ _ _) rfl ?_
        exact ⟨rfl, hB2⟩
      · have t1 : (T.toList == U.toList) = false := by simpa using e1
        go_wp2_with fail
        refine (HS1.out _).mono ?_
        rintro e w3 ⟨rfl, hb3⟩
        have hB3 := hB2.trans (hb3.mono hs2)
        have hs3 := hB3.size
        clear hb3
        go_wp2_with fail
        refine (HS2.out _).mono ?_
        rintro e w4 ⟨rfl, hb4⟩
        have hB4 := hB3.trans (hb4.mono hs3)
        clear hb4
        by_cases e2 : M.toList = N.toList
        · obtain rfl : q = true := by
            have h := HQ.out
            rw [← h]; simp [e1, e2]
          have t2 : (M.toList == N.toList) = true := by simpa using e2
          go_wp2_with fail
          refine bodyPost_ret (results_tmp3 rfl _ _ _) rfl ?_
          exact ⟨rfl, hB4⟩
        · obtain rfl : q = false := by
            have h := HQ.out
            rw [← h]; simp [e2]
          have t2 : (M.toList == N.toList) = false := by simpa using e2
          go_wp2_with fail
          refine bodyPost_ret (results_tmp3 rfl _ _ _) rfl ?_
          exact ⟨rfl, hB4⟩
theorem witV_eq {T U T' U' : ByteArray} {q : Bool} (h : q = true → T = T' ∧ U = U') : witV T U q = witV T' U' q := by
  cases q
  · rfl
  · obtain ⟨rfl, rfl⟩ := h rfl; rfl
def witB (s : ByteArray) (x : Int) (b s2 : ByteArray) (y : Int) (b2 : ByteArray) : Bool := rightB s x b && rightB s2 y b2 && !((textB s x b).toList == (textB s2 y b2).toList) && ((sumS (textB s x b)).toList == (sumS (textB s2 y b2)).toList)
theorem rwit_any (s b s2 b2 : ByteArray) (x y : Int) (w : World) (hs : s.size ≤ 140737488351232) (hb : b.size ≤ 140737488351232) (hs2 : s2.size ≤ 140737488351232) (hb2 : b2.size ≤ 140737488351232) :
    Calls Tryd.prog 57 #[.string s, shV x b, .string s2, shV y b2] w fun e w' => e = .returned (witV (textB s x b) (textB s2 y b2) (witB s x b s2 y b2)) ∧ Below w.heap.size w w' := by
  have hT : ∀ (s b : ByteArray) (x : Int), (if rightB s x b then textB s x b else ByteArray.empty).size ≤ 1000000 := by
    intro s b x
    split
    · rw [textB_size (rightB_iff.1 (by assumption))]; omega
    · simp
  have := rwit_lit s b s2 b2 _ _ x y _ _ w (hT s b x) (hT s2 b2 y) (fun W => rof_any s b x W hs hb) (fun W => rof_any s2 b2 y W hs2 hb2)
  unfold witB
  cases h1 : rightB s x b <;> cases h2 : rightB s2 y b2 <;> rw [h1, h2] at this <;> exact this
end Go.Proofs.YtkaaicmadknjcaaDoor
