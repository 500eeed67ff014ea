/- PledgeMakes: the walk. -/
import Derived.Test.YtkaaicmadknjcaaDoorPldD
import Derived.Test.YtkaaicmadknjcaaDoorOrder
set_option linter.unusedVariables false
set_option linter.unusedSimpArgs false
namespace Go.Proofs.YtkaaicmadknjcaaDoor
open Go.RowKit
theorem keep2 {w w' : World} {g : Nat} {t : TypeId} {x : Int} {b : ByteArray} (h : Blk w g t #[.int .i64 x, .string b]) (hb : Below w.heap.size w w') :
    w'.cell? ⟨g, 0, none⟩ = some (.int .i64 x) ∧ w'.cell? ⟨g, 1, none⟩ = some (.string b) := ⟨blk_keep h hb rfl, blk_keep h hb rfl⟩
theorem far3 (a b c : ByteArray) (g : Nat) (W : World) (hB : Blk W g 9 #[.string a, .string b, .string c]) (hg : g < W.heap.size) :
    Calls Tryd.prog 44 #[.slice (some ⟨g, 0, none⟩) 3 3] W fun e w' => e = .returned (.bool (farB [a, b, c])) ∧ W = w' :=
  far_any [a, b, c] _ 3 3 W (slr_strs [a, b, c] hB hg) (by omega)
theorem far4 (a b c d : ByteArray) (g : Nat) (W : World) (hB : Blk W g 9 #[.string a, .string b, .string c, .string d]) (hg : g < W.heap.size) :
    Calls Tryd.prog 44 #[.slice (some ⟨g, 0, none⟩) 4 4] W fun e w' => e = .returned (.bool (farB [a, b, c, d])) ∧ W = w' :=
  far_any [a, b, c, d] _ 4 4 W (slr_strs [a, b, c, d] hB hg) (by omega)
theorem makes_far (p s b : ByteArray) (x : Int) (w : World) (hf : farB [p, s, b] = true) :
    Calls Tryd.prog 13 #[.string p, .string s, shV x b] w fun e w' => e = .returned (.bool true) ∧ Below w.heap.size w w' := by
  have HF := Lib.hid hf
  clear hf
  unfold shV
  go_enter Tryd.func13, Tryd.ntmps13
  go_wp2_with fail
  refine (far3 p s b (w.heap.size + 1) _ (Blk.new_at (by simp) _ _) (by simp)).mono ?_
  rintro e w1 ⟨rfl, rfl⟩
  rw [HF.out]
  go_wp2_with fail
  go_ret
  exact ⟨rfl, by go_grown⟩
set_option maxRecDepth 100000 in
set_option maxHeartbeats 1000000 in
theorem makes_one (p s b M : ByteArray) (x : Int) (q : Bool) (w : World) (hG : Rounds w) (hf : farB [p, s, b] = false)
    (hK : ∀ W, Rounds W → Calls Tryd.prog 45 #[.string s, shV x b] W fun e w' => e = .returned (.tuple #[.string M, .int .i64 1]) ∧ Below W.heap.size W w')
    (hR : ∀ W, Calls Tryd.prog 46 #[.string s, shV x b] W fun e w' => e = .returned (.tuple #[.string M, .int .i64 1]) ∧ Below W.heap.size W w')
    (hC : ∀ W, Rounds W → Calls Tryd.prog 48 #[.string p, .string s, shV x b] W fun e w' => e = .returned (.bool q) ∧ Below W.heap.size W w')
    (hD : ∀ W, Calls Tryd.prog 49 #[.string p, .string s, shV x b] W fun e w' => e = .returned (.bool q) ∧ Below W.heap.size W w') :
    Calls Tryd.prog 13 #[.string p, .string s, shV x b] w fun e w' => e = .returned (.bool true) ∧ Below w.heap.size w w' := by
  have HG := Lib.hid hG
  have HF := Lib.hid hf
  have HK := Lib.hid hK
  have HR := Lib.hid hR
  have HC := Lib.hid hC
  have HD := Lib.hid hD
  have hqq : (q == q) = true := by simp
  have hmm : (M.toList == M.toList) = true := by simp
  clear hG hf hK hR hC hD
  unfold shV at *
  go_enter Tryd.func13, Tryd.ntmps13
  go_wp2_with fail
  refine (far3 p s b (w.heap.size + 1) _ (Blk.new_at (by simp) _ _) (by simp)).mono ?_
  rintro e w1 ⟨rfl, rfl⟩
  rw [HF.out]
  go_wp2_with fail
  refine (HK.out _ (HG.out.below (B := w.heap.size) (by go_grown) HG.out.pos)).mono ?_
  rintro e w2 ⟨rfl, hb2⟩
  have hX2 := ((Blk.new w 51 #[.int .i64 x, .string b]).alloc (.cells #[.string p, .string s, .string b] 9)).below hb2 (by simp; omega)
  have hB2 : Below w.heap.size w w2 := Below.trans (by go_grown) (hb2.mono (by simp; omega))
  clear hb2
  have c0 := hX2.cells 0 _ rfl
  have c1 := hX2.cells 1 _ rfl
  simp only [List.getElem_toArray, List.getElem_cons_zero, List.getElem_cons_succ] at c0 c1
  go_wp2_with fail
  refine (HR.out _).mono ?_
  rintro e w3 ⟨rfl, hb3⟩
  have hX3 := hX2.below hb3 hX2.lt
  have hB3 := hB2.trans (hb3.mono hB2.size)
  clear hb3 c0 c1 hX2
  have hs3 := hB3.size
  have HX := Lib.hid hX3
  have HG3 := Lib.hid (rounds_of HG.out hB3)
  clear hX3
  go_wp2_with fail
  -- region 5
  refine wp_region_held_drew (S := fun w' => w'.cell? ⟨w.heap.size, 0, none⟩ = some (.int .i64 x) ∧ w'.cell? ⟨w.heap.size, 1, none⟩ = some (.string b)) (by kernel_rfl) (keep2 HX.out (by go_grown)) (fun hHeld => ?_)
  refine wpAnyH_ready (rs := [0]) (by kernel_rfl) (by simp) ?_
  refine AllReadyH.cons rfl (fun K hK => ?_) AllReadyH.nil
  clear hHeld
  go_simp
  refine (pledges_any _ (rounds_of HG3.out (by go_grown))).mono ?_
  rintro r w4 ⟨rfl, hb4⟩
  have hB4 : Below w3.heap.size w3 w4 := Below.trans (by go_grown) (hb4.mono (by simp))
  clear hb4
  have hs4 := hB4.size
  go_simp
  refine hK.out _ _ (keep2 HX.out hB4) (fun hHeld => ?_)
  clear hK K
  try simp only [Act.put, List.getElem_toArray, List.getElem_cons_succ, List.getElem_cons_zero, List.setIfInBounds_toArray, List.set_cons_zero, List.set_cons_succ]
  refine wpAnyH_take (i := 1) (v := ?v2) rfl (by kernel_rfl) (by kernel_rfl) (by kernel_rfl) (fun _ _ _ h => h) (Or.inl ⟨by rfl, ?hy2⟩) hHeld ?rest2
  case hy2 => (intro w hSw; (try dsimp only at hSw); go_simp; try with_reducible rfl)
  try simp only [Act.put, List.getElem_toArray, List.getElem_cons_succ, List.getElem_cons_zero, List.setIfInBounds_toArray, List.set_cons_zero, List.set_cons_succ]
  refine wpAnyH_take (i := 2) (v := ?v3) rfl (by kernel_rfl) (by kernel_rfl) (by kernel_rfl) (fun _ _ _ h => h) (Or.inl ⟨by rfl, ?hy3⟩) hHeld ?rest3
  case hy3 => (intro w hSw; (try dsimp only at hSw); go_simp; try with_reducible rfl)
  try simp only [Act.put, List.getElem_toArray, List.getElem_cons_succ, List.getElem_cons_zero, List.setIfInBounds_toArray, List.set_cons_zero, List.set_cons_succ]
  refine wpAnyH_take (i := 3) (v := ?v4) rfl (by kernel_rfl) (by kernel_rfl) (by kernel_rfl) (fun _ _ _ h => h) (Or.inl ⟨by rfl, ?hy4⟩) hHeld ?rest4
  case hy4 => (intro w hSw; (try dsimp only at hSw); go_simp; try with_reducible rfl)
  try simp only [Act.put, List.getElem_toArray, List.getElem_cons_succ, List.getElem_cons_zero, List.setIfInBounds_toArray, List.set_cons_zero, List.set_cons_succ]
  refine wpAnyH_take (i := 4) (v := ?v5) rfl (by kernel_rfl) (by kernel_rfl) (by kernel_rfl) (fun _ _ _ h => h) (Or.inl ⟨by rfl, ?hy5⟩) hHeld ?rest5
  case hy5 => (intro w hSw; (try dsimp only at hSw); go_simp; try with_reducible rfl)
  try simp only [Act.put, List.getElem_toArray, List.getElem_cons_succ, List.getElem_cons_zero, List.setIfInBounds_toArray, List.set_cons_zero, List.set_cons_succ]
  refine wpAnyH_take (i := 5) (v := ?v6) rfl (by kernel_rfl) (by kernel_rfl) (by kernel_rfl) (fun _ _ _ h => h) (Or.inl ⟨by rfl, ?hy6⟩) hHeld ?rest6
  case hy6 => (intro w hSw; (try dsimp only at hSw); go_simp; try with_reducible rfl)
  try simp only [Act.put, List.getElem_toArray, List.getElem_cons_succ, List.getElem_cons_zero, List.setIfInBounds_toArray, List.set_cons_zero, List.set_cons_succ]
  refine wpAnyH_take (i := 6) (v := ?v7) rfl (by kernel_rfl) (by kernel_rfl) (by kernel_rfl) (fun _ _ _ h => h) (Or.inl ⟨by rfl, ?hy7⟩) hHeld ?rest7
  case hy7 => (intro w hSw; (try dsimp only at hSw); go_simp; try with_reducible rfl)
  try simp only [Act.put, List.getElem_toArray, List.getElem_cons_succ, List.getElem_cons_zero, List.setIfInBounds_toArray, List.set_cons_zero, List.set_cons_succ]
  refine wpAnyH_take (i := 7) (v := ?v8) rfl (by kernel_rfl) (by kernel_rfl) (by kernel_rfl) (fun _ _ _ h => h) (Or.inl ⟨by rfl, ?hy8⟩) hHeld ?rest8
  case hy8 => (intro w hSw; (try dsimp only at hSw); go_simp; try with_reducible rfl)
  try simp only [Act.put, List.getElem_toArray, List.getElem_cons_succ, List.getElem_cons_zero, List.setIfInBounds_toArray, List.set_cons_zero, List.set_cons_succ]
  refine wpAnyH_take (i := 8) (v := ?v9) rfl (by kernel_rfl) (by kernel_rfl) (by kernel_rfl) (fun _ _ _ h => h) (Or.inl ⟨by rfl, ?hy9⟩) hHeld ?rest9
  case hy9 => (intro w hSw; (try dsimp only at hSw); go_simp; try with_reducible rfl)
  try simp only [Act.put, List.getElem_toArray, List.getElem_cons_succ, List.getElem_cons_zero, List.setIfInBounds_toArray, List.set_cons_zero, List.set_cons_succ]
  refine wpAnyH_take (i := 9) (v := ?v10) rfl (by kernel_rfl) (by kernel_rfl) (by kernel_rfl) (fun _ _ _ h => h) (Or.inl ⟨by rfl, ?hy10⟩) hHeld ?rest10
  case hy10 => (intro w hSw; (try dsimp only at hSw); go_simp; try with_reducible rfl)
  try simp only [Act.put, List.getElem_toArray, List.getElem_cons_succ, List.getElem_cons_zero, List.setIfInBounds_toArray, List.set_cons_zero, List.set_cons_succ]
  refine wpAnyH_take (i := 10) (v := ?v11) rfl (by kernel_rfl) (by kernel_rfl) (by kernel_rfl) (fun _ _ _ h => h) (Or.inl ⟨by rfl, ?hy11⟩) hHeld ?rest11
  case hy11 => (intro w hSw; (try dsimp only at hSw); go_simp; try with_reducible rfl)
  try simp only [Act.put, List.getElem_toArray, List.getElem_cons_succ, List.getElem_cons_zero, List.setIfInBounds_toArray, List.set_cons_zero, List.set_cons_succ]
  refine wpAnyH_take (i := 11) (v := ?v12) rfl (by kernel_rfl) (by kernel_rfl) (by kernel_rfl) (fun _ _ _ h => h) (Or.inl ⟨by rfl, ?hy12⟩) hHeld ?rest12
  case hy12 => (intro w hSw; (try dsimp only at hSw); go_simp; try with_reducible rfl)
  try simp only [Act.put, List.getElem_toArray, List.getElem_cons_succ, List.getElem_cons_zero, List.setIfInBounds_toArray, List.set_cons_zero, List.set_cons_succ]
  refine wpAnyH_take (i := 12) (v := ?v13) rfl (by kernel_rfl) (by kernel_rfl) (by kernel_rfl) (fun _ _ _ h => h) (Or.inl ⟨by rfl, ?hy13⟩) hHeld ?rest13
  case hy13 => (intro w hSw; (try dsimp only at hSw); go_simp; try with_reducible rfl)
  try simp only [Act.put, List.getElem_toArray, List.getElem_cons_succ, List.getElem_cons_zero, List.setIfInBounds_toArray, List.set_cons_zero, List.set_cons_succ]
  refine wpAnyH_take (i := 13) (v := ?v14) rfl (by kernel_rfl) (by kernel_rfl) (by kernel_rfl) (fun _ _ _ h => h) (Or.inl ⟨by rfl, ?hy14⟩) hHeld ?rest14
  case hy14 => (intro w hSw; (try dsimp only at hSw); go_simp; try with_reducible rfl)
  try simp only [Act.put, List.getElem_toArray, List.getElem_cons_succ, List.getElem_cons_zero, List.setIfInBounds_toArray, List.set_cons_zero, List.set_cons_succ]
  refine wpAnyH_take (i := 14) (v := ?v15) rfl (by kernel_rfl) (by kernel_rfl) (by kernel_rfl) (fun _ _ _ h => h) (Or.inl ⟨by rfl, ?hy15⟩) hHeld ?rest15
  case hy15 => (intro w hSw; (try dsimp only at hSw); go_simp; try with_reducible rfl)
  try simp only [Act.put, List.getElem_toArray, List.getElem_cons_succ, List.getElem_cons_zero, List.setIfInBounds_toArray, List.set_cons_zero, List.set_cons_succ]
  refine wpAnyH_take (i := 16) (v := ?v16) rfl (by kernel_rfl) (by kernel_rfl) (by kernel_rfl) (fun _ _ _ h => h) (Or.inl ⟨by rfl, ?hy16⟩) hHeld ?rest16
  case hy16 => (intro w hSw; (try dsimp only at hSw); go_simp; try with_reducible rfl)
  try simp only [Act.put, List.getElem_toArray, List.getElem_cons_succ, List.getElem_cons_zero, List.setIfInBounds_toArray, List.set_cons_zero, List.set_cons_succ]
  refine wpAnyH_take (i := 17) (v := ?v17) rfl (by kernel_rfl) (by kernel_rfl) (by kernel_rfl) (fun _ _ _ h => h) (Or.inl ⟨by rfl, ?hy17⟩) hHeld ?rest17
  case hy17 => (intro w hSw; (try dsimp only at hSw); go_simp; try with_reducible rfl)
  try simp only [Act.put, List.getElem_toArray, List.getElem_cons_succ, List.getElem_cons_zero, List.setIfInBounds_toArray, List.set_cons_zero, List.set_cons_succ]
  refine wpAnyH_take (i := 18) (v := ?v18) rfl (by kernel_rfl) (by kernel_rfl) (by kernel_rfl) (fun _ _ _ h => h) (Or.inl ⟨by rfl, ?hy18⟩) hHeld ?rest18
  case hy18 => (intro w hSw; (try dsimp only at hSw); go_simp; try with_reducible rfl)
  try simp only [Act.put, List.getElem_toArray, List.getElem_cons_succ, List.getElem_cons_zero, List.setIfInBounds_toArray, List.set_cons_zero, List.set_cons_succ]
  refine wpAnyH_ready (rs := [15]) (by kernel_rfl) (by simp) ?_
  refine AllReadyH.cons rfl (fun K hK => ?_) AllReadyH.nil
  clear hHeld
  go_simp
  refine (HC.out _ (rounds_of HG3.out (by go_grown))).mono ?_
  rintro r w5 ⟨rfl, hb5⟩
  have hB5 : Below w3.heap.size w3 w5 := Below.trans (by go_grown) (hb5.mono (by omega))
  clear hb5
  have hs5 := hB5.size
  go_simp
  refine hK.out _ _ (keep2 HX.out hB5) (fun hHeld => ?_)
  clear hK K
  try simp only [Act.put, List.getElem_toArray, List.getElem_cons_succ, List.getElem_cons_zero, List.setIfInBounds_toArray, List.set_cons_zero, List.set_cons_succ]
  refine wpAnyH_ready (rs := [19]) (by kernel_rfl) (by simp) ?_
  refine AllReadyH.cons rfl (fun K hK => ?_) AllReadyH.nil
  clear hHeld
  go_simp
  refine (HD.out _).mono ?_
  rintro r w6 ⟨rfl, hb6⟩
  have hB6 : Below w3.heap.size w3 w6 := Below.trans (by go_grown) (hb6.mono (by omega))
  clear hb6
  have hs6 := hB6.size
  go_simp
  refine hK.out _ _ (keep2 HX.out hB6) (fun hHeld => ?_)
  clear hK K
  try simp only [Act.put, List.getElem_toArray, List.getElem_cons_succ, List.getElem_cons_zero, List.setIfInBounds_toArray, List.set_cons_zero, List.set_cons_succ]
  refine wpAnyH_take (i := 20) (v := ?v21) rfl (by kernel_rfl) (by kernel_rfl) (by kernel_rfl) (fun _ _ _ h => h) (Or.inl ⟨by rfl, ?hy21⟩) hHeld ?rest21
  case hy21 => (intro w hSw; (try dsimp only at hSw); go_simp; try with_reducible rfl)
  try simp only [Act.put, List.getElem_toArray, List.getElem_cons_succ, List.getElem_cons_zero, List.setIfInBounds_toArray, List.set_cons_zero, List.set_cons_succ]
  refine wpAnyH_take (i := 21) (v := ?v22) rfl (by kernel_rfl) (by kernel_rfl) (by kernel_rfl) (fun _ _ _ h => h) (Or.inl ⟨by rfl, ?hy22⟩) hHeld ?rest22
  case hy22 => (intro w hSw; (try dsimp only at hSw); go_simp; try with_reducible rfl)
  try simp only [Act.put, List.getElem_toArray, List.getElem_cons_succ, List.getElem_cons_zero, List.setIfInBounds_toArray, List.set_cons_zero, List.set_cons_succ]
  refine wpAnyH_take (i := 22) (v := ?v23) rfl (by kernel_rfl) (by kernel_rfl) (by kernel_rfl) (fun _ _ _ h => h) (Or.inl ⟨by rfl, ?hy23⟩) hHeld ?rest23
  case hy23 => (intro w hSw; (try dsimp only at hSw); go_simp; try with_reducible rfl)
  try simp only [Act.put, List.getElem_toArray, List.getElem_cons_succ, List.getElem_cons_zero, List.setIfInBounds_toArray, List.set_cons_zero, List.set_cons_succ]
  refine wpAnyH_take (i := 23) (v := ?v24) rfl (by kernel_rfl) (by kernel_rfl) (by kernel_rfl) (fun _ _ _ h => h) (Or.inl ⟨by rfl, ?hy24⟩) hHeld ?rest24
  case hy24 => (intro w hSw; (try dsimp only at hSw); go_simp; try with_reducible rfl)
  try simp only [Act.put, List.getElem_toArray, List.getElem_cons_succ, List.getElem_cons_zero, List.setIfInBounds_toArray, List.set_cons_zero, List.set_cons_succ]
  refine wpAnyH_take (i := 24) (v := ?v25) rfl (by kernel_rfl) (by kernel_rfl) (by kernel_rfl) (fun _ _ _ h => h) (Or.inl ⟨by rfl, ?hy25⟩) hHeld ?rest25
  case hy25 => (intro w hSw; (try dsimp only at hSw); go_simp; try with_reducible rfl)
  try simp only [Act.put, List.getElem_toArray, List.getElem_cons_succ, List.getElem_cons_zero, List.setIfInBounds_toArray, List.set_cons_zero, List.set_cons_succ]
  refine wpAnyH_take (i := 25) (v := ?v26) rfl (by kernel_rfl) (by kernel_rfl) (by kernel_rfl) (fun _ _ _ h => h) (Or.inl ⟨by rfl, ?hy26⟩) hHeld ?rest26
  case hy26 => (intro w hSw; (try dsimp only at hSw); go_simp; try with_reducible rfl)
  try simp only [Act.put, List.getElem_toArray, List.getElem_cons_succ, List.getElem_cons_zero, List.setIfInBounds_toArray, List.set_cons_zero, List.set_cons_succ]
  refine wpAnyH_take (i := 26) (v := undef) rfl (by kernel_rfl) (by kernel_rfl) (by kernel_rfl) (fun _ _ _ h => h) (Or.inr ⟨by rfl, rfl⟩) hHeld ?rest27
  try simp only [Act.put, List.getElem_toArray, List.getElem_cons_succ, List.getElem_cons_zero, List.setIfInBounds_toArray, List.set_cons_zero, List.set_cons_succ]
  refine wpAnyH_take (i := 27) (v := undef) rfl (by kernel_rfl) (by kernel_rfl) (by kernel_rfl) (fun _ _ _ h => h) (Or.inr ⟨by rfl, rfl⟩) hHeld ?rest28
  try simp only [Act.put, List.getElem_toArray, List.getElem_cons_succ, List.getElem_cons_zero, List.setIfInBounds_toArray, List.set_cons_zero, List.set_cons_succ]
  refine wpAnyH_take (i := 28) (v := undef) rfl (by kernel_rfl) (by kernel_rfl) (by kernel_rfl) (fun _ _ _ h => h) (Or.inr ⟨by rfl, rfl⟩) hHeld ?rest29
  try simp only [Act.put, List.getElem_toArray, List.getElem_cons_succ, List.getElem_cons_zero, List.setIfInBounds_toArray, List.set_cons_zero, List.set_cons_succ]
  refine wpAnyH_take (i := 29) (v := undef) rfl (by kernel_rfl) (by kernel_rfl) (by kernel_rfl) (fun _ _ _ h => h) (Or.inr ⟨by rfl, rfl⟩) hHeld ?rest30
  try simp only [Act.put, List.getElem_toArray, List.getElem_cons_succ, List.getElem_cons_zero, List.setIfInBounds_toArray, List.set_cons_zero, List.set_cons_succ]
  refine wpAnyH_take (i := 30) (v := ?v31) rfl (by kernel_rfl) (by kernel_rfl) (by kernel_rfl) (fun _ _ _ h => h) (Or.inl ⟨by rfl, ?hy31⟩) hHeld ?rest31
  case hy31 => (intro w hSw; (try dsimp only at hSw); go_simp; try with_reducible rfl)
  try simp only [Act.put, List.getElem_toArray, List.getElem_cons_succ, List.getElem_cons_zero, List.setIfInBounds_toArray, List.set_cons_zero, List.set_cons_succ]
  refine wpAnyH_take (i := 31) (v := ?v32) rfl (by kernel_rfl) (by kernel_rfl) (by kernel_rfl) (fun _ _ _ h => h) (Or.inl ⟨by rfl, ?hy32⟩) hHeld ?rest32
  case hy32 => (intro w hSw; (try dsimp only at hSw); go_simp; try with_reducible rfl)
  try simp only [Act.put, List.getElem_toArray, List.getElem_cons_succ, List.getElem_cons_zero, List.setIfInBounds_toArray, List.set_cons_zero, List.set_cons_succ]
  refine wpAnyH_take (i := 32) (v := ?v33) rfl (by kernel_rfl) (by kernel_rfl) (by kernel_rfl) (fun _ _ _ h => h) (Or.inl ⟨by rfl, ?hy33⟩) hHeld ?rest33
  case hy33 => (intro w hSw; (try dsimp only at hSw); go_simp; try with_reducible rfl)
  try simp only [Act.put, List.getElem_toArray, List.getElem_cons_succ, List.getElem_cons_zero, List.setIfInBounds_toArray, List.set_cons_zero, List.set_cons_succ]
  refine wpAnyH_done (by kernel_rfl) ?_ _
  -- region 5 ends
  all_goals
    go_wp2_with fail
    go_ret
    exact ⟨rfl, by have h := hB3.trans (hB6.mono hs3); go_grown⟩
set_option maxRecDepth 100000 in
set_option maxHeartbeats 1000000 in
theorem makes_zero (p s b M : ByteArray) (x : Int) (q : Bool) (w : World) (hG : Rounds w) (hf : farB [p, s, b] = false)
    (hK : ∀ W, Rounds W → Calls Tryd.prog 45 #[.string s, shV x b] W fun e w' => e = .returned (.tuple #[.string M, .int .i64 0]) ∧ Below W.heap.size W w')
    (hR : ∀ W, Calls Tryd.prog 46 #[.string s, shV x b] W fun e w' => e = .returned (.tuple #[.string M, .int .i64 0]) ∧ Below W.heap.size W w')
    (hC : ∀ W, Rounds W → Calls Tryd.prog 48 #[.string p, .string s, shV x b] W fun e w' => e = .returned (.bool q) ∧ Below W.heap.size W w')
    (hD : ∀ W, Calls Tryd.prog 49 #[.string p, .string s, shV x b] W fun e w' => e = .returned (.bool q) ∧ Below W.heap.size W w')
    (hM : ∀ W, Rounds W → Calls Tryd.prog 48 #[.string M, .string s, shV x b] W fun e w' => e = .returned (.bool true) ∧ Below W.heap.size W w') :
    Calls Tryd.prog 13 #[.string p, .string s, shV x b] w fun e w' => e = .returned (.bool true) ∧ Below w.heap.size w w' := by
  have HG := Lib.hid hG
  have HF := Lib.hid hf
  have HK := Lib.hid hK
  have HR := Lib.hid hR
  have HC := Lib.hid hC
  have HD := Lib.hid hD
  have HM := Lib.hid hM
  have hqq : (q == q) = true := by simp
  have hmm : (M.toList == M.toList) = true := by simp
  clear hG hf hK hR hC hD hM
  unfold shV at *
  go_enter Tryd.func13, Tryd.ntmps13
  go_wp2_with fail
  refine (far3 p s b (w.heap.size + 1) _ (Blk.new_at (by simp) _ _) (by simp)).mono ?_
  rintro e w1 ⟨rfl, rfl⟩
  rw [HF.out]
  go_wp2_with fail
  refine (HK.out _ (HG.out.below (B := w.heap.size) (by go_grown) HG.out.pos)).mono ?_
  rintro e w2 ⟨rfl, hb2⟩
  have hX2 := ((Blk.new w 51 #[.int .i64 x, .string b]).alloc (.cells #[.string p, .string s, .string b] 9)).below hb2 (by simp; omega)
  have hB2 : Below w.heap.size w w2 := Below.trans (by go_grown) (hb2.mono (by simp; omega))
  clear hb2
  have c0 := hX2.cells 0 _ rfl
  have c1 := hX2.cells 1 _ rfl
  simp only [List.getElem_toArray, List.getElem_cons_zero, List.getElem_cons_succ] at c0 c1
  go_wp2_with fail
  refine (HR.out _).mono ?_
  rintro e w3 ⟨rfl, hb3⟩
  have hX3 := hX2.below hb3 hX2.lt
  have hB3 := hB2.trans (hb3.mono hB2.size)
  clear hb3 c0 c1 hX2
  have hs3 := hB3.size
  have HX := Lib.hid hX3
  have HG3 := Lib.hid (rounds_of HG.out hB3)
  clear hX3
  go_wp2_with fail
  go_region_held3 (fun w' => w'.cell? ⟨w.heap.size, 0, none⟩ = some (.int .i64 x) ∧ w'.cell? ⟨w.heap.size, 1, none⟩ = some (.string b))
    ((refine keep2 HX.out ?_; go_grown))
    (first
      | (go_at_call 47; refine (pledges_any _ (rounds_of HG3.out (by go_grown))).mono ?_; rintro r w4 ⟨rfl, hb4⟩; have hB4 : Below w3.heap.size w3 w4 := Below.trans (by go_grown) (hb4.mono (by simp)); clear hb4; have hs4 := hB4.size)
      | (go_at_call 48; with_reducible refine (HC.out _ (rounds_of HG3.out (by go_grown))).mono ?_; rintro r w5 ⟨rfl, hb5⟩; have hB5 : Below w3.heap.size w3 w5 := Below.trans (by go_grown) (hb5.mono (by omega)); clear hb5; have hs5 := hB5.size)
      | (go_at_call 49; refine (HD.out _).mono ?_; rintro r w6 ⟨rfl, hb6⟩; have hB6 : Below w3.heap.size w3 w6 := Below.trans (by go_grown) (hb6.mono (by omega)); clear hb6; have hs6 := hB6.size)
      | (go_at_call 48; with_reducible refine (HM.out _ (rounds_of HG3.out (by go_grown))).mono ?_; rintro r w7 ⟨rfl, hb7⟩; have hB7 : Below w3.heap.size w3 w7 := Below.trans (by go_grown) (hb7.mono (by omega)); clear hb7; have hs7 := hB7.size))
  go_wp2_with fail
  go_ret
  exact ⟨rfl, by have h := hB3.trans (hB7.mono hs3); go_grown⟩
theorem makes_all (p s b : ByteArray) (x : Int) (w : World) (hG : Rounds w) (hp : p.size ≤ 140737488351232) (hs : s.size ≤ 140737488351232) (hb : b.size ≤ 140737488351232) :
    Calls Tryd.prog 13 #[.string p, .string s, shV x b] w fun e w' => e = .returned (.bool true) ∧ Below w.heap.size w w' := by
  cases hf : farB [p, s, b]
  · have hK := fun W h => pmake_any s b x W h hs hb
    have hR := fun W => rmake_any s b x W hs hb
    have hC := fun W h => pcheck_any p s b x W h hs hb
    have hD := fun W => rcheck_any p s b x W hs hb
    cases hr : rightB s x b
    · have he := (makeS_wrong hr).2
      rw [he] at hK hR
      exact makes_one p s b _ x _ w hG hf hK hR hC hD
    · have he := (makeS_right hr).2
      have hM := fun W h => pcheck_any (makeS s x b) s b x W h hs hb
      rw [check_self hr] at hM
      rw [he] at hK hR
      exact makes_zero p s b _ x _ w hG hf hK hR hC hD hM
  · exact makes_far p s b x w hf
end Go.Proofs.YtkaaicmadknjcaaDoor
