/- nonce: told. -/
import Derived.Test.YtefodifmfjpnlaaDoorNonH
import Derived.Test.YtefodifmfjpnlaaDoorPlatM
set_option linter.unusedVariables false
namespace Go.Proofs.YtefodifmfjpnlaaDoor
open Go.RowKit
def P3 : Plat := (newF 3).1
def P4 : Plat := (nextN P3 ⟨0, 0, 0⟩ (-1)).2.2.1
def P5 : Plat := (nextN P4 ⟨0, 16, 16⟩ (-1)).2.2.1
theorem told_new : newF 3 = (P3, 0) := by kernel_rfl
theorem told_o1 : openN P3 0 = (⟨0, 0, 0⟩, 0) := by kernel_rfl
theorem told_n1 : nextN P3 ⟨0, 0, 0⟩ (-1) = (nonB 0, ⟨0, 1, 16⟩, P4, 0) := by kernel_rfl
theorem told_n2 : nextN P4 ⟨0, 1, 16⟩ (-1) = (nonB 1, ⟨0, 2, 16⟩, P4, 0) := by kernel_rfl
theorem told_o2 : openN P4 0 = (⟨0, 16, 16⟩, 0) := by kernel_rfl
theorem told_n3 : nextN P4 ⟨0, 16, 16⟩ (-1) = (nonB 16, ⟨0, 17, 32⟩, P5, 0) := by kernel_rfl
theorem told_b0 : nonF 0 = (nonB 0, 0) := by kernel_rfl
theorem told_b1 : nonF 1 = (nonB 1, 0) := by kernel_rfl
theorem told_b16 : nonF 16 = (nonB 16, 0) := by kernel_rfl
theorem told_bn : nonF (-1) = (⟨#[]⟩, 1) := by kernel_rfl
theorem told_l4 : P4.sectors.length = 3 ∧ P4.cache.length = 0 := ⟨by kernel_rfl, by kernel_rfl⟩
theorem told_l3 : P3.sectors.length = 3 ∧ P3.cache.length = 0 := ⟨by kernel_rfl, by kernel_rfl⟩
def HPows (w : World) : Prop := Hid (Pows w)
theorem HPows.on {w w1 : World} (h : HPows w) (hb : Below w.heap.size w w1) : HPows w1 := Lib.hid (h.out.below hb)
theorem HPows.step {w w1 : World} (h : HPows w) (hb : Below w.heap.size w w1) : Pows w1 := h.out.below hb
set_option maxHeartbeats 4000000 in
set_option maxRecDepth 100000 in
theorem ntold_any (w : World) (hG : Pows w) :
    Calls Tryd.prog 13 #[] w fun e w' => e = .returned (.bool true) ∧ Below w.heap.size w w' := by
  have HG : HPows w := Lib.hid hG
  clear hG
  go_enter Tryd.func13, Tryd.ntmps13
  go_wp2_with fail
  refine (new_any 3 _).mono ?_
  rintro e w1 ⟨v, rfl, hO1, hb1⟩
  have hs1 : Below w.heap.size w w1 := Below.trans (by go_grown) (hb1.mono (by first | (simp; done) | (simp; omega)))
  have HG_1 := HG.on hs1
  have hB_1 := hs1
  rw [told_new] at hO1 ⊢
  dsimp only at hO1 ⊢
  obtain ⟨Aa, ca, Aa', ca', rfl, HPa⟩ := hO1.at_
  clear hO1
  rw [told_l3.1, told_l3.2] at HPa ⊢
  have hz_1 := hs1.size
  clear hb1 HG hs1
  go_wp2_with fail
  refine (nopen_any P3 0 Aa Aa' 3 0 ca ca' _ (HPa.step (by go_grown))).mono ?_
  rintro e w2 ⟨rfl, hb2⟩
  have hs2 : Below w1.heap.size w1 w2 := Below.trans (by go_grown) (hb2.mono (by first | (simp; done) | (simp; omega)))
  have HG_2 := HG_1.on hs2
  have HPa_2 := HPa.on hs2
  have X_2 := (Blk.new_at (g := w1.heap.size) (by simp) _ _).below hb2 (by first | (simp; done) | (simp; omega))
  have hB_2 := hB_1.trans (hs2.mono hB_1.size)
  rw [told_o1]
  unfold srcV
  dsimp only
  have hz_2 := hs2.size
  clear hb2 HG_1 HPa hB_1 hs2
  have qX_0 := X_2.cells 0 _ rfl
  have qX_1 := X_2.cells 1 _ rfl
  have qlX := X_2.lt
  simp only [List.getElem_toArray, List.getElem_cons_zero, List.getElem_cons_succ] at qX_0 qX_1
  go_wp2_with fail
  refine (next_any P3 ⟨0, 0, 0⟩ (-1) Aa Aa' 3 0 ca ca' _ (HPa_2.step (by go_grown)) (by omega) (by omega) (HG_2.step (by go_grown))).mono ?_
  rintro e w3 ⟨v, rfl, hO3, hb3⟩
  clear qlX qX_0 qX_1
  have hs3 : Below w2.heap.size w2 w3 := Below.trans (by go_grown) (hb3.mono (by first | (simp; done) | (simp; omega)))
  have HG_3 := HG_2.on hs3
  have HPa_3 := HPa_2.on hs3
  have X_3 := X_2.below hs3 X_2.lt
  have S1_3 := (Blk.new_at (g := w2.heap.size) (by simp) _ _).below hb3 (by first | (simp; done) | (simp; omega))
  have hB_3 := hB_2.trans (hs3.mono hB_2.size)
  rw [told_n1] at hO3 ⊢
  unfold srcV
  dsimp only at hO3 ⊢
  obtain ⟨Ab, cb, Ab', cb', rfl, HPb⟩ := hO3.at_
  clear hO3
  rw [told_l4.1, told_l4.2] at HPb ⊢
  have hz_3 := hs3.size
  clear hb3 HG_2 HPa_2 X_2 hB_2 hs3
  go_wp2_with fail
  refine (next_any P4 ⟨0, 1, 16⟩ (-1) Ab Ab' 3 0 cb cb' _ (HPb.step (by go_grown)) (by omega) (by omega) (HG_3.step (by go_grown))).mono ?_
  rintro e w4 ⟨v, rfl, hO4, hb4⟩
  have hs4 : Below w3.heap.size w3 w4 := Below.trans (by go_grown) (hb4.mono (by first | (simp; done) | (simp; omega)))
  have HG_4 := HG_3.on hs4
  have HPa_4 := HPa_3.on hs4
  have X_4 := X_3.below hs4 X_3.lt
  have S1_4 := S1_3.below hs4 S1_3.lt
  have HPb_4 := HPb.on hs4
  have S2_4 := ((Blk.new_at (g := w3.heap.size) (by simp) _ _).alloc _).below hb4 (by first | (simp; done) | (simp; omega))
  have Y_4 := (Blk.new_at (g := w3.heap.size + 1) (by simp) _ _).below hb4 (by first | (simp; done) | (simp; omega))
  have hB_4 := hB_3.trans (hs4.mono hB_3.size)
  rw [told_n2] at hO4 ⊢
  unfold srcV
  dsimp only at hO4 ⊢
  obtain ⟨Ad, cd, Ad', cd', rfl, HPd⟩ := hO4.at_
  clear hO4
  rw [told_l4.1, told_l4.2] at HPd ⊢
  have hz_4 := hs4.size
  clear hb4 HG_3 HPa_3 X_3 S1_3 HPb hB_3 hs4
  go_wp2_with fail
  refine (nopen_any P4 0 Ad Ad' 3 0 cd cd' _ (HPd.step (by go_grown))).mono ?_
  rintro e w5 ⟨rfl, hb5⟩
  have hs5 : Below w4.heap.size w4 w5 := Below.trans (by go_grown) (hb5.mono (by first | (simp; done) | (simp; omega)))
  have HG_5 := HG_4.on hs5
  have HPa_5 := HPa_4.on hs5
  have X_5 := X_4.below hs5 X_4.lt
  have S1_5 := S1_4.below hs5 S1_4.lt
  have HPb_5 := HPb_4.on hs5
  have S2_5 := S2_4.below hs5 S2_4.lt
  have Y_5 := Y_4.below hs5 Y_4.lt
  have HPd_5 := HPd.on hs5
  have S3_5 := ((Blk.new_at (g := w4.heap.size) (by simp) _ _).alloc _).below hb5 (by first | (simp; done) | (simp; omega))
  have Z_5 := (Blk.new_at (g := w4.heap.size + 1) (by simp) _ _).below hb5 (by first | (simp; done) | (simp; omega))
  have hB_5 := hB_4.trans (hs5.mono hB_4.size)
  rw [told_o2]
  unfold srcV
  dsimp only
  have hz_5 := hs5.size
  clear hb5 HG_4 HPa_4 X_4 S1_4 HPb_4 S2_4 Y_4 HPd hB_4 hs5
  have qZ_0 := Z_5.cells 0 _ rfl
  have qZ_1 := Z_5.cells 1 _ rfl
  have qlZ := Z_5.lt
  simp only [List.getElem_toArray, List.getElem_cons_zero, List.getElem_cons_succ] at qZ_0 qZ_1
  go_wp2_with fail
  refine (next_any P4 ⟨0, 16, 16⟩ (-1) Ad Ad' 3 0 cd cd' _ (HPd_5.step (by go_grown)) (by omega) (by omega) (HG_5.step (by go_grown))).mono ?_
  rintro e w6 ⟨v, rfl, hO6, hb6⟩
  clear qlZ qZ_0 qZ_1
  have hs6 : Below w5.heap.size w5 w6 := Below.trans (by go_grown) (hb6.mono (by first | (simp; done) | (simp; omega)))
  have HG_6 := HG_5.on hs6
  have HPa_6 := HPa_5.on hs6
  have X_6 := X_5.below hs6 X_5.lt
  have S1_6 := S1_5.below hs6 S1_5.lt
  have HPb_6 := HPb_5.on hs6
  have S2_6 := S2_5.below hs6 S2_5.lt
  have Y_6 := Y_5.below hs6 Y_5.lt
  have HPd_6 := HPd_5.on hs6
  have S3_6 := S3_5.below hs6 S3_5.lt
  have Z_6 := Z_5.below hs6 Z_5.lt
  have S4_6 := (Blk.new_at (g := w5.heap.size) (by simp) _ _).below hb6 (by first | (simp; done) | (simp; omega))
  have hB_6 := hB_5.trans (hs6.mono hB_5.size)
  rw [told_n3] at hO6 ⊢
  unfold srcV
  dsimp only at hO6 ⊢
  obtain ⟨Ae, ce, Ae', ce', rfl, HPe⟩ := hO6.at_
  clear hO6
  have hz_6 := hs6.size
  clear hb6 HG_5 HPa_5 X_5 S1_5 HPb_5 S2_5 Y_5 HPd_5 S3_5 Z_5 hB_5 hs6
  go_wp2_with fail
  refine (bytes_any 0 _).mono ?_
  rintro e w7 ⟨rfl, hb7⟩
  have hs7 : Below w6.heap.size w6 w7 := Below.trans (by go_grown) (hb7.mono (by first | (simp; done) | (simp; omega)))
  have hB_7 := hB_6.trans (hs7.mono hB_6.size)
  rw [told_b0]
  dsimp only
  have hz_7 := hs7.size
  clear hb7 HG_6 HPa_6 X_6 S1_6 HPb_6 S2_6 Y_6 HPd_6 S3_6 Z_6 S4_6 HPe hB_6 hs7
  go_wp2_with fail
  refine (bytes_any 1 _).mono ?_
  rintro e w8 ⟨rfl, hb8⟩
  have hs8 : Below w7.heap.size w7 w8 := Below.trans (by go_grown) (hb8.mono (by first | (simp; done) | (simp; omega)))
  have hB_8 := hB_7.trans (hs8.mono hB_7.size)
  rw [told_b1]
  dsimp only
  have hz_8 := hs8.size
  clear hb8 hB_7 hs8
  go_wp2_with fail
  refine (bytes_any 16 _).mono ?_
  rintro e w9 ⟨rfl, hb9⟩
  have hs9 : Below w8.heap.size w8 w9 := Below.trans (by go_grown) (hb9.mono (by first | (simp; done) | (simp; omega)))
  have hB_9 := hB_8.trans (hs9.mono hB_8.size)
  rw [told_b16]
  dsimp only
  have hz_9 := hs9.size
  clear hb9 hB_8 hs9
  go_wp2_with fail
  refine (bytes_any (-1) _).mono ?_
  rintro e w10 ⟨rfl, hb10⟩
  have hs10 : Below w9.heap.size w9 w10 := Below.trans (by go_grown) (hb10.mono (by first | (simp; done) | (simp; omega)))
  have hB_10 := hB_9.trans (hs10.mono hB_9.size)
  rw [told_bn]
  dsimp only
  have hz_10 := hs10.size
  clear hb10 hB_9 hs10
  have hne : ((nonB 0).toList == (nonB 1).toList) = false := by kernel_rfl
  have hsz : (nonB 16).size = 12 := by kernel_rfl
  go_wp2_with fail
  go_ret
  exact ⟨rfl, hB_10⟩
end Go.Proofs.YtefodifmfjpnlaaDoor
