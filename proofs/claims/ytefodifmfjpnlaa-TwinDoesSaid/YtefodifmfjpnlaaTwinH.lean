/- chapter 14's laws' helper twins. -/
import Derived.Test.YtefodifmfjpnlaaTwinG
set_option linter.unusedVariables false
namespace Go.Proofs.Ytefodifmfjpnlaa
open Go.RowKit
def tpa : Plat := ⟨[⟨#[48]⟩, ⟨#[97]⟩, sE], []⟩
def tp0 : Plat := ⟨[sE, sE, sE], []⟩
def tpb : Plat := ⟨[⟨#[48]⟩, ⟨#[97]⟩, ⟨#[98]⟩], []⟩
def tpd : Plat := ⟨[⟨#[48]⟩, ⟨#[97]⟩, ⟨#[98]⟩], [⟨0, ⟨#[49]⟩⟩]⟩
def tpx : Plat := ⟨[⟨#[49]⟩, ⟨#[97]⟩, ⟨#[98]⟩], []⟩
theorem tw1 : newF 3 = (tp0, 0) := by kernel_rfl
theorem tw2 : getF tp0 0 = (⟨#[]⟩, false, 0) := by kernel_rfl
theorem tw3 : putF tp0 0 ⟨#[97]⟩ (-1) = (tpa, true, 0) := by kernel_rfl
theorem tw4 : getF tpa 0 = (⟨#[97]⟩, true, 0) := by kernel_rfl
theorem tw5 : putF tpa 0 ⟨#[98]⟩ 2 = (tpb, false, 0) := by kernel_rfl
theorem tw6 : crashF tpb [] = (tpb, 0) := by kernel_rfl
theorem tw7 : getF tpb 0 = (⟨#[97]⟩, true, 0) := by kernel_rfl
theorem tw8 : putF tpa 0 ⟨#[98]⟩ 3 = (tpd, false, 0) := by kernel_rfl
theorem tw9 : crashF tpd [1] = (tpx, 0) := by kernel_rfl
theorem tw10 : getF tpx 0 = (⟨#[98]⟩, true, 0) := by kernel_rfl
set_option maxHeartbeats 2000000 in
set_option maxRecDepth 100000 in
theorem twins_any (w : World) : Calls Try.prog 28 #[] w fun e w' => e = .returned (.bool true) ∧ Below w.heap.size w w' := by
  go_enter Try.func28, Try.ntmps28
  go_wp2_with fail
  refine (new_any 3 _).mono ?_
  rintro e w1 ⟨v, rfl, hO1, hb1⟩
  have hs1 : Below w.heap.size w w1 := Below.trans (by go_grown) (hb1.mono (by first | (simp; done) | (simp; omega)))
  have hB_1 := hs1
  rw [tw1] at hO1 ⊢
  obtain ⟨Ap, cp, Ap', cp', rfl, HPp⟩ := hO1.at_
  clear hO1
  simp only [tp0, List.length_cons, List.length_nil]
  have hz_1 := hs1.size
  clear hb1 hs1
  go_wp2_with fail
  refine (get_any tp0 0 Ap Ap' 3 0 cp cp' _ (HPp.step (by go_grown))).mono ?_
  rintro e w2 ⟨rfl, hb2⟩
  have hs2 : Below w1.heap.size w1 w2 := Below.trans (by go_grown) (hb2.mono (by first | (simp; done) | (simp; omega)))
  have HPp_2 := HPp.on hs2
  have Xp_2 := (Blk.new_at (g := w1.heap.size) (by simp) _ _).below hb2 (by first | (simp; done) | (simp; omega))
  have hB_2 := hB_1.trans (hs2.mono hB_1.size)
  rw [tw2]
  have hz_2 := hs2.size
  clear hb2 HPp hB_1 hs2
  have qXp_0 := Xp_2.cells 0 _ rfl
  have qXp_1 := Xp_2.cells 1 _ rfl
  have qlXp := Xp_2.lt
  simp only [List.getElem_toArray, List.getElem_cons_zero, List.getElem_cons_succ] at qXp_0 qXp_1
  go_wp2_with fail
  refine (put_any tp0 0 ⟨#[97]⟩ (-1) Ap Ap' 3 0 cp cp' _ (HPp_2.step (by go_grown))).mono ?_
  rintro e w3 ⟨v, rfl, hO3, hb3⟩
  clear qlXp qXp_0 qXp_1
  have hs3 : Below w2.heap.size w2 w3 := Below.trans (by go_grown) (hb3.mono (by first | (simp; done) | (simp; omega)))
  have hB_3 := hB_2.trans (hs3.mono hB_2.size)
  rw [tw3] at hO3 ⊢
  obtain ⟨Aa, ca, Aa', ca', rfl, HPa⟩ := hO3.at_
  clear hO3
  simp only [tpa, List.length_cons, List.length_nil]
  have hz_3 := hs3.size
  clear hb3 HPp_2 Xp_2 hB_2 hs3
  go_wp2_with fail
  refine (get_any tpa 0 Aa Aa' 3 0 ca ca' _ (HPa.step (by go_grown))).mono ?_
  rintro e w4 ⟨rfl, hb4⟩
  have hs4 : Below w3.heap.size w3 w4 := Below.trans (by go_grown) (hb4.mono (by first | (simp; done) | (simp; omega)))
  have HPa_4 := HPa.on hs4
  have Xa_4 := (Blk.new_at (g := w3.heap.size) (by simp) _ _).below hb4 (by first | (simp; done) | (simp; omega))
  have hB_4 := hB_3.trans (hs4.mono hB_3.size)
  rw [tw4]
  have hz_4 := hs4.size
  clear hb4 HPa hB_3 hs4
  have qXa_0 := Xa_4.cells 0 _ rfl
  have qXa_1 := Xa_4.cells 1 _ rfl
  have qlXa := Xa_4.lt
  simp only [List.getElem_toArray, List.getElem_cons_zero, List.getElem_cons_succ] at qXa_0 qXa_1
  go_wp2_with fail
  refine (put_any tpa 0 ⟨#[98]⟩ 2 Aa Aa' 3 0 ca ca' _ (HPa_4.step (by go_grown))).mono ?_
  rintro e w5 ⟨v, rfl, hO5, hb5⟩
  clear qlXa qXa_0 qXa_1
  have hs5 : Below w4.heap.size w4 w5 := Below.trans (by go_grown) (hb5.mono (by first | (simp; done) | (simp; omega)))
  have HPa_5 := HPa_4.on hs5
  have Xa_5 := Xa_4.below hs5 Xa_4.lt
  have hB_5 := hB_4.trans (hs5.mono hB_4.size)
  rw [tw5] at hO5 ⊢
  obtain ⟨Ab, cb, Ab', cb', rfl, HPb⟩ := hO5.at_
  clear hO5
  simp only [tpb, List.length_cons, List.length_nil]
  have hz_5 := hs5.size
  clear hb5 HPa_4 Xa_4 hB_4 hs5
  go_wp2_with fail
  refine (crash_any tpb [] none 0 0 Ab Ab' 3 0 cb cb' _ (HPb.step (by go_grown)) SlR.nil_ (by omega) (by intro x hx; cases hx)).mono ?_
  rintro e w6 ⟨v, rfl, hO6, hb6⟩
  have hs6 : Below w5.heap.size w5 w6 := Below.trans (by go_grown) (hb6.mono (by first | (simp; done) | (simp; omega)))
  have HPa_6 := HPa_5.on hs6
  have Xa_6 := Xa_5.below hs6 Xa_5.lt
  have hB_6 := hB_5.trans (hs6.mono hB_5.size)
  rw [tw6] at hO6 ⊢
  obtain ⟨Ak, ck, Ak', ck', rfl, HPk⟩ := hO6.at_
  clear hO6
  simp only [tpb, List.length_cons, List.length_nil]
  have hz_6 := hs6.size
  clear hb6 HPa_5 Xa_5 HPb hB_5 hs6
  go_wp2_with fail
  refine (get_any tpb 0 Ak Ak' 3 0 ck ck' _ (HPk.step (by go_grown))).mono ?_
  rintro e w7 ⟨rfl, hb7⟩
  have hs7 : Below w6.heap.size w6 w7 := Below.trans (by go_grown) (hb7.mono (by first | (simp; done) | (simp; omega)))
  have HPa_7 := HPa_6.on hs7
  have Xa_7 := Xa_6.below hs7 Xa_6.lt
  have hB_7 := hB_6.trans (hs7.mono hB_6.size)
  rw [tw7]
  have hz_7 := hs7.size
  clear hb7 HPa_6 Xa_6 HPk hB_6 hs7
  have qXa_0 := Xa_7.cells 0 _ rfl
  have qXa_1 := Xa_7.cells 1 _ rfl
  have qlXa := Xa_7.lt
  simp only [List.getElem_toArray, List.getElem_cons_zero, List.getElem_cons_succ] at qXa_0 qXa_1
  go_wp2_with fail
  refine (put_any tpa 0 ⟨#[98]⟩ 3 Aa Aa' 3 0 ca ca' _ (HPa_7.step (by go_grown))).mono ?_
  rintro e w8 ⟨v, rfl, hO8, hb8⟩
  clear qlXa qXa_0 qXa_1
  have hs8 : Below w7.heap.size w7 w8 := Below.trans (by go_grown) (hb8.mono (by first | (simp; done) | (simp; omega)))
  have hB_8 := hB_7.trans (hs8.mono hB_7.size)
  rw [tw8] at hO8 ⊢
  obtain ⟨Ad, cd, Ad', cd', rfl, HPd⟩ := hO8.at_
  clear hO8
  simp only [tpd, List.length_cons, List.length_nil]
  have hz_8 := hs8.size
  clear hb8 HPa_7 Xa_7 hB_7 hs8
  go_wp2_with fail
  refine (crash_any tpd [1] (some ⟨w8.heap.size + 1, 0, none⟩) 1 1 Ad Ad' 3 1 cd cd' _ (HPd.step (by go_grown)) (Row.slr (f := vI) (Blk.new_at (by simp) _ _) (by simp)) (by omega) (by intro x hx; simp at hx; omega)).mono ?_
  rintro e w9 ⟨v, rfl, hO9, hb9⟩
  have hs9 : Below w8.heap.size w8 w9 := Below.trans (by go_grown) (hb9.mono (by first | (simp; done) | (simp; omega)))
  have hB_9 := hB_8.trans (hs9.mono hB_8.size)
  rw [tw9] at hO9 ⊢
  obtain ⟨Ax, cx, Ax', cx', rfl, HPx⟩ := hO9.at_
  clear hO9
  simp only [tpx, List.length_cons, List.length_nil]
  have hz_9 := hs9.size
  clear hb9 HPd hB_8 hs9
  go_wp2_with fail
  refine (get_any tpx 0 Ax Ax' 3 0 cx cx' _ (HPx.step (by go_grown))).mono ?_
  rintro e w10 ⟨rfl, hb10⟩
  have hs10 : Below w9.heap.size w9 w10 := Below.trans (by go_grown) (hb10.mono (by first | (simp; done) | (simp; omega)))
  have hB_10 := hB_9.trans (hs10.mono hB_9.size)
  rw [tw10]
  have hz_10 := hs10.size
  clear hb10 HPx hB_9 hs10
  go_wp2_with fail
  go_ret
  exact ⟨rfl, hB_10⟩
end Go.Proofs.Ytefodifmfjpnlaa
