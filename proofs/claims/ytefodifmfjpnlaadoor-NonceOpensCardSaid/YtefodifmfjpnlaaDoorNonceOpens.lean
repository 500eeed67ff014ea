/- chapter 15, NonceOpens: the walk. -/
import Derived.Test.YtefodifmfjpnlaaDoorNonT
import Derived.Test.YtefodifmfjpnlaaDoorNonD
import Derived.Test.YtefodifmfjpnlaaDoorPlatM
set_option linter.unusedVariables false
namespace Go.Proofs.YtefodifmfjpnlaaDoor
open Go.RowKit
set_option maxHeartbeats 1000000 in
set_option maxRecDepth 100000 in
theorem opens_far (p : Plat) (i k : Int) (A A' : Option Addr) (n m c d : Nat) (w : World) (hP : PlatAt w w.heap.size A n A' m p) (hb : bigP p = true) :
    Calls Tryd.prog 3 #[.agg #[.slice A n c, .slice A' m d], .int .i64 i, .int .i64 k] w fun e w' => e = .returned (.bool true) ∧ Below w.heap.size w w' := by
  have HP := hP.pre
  clear hP
  go_enter Tryd.func3, Tryd.ntmps3
  go_wp2_with fail
  refine (bigP_any p A A' n m c d _ (HP.step (by go_grown))).mono ?_
  rintro e w1 ⟨rfl, hb1⟩
  have hs1 : Below w.heap.size w w1 := Below.trans (by go_grown) (hb1.mono (by first | (simp; done) | (simp; omega)))
  have HP_1 := HP.on hs1
  have P_1 := (Blk.new_at (g := w.heap.size) (by simp) _ _).below hb1 (by first | (simp; done) | (simp; omega))
  have hB_1 := hs1
  rw [hb]
  have hz_1 := hs1.size
  clear hb1 HP hs1
  go_wp2_with fail
  go_ret
  exact ⟨rfl, hB_1⟩

set_option maxHeartbeats 1000000 in
set_option maxRecDepth 100000 in
theorem opens_in (p : Plat) (i k : Int) (A A' : Option Addr) (n m c d : Nat) (w : World) (hP : PlatAt w w.heap.size A n A' m p) (hn : n ≤ 1000) (hm : m ≤ 1000) (hb : bigP p = false) (hG : Pows w) :
    Calls Tryd.prog 3 #[.agg #[.slice A n c, .slice A' m d], .int .i64 i, .int .i64 k] w fun e w' => e = .returned (.bool true) ∧ Below w.heap.size w w' := by
  have HP := hP.pre
  have HG : HPows w := Lib.hid hG
  clear hP hG
  obtain ⟨sp, sn, sl, er, hO⟩ : ∃ a b c d, openN p i = (⟨a, b, c⟩, d) := ⟨_, _, _, _, rfl⟩
  obtain ⟨T, er2, hF⟩ : ∃ a b, nonF k = (a, b) := ⟨_, _, rfl⟩
  have HO := Lib.hid hO
  have HF := Lib.hid hF
  clear hO hF
  go_enter Tryd.func3, Tryd.ntmps3
  go_wp2_with fail
  refine (bigP_any p A A' n m c d _ (HP.step (by go_grown))).mono ?_
  rintro e w1 ⟨rfl, hb1⟩
  have hs1 : Below w.heap.size w w1 := Below.trans (by go_grown) (hb1.mono (by first | (simp; done) | (simp; omega)))
  have HP_1 := HP.on hs1
  have HG_1 := HG.on hs1
  have P_1 := (Blk.new_at (g := w.heap.size) (by simp) _ _).below hb1 (by first | (simp; done) | (simp; omega))
  have hB_1 := hs1
  rw [hb]
  have hz_1 := hs1.size
  clear hb1 HP HG hs1
  have qP_0 := P_1.cells 0 _ rfl
  have qP_1 := P_1.cells 1 _ rfl
  have qlP := P_1.lt
  simp only [List.getElem_toArray, List.getElem_cons_zero, List.getElem_cons_succ] at qP_0 qP_1
  go_wp2_with fail
  refine (nopen_any p i A A' n m c d _ (HP_1.step (by go_grown))).mono ?_
  rintro e w2 ⟨rfl, hb2⟩
  clear qlP qP_0 qP_1
  have hs2 : Below w1.heap.size w1 w2 := Below.trans (by go_grown) (hb2.mono (by first | (simp; done) | (simp; omega)))
  have HP_2 := HP_1.on hs2
  have HG_2 := HG_1.on hs2
  have P_2 := P_1.below hs2 P_1.lt
  have hB_2 := hB_1.trans (hs2.mono hB_1.size)
  rw [HO.out]
  unfold srcV
  dsimp only
  have hz_2 := hs2.size
  clear hb2 HP_1 HG_1 P_1 hB_1 hs2
  have qP_0 := P_2.cells 0 _ rfl
  have qP_1 := P_2.cells 1 _ rfl
  have qlP := P_2.lt
  simp only [List.getElem_toArray, List.getElem_cons_zero, List.getElem_cons_succ] at qP_0 qP_1
  go_wp2_with fail
  refine (ropen_any p i A A' n m c d _ (HP_2.step (by go_grown)) hn hm).mono ?_
  rintro e w3 ⟨rfl, hb3⟩
  clear qlP qP_0 qP_1
  have hs3 : Below w2.heap.size w2 w3 := Below.trans (by go_grown) (hb3.mono (by first | (simp; done) | (simp; omega)))
  have HP_3 := HP_2.on hs3
  have HG_3 := HG_2.on hs3
  have P_3 := P_2.below hs3 P_2.lt
  have X_3 := (Blk.new_at (g := w2.heap.size) (by simp) _ _).below hb3 (by first | (simp; done) | (simp; omega))
  have hB_3 := hB_2.trans (hs3.mono hB_2.size)
  rw [HO.out]
  unfold srcV
  dsimp only
  have hz_3 := hs3.size
  clear hb3 HP_2 HG_2 P_2 hB_2 hs3
  go_wp2_with fail
  refine (bytes_any k _).mono ?_
  rintro e w4 ⟨rfl, hb4⟩
  have hs4 : Below w3.heap.size w3 w4 := Below.trans (by go_grown) (hb4.mono (by first | (simp; done) | (simp; omega)))
  have HP_4 := HP_3.on hs4
  have HG_4 := HG_3.on hs4
  have P_4 := P_3.below hs4 P_3.lt
  have X_4 := X_3.below hs4 X_3.lt
  have Y_4 := (Blk.new_at (g := w3.heap.size) (by simp) _ _).below hb4 (by first | (simp; done) | (simp; omega))
  have hB_4 := hB_3.trans (hs4.mono hB_3.size)
  rw [HF.out]
  dsimp only
  have hz_4 := hs4.size
  clear hb4 HP_3 HG_3 P_3 X_3 hB_3 hs4
  go_wp2_with fail
  refine (rbytes_any k _).mono ?_
  rintro e w5 ⟨rfl, hb5⟩
  have hs5 : Below w4.heap.size w4 w5 := Below.trans (by go_grown) (hb5.mono (by first | (simp; done) | (simp; omega)))
  have HP_5 := HP_4.on hs5
  have HG_5 := HG_4.on hs5
  have P_5 := P_4.below hs5 P_4.lt
  have X_5 := X_4.below hs5 X_4.lt
  have Y_5 := Y_4.below hs5 Y_4.lt
  have hB_5 := hB_4.trans (hs5.mono hB_4.size)
  rw [HF.out]
  dsimp only
  have hz_5 := hs5.size
  clear hb5 HP_4 HG_4 P_4 X_4 Y_4 hB_4 hs5
  go_wp2_with fail
  refine (ntold_any _ (HG_5.step (by go_grown))).mono ?_
  rintro e w6 ⟨rfl, hb6⟩
  have hs6 : Below w5.heap.size w5 w6 := Below.trans (by go_grown) (hb6.mono (by first | (simp; done) | (simp; omega)))
  have HP_6 := HP_5.on hs6
  have HG_6 := HG_5.on hs6
  have P_6 := P_5.below hs6 P_5.lt
  have X_6 := X_5.below hs6 X_5.lt
  have Y_6 := Y_5.below hs6 Y_5.lt
  have hB_6 := hB_5.trans (hs6.mono hB_5.size)
  have hz_6 := hs6.size
  clear hb6 HP_5 HG_5 P_5 X_5 Y_5 hB_5 hs6
  have qX_0 := X_6.cells 0 _ rfl
  have qX_1 := X_6.cells 1 _ rfl
  have qX_2 := X_6.cells 2 _ rfl
  have qlX := X_6.lt
  have qY_0 := Y_6.cells 0 _ rfl
  have qY_1 := Y_6.cells 1 _ rfl
  have qY_2 := Y_6.cells 2 _ rfl
  have qlY := Y_6.lt
  simp only [List.getElem_toArray, List.getElem_cons_zero, List.getElem_cons_succ] at qX_0 qX_1 qX_2 qY_0 qY_1 qY_2
  go_wp2_with fail
  go_ret
  exact ⟨rfl, hB_6⟩

theorem opens_law (p : Plat) (i k : Int) (A A' : Option Addr) (c d : Nat) (w : World) (hP : PlatAt w w.heap.size A p.sectors.length A' p.cache.length p) (hG : Pows w) :
    Calls Tryd.prog 3 #[.agg #[.slice A p.sectors.length c, .slice A' p.cache.length d], .int .i64 i, .int .i64 k] w fun e w' => e = .returned (.bool true) ∧ Below w.heap.size w w' := by
  by_cases hb : bigP p = true
  · exact opens_far p i k A A' _ _ c d w hP hb
  · have hb : bigP p = false := by simpa using hb
    have hs : p.sectors.length ≤ 300 ∧ p.cache.length ≤ 200 := by
      have h := hb
      simp only [bigP, Bool.or_eq_false_iff, decide_eq_false_iff_not] at h
      omega
    exact opens_in p i k A A' _ _ c d w hP (by omega) (by omega) hb hG
end Go.Proofs.YtefodifmfjpnlaaDoor
