/- chapter 14, TwinBack: the walk. -/
import Derived.Test.YtefodifmfjpnlaaTwinFar
set_option linter.unusedVariables false
namespace Go.Proofs.Ytefodifmfjpnlaa
open Go.RowKit

set_option maxHeartbeats 2000000 in
set_option maxRecDepth 100000 in
theorem back_far (p : Plat) (i : Int) (s : ByteArray) (o : Int) (A A' : Option Addr) (n m c d : Nat) (w : World) (HP : PlatPre w A n A' m p) (hf : farB14 p s = true) :
    Calls Try.prog 8 #[.agg #[.slice A n c, .slice A' m d], .int .i64 i, .string s, .int .i64 o] w fun e w' => e = .returned (.bool true) ∧ Below w.heap.size w w' := by
  go_enter Try.func8, Try.ntmps8
  go_wp2_with fail
  refine (far14_any p s A A' n m c d _ (HP.step (by go_grown))).mono ?_
  rintro e w1 ⟨rfl, hb1⟩
  have hs1 : Below w.heap.size w w1 := Below.trans (by go_grown) (hb1.mono (by first | (simp; done) | (simp; omega)))
  have HP_1 := HP.on hs1
  have P_1 := (Blk.new_at (g := w.heap.size) (by simp) _ _).below hb1 (by first | (simp; done) | (simp; omega))
  have hB_1 := hs1
  rw [hf]
  have hz_1 := hs1.size
  clear hb1 HP hs1
  go_wp2_with fail
  go_ret
  exact ⟨rfl, hB_1⟩

set_option maxHeartbeats 2000000 in
set_option maxRecDepth 100000 in
theorem back_no (p : Plat) (i : Int) (s : ByteArray) (o : Int) (A A' : Option Addr) (n m c d : Nat) (w : World) (HP : PlatPre w A n A' m p) (hf : farB14 p s = false) (er : Int) (her : er ≠ 0) (HW : Hid (putF p i s 4 = (noPlat, false, er))) :
    Calls Try.prog 8 #[.agg #[.slice A n c, .slice A' m d], .int .i64 i, .string s, .int .i64 o] w fun e w' => e = .returned (.bool true) ∧ Below w.heap.size w w' := by
  have t1 : (er != 0) = true := by simpa using her
  clear her
  go_enter Try.func8, Try.ntmps8
  go_wp2_with fail
  refine (far14_any p s A A' n m c d _ (HP.step (by go_grown))).mono ?_
  rintro e w1 ⟨rfl, hb1⟩
  have hs1 : Below w.heap.size w w1 := Below.trans (by go_grown) (hb1.mono (by first | (simp; done) | (simp; omega)))
  have HP_1 := HP.on hs1
  have P_1 := (Blk.new_at (g := w.heap.size) (by simp) _ _).below hb1 (by first | (simp; done) | (simp; omega))
  have hB_1 := hs1
  rw [hf]
  have hz_1 := hs1.size
  clear hb1 HP hs1
  have qP_0 := P_1.cells 0 _ rfl
  have qP_1 := P_1.cells 1 _ rfl
  have qlP := P_1.lt
  simp only [List.getElem_toArray, List.getElem_cons_zero, List.getElem_cons_succ] at qP_0 qP_1
  go_wp2_with fail
  refine (put_any p i s 4 A A' n m c d _ (HP_1.step (by go_grown))).mono ?_
  rintro e w2 ⟨v, rfl, hO2, hb2⟩
  clear qlP qP_0 qP_1
  have hs2 : Below w1.heap.size w1 w2 := Below.trans (by go_grown) (hb2.mono (by first | (simp; done) | (simp; omega)))
  have hB_2 := hB_1.trans (hs2.mono hB_1.size)
  rw [HW.out] at hO2 ⊢
  dsimp only at hO2 ⊢
  obtain ⟨Aa, ca, Aa', ca', rfl, HPa⟩ := hO2.at_
  clear hO2
  simp only [noPlat, List.length_nil]
  have hz_2 := hs2.size
  clear hb2 HP_1 P_1 hB_1 hs2
  go_wp2_with fail
  refine (twins_any _).mono ?_
  rintro e w3 ⟨rfl, hb3⟩
  have hs3 : Below w2.heap.size w2 w3 := Below.trans (by go_grown) (hb3.mono (by first | (simp; done) | (simp; omega)))
  have X_3 := (Blk.new_at (g := w2.heap.size) (by simp) _ _).below hb3 (by first | (simp; done) | (simp; omega))
  have hB_3 := hB_2.trans (hs3.mono hB_2.size)
  have hz_3 := hs3.size
  clear hb3 hB_2 hs3
  have qX_0 := X_3.cells 0 _ rfl
  have qX_1 := X_3.cells 1 _ rfl
  have qlX := X_3.lt
  simp only [List.getElem_toArray, List.getElem_cons_zero, List.getElem_cons_succ] at qX_0 qX_1
  go_wp2_with fail
  go_ret
  exact ⟨rfl, hB_3⟩

set_option maxHeartbeats 2000000 in
set_option maxRecDepth 100000 in
theorem back_in (p : Plat) (i : Int) (s : ByteArray) (o : Int) (A A' : Option Addr) (n m c d : Nat) (w : World) (HP : PlatPre w A n A' m p) (hf : farB14 p s = false) (q : Plat) (hi0 : 0 ≤ i) (hi1 : i < 200) (hn : n ≤ 200) (HW : Hid (putF p i s 4 = (q, true, 0))) (HG : Hid (getF q i = (s, true, 0))) (ho : o < 0 ∨ (0 ≤ o ∧ (n : Int) ≤ o) ∨ (0 ≤ o ∧ o < n ∧ i ≤ o ∧ o ≤ i + 2)) :
    Calls Try.prog 8 #[.agg #[.slice A n c, .slice A' m d], .int .i64 i, .string s, .int .i64 o] w fun e w' => e = .returned (.bool true) ∧ Below w.heap.size w w' := by
  rcases ho with ho | ⟨h0, ho⟩ | ⟨h0, h1, h2, h3⟩
  · go_enter Try.func8, Try.ntmps8
    go_wp2_with fail
    refine (far14_any p s A A' n m c d _ (HP.step (by go_grown))).mono ?_
    rintro e w1 ⟨rfl, hb1⟩
    have hs1 : Below w.heap.size w w1 := Below.trans (by go_grown) (hb1.mono (by first | (simp; done) | (simp; omega)))
    have HP_1 := HP.on hs1
    have P_1 := (Blk.new_at (g := w.heap.size) (by simp) _ _).below hb1 (by first | (simp; done) | (simp; omega))
    have hB_1 := hs1
    rw [hf]
    have hz_1 := hs1.size
    clear hb1 HP hs1
    have qP_0 := P_1.cells 0 _ rfl
    have qP_1 := P_1.cells 1 _ rfl
    have qlP := P_1.lt
    simp only [List.getElem_toArray, List.getElem_cons_zero, List.getElem_cons_succ] at qP_0 qP_1
    go_wp2_with fail
    refine (put_any p i s 4 A A' n m c d _ (HP_1.step (by go_grown))).mono ?_
    rintro e w2 ⟨v, rfl, hO2, hb2⟩
    clear qlP qP_0 qP_1
    have hs2 : Below w1.heap.size w1 w2 := Below.trans (by go_grown) (hb2.mono (by first | (simp; done) | (simp; omega)))
    have HP_2 := HP_1.on hs2
    have P_2 := P_1.below hs2 P_1.lt
    have hB_2 := hB_1.trans (hs2.mono hB_1.size)
    rw [HW.out] at hO2 ⊢
    dsimp only at hO2 ⊢
    obtain ⟨Aa, ca, Aa', ca', rfl, HPa⟩ := hO2.at_
    clear hO2
    generalize q.sectors.length = la at *
    generalize q.cache.length = ka at *
    have hz_2 := hs2.size
    clear hb2 HP_1 P_1 hB_1 hs2
    go_wp2_with fail
    refine (get_any q i Aa Aa' la ka ca ca' _ (HPa.step (by go_grown))).mono ?_
    rintro e w3 ⟨rfl, hb3⟩
    have hs3 : Below w2.heap.size w2 w3 := Below.trans (by go_grown) (hb3.mono (by first | (simp; done) | (simp; omega)))
    have HP_3 := HP_2.on hs3
    have P_3 := P_2.below hs3 P_2.lt
    have HPa_3 := HPa.on hs3
    have X_3 := (Blk.new_at (g := w2.heap.size) (by simp) _ _).below hb3 (by first | (simp; done) | (simp; omega))
    have hB_3 := hB_2.trans (hs3.mono hB_2.size)
    rw [HG.out]
    try dsimp only
    have hz_3 := hs3.size
    clear hb3 HP_2 P_2 HPa hB_2 hs3
    have qP_0 := P_3.cells 0 _ rfl
    have qP_1 := P_3.cells 1 _ rfl
    have qlP := P_3.lt
    simp only [List.getElem_toArray, List.getElem_cons_zero, List.getElem_cons_succ] at qP_0 qP_1
    go_wp2_with fail
    refine (twins_any _).mono ?_
    rintro e w4 ⟨rfl, hb4⟩
    clear qlP qP_0 qP_1
    have hs4 : Below w3.heap.size w3 w4 := Below.trans (by go_grown) (hb4.mono (by first | (simp; done) | (simp; omega)))
    have hB_4 := hB_3.trans (hs4.mono hB_3.size)
    have hz_4 := hs4.size
    clear hb4 HP_3 P_3 HPa_3 X_3 hB_3 hs4
    go_wp2_with fail
    go_ret
    exact ⟨rfl, hB_4⟩
  · go_enter Try.func8, Try.ntmps8
    go_wp2_with fail
    refine (far14_any p s A A' n m c d _ (HP.step (by go_grown))).mono ?_
    rintro e w1 ⟨rfl, hb1⟩
    have hs1 : Below w.heap.size w w1 := Below.trans (by go_grown) (hb1.mono (by first | (simp; done) | (simp; omega)))
    have HP_1 := HP.on hs1
    have P_1 := (Blk.new_at (g := w.heap.size) (by simp) _ _).below hb1 (by first | (simp; done) | (simp; omega))
    have hB_1 := hs1
    rw [hf]
    have hz_1 := hs1.size
    clear hb1 HP hs1
    have qP_0 := P_1.cells 0 _ rfl
    have qP_1 := P_1.cells 1 _ rfl
    have qlP := P_1.lt
    simp only [List.getElem_toArray, List.getElem_cons_zero, List.getElem_cons_succ] at qP_0 qP_1
    go_wp2_with fail
    refine (put_any p i s 4 A A' n m c d _ (HP_1.step (by go_grown))).mono ?_
    rintro e w2 ⟨v, rfl, hO2, hb2⟩
    clear qlP qP_0 qP_1
    have hs2 : Below w1.heap.size w1 w2 := Below.trans (by go_grown) (hb2.mono (by first | (simp; done) | (simp; omega)))
    have HP_2 := HP_1.on hs2
    have P_2 := P_1.below hs2 P_1.lt
    have hB_2 := hB_1.trans (hs2.mono hB_1.size)
    rw [HW.out] at hO2 ⊢
    dsimp only at hO2 ⊢
    obtain ⟨Aa, ca, Aa', ca', rfl, HPa⟩ := hO2.at_
    clear hO2
    generalize q.sectors.length = la at *
    generalize q.cache.length = ka at *
    have hz_2 := hs2.size
    clear hb2 HP_1 P_1 hB_1 hs2
    go_wp2_with fail
    refine (get_any q i Aa Aa' la ka ca ca' _ (HPa.step (by go_grown))).mono ?_
    rintro e w3 ⟨rfl, hb3⟩
    have hs3 : Below w2.heap.size w2 w3 := Below.trans (by go_grown) (hb3.mono (by first | (simp; done) | (simp; omega)))
    have HP_3 := HP_2.on hs3
    have P_3 := P_2.below hs3 P_2.lt
    have HPa_3 := HPa.on hs3
    have X_3 := (Blk.new_at (g := w2.heap.size) (by simp) _ _).below hb3 (by first | (simp; done) | (simp; omega))
    have hB_3 := hB_2.trans (hs3.mono hB_2.size)
    rw [HG.out]
    try dsimp only
    have hz_3 := hs3.size
    clear hb3 HP_2 P_2 HPa hB_2 hs3
    have qP_0 := P_3.cells 0 _ rfl
    have qP_1 := P_3.cells 1 _ rfl
    have qlP := P_3.lt
    simp only [List.getElem_toArray, List.getElem_cons_zero, List.getElem_cons_succ] at qP_0 qP_1
    go_wp2_with fail
    refine (twins_any _).mono ?_
    rintro e w4 ⟨rfl, hb4⟩
    clear qlP qP_0 qP_1
    have hs4 : Below w3.heap.size w3 w4 := Below.trans (by go_grown) (hb4.mono (by first | (simp; done) | (simp; omega)))
    have hB_4 := hB_3.trans (hs4.mono hB_3.size)
    have hz_4 := hs4.size
    clear hb4 HP_3 P_3 HPa_3 X_3 hB_3 hs4
    go_wp2_with fail
    go_ret
    exact ⟨rfl, hB_4⟩
  · go_enter Try.func8, Try.ntmps8
    go_wp2_with fail
    refine (far14_any p s A A' n m c d _ (HP.step (by go_grown))).mono ?_
    rintro e w1 ⟨rfl, hb1⟩
    have hs1 : Below w.heap.size w w1 := Below.trans (by go_grown) (hb1.mono (by first | (simp; done) | (simp; omega)))
    have HP_1 := HP.on hs1
    have P_1 := (Blk.new_at (g := w.heap.size) (by simp) _ _).below hb1 (by first | (simp; done) | (simp; omega))
    have hB_1 := hs1
    rw [hf]
    have hz_1 := hs1.size
    clear hb1 HP hs1
    have qP_0 := P_1.cells 0 _ rfl
    have qP_1 := P_1.cells 1 _ rfl
    have qlP := P_1.lt
    simp only [List.getElem_toArray, List.getElem_cons_zero, List.getElem_cons_succ] at qP_0 qP_1
    go_wp2_with fail
    refine (put_any p i s 4 A A' n m c d _ (HP_1.step (by go_grown))).mono ?_
    rintro e w2 ⟨v, rfl, hO2, hb2⟩
    clear qlP qP_0 qP_1
    have hs2 : Below w1.heap.size w1 w2 := Below.trans (by go_grown) (hb2.mono (by first | (simp; done) | (simp; omega)))
    have HP_2 := HP_1.on hs2
    have P_2 := P_1.below hs2 P_1.lt
    have hB_2 := hB_1.trans (hs2.mono hB_1.size)
    rw [HW.out] at hO2 ⊢
    dsimp only at hO2 ⊢
    obtain ⟨Aa, ca, Aa', ca', rfl, HPa⟩ := hO2.at_
    clear hO2
    generalize q.sectors.length = la at *
    generalize q.cache.length = ka at *
    have hz_2 := hs2.size
    clear hb2 HP_1 P_1 hB_1 hs2
    go_wp2_with fail
    refine (get_any q i Aa Aa' la ka ca ca' _ (HPa.step (by go_grown))).mono ?_
    rintro e w3 ⟨rfl, hb3⟩
    have hs3 : Below w2.heap.size w2 w3 := Below.trans (by go_grown) (hb3.mono (by first | (simp; done) | (simp; omega)))
    have HP_3 := HP_2.on hs3
    have P_3 := P_2.below hs3 P_2.lt
    have HPa_3 := HPa.on hs3
    have X_3 := (Blk.new_at (g := w2.heap.size) (by simp) _ _).below hb3 (by first | (simp; done) | (simp; omega))
    have hB_3 := hB_2.trans (hs3.mono hB_2.size)
    rw [HG.out]
    try dsimp only
    have hz_3 := hs3.size
    clear hb3 HP_2 P_2 HPa hB_2 hs3
    have qP_0 := P_3.cells 0 _ rfl
    have qP_1 := P_3.cells 1 _ rfl
    have qlP := P_3.lt
    simp only [List.getElem_toArray, List.getElem_cons_zero, List.getElem_cons_succ] at qP_0 qP_1
    go_wp2_with fail
    refine (twins_any _).mono ?_
    rintro e w4 ⟨rfl, hb4⟩
    clear qlP qP_0 qP_1
    have hs4 : Below w3.heap.size w3 w4 := Below.trans (by go_grown) (hb4.mono (by first | (simp; done) | (simp; omega)))
    have hB_4 := hB_3.trans (hs4.mono hB_3.size)
    have hz_4 := hs4.size
    clear hb4 HP_3 P_3 HPa_3 X_3 hB_3 hs4
    go_wp2_with fail
    go_ret
    exact ⟨rfl, hB_4⟩

set_option maxHeartbeats 2000000 in
set_option maxRecDepth 100000 in
theorem back_out (p : Plat) (i : Int) (s : ByteArray) (o : Int) (A A' : Option Addr) (n m c d : Nat) (w : World) (HP : PlatPre w A n A' m p) (hf : farB14 p s = false) (q : Plat) (hi0 : 0 ≤ i) (hi1 : i < 200) (hn : n ≤ 200) (HW : Hid (putF p i s 4 = (q, true, 0))) (HG : Hid (getF q i = (s, true, 0))) (h0 : 0 ≤ o) (h1 : o < n) (h2 : o < i ∨ i + 2 < o) (x : ByteArray) (HX : Hid (readF p o = (x, 0))) (HY : Hid (readF q o = (x, 0))) :
    Calls Try.prog 8 #[.agg #[.slice A n c, .slice A' m d], .int .i64 i, .string s, .int .i64 o] w fun e w' => e = .returned (.bool true) ∧ Below w.heap.size w w' := by
  rcases h2 with h2 | h2
  · go_enter Try.func8, Try.ntmps8
    go_wp2_with fail
    refine (far14_any p s A A' n m c d _ (HP.step (by go_grown))).mono ?_
    rintro e w1 ⟨rfl, hb1⟩
    have hs1 : Below w.heap.size w w1 := Below.trans (by go_grown) (hb1.mono (by first | (simp; done) | (simp; omega)))
    have HP_1 := HP.on hs1
    have P_1 := (Blk.new_at (g := w.heap.size) (by simp) _ _).below hb1 (by first | (simp; done) | (simp; omega))
    have hB_1 := hs1
    rw [hf]
    have hz_1 := hs1.size
    clear hb1 HP hs1
    have qP_0 := P_1.cells 0 _ rfl
    have qP_1 := P_1.cells 1 _ rfl
    have qlP := P_1.lt
    simp only [List.getElem_toArray, List.getElem_cons_zero, List.getElem_cons_succ] at qP_0 qP_1
    go_wp2_with fail
    refine (put_any p i s 4 A A' n m c d _ (HP_1.step (by go_grown))).mono ?_
    rintro e w2 ⟨v, rfl, hO2, hb2⟩
    clear qlP qP_0 qP_1
    have hs2 : Below w1.heap.size w1 w2 := Below.trans (by go_grown) (hb2.mono (by first | (simp; done) | (simp; omega)))
    have HP_2 := HP_1.on hs2
    have P_2 := P_1.below hs2 P_1.lt
    have hB_2 := hB_1.trans (hs2.mono hB_1.size)
    rw [HW.out] at hO2 ⊢
    dsimp only at hO2 ⊢
    obtain ⟨Aa, ca, Aa', ca', rfl, HPa⟩ := hO2.at_
    clear hO2
    generalize q.sectors.length = la at *
    generalize q.cache.length = ka at *
    have hz_2 := hs2.size
    clear hb2 HP_1 P_1 hB_1 hs2
    go_wp2_with fail
    refine (get_any q i Aa Aa' la ka ca ca' _ (HPa.step (by go_grown))).mono ?_
    rintro e w3 ⟨rfl, hb3⟩
    have hs3 : Below w2.heap.size w2 w3 := Below.trans (by go_grown) (hb3.mono (by first | (simp; done) | (simp; omega)))
    have HP_3 := HP_2.on hs3
    have P_3 := P_2.below hs3 P_2.lt
    have HPa_3 := HPa.on hs3
    have X_3 := (Blk.new_at (g := w2.heap.size) (by simp) _ _).below hb3 (by first | (simp; done) | (simp; omega))
    have hB_3 := hB_2.trans (hs3.mono hB_2.size)
    rw [HG.out]
    try dsimp only
    have hz_3 := hs3.size
    clear hb3 HP_2 P_2 HPa hB_2 hs3
    have qP_0 := P_3.cells 0 _ rfl
    have qP_1 := P_3.cells 1 _ rfl
    have qlP := P_3.lt
    simp only [List.getElem_toArray, List.getElem_cons_zero, List.getElem_cons_succ] at qP_0 qP_1
    go_wp2_with fail
    refine (read_any p o A A' n m c d _ (HP_3.step (by go_grown))).mono ?_
    rintro e w4 ⟨rfl, hb4⟩
    clear qlP qP_0 qP_1
    have hs4 : Below w3.heap.size w3 w4 := Below.trans (by go_grown) (hb4.mono (by first | (simp; done) | (simp; omega)))
    have HP_4 := HP_3.on hs4
    have P_4 := P_3.below hs4 P_3.lt
    have HPa_4 := HPa_3.on hs4
    have X_4 := X_3.below hs4 X_3.lt
    have hB_4 := hB_3.trans (hs4.mono hB_3.size)
    rw [HX.out]
    try dsimp only
    have hz_4 := hs4.size
    clear hb4 HP_3 P_3 HPa_3 X_3 hB_3 hs4
    have qX_0 := X_4.cells 0 _ rfl
    have qX_1 := X_4.cells 1 _ rfl
    have qlX := X_4.lt
    simp only [List.getElem_toArray, List.getElem_cons_zero, List.getElem_cons_succ] at qX_0 qX_1
    go_wp2_with fail
    refine (read_any q o Aa Aa' la ka ca ca' _ (HPa_4.step (by go_grown))).mono ?_
    rintro e w5 ⟨rfl, hb5⟩
    clear qlX qX_0 qX_1
    have hs5 : Below w4.heap.size w4 w5 := Below.trans (by go_grown) (hb5.mono (by first | (simp; done) | (simp; omega)))
    have hB_5 := hB_4.trans (hs5.mono hB_4.size)
    rw [HY.out]
    try dsimp only
    have hz_5 := hs5.size
    clear hb5 HP_4 P_4 HPa_4 X_4 hB_4 hs5
    go_wp2_with fail
    refine (twins_any _).mono ?_
    rintro e w6 ⟨rfl, hb6⟩
    have hs6 : Below w5.heap.size w5 w6 := Below.trans (by go_grown) (hb6.mono (by first | (simp; done) | (simp; omega)))
    have hB_6 := hB_5.trans (hs6.mono hB_5.size)
    have hz_6 := hs6.size
    clear hb6 hB_5 hs6
    go_wp2_with fail
    go_ret
    exact ⟨rfl, hB_6⟩
  · go_enter Try.func8, Try.ntmps8
    go_wp2_with fail
    refine (far14_any p s A A' n m c d _ (HP.step (by go_grown))).mono ?_
    rintro e w1 ⟨rfl, hb1⟩
    have hs1 : Below w.heap.size w w1 := Below.trans (by go_grown) (hb1.mono (by first | (simp; done) | (simp; omega)))
    have HP_1 := HP.on hs1
    have P_1 := (Blk.new_at (g := w.heap.size) (by simp) _ _).below hb1 (by first | (simp; done) | (simp; omega))
    have hB_1 := hs1
    rw [hf]
    have hz_1 := hs1.size
    clear hb1 HP hs1
    have qP_0 := P_1.cells 0 _ rfl
    have qP_1 := P_1.cells 1 _ rfl
    have qlP := P_1.lt
    simp only [List.getElem_toArray, List.getElem_cons_zero, List.getElem_cons_succ] at qP_0 qP_1
    go_wp2_with fail
    refine (put_any p i s 4 A A' n m c d _ (HP_1.step (by go_grown))).mono ?_
    rintro e w2 ⟨v, rfl, hO2, hb2⟩
    clear qlP qP_0 qP_1
    have hs2 : Below w1.heap.size w1 w2 := Below.trans (by go_grown) (hb2.mono (by first | (simp; done) | (simp; omega)))
    have HP_2 := HP_1.on hs2
    have P_2 := P_1.below hs2 P_1.lt
    have hB_2 := hB_1.trans (hs2.mono hB_1.size)
    rw [HW.out] at hO2 ⊢
    dsimp only at hO2 ⊢
    obtain ⟨Aa, ca, Aa', ca', rfl, HPa⟩ := hO2.at_
    clear hO2
    generalize q.sectors.length = la at *
    generalize q.cache.length = ka at *
    have hz_2 := hs2.size
    clear hb2 HP_1 P_1 hB_1 hs2
    go_wp2_with fail
    refine (get_any q i Aa Aa' la ka ca ca' _ (HPa.step (by go_grown))).mono ?_
    rintro e w3 ⟨rfl, hb3⟩
    have hs3 : Below w2.heap.size w2 w3 := Below.trans (by go_grown) (hb3.mono (by first | (simp; done) | (simp; omega)))
    have HP_3 := HP_2.on hs3
    have P_3 := P_2.below hs3 P_2.lt
    have HPa_3 := HPa.on hs3
    have X_3 := (Blk.new_at (g := w2.heap.size) (by simp) _ _).below hb3 (by first | (simp; done) | (simp; omega))
    have hB_3 := hB_2.trans (hs3.mono hB_2.size)
    rw [HG.out]
    try dsimp only
    have hz_3 := hs3.size
    clear hb3 HP_2 P_2 HPa hB_2 hs3
    have qP_0 := P_3.cells 0 _ rfl
    have qP_1 := P_3.cells 1 _ rfl
    have qlP := P_3.lt
    simp only [List.getElem_toArray, List.getElem_cons_zero, List.getElem_cons_succ] at qP_0 qP_1
    go_wp2_with fail
    refine (read_any p o A A' n m c d _ (HP_3.step (by go_grown))).mono ?_
    rintro e w4 ⟨rfl, hb4⟩
    clear qlP qP_0 qP_1
    have hs4 : Below w3.heap.size w3 w4 := Below.trans (by go_grown) (hb4.mono (by first | (simp; done) | (simp; omega)))
    have HP_4 := HP_3.on hs4
    have P_4 := P_3.below hs4 P_3.lt
    have HPa_4 := HPa_3.on hs4
    have X_4 := X_3.below hs4 X_3.lt
    have hB_4 := hB_3.trans (hs4.mono hB_3.size)
    rw [HX.out]
    try dsimp only
    have hz_4 := hs4.size
    clear hb4 HP_3 P_3 HPa_3 X_3 hB_3 hs4
    have qX_0 := X_4.cells 0 _ rfl
    have qX_1 := X_4.cells 1 _ rfl
    have qlX := X_4.lt
    simp only [List.getElem_toArray, List.getElem_cons_zero, List.getElem_cons_succ] at qX_0 qX_1
    go_wp2_with fail
    refine (read_any q o Aa Aa' la ka ca ca' _ (HPa_4.step (by go_grown))).mono ?_
    rintro e w5 ⟨rfl, hb5⟩
    clear qlX qX_0 qX_1
    have hs5 : Below w4.heap.size w4 w5 := Below.trans (by go_grown) (hb5.mono (by first | (simp; done) | (simp; omega)))
    have hB_5 := hB_4.trans (hs5.mono hB_4.size)
    rw [HY.out]
    try dsimp only
    have hz_5 := hs5.size
    clear hb5 HP_4 P_4 HPa_4 X_4 hB_4 hs5
    go_wp2_with fail
    refine (twins_any _).mono ?_
    rintro e w6 ⟨rfl, hb6⟩
    have hs6 : Below w5.heap.size w5 w6 := Below.trans (by go_grown) (hb6.mono (by first | (simp; done) | (simp; omega)))
    have hB_6 := hB_5.trans (hs6.mono hB_5.size)
    have hz_6 := hs6.size
    clear hb6 hB_5 hs6
    go_wp2_with fail
    go_ret
    exact ⟨rfl, hB_6⟩

theorem back_law (p : Plat) (i o : Int) (s : ByteArray) (A A' : Option Addr) (c d : Nat) (w : World) {R : Prop} (h : PlatPre w A p.sectors.length A' p.cache.length p ∧ R) {R' : Prop} (_ : R') :
    Calls Try.prog 8 #[.agg #[.slice A p.sectors.length c, .slice A' p.cache.length d], .int .i64 i, .string s, .int .i64 o] w fun e w' => e = .returned (.bool true) ∧ Below w.heap.size w w' := by
  by_cases hf : farB14 p s = true
  · exact back_far p i s o A A' _ _ c d w h.1 hf
  · have hf : farB14 p s = false := by simpa using hf
    by_cases he : (putF p i s 4).2.2 = 0
    · obtain ⟨b1, b2, b3⟩ := put_back he
      have hg := put_get he
      have hr := get_read hg
      obtain ⟨hc, hi0, hi1, hn⟩ := read_pos hr
      have hW : putF p i s 4 = ((putF p i s 4).1, true, 0) := by rw [← b1, ← he]
      by_cases ho : o < 0 ∨ (p.sectors.length : Int) ≤ o ∨ (i ≤ o ∧ o ≤ i + 2)
      · exact back_in p i s o A A' _ _ c d w h.1 hf _ hi0 (by omega) hn hW b2 (by omega)
      · have hro : (readF p o).2 = 0 := by
          rw [readF_ok hc, if_pos ((hasB_iff _ _).2 ⟨by omega, by omega⟩)]
        have hX : readF p o = ((readF p o).1, 0) := by rw [← hro]
        exact back_out p i s o A A' _ _ c d w h.1 hf _ hi0 (by omega) hn hW b2 (by omega) (by omega) (by omega) _ hX (by rw [Hid, b3 o (by omega) (by omega) (by omega)]; exact hX)
    · obtain ⟨e1, e2⟩ := put_err he
      exact back_no p i s o A A' _ _ c d w h.1 hf _ he (by rw [Hid, ← e1, ← e2])
end Go.Proofs.Ytefodifmfjpnlaa
