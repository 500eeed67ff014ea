/- chapter 14, TwinNone: the walk. -/
import Derived.Test.YtefodifmfjpnlaaTwinFar
set_option linter.unusedVariables false
namespace Go.Proofs.Ytefodifmfjpnlaa
open Go.RowKit

set_option maxHeartbeats 600000 in
set_option maxRecDepth 100000 in
theorem none_far (p : Plat) (i : Int) (s : ByteArray) (t : ByteArray) (A A' : Option Addr) (n m c d : Nat) (w : World) (HP : PlatPre w A n A' m p) (hf : farB14 p s = true) :
    Calls Try.prog 11 #[.agg #[.slice A n c, .slice A' m d], .int .i64 i, .string s, .string t] w fun e w' => e = .returned (.bool true) ∧ Below w.heap.size w w' := by
  go_enter Try.func11, Try.ntmps11
  go_wp2_with fail
  refine (far14_any p s A A' n m c d _ (HP.step (by go_grown))).mono ?_
  rintro e w1 ⟨rfl, hb1⟩
  have hs1 : Below w.heap.size w w1 := Below.trans (by go_grown) (hb1.mono (by first | (simp; done) | (simp; omega)))
  have HP_1 := HP.on hs1
  have P_1 := (Blk.new_at (g := w.heap.size) (by simp) _ _).below hb1 (by first | (simp; done) | (simp; omega))
  have hB_1 := hs1
  rw [hf]
  have hz_1 := hs1.size
  clear hb1 HP hs1
  go_wp2_with fail
  go_ret
  exact ⟨rfl, hB_1⟩

set_option maxHeartbeats 600000 in
set_option maxRecDepth 100000 in
theorem none_long (p : Plat) (i : Int) (s : ByteArray) (t : ByteArray) (A A' : Option Addr) (n m c d : Nat) (w : World) (HP : PlatPre w A n A' m p) (hf : farB14 p s = false) (ht : 300 < t.size) :
    Calls Try.prog 11 #[.agg #[.slice A n c, .slice A' m d], .int .i64 i, .string s, .string t] w fun e w' => e = .returned (.bool true) ∧ Below w.heap.size w w' := by
  go_enter Try.func11, Try.ntmps11
  go_wp2_with fail
  refine (far14_any p s A A' n m c d _ (HP.step (by go_grown))).mono ?_
  rintro e w1 ⟨rfl, hb1⟩
  have hs1 : Below w.heap.size w w1 := Below.trans (by go_grown) (hb1.mono (by first | (simp; done) | (simp; omega)))
  have HP_1 := HP.on hs1
  have P_1 := (Blk.new_at (g := w.heap.size) (by simp) _ _).below hb1 (by first | (simp; done) | (simp; omega))
  have hB_1 := hs1
  rw [hf]
  have hz_1 := hs1.size
  clear hb1 HP hs1
  go_wp2_with fail
  go_ret
  exact ⟨rfl, hB_1⟩

set_option maxHeartbeats 600000 in
set_option maxRecDepth 100000 in
theorem none_no (p : Plat) (i : Int) (s : ByteArray) (t : ByteArray) (A A' : Option Addr) (n m c d : Nat) (w : World) (HP : PlatPre w A n A' m p) (hf : farB14 p s = false) (ht : t.size ≤ 300) (x : ByteArray) (ok : Bool) (er : Int) (her : er ≠ 0) (HW : Hid (putF p i s 0 = (noPlat, false, er))) (HG : Hid (getF p i = (x, ok, er))) :
    Calls Try.prog 11 #[.agg #[.slice A n c, .slice A' m d], .int .i64 i, .string s, .string t] w fun e w' => e = .returned (.bool true) ∧ Below w.heap.size w w' := by
  have t1 : (er != 0) = true := by simpa using her
  clear her
  go_enter Try.func11, Try.ntmps11
  go_wp2_with fail
  refine (far14_any p s A A' n m c d _ (HP.step (by go_grown))).mono ?_
  rintro e w1 ⟨rfl, hb1⟩
  have hs1 : Below w.heap.size w w1 := Below.trans (by go_grown) (hb1.mono (by first | (simp; done) | (simp; omega)))
  have HP_1 := HP.on hs1
  have P_1 := (Blk.new_at (g := w.heap.size) (by simp) _ _).below hb1 (by first | (simp; done) | (simp; omega))
  have hB_1 := hs1
  rw [hf]
  have hz_1 := hs1.size
  clear hb1 HP hs1
  have qP_0 := P_1.cells 0 _ rfl
  have qP_1 := P_1.cells 1 _ rfl
  have qlP := P_1.lt
  simp only [List.getElem_toArray, List.getElem_cons_zero, List.getElem_cons_succ] at qP_0 qP_1
  go_wp2_with fail
  refine (put_any p i s 0 A A' n m c d _ (HP_1.step (by go_grown))).mono ?_
  rintro e w2 ⟨v, rfl, hO2, hb2⟩
  clear qlP qP_0 qP_1
  have hs2 : Below w1.heap.size w1 w2 := Below.trans (by go_grown) (hb2.mono (by first | (simp; done) | (simp; omega)))
  have HP_2 := HP_1.on hs2
  have P_2 := P_1.below hs2 P_1.lt
  have hB_2 := hB_1.trans (hs2.mono hB_1.size)
  rw [HW.out] at hO2 ⊢
  dsimp only at hO2 ⊢
  obtain ⟨Aa, ca, Aa', ca', rfl, HPa⟩ := hO2.at_
  clear hO2
  simp only [noPlat, List.length_nil]
  have hz_2 := hs2.size
  clear hb2 HP_1 P_1 hB_1 hs2
  have qP_0 := P_2.cells 0 _ rfl
  have qP_1 := P_2.cells 1 _ rfl
  have qlP := P_2.lt
  simp only [List.getElem_toArray, List.getElem_cons_zero, List.getElem_cons_succ] at qP_0 qP_1
  go_wp2_with fail
  refine (get_any p i A A' n m c d _ (HP_2.step (by go_grown))).mono ?_
  rintro e w3 ⟨rfl, hb3⟩
  clear qlP qP_0 qP_1
  have hs3 : Below w2.heap.size w2 w3 := Below.trans (by go_grown) (hb3.mono (by first | (simp; done) | (simp; omega)))
  have X_3 := (Blk.new_at (g := w2.heap.size) (by simp) _ _).below hb3 (by first | (simp; done) | (simp; omega))
  have hB_3 := hB_2.trans (hs3.mono hB_2.size)
  rw [HG.out]
  try dsimp only
  have hz_3 := hs3.size
  clear hb3 HP_2 P_2 hB_2 hs3
  go_wp2_with fail
  refine (twins_any _).mono ?_
  rintro e w4 ⟨rfl, hb4⟩
  have hs4 : Below w3.heap.size w3 w4 := Below.trans (by go_grown) (hb4.mono (by first | (simp; done) | (simp; omega)))
  have X_4 := X_3.below hs4 X_3.lt
  have hB_4 := hB_3.trans (hs4.mono hB_3.size)
  have hz_4 := hs4.size
  clear hb4 X_3 hB_3 hs4
  have qX_0 := X_4.cells 0 _ rfl
  have qX_1 := X_4.cells 1 _ rfl
  have qlX := X_4.lt
  simp only [List.getElem_toArray, List.getElem_cons_zero, List.getElem_cons_succ] at qX_0 qX_1
  go_wp2_with fail
  go_ret
  exact ⟨rfl, hB_4⟩

set_option maxHeartbeats 600000 in
set_option maxRecDepth 100000 in
theorem none_one (p : Plat) (i : Int) (s : ByteArray) (t : ByteArray) (A A' : Option Addr) (n m c d : Nat) (w : World) (HP : PlatPre w A n A' m p) (hn : p.sectors.length = n) (hm : p.cache.length = m) (hf : farB14 p s = false) (ht : t.size ≤ 300) (hn2 : n ≤ 200) (hm2 : m ≤ 100) (x : ByteArray) (ok : Bool) (HW : Hid (putF p i s 0 = (p, false, 0))) (HG : Hid (getF p i = (x, ok, 0))) (er : Int) (her : er ≠ 0) (HW4 : Hid (putF p i s 4 = (noPlat, false, er))) :
    Calls Try.prog 11 #[.agg #[.slice A n c, .slice A' m d], .int .i64 i, .string s, .string t] w fun e w' => e = .returned (.bool true) ∧ Below w.heap.size w w' := by
  have t1 : (er != 0) = true := by simpa using her
  clear her
  have HNM := Lib.hid (And.intro hn hm)
  clear hn hm
  go_enter Try.func11, Try.ntmps11
  go_wp2_with fail
  refine (far14_any p s A A' n m c d _ (HP.step (by go_grown))).mono ?_
  rintro e w1 ⟨rfl, hb1⟩
  have hs1 : Below w.heap.size w w1 := Below.trans (by go_grown) (hb1.mono (by first | (simp; done) | (simp; omega)))
  have HP_1 := HP.on hs1
  have P_1 := (Blk.new_at (g := w.heap.size) (by simp) _ _).below hb1 (by first | (simp; done) | (simp; omega))
  have hB_1 := hs1
  rw [hf]
  have hz_1 := hs1.size
  clear hb1 HP hs1
  have qP_0 := P_1.cells 0 _ rfl
  have qP_1 := P_1.cells 1 _ rfl
  have qlP := P_1.lt
  simp only [List.getElem_toArray, List.getElem_cons_zero, List.getElem_cons_succ] at qP_0 qP_1
  go_wp2_with fail
  refine (put_any p i s 0 A A' n m c d _ (HP_1.step (by go_grown))).mono ?_
  rintro e w2 ⟨v, rfl, hO2, hb2⟩
  clear qlP qP_0 qP_1
  have hs2 : Below w1.heap.size w1 w2 := Below.trans (by go_grown) (hb2.mono (by first | (simp; done) | (simp; omega)))
  have HP_2 := HP_1.on hs2
  have P_2 := P_1.below hs2 P_1.lt
  have hB_2 := hB_1.trans (hs2.mono hB_1.size)
  rw [HW.out] at hO2 ⊢
  dsimp only at hO2 ⊢
  obtain ⟨Aa, ca, Aa', ca', rfl, HPa⟩ := hO2.at_
  clear hO2
  simp only [HNM.out.1, HNM.out.2]
  rw [HNM.out.1, HNM.out.2] at HPa
  have hz_2 := hs2.size
  clear hb2 HP_1 P_1 hB_1 hs2
  have qP_0 := P_2.cells 0 _ rfl
  have qP_1 := P_2.cells 1 _ rfl
  have qlP := P_2.lt
  simp only [List.getElem_toArray, List.getElem_cons_zero, List.getElem_cons_succ] at qP_0 qP_1
  go_wp2_with fail
  refine (get_any p i A A' n m c d _ (HP_2.step (by go_grown))).mono ?_
  rintro e w3 ⟨rfl, hb3⟩
  clear qlP qP_0 qP_1
  have hs3 : Below w2.heap.size w2 w3 := Below.trans (by go_grown) (hb3.mono (by first | (simp; done) | (simp; omega)))
  have HP_3 := HP_2.on hs3
  have P_3 := P_2.below hs3 P_2.lt
  have HPa_3 := HPa.on hs3
  have X_3 := (Blk.new_at (g := w2.heap.size) (by simp) _ _).below hb3 (by first | (simp; done) | (simp; omega))
  have hB_3 := hB_2.trans (hs3.mono hB_2.size)
  rw [HG.out]
  try dsimp only
  have hz_3 := hs3.size
  clear hb3 HP_2 P_2 HPa hB_2 hs3
  have qP_0 := P_3.cells 0 _ rfl
  have qP_1 := P_3.cells 1 _ rfl
  have qlP := P_3.lt
  simp only [List.getElem_toArray, List.getElem_cons_zero, List.getElem_cons_succ] at qP_0 qP_1
  go_wp2_with fail
  refine (put_any p i s 4 A A' n m c d _ (HP_3.step (by go_grown))).mono ?_
  rintro e w4 ⟨v, rfl, hO4, hb4⟩
  clear qlP qP_0 qP_1
  have hs4 : Below w3.heap.size w3 w4 := Below.trans (by go_grown) (hb4.mono (by first | (simp; done) | (simp; omega)))
  have HP_4 := HP_3.on hs4
  have P_4 := P_3.below hs4 P_3.lt
  have HPa_4 := HPa_3.on hs4
  have X_4 := X_3.below hs4 X_3.lt
  have hB_4 := hB_3.trans (hs4.mono hB_3.size)
  rw [HW4.out] at hO4 ⊢
  dsimp only at hO4 ⊢
  obtain ⟨Ab, cb, Ab', cb', rfl, HPb⟩ := hO4.at_
  clear hO4
  simp only [noPlat, List.length_nil]
  have hz_4 := hs4.size
  clear hb4 HP_3 P_3 HPa_3 X_3 hB_3 hs4
  go_wp2_with fail
  refine (twins_any _).mono ?_
  rintro e w5 ⟨rfl, hb5⟩
  have hs5 : Below w4.heap.size w4 w5 := Below.trans (by go_grown) (hb5.mono (by first | (simp; done) | (simp; omega)))
  have HP_5 := HP_4.on hs5
  have P_5 := P_4.below hs5 P_4.lt
  have HPa_5 := HPa_4.on hs5
  have X_5 := X_4.below hs5 X_4.lt
  have Y_5 := (Blk.new_at (g := w4.heap.size) (by simp) _ _).below hb5 (by first | (simp; done) | (simp; omega))
  have hB_5 := hB_4.trans (hs5.mono hB_4.size)
  have hz_5 := hs5.size
  clear hb5 HP_4 P_4 HPa_4 X_4 hB_4 hs5
  have qX_0 := X_5.cells 0 _ rfl
  have qX_1 := X_5.cells 1 _ rfl
  have qlX := X_5.lt
  have qP_0 := P_5.cells 0 _ rfl
  have qP_1 := P_5.cells 1 _ rfl
  have qlP := P_5.lt
  simp only [List.getElem_toArray, List.getElem_cons_zero, List.getElem_cons_succ] at qX_0 qX_1 qP_0 qP_1
  go_wp2_with fail
  refine (same_any p p Aa Aa' A A' n m ca ca' n m c d _ (HPa_5.step (by go_grown)) (HP_5.step (by go_grown)) (by omega) (by omega)).mono ?_
  rintro e w6 ⟨rfl, hb6⟩
  clear qlX qlP qX_0 qX_1 qP_0 qP_1
  have hs6 : Below w5.heap.size w5 w6 := Below.trans (by go_grown) (hb6.mono (by first | (simp; done) | (simp; omega)))
  have hB_6 := hB_5.trans (hs6.mono hB_5.size)
  rw [samePl_refl]
  have hz_6 := hs6.size
  clear hb6 HP_5 P_5 HPa_5 X_5 Y_5 hB_5 hs6
  go_wp2_with fail
  go_ret
  exact ⟨rfl, hB_6⟩

set_option maxHeartbeats 600000 in
set_option maxRecDepth 100000 in
theorem none_two (p : Plat) (i : Int) (s : ByteArray) (t : ByteArray) (A A' : Option Addr) (n m c d : Nat) (w : World) (HP : PlatPre w A n A' m p) (hn : p.sectors.length = n) (hm : p.cache.length = m) (hf : farB14 p s = false) (ht : t.size ≤ 300) (hn2 : n ≤ 200) (hm2 : m ≤ 100) (x : ByteArray) (ok : Bool) (HW : Hid (putF p i s 0 = (p, false, 0))) (HG : Hid (getF p i = (x, ok, 0))) (b q : Plat) (HW4 : Hid (putF p i s 4 = (b, true, 0))) (HW5 : Hid (putF b i t 4 = (q, true, 0))) (HG5 : Hid (getF q i = (t, true, 0))) :
    Calls Try.prog 11 #[.agg #[.slice A n c, .slice A' m d], .int .i64 i, .string s, .string t] w fun e w' => e = .returned (.bool true) ∧ Below w.heap.size w w' := by
  have HNM := Lib.hid (And.intro hn hm)
  clear hn hm
  go_enter Try.func11, Try.ntmps11
  go_wp2_with fail
  refine (far14_any p s A A' n m c d _ (HP.step (by go_grown))).mono ?_
  rintro e w1 ⟨rfl, hb1⟩
  have hs1 : Below w.heap.size w w1 := Below.trans (by go_grown) (hb1.mono (by first | (simp; done) | (simp; omega)))
  have HP_1 := HP.on hs1
  have P_1 := (Blk.new_at (g := w.heap.size) (by simp) _ _).below hb1 (by first | (simp; done) | (simp; omega))
  have hB_1 := hs1
  rw [hf]
  have hz_1 := hs1.size
  clear hb1 HP hs1
  have qP_0 := P_1.cells 0 _ rfl
  have qP_1 := P_1.cells 1 _ rfl
  have qlP := P_1.lt
  simp only [List.getElem_toArray, List.getElem_cons_zero, List.getElem_cons_succ] at qP_0 qP_1
  go_wp2_with fail
  refine (put_any p i s 0 A A' n m c d _ (HP_1.step (by go_grown))).mono ?_
  rintro e w2 ⟨v, rfl, hO2, hb2⟩
  clear qlP qP_0 qP_1
  have hs2 : Below w1.heap.size w1 w2 := Below.trans (by go_grown) (hb2.mono (by first | (simp; done) | (simp; omega)))
  have HP_2 := HP_1.on hs2
  have P_2 := P_1.below hs2 P_1.lt
  have hB_2 := hB_1.trans (hs2.mono hB_1.size)
  rw [HW.out] at hO2 ⊢
  dsimp only at hO2 ⊢
  obtain ⟨Aa, ca, Aa', ca', rfl, HPa⟩ := hO2.at_
  clear hO2
  simp only [HNM.out.1, HNM.out.2]
  rw [HNM.out.1, HNM.out.2] at HPa
  have hz_2 := hs2.size
  clear hb2 HP_1 P_1 hB_1 hs2
  have qP_0 := P_2.cells 0 _ rfl
  have qP_1 := P_2.cells 1 _ rfl
  have qlP := P_2.lt
  simp only [List.getElem_toArray, List.getElem_cons_zero, List.getElem_cons_succ] at qP_0 qP_1
  go_wp2_with fail
  refine (get_any p i A A' n m c d _ (HP_2.step (by go_grown))).mono ?_
  rintro e w3 ⟨rfl, hb3⟩
  clear qlP qP_0 qP_1
  have hs3 : Below w2.heap.size w2 w3 := Below.trans (by go_grown) (hb3.mono (by first | (simp; done) | (simp; omega)))
  have HP_3 := HP_2.on hs3
  have P_3 := P_2.below hs3 P_2.lt
  have HPa_3 := HPa.on hs3
  have X_3 := (Blk.new_at (g := w2.heap.size) (by simp) _ _).below hb3 (by first | (simp; done) | (simp; omega))
  have hB_3 := hB_2.trans (hs3.mono hB_2.size)
  rw [HG.out]
  try dsimp only
  have hz_3 := hs3.size
  clear hb3 HP_2 P_2 HPa hB_2 hs3
  have qP_0 := P_3.cells 0 _ rfl
  have qP_1 := P_3.cells 1 _ rfl
  have qlP := P_3.lt
  simp only [List.getElem_toArray, List.getElem_cons_zero, List.getElem_cons_succ] at qP_0 qP_1
  go_wp2_with fail
  refine (put_any p i s 4 A A' n m c d _ (HP_3.step (by go_grown))).mono ?_
  rintro e w4 ⟨v, rfl, hO4, hb4⟩
  clear qlP qP_0 qP_1
  have hs4 : Below w3.heap.size w3 w4 := Below.trans (by go_grown) (hb4.mono (by first | (simp; done) | (simp; omega)))
  have HP_4 := HP_3.on hs4
  have P_4 := P_3.below hs4 P_3.lt
  have HPa_4 := HPa_3.on hs4
  have X_4 := X_3.below hs4 X_3.lt
  have hB_4 := hB_3.trans (hs4.mono hB_3.size)
  rw [HW4.out] at hO4 ⊢
  dsimp only at hO4 ⊢
  obtain ⟨Ab, cb, Ab', cb', rfl, HPb⟩ := hO4.at_
  clear hO4
  generalize b.sectors.length = lb at *
  generalize b.cache.length = kb at *
  have hz_4 := hs4.size
  clear hb4 HP_3 P_3 HPa_3 X_3 hB_3 hs4
  go_wp2_with fail
  refine (put_any b i t 4 Ab Ab' lb kb cb cb' _ (HPb.step (by go_grown))).mono ?_
  rintro e w5 ⟨v, rfl, hO5, hb5⟩
  have hs5 : Below w4.heap.size w4 w5 := Below.trans (by go_grown) (hb5.mono (by first | (simp; done) | (simp; omega)))
  have HP_5 := HP_4.on hs5
  have P_5 := P_4.below hs5 P_4.lt
  have HPa_5 := HPa_4.on hs5
  have X_5 := X_4.below hs5 X_4.lt
  have hB_5 := hB_4.trans (hs5.mono hB_4.size)
  rw [HW5.out] at hO5 ⊢
  dsimp only at hO5 ⊢
  obtain ⟨Aq, cq, Aq', cq', rfl, HPq⟩ := hO5.at_
  clear hO5
  generalize q.sectors.length = lq at *
  generalize q.cache.length = kq at *
  have hz_5 := hs5.size
  clear hb5 HP_4 P_4 HPa_4 X_4 HPb hB_4 hs5
  go_wp2_with fail
  refine (get_any q i Aq Aq' lq kq cq cq' _ (HPq.step (by go_grown))).mono ?_
  rintro e w6 ⟨rfl, hb6⟩
  have hs6 : Below w5.heap.size w5 w6 := Below.trans (by go_grown) (hb6.mono (by first | (simp; done) | (simp; omega)))
  have HP_6 := HP_5.on hs6
  have P_6 := P_5.below hs6 P_5.lt
  have HPa_6 := HPa_5.on hs6
  have X_6 := X_5.below hs6 X_5.lt
  have hB_6 := hB_5.trans (hs6.mono hB_5.size)
  rw [HG5.out]
  try dsimp only
  have hz_6 := hs6.size
  clear hb6 HP_5 P_5 HPa_5 X_5 HPq hB_5 hs6
  go_wp2_with fail
  refine (twins_any _).mono ?_
  rintro e w7 ⟨rfl, hb7⟩
  have hs7 : Below w6.heap.size w6 w7 := Below.trans (by go_grown) (hb7.mono (by first | (simp; done) | (simp; omega)))
  have HP_7 := HP_6.on hs7
  have P_7 := P_6.below hs7 P_6.lt
  have HPa_7 := HPa_6.on hs7
  have X_7 := X_6.below hs7 X_6.lt
  have hB_7 := hB_6.trans (hs7.mono hB_6.size)
  have hz_7 := hs7.size
  clear hb7 HP_6 P_6 HPa_6 X_6 hB_6 hs7
  have qX_0 := X_7.cells 0 _ rfl
  have qX_1 := X_7.cells 1 _ rfl
  have qlX := X_7.lt
  have qP_0 := P_7.cells 0 _ rfl
  have qP_1 := P_7.cells 1 _ rfl
  have qlP := P_7.lt
  simp only [List.getElem_toArray, List.getElem_cons_zero, List.getElem_cons_succ] at qX_0 qX_1 qP_0 qP_1
  go_wp2_with fail
  refine (same_any p p Aa Aa' A A' n m ca ca' n m c d _ (HPa_7.step (by go_grown)) (HP_7.step (by go_grown)) (by omega) (by omega)).mono ?_
  rintro e w8 ⟨rfl, hb8⟩
  clear qlX qlP qX_0 qX_1 qP_0 qP_1
  have hs8 : Below w7.heap.size w7 w8 := Below.trans (by go_grown) (hb8.mono (by first | (simp; done) | (simp; omega)))
  have hB_8 := hB_7.trans (hs8.mono hB_7.size)
  rw [samePl_refl]
  have hz_8 := hs8.size
  clear hb8 HP_7 P_7 HPa_7 X_7 hB_7 hs8
  go_wp2_with fail
  go_ret
  exact ⟨rfl, hB_8⟩

set_option maxHeartbeats 600000 in
set_option maxRecDepth 100000 in
theorem none_bad (p : Plat) (i : Int) (s : ByteArray) (t : ByteArray) (A A' : Option Addr) (n m c d : Nat) (w : World) (HP : PlatPre w A n A' m p) (hn : p.sectors.length = n) (hm : p.cache.length = m) (hf : farB14 p s = false) (ht : t.size ≤ 300) (hn2 : n ≤ 200) (hm2 : m ≤ 100) (x : ByteArray) (ok : Bool) (HW : Hid (putF p i s 0 = (p, false, 0))) (HG : Hid (getF p i = (x, ok, 0))) (b q : Plat) (HW4 : Hid (putF p i s 4 = (b, true, 0))) (er : Int) (her : er ≠ 0) (HW5 : Hid (putF b i t 4 = (q, false, er))) (y : ByteArray) (ok2 : Bool) (e2 : Int) (HG5 : Hid (getF q i = (y, ok2, e2))) :
    Calls Try.prog 11 #[.agg #[.slice A n c, .slice A' m d], .int .i64 i, .string s, .string t] w fun e w' => e = .returned (.bool true) ∧ Below w.heap.size w w' := by
  have t1 : (er != 0) = true := by simpa using her
  clear her
  have HNM := Lib.hid (And.intro hn hm)
  clear hn hm
  go_enter Try.func11, Try.ntmps11
  go_wp2_with fail
  refine (far14_any p s A A' n m c d _ (HP.step (by go_grown))).mono ?_
  rintro e w1 ⟨rfl, hb1⟩
  have hs1 : Below w.heap.size w w1 := Below.trans (by go_grown) (hb1.mono (by first | (simp; done) | (simp; omega)))
  have HP_1 := HP.on hs1
  have P_1 := (Blk.new_at (g := w.heap.size) (by simp) _ _).below hb1 (by first | (simp; done) | (simp; omega))
  have hB_1 := hs1
  rw [hf]
  have hz_1 := hs1.size
  clear hb1 HP hs1
  have qP_0 := P_1.cells 0 _ rfl
  have qP_1 := P_1.cells 1 _ rfl
  have qlP := P_1.lt
  simp only [List.getElem_toArray, List.getElem_cons_zero, List.getElem_cons_succ] at qP_0 qP_1
  go_wp2_with fail
  refine (put_any p i s 0 A A' n m c d _ (HP_1.step (by go_grown))).mono ?_
  rintro e w2 ⟨v, rfl, hO2, hb2⟩
  clear qlP qP_0 qP_1
  have hs2 : Below w1.heap.size w1 w2 := Below.trans (by go_grown) (hb2.mono (by first | (simp; done) | (simp; omega)))
  have HP_2 := HP_1.on hs2
  have P_2 := P_1.below hs2 P_1.lt
  have hB_2 := hB_1.trans (hs2.mono hB_1.size)
  rw [HW.out] at hO2 ⊢
  dsimp only at hO2 ⊢
  obtain ⟨Aa, ca, Aa', ca', rfl, HPa⟩ := hO2.at_
  clear hO2
  simp only [HNM.out.1, HNM.out.2]
  rw [HNM.out.1, HNM.out.2] at HPa
  have hz_2 := hs2.size
  clear hb2 HP_1 P_1 hB_1 hs2
  have qP_0 := P_2.cells 0 _ rfl
  have qP_1 := P_2.cells 1 _ rfl
  have qlP := P_2.lt
  simp only [List.getElem_toArray, List.getElem_cons_zero, List.getElem_cons_succ] at qP_0 qP_1
  go_wp2_with fail
  refine (get_any p i A A' n m c d _ (HP_2.step (by go_grown))).mono ?_
  rintro e w3 ⟨rfl, hb3⟩
  clear qlP qP_0 qP_1
  have hs3 : Below w2.heap.size w2 w3 := Below.trans (by go_grown) (hb3.mono (by first | (simp; done) | (simp; omega)))
  have HP_3 := HP_2.on hs3
  have P_3 := P_2.below hs3 P_2.lt
  have HPa_3 := HPa.on hs3
  have X_3 := (Blk.new_at (g := w2.heap.size) (by simp) _ _).below hb3 (by first | (simp; done) | (simp; omega))
  have hB_3 := hB_2.trans (hs3.mono hB_2.size)
  rw [HG.out]
  try dsimp only
  have hz_3 := hs3.size
  clear hb3 HP_2 P_2 HPa hB_2 hs3
  have qP_0 := P_3.cells 0 _ rfl
  have qP_1 := P_3.cells 1 _ rfl
  have qlP := P_3.lt
  simp only [List.getElem_toArray, List.getElem_cons_zero, List.getElem_cons_succ] at qP_0 qP_1
  go_wp2_with fail
  refine (put_any p i s 4 A A' n m c d _ (HP_3.step (by go_grown))).mono ?_
  rintro e w4 ⟨v, rfl, hO4, hb4⟩
  clear qlP qP_0 qP_1
  have hs4 : Below w3.heap.size w3 w4 := Below.trans (by go_grown) (hb4.mono (by first | (simp; done) | (simp; omega)))
  have HP_4 := HP_3.on hs4
  have P_4 := P_3.below hs4 P_3.lt
  have HPa_4 := HPa_3.on hs4
  have X_4 := X_3.below hs4 X_3.lt
  have hB_4 := hB_3.trans (hs4.mono hB_3.size)
  rw [HW4.out] at hO4 ⊢
  dsimp only at hO4 ⊢
  obtain ⟨Ab, cb, Ab', cb', rfl, HPb⟩ := hO4.at_
  clear hO4
  generalize b.sectors.length = lb at *
  generalize b.cache.length = kb at *
  have hz_4 := hs4.size
  clear hb4 HP_3 P_3 HPa_3 X_3 hB_3 hs4
  go_wp2_with fail
  refine (put_any b i t 4 Ab Ab' lb kb cb cb' _ (HPb.step (by go_grown))).mono ?_
  rintro e w5 ⟨v, rfl, hO5, hb5⟩
  have hs5 : Below w4.heap.size w4 w5 := Below.trans (by go_grown) (hb5.mono (by first | (simp; done) | (simp; omega)))
  have HP_5 := HP_4.on hs5
  have P_5 := P_4.below hs5 P_4.lt
  have HPa_5 := HPa_4.on hs5
  have X_5 := X_4.below hs5 X_4.lt
  have hB_5 := hB_4.trans (hs5.mono hB_4.size)
  rw [HW5.out] at hO5 ⊢
  dsimp only at hO5 ⊢
  obtain ⟨Aq, cq, Aq', cq', rfl, HPq⟩ := hO5.at_
  clear hO5
  generalize q.sectors.length = lq at *
  generalize q.cache.length = kq at *
  have hz_5 := hs5.size
  clear hb5 HP_4 P_4 HPa_4 X_4 HPb hB_4 hs5
  go_wp2_with fail
  refine (get_any q i Aq Aq' lq kq cq cq' _ (HPq.step (by go_grown))).mono ?_
  rintro e w6 ⟨rfl, hb6⟩
  have hs6 : Below w5.heap.size w5 w6 := Below.trans (by go_grown) (hb6.mono (by first | (simp; done) | (simp; omega)))
  have HP_6 := HP_5.on hs6
  have P_6 := P_5.below hs6 P_5.lt
  have HPa_6 := HPa_5.on hs6
  have X_6 := X_5.below hs6 X_5.lt
  have hB_6 := hB_5.trans (hs6.mono hB_5.size)
  rw [HG5.out]
  try dsimp only
  have hz_6 := hs6.size
  clear hb6 HP_5 P_5 HPa_5 X_5 HPq hB_5 hs6
  go_wp2_with fail
  refine (twins_any _).mono ?_
  rintro e w7 ⟨rfl, hb7⟩
  have hs7 : Below w6.heap.size w6 w7 := Below.trans (by go_grown) (hb7.mono (by first | (simp; done) | (simp; omega)))
  have HP_7 := HP_6.on hs7
  have P_7 := P_6.below hs7 P_6.lt
  have HPa_7 := HPa_6.on hs7
  have X_7 := X_6.below hs7 X_6.lt
  have hB_7 := hB_6.trans (hs7.mono hB_6.size)
  have hz_7 := hs7.size
  clear hb7 HP_6 P_6 HPa_6 X_6 hB_6 hs7
  have qX_0 := X_7.cells 0 _ rfl
  have qX_1 := X_7.cells 1 _ rfl
  have qlX := X_7.lt
  have qP_0 := P_7.cells 0 _ rfl
  have qP_1 := P_7.cells 1 _ rfl
  have qlP := P_7.lt
  simp only [List.getElem_toArray, List.getElem_cons_zero, List.getElem_cons_succ] at qX_0 qX_1 qP_0 qP_1
  go_wp2_with fail
  refine (same_any p p Aa Aa' A A' n m ca ca' n m c d _ (HPa_7.step (by go_grown)) (HP_7.step (by go_grown)) (by omega) (by omega)).mono ?_
  rintro e w8 ⟨rfl, hb8⟩
  clear qlX qlP qX_0 qX_1 qP_0 qP_1
  have hs8 : Below w7.heap.size w7 w8 := Below.trans (by go_grown) (hb8.mono (by first | (simp; done) | (simp; omega)))
  have hB_8 := hB_7.trans (hs8.mono hB_7.size)
  rw [samePl_refl]
  have hz_8 := hs8.size
  clear hb8 HP_7 P_7 HPa_7 X_7 hB_7 hs8
  go_wp2_with fail
  go_ret
  exact ⟨rfl, hB_8⟩

theorem none_law (p : Plat) (i : Int) (s t : ByteArray) (A A' : Option Addr) (c d : Nat) (w : World) {R : Prop} (h : PlatPre w A p.sectors.length A' p.cache.length p ∧ R) {R' : Prop} (_ : R') :
    Calls Try.prog 11 #[.agg #[.slice A p.sectors.length c, .slice A' p.cache.length d], .int .i64 i, .string s, .string t] w fun e w' => e = .returned (.bool true) ∧ Below w.heap.size w w' := by
  by_cases hf : farB14 p s = true
  · exact none_far p i s t A A' _ _ c d w h.1 hf
  · have hf : farB14 p s = false := by simpa using hf
    by_cases ht : 300 < t.size
    · exact none_long p i s t A A' _ _ c d w h.1 hf ht
    have ht : t.size ≤ 300 := by omega
    by_cases hg : (getF p i).2.2 = 0
    · obtain ⟨hc, _, _, hn2⟩ := read_pos (get_read hg)
      have hm2 := ((checkP_iff p).1 hc).2.2.1
      have hG : getF p i = ((getF p i).1, (getF p i).2.1, 0) := by rw [← hg]
      by_cases he : (putF p i s 4).2.2 = 0
      · obtain ⟨b1, b2, _⟩ := put_back he
        have hW : putF p i s 4 = ((putF p i s 4).1, true, 0) := by rw [← b1, ← he]
        by_cases he2 : (putF (putF p i s 4).1 i t 4).2.2 = 0
        · obtain ⟨d1, d2, _⟩ := put_back he2
          exact none_two p i s t A A' _ _ c d w h.1 rfl rfl hf ht hn2 hm2 _ _ (put_none hg) hG _ _ hW (by rw [Hid, ← d1, ← he2]) d2
        · obtain ⟨e1, e2⟩ := put_err he2
          exact none_bad p i s t A A' _ _ c d w h.1 rfl rfl hf ht hn2 hm2 _ _ (put_none hg) hG _ _ hW _ he2 (by rw [Hid, ← e2]) _ _ _ rfl
      · obtain ⟨e1, e2⟩ := put_err he
        exact none_one p i s t A A' _ _ c d w h.1 rfl rfl hf ht hn2 hm2 _ _ (put_none hg) hG _ he (by rw [Hid, ← e1, ← e2])
    · exact none_no p i s t A A' _ _ c d w h.1 hf ht _ _ _ hg (put_none_bad hg 0) rfl
end Go.Proofs.Ytefodifmfjpnlaa
