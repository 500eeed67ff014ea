/- chapter 14, TwinCrash: the walk. -/
import Derived.Test.YtefodifmfjpnlaaTwinR
set_option linter.unusedVariables false
namespace Go.Proofs.Ytefodifmfjpnlaa
open Go.RowKit

set_option maxHeartbeats 600000 in
set_option maxRecDepth 100000 in
theorem tcrash_far (p : Plat) (i : Int) (s : ByteArray) (most : Int) (F : List Int) (A A' AF : Option Addr) (n m c d nF cF : Nat) (w : World) (HP : PlatPre w A n A' m p) (HS : Hid (∀ W, Below w.heap.size w W → SlR encI 1 W W.heap.size AF nF F)) (hnF : nF ≤ 140737488355328) (HF : Hid (∀ x ∈ F, x ≤ 9223372036854775807)) (hf : farB14 p s = true) :
    Calls Try.prog 9 #[.agg #[.slice A n c, .slice A' m d], .int .i64 i, .string s, .int .i64 most, .slice AF nF cF] w fun e w' => e = .returned (.bool true) ∧ Below w.heap.size w w' := by
  go_enter Try.func9, Try.ntmps9
  go_wp2_with fail
  refine (far14_any p s A A' n m c d _ (HP.step (by go_grown))).mono ?_
  rintro e w1 ⟨rfl, hb1⟩
  have hs1 : Below w.heap.size w w1 := Below.trans (by go_grown) (hb1.mono (by first | (simp; done) | (simp; omega)))
  have HP_1 := HP.on hs1
  have P_1 := (Blk.new_at (g := w.heap.size) (by simp) _ _).below hb1 (by first | (simp; done) | (simp; omega))
  have hB_1 := hs1
  rw [hf]
  have hz_1 := hs1.size
  clear hb1 HP hs1
  go_wp2_with fail
  go_ret
  exact ⟨rfl, hB_1⟩

set_option maxHeartbeats 600000 in
set_option maxRecDepth 100000 in
theorem tcrash_wet (p : Plat) (i : Int) (s : ByteArray) (most : Int) (F : List Int) (A A' AF : Option Addr) (n m c d nF cF : Nat) (w : World) (HP : PlatPre w A n A' m p) (HS : Hid (∀ W, Below w.heap.size w W → SlR encI 1 W W.heap.size AF nF F)) (hnF : nF ≤ 140737488355328) (HF : Hid (∀ x ∈ F, x ≤ 9223372036854775807)) (hf : farB14 p s = false) (hm : 0 < m) :
    Calls Try.prog 9 #[.agg #[.slice A n c, .slice A' m d], .int .i64 i, .string s, .int .i64 most, .slice AF nF cF] w fun e w' => e = .returned (.bool true) ∧ Below w.heap.size w w' := by
  go_enter Try.func9, Try.ntmps9
  go_wp2_with fail
  refine (far14_any p s A A' n m c d _ (HP.step (by go_grown))).mono ?_
  rintro e w1 ⟨rfl, hb1⟩
  have hs1 : Below w.heap.size w w1 := Below.trans (by go_grown) (hb1.mono (by first | (simp; done) | (simp; omega)))
  have HP_1 := HP.on hs1
  have P_1 := (Blk.new_at (g := w.heap.size) (by simp) _ _).below hb1 (by first | (simp; done) | (simp; omega))
  have hB_1 := hs1
  rw [hf]
  have hz_1 := hs1.size
  clear hb1 HP hs1
  have qP_0 := P_1.cells 0 _ rfl
  have qP_1 := P_1.cells 1 _ rfl
  have qlP := P_1.lt
  simp only [List.getElem_toArray, List.getElem_cons_zero, List.getElem_cons_succ] at qP_0 qP_1
  go_wp2_with fail
  go_ret
  exact ⟨rfl, hB_1⟩

set_option maxHeartbeats 600000 in
set_option maxRecDepth 100000 in
theorem tcrash_long (p : Plat) (i : Int) (s : ByteArray) (most : Int) (F : List Int) (A A' AF : Option Addr) (n m c d nF cF : Nat) (w : World) (HP : PlatPre w A n A' m p) (HS : Hid (∀ W, Below w.heap.size w W → SlR encI 1 W W.heap.size AF nF F)) (hnF : nF ≤ 140737488355328) (HF : Hid (∀ x ∈ F, x ≤ 9223372036854775807)) (hf : farB14 p s = false) (hm : m = 0) (hnF3 : 300 < nF) :
    Calls Try.prog 9 #[.agg #[.slice A n c, .slice A' m d], .int .i64 i, .string s, .int .i64 most, .slice AF nF cF] w fun e w' => e = .returned (.bool true) ∧ Below w.heap.size w w' := by
  subst hm
  go_enter Try.func9, Try.ntmps9
  go_wp2_with fail
  refine (far14_any p s A A' n 0 c d _ (HP.step (by go_grown))).mono ?_
  rintro e w1 ⟨rfl, hb1⟩
  have hs1 : Below w.heap.size w w1 := Below.trans (by go_grown) (hb1.mono (by first | (simp; done) | (simp; omega)))
  have HP_1 := HP.on hs1
  have P_1 := (Blk.new_at (g := w.heap.size) (by simp) _ _).below hb1 (by first | (simp; done) | (simp; omega))
  have hB_1 := hs1
  rw [hf]
  have hz_1 := hs1.size
  clear hb1 HP hs1
  have qP_0 := P_1.cells 0 _ rfl
  have qP_1 := P_1.cells 1 _ rfl
  have qlP := P_1.lt
  simp only [List.getElem_toArray, List.getElem_cons_zero, List.getElem_cons_succ] at qP_0 qP_1
  go_wp2_with fail
  go_ret
  exact ⟨rfl, hB_1⟩

set_option maxHeartbeats 600000 in
set_option maxRecDepth 100000 in
theorem tcrash_no1 (p : Plat) (i : Int) (s : ByteArray) (most : Int) (F : List Int) (A A' AF : Option Addr) (n m c d nF cF : Nat) (w : World) (HP : PlatPre w A n A' m p) (HS : Hid (∀ W, Below w.heap.size w W → SlR encI 1 W W.heap.size AF nF F)) (hnF : nF ≤ 140737488355328) (HF : Hid (∀ x ∈ F, x ≤ 9223372036854775807)) (hf : farB14 p s = false) (hm : m = 0) (hnF3 : nF ≤ 300) (x : ByteArray) (ok : Bool) (er : Int) (her : er ≠ 0) (HG : Hid (getF p i = (x, ok, er))) (q : Plat) (dn : Bool) (er2 : Int) (HW : Hid (putF p i s most = (q, dn, er2))) :
    Calls Try.prog 9 #[.agg #[.slice A n c, .slice A' m d], .int .i64 i, .string s, .int .i64 most, .slice AF nF cF] w fun e w' => e = .returned (.bool true) ∧ Below w.heap.size w w' := by
  subst hm
  have t1 : (er != 0) = true := by simpa using her
  clear her
  go_enter Try.func9, Try.ntmps9
  go_wp2_with fail
  refine (far14_any p s A A' n 0 c d _ (HP.step (by go_grown))).mono ?_
  rintro e w1 ⟨rfl, hb1⟩
  have hs1 : Below w.heap.size w w1 := Below.trans (by go_grown) (hb1.mono (by first | (simp; done) | (simp; omega)))
  have HP_1 := HP.on hs1
  have P_1 := (Blk.new_at (g := w.heap.size) (by simp) _ _).below hb1 (by first | (simp; done) | (simp; omega))
  have hB_1 := hs1
  rw [hf]
  have hz_1 := hs1.size
  clear hb1 HP hs1
  have qP_0 := P_1.cells 0 _ rfl
  have qP_1 := P_1.cells 1 _ rfl
  have qlP := P_1.lt
  simp only [List.getElem_toArray, List.getElem_cons_zero, List.getElem_cons_succ] at qP_0 qP_1
  go_wp2_with fail
  refine (get_any p i A A' n 0 c d _ (HP_1.step (by go_grown))).mono ?_
  rintro e w2 ⟨rfl, hb2⟩
  clear qlP qP_0 qP_1
  have hs2 : Below w1.heap.size w1 w2 := Below.trans (by go_grown) (hb2.mono (by first | (simp; done) | (simp; omega)))
  have HP_2 := HP_1.on hs2
  have P_2 := P_1.below hs2 P_1.lt
  have hB_2 := hB_1.trans (hs2.mono hB_1.size)
  rw [HG.out]
  try dsimp only
  have hz_2 := hs2.size
  clear hb2 HP_1 P_1 hB_1 hs2
  have qP_0 := P_2.cells 0 _ rfl
  have qP_1 := P_2.cells 1 _ rfl
  have qlP := P_2.lt
  simp only [List.getElem_toArray, List.getElem_cons_zero, List.getElem_cons_succ] at qP_0 qP_1
  go_wp2_with fail
  refine (put_any p i s most A A' n 0 c d _ (HP_2.step (by go_grown))).mono ?_
  rintro e w3 ⟨v, rfl, hO3, hb3⟩
  clear qlP qP_0 qP_1
  have hs3 : Below w2.heap.size w2 w3 := Below.trans (by go_grown) (hb3.mono (by first | (simp; done) | (simp; omega)))
  have hB_3 := hB_2.trans (hs3.mono hB_2.size)
  rw [HW.out] at hO3 ⊢
  dsimp only at hO3 ⊢
  obtain ⟨Aa, ca, Aa', ca', rfl, HPa⟩ := hO3.at_
  clear hO3
  generalize q.sectors.length = la at *
  generalize q.cache.length = ka at *
  have hz_3 := hs3.size
  clear hb3 HP_2 P_2 hB_2 hs3
  go_wp2_with fail
  refine (twins_any _).mono ?_
  rintro e w4 ⟨rfl, hb4⟩
  have hs4 : Below w3.heap.size w3 w4 := Below.trans (by go_grown) (hb4.mono (by first | (simp; done) | (simp; omega)))
  have X_4 := (Blk.new_at (g := w3.heap.size) (by simp) _ _).below hb4 (by first | (simp; done) | (simp; omega))
  have hB_4 := hB_3.trans (hs4.mono hB_3.size)
  have hz_4 := hs4.size
  clear hb4 hB_3 hs4
  go_wp2_with fail
  go_ret
  exact ⟨rfl, hB_4⟩

set_option maxHeartbeats 600000 in
set_option maxRecDepth 100000 in
theorem tcrash_no2 (p : Plat) (i : Int) (s : ByteArray) (most : Int) (F : List Int) (A A' AF : Option Addr) (n m c d nF cF : Nat) (w : World) (HP : PlatPre w A n A' m p) (HS : Hid (∀ W, Below w.heap.size w W → SlR encI 1 W W.heap.size AF nF F)) (hnF : nF ≤ 140737488355328) (HF : Hid (∀ x ∈ F, x ≤ 9223372036854775807)) (hf : farB14 p s = false) (hm : m = 0) (hnF3 : nF ≤ 300) (x : ByteArray) (ok : Bool) (HG : Hid (getF p i = (x, ok, 0))) (q : Plat) (dn : Bool) (er2 : Int) (her : er2 ≠ 0) (HW : Hid (putF p i s most = (q, dn, er2))) :
    Calls Try.prog 9 #[.agg #[.slice A n c, .slice A' m d], .int .i64 i, .string s, .int .i64 most, .slice AF nF cF] w fun e w' => e = .returned (.bool true) ∧ Below w.heap.size w w' := by
  subst hm
  have t1 : (er2 != 0) = true := by simpa using her
  clear her
  go_enter Try.func9, Try.ntmps9
  go_wp2_with fail
  refine (far14_any p s A A' n 0 c d _ (HP.step (by go_grown))).mono ?_
  rintro e w1 ⟨rfl, hb1⟩
  have hs1 : Below w.heap.size w w1 := Below.trans (by go_grown) (hb1.mono (by first | (simp; done) | (simp; omega)))
  have HP_1 := HP.on hs1
  have P_1 := (Blk.new_at (g := w.heap.size) (by simp) _ _).below hb1 (by first | (simp; done) | (simp; omega))
  have hB_1 := hs1
  rw [hf]
  have hz_1 := hs1.size
  clear hb1 HP hs1
  have qP_0 := P_1.cells 0 _ rfl
  have qP_1 := P_1.cells 1 _ rfl
  have qlP := P_1.lt
  simp only [List.getElem_toArray, List.getElem_cons_zero, List.getElem_cons_succ] at qP_0 qP_1
  go_wp2_with fail
  refine (get_any p i A A' n 0 c d _ (HP_1.step (by go_grown))).mono ?_
  rintro e w2 ⟨rfl, hb2⟩
  clear qlP qP_0 qP_1
  have hs2 : Below w1.heap.size w1 w2 := Below.trans (by go_grown) (hb2.mono (by first | (simp; done) | (simp; omega)))
  have HP_2 := HP_1.on hs2
  have P_2 := P_1.below hs2 P_1.lt
  have hB_2 := hB_1.trans (hs2.mono hB_1.size)
  rw [HG.out]
  try dsimp only
  have hz_2 := hs2.size
  clear hb2 HP_1 P_1 hB_1 hs2
  have qP_0 := P_2.cells 0 _ rfl
  have qP_1 := P_2.cells 1 _ rfl
  have qlP := P_2.lt
  simp only [List.getElem_toArray, List.getElem_cons_zero, List.getElem_cons_succ] at qP_0 qP_1
  go_wp2_with fail
  refine (put_any p i s most A A' n 0 c d _ (HP_2.step (by go_grown))).mono ?_
  rintro e w3 ⟨v, rfl, hO3, hb3⟩
  clear qlP qP_0 qP_1
  have hs3 : Below w2.heap.size w2 w3 := Below.trans (by go_grown) (hb3.mono (by first | (simp; done) | (simp; omega)))
  have hB_3 := hB_2.trans (hs3.mono hB_2.size)
  rw [HW.out] at hO3 ⊢
  dsimp only at hO3 ⊢
  obtain ⟨Aa, ca, Aa', ca', rfl, HPa⟩ := hO3.at_
  clear hO3
  generalize q.sectors.length = la at *
  generalize q.cache.length = ka at *
  have hz_3 := hs3.size
  clear hb3 HP_2 P_2 hB_2 hs3
  go_wp2_with fail
  refine (twins_any _).mono ?_
  rintro e w4 ⟨rfl, hb4⟩
  have hs4 : Below w3.heap.size w3 w4 := Below.trans (by go_grown) (hb4.mono (by first | (simp; done) | (simp; omega)))
  have X_4 := (Blk.new_at (g := w3.heap.size) (by simp) _ _).below hb4 (by first | (simp; done) | (simp; omega))
  have hB_4 := hB_3.trans (hs4.mono hB_3.size)
  have hz_4 := hs4.size
  clear hb4 hB_3 hs4
  go_wp2_with fail
  go_ret
  exact ⟨rfl, hB_4⟩

set_option maxHeartbeats 600000 in
set_option maxRecDepth 100000 in
theorem tcrash_new (p : Plat) (i : Int) (s : ByteArray) (most : Int) (F : List Int) (A A' AF : Option Addr) (n m c d nF cF : Nat) (w : World) (HP : PlatPre w A n A' m p) (HS : Hid (∀ W, Below w.heap.size w W → SlR encI 1 W W.heap.size AF nF F)) (hnF : nF ≤ 140737488355328) (HF : Hid (∀ x ∈ F, x ≤ 9223372036854775807)) (hf : farB14 p s = false) (hm : m = 0) (hnF3 : nF ≤ 300) (x : ByteArray) (ok : Bool) (HG : Hid (getF p i = (x, ok, 0))) (q : Plat) (dn : Bool) (b : Plat) (HC : Hid (crashF q F = (b, 0))) (HW : Hid (putF p i s most = (q, dn, 0))) (HG2 : Hid (getF b i = (s, true, 0))) :
    Calls Try.prog 9 #[.agg #[.slice A n c, .slice A' m d], .int .i64 i, .string s, .int .i64 most, .slice AF nF cF] w fun e w' => e = .returned (.bool true) ∧ Below w.heap.size w w' := by
  subst hm
  rcases Bool.eq_false_or_eq_true (s.toList == x.toList) with hq | hq <;> cases ok
  all_goals
    go_enter Try.func9, Try.ntmps9
    go_wp2_with fail
    refine (far14_any p s A A' n 0 c d _ (HP.step (by go_grown))).mono ?_
    rintro e w1 ⟨rfl, hb1⟩
    have hs1 : Below w.heap.size w w1 := Below.trans (by go_grown) (hb1.mono (by first | (simp; done) | (simp; omega)))
    have HP_1 := HP.on hs1
    have P_1 := (Blk.new_at (g := w.heap.size) (by simp) _ _).below hb1 (by first | (simp; done) | (simp; omega))
    have hB_1 := hs1
    rw [hf]
    have hz_1 := hs1.size
    clear hb1 HP hs1
    have qP_0 := P_1.cells 0 _ rfl
    have qP_1 := P_1.cells 1 _ rfl
    have qlP := P_1.lt
    simp only [List.getElem_toArray, List.getElem_cons_zero, List.getElem_cons_succ] at qP_0 qP_1
    go_wp2_with fail
    refine (get_any p i A A' n 0 c d _ (HP_1.step (by go_grown))).mono ?_
    rintro e w2 ⟨rfl, hb2⟩
    clear qlP qP_0 qP_1
    have hs2 : Below w1.heap.size w1 w2 := Below.trans (by go_grown) (hb2.mono (by first | (simp; done) | (simp; omega)))
    have HP_2 := HP_1.on hs2
    have P_2 := P_1.below hs2 P_1.lt
    have hB_2 := hB_1.trans (hs2.mono hB_1.size)
    rw [HG.out]
    try dsimp only
    have hz_2 := hs2.size
    clear hb2 HP_1 P_1 hB_1 hs2
    have qP_0 := P_2.cells 0 _ rfl
    have qP_1 := P_2.cells 1 _ rfl
    have qlP := P_2.lt
    simp only [List.getElem_toArray, List.getElem_cons_zero, List.getElem_cons_succ] at qP_0 qP_1
    go_wp2_with fail
    refine (put_any p i s most A A' n 0 c d _ (HP_2.step (by go_grown))).mono ?_
    rintro e w3 ⟨v, rfl, hO3, hb3⟩
    clear qlP qP_0 qP_1
    have hs3 : Below w2.heap.size w2 w3 := Below.trans (by go_grown) (hb3.mono (by first | (simp; done) | (simp; omega)))
    have hB_3 := hB_2.trans (hs3.mono hB_2.size)
    rw [HW.out] at hO3 ⊢
    dsimp only at hO3 ⊢
    obtain ⟨Aq, cq, Aq', cq', rfl, HPq⟩ := hO3.at_
    clear hO3
    generalize q.sectors.length = lq at *
    generalize q.cache.length = kq at *
    have hz_3 := hs3.size
    clear hb3 HP_2 P_2 hB_2 hs3
    go_wp2_with fail
    refine (crash_any q F AF nF cF Aq Aq' lq kq cq cq' _ (HPq.step (by go_grown)) (HS.out _ (Below.trans hB_3 (by go_grown))) hnF HF.out).mono ?_
    rintro e w4 ⟨v, rfl, hO4, hb4⟩
    have hs4 : Below w3.heap.size w3 w4 := Below.trans (by go_grown) (hb4.mono (by first | (simp; done) | (simp; omega)))
    have hB_4 := hB_3.trans (hs4.mono hB_3.size)
    rw [HC.out] at hO4 ⊢
    dsimp only at hO4 ⊢
    obtain ⟨Ab, cb, Ab', cb', rfl, HPb⟩ := hO4.at_
    clear hO4
    generalize b.sectors.length = lb at *
    generalize b.cache.length = kb at *
    have hz_4 := hs4.size
    clear hb4 HPq hB_3 hs4
    go_wp2_with fail
    refine (get_any b i Ab Ab' lb kb cb cb' _ (HPb.step (by go_grown))).mono ?_
    rintro e w5 ⟨rfl, hb5⟩
    have hs5 : Below w4.heap.size w4 w5 := Below.trans (by go_grown) (hb5.mono (by first | (simp; done) | (simp; omega)))
    have hB_5 := hB_4.trans (hs5.mono hB_4.size)
    rw [HG2.out]
    try dsimp only
    have hz_5 := hs5.size
    clear hb5 HPb hB_4 hs5
    go_wp2_with fail
    refine (twins_any _).mono ?_
    rintro e w6 ⟨rfl, hb6⟩
    have hs6 : Below w5.heap.size w5 w6 := Below.trans (by go_grown) (hb6.mono (by first | (simp; done) | (simp; omega)))
    have hB_6 := hB_5.trans (hs6.mono hB_5.size)
    have hz_6 := hs6.size
    clear hb6 hB_5 hs6
    go_wp2_with fail
    go_ret
    exact ⟨rfl, hB_6⟩

set_option maxHeartbeats 600000 in
set_option maxRecDepth 100000 in
theorem tcrash_old (p : Plat) (i : Int) (s : ByteArray) (most : Int) (F : List Int) (A A' AF : Option Addr) (n m c d nF cF : Nat) (w : World) (HP : PlatPre w A n A' m p) (HS : Hid (∀ W, Below w.heap.size w W → SlR encI 1 W W.heap.size AF nF F)) (hnF : nF ≤ 140737488355328) (HF : Hid (∀ x ∈ F, x ≤ 9223372036854775807)) (hf : farB14 p s = false) (hm : m = 0) (hnF3 : nF ≤ 300) (x : ByteArray) (ok : Bool) (HG : Hid (getF p i = (x, ok, 0))) (q : Plat) (b : Plat) (HC : Hid (crashF q F = (b, 0))) (HW : Hid (putF p i s most = (q, false, 0))) (HG2 : Hid (getF b i = (x, ok, 0))) :
    Calls Try.prog 9 #[.agg #[.slice A n c, .slice A' m d], .int .i64 i, .string s, .int .i64 most, .slice AF nF cF] w fun e w' => e = .returned (.bool true) ∧ Below w.heap.size w w' := by
  subst hm
  rcases Bool.eq_false_or_eq_true (x.toList == s.toList) with hq | hq <;> cases ok
  all_goals
    go_enter Try.func9, Try.ntmps9
    go_wp2_with fail
    refine (far14_any p s A A' n 0 c d _ (HP.step (by go_grown))).mono ?_
    rintro e w1 ⟨rfl, hb1⟩
    have hs1 : Below w.heap.size w w1 := Below.trans (by go_grown) (hb1.mono (by first | (simp; done) | (simp; omega)))
    have HP_1 := HP.on hs1
    have P_1 := (Blk.new_at (g := w.heap.size) (by simp) _ _).below hb1 (by first | (simp; done) | (simp; omega))
    have hB_1 := hs1
    rw [hf]
    have hz_1 := hs1.size
    clear hb1 HP hs1
    have qP_0 := P_1.cells 0 _ rfl
    have qP_1 := P_1.cells 1 _ rfl
    have qlP := P_1.lt
    simp only [List.getElem_toArray, List.getElem_cons_zero, List.getElem_cons_succ] at qP_0 qP_1
    go_wp2_with fail
    refine (get_any p i A A' n 0 c d _ (HP_1.step (by go_grown))).mono ?_
    rintro e w2 ⟨rfl, hb2⟩
    clear qlP qP_0 qP_1
    have hs2 : Below w1.heap.size w1 w2 := Below.trans (by go_grown) (hb2.mono (by first | (simp; done) | (simp; omega)))
    have HP_2 := HP_1.on hs2
    have P_2 := P_1.below hs2 P_1.lt
    have hB_2 := hB_1.trans (hs2.mono hB_1.size)
    rw [HG.out]
    try dsimp only
    have hz_2 := hs2.size
    clear hb2 HP_1 P_1 hB_1 hs2
    have qP_0 := P_2.cells 0 _ rfl
    have qP_1 := P_2.cells 1 _ rfl
    have qlP := P_2.lt
    simp only [List.getElem_toArray, List.getElem_cons_zero, List.getElem_cons_succ] at qP_0 qP_1
    go_wp2_with fail
    refine (put_any p i s most A A' n 0 c d _ (HP_2.step (by go_grown))).mono ?_
    rintro e w3 ⟨v, rfl, hO3, hb3⟩
    clear qlP qP_0 qP_1
    have hs3 : Below w2.heap.size w2 w3 := Below.trans (by go_grown) (hb3.mono (by first | (simp; done) | (simp; omega)))
    have hB_3 := hB_2.trans (hs3.mono hB_2.size)
    rw [HW.out] at hO3 ⊢
    dsimp only at hO3 ⊢
    obtain ⟨Aq, cq, Aq', cq', rfl, HPq⟩ := hO3.at_
    clear hO3
    generalize q.sectors.length = lq at *
    generalize q.cache.length = kq at *
    have hz_3 := hs3.size
    clear hb3 HP_2 P_2 hB_2 hs3
    go_wp2_with fail
    refine (crash_any q F AF nF cF Aq Aq' lq kq cq cq' _ (HPq.step (by go_grown)) (HS.out _ (Below.trans hB_3 (by go_grown))) hnF HF.out).mono ?_
    rintro e w4 ⟨v, rfl, hO4, hb4⟩
    have hs4 : Below w3.heap.size w3 w4 := Below.trans (by go_grown) (hb4.mono (by first | (simp; done) | (simp; omega)))
    have hB_4 := hB_3.trans (hs4.mono hB_3.size)
    rw [HC.out] at hO4 ⊢
    dsimp only at hO4 ⊢
    obtain ⟨Ab, cb, Ab', cb', rfl, HPb⟩ := hO4.at_
    clear hO4
    generalize b.sectors.length = lb at *
    generalize b.cache.length = kb at *
    have hz_4 := hs4.size
    clear hb4 HPq hB_3 hs4
    go_wp2_with fail
    refine (get_any b i Ab Ab' lb kb cb cb' _ (HPb.step (by go_grown))).mono ?_
    rintro e w5 ⟨rfl, hb5⟩
    have hs5 : Below w4.heap.size w4 w5 := Below.trans (by go_grown) (hb5.mono (by first | (simp; done) | (simp; omega)))
    have hB_5 := hB_4.trans (hs5.mono hB_4.size)
    rw [HG2.out]
    try dsimp only
    have hz_5 := hs5.size
    clear hb5 HPb hB_4 hs5
    go_wp2_with fail
    refine (twins_any _).mono ?_
    rintro e w6 ⟨rfl, hb6⟩
    have hs6 : Below w5.heap.size w5 w6 := Below.trans (by go_grown) (hb6.mono (by first | (simp; done) | (simp; omega)))
    have hB_6 := hB_5.trans (hs6.mono hB_5.size)
    have hz_6 := hs6.size
    clear hb6 hB_5 hs6
    go_wp2_with fail
    go_ret
    exact ⟨rfl, hB_6⟩

theorem tcrash_law (p : Plat) (i : Int) (s : ByteArray) (most : Int) (F : List Int) (A A' AF : Option Addr) (c d nF cF : Nat) (w : World) {R : Prop} (h : PlatPre w A p.sectors.length A' p.cache.length p ∧ R) {R' : Prop} (_ : R') (hS : SlR encI 1 w w.heap.size AF nF F) (hnF : nF ≤ 140737488351232) (hF : ∀ x ∈ F, x ≤ 9223372036854775807) :
    Calls Try.prog 9 #[.agg #[.slice A p.sectors.length c, .slice A' p.cache.length d], .int .i64 i, .string s, .int .i64 most, .slice AF nF cF] w fun e w' => e = .returned (.bool true) ∧ Below w.heap.size w w' := by
  have HS : Hid (∀ W, Below w.heap.size w W → SlR encI 1 W W.heap.size AF nF F) := fun W hb => (hS.below hb).more hb.size
  have hn2 : nF ≤ 140737488355328 := by omega
  by_cases hf : farB14 p s = true
  · exact tcrash_far p i s most F A A' AF _ _ c d nF cF w h.1 HS hn2 hF hf
  · have hf : farB14 p s = false := by simpa using hf
    by_cases hm : 0 < p.cache.length
    · exact tcrash_wet p i s most F A A' AF _ _ c d nF cF w h.1 HS hn2 hF hf hm
    have hm : p.cache.length = 0 := by omega
    by_cases hn3 : 300 < nF
    · exact tcrash_long p i s most F A A' AF _ _ c d nF cF w h.1 HS hn2 hF hf hm hn3
    have hn3 : nF ≤ 300 := by omega
    by_cases hg : (getF p i).2.2 = 0
    · have hG : getF p i = ((getF p i).1, (getF p i).2.1, 0) := by rw [← hg]
      by_cases he : (putF p i s most).2.2 = 0
      · have hW : putF p i s most = ((putF p i s most).1, (putF p i s most).2.1, 0) := by rw [← he]
        obtain ⟨b, x, ok, k1, k2, k3, _⟩ := tcrash_plain (List.eq_nil_of_length_eq_zero hm) hg he F
        rcases k3 with ⟨rfl, rfl⟩ | ⟨k3, rfl, rfl⟩
        · exact tcrash_new p i x most F A A' AF _ _ c d nF cF w h.1 HS hn2 hF hf hm hn3 _ _ hG _ _ b k1 hW k2
        · rw [k3] at hW
          exact tcrash_old p i s most F A A' AF _ _ c d nF cF w h.1 HS hn2 hF hf hm hn3 _ _ hG _ b k1 hW k2
      · exact tcrash_no2 p i s most F A A' AF _ _ c d nF cF w h.1 HS hn2 hF hf hm hn3 _ _ hG _ _ _ he rfl
    · exact tcrash_no1 p i s most F A A' AF _ _ c d nF cF w h.1 HS hn2 hF hf hm hn3 _ _ _ hg rfl _ _ _ rfl
end Go.Proofs.Ytefodifmfjpnlaa
