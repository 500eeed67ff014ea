/- chapter 14, TwinDoes: the walk. -/
import Derived.Test.YtefodifmfjpnlaaTwinS7
set_option linter.unusedVariables false
namespace Go.Proofs.Ytefodifmfjpnlaa
open Go.RowKit
theorem big_no {p : Plat} {s : ByteArray} (h : farB14 p s = false) : p.sectors.length ≤ 300 ∧ p.cache.length ≤ 200 := by
  simp only [farB14, bigP, Bool.or_eq_false_iff, decide_eq_false_iff_not] at h
  omega

set_option maxHeartbeats 600000 in
set_option maxRecDepth 100000 in
theorem does_far (p : Plat) (i : Int) (s : ByteArray) (most : Int) (A A' : Option Addr) (n m c d : Nat) (w : World) (HP : PlatPre w A n A' m p) (hf : farB14 p s = true) :
    Calls Try.prog 7 #[.agg #[.slice A n c, .slice A' m d], .int .i64 i, .string s, .int .i64 most] w fun e w' => e = .returned (.bool true) ∧ Below w.heap.size w w' := by
  go_enter Try.func7, Try.ntmps7
  go_wp2_with fail
  refine (far14_any p s A A' n m c d _ (HP.step (by go_grown))).mono ?_
  rintro e w1 ⟨rfl, hb1⟩
  have hs1 : Below w.heap.size w w1 := Below.trans (by go_grown) (hb1.mono (by first | (simp; done) | (simp; omega)))
  have HP_1 := HP.on hs1
  have P_1 := (Blk.new_at (g := w.heap.size) (by simp) _ _).below hb1 (by first | (simp; done) | (simp; omega))
  have hB_1 := hs1
  rw [hf]
  have hz_1 := hs1.size
  clear hb1 HP hs1
  go_wp2_with fail
  go_ret
  exact ⟨rfl, hB_1⟩

set_option maxHeartbeats 600000 in
set_option maxRecDepth 100000 in
theorem does_walk (p : Plat) (i : Int) (s : ByteArray) (most : Int) (A A' : Option Addr) (n m c d : Nat) (w : World) (HP : PlatPre w A n A' m p) (hf : farB14 p s = false) (hn : n ≤ 300) (hm : m ≤ 200) (HN : Hid (p.sectors.length = n ∧ p.cache.length = m)) (x : ByteArray) (ok : Bool) (er : Int) (HG : Hid (getF p i = (x, ok, er))) (q : Plat) (dn : Bool) (er2 : Int) (HW : Hid (putF p i s most = (q, dn, er2))) (HQ : Hid (q.sectors.length ≤ 1000 ∧ q.cache.length ≤ 1000)) :
    Calls Try.prog 7 #[.agg #[.slice A n c, .slice A' m d], .int .i64 i, .string s, .int .i64 most] w fun e w' => e = .returned (.bool true) ∧ Below w.heap.size w w' := by
  go_enter Try.func7, Try.ntmps7
  go_wp2_with fail
  refine (far14_any p s A A' n m c d _ (HP.step (by go_grown))).mono ?_
  rintro e w1 ⟨rfl, hb1⟩
  have hs1 : Below w.heap.size w w1 := Below.trans (by go_grown) (hb1.mono (by first | (simp; done) | (simp; omega)))
  have HP_1 := HP.on hs1
  have P_1 := (Blk.new_at (g := w.heap.size) (by simp) _ _).below hb1 (by first | (simp; done) | (simp; omega))
  have hB_1 := hs1
  rw [hf]
  have hz_1 := hs1.size
  clear hb1 HP hs1
  have qP_0 := P_1.cells 0 _ rfl
  have qP_1 := P_1.cells 1 _ rfl
  have qlP := P_1.lt
  simp only [List.getElem_toArray, List.getElem_cons_zero, List.getElem_cons_succ] at qP_0 qP_1
  go_wp2_with fail
  refine (own13_any p A A' n m c d _ (HP_1.step (by go_grown)) (by omega) (by omega)).mono ?_
  rintro e w2 ⟨v, rfl, hO2, hb2⟩
  clear qlP qP_0 qP_1
  have hs2 : Below w1.heap.size w1 w2 := Below.trans (by go_grown) (hb2.mono (by first | (simp; done) | (simp; omega)))
  have HP_2 := HP_1.on hs2
  have P_2 := P_1.below hs2 P_1.lt
  have hB_2 := hB_1.trans (hs2.mono hB_1.size)
  obtain ⟨Ao, co, Ao', co', rfl, HPo⟩ := hO2.at_
  clear hO2
  rw [HN.out.1, HN.out.2] at HPo
  simp only [HN.out.1, HN.out.2]
  have hz_2 := hs2.size
  clear hb2 HP_1 P_1 hB_1 hs2
  have qP_0 := P_2.cells 0 _ rfl
  have qP_1 := P_2.cells 1 _ rfl
  have qlP := P_2.lt
  simp only [List.getElem_toArray, List.getElem_cons_zero, List.getElem_cons_succ] at qP_0 qP_1
  go_wp2_with fail
  refine (get_any p i A A' n m c d _ (HP_2.step (by go_grown))).mono ?_
  rintro e w3 ⟨rfl, hb3⟩
  clear qlP qP_0 qP_1
  have hs3 : Below w2.heap.size w2 w3 := Below.trans (by go_grown) (hb3.mono (by first | (simp; done) | (simp; omega)))
  have HP_3 := HP_2.on hs3
  have P_3 := P_2.below hs3 P_2.lt
  have HPo_3 := HPo.on hs3
  have O_3 := (Blk.new_at (g := w2.heap.size) (by simp) _ _).below hb3 (by first | (simp; done) | (simp; omega))
  have hB_3 := hB_2.trans (hs3.mono hB_2.size)
  rw [HG.out]
  try dsimp only
  have hz_3 := hs3.size
  clear hb3 HP_2 P_2 HPo hB_2 hs3
  have qO_0 := O_3.cells 0 _ rfl
  have qO_1 := O_3.cells 1 _ rfl
  have qlO := O_3.lt
  simp only [List.getElem_toArray, List.getElem_cons_zero, List.getElem_cons_succ] at qO_0 qO_1
  go_wp2_with fail
  refine (refget_any p i Ao Ao' n m co co' _ (HPo_3.step (by go_grown)) (by omega) (by omega)).mono ?_
  rintro e w4 ⟨rfl, hb4⟩
  clear qlO qO_0 qO_1
  have hs4 : Below w3.heap.size w3 w4 := Below.trans (by go_grown) (hb4.mono (by first | (simp; done) | (simp; omega)))
  have HP_4 := HP_3.on hs4
  have P_4 := P_3.below hs4 P_3.lt
  have HPo_4 := HPo_3.on hs4
  have O_4 := O_3.below hs4 O_3.lt
  have hB_4 := hB_3.trans (hs4.mono hB_3.size)
  rw [HG.out]
  dsimp only
  have hz_4 := hs4.size
  clear hb4 HP_3 P_3 HPo_3 O_3 hB_3 hs4
  have qP_0 := P_4.cells 0 _ rfl
  have qP_1 := P_4.cells 1 _ rfl
  have qlP := P_4.lt
  simp only [List.getElem_toArray, List.getElem_cons_zero, List.getElem_cons_succ] at qP_0 qP_1
  have KP := Lib.hid HP_4
  have KO := Lib.hid HPo_4
  have KBP := Lib.hid P_4
  have KBO := Lib.hid O_4
  have KB := Lib.hid hB_4
  go_wp2_with fail
  refine (put_any p i s most A A' n m c d _ (HP_4.step (by go_grown))).mono ?_
  rintro e w5 ⟨v, rfl, hO5, hb5⟩
  clear qlP qP_0 qP_1
  have hs5 : Below w4.heap.size w4 w5 := Below.trans (by go_grown) (hb5.mono (by first | (simp; done) | (simp; omega)))
  have HP_5 := HP_4.on hs5
  have P_5 := P_4.below hs5 P_4.lt
  have HPo_5 := HPo_4.on hs5
  have O_5 := O_4.below hs5 O_4.lt
  have hB_5 := hB_4.trans (hs5.mono hB_4.size)
  rw [HW.out] at hO5 ⊢
  dsimp only at hO5 ⊢
  obtain ⟨Ac, cc, Ac', cc', rfl, hc1, hc2⟩ := hO5
  have HC := Lib.hid (And.intro hc1 hc2)
  clear hc1 hc2
  have HK5 := Lib.hid hs5
  have hz_5 := hs5.size
  clear hb5 HP_4 P_4 HPo_4 O_4 hB_4 hs5
  have qO_0 := O_5.cells 0 _ rfl
  have qO_1 := O_5.cells 1 _ rfl
  have qlO := O_5.lt
  simp only [List.getElem_toArray, List.getElem_cons_zero, List.getElem_cons_succ] at qO_0 qO_1
  go_wp2_with fail
  refine (refput_any p i s most Ao Ao' n m co co' _ (HPo_5.step (by go_grown)) (by omega) (by omega)).mono ?_
  rintro e w6 ⟨v, rfl, hO6, hb6⟩
  clear qlO qO_0 qO_1
  have hs6 : Below w5.heap.size w5 w6 := Below.trans (by go_grown) (hb6.mono (by first | (simp; done) | (simp; omega)))
  have HCR_6 := Lib.hid (And.intro (own_below HC.out.1 hs6 (Nat.le_refl _)) (own_below HC.out.2 hs6 (Nat.le_refl _)))
  have C_6 := (Blk.new_at (g := w5.heap.size) (by simp) _ _).below hb6 (by first | (simp; done) | (simp; omega))
  have hB_6 := hB_5.trans (hs6.mono hB_5.size)
  rw [HW.out] at hO6 ⊢
  dsimp only at hO6 ⊢
  obtain ⟨Ad, cd, Ad', cd', rfl, HPd⟩ := hO6.at_
  clear hO6
  have HK6 := Lib.hid (HK5.out.trans (hs6.mono HK5.out.size))
  have hz_6 := hs6.size
  clear hb6 HP_5 P_5 HPo_5 O_5 HC hB_5 hs6
  have qC_0 := C_6.cells 0 _ rfl
  have qC_1 := C_6.cells 1 _ rfl
  have qlC := C_6.lt
  simp only [List.getElem_toArray, List.getElem_cons_zero, List.getElem_cons_succ] at qC_0 qC_1
  go_wp2_with fail
  refine (same_any q q Ac Ac' Ad Ad' _ _ cc cc' _ _ cd cd' _ ((rows_pre2 HCR_6.out.1 HCR_6.out.2).step (by go_grown)) (HPd.step (by go_grown)) (by have := HQ.out; omega) (by have := HQ.out; omega)).mono ?_
  rintro e w7 ⟨rfl, hb7⟩
  clear qlC qC_0 qC_1
  have hs7 : Below w6.heap.size w6 w7 := Below.trans (by go_grown) (hb7.mono (by first | (simp; done) | (simp; omega)))
  have HCR_7 := Lib.hid (And.intro (own_below HCR_6.out.1 hs7 (Nat.le_refl _)) (own_below HCR_6.out.2 hs7 (Nat.le_refl _)))
  have C_7 := C_6.below hs7 C_6.lt
  have hB_7 := hB_6.trans (hs7.mono hB_6.size)
  rw [samePl_refl]
  have HK7 := Lib.hid (HK6.out.trans (hs7.mono HK6.out.size))
  have hz_7 := hs7.size
  clear hb7 HCR_6 C_6 HPd hB_6 hs7
  have qC_0 := C_7.cells 0 _ rfl
  have qC_1 := C_7.cells 1 _ rfl
  have qlC := C_7.lt
  simp only [List.getElem_toArray, List.getElem_cons_zero, List.getElem_cons_succ] at qC_0 qC_1
  generalize q.sectors.length = lq at *
  go_wp2_with fail
  clear qlC qC_0 qC_1
  have HCB := Lib.hid C_7
  go_loopw [23] (fun iv wr => ∃ k : Nat, k ≤ lq ∧ iv = .int .i64 k ∧ Below w4.heap.size w7 wr ∧ Hid (Blk wr w5.heap.size 25 #[.slice Ac lq cc, .slice Ac' q.cache.length cc']) ∧ Hid (∃ xs, wr.ownsRow w4.heap.size 9 1 (.slice Ac lq cc) lq xs)) (fun iv _ => lq - (intOf iv).toNat)
  case atStart => exact ⟨0, Nat.zero_le _, rfl, Below.refl _ _, HCB.out, ⟨_, HCR_7.out.1⟩⟩
  case round =>
    obtain ⟨k, hk, rfl, hBr, HX, HO⟩ := hrel
    have hq9 : lq ≤ 1000 := HQ.out.1
    have q0 := HX.out.cells 0 _ rfl
    have ql := HX.out.lt
    simp only [List.getElem_toArray, List.getElem_cons_zero] at q0
    by_cases hlt : k < lq
    · obtain ⟨xs, ho⟩ := HO.out
      obtain ⟨A3, c3, hv, _, _, h0⟩ := own_form ho
      obtain ⟨rfl, rfl⟩ : Ac = A3 ∧ cc = c3 := by injection hv with h1 _ h2; exact ⟨h1, h2⟩
      obtain ⟨b, rfl, hbB, hbw⟩ := h0.resolve_left (by omega)
      have hxl : k < xs.length := by rw [ho.1]; omega
      have o0 : _ = _ := ho.cellAt k (by omega)
      rw [List.getElem?_eq_getElem hxl] at o0
      have of := ho.frozenAt k
      have HS := Lib.hid (And.intro ho (own_far_ne ho HX.out))
      generalize xs[k] = xk at o0
      have HBr := Lib.hid hBr
      clear ho hv h0 hBr hxl
      go_wp2_with fail
      go_roundw
      case rel => exact ⟨k + 1, by omega, by go_num, HBr.out.setCell hbB _, HX.out.far HS.out.2 _, ⟨_, (HS.out.1.stored k _).1⟩⟩
      case measure => simp [intOf]; omega
    · obtain rfl : k = lq := by omega
      have hB9 := KB.out.trans ((HK7.out.trans hBr).mono KB.out.size)
      have HP9 := KP.out.on (HK7.out.trans hBr)
      have HO9 := KO.out.on (HK7.out.trans hBr)
      have hP9 := KBP.out.below (HK7.out.trans hBr) KBP.out.lt
      have hO9 := KBO.out.below (HK7.out.trans hBr) KBO.out.lt
      have hz9 := (HK7.out.trans hBr).size
      clear hBr
      go_wp2_with fail
      refine (twins_any _).mono ?_
      rintro e w8 ⟨rfl, hb8⟩
      have hB8 := hB9.trans (hb8.mono hB9.size)
      have HP8 := HP9.on hb8
      have HO8 := HO9.on hb8
      have hP8 := hP9.below hb8 hP9.lt
      have hO8 := hO9.below hb8 hO9.lt
      clear hb8 hB9 HP9 HO9 hP9 hO9 q0 ql
      have p0 := hP8.cells 0 _ rfl
      have p1 := hP8.cells 1 _ rfl
      have o0 := hO8.cells 0 _ rfl
      have o1 := hO8.cells 1 _ rfl
      have hpl := hP8.lt
      have hol := hO8.lt
      simp only [List.getElem_toArray, List.getElem_cons_zero, List.getElem_cons_succ] at p0 p1 o0 o1
      go_wp2_with fail
      refine (same_any p p A A' Ao Ao' n m c d n m co co' _ (HP8.step (by go_grown)) (HO8.step (by go_grown)) (by omega) (by omega)).mono ?_
      rintro e w9 ⟨rfl, hb9⟩
      rw [samePl_refl]
      go_wp2_with fail
      go_ret
      exact ⟨rfl, hB8.trans (hb9.mono hB8.size)⟩

theorem put_len (p : Plat) (i : Int) (s : ByteArray) (most : Int) : (putF p i s most).1.sectors.length ≤ 1000 ∧ (putF p i s most).1.cache.length ≤ 1000 := by
  by_cases h : (putF p i s most).2.2 = 0
  · have hg := put_get h
    obtain ⟨hc, _⟩ := read_pos (get_read hg)
    have hN : mostN most ≤ 4 := by unfold mostN; split <;> omega
    rw [putF_do hg] at h ⊢
    have hd : (doTo p (i + (bodyF (markF (readF p i).1)).1) s i (markF (readF p i).1) (mostN most)).2 = 0 := by
      unfold doN at h
      split at h
      · assumption
      · exact h
    have he : doTo p (i + (bodyF (markF (readF p i).1)).1) s i (markF (readF p i).1) (mostN most) = ((doTo p (i + (bodyF (markF (readF p i).1)).1) s i (markF (readF p i).1) (mostN most)).1, 0) := by rw [← hd]
    rw [doN_ok he]
    exact doTo_len hc _ _ hN he
  · rw [(put_err h).1]; simp [noPlat]
theorem does_law (p : Plat) (i : Int) (s : ByteArray) (most : Int) (A A' : Option Addr) (c d : Nat) (w : World) {R : Prop} (h : PlatPre w A p.sectors.length A' p.cache.length p ∧ R) {R' : Prop} (_ : R') :
    Calls Try.prog 7 #[.agg #[.slice A p.sectors.length c, .slice A' p.cache.length d], .int .i64 i, .string s, .int .i64 most] w fun e w' => e = .returned (.bool true) ∧ Below w.heap.size w w' := by
  by_cases hf : farB14 p s = true
  · exact does_far p i s most A A' _ _ c d w h.1 hf
  · have hf : farB14 p s = false := by simpa using hf
    obtain ⟨h1, h2⟩ := big_no hf
    exact does_walk p i s most A A' _ _ c d w h.1 hf h1 h2 ⟨rfl, rfl⟩ _ _ _ rfl _ _ _ rfl (put_len p i s most)
end Go.Proofs.Ytefodifmfjpnlaa
