/- chapter 15, NonceNext: the walk. -/
import Derived.Test.YtefodifmfjpnlaaDoorNonT
import Derived.Test.YtefodifmfjpnlaaDoorNonJ
import Derived.Test.YtefodifmfjpnlaaDoorNonM
import Derived.Test.YtefodifmfjpnlaaDoorPlatM
import Derived.Test.YtefodifmfjpnlaaDoorTwinS7
set_option linter.unusedVariables false
namespace Go.Proofs.YtefodifmfjpnlaaDoor
open Go.RowKit
theorem next_len (p : Plat) (s : Src) (deeds : Int) (hp : p.sectors.length ≤ 1000 ∧ p.cache.length ≤ 1000) : (nextN p s deeds).2.2.1.sectors.length ≤ 1000 ∧ (nextN p s deeds).2.2.1.cache.length ≤ 1000 := by
  have h1 := put_lens p s.pos (digB (s.limit.toNat + 16)) deeds
  have h0 : noPlat.sectors.length ≤ 1000 ∧ noPlat.cache.length ≤ 1000 := by simp [noPlat]
  unfold nextN
  repeat' split
  all_goals first | exact h0 | exact hp | exact h1 | skip
set_option maxHeartbeats 1000000 in
set_option maxRecDepth 100000 in
theorem nnext_far (p : Plat) (so : Src) (deeds : Int) (A A' : Option Addr) (n m c d : Nat) (w : World) (hP : PlatAt w w.heap.size A n A' m p) (hb : bigP p = true) :
    Calls Tryd.prog 4 #[.agg #[.slice A n c, .slice A' m d], .agg #[.int .i64 so.pos, .int .i64 so.next, .int .i64 so.limit], .int .i64 deeds] w fun e w' => e = .returned (.bool true) ∧ Below w.heap.size w w' := by
  have HP := hP.pre
  clear hP
  go_enter Tryd.func4, Tryd.ntmps4
  go_wp2_with fail
  refine (bigP_any p A A' n m c d _ (HP.step (by go_grown))).mono ?_
  rintro e w1 ⟨rfl, hb1⟩
  have hs1 : Below w.heap.size w w1 := Below.trans (by go_grown) (hb1.mono (by first | (simp; done) | (simp; omega)))
  have HP_1 := HP.on hs1
  have P_1 := ((Blk.new_at (g := w.heap.size) (by simp) _ _).alloc _).below hb1 (by first | (simp; done) | (simp; omega))
  have S_1 := (Blk.new_at (g := w.heap.size + 1) (by simp) _ _).below hb1 (by first | (simp; done) | (simp; omega))
  have hB_1 := hs1
  rw [hb]
  have hz_1 := hs1.size
  clear hb1 HP hs1
  go_wp2_with fail
  go_ret
  exact ⟨rfl, hB_1⟩

set_option maxHeartbeats 2000000 in
set_option maxRecDepth 100000 in
theorem nnext_in (p : Plat) (so : Src) (deeds : Int) (A A' : Option Addr) (n m c d : Nat) (w : World) (hP : PlatAt w w.heap.size A n A' m p) (hn : n ≤ 300) (hm : m ≤ 200) (hb : bigP p = false) (hG : Pows w) (HN : Hid (p.sectors.length = n ∧ p.cache.length = m)) (T : ByteArray) (sp sn sl : Int) (q : Plat) (er : Int) (HW : Hid (nextN p so deeds = (T, ⟨sp, sn, sl⟩, q, er))) (HQ : Hid (q.sectors.length ≤ 1000 ∧ q.cache.length ≤ 1000)) :
    Calls Tryd.prog 4 #[.agg #[.slice A n c, .slice A' m d], .agg #[.int .i64 so.pos, .int .i64 so.next, .int .i64 so.limit], .int .i64 deeds] w fun e w' => e = .returned (.bool true) ∧ Below w.heap.size w w' := by
  have HP := hP.pre
  have HG : HPows w := Lib.hid hG
  clear hP hG
  obtain ⟨s0, s1, s2⟩ := so
  dsimp only at HW ⊢
  go_enter Tryd.func4, Tryd.ntmps4
  go_wp2_with fail
  refine (bigP_any p A A' n m c d _ (HP.step (by go_grown))).mono ?_
  rintro e w1 ⟨rfl, hb1⟩
  have hs1 : Below w.heap.size w w1 := Below.trans (by go_grown) (hb1.mono (by first | (simp; done) | (simp; omega)))
  have HP_1 := HP.on hs1
  have HG_1 := HG.on hs1
  have P_1 := ((Blk.new_at (g := w.heap.size) (by simp) _ _).alloc _).below hb1 (by first | (simp; done) | (simp; omega))
  have S_1 := (Blk.new_at (g := w.heap.size + 1) (by simp) _ _).below hb1 (by first | (simp; done) | (simp; omega))
  have hB_1 := hs1
  rw [hb]
  have hz_1 := hs1.size
  clear hb1 HP HG hs1
  have qP_0 := P_1.cells 0 _ rfl
  have qP_1 := P_1.cells 1 _ rfl
  have qlP := P_1.lt
  simp only [List.getElem_toArray, List.getElem_cons_zero, List.getElem_cons_succ] at qP_0 qP_1
  go_wp2_with fail
  refine (own13_any p A A' n m c d _ (HP_1.step (by go_grown)) (by omega) (by omega)).mono ?_
  rintro e w2 ⟨v, rfl, hO2, hb2⟩
  clear qlP qP_0 qP_1
  have hs2 : Below w1.heap.size w1 w2 := Below.trans (by go_grown) (hb2.mono (by first | (simp; done) | (simp; omega)))
  have HP_2 := HP_1.on hs2
  have HG_2 := HG_1.on hs2
  have P_2 := P_1.below hs2 P_1.lt
  have S_2 := S_1.below hs2 S_1.lt
  have hB_2 := hB_1.trans (hs2.mono hB_1.size)
  obtain ⟨Ao, co, Ao', co', rfl, HPo⟩ := hO2.at_
  clear hO2
  rw [HN.out.1, HN.out.2] at HPo
  simp only [HN.out.1, HN.out.2]
  have hz_2 := hs2.size
  clear hb2 HP_1 HG_1 P_1 S_1 hB_1 hs2
  have KP := Lib.hid HP_2
  have KO := Lib.hid HPo
  have KBP := Lib.hid P_2
  have KB := Lib.hid hB_2
  have KG := Lib.hid HG_2
  have qP_0 := P_2.cells 0 _ rfl
  have qP_1 := P_2.cells 1 _ rfl
  have qlP := P_2.lt
  have qS_0 := S_2.cells 0 _ rfl
  have qS_1 := S_2.cells 1 _ rfl
  have qS_2 := S_2.cells 2 _ rfl
  have qlS := S_2.lt
  simp only [List.getElem_toArray, List.getElem_cons_zero, List.getElem_cons_succ] at qP_0 qP_1 qS_0 qS_1 qS_2
  go_wp2_with fail
  refine (next_any p ⟨s0, s1, s2⟩ deeds A A' n m c d _ (HP_2.step (by go_grown)) (by omega) (by omega) (HG_2.step (by go_grown))).mono ?_
  rintro e w3 ⟨v, rfl, hO3, hb3⟩
  clear qlP qlS qP_0 qP_1 qS_0 qS_1 qS_2
  have hs3 : Below w2.heap.size w2 w3 := Below.trans (by go_grown) (hb3.mono (by first | (simp; done) | (simp; omega)))
  have HP_3 := HP_2.on hs3
  have HG_3 := HG_2.on hs3
  have P_3 := P_2.below hs3 P_2.lt
  have S_3 := S_2.below hs3 S_2.lt
  have HPo_3 := HPo.on hs3
  have O_3 := (Blk.new_at (g := w2.heap.size) (by simp) _ _).below hb3 (by first | (simp; done) | (simp; omega))
  have hB_3 := hB_2.trans (hs3.mono hB_2.size)
  rw [HW.out] at hO3 ⊢
  unfold srcV
  dsimp only at hO3 ⊢
  obtain ⟨Ac, cc, Ac', cc', rfl, ha1, ha2⟩ := hO3
  have hc1 : w3.ownsRow (w2.heap.size + 1) 9 1 (.slice Ac q.sectors.length cc) q.sectors.length (flat encS q.sectors) := by simpa using ha1
  have hc2 : w3.ownsRow (w2.heap.size + 1) 52 2 (.slice Ac' q.cache.length cc') q.cache.length (flat encP q.cache) := by simpa using ha2
  have HC := Lib.hid (And.intro hc1 hc2)
  clear hc1 hc2 ha1 ha2
  have HK3 := Lib.hid hs3
  have KBO := Lib.hid O_3
  have hz39 : w2.heap.size + 1 ≤ w3.heap.size := by have := O_3.lt; omega
  have hz38 : w.heap.size < w3.heap.size := by have := S_3.lt; omega
  have hz_3 := hs3.size
  clear hb3 HP_2 HG_2 P_2 S_2 HPo hB_2 hs3
  have qO_0 := O_3.cells 0 _ rfl
  have qO_1 := O_3.cells 1 _ rfl
  have qlO := O_3.lt
  have qS_0 := S_3.cells 0 _ rfl
  have qS_1 := S_3.cells 1 _ rfl
  have qS_2 := S_3.cells 2 _ rfl
  have qlS := S_3.lt
  simp only [List.getElem_toArray, List.getElem_cons_zero, List.getElem_cons_succ] at qO_0 qO_1 qS_0 qS_1 qS_2
  go_wp2_with fail
  refine (rnext_any p ⟨s0, s1, s2⟩ deeds Ao Ao' n m co co' _ (HPo_3.step (by go_grown)) (by omega) (by omega)).mono ?_
  rintro e w4 ⟨v, rfl, hO4, hb4⟩
  clear qlO qlS qO_0 qO_1 qS_0 qS_1 qS_2
  have hs4 : Below w3.heap.size w3 w4 := Below.trans (by go_grown) (hb4.mono (by first | (simp; done) | (simp; omega)))
  have HG_4 := HG_3.on hs4
  have HCR_4 := Lib.hid (And.intro (own_below HC.out.1 hs4 (Nat.le_refl _)) (own_below HC.out.2 hs4 (Nat.le_refl _)))
  have B_4 := ((Blk.new_at (g := w3.heap.size) (by simp) _ _).alloc _).below hb4 (by first | (simp; done) | (simp; omega))
  have C_4 := (Blk.new_at (g := w3.heap.size + 1) (by simp) _ _).below hb4 (by first | (simp; done) | (simp; omega))
  have hB_4 := hB_3.trans (hs4.mono hB_3.size)
  rw [HW.out] at hO4 ⊢
  unfold srcV
  dsimp only at hO4 ⊢
  obtain ⟨Ad, cd, Ad', cd', rfl, HPd⟩ := hO4.at_
  clear hO4
  have HK4 := Lib.hid (HK3.out.trans (hs4.mono HK3.out.size))
  have KK4 := Lib.hid hs4
  have hz_4 := hs4.size
  clear hb4 HP_3 HG_3 P_3 S_3 HPo_3 O_3 HC hB_3 hs4
  have qB_0 := B_4.cells 0 _ rfl
  have qB_1 := B_4.cells 1 _ rfl
  have qB_2 := B_4.cells 2 _ rfl
  have qlB := B_4.lt
  have qC_0 := C_4.cells 0 _ rfl
  have qC_1 := C_4.cells 1 _ rfl
  have qlC := C_4.lt
  simp only [List.getElem_toArray, List.getElem_cons_zero, List.getElem_cons_succ] at qB_0 qB_1 qB_2 qC_0 qC_1
  go_wp2_with fail
  refine (psame_any q q Ac Ac' Ad Ad' _ _ cc cc' _ _ cd cd' _ ((rows_pre2 HCR_4.out.1 HCR_4.out.2).step (by go_grown)) (HPd.step (by go_grown)) (by have := HQ.out; omega) (by have := HQ.out; omega)).mono ?_
  rintro e w5 ⟨rfl, hb5⟩
  clear qlB qlC qB_0 qB_1 qB_2 qC_0 qC_1
  have hs5 : Below w4.heap.size w4 w5 := Below.trans (by go_grown) (hb5.mono (by first | (simp; done) | (simp; omega)))
  have HG_5 := HG_4.on hs5
  have HCR_5 := Lib.hid (And.intro (own_below HCR_4.out.1 hs5 (Nat.le_refl _)) (own_below HCR_4.out.2 hs5 (Nat.le_refl _)))
  have C_5 := C_4.below hs5 C_4.lt
  have hB_5 := hB_4.trans (hs5.mono hB_4.size)
  rw [samePl_refl]
  have HK5 := Lib.hid (HK4.out.trans (hs5.mono HK4.out.size))
  have KK5 := Lib.hid (KK4.out.trans (hs5.mono KK4.out.size))
  have hz_5 := hs5.size
  clear hb5 HG_4 HCR_4 B_4 C_4 HPd hB_4 hs5
  have qC_0 := C_5.cells 0 _ rfl
  have qC_1 := C_5.cells 1 _ rfl
  have qlC := C_5.lt
  simp only [List.getElem_toArray, List.getElem_cons_zero, List.getElem_cons_succ] at qC_0 qC_1
  generalize q.sectors.length = lq at *
  go_wp2_with fail
  clear qlC qC_0 qC_1
  have HCB := Lib.hid C_5
  go_loopw [17] (fun iv wr => ∃ k : Nat, k ≤ lq ∧ iv = .int .i64 k ∧ Below (w2.heap.size + 1) w5 wr ∧ Hid (Blk wr (w3.heap.size + 1) 25 #[.slice Ac lq cc, .slice Ac' q.cache.length cc']) ∧ Hid (∃ xs, wr.ownsRow (w2.heap.size + 1) 9 1 (.slice Ac lq cc) lq xs)) (fun iv _ => lq - (intOf iv).toNat)
  case atStart => exact ⟨0, Nat.zero_le _, rfl, Below.refl _ _, HCB.out, ⟨_, HCR_5.out.1⟩⟩
  case round =>
    obtain ⟨k, hk, rfl, hBr, HX, HO⟩ := hrel
    have hq9 : lq ≤ 1000 := HQ.out.1
    have q0 := HX.out.cells 0 _ rfl
    have ql := HX.out.lt
    simp only [List.getElem_toArray, List.getElem_cons_zero] at q0
    by_cases hlt : k < lq
    · obtain ⟨xs, ho⟩ := HO.out
      obtain ⟨A3, c3, hv, _, _, h0⟩ := own_form ho
      obtain ⟨rfl, rfl⟩ : Ac = A3 ∧ cc = c3 := by injection hv with h1 _ h2; exact ⟨h1, h2⟩
      obtain ⟨b, rfl, hbB, hbw⟩ := h0.resolve_left (by omega)
      have hxl : k < xs.length := by rw [ho.1]; omega
      have o0 : _ = _ := ho.cellAt k (by omega)
      rw [List.getElem?_eq_getElem hxl] at o0
      have of := ho.frozenAt k
      have HS := Lib.hid (And.intro ho (own_far_ne ho HX.out))
      generalize xs[k] = xk at o0
      have HBr := Lib.hid hBr
      clear ho hv h0 hBr hxl
      go_wp2_with fail
      go_roundw
      case rel => exact ⟨k + 1, by omega, by go_num, HBr.out.setCell hbB _, HX.out.far HS.out.2 _, ⟨_, (HS.out.1.stored k _).1⟩⟩
      case measure => simp [intOf]; omega
    · obtain rfl : k = lq := by omega
      have hT : Below w2.heap.size w2 wr := HK5.out.trans (hBr.mono (by omega))
      have hB9 := KB.out.trans (hT.mono KB.out.size)
      have HP9 := KP.out.on hT
      have HO9 := KO.out.on hT
      have hP9 := KBP.out.below hT KBP.out.lt
      have hO9 := KBO.out.below ((KK5.out.mono hz39).trans hBr) (by simp)
      have HG9 := KG.out.on hT
      have hz9 := hT.size
      clear hBr
      go_wp2_with fail
      refine (ntold_any _ (HG9.step (by go_grown))).mono ?_
      rintro e w8 ⟨rfl, hb8⟩
      have hB8 := hB9.trans (hb8.mono hB9.size)
      have HP8 := HP9.on hb8
      have HO8 := HO9.on hb8
      have hP8 := hP9.below hb8 hP9.lt
      have hO8 := hO9.below hb8 hO9.lt
      clear hb8 hB9 HP9 HO9 hP9 hO9 q0 ql
      have p0 := hP8.cells 0 _ rfl
      have p1 := hP8.cells 1 _ rfl
      have o0 := hO8.cells 0 _ rfl
      have o1 := hO8.cells 1 _ rfl
      have hpl := hP8.lt
      have hol := hO8.lt
      simp only [List.getElem_toArray, List.getElem_cons_zero, List.getElem_cons_succ] at p0 p1 o0 o1
      go_wp2_with fail
      refine (psame_any p p A A' Ao Ao' n m c d n m co co' _ (HP8.step (by go_grown)) (HO8.step (by go_grown)) (by omega) (by omega)).mono ?_
      rintro e w9 ⟨rfl, hb9⟩
      rw [samePl_refl]
      go_wp2_with fail
      go_ret
      exact ⟨rfl, hB8.trans (hb9.mono hB8.size)⟩

theorem nnext_law (p : Plat) (so : Src) (deeds : Int) (A A' : Option Addr) (c d : Nat) (w : World) (hP : PlatAt w w.heap.size A p.sectors.length A' p.cache.length p) (hG : Pows w) :
    Calls Tryd.prog 4 #[.agg #[.slice A p.sectors.length c, .slice A' p.cache.length d], .agg #[.int .i64 so.pos, .int .i64 so.next, .int .i64 so.limit], .int .i64 deeds] w fun e w' => e = .returned (.bool true) ∧ Below w.heap.size w w' := by
  by_cases hb : bigP p = true
  · exact nnext_far p so deeds A A' _ _ c d w hP hb
  · have hb : bigP p = false := by simpa using hb
    have hs : p.sectors.length ≤ 300 ∧ p.cache.length ≤ 200 := by
      have h := hb
      simp only [bigP, Bool.or_eq_false_iff, decide_eq_false_iff_not] at h
      omega
    obtain ⟨T, ⟨sp, sn, sl⟩, q, er, hW⟩ : ∃ a b c d, nextN p so deeds = (a, b, c, d) := ⟨_, _, _, _, rfl⟩
    have hq := next_len p so deeds ⟨by omega, by omega⟩
    rw [hW] at hq
    exact nnext_in p so deeds A A' _ _ c d w hP hs.1 hs.2 hb hG (Lib.hid ⟨rfl, rfl⟩) T sp sn sl q er (Lib.hid hW) (Lib.hid hq)
end Go.Proofs.YtefodifmfjpnlaaDoor
