/- session: chapter 20's rows. -/
import Derived.Test.YtbgohcedakpnbaaDoorSesF
import Derived.Test.YtbgohcedakpnbaaDoorManyT
set_option linter.unusedVariables false
namespace Go.Proofs.YtbgohcedakpnbaaDoor
open Go.RowKit
def HTab (w : World) : Prop := Hid (Rounds w ∧ Turns w)
theorem HTab.on {w W : World} (h : HTab w) (hb : Below w.heap.size w W) : HTab W := Lib.hid ⟨rounds_of h.out.1 hb, h.out.2.below hb h.out.2.pos⟩
theorem HTab.step {w W : World} (h : HTab w) (hb : Below w.heap.size w W) : Rounds W ∧ Turns W := (h.on hb).out
def kS : ByteArray := expB (macB ⟨#[120]⟩ (tmanyB 1 32)) sessB 32
def sealS (side n : Nat) (s : ByteArray) : ByteArray := (sealF kS (sesN side n) frameB s).1
set_option maxRecDepth 1000000 in
theorem far20 : (openF kS (sesN 1 1) frameB (sealS 0 1 ⟨#[97]⟩)).2 = 60 := by decide +kernel
theorem kS_size : kS.size = 32 := expB_size _ _ _
theorem sealS_is (side n : Nat) (s : ByteArray) (hs : s.size ≤ 4000) : sealF kS (sesN side n) frameB s = (sealS side n s, 0) ∧ (sealS side n s).size = s.size + 16 := by
  obtain ⟨x, h1, h2⟩ := seal_is kS (sesN side n) s kS_size (sesN_size _ _) hs
  have h3 : sealS side n s = x := by unfold sealS; rw [h1]
  rw [h3]
  exact ⟨h1, h2⟩
def zeroS : Value := .agg #[.string ⟨#[]⟩, .int .i64 0, .int .i64 0, .int .i64 0]
def SV (K : ByteArray) (side sent seen : Int) : Value := .agg #[.string K, .int .i64 side, .int .i64 sent, .int .i64 seen]
set_option maxRecDepth 100000 in
set_option maxHeartbeats 4000000 in
theorem slines_in (Y K F1 F2 : ByteArray) (w : World) (hT : HTab w) (hY : tmanyB 1 32 = Y)
    (hP : ∀ W, Rounds W → Calls Tryd.prog 24 #[.string Y, .string ⟨#[120]⟩] W fun e w' => e = .returned (.tuple #[.agg #[.string K, .int .i64 0, .int .i64 0, .int .i64 0], .agg #[.string K, .int .i64 1, .int .i64 0, .int .i64 0], .int .i64 0]) ∧ Below W.heap.size W w')
    (h1 : ∀ W, Turns W → Calls Tryd.prog 26 #[.agg #[.string K, .int .i64 0, .int .i64 0, .int .i64 0], .string ⟨#[97]⟩] W fun e w' => e = .returned (.tuple #[.string F1, .agg #[.string K, .int .i64 0, .int .i64 1, .int .i64 0], .int .i64 0]) ∧ Below W.heap.size W w')
    (h2 : ∀ W, Turns W → Calls Tryd.prog 26 #[.agg #[.string K, .int .i64 0, .int .i64 1, .int .i64 0], .string ⟨#[98]⟩] W fun e w' => e = .returned (.tuple #[.string F2, .agg #[.string K, .int .i64 0, .int .i64 2, .int .i64 0], .int .i64 0]) ∧ Below W.heap.size W w')
    (h3 : ∀ W, Turns W → Calls Tryd.prog 27 #[.agg #[.string K, .int .i64 1, .int .i64 0, .int .i64 0], .string F2] W fun e w' => e = .returned (.tuple #[.string ⟨#[98]⟩, .agg #[.string K, .int .i64 1, .int .i64 0, .int .i64 2], .int .i64 0]) ∧ Below W.heap.size W w')
    (h4 : ∀ W, Calls Tryd.prog 27 #[.agg #[.string K, .int .i64 1, .int .i64 0, .int .i64 2], .string F1] W fun e w' => e = .returned (.tuple #[.string ⟨#[]⟩, .agg #[.string ⟨#[]⟩, .int .i64 0, .int .i64 0, .int .i64 0], .int .i64 200]) ∧ Below W.heap.size W w')
    (h5 : ∀ W, Calls Tryd.prog 27 #[.agg #[.string K, .int .i64 1, .int .i64 0, .int .i64 2], .string F2] W fun e w' => e = .returned (.tuple #[.string ⟨#[]⟩, .agg #[.string ⟨#[]⟩, .int .i64 0, .int .i64 0, .int .i64 0], .int .i64 200]) ∧ Below W.heap.size W w')
    (h6 : ∀ W, Turns W → Calls Tryd.prog 27 #[.agg #[.string K, .int .i64 0, .int .i64 1, .int .i64 0], .string F1] W fun e w' => e = .returned (.tuple #[.string ⟨#[]⟩, .agg #[.string ⟨#[]⟩, .int .i64 0, .int .i64 0, .int .i64 0], .int .i64 60]) ∧ Below W.heap.size W w')
    (h7 : ∀ W, Calls Tryd.prog 28 #[.string F2] W fun e w' => e = .returned (.tuple #[.int .i64 2, .bool true]) ∧ W = w') :
    Calls Tryd.prog 25 #[] w fun e w' => e = .returned (.bool true) ∧ Below w.heap.size w w' := by
  have HG : HTab w := hT
  have HY := Lib.hid hY
  have HP := Lib.hid hP
  have H1 := Lib.hid h1
  have H2 := Lib.hid h2
  have H3 := Lib.hid h3
  have H4 := Lib.hid h4
  have H5 := Lib.hid h5
  have H6 := Lib.hid h6
  have H7 := Lib.hid h7
  clear hT hY hP h1 h2 h3 h4 h5 h6 h7
  go_enter Tryd.func25, Tryd.ntmps25
  go_wp2_with fail
  refine (tmany_any 1 32 _ (by decide)).mono ?_
  rintro e w1 ⟨rfl, hb1⟩
  have hs1 : Below w.heap.size w w1 := Below.trans (by go_grown) (hb1.mono (by first | (simp; done) | (simp; omega)))
  have HG_1 := HG.on hs1
  have hB_1 := hs1
  rw [HY.out]
  have hz_1 := hs1.size
  clear hb1 HG hs1
  go_wp2_with fail
  refine (HP.out _ ((HG_1.step (by go_grown)).1)).mono ?_
  rintro e w2 ⟨rfl, hb2⟩
  have hs2 : Below w1.heap.size w1 w2 := Below.trans (by go_grown) (hb2.mono (by first | (simp; done) | (simp; omega)))
  have HG_2 := HG_1.on hs2
  have hB_2 := hB_1.trans (hs2.mono hB_1.size)
  have hz_2 := hs2.size
  clear hb2 HG_1 hB_1 hs2
  go_wp2_with fail
  refine (H1.out _ ((HG_2.step (by go_grown)).2)).mono ?_
  rintro e w3 ⟨rfl, hb3⟩
  have hs3 : Below w2.heap.size w2 w3 := Below.trans (by go_grown) (hb3.mono (by first | (simp; done) | (simp; omega)))
  have HG_3 := HG_2.on hs3
  have a_3 := ((Blk.new_at (g := w2.heap.size) (by simp) _ _).alloc _).below hb3 (by first | (simp; done) | (simp; omega))
  have b_3 := (Blk.new_at (g := w2.heap.size + 1) (by simp) _ _).below hb3 (by first | (simp; done) | (simp; omega))
  have hB_3 := hB_2.trans (hs3.mono hB_2.size)
  have hz_3 := hs3.size
  clear hb3 HG_2 hB_2 hs3
  go_wp2_with fail
  refine (H2.out _ ((HG_3.step (by go_grown)).2)).mono ?_
  rintro e w4 ⟨rfl, hb4⟩
  have hs4 : Below w3.heap.size w3 w4 := Below.trans (by go_grown) (hb4.mono (by first | (simp; done) | (simp; omega)))
  have HG_4 := HG_3.on hs4
  have a_4 := a_3.below hs4 a_3.lt
  have b_4 := b_3.below hs4 b_3.lt
  have a1_4 := (Blk.new_at (g := w3.heap.size) (by simp) _ _).below hb4 (by first | (simp; done) | (simp; omega))
  have hB_4 := hB_3.trans (hs4.mono hB_3.size)
  have hz_4 := hs4.size
  clear hb4 HG_3 a_3 b_3 hB_3 hs4
  have qb_0 := b_4.cells 0 _ rfl
  have qb_1 := b_4.cells 1 _ rfl
  have qb_2 := b_4.cells 2 _ rfl
  have qb_3 := b_4.cells 3 _ rfl
  have qlb := b_4.lt
  simp only [List.getElem_toArray, List.getElem_cons_zero, List.getElem_cons_succ] at qb_0 qb_1 qb_2 qb_3
  go_wp2_with fail
  refine (H3.out _ ((HG_4.step (by go_grown)).2)).mono ?_
  rintro e w5 ⟨rfl, hb5⟩
  clear qlb qb_0 qb_1 qb_2 qb_3
  have hs5 : Below w4.heap.size w4 w5 := Below.trans (by go_grown) (hb5.mono (by first | (simp; done) | (simp; omega)))
  have HG_5 := HG_4.on hs5
  have a_5 := a_4.below hs5 a_4.lt
  have b_5 := b_4.below hs5 b_4.lt
  have a1_5 := a1_4.below hs5 a1_4.lt
  have x2_5 := (Blk.new_at (g := w4.heap.size) (by simp) _ _).below hb5 (by first | (simp; done) | (simp; omega))
  have hB_5 := hB_4.trans (hs5.mono hB_4.size)
  have hz_5 := hs5.size
  clear hb5 HG_4 a_4 b_4 a1_4 hB_4 hs5
  go_wp2_with fail
  refine (H4.out _).mono ?_
  rintro e w6 ⟨rfl, hb6⟩
  have hs6 : Below w5.heap.size w5 w6 := Below.trans (by go_grown) (hb6.mono (by first | (simp; done) | (simp; omega)))
  have HG_6 := HG_5.on hs6
  have a_6 := a_5.below hs6 a_5.lt
  have b_6 := b_5.below hs6 b_5.lt
  have a1_6 := a1_5.below hs6 a1_5.lt
  have x2_6 := x2_5.below hs6 x2_5.lt
  have b1_6 := (Blk.new_at (g := w5.heap.size) (by simp) _ _).below hb6 (by first | (simp; done) | (simp; omega))
  have hB_6 := hB_5.trans (hs6.mono hB_5.size)
  have hz_6 := hs6.size
  clear hb6 HG_5 a_5 b_5 a1_5 x2_5 hB_5 hs6
  have qb1_0 := b1_6.cells 0 _ rfl
  have qb1_1 := b1_6.cells 1 _ rfl
  have qb1_2 := b1_6.cells 2 _ rfl
  have qb1_3 := b1_6.cells 3 _ rfl
  have qlb1 := b1_6.lt
  simp only [List.getElem_toArray, List.getElem_cons_zero, List.getElem_cons_succ] at qb1_0 qb1_1 qb1_2 qb1_3
  go_wp2_with fail
  refine (H5.out _).mono ?_
  rintro e w7 ⟨rfl, hb7⟩
  clear qlb1 qb1_0 qb1_1 qb1_2 qb1_3
  have hs7 : Below w6.heap.size w6 w7 := Below.trans (by go_grown) (hb7.mono (by first | (simp; done) | (simp; omega)))
  have HG_7 := HG_6.on hs7
  have a_7 := a_6.below hs7 a_6.lt
  have b_7 := b_6.below hs7 b_6.lt
  have a1_7 := a1_6.below hs7 a1_6.lt
  have x2_7 := x2_6.below hs7 x2_6.lt
  have b1_7 := b1_6.below hs7 b1_6.lt
  have x3_7 := (Blk.new_at (g := w6.heap.size) (by simp) _ _).below hb7 (by first | (simp; done) | (simp; omega))
  have hB_7 := hB_6.trans (hs7.mono hB_6.size)
  have hz_7 := hs7.size
  clear hb7 HG_6 a_6 b_6 a1_6 x2_6 b1_6 hB_6 hs7
  have qa1_0 := a1_7.cells 0 _ rfl
  have qa1_1 := a1_7.cells 1 _ rfl
  have qa1_2 := a1_7.cells 2 _ rfl
  have qa1_3 := a1_7.cells 3 _ rfl
  have qla1 := a1_7.lt
  simp only [List.getElem_toArray, List.getElem_cons_zero, List.getElem_cons_succ] at qa1_0 qa1_1 qa1_2 qa1_3
  go_wp2_with fail
  refine (H6.out _ ((HG_7.step (by go_grown)).2)).mono ?_
  rintro e w8 ⟨rfl, hb8⟩
  clear qla1 qa1_0 qa1_1 qa1_2 qa1_3
  have hs8 : Below w7.heap.size w7 w8 := Below.trans (by go_grown) (hb8.mono (by first | (simp; done) | (simp; omega)))
  have HG_8 := HG_7.on hs8
  have a_8 := a_7.below hs8 a_7.lt
  have b_8 := b_7.below hs8 b_7.lt
  have a1_8 := a1_7.below hs8 a1_7.lt
  have x2_8 := x2_7.below hs8 x2_7.lt
  have b1_8 := b1_7.below hs8 b1_7.lt
  have x3_8 := x3_7.below hs8 x3_7.lt
  have x4_8 := (Blk.new_at (g := w7.heap.size) (by simp) _ _).below hb8 (by first | (simp; done) | (simp; omega))
  have hB_8 := hB_7.trans (hs8.mono hB_7.size)
  have hz_8 := hs8.size
  clear hb8 HG_7 a_7 b_7 a1_7 x2_7 b1_7 x3_7 hB_7 hs8
  go_wp2_with fail
  refine (H7.out _).mono ?_
  rintro e w9 ⟨rfl, rfl⟩
  go_wp2_with fail
  go_ret
  exact ⟨rfl, by have h := hB_8; go_grown⟩
theorem slines_any (w : World) (hT : HTab w) : Calls Tryd.prog 25 #[] w fun e w' => e = .returned (.bool true) ∧ Below w.heap.size w w' := by
  have hk := kS_size
  obtain ⟨s1, z1⟩ := sealS_is 0 1 ⟨#[97]⟩ (by decide)
  obtain ⟨s2, z2⟩ := sealS_is 0 2 ⟨#[98]⟩ (by decide)
  have y1 : (sealS 0 1 ⟨#[97]⟩).size = 17 := z1
  have y2 : (sealS 0 2 ⟨#[98]⟩).size = 17 := z2
  have f1 := frame_is 1 (sealS 0 1 ⟨#[97]⟩) (by omega) (by omega) (by omega)
  have f2 := frame_is 2 (sealS 0 2 ⟨#[98]⟩) (by omega) (by omega) (by omega)
  obtain ⟨K, hK, hKe, hD⟩ := derive_some (tmanyB 1 32) ⟨#[120]⟩ (by rw [tmanyB_size]; omega) (by decide)
  have hKS : K = kS := hKe (by decide)
  subst hKS
  have ho : openF kS (sesN 0 2) frameB (sealS 0 2 ⟨#[98]⟩) = (⟨#[98]⟩, 0) := seal_open s2
  obtain ⟨T6, e6⟩ : ∃ T, openF kS (sesN 1 1) frameB (sealS 0 1 ⟨#[97]⟩) = (T, 60) := ⟨_, by rw [← far20]⟩
  exact slines_in (tmanyB 1 32) kS (be8 1 ++ sealS 0 1 ⟨#[97]⟩) (be8 2 ++ sealS 0 2 ⟨#[98]⟩) w hT rfl
    (fun W h => pair_good (tmanyB 1 32) ⟨#[120]⟩ kS W (tmanyB_size _ _) h hD)
    (fun W h => send_any kS ⟨#[97]⟩ _ 0 0 0 W h hk (by omega) (by omega) (by omega) (by decide) s1 (by omega))
    (fun W h => send_any kS ⟨#[98]⟩ _ 0 1 0 W h hk (by omega) (by omega) (by omega) (by decide) s2 (by omega))
    (fun W h => recv_any kS _ _ ⟨#[98]⟩ 0 1 0 0 0 2 W h hk rfl (by omega) (by omega) f2 (by omega) ho)
    (fun W => recv_replay kS _ _ 1 0 2 1 W hk (by omega) (by omega) (by omega) f1 (by omega))
    (fun W => recv_replay kS _ _ 1 0 2 2 W hk (by omega) (by omega) (by omega) f2 (by omega))
    (fun W h => recv_any kS _ _ T6 60 0 1 1 0 1 W h hk rfl (by omega) (by omega) f1 (by omega) e6)
    (fun W => by
      have h := number_any (be8 2 ++ sealS 0 2 ⟨#[98]⟩) W (by have := f2.2.2.2.1; omega)
      rw [f2.1] at h
      exact h)
end Go.Proofs.YtbgohcedakpnbaaDoor
