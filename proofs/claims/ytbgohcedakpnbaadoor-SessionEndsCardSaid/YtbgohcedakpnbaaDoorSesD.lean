/- session: Send. -/
import Derived.Test.YtbgohcedakpnbaaDoorSesB
import Derived.Test.YtbgohcedakpnbaaDoorSealD
import Derived.Deep.RegionHeld3
set_option linter.unusedVariables false
namespace Go.Proofs.YtbgohcedakpnbaaDoor
open Go.RowKit
def frameB : ByteArray := ⟨#[102, 114, 97, 109, 101]⟩
theorem seal_is (K nonce s : ByteArray) (hK : K.size = 32) (hn : nonce.size = 12) (hs : s.size ≤ 4000) : ∃ x, sealF K nonce frameB s = (x, 0) ∧ x.size = s.size + 16 := by
  have h : sealF K nonce frameB s = ((sealF K nonce frameB s).1, 0) := by
    unfold sealF
    rw [if_neg (by omega), if_neg (by have : frameB.size = 5 := rfl; omega)]
  exact ⟨_, h, seal_size h⟩
set_option maxRecDepth 100000 in
set_option maxHeartbeats 4000000 in
theorem send_any (K T X : ByteArray) (side sent seen : Nat) (w : World) (hG : Turns w) (hK : K.size = 32) (hs : side ≤ 1) (h1 : sent < 1000000000) (h2 : seen ≤ 1000000000) (hT : T.size ≤ 4000) (hX : sealF K (sesN side (sent + 1)) frameB T = (X, 0)) (hXs : X.size ≤ 4016) :
    Calls Tryd.prog 26 #[sesV K side sent seen, .string T] w fun e w' => e = .returned (.tuple #[.string (be8 (sent + 1) ++ X), sesV K side ((sent + 1 : Nat) : Int) seen, .int .i64 0]) ∧ Below w.heap.size w w' := by
  have HR := Lib.hid (fun W => sright_any K side sent seen W hK hs (by omega) h2)
  have HF := Lib.hid (fun W => ftext_any (sent + 1) X W (by omega) (by omega))
  have HSE : Hid (∀ W, Turns W → Calls Tryd.prog 49 #[.string K, .string (sesN side (sent + 1)), .string ⟨#[102, 114, 97, 109, 101]⟩, .string T] W fun e w' => e = .returned (.tuple #[.string X, .int .i64 0]) ∧ Below W.heap.size W w') := Lib.hid (fun W hW => by
    have h := seal_any K (sesN side (sent + 1)) frameB T W hW (by decide) (by omega)
    rw [hX] at h
    exact h)
  have HNO := Lib.hid (fun (g : Nat) (W : World) (h : Blk W g 9 #[.string (headN side)]) => nonce_any side (sent + 1) g W (by omega) h)
  have t1 : ((sent : Int) == 1000000000) = false := by simp; omega
  have t2 : (sent : Int) + 1 = ((sent + 1 : Nat) : Int) := by omega
  have t3 : IntKind.i64.wrap (((sent + 1 : Nat)) : Int) = ((sent + 1 : Nat) : Int) := wrap_i64_nat _ (by omega)
  generalize hF : be8 (sent + 1) ++ X = F at *
  generalize hN : sesN side (sent + 1) = N at *
  generalize hm : sent + 1 = m at *
  have HG := Lib.hid hG
  have hpos := hG.pos
  clear hX hXs hT h2 h1 hm hN hF hG
  unfold sesV at HR ⊢
  go_enter Tryd.func26, Tryd.ntmps26
  go_wp2_with fail
  refine (HR.out _).mono ?_
  rintro e w1 ⟨rfl, hb1⟩
  have hB1 : Below w.heap.size w w1 := Below.trans (by go_grown) (hb1.mono (by simp; omega))
  have hR1 : Blk w1 w.heap.size 41 #[.string K, .int .i64 side, .int .i64 sent, .int .i64 seen] := ((Blk.new w _ _).alloc _).below hb1 (by simp; omega)
  have hR2 : Blk w1 (w.heap.size + 1) 41 #[.string ⟨#[]⟩, .int .i64 0, .int .i64 0, .int .i64 0] := (Blk.new_at (by simp) _ _).below hb1 (by simp)
  have hz1 := hR2.lt
  have HR1 := Lib.hid hR1
  have HR2 := Lib.hid hR2
  have a1 := hR1.cells 1 _ rfl
  have a2 := hR1.cells 2 _ rfl
  simp only [List.getElem_toArray, List.getElem_cons_zero, List.getElem_cons_succ] at a1 a2
  clear hR1 hR2 hb1
  go_wp2_with fail
  refine (nonces_any side w1 hs).mono ?_
  rintro e w2 ⟨rfl, hH2, hb2⟩
  have hB2 : Below w.heap.size w w2 := hB1.trans (hb2.mono hB1.size)
  have HS1 := Lib.hid (HR1.out.below hb2 HR1.out.lt)
  have HS2 := Lib.hid (HR2.out.below hb2 HR2.out.lt)
  have hz2 := hH2.lt
  have hz12 : w.heap.size + 1 < w2.heap.size := HS2.out.lt
  clear a1 a2 HR1 HR2 hB1 hb2
  have a0 := HS1.out.cells 0 _ rfl
  have a2 := HS1.out.cells 2 _ rfl
  simp only [List.getElem_toArray, List.getElem_cons_zero, List.getElem_cons_succ] at a0 a2
  have HH2 := Lib.hid hH2
  generalize w1.heap.size + 1 = gn at *
  have HI : Hid (∀ W, Below w2.heap.size w2 W → Blk W w.heap.size 41 #[.string K, .int .i64 side, .int .i64 sent, .int .i64 seen] ∧ Blk W (w.heap.size + 1) 41 #[.string ⟨#[]⟩, .int .i64 0, .int .i64 0, .int .i64 0] ∧ Blk W gn 9 #[.string (headN side)] ∧ Turns W ∧ Below w.heap.size w W) := Lib.hid (fun W hb =>
    ⟨HS1.out.below hb HS1.out.lt, HS2.out.below hb HS2.out.lt, HH2.out.below hb HH2.out.lt, HG.out.below (hB2.trans (hb.mono hB2.size)) hpos, hB2.trans (hb.mono hB2.size)⟩)
  unfold fnN
  go_wp2_with fail
  have HQ : Hid (∀ W, Below (w2.heap.size + 1) (w2.alloc (.cells #[.int .i64 m, .string ⟨#[]⟩] 84)) W → Blk W w2.heap.size 84 #[.int .i64 m, .string ⟨#[]⟩] ∧ Below w2.heap.size w2 W) := Lib.hid (fun W hb =>
    ⟨(Blk.new w2 _ _).below hb (by omega), Below.trans (by go_grown) (hb.mono (by omega))⟩)
  have HC : Hid (∀ W, Below (w2.heap.size + 1) (w2.alloc (.cells #[.int .i64 m, .string ⟨#[]⟩] 84)) W → W.cell? ⟨w.heap.size, 0, none⟩ = some (.string K) ∧ W.cell? ⟨w2.heap.size, 0, none⟩ = some (.int .i64 m)) := Lib.hid (fun W hb =>
    ⟨(HI.out W (HQ.out W hb).2).1.cells 0 _ rfl, (HQ.out W hb).1.cells 0 _ rfl⟩)
  clear a0 a2 HS1 HS2 HH2 HG hB2 hH2
  go_region_held3 (fun W => W.cell? ⟨w.heap.size, 0, none⟩ = some (.string K) ∧ W.cell? ⟨w2.heap.size, 0, none⟩ = some (.int .i64 m))
    ((refine HC.out _ ?_; go_grown))
    (first
      | (go_at_call 64; (with_reducible refine Calls.mono (HNO.out gn _ (HI.out _ (by go_grown)).2.2.1) ?_); rintro e w3 ⟨rfl, hb3⟩; have hB3 : Below (w2.heap.size + 1) (w2.alloc (.cells #[.int .i64 m, .string ⟨#[]⟩] 84)) w3 := Below.trans (by go_grown) (hb3.mono (by simp)); have hs3 : w2.heap.size + 1 ≤ w3.heap.size := Nat.le_trans (Nat.le_of_eq (by simp)) hB3.size; clear hb3)
      | (go_at_call 49; (with_reducible refine Calls.mono (HSE.out _ (HI.out _ (HQ.out _ (by go_grown)).2).2.2.2.1) ?_); rintro e w4 ⟨rfl, hb4⟩; have hB4 : Below (w2.heap.size + 1) (w2.alloc (.cells #[.int .i64 m, .string ⟨#[]⟩] 84)) w4 := Below.trans (by go_grown) (hb4.mono (by first | omega | (simp; omega))); have hs4 : w2.heap.size + 1 ≤ w4.heap.size := Nat.le_trans (Nat.le_of_eq (by simp)) hB4.size; clear hb4))
  obtain ⟨hI1, hI2, hI3, hI4, hI5⟩ := HI.out w4 (HQ.out w4 hB4).2
  obtain ⟨hQ1, hQ2⟩ := HQ.out w4 hB4
  have a2 := hI1.cells 2 _ rfl
  have af := hI1.frozen
  have q1 := hQ1.cells 1 _ rfl
  have qf := hQ1.frozen
  simp only [List.getElem_toArray, List.getElem_cons_zero, List.getElem_cons_succ] at a2 q1
  have hne : w.heap.size ≠ w2.heap.size := by have := hI1.lt; omega
  have hne2 : w2.heap.size ≠ w.heap.size := fun e => hne e.symm
  have hne3 : w.heap.size + 1 ≠ w2.heap.size := by omega
  have HE : Hid (Blk ((w4.setCell ⟨w2.heap.size, 1, none⟩ (.string X)).setCell ⟨w.heap.size, 2, none⟩ (.int .i64 m)) w.heap.size 41 #[.string K, .int .i64 side, .int .i64 m, .int .i64 seen]
      ∧ Blk ((w4.setCell ⟨w2.heap.size, 1, none⟩ (.string X)).setCell ⟨w.heap.size, 2, none⟩ (.int .i64 m)) (w.heap.size + 1) 41 #[.string ⟨#[]⟩, .int .i64 0, .int .i64 0, .int .i64 0]
      ∧ Blk ((w4.setCell ⟨w2.heap.size, 1, none⟩ (.string X)).setCell ⟨w.heap.size, 2, none⟩ (.int .i64 m)) w2.heap.size 84 #[.int .i64 m, .string X]
      ∧ Below w.heap.size w ((w4.setCell ⟨w2.heap.size, 1, none⟩ (.string X)).setCell ⟨w.heap.size, 2, none⟩ (.int .i64 m))) := Lib.hid ⟨
    ((hI1.far (p := ⟨w2.heap.size, 1, none⟩) hne (.string X)).set_ 2 (.int .i64 m)), (hI2.far (p := ⟨w2.heap.size, 1, none⟩) hne3 (.string X)).far (p := ⟨w.heap.size, 2, none⟩) (show w.heap.size + 1 ≠ w.heap.size by omega) (.int .i64 m),
    ((hQ1.set_ 1 (.string X)).far (p := ⟨w.heap.size, 2, none⟩) hne2 (.int .i64 m)), (hI5.setCell (show w.heap.size ≤ w2.heap.size by omega) _).setCell (Nat.le_refl _) _⟩
  clear hI1 hI2 hI3 hI4 hI5 hQ1 hQ2 hB3 hB4 HI HQ HC HNO HSE HR
  go_upto_region 12 with (fail)
  obtain ⟨w5, hw5⟩ : ∃ W : World, ((w4.setCell ⟨w2.heap.size, 1, none⟩ (.string X)).setCell ⟨w.heap.size, 2, none⟩ (.int .i64 m)) = W := ⟨_, rfl⟩
  rw [hw5] at HE ⊢
  clear hw5 a2 af q1 qf hne hne2 hne3
  have HK : Hid (∀ W, Below w5.heap.size w5 W → Blk W w.heap.size 41 #[.string K, .int .i64 side, .int .i64 m, .int .i64 seen] ∧ Blk W (w.heap.size + 1) 41 #[.string ⟨#[]⟩, .int .i64 0, .int .i64 0, .int .i64 0] ∧ Blk W w2.heap.size 84 #[.int .i64 m, .string X] ∧ Below w.heap.size w W) := Lib.hid (fun W hb =>
    ⟨HE.out.1.below hb HE.out.1.lt, HE.out.2.1.below hb HE.out.2.1.lt, HE.out.2.2.1.below hb HE.out.2.2.1.lt, HE.out.2.2.2.trans (hb.mono HE.out.2.2.2.size)⟩)
  obtain ⟨hk1, hk2, hk3, hk4⟩ := HK.out w5 (Below.refl _ _)
  have a0 := hk1.cells 0 _ rfl
  have a1 := hk1.cells 1 _ rfl
  have a2 := hk1.cells 2 _ rfl
  have a3 := hk1.cells 3 _ rfl
  have b0 := hk2.cells 0 _ rfl
  have b1 := hk2.cells 1 _ rfl
  have b2 := hk2.cells 2 _ rfl
  have b3 := hk2.cells 3 _ rfl
  have bf := hk2.frozen
  have q0 := hk3.cells 0 _ rfl
  have q1 := hk3.cells 1 _ rfl
  simp only [List.getElem_toArray, List.getElem_cons_zero, List.getElem_cons_succ] at a0 a1 a2 a3 b0 b1 b2 b3 q0 q1
  clear HE hk1 hk2 hk3 hk4
  go_region_with (go_at_call 50; (with_reducible refine Calls.mono (HF.out _) ?_); rintro e w6 ⟨rfl, hb6⟩; have hB6 : Below w5.heap.size w5 w6 := Below.trans (by go_grown) (hb6.mono (by simp)); clear hb6; obtain ⟨hk1, hk2, hk3, hk4⟩ := HK.out w6 hB6; have c0 := hk1.cells 0 _ rfl; have c1 := hk1.cells 1 _ rfl; have c2 := hk1.cells 2 _ rfl; have c3 := hk1.cells 3 _ rfl; have d0 := hk2.cells 0 _ rfl; have d1 := hk2.cells 1 _ rfl; have d2 := hk2.cells 2 _ rfl; have d3 := hk2.cells 3 _ rfl; have df := hk2.frozen; simp only [List.getElem_toArray, List.getElem_cons_zero, List.getElem_cons_succ] at c0 c1 c2 c3 d0 d1 d2 d3; clear hk1 hk2 hk3 hk4)
  all_goals go_wp2_with (with_reducible refine end_at ?_)
  all_goals obtain ⟨hk1, hk2, hk3, hk4⟩ := HK.out w6 hB6
  all_goals have hld := ses_load (ses_set hk2 (.string K) (.int .i64 side) (.int .i64 m) (.int .i64 seen))
  all_goals have hbE := ses_below hk4 (show w.heap.size ≤ w.heap.size + 1 by omega) (.string K) (.int .i64 side) (.int .i64 m) (.int .i64 seen)
  all_goals refine end_ret (v := .tuple #[.string F, .agg #[.string K, .int .i64 side, .int .i64 m, .int .i64 seen], .int .i64 0]) (by simp [results, Tryd.results26, asAddr, hld, Act.put]) rfl ⟨rfl, hbE⟩
end Go.Proofs.YtbgohcedakpnbaaDoor
