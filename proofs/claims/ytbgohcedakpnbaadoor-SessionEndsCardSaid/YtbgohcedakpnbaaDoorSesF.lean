/- session: Receive. -/
import Derived.Test.YtbgohcedakpnbaaDoorSesD
set_option linter.unusedVariables false
namespace Go.Proofs.YtbgohcedakpnbaaDoor
open Go.RowKit
/-- a frame: its number, what is sealed, and its length -/
def FrameIs (F X : ByteArray) (n : Nat) : Prop := numS F = ((n : Int), true) ∧ F.extract 8 F.size = X ∧ 8 ≤ F.size ∧ F.size ≤ 5000 ∧ 1 ≤ n ∧ n ≤ 1000000000
theorem frame_is (n : Nat) (X : ByteArray) (h1 : 1 ≤ n) (h2 : n ≤ 1000000000) (hX : X.size ≤ 4900) : FrameIs (be8 n ++ X) X n := by
  have hb := back_append (be8 n) X
  rw [be8_size] at hb
  exact ⟨numS_frame n X h1 h2, hb, by rw [be8_app]; omega, by rw [be8_app]; omega, h1, h2⟩
set_option maxRecDepth 100000 in
set_option maxHeartbeats 4000000 in
theorem recv_replay (K F X : ByteArray) (side sent seen n : Nat) (w : World) (hK : K.size = 32) (hs : side ≤ 1) (h1 : sent ≤ 1000000000) (h2 : seen ≤ 1000000000) (hF : FrameIs F X n) (hle : n ≤ seen) :
    Calls Tryd.prog 27 #[sesV K side sent seen, .string F] w fun e w' => e = .returned (.tuple #[.string ⟨#[]⟩, sesV ⟨#[]⟩ 0 0 0, .int .i64 200]) ∧ Below w.heap.size w w' := by
  obtain ⟨hN, hX, h8, h5, hn1, hn2⟩ := hF
  have HR := Lib.hid (fun W => sright_any K side sent seen W hK hs h1 h2)
  have HNU := Lib.hid (fun W => number_any F W (by omega))
  have HN := Lib.hid hN
  have t1 : decide (n ≤ seen) = true := by simp; omega
  clear hN hX h1 h2 hn1 hn2 hle hK hs
  unfold sesV at HR ⊢
  go_enter Tryd.func27, Tryd.ntmps27
  go_wp2_with fail
  refine (HR.out _).mono ?_
  rintro e w1 ⟨rfl, hb1⟩
  have hB1 : Below w.heap.size w w1 := Below.trans (by go_grown) (hb1.mono (by simp; omega))
  have hR1 : Blk w1 w.heap.size 41 #[.string K, .int .i64 side, .int .i64 sent, .int .i64 seen] := ((Blk.new w _ _).alloc _).below hb1 (by simp; omega)
  have hR2 : Blk w1 (w.heap.size + 1) 41 #[.string ⟨#[]⟩, .int .i64 0, .int .i64 0, .int .i64 0] := (Blk.new_at (by simp) _ _).below hb1 (by simp)
  have hz1 := hR2.lt
  have HR2 := Lib.hid hR2
  have a3 := hR1.cells 3 _ rfl
  have b0 := hR2.cells 0 _ rfl
  have b1 := hR2.cells 1 _ rfl
  have b2 := hR2.cells 2 _ rfl
  have b3 := hR2.cells 3 _ rfl
  have bf := hR2.frozen
  simp only [List.getElem_toArray, List.getElem_cons_zero, List.getElem_cons_succ] at a3 b0 b1 b2 b3
  clear hR1 hR2 hb1
  go_wp2_with fail
  refine (HNU.out _).mono ?_
  rintro e w2 ⟨rfl, rfl⟩
  rw [HN.out]
  dsimp only
  go_wp2_with (with_reducible refine end_at ?_)
  have hld := ses_load (ses_set HR2.out (.string ⟨#[]⟩) (.int .i64 0) (.int .i64 0) (.int .i64 0))
  have hbE := ses_below hB1 (show w.heap.size ≤ w.heap.size + 1 by omega) (.string ⟨#[]⟩) (.int .i64 0) (.int .i64 0) (.int .i64 0)
  refine end_ret (v := .tuple #[.string ⟨#[]⟩, .agg #[.string ⟨#[]⟩, .int .i64 0, .int .i64 0, .int .i64 0], .int .i64 200]) (by simp [results, Tryd.results27, asAddr, hld]) rfl ⟨rfl, hbE⟩
/-- what Receive tells of what is opened -/
def RecvV (K T : ByteArray) (er : Int) (side sent n : Int) : Value := if er = 0 then .tuple #[.string T, sesV K side sent n, .int .i64 0] else .tuple #[.string ⟨#[]⟩, sesV ⟨#[]⟩ 0 0 0, .int .i64 er]
set_option maxRecDepth 100000 in
set_option maxHeartbeats 4000000 in
theorem recv_any (K F X T : ByteArray) (er : Int) (side oth sent seen n : Nat) (w : World) (hG : Turns w) (hK : K.size = 32) (hs : side + oth = 1) (h1 : sent ≤ 1000000000) (h2 : seen ≤ 1000000000) (hF : FrameIs F X n) (hgt : seen < n)
    (hO : openF K (sesN oth n) frameB X = (T, er)) :
    Calls Tryd.prog 27 #[sesV K side sent seen, .string F] w fun e w' => e = .returned (RecvV K T er side sent n) ∧ Below w.heap.size w w' := by
  obtain ⟨V, hV⟩ : ∃ V, RecvV K T er side sent n = V := ⟨_, rfl⟩
  rw [hV]
  obtain ⟨hN, hX, h8, h5, hn1, hn2⟩ := hF
  have hXs : X.size ≤ 5000 := by rw [← hX, ByteArray.size_extract]; omega
  have HR := Lib.hid (fun W => sright_any K side sent seen W hK (by omega) h1 h2)
  have HNU := Lib.hid (fun W => number_any F W (by omega))
  have HN := Lib.hid hN
  have HX := Lib.hid hX
  have HOP : Hid (∀ W, Turns W → Calls Tryd.prog 51 #[.string K, .string (sesN oth n), .string ⟨#[102, 114, 97, 109, 101]⟩, .string X] W fun e w' => e = .returned (.tuple #[.string T, .int .i64 er]) ∧ Below W.heap.size W w') := Lib.hid (fun W hW => by
    have h := open_any K (sesN oth n) frameB X W hW (by decide) (by omega)
    rw [hO] at h
    exact h)
  have HNS := Lib.hid (fun W => nonces_any oth W (by omega))
  have HNO := Lib.hid (fun (g : Nat) (W : World) (h : Blk W g 9 #[.string (headN oth)]) => nonce_any oth n g W (by omega) h)
  have t1 : decide (n ≤ seen) = false := by simp; omega
  have t2 : (1 : Int) - (side : Int) = (oth : Int) := by omega
  have t8 : (8 : Int) ≤ (F.size : Int) := by omega
  have HG := Lib.hid hG
  have hpos := hG.pos
  generalize hNN : sesN oth n = N at *
  clear hN hX h1 h2 hn1 hn2 hgt hK hG hO hXs hNN
  have HV := Lib.hid hV
  clear hV
  unfold sesV at HR ⊢
  go_enter Tryd.func27, Tryd.ntmps27
  go_wp2_with fail
  refine (HR.out _).mono ?_
  rintro e w1 ⟨rfl, hb1⟩
  have hB1 : Below w.heap.size w w1 := Below.trans (by go_grown) (hb1.mono (by simp; omega))
  have hR1 : Blk w1 w.heap.size 41 #[.string K, .int .i64 side, .int .i64 sent, .int .i64 seen] := ((Blk.new w _ _).alloc _).below hb1 (by simp; omega)
  have hR2 : Blk w1 (w.heap.size + 1) 41 #[.string ⟨#[]⟩, .int .i64 0, .int .i64 0, .int .i64 0] := (Blk.new_at (by simp) _ _).below hb1 (by simp)
  have hz1 := hR2.lt
  have HR1 := Lib.hid hR1
  have HR2 := Lib.hid hR2
  have a1 := hR1.cells 1 _ rfl
  have a3 := hR1.cells 3 _ rfl
  simp only [List.getElem_toArray, List.getElem_cons_zero, List.getElem_cons_succ] at a1 a3
  clear hR1 hR2 hb1
  go_wp2_with fail
  refine (HNU.out _).mono ?_
  rintro e w2 ⟨rfl, rfl⟩
  rw [HN.out]
  dsimp only
  go_wp2_with fail
  refine (HNS.out _).mono ?_
  rintro e w2 ⟨rfl, hH2, hb2⟩
  have hB2 : Below w.heap.size w w2 := hB1.trans (hb2.mono hB1.size)
  have HS1 := Lib.hid (HR1.out.below hb2 HR1.out.lt)
  have HS2 := Lib.hid (HR2.out.below hb2 HR2.out.lt)
  have hz2 := hH2.lt
  have hz12 : w.heap.size + 1 < w2.heap.size := HS2.out.lt
  have HH2 := Lib.hid hH2
  clear a1 a3 HR1 HR2 hB1 hb2 hH2
  generalize w1.heap.size + 1 = gn at *
  have HI : Hid (∀ W, Below w2.heap.size w2 W → Blk W w.heap.size 41 #[.string K, .int .i64 side, .int .i64 sent, .int .i64 seen] ∧ Blk W (w.heap.size + 1) 41 #[.string ⟨#[]⟩, .int .i64 0, .int .i64 0, .int .i64 0] ∧ Blk W gn 9 #[.string (headN oth)] ∧ Turns W ∧ Below w.heap.size w W) := Lib.hid (fun W hb =>
    ⟨HS1.out.below hb HS1.out.lt, HS2.out.below hb HS2.out.lt, HH2.out.below hb HH2.out.lt, HG.out.below (hB2.trans (hb.mono hB2.size)) hpos, hB2.trans (hb.mono hB2.size)⟩)
  have HC : Hid (∀ W, Below w2.heap.size w2 W → W.cell? ⟨w.heap.size, 0, none⟩ = some (.string K)) := Lib.hid (fun W hb => (HI.out W hb).1.cells 0 _ rfl)
  clear HS1 HS2 HH2 HG hB2
  unfold fnN
  go_upto_region 9 with (fail)
  go_region_held3 (fun W => W.cell? ⟨w.heap.size, 0, none⟩ = some (.string K))
    ((refine HC.out _ ?_; go_grown))
    (first
      | (go_at_call 64; (with_reducible refine Calls.mono (HNO.out gn _ (HI.out _ (by go_grown)).2.2.1) ?_); rintro e w3 ⟨rfl, hb3⟩; have hB3 : Below w2.heap.size w2 w3 := Below.trans (by go_grown) (hb3.mono (by simp)); have hs3 := hB3.size; clear hb3)
      | (go_at_call 51; rw [HX.out]; (with_reducible refine Calls.mono (HOP.out _ (HI.out _ (by go_grown)).2.2.2.1) ?_); rintro e w4 ⟨rfl, hb4⟩; have hB4 : Below w2.heap.size w2 w4 := Below.trans (by go_grown) (hb4.mono (by first | omega | (simp; omega))); have hs4 := hB4.size; clear hb4))
  obtain ⟨hI1, hI2, hI3, hI4, hI5⟩ := HI.out w4 hB4
  clear HI HC HNO HOP HR hB3 hB4 hI3 hI4
  have HI2 := Lib.hid hI2
  by_cases he : er = 0
  · subst he
    have hv : V = .tuple #[.string T, .agg #[.string K, .int .i64 side, .int .i64 sent, .int .i64 n], .int .i64 0] := by rw [← HV.out]; rfl
    clear HV
    subst hv
    have HE : Hid (Blk (w4.setCell ⟨w.heap.size, 3, none⟩ (.int .i64 n)) w.heap.size 41 #[.string K, .int .i64 side, .int .i64 sent, .int .i64 n] ∧ Blk (w4.setCell ⟨w.heap.size, 3, none⟩ (.int .i64 n)) (w.heap.size + 1) 41 #[.string ⟨#[]⟩, .int .i64 0, .int .i64 0, .int .i64 0] ∧ Below w.heap.size w (w4.setCell ⟨w.heap.size, 3, none⟩ (.int .i64 n))) := Lib.hid
      ⟨hI1.set_ 3 (.int .i64 n), hI2.far (p := ⟨w.heap.size, 3, none⟩) (show w.heap.size + 1 ≠ w.heap.size by omega) (.int .i64 n), hI5.setCell (Nat.le_refl _) _⟩
    have a3 := hI1.cells 3 _ rfl
    have af := hI1.frozen
    simp only [List.getElem_toArray, List.getElem_cons_zero, List.getElem_cons_succ] at a3
    clear hI1 hI2 hI5
    go_upto_region 13 with (fail)
    obtain ⟨w5, hw5⟩ : ∃ W : World, w4.setCell ⟨w.heap.size, 3, none⟩ (.int .i64 n) = W := ⟨_, rfl⟩
    rw [hw5] at HE ⊢
    clear hw5 a3 af
    have a0 := HE.out.1.cells 0 _ rfl
    have a1 := HE.out.1.cells 1 _ rfl
    have a2 := HE.out.1.cells 2 _ rfl
    have a3 := HE.out.1.cells 3 _ rfl
    have b0 := HE.out.2.1.cells 0 _ rfl
    have b1 := HE.out.2.1.cells 1 _ rfl
    have b2 := HE.out.2.1.cells 2 _ rfl
    have b3 := HE.out.2.1.cells 3 _ rfl
    have bf := HE.out.2.1.frozen
    simp only [List.getElem_toArray, List.getElem_cons_zero, List.getElem_cons_succ] at a0 a1 a2 a3 b0 b1 b2 b3
    go_region
    all_goals go_wp2_with (with_reducible refine end_at ?_)
    all_goals have hld := ses_load (ses_set HE.out.2.1 (.string K) (.int .i64 side) (.int .i64 sent) (.int .i64 n)).drew
    all_goals have hbE := (ses_below HE.out.2.2 (show w.heap.size ≤ w.heap.size + 1 by omega) (.string K) (.int .i64 side) (.int .i64 sent) (.int .i64 n)).drew
    all_goals refine end_ret (v := .tuple #[.string T, .agg #[.string K, .int .i64 side, .int .i64 sent, .int .i64 n], .int .i64 0]) (by simp [results, Tryd.results27, asAddr, hld]) rfl ⟨rfl, hbE⟩
  · have t9 : (er != 0) = true := by simp [he]
    have hv : V = .tuple #[.string ⟨#[]⟩, .agg #[.string ⟨#[]⟩, .int .i64 0, .int .i64 0, .int .i64 0], .int .i64 er] := by rw [← HV.out]; unfold RecvV; rw [if_neg he]; rfl
    clear HV
    subst hv
    have b0 := hI2.cells 0 _ rfl
    have b1 := hI2.cells 1 _ rfl
    have b2 := hI2.cells 2 _ rfl
    have b3 := hI2.cells 3 _ rfl
    have bf := hI2.frozen
    simp only [List.getElem_toArray, List.getElem_cons_zero, List.getElem_cons_succ] at b0 b1 b2 b3
    clear hI1 hI2 he
    go_wp2_with (with_reducible refine end_at ?_)
    have hld := ses_load (ses_set HI2.out (.string ⟨#[]⟩) (.int .i64 0) (.int .i64 0) (.int .i64 0))
    have hbE := ses_below hI5 (show w.heap.size ≤ w.heap.size + 1 by omega) (.string ⟨#[]⟩) (.int .i64 0) (.int .i64 0) (.int .i64 0)
    refine end_ret (v := .tuple #[.string ⟨#[]⟩, .agg #[.string ⟨#[]⟩, .int .i64 0, .int .i64 0, .int .i64 0], .int .i64 er]) (by simp [results, Tryd.results27, asAddr, hld]) rfl ⟨rfl, hbE⟩
end Go.Proofs.YtbgohcedakpnbaaDoor
