/- top26: House.step. -/
import Derived.Test.YtpkomloblhbkiaaGreatDoorTopI
import Derived.BigRegion
import Derived.Deep.DeepCutAuto
set_option linter.unusedVariables false
set_option linter.unusedSimpArgs false
namespace Go.Proofs.YtpkomloblhbkiaaGreatDoor
open Go.RowKit
/-- a house that is as it must be: a vault that tells what was said, and a source of nonces -/
def Good (p q : Plat) (key : ByteArray) (said : List ByteArray) (drawn : List ByteArray) (n nx r gm : Nat) : Prop :=
  ∃ (a gn : Nat) (v : Vol), Lies p n a gn v ∧ Tells key v said ∧ NGood q r ∧ nx ≤ 16 * r ∧ drawn.length ≤ nx ∧ gn ≤ gm
def StepOut (w : World) (B g n : Nat) (key : ByteArray) (r gm : Nat) (e : Ending) (w' : World) : Prop :=
  e = .returned (.bool true) ∧ ∃ (p q : Plat) (said drawn : List ByteArray) (nx r' : Nat), HouseAt w' B g p q ⟨0, nx, ((16 * r' : Nat) : Int)⟩ key said drawn ∧ Good p q key said drawn n nx r' (gm + 1) ∧ r' ≤ r + 6 ∧ Below B w w'
theorem HouseIn.at_ {w : World} {B g : Nat} {P1 P2 Q1 Q2 : Value} {s : Src} {key : ByteArray} {sv dv : Value} {p q : Plat} {said drawn : List ByteArray} (h : HouseIn w B g P1 P2 Q1 Q2 s key sv dv p q said drawn) : HouseAt w B g p q s key said drawn := ⟨P1, P2, Q1, Q2, sv, dv, h.b, h.p, h.q, h.s, h.d, h.ap, h.aq, h.asv⟩
theorem Lies.whole {p : Plat} {n a g : Nat} {v : Vol} (h : Lies p n a g v) : Whole v n := ⟨h.vol, h.rt, h.vlen⟩
set_option maxRecDepth 100000 in
set_option maxHeartbeats 16000000 in
theorem tstep_any (x : TStp) (p q : Plat) (n r nx gm B g : Nat) (key : ByteArray) (said drawn : List ByteArray) (w : World)
    (hH : HouseAt w B g p q ⟨0, nx, ((16 * r : Nat) : Int)⟩ key said drawn) (hG : Good p q key said drawn n nx r gm) (hB : B ≤ g) (hX : StepIn w B x) (hx : bigStep x = false) (hkey : key.size = 32) (hr : r ≤ 60) (hgm : gm ≤ 1000) (hE : Hid (∀ W, Below B w W → Env W)) :
    Calls Tryz.prog 8 #[.pointer (some ⟨g, 0, none⟩), .agg (stepC x)] w (StepOut w B g n key r gm) := by
  obtain ⟨P1, P2, Q1, Q2, sv, dv, h1, h2, h3, h4, h5, h6, h7, h8⟩ := hH
  have hH : HouseIn w B g P1 P2 Q1 Q2 ⟨0, nx, ((16 * r : Nat) : Int)⟩ key sv dv p q said drawn := ⟨h1, h2, h3, h4, h5, h6, h7, h8⟩
  obtain ⟨a, gn, v, hL, hT, hN, hnx, hdl, hgn⟩ := hG
  obtain ⟨Ap, cp, Ap', cp', np, mp, hPe, hnp, hmp, _, _⟩ := h2.slices
  simp only [Value.agg.injEq, Array.mk.injEq, List.cons.injEq, and_true] at hPe
  obtain ⟨rfl, rfl⟩ := hPe
  obtain rfl : mp = 0 := by rw [← hmp, hL.bare]; rfl
  have hnp9 : np ≤ 1000 := by have := hL.n64.2.2; rw [← hnp, hL.len]; omega
  clear h1 h2 h3 h4 h5 h6 h7 h8 hnp hmp
  have hBw : B ≤ w.heap.size := Nat.le_trans hB (Nat.le_of_lt hH.b.lt)
  have hl := hL.whole.len
  have HPL := Lib.hid (And.intro hL (And.intro hT (And.intro hN (And.intro hnx (And.intro hdl hgn)))))
  obtain ⟨li, hli⟩ : ∃ l : Int, ((16 * r : Nat) : Int) = l := ⟨_, rfl⟩
  obtain ⟨ni, hni⟩ : ∃ l : Int, ((nx : Nat) : Int) = l := ⟨_, rfl⟩
  rw [hli, hni] at hH
  have HNI := Lib.hid (And.intro hni hli)
  have hb1 : Below w.heap.size w (w.alloc (.cells (stepC x) 32)) := (Below.refl _ _).alloc (Nat.le_refl _) _
  have H1 := Lib.hid (And.intro (hH.on_ hb1) (And.intro (Blk.new w 32 (stepC x)) hb1))
  have HX := Lib.hid hX
  have HLO : Hid (B ≤ g ∧ B ≤ w.heap.size ∧ np ≤ 1000) := Lib.hid ⟨hB, hBw, hnp9⟩
  clear hL hT hN hnx hdl hgn hli hni hH hb1 hX hB hBw hl hnp9
  obtain ⟨pa, pn, pc, P, ta, tn, tc, Tx, deeds, fa, fn, fc, F, oa, on, oc, O⟩ := x
  unfold stepC at H1 ⊢
  dsimp only at H1 ⊢
  go_enter Tryz.func8, Tryz.ntmps8
  go_upto_region 1 with fail
  generalize w.alloc (.cells #[.slice pa pn pc, .slice ta tn tc, .int .i64 deeds, .slice fa fn fc, .slice oa on oc] 32) = w1 at *
  obtain ⟨kx, hkx⟩ : ∃ k, w.heap.size = k := ⟨_, rfl⟩
  have HKX := Lib.hid hkx
  rw [hkx] at H1 ⊢
  clear hkx
  have h10 := H1.out.1.b.cells 0 _ rfl
  have h11 := H1.out.1.b.cells 1 _ rfl
  simp only [houseC, stepC, List.getElem_toArray, List.getElem_cons_zero, List.getElem_cons_succ] at h10 h11
  have HLD := Lib.hid (load_any p Ap Ap' np 0 cp cp' w1 H1.out.1.p.met_.1 (by have := HLO.out.2.2; omega) (hE.out w1 (H1.out.2.2.mono (by rw [← HKX.out]; exact HLO.out.2.1))))
  rw [load_lies HPL.out.1] at HLD
  dsimp only at HLD
  go_wp2_with fail
  refine HLD.out.mono ?_
  rintro e w3 ⟨v3, rfl, hV3, hb3⟩
  obtain ⟨A3, c3, n3, rfl, hn3, hs3⟩ := hV3.slices
  obtain rfl : n3 = n := hn3.symm.trans HPL.out.1.vlen
  have hb4 : Below w1.heap.size w1 (w3.alloc (.cells #[.slice A3 n3 c3, .string v.root] 36)) := hb3.alloc hb3.size _
  have hbk : Below kx w (w3.alloc (.cells #[.slice A3 n3 c3, .string v.root] 36)) := H1.out.2.2.trans (hb4.mono (by have := H1.out.2.1.lt; omega))
  have H4 : Hid (HouseIn (w3.alloc (.cells #[.slice A3 n3 c3, .string v.root] 36)) B g (.slice Ap np cp) (.slice Ap' 0 cp') Q1 Q2 ⟨0, ni, li⟩ key sv dv p q said drawn ∧ Blk (w3.alloc (.cells #[.slice A3 n3 c3, .string v.root] 36)) kx 32 (stepC ⟨pa, pn, pc, P, ta, tn, tc, Tx, deeds, fa, fn, fc, F, oa, on, oc, O⟩) ∧ Blk (w3.alloc (.cells #[.slice A3 n3 c3, .string v.root] 36)) w3.heap.size 36 #[.slice A3 n3 c3, .string v.root] ∧ SRow (w3.alloc (.cells #[.slice A3 n3 c3, .string v.root] 36)) w1.heap.size (.slice A3 n3 c3) v.blocks ∧ Below kx w (w3.alloc (.cells #[.slice A3 n3 c3, .string v.root] 36))) :=
    Lib.hid ⟨H1.out.1.on_ hb4, H1.out.2.1.below hb4 H1.out.2.1.lt, Blk.new _ _ _, orow_alloc hs3 _, hbk⟩
  have HD1 := Lib.hid (srow_lt H1.out.1.d)
  clear hb3 hb4 hbk hV3 hs3 hn3 HLD h10 h11
  go_upto_region 2 with fail
  generalize w3.alloc (.cells #[.slice A3 n3 c3, .string v.root] 36) = w4 at *
  obtain ⟨k5, hk5⟩ : ∃ k, w3.heap.size = k := ⟨_, rfl⟩
  rw [hk5] at H4 ⊢
  clear hk5
  have v40 := H4.out.2.2.1.cells 0 _ rfl
  have v41 := H4.out.2.2.1.cells 1 _ rfl
  have x40 := H4.out.2.1.cells 0 _ rfl
  have x41 := H4.out.2.1.cells 1 _ rfl
  have x42 := H4.out.2.1.cells 2 _ rfl
  have x43 := H4.out.2.1.cells 3 _ rfl
  have x44 := H4.out.2.1.cells 4 _ rfl
  simp only [houseC, stepC, List.getElem_toArray, List.getElem_cons_zero, List.getElem_cons_succ] at v40 v41 x40 x41 x42 x43 x44
  have HKW : Hid (B ≤ w1.heap.size ∧ Below B w w4 ∧ B ≤ kx) := Lib.hid ⟨by have := H1.out.1.b.lt; have := HLO.out.1; omega, H4.out.2.2.2.2.mono (by rw [← HKX.out]; exact HLO.out.2.1), by rw [← HKX.out]; exact HLO.out.2.1⟩
  have hH4 := H4.out.1
  rw [← HNI.out.1, ← HNI.out.2] at hH4
  have HWR := Lib.hid (twrites_any ⟨pa, pn, pc, P, ta, tn, tc, Tx, deeds, fa, fn, fc, F, oa, on, oc, O⟩ p q v n3 r nx B g key _ _ _ _ _ _ said drawn A3 c3 w4 hH4 HLO.out.1 (HX.out.below HKW.out.2.1) hx HPL.out.1.whole HPL.out.2.1 hkey (orow_base H4.out.2.2.2.1 HKW.out.1) (away_of_lt HD1.out (srow_ge H4.out.2.2.2.1)) HPL.out.2.2.1 hr HPL.out.2.2.2.1 HPL.out.2.2.2.2.1 (Lib.hid (fun W hW => hE.out W (HKW.out.2.1.trans hW))))
  unfold stepC at HWR
  dsimp only at HWR
  clear hH4 H1 HD1
  go_wp2_with fail
  refine HWR.out.mono ?_
  rintro e w5 ⟨A5, c5, v5, As, cs, said5, Q3, Q4, q5, nx5, r5, dv5, drawn5, rfl, hH5, hV5, hS5, hA5, hW5, hT5, hN5, hnx5, hr5, hdl5, hb5, hk5⟩
  obtain ⟨Av5, cv5, hsv5, _, _⟩ := orow_form hH5.s
  have hb6 : Below w5.heap.size w5 (w5.alloc (.cells #[.slice A5 n3 c5, .string v5.root] 36)) := (Below.refl _ _).alloc (Nat.le_refl _) _
  obtain ⟨li5, hli5⟩ : ∃ l : Int, ((16 * r5 : Nat) : Int) = l := ⟨_, rfl⟩
  obtain ⟨ni5, hni5⟩ : ∃ l : Int, ((nx5 : Nat) : Int) = l := ⟨_, rfl⟩
  rw [hli5, hni5] at hH5
  have HNI5 := Lib.hid (And.intro hni5 hli5)
  have hx5 := hk5 _ _ _ H4.out.2.1 (by decide) (by decide)
  have H6 : Hid (HouseIn (w5.alloc (.cells #[.slice A5 n3 c5, .string v5.root] 36)) B g (.slice Ap np cp) (.slice Ap' 0 cp') Q3 Q4 ⟨0, ni5, li5⟩ key sv dv5 p q5 said drawn5 ∧ Blk (w5.alloc (.cells #[.slice A5 n3 c5, .string v5.root] 36)) kx 32 (stepC ⟨pa, pn, pc, P, ta, tn, tc, Tx, deeds, fa, fn, fc, F, oa, on, oc, O⟩) ∧ Blk (w5.alloc (.cells #[.slice A5 n3 c5, .string v5.root] 36)) w5.heap.size 36 #[.slice A5 n3 c5, .string v5.root] ∧ SRow (w5.alloc (.cells #[.slice A5 n3 c5, .string v5.root] 36)) B (.slice A5 n3 c5) v5.blocks ∧ SRow (w5.alloc (.cells #[.slice A5 n3 c5, .string v5.root] 36)) B (.slice As n3 cs) said5 ∧ Below B w (w5.alloc (.cells #[.slice A5 n3 c5, .string v5.root] 36))) :=
    Lib.hid ⟨hH5.on_ hb6, hx5.below hb6 hx5.lt, Blk.new _ _ _, orow_below hV5 hb6 (Nat.le_refl _), orow_below hS5 hb6 (Nat.le_refl _), (HKW.out.2.1.trans hb5).trans (hb6.mono (by have := hH5.b.lt; have := HLO.out.1; omega))⟩
  have HP5 := Lib.hid (And.intro hA5 (And.intro hW5 (And.intro hT5 (And.intro hN5 (And.intro hnx5 (And.intro hr5 hdl5))))))
  have hfn : fn ≤ 100 ∧ on ≤ 100 := by
    simp only [bigStep, Bool.or_eq_false_iff, decide_eq_false_iff_not] at hx
    omega
  have HFN := Lib.hid hfn
  subst hsv5
  clear hb5 hb6 hk5 hV5 hS5 hA5 hW5 hT5 hN5 hnx5 hr5 hdl5 hH5 hli5 hni5 hx5 HWR H4 HKW x40 x41 x42 x43 x44 v40 v41 hfn
  have hl5 : said.length = n3 := HPL.out.2.1.1.trans HPL.out.1.vlen
  have HL5 := Lib.hid hl5
  clear hl5
  obtain ⟨hz, hok, q2, hcr, hor⟩ := store_crash HPL.out.1 HP5.out.2.1.vol HP5.out.2.1.len HP5.out.2.1.rt (by have := HPL.out.2.2.2.2.2; omega) (normD n3 deeds) F
  obtain ⟨⟨p1, dn, e1⟩, hst⟩ : ∃ V, storeF p n3 (1 - a) (gn + 1) v5 (normD n3 deeds) = V := ⟨_, rfl⟩
  rw [hst] at hz hcr hor
  dsimp only at hz hcr hor
  subst hz
  have HCR := Lib.hid (And.intro hcr hor)
  go_upto_region 3 with fail
  generalize w5.alloc (.cells #[.slice A5 n3 c5, .string v5.root] 36) = w6 at *
  obtain ⟨k8, hk8⟩ : ∃ k, w5.heap.size = k := ⟨_, rfl⟩
  rw [hk8] at H6 ⊢
  clear hk8
  have hBW6 : B ≤ w6.heap.size := by have := H6.out.1.b.lt; have := HLO.out.1; omega
  have HB6 := Lib.hid hBW6
  have HST := Lib.hid (fun W (hW : Below w6.heap.size w6 W) => store_any p v5 n3 a gn v deeds Ap Ap' A5 np cp cp' c5 W ((H6.out.1.p.on_ hW).met_.1) HLO.out.2.2 (((srow_slr H6.out.2.2.2.1 HP5.out.2.1.len).below hW).more hW.size) (openP_lies HPL.out.1) HP5.out.2.1.vol HP5.out.2.1.rt (by have := HPL.out.2.2.2.2.2; omega) HPL.out.1.a1 hok (hE.out W (H6.out.2.2.2.2.2.trans (hW.mono HB6.out))))
  rw [hst] at HST
  unfold OutDo at HST
  dsimp only at HST
  clear hok hcr hor hst hBW6
  have h60 := H6.out.1.b.cells 0 _ rfl
  have h61 := H6.out.1.b.cells 1 _ rfl
  have v60 := H6.out.2.2.1.cells 0 _ rfl
  have v61 := H6.out.2.2.1.cells 1 _ rfl
  have x60 := H6.out.2.1.cells 0 _ rfl
  have x61 := H6.out.2.1.cells 1 _ rfl
  have x62 := H6.out.2.1.cells 2 _ rfl
  have x63 := H6.out.2.1.cells 3 _ rfl
  have x64 := H6.out.2.1.cells 4 _ rfl
  simp only [houseC, stepC, List.getElem_toArray, List.getElem_cons_zero, List.getElem_cons_succ] at h60 h61 v60 v61 x60 x61 x62 x63 x64
  go_cut [11, 12, 13] (fun a b c wx => b = .bool dn ∧ c = .int .i64 0 ∧ ∃ (g11 n7 m7 c7 c7' : Nat) (A7 A7' : Option Addr), a = .pointer (some ⟨g11, 0, none⟩) ∧ Hid (Blk wx g11 42 #[.slice A7 n7 c7, .slice A7' m7 c7']) ∧ Hid (PlatOut wx w6.heap.size (.agg #[.slice A7 n7 c7, .slice A7' m7 c7']) p1) ∧ Hid (Below w6.heap.size w6 wx))
  case first =>
    as_aux_lemma =>
      refine wp_region_T [13, 14, 15] (fun W => Below w6.heap.size w6 W ∧ W.cell? ⟨g, 0, none⟩ = some (.slice Ap np cp) ∧ W.cell? ⟨g, 1, none⟩ = some (.slice Ap' 0 cp') ∧ W.cell? ⟨k8, 0, none⟩ = some (.slice A5 n3 c5) ∧ W.cell? ⟨k8, 1, none⟩ = some (.string v5.root) ∧ W.cell? ⟨kx, 2, none⟩ = some (.int .i64 deeds)) (by kernel_rfl) ?_
      have hHeld : (fun W => Below w6.heap.size w6 W ∧ W.cell? ⟨g, 0, none⟩ = some (.slice Ap np cp) ∧ W.cell? ⟨g, 1, none⟩ = some (.slice Ap' 0 cp') ∧ W.cell? ⟨k8, 0, none⟩ = some (.slice A5 n3 c5) ∧ W.cell? ⟨k8, 1, none⟩ = some (.string v5.root) ∧ W.cell? ⟨kx, 2, none⟩ = some (.int .i64 deeds)) _ := ⟨(Below.refl _ _).drew, h60, h61, v60, v61, x62⟩
      have hba : Below w6.heap.size w6 w6.drew := (Below.refl _ _).drew
      clear hba
      generalize w6.drew = wqd at *
      refine wT (i := 0) (v := ?tv1) rfl (Or.inl ⟨by rfl, ?th1⟩) hHeld ?tr1
      case th1 => (intro w hSw; (try dsimp only at hSw); go_simp; try with_reducible rfl)
      try simp only [Act.put, lst]
      refine wT (i := 1) (v := ?tv2) rfl (Or.inl ⟨by rfl, ?th2⟩) hHeld ?tr2
      case th2 => (intro w hSw; (try dsimp only at hSw); go_simp; try with_reducible rfl)
      try simp only [Act.put, lst]
      refine wT (i := 2) (v := ?tv3) rfl (Or.inl ⟨by rfl, ?th3⟩) hHeld ?tr3
      case th3 => (intro w hSw; (try dsimp only at hSw); go_simp; try with_reducible rfl)
      try simp only [Act.put, lst]
      refine wT (i := 3) (v := ?tv4) rfl (Or.inl ⟨by rfl, ?th4⟩) hHeld ?tr4
      case th4 => (intro w hSw; (try dsimp only at hSw); go_simp; try with_reducible rfl)
      try simp only [Act.put, lst]
      refine wT (i := 4) (v := ?tv5) rfl (Or.inl ⟨by rfl, ?th5⟩) hHeld ?tr5
      case th5 => (intro w hSw; (try dsimp only at hSw); go_simp; try with_reducible rfl)
      try simp only [Act.put, lst]
      refine wT (i := 5) (v := ?tv6) rfl (Or.inl ⟨by rfl, ?th6⟩) hHeld ?tr6
      case th6 => (intro w hSw; (try dsimp only at hSw); go_simp; try with_reducible rfl)
      try simp only [Act.put, lst]
      refine wT (i := 6) (v := ?tv7) rfl (Or.inl ⟨by rfl, ?th7⟩) hHeld ?tr7
      case th7 => (intro w hSw; (try dsimp only at hSw); go_simp; try with_reducible rfl)
      try simp only [Act.put, lst]
      refine wpAnyT_ready (rs := [7, 12]) (by kernel_rfl) (by simp) ?_
      refine AllReadyT.cons rfl (fun K hK => ?_) ?_
      · rw [if_pos (by rfl)]
        simp only [lst]
        have hPrev := Lib.hid hHeld
        clear hHeld
        go_simp
        refine (HST.out _ hPrev.out.1).mono ?_
        rintro e' wq1 ⟨v7, rfl, hO7, hba⟩
        have hO7 := hO7.base (B' := w6.heap.size) hPrev.out.1.size
        obtain ⟨A7, c7, A7', c7', n7, m7, rfl, _, _, _, hO7⟩ := hO7.slices
        have HO := Lib.hid hO7
        clear hO7
        go_simp
        refine hK.out _ _ (⟨hPrev.out.1.trans (hba.mono hPrev.out.1.size), kpc hba hPrev.out.2.1, kpc hba hPrev.out.2.2.1, kpc hba hPrev.out.2.2.2.1, kpc hba hPrev.out.2.2.2.2.1, kpc hba hPrev.out.2.2.2.2.2⟩) (fun hHeld => ?_)
        clear hK K hPrev
        try simp only [Act.put, lst]
        clear hba
        refine wP (i := 8) (v := ?tv8) rfl (Or.inl ⟨by rfl, ?th8⟩) hHeld ?tr8
        case th8 => (intro w hSw; clear hSw; go_simp; try with_reducible rfl)
        try simp only [Act.put, lst]
        refine wP (i := 9) (v := ?tv9) rfl (Or.inl ⟨by rfl, ?th9⟩) hHeld ?tr9
        case th9 => (intro w hSw; clear hSw; go_simp; try with_reducible rfl)
        try simp only [Act.put, lst]
        refine wP (i := 10) (v := ?tv10) rfl (Or.inl ⟨by rfl, ?th10⟩) hHeld ?tr10
        case th10 => (intro w hSw; clear hSw; go_simp; try with_reducible rfl)
        try simp only [Act.put, lst]
        refine wP (i := 11) (v := ?tv11) rfl (Or.inl ⟨by rfl, ?th11⟩) hHeld ?tr11
        case th11 => (intro w hSw; clear hSw; go_simp; try with_reducible rfl)
        try simp only [Act.put, lst]
        refine wpAnyT_ready (rs := [12]) (by kernel_rfl) (by simp) ?_
        refine AllReadyT.cons rfl (fun K hK => ?_) ?_
        · rw [if_pos (by rfl)]
          simp only [lst]
          have hPrev := Lib.hid hHeld
          clear hHeld
          go_simp
          have HLA := Lib.hid hPrev.out.1.size
          have hba : Below wq1.heap.size wq1 (wq1.alloc (.cells #[.slice none 0 0, .slice none 0 0] 42)) := (Below.refl _ _).alloc (Nat.le_refl _) _
          have HA := Lib.hid (Blk.new wq1 42 #[.slice none 0 0, .slice none 0 0])
          replace HO := Lib.hid (HO.out.on_ hba)
          refine hK.out _ _ (⟨hPrev.out.1.trans (hba.mono hPrev.out.1.size), kpc hba hPrev.out.2.1, kpc hba hPrev.out.2.2.1, kpc hba hPrev.out.2.2.2.1, kpc hba hPrev.out.2.2.2.2.1, kpc hba hPrev.out.2.2.2.2.2⟩) (fun hHeld => ?_)
          clear hK K hPrev
          try simp only [Act.put, lst]
          clear hba
          generalize wq1.alloc (.cells #[.slice none 0 0, .slice none 0 0] 42) = wq2 at *
          refine wpAnyT_ready (rs := [13]) (by kernel_rfl) (by simp) ?_
          refine AllReadyT.late rfl (by kernel_rfl) (fun K hK => ?_) AllReadyT.nil
          rw [if_pos (by rfl)]
          simp only [lst]
          have za0 := HA.out.cells 0 _ rfl
          have za1 := HA.out.cells 1 _ rfl
          have zaf := HA.out.frozen
          have zal := HA.out.lt
          simp only [List.getElem_toArray, List.getElem_cons_zero, List.getElem_cons_succ] at za0 za1
          go_simp
          refine hK.out _ _ ?_
          clear hK K
          try simp only [Act.put, lst]
          refine wpAnyT_ready (rs := [14]) (by kernel_rfl) (by simp) ?_
          refine AllReadyT.late rfl (by kernel_rfl) (fun K hK => ?_) AllReadyT.nil
          rw [if_pos (by rfl)]
          simp only [lst]
          go_simp
          refine hK.out _ _ ?_
          clear hK K
          try simp only [Act.put, lst]
          refine wpAnyT_ready (rs := [15]) (by kernel_rfl) (by simp) ?_
          refine AllReadyT.late rfl (by kernel_rfl) (fun K hK => ?_) AllReadyT.nil
          rw [if_pos (by rfl)]
          simp only [lst]
          go_simp
          refine hK.out _ _ ?_
          clear hK K
          try simp only [Act.put, lst]
          refine wpAnyT_done (by kernel_rfl) ?_
          go_step
          go_step
          go_meet
          have hy := (HA.out.set_ 0 (.slice A7 n7 c7)).set_ 1 (.slice A7' m7 c7')
          have ho := (HO.out.far HA.out (by decide) (by decide) 0 (.slice A7 n7 c7)).far (HA.out.set_ 0 _) (by decide) (by decide) 1 (.slice A7' m7 c7')
          exact ⟨rfl, rfl, _, n7, m7, c7, c7', A7, A7', rfl, Lib.hid hy, Lib.hid ho, Lib.hid ((hHeld.1.setCell (p := ⟨_, 0, none⟩) HLA.out (.slice A7 n7 c7)).setCell (p := ⟨_, 1, none⟩) HLA.out (.slice A7' m7 c7'))⟩
        exact AllReadyT.nil
      refine AllReadyT.cons rfl (fun K hK => ?_) ?_
      · rw [if_pos (by rfl)]
        simp only [lst]
        have hPrev := Lib.hid hHeld
        clear hHeld
        go_simp
        have HLA := Lib.hid hPrev.out.1.size
        have hba : Below wqd.heap.size wqd (wqd.alloc (.cells #[.slice none 0 0, .slice none 0 0] 42)) := (Below.refl _ _).alloc (Nat.le_refl _) _
        have HA := Lib.hid (Blk.new wqd 42 #[.slice none 0 0, .slice none 0 0])
        refine hK.out _ _ (⟨hPrev.out.1.trans (hba.mono hPrev.out.1.size), kpc hba hPrev.out.2.1, kpc hba hPrev.out.2.2.1, kpc hba hPrev.out.2.2.2.1, kpc hba hPrev.out.2.2.2.2.1, kpc hba hPrev.out.2.2.2.2.2⟩) (fun hHeld => ?_)
        clear hK K hPrev
        try simp only [Act.put, lst]
        clear hba
        generalize wqd.alloc (.cells #[.slice none 0 0, .slice none 0 0] 42) = wq3 at *
        refine wpAnyT_ready (rs := [7]) (by kernel_rfl) (by simp) ?_
        refine AllReadyT.cons rfl (fun K hK => ?_) ?_
        · rw [if_pos (by rfl)]
          simp only [lst]
          have hPrev := Lib.hid hHeld
          clear hHeld
          go_simp
          refine (HST.out _ hPrev.out.1).mono ?_
          rintro e' wq4 ⟨v7, rfl, hO7, hba⟩
          have hO7 := hO7.base (B' := w6.heap.size) hPrev.out.1.size
          obtain ⟨A7, c7, A7', c7', n7, m7, rfl, _, _, _, hO7⟩ := hO7.slices
          have HO := Lib.hid hO7
          clear hO7
          go_simp
          replace HA := Lib.hid (HA.out.below hba HA.out.lt)
          refine hK.out _ _ (⟨hPrev.out.1.trans (hba.mono hPrev.out.1.size), kpc hba hPrev.out.2.1, kpc hba hPrev.out.2.2.1, kpc hba hPrev.out.2.2.2.1, kpc hba hPrev.out.2.2.2.2.1, kpc hba hPrev.out.2.2.2.2.2⟩) (fun hHeld => ?_)
          clear hK K hPrev
          try simp only [Act.put, lst]
          clear hba
          refine wP (i := 8) (v := ?tv12) rfl (Or.inl ⟨by rfl, ?th12⟩) hHeld ?tr12
          case th12 => (intro w hSw; clear hSw; go_simp; try with_reducible rfl)
          try simp only [Act.put, lst]
          refine wP (i := 9) (v := ?tv13) rfl (Or.inl ⟨by rfl, ?th13⟩) hHeld ?tr13
          case th13 => (intro w hSw; clear hSw; go_simp; try with_reducible rfl)
          try simp only [Act.put, lst]
          refine wP (i := 10) (v := ?tv14) rfl (Or.inl ⟨by rfl, ?th14⟩) hHeld ?tr14
          case th14 => (intro w hSw; clear hSw; go_simp; try with_reducible rfl)
          try simp only [Act.put, lst]
          refine wP (i := 11) (v := ?tv15) rfl (Or.inl ⟨by rfl, ?th15⟩) hHeld ?tr15
          case th15 => (intro w hSw; clear hSw; go_simp; try with_reducible rfl)
          try simp only [Act.put, lst]
          refine wpAnyT_ready (rs := [13]) (by kernel_rfl) (by simp) ?_
          refine AllReadyT.late rfl (by kernel_rfl) (fun K hK => ?_) AllReadyT.nil
          rw [if_pos (by rfl)]
          simp only [lst]
          have za0 := HA.out.cells 0 _ rfl
          have za1 := HA.out.cells 1 _ rfl
          have zaf := HA.out.frozen
          have zal := HA.out.lt
          simp only [List.getElem_toArray, List.getElem_cons_zero, List.getElem_cons_succ] at za0 za1
          go_simp
          refine hK.out _ _ ?_
          clear hK K
          try simp only [Act.put, lst]
          refine wpAnyT_ready (rs := [14]) (by kernel_rfl) (by simp) ?_
          refine AllReadyT.late rfl (by kernel_rfl) (fun K hK => ?_) AllReadyT.nil
          rw [if_pos (by rfl)]
          simp only [lst]
          go_simp
          refine hK.out _ _ ?_
          clear hK K
          try simp only [Act.put, lst]
          refine wpAnyT_ready (rs := [15]) (by kernel_rfl) (by simp) ?_
          refine AllReadyT.late rfl (by kernel_rfl) (fun K hK => ?_) AllReadyT.nil
          rw [if_pos (by rfl)]
          simp only [lst]
          go_simp
          refine hK.out _ _ ?_
          clear hK K
          try simp only [Act.put, lst]
          refine wpAnyT_done (by kernel_rfl) ?_
          go_step
          go_step
          go_meet
          have hy := (HA.out.set_ 0 (.slice A7 n7 c7)).set_ 1 (.slice A7' m7 c7')
          have ho := (HO.out.far HA.out (by decide) (by decide) 0 (.slice A7 n7 c7)).far (HA.out.set_ 0 _) (by decide) (by decide) 1 (.slice A7' m7 c7')
          exact ⟨rfl, rfl, _, n7, m7, c7, c7', A7, A7', rfl, Lib.hid hy, Lib.hid ho, Lib.hid ((hHeld.1.setCell (p := ⟨_, 0, none⟩) HLA.out (.slice A7 n7 c7)).setCell (p := ⟨_, 1, none⟩) HLA.out (.slice A7' m7 c7'))⟩
        exact AllReadyT.nil
      exact AllReadyT.nil
  case rest =>
    obtain ⟨rfl, rfl, g11, n7, m7, c7, c7', A7, A7', rfl, HA, HO, HB7⟩ := hcut
    clear HST h60 h61 v60 v61 x60 x61 x62 x63 x64
    generalize wc = w7 at *
    have H7 : Hid (HouseIn w7 B g (.slice Ap np cp) (.slice Ap' 0 cp') Q3 Q4 ⟨0, ni5, li5⟩ key (.slice Av5 said.length cv5) dv5 p q5 said drawn5 ∧ Blk w7 kx 32 (stepC ⟨pa, pn, pc, P, ta, tn, tc, Tx, deeds, fa, fn, fc, F, oa, on, oc, O⟩) ∧ SRow w7 B (.slice As n3 cs) said5 ∧ Below B w w7) :=
      Lib.hid ⟨H6.out.1.on_ HB7.out, H6.out.2.1.below HB7.out H6.out.2.1.lt, orow_below H6.out.2.2.2.2.1 HB7.out (Nat.le_refl _), H6.out.2.2.2.2.2.trans (HB7.out.mono HB6.out)⟩
    have hB7 : B ≤ w7.heap.size := Nat.le_trans HB6.out HB7.out.size
    have HCC := Lib.hid (crash_any p1 F fa fn fc A7 A7' n7 m7 c7 c7' w7 HO.out.met_.1 ((HX.out.below H7.out.2.2.2).f.more hB7) (by have := HFN.out.1; omega) HX.out.fs)
    rw [HCR.out.1] at HCC
    unfold Out2P at HCC
    dsimp only at HCC
    have HB7s := Lib.hid hB7
    clear H6 HB7 hB7
    have za0 := HA.out.cells 0 _ rfl
    have za1 := HA.out.cells 1 _ rfl
    have zaf := HA.out.frozen
    have zal := HA.out.lt
    have x70 := H7.out.2.1.cells 0 _ rfl
    have x71 := H7.out.2.1.cells 1 _ rfl
    have x72 := H7.out.2.1.cells 2 _ rfl
    have x73 := H7.out.2.1.cells 3 _ rfl
    have x74 := H7.out.2.1.cells 4 _ rfl
    simp only [houseC, stepC, List.getElem_toArray, List.getElem_cons_zero, List.getElem_cons_succ] at za0 za1 x70 x71 x72 x73 x74
    go_wp2_with fail
    refine HCC.out.mono ?_
    rintro e w8 ⟨v8, rfl, hO8, hb8⟩
    obtain ⟨A8, c8, A8', c8', n8, m8, rfl, _, _, _, hO8⟩ := hO8.slices
    have hb9 : Below w7.heap.size w7 (w8.alloc (.cells #[.slice A8 n8 c8, .slice A8' m8 c8'] 42)) := hb8.alloc hb8.size _
    have H9 : Hid (HouseIn (w8.alloc (.cells #[.slice A8 n8 c8, .slice A8' m8 c8'] 42)) B g (.slice Ap np cp) (.slice Ap' 0 cp') Q3 Q4 ⟨0, ni5, li5⟩ key (.slice Av5 said.length cv5) dv5 p q5 said drawn5 ∧ Blk (w8.alloc (.cells #[.slice A8 n8 c8, .slice A8' m8 c8'] 42)) kx 32 (stepC ⟨pa, pn, pc, P, ta, tn, tc, Tx, deeds, fa, fn, fc, F, oa, on, oc, O⟩) ∧ SRow (w8.alloc (.cells #[.slice A8 n8 c8, .slice A8' m8 c8'] 42)) B (.slice As n3 cs) said5 ∧ Below B w (w8.alloc (.cells #[.slice A8 n8 c8, .slice A8' m8 c8'] 42)) ∧ Blk (w8.alloc (.cells #[.slice A8 n8 c8, .slice A8' m8 c8'] 42)) w8.heap.size 42 #[.slice A8 n8 c8, .slice A8' m8 c8'] ∧ PlatOut (w8.alloc (.cells #[.slice A8 n8 c8, .slice A8' m8 c8'] 42)) w7.heap.size (.agg #[.slice A8 n8 c8, .slice A8' m8 c8']) q2 ∧ w7.heap.size ≤ w8.heap.size) :=
      Lib.hid ⟨H7.out.1.on_ hb9, H7.out.2.1.below hb9 H7.out.2.1.lt, orow_below H7.out.2.2.1 hb9 (Nat.le_refl _), H7.out.2.2.2.trans (hb9.mono HB7s.out), Blk.new _ _ _, hO8.on_ ((Below.refl _ _).alloc (Nat.le_refl _) _), hb8.size⟩
    have HD7 := Lib.hid (srow_lt H7.out.1.d)
    clear hO8 hb8 hb9 HCC H7 HA HO za0 za1 zaf zal x70 x71 x72 x73 x74
    go_upto_region 7 with fail
    generalize w8.alloc (.cells #[.slice A8 n8 c8, .slice A8' m8 c8'] 42) = w9 at *
    obtain ⟨k14, hk14⟩ : ∃ k, w8.heap.size = k := ⟨_, rfl⟩
    rw [hk14] at H9 ⊢
    clear hk14
    have H10 : Hid (HouseIn ((w9.setCell ⟨g, 0, none⟩ (.slice A8 n8 c8)).setCell ⟨g, 1, none⟩ (.slice A8' m8 c8')) B g (.slice A8 n8 c8) (.slice A8' m8 c8') Q3 Q4 ⟨0, ni5, li5⟩ key (.slice Av5 said.length cv5) dv5 q2 q5 said drawn5 ∧ Blk ((w9.setCell ⟨g, 0, none⟩ (.slice A8 n8 c8)).setCell ⟨g, 1, none⟩ (.slice A8' m8 c8')) kx 32 (stepC ⟨pa, pn, pc, P, ta, tn, tc, Tx, deeds, fa, fn, fc, F, oa, on, oc, O⟩) ∧ SRow ((w9.setCell ⟨g, 0, none⟩ (.slice A8 n8 c8)).setCell ⟨g, 1, none⟩ (.slice A8' m8 c8')) B (.slice As n3 cs) said5 ∧ Below B w ((w9.setCell ⟨g, 0, none⟩ (.slice A8 n8 c8)).setCell ⟨g, 1, none⟩ (.slice A8' m8 c8'))) := by
      have hh := H9.out.1
      have hne := Blk.ne_ H9.out.2.1 hh.b (by decide)
      exact Lib.hid ⟨hh.setP (H9.out.2.2.2.2.2.1.base HB7s.out) (away_of_lt HD7.out (plat_ge H9.out.2.2.2.2.2.1)), (H9.out.2.1.far (p := ⟨g, 0, none⟩) hne _).far (p := ⟨g, 1, none⟩) hne _, orow_far (orow_far H9.out.2.2.1 hh.b (by decide) 0 _) (hh.b.set_ 0 _) (by decide) 1 _, (H9.out.2.2.2.1.setCell (p := ⟨g, 0, none⟩) HLO.out.1 _).setCell (p := ⟨g, 1, none⟩) HLO.out.1 _⟩
    have h90 := H9.out.1.b.cells 0 _ rfl
    have h91 := H9.out.1.b.cells 1 _ rfl
    have h9f := H9.out.1.b.frozen
    have h9l := H9.out.1.b.lt
    have p90 := H9.out.2.2.2.2.1.cells 0 _ rfl
    have p91 := H9.out.2.2.2.2.1.cells 1 _ rfl
    simp only [houseC, stepC, List.getElem_toArray, List.getElem_cons_zero, List.getElem_cons_succ] at h90 h91 p90 p91
    go_upto_region 8 with fail
    generalize (w9.setCell ⟨g, 0, none⟩ (.slice A8 n8 c8)).setCell ⟨g, 1, none⟩ (.slice A8' m8 c8') = w10 at *
    clear H9 HD7 h90 h91 h9f h9l p90 p91 HB7s
    have xa0 := H10.out.2.1.cells 0 _ rfl
    have xa1 := H10.out.2.1.cells 1 _ rfl
    have xa2 := H10.out.2.1.cells 2 _ rfl
    have xa3 := H10.out.2.1.cells 3 _ rfl
    have xa4 := H10.out.2.1.cells 4 _ rfl
    simp only [houseC, stepC, List.getElem_toArray, List.getElem_cons_zero, List.getElem_cons_succ] at xa0 xa1 xa2 xa3 xa4
    go_upto_if 73 with (fail)
    go_cut [] (fun wx => ∃ (Q5 Q6 : Value) (q6 : Plat) (ni6 : Int) (nx6 : Nat), Hid (HouseIn wx B g (.slice A8 n8 c8) (.slice A8' m8 c8') Q5 Q6 ⟨0, ni6, li5⟩ key (.slice Av5 said.length cv5) dv5 q2 q6 said drawn5) ∧ Hid (SRow wx B (.slice As n3 cs) said5 ∧ Below B w wx) ∧ Hid (ni6 = ((nx6 : Nat) : Int) ∧ NGood q6 r5 ∧ nx6 ≤ 16 * r5 ∧ nx5 ≤ nx6))
    case first =>
      by_cases ho : 0 < on
      · have hoi : (0 : Int) < (on : Int) := by omega
        obtain ⟨Aq, cq, Aq', cq', nq, mq, hQe, hnq, hmq, _, _⟩ := H10.out.1.q.slices
        simp only [Value.agg.injEq, Array.mk.injEq, List.cons.injEq, and_true] at hQe
        obtain ⟨rfl, rfl⟩ := hQe
        have hB10 : B ≤ w10.heap.size := by have := H10.out.1.b.lt; have := HLO.out.1; omega
        have HB10 := Lib.hid hB10
        have HCO := Lib.hid (fun W (hW : Below w10.heap.size w10 W) => crash_any q5 O oa on oc Aq Aq' nq mq cq cq' W (H10.out.1.q.on_ hW).met_.1 ((HX.out.below (H10.out.2.2.2.trans (hW.mono HB10.out))).o.more (Nat.le_trans HB10.out hW.size)) (by have := HFN.out.2; omega) HX.out.os)
        rw [ngood_crash HP5.out.2.2.2.1] at HCO
        unfold Out2P at HCO
        dsimp only at HCO
        clear hnq hmq hB10
        go_upto_region 9 with fail
        have ha2 := H10.out.1.b.cells 2 _ rfl
        have ha3 := H10.out.1.b.cells 3 _ rfl
        simp only [houseC, stepC, List.getElem_toArray, List.getElem_cons_zero, List.getElem_cons_succ] at ha2 ha3
        go_cut [16, 17] (fun a b wx => b = .int .i64 0 ∧ ∃ (g11 n7 m7 c7 c7' : Nat) (A7 A7' : Option Addr), a = .pointer (some ⟨g11, 0, none⟩) ∧ Hid (Blk wx g11 42 #[.slice A7 n7 c7, .slice A7' m7 c7']) ∧ Hid (PlatOut wx w10.heap.size (.agg #[.slice A7 n7 c7, .slice A7' m7 c7']) q5) ∧ Hid (Below w10.heap.size w10 wx))
        case first =>
          as_aux_lemma =>
            refine wp_region_T [11, 12] (fun W => Below w10.heap.size w10 W ∧ W.cell? ⟨g, 2, none⟩ = some (.slice Aq nq cq) ∧ W.cell? ⟨g, 3, none⟩ = some (.slice Aq' mq cq') ∧ W.cell? ⟨kx, 4, none⟩ = some (.slice oa on oc)) (by kernel_rfl) ?_
            have hHeld : (fun W => Below w10.heap.size w10 W ∧ W.cell? ⟨g, 2, none⟩ = some (.slice Aq nq cq) ∧ W.cell? ⟨g, 3, none⟩ = some (.slice Aq' mq cq') ∧ W.cell? ⟨kx, 4, none⟩ = some (.slice oa on oc)) _ := ⟨(Below.refl _ _).drew, ha2, ha3, xa4⟩
            have hba : Below w10.heap.size w10 w10.drew := (Below.refl _ _).drew
            clear hba
            generalize w10.drew = wrd at *
            refine wT (i := 0) (v := ?tv16) rfl (Or.inl ⟨by rfl, ?th16⟩) hHeld ?tr16
            case th16 => (intro w hSw; (try dsimp only at hSw); go_simp; try with_reducible rfl)
            try simp only [Act.put, lst]
            refine wT (i := 1) (v := ?tv17) rfl (Or.inl ⟨by rfl, ?th17⟩) hHeld ?tr17
            case th17 => (intro w hSw; (try dsimp only at hSw); go_simp; try with_reducible rfl)
            try simp only [Act.put, lst]
            refine wT (i := 2) (v := ?tv18) rfl (Or.inl ⟨by rfl, ?th18⟩) hHeld ?tr18
            case th18 => (intro w hSw; (try dsimp only at hSw); go_simp; try with_reducible rfl)
            try simp only [Act.put, lst]
            refine wT (i := 3) (v := ?tv19) rfl (Or.inl ⟨by rfl, ?th19⟩) hHeld ?tr19
            case th19 => (intro w hSw; (try dsimp only at hSw); go_simp; try with_reducible rfl)
            try simp only [Act.put, lst]
            refine wT (i := 4) (v := ?tv20) rfl (Or.inl ⟨by rfl, ?th20⟩) hHeld ?tr20
            case th20 => (intro w hSw; (try dsimp only at hSw); go_simp; try with_reducible rfl)
            try simp only [Act.put, lst]
            refine wT (i := 5) (v := ?tv21) rfl (Or.inl ⟨by rfl, ?th21⟩) hHeld ?tr21
            case th21 => (intro w hSw; (try dsimp only at hSw); go_simp; try with_reducible rfl)
            try simp only [Act.put, lst]
            refine wpAnyT_ready (rs := [6, 10]) (by kernel_rfl) (by simp) ?_
            refine AllReadyT.cons rfl (fun K hK => ?_) ?_
            · rw [if_pos (by rfl)]
              simp only [lst]
              have hPrev := Lib.hid hHeld
              clear hHeld
              go_simp
              refine (HCO.out _ hPrev.out.1).mono ?_
              rintro e' wr1 ⟨v7, rfl, hO7, hba⟩
              have hO7 := hO7.base (B' := w10.heap.size) hPrev.out.1.size
              obtain ⟨A7, c7, A7', c7', n7, m7, rfl, _, _, _, hO7⟩ := hO7.slices
              have HO := Lib.hid hO7
              clear hO7
              go_simp
              refine hK.out _ _ (⟨hPrev.out.1.trans (hba.mono hPrev.out.1.size), kpc hba hPrev.out.2.1, kpc hba hPrev.out.2.2.1, kpc hba hPrev.out.2.2.2⟩) (fun hHeld => ?_)
              clear hK K hPrev
              try simp only [Act.put, lst]
              clear hba
              refine wP (i := 7) (v := ?tv22) rfl (Or.inl ⟨by rfl, ?th22⟩) hHeld ?tr22
              case th22 => (intro w hSw; clear hSw; go_simp; try with_reducible rfl)
              try simp only [Act.put, lst]
              refine wP (i := 8) (v := ?tv23) rfl (Or.inl ⟨by rfl, ?th23⟩) hHeld ?tr23
              case th23 => (intro w hSw; clear hSw; go_simp; try with_reducible rfl)
              try simp only [Act.put, lst]
              refine wP (i := 9) (v := ?tv24) rfl (Or.inl ⟨by rfl, ?th24⟩) hHeld ?tr24
              case th24 => (intro w hSw; clear hSw; go_simp; try with_reducible rfl)
              try simp only [Act.put, lst]
              refine wpAnyT_ready (rs := [10]) (by kernel_rfl) (by simp) ?_
              refine AllReadyT.cons rfl (fun K hK => ?_) ?_
              · rw [if_pos (by rfl)]
                simp only [lst]
                have hPrev := Lib.hid hHeld
                clear hHeld
                go_simp
                have HLA := Lib.hid hPrev.out.1.size
                have hba : Below wr1.heap.size wr1 (wr1.alloc (.cells #[.slice none 0 0, .slice none 0 0] 42)) := (Below.refl _ _).alloc (Nat.le_refl _) _
                have HA := Lib.hid (Blk.new wr1 42 #[.slice none 0 0, .slice none 0 0])
                replace HO := Lib.hid (HO.out.on_ hba)
                refine hK.out _ _ (⟨hPrev.out.1.trans (hba.mono hPrev.out.1.size), kpc hba hPrev.out.2.1, kpc hba hPrev.out.2.2.1, kpc hba hPrev.out.2.2.2⟩) (fun hHeld => ?_)
                clear hK K hPrev
                try simp only [Act.put, lst]
                clear hba
                generalize wr1.alloc (.cells #[.slice none 0 0, .slice none 0 0] 42) = wr2 at *
                refine wpAnyT_ready (rs := [11]) (by kernel_rfl) (by simp) ?_
                refine AllReadyT.late rfl (by kernel_rfl) (fun K hK => ?_) AllReadyT.nil
                rw [if_pos (by rfl)]
                simp only [lst]
                have za0 := HA.out.cells 0 _ rfl
                have za1 := HA.out.cells 1 _ rfl
                have zaf := HA.out.frozen
                have zal := HA.out.lt
                simp only [List.getElem_toArray, List.getElem_cons_zero, List.getElem_cons_succ] at za0 za1
                go_simp
                refine hK.out _ _ ?_
                clear hK K
                try simp only [Act.put, lst]
                refine wpAnyT_ready (rs := [12]) (by kernel_rfl) (by simp) ?_
                refine AllReadyT.late rfl (by kernel_rfl) (fun K hK => ?_) AllReadyT.nil
                rw [if_pos (by rfl)]
                simp only [lst]
                go_simp
                refine hK.out _ _ ?_
                clear hK K
                try simp only [Act.put, lst]
                refine wpAnyT_done (by kernel_rfl) ?_
                go_step
                go_step
                go_meet
                have hy := (HA.out.set_ 0 (.slice A7 n7 c7)).set_ 1 (.slice A7' m7 c7')
                have ho := (HO.out.far HA.out (by decide) (by decide) 0 (.slice A7 n7 c7)).far (HA.out.set_ 0 _) (by decide) (by decide) 1 (.slice A7' m7 c7')
                exact ⟨rfl, _, n7, m7, c7, c7', A7, A7', rfl, Lib.hid hy, Lib.hid ho, Lib.hid ((hHeld.1.setCell (p := ⟨_, 0, none⟩) HLA.out (.slice A7 n7 c7)).setCell (p := ⟨_, 1, none⟩) HLA.out (.slice A7' m7 c7'))⟩
              exact AllReadyT.nil
            refine AllReadyT.cons rfl (fun K hK => ?_) ?_
            · rw [if_pos (by rfl)]
              simp only [lst]
              have hPrev := Lib.hid hHeld
              clear hHeld
              go_simp
              have HLA := Lib.hid hPrev.out.1.size
              have hba : Below wrd.heap.size wrd (wrd.alloc (.cells #[.slice none 0 0, .slice none 0 0] 42)) := (Below.refl _ _).alloc (Nat.le_refl _) _
              have HA := Lib.hid (Blk.new wrd 42 #[.slice none 0 0, .slice none 0 0])
              refine hK.out _ _ (⟨hPrev.out.1.trans (hba.mono hPrev.out.1.size), kpc hba hPrev.out.2.1, kpc hba hPrev.out.2.2.1, kpc hba hPrev.out.2.2.2⟩) (fun hHeld => ?_)
              clear hK K hPrev
              try simp only [Act.put, lst]
              clear hba
              generalize wrd.alloc (.cells #[.slice none 0 0, .slice none 0 0] 42) = wr3 at *
              refine wpAnyT_ready (rs := [6]) (by kernel_rfl) (by simp) ?_
              refine AllReadyT.cons rfl (fun K hK => ?_) ?_
              · rw [if_pos (by rfl)]
                simp only [lst]
                have hPrev := Lib.hid hHeld
                clear hHeld
                go_simp
                refine (HCO.out _ hPrev.out.1).mono ?_
                rintro e' wr4 ⟨v7, rfl, hO7, hba⟩
                have hO7 := hO7.base (B' := w10.heap.size) hPrev.out.1.size
                obtain ⟨A7, c7, A7', c7', n7, m7, rfl, _, _, _, hO7⟩ := hO7.slices
                have HO := Lib.hid hO7
                clear hO7
                go_simp
                replace HA := Lib.hid (HA.out.below hba HA.out.lt)
                refine hK.out _ _ (⟨hPrev.out.1.trans (hba.mono hPrev.out.1.size), kpc hba hPrev.out.2.1, kpc hba hPrev.out.2.2.1, kpc hba hPrev.out.2.2.2⟩) (fun hHeld => ?_)
                clear hK K hPrev
                try simp only [Act.put, lst]
                clear hba
                refine wP (i := 7) (v := ?tv25) rfl (Or.inl ⟨by rfl, ?th25⟩) hHeld ?tr25
                case th25 => (intro w hSw; clear hSw; go_simp; try with_reducible rfl)
                try simp only [Act.put, lst]
                refine wP (i := 8) (v := ?tv26) rfl (Or.inl ⟨by rfl, ?th26⟩) hHeld ?tr26
                case th26 => (intro w hSw; clear hSw; go_simp; try with_reducible rfl)
                try simp only [Act.put, lst]
                refine wP (i := 9) (v := ?tv27) rfl (Or.inl ⟨by rfl, ?th27⟩) hHeld ?tr27
                case th27 => (intro w hSw; clear hSw; go_simp; try with_reducible rfl)
                try simp only [Act.put, lst]
                refine wpAnyT_ready (rs := [11]) (by kernel_rfl) (by simp) ?_
                refine AllReadyT.late rfl (by kernel_rfl) (fun K hK => ?_) AllReadyT.nil
                rw [if_pos (by rfl)]
                simp only [lst]
                have za0 := HA.out.cells 0 _ rfl
                have za1 := HA.out.cells 1 _ rfl
                have zaf := HA.out.frozen
                have zal := HA.out.lt
                simp only [List.getElem_toArray, List.getElem_cons_zero, List.getElem_cons_succ] at za0 za1
                go_simp
                refine hK.out _ _ ?_
                clear hK K
                try simp only [Act.put, lst]
                refine wpAnyT_ready (rs := [12]) (by kernel_rfl) (by simp) ?_
                refine AllReadyT.late rfl (by kernel_rfl) (fun K hK => ?_) AllReadyT.nil
                rw [if_pos (by rfl)]
                simp only [lst]
                go_simp
                refine hK.out _ _ ?_
                clear hK K
                try simp only [Act.put, lst]
                refine wpAnyT_done (by kernel_rfl) ?_
                go_step
                go_step
                go_meet
                have hy := (HA.out.set_ 0 (.slice A7 n7 c7)).set_ 1 (.slice A7' m7 c7')
                have ho := (HO.out.far HA.out (by decide) (by decide) 0 (.slice A7 n7 c7)).far (HA.out.set_ 0 _) (by decide) (by decide) 1 (.slice A7' m7 c7')
                exact ⟨rfl, _, n7, m7, c7, c7', A7, A7', rfl, Lib.hid hy, Lib.hid ho, Lib.hid ((hHeld.1.setCell (p := ⟨_, 0, none⟩) HLA.out (.slice A7 n7 c7)).setCell (p := ⟨_, 1, none⟩) HLA.out (.slice A7' m7 c7'))⟩
              exact AllReadyT.nil
            exact AllReadyT.nil
        case rest =>
        as_aux_lemma =>
        obtain ⟨rfl, g16, n7, m7, c7, c7', A7, A7', rfl, HA, HO, HB11⟩ := hcut
        generalize wc = w11 at *
        have hno := nopen_any q5 0 A7 A7' n7 m7 c7 c7' w11 HO.out.met_.1
        rw [ngood_open HP5.out.2.2.2.1 (by have := HP5.out.2.2.2.2.2.1; omega)] at hno
        unfold srcV at hno
        dsimp only at hno
        rw [HNI5.out.2] at hno
        have HNO := Lib.hid hno
        clear hno
        have H11 : Hid (HouseIn w11 B g (.slice A8 n8 c8) (.slice A8' m8 c8') (.slice Aq nq cq) (.slice Aq' mq cq') ⟨0, ni5, li5⟩ key (.slice Av5 said.length cv5) dv5 q2 q5 said drawn5 ∧ SRow w11 B (.slice As n3 cs) said5 ∧ Below B w w11) :=
          Lib.hid ⟨H10.out.1.on_ HB11.out, orow_below H10.out.2.2.1 HB11.out (Nat.le_refl _), H10.out.2.2.2.trans (HB11.out.mono HB10.out)⟩
        have HD10 := Lib.hid (srow_lt H10.out.1.d)
        clear HCO HB11 H10 ha2 ha3 xa0 xa1 xa2 xa3 xa4
        have za0 := HA.out.cells 0 _ rfl
        have za1 := HA.out.cells 1 _ rfl
        have zaf := HA.out.frozen
        have zal := HA.out.lt
        simp only [houseC, stepC, List.getElem_toArray, List.getElem_cons_zero, List.getElem_cons_succ] at za0 za1
        go_wp2_with fail
        refine HNO.out.mono ?_
        rintro e w12 ⟨rfl, hb12⟩
        have hb13 : Below w11.heap.size w11 (w12.alloc (.cells #[.int .i64 0, .int .i64 li5, .int .i64 li5] 44)) := hb12.alloc hb12.size _
        have H13 : Hid (HouseIn (w12.alloc (.cells #[.int .i64 0, .int .i64 li5, .int .i64 li5] 44)) B g (.slice A8 n8 c8) (.slice A8' m8 c8') (.slice Aq nq cq) (.slice Aq' mq cq') ⟨0, ni5, li5⟩ key (.slice Av5 said.length cv5) dv5 q2 q5 said drawn5 ∧ SRow (w12.alloc (.cells #[.int .i64 0, .int .i64 li5, .int .i64 li5] 44)) B (.slice As n3 cs) said5 ∧ Below B w (w12.alloc (.cells #[.int .i64 0, .int .i64 li5, .int .i64 li5] 44)) ∧ Blk (w12.alloc (.cells #[.int .i64 0, .int .i64 li5, .int .i64 li5] 44)) g16 42 #[.slice A7 n7 c7, .slice A7' m7 c7'] ∧ PlatOut (w12.alloc (.cells #[.int .i64 0, .int .i64 li5, .int .i64 li5] 44)) w10.heap.size (.agg #[.slice A7 n7 c7, .slice A7' m7 c7']) q5 ∧ Blk (w12.alloc (.cells #[.int .i64 0, .int .i64 li5, .int .i64 li5] 44)) w12.heap.size 44 #[.int .i64 0, .int .i64 li5, .int .i64 li5]) :=
          Lib.hid ⟨H11.out.1.on_ hb13, orow_below H11.out.2.1 hb13 (Nat.le_refl _), H11.out.2.2.trans (hb13.mono (by have := H11.out.1.b.lt; have := HLO.out.1; omega)), HA.out.below hb13 HA.out.lt, HO.out.on_ hb13, Blk.new _ _ _⟩
        clear hb12 hb13 HNO H11 HA HO za0 za1 zaf zal
        go_upto_region 13 with fail
        generalize w12.alloc (.cells #[.int .i64 0, .int .i64 li5, .int .i64 li5] 44) = w13 at *
        obtain ⟨k18, hk18⟩ : ∃ k, w12.heap.size = k := ⟨_, rfl⟩
        rw [hk18] at H13 ⊢
        clear hk18
        have H14 : Hid (HouseIn ((w13.setCell ⟨g, 2, none⟩ (.slice A7 n7 c7)).setCell ⟨g, 3, none⟩ (.slice A7' m7 c7')) B g (.slice A8 n8 c8) (.slice A8' m8 c8') (.slice A7 n7 c7) (.slice A7' m7 c7') ⟨0, ni5, li5⟩ key (.slice Av5 said.length cv5) dv5 q2 q5 said drawn5 ∧ SRow ((w13.setCell ⟨g, 2, none⟩ (.slice A7 n7 c7)).setCell ⟨g, 3, none⟩ (.slice A7' m7 c7')) B (.slice As n3 cs) said5 ∧ Below B w ((w13.setCell ⟨g, 2, none⟩ (.slice A7 n7 c7)).setCell ⟨g, 3, none⟩ (.slice A7' m7 c7')) ∧ Blk ((w13.setCell ⟨g, 2, none⟩ (.slice A7 n7 c7)).setCell ⟨g, 3, none⟩ (.slice A7' m7 c7')) k18 44 #[.int .i64 0, .int .i64 li5, .int .i64 li5]) := by
          have hh := H13.out.1
          have hne := Blk.ne_ H13.out.2.2.2.2.2 hh.b (by decide)
          exact Lib.hid ⟨hh.setN (H13.out.2.2.2.2.1.base HB10.out) (away_of_lt HD10.out (plat_ge H13.out.2.2.2.2.1)), orow_far (orow_far H13.out.2.1 hh.b (by decide) 2 _) (hh.b.set_ 2 _) (by decide) 3 _, (H13.out.2.2.1.setCell (p := ⟨g, 2, none⟩) HLO.out.1 _).setCell (p := ⟨g, 3, none⟩) HLO.out.1 _, (H13.out.2.2.2.2.2.far (p := ⟨g, 2, none⟩) hne _).far (p := ⟨g, 3, none⟩) hne _⟩
        have zg0 := H13.out.2.2.2.1.cells 0 _ rfl
        have zg1 := H13.out.2.2.2.1.cells 1 _ rfl
        have zh2 := H13.out.1.b.cells 2 _ rfl
        have zh3 := H13.out.1.b.cells 3 _ rfl
        have zhf := H13.out.1.b.frozen
        have zhl := H13.out.1.b.lt
        simp only [houseC, stepC, List.getElem_toArray, List.getElem_cons_zero, List.getElem_cons_succ] at zg0 zg1 zh2 zh3
        go_upto_region 14 with fail
        generalize (w13.setCell ⟨g, 2, none⟩ (.slice A7 n7 c7)).setCell ⟨g, 3, none⟩ (.slice A7' m7 c7') = w14 at *
        clear H13 zg0 zg1 zh2 zh3 zhf zhl
        have H15 : Hid (HouseIn (((w14.setCell ⟨g, 4, none⟩ (.int .i64 0)).setCell ⟨g, 5, none⟩ (.int .i64 li5)).setCell ⟨g, 6, none⟩ (.int .i64 li5)) B g (.slice A8 n8 c8) (.slice A8' m8 c8') (.slice A7 n7 c7) (.slice A7' m7 c7') ⟨0, li5, li5⟩ key (.slice Av5 said.length cv5) dv5 q2 q5 said drawn5 ∧ SRow (((w14.setCell ⟨g, 4, none⟩ (.int .i64 0)).setCell ⟨g, 5, none⟩ (.int .i64 li5)).setCell ⟨g, 6, none⟩ (.int .i64 li5)) B (.slice As n3 cs) said5 ∧ Below B w (((w14.setCell ⟨g, 4, none⟩ (.int .i64 0)).setCell ⟨g, 5, none⟩ (.int .i64 li5)).setCell ⟨g, 6, none⟩ (.int .i64 li5))) := by
          have hh := H14.out.1
          have k1 := hh.b.set_ 4 (.int .i64 0)
          have k2 := k1.set_ 5 (.int .i64 li5)
          exact Lib.hid ⟨hh.setS ⟨0, li5, li5⟩, orow_far (orow_far (orow_far H14.out.2.1 hh.b (by decide) 4 _) k1 (by decide) 5 _) k2 (by decide) 6 _, ((H14.out.2.2.1.setCell (p := ⟨g, 4, none⟩) HLO.out.1 _).setCell (p := ⟨g, 5, none⟩) HLO.out.1 _).setCell (p := ⟨g, 6, none⟩) HLO.out.1 _⟩
        have zs0 := H14.out.2.2.2.cells 0 _ rfl
        have zs1 := H14.out.2.2.2.cells 1 _ rfl
        have zs2 := H14.out.2.2.2.cells 2 _ rfl
        have zh4 := H14.out.1.b.cells 4 _ rfl
        have zh5 := H14.out.1.b.cells 5 _ rfl
        have zh6 := H14.out.1.b.cells 6 _ rfl
        have zhf := H14.out.1.b.frozen
        have zhl := H14.out.1.b.lt
        simp only [houseC, stepC, List.getElem_toArray, List.getElem_cons_zero, List.getElem_cons_succ] at zs0 zs1 zs2 zh4 zh5 zh6
        go_wp2_with fail
        go_meet
        exact ⟨_, _, q5, li5, 16 * r5, Lib.hid H15.out.1, Lib.hid H15.out.2, Lib.hid ⟨HNI5.out.2.symm, HP5.out.2.2.2.1, Nat.le_refl _, HP5.out.2.2.2.2.1⟩⟩
      · have hoi : ¬ (0 : Int) < (on : Int) := by omega
        go_wp2_with fail
        go_meet
        exact ⟨Q3, Q4, q5, ni5, nx5, Lib.hid H10.out.1, Lib.hid ⟨H10.out.2.2.1, H10.out.2.2.2⟩, Lib.hid ⟨HNI5.out.1.symm, HP5.out.2.2.2.1, HP5.out.2.2.2.2.1, Nat.le_refl _⟩⟩
    case rest =>
      obtain ⟨Q5, Q6, q6, ni6, nx6, H16, HS16, HN6⟩ := hcut
      clear H10 xa0 xa1 xa2 xa3 xa4
      generalize wc = w16 at *
      have hB16 : B ≤ w16.heap.size := by have := H16.out.b.lt; have := HLO.out.1; omega
      have HB16 := Lib.hid hB16
      have hn8 : n8 ≤ 1000 := by
        have h1 := H16.out.p.met_.2.1
        have h2 : q2.sectors.length = 3 + 2 * n3 := by rcases HCR.out.2 with h | h; exact h.1.len; exact h.len
        have h3 := HPL.out.1.n64.2.2
        omega
      have hs5 : said5.length = n3 := HP5.out.2.2.1.1.trans HP5.out.2.1.len
      have hEW := hE.out w16 HS16.out.2
      have hsr := srow_slr HS16.out.1 hs5
      rcases HCR.out.2 with ⟨hLo, hdn⟩ | hLn
      · have hrd := treads_any q2 v gn n3 key said said5 g A8 A8' As n8 m8 c8 c8' n3 cs Q5 Q6 _ dv5 _ w16 H16.out.b H16.out.p.met_.1 hn8 (load_lies hLo) hLo.whole HPL.out.2.1 hsr rfl hEW
        have HLL := Lib.hid hLo
        by_cases hs : said = said5
        · rw [decide_eq_true hs] at hrd
          have HRD := Lib.hid hrd
          have HSS := Lib.hid hs
          clear hrd hs hB16 hs5 hEW hsr hLo
          go_upto_region 17 with fail
          go_wp2_with fail
          refine HRD.out.mono ?_
          rintro e w17 ⟨rfl, hb17⟩
          have H17 := Lib.hid (H16.out.on_ hb17)
          have HS17 := Lib.hid (And.intro (orow_below HS16.out.1 hb17 (Nat.le_refl _)) (HS16.out.2.trans (hb17.mono HB16.out)))
          clear hb17
          have zg8 := H17.out.b.cells 8 _ rfl
          have zgf := H17.out.b.frozen
          have zgl := H17.out.b.lt
          simp only [houseC, stepC, List.getElem_toArray, List.getElem_cons_zero, List.getElem_cons_succ] at zg8
          go_wp2_with fail
          go_ret
          have hh := H17.out.setSaid HS17.out.1 HP5.out.1
          rw [HN6.out.1, ← HNI5.out.2] at hh
          exact ⟨rfl, q2, q6, said5, drawn5, nx6, r5, hh.at_, ⟨a, gn, v, HLL.out, (by rw [← HSS.out]; exact HPL.out.2.1), HN6.out.2.1, HN6.out.2.2.1, by have := HP5.out.2.2.2.2.2.2; have := HN6.out.2.2.2; omega, by have := HPL.out.2.2.2.2.2; omega⟩, HP5.out.2.2.2.2.2.1, HS17.out.2.setCell (p := ⟨g, 8, none⟩) HLO.out.1 _⟩
        · rw [decide_eq_false hs] at hrd
          have HRD := Lib.hid hrd
          subst hdn
          clear hrd hs hB16 hs5 hEW hsr hLo
          go_upto_region 17 with fail
          go_wp2_with fail
          refine HRD.out.mono ?_
          rintro e w17 ⟨rfl, hb17⟩
          have H17 := Lib.hid (H16.out.on_ hb17)
          have HS17 := Lib.hid (HS16.out.2.trans (hb17.mono HB16.out))
          clear hb17
          have hrd2 := treads_any q2 v gn n3 key said said g A8 A8' Av5 n8 m8 c8 c8' said.length cv5 Q5 Q6 _ dv5 _ w17 H17.out.b H17.out.p.met_.1 hn8 (load_lies HLL.out) HLL.out.whole HPL.out.2.1 (srow_slr H17.out.s rfl) HL5.out (hE.out w17 HS17.out)
          rw [decide_eq_true rfl] at hrd2
          have HRD2 := Lib.hid hrd2
          have zg8 := H17.out.b.cells 8 _ rfl
          simp only [houseC, List.getElem_toArray, List.getElem_cons_zero, List.getElem_cons_succ] at zg8
          clear hrd2
          go_wp2_with fail
          refine HRD2.out.mono ?_
          rintro e w18 ⟨rfl, hb18⟩
          have HB18 := Lib.hid hb18
          clear hb18
          go_wp2_with fail
          go_ret
          have hh := H17.out.on_ HB18.out
          rw [HN6.out.1, ← HNI5.out.2] at hh
          exact ⟨rfl, q2, q6, said, drawn5, nx6, r5, hh.at_, ⟨a, gn, v, HLL.out, HPL.out.2.1, HN6.out.2.1, HN6.out.2.2.1, by have := HP5.out.2.2.2.2.2.2; have := HN6.out.2.2.2; omega, by have := HPL.out.2.2.2.2.2; omega⟩, HP5.out.2.2.2.2.2.1, HS17.out.trans (HB18.out.mono (by have := H17.out.b.lt; have := HLO.out.1; omega))⟩
      · have hrd := treads_any q2 v5 (gn + 1) n3 key said5 said5 g A8 A8' As n8 m8 c8 c8' n3 cs Q5 Q6 _ dv5 _ w16 H16.out.b H16.out.p.met_.1 hn8 (load_lies hLn) hLn.whole HP5.out.2.2.1 hsr rfl hEW
        rw [decide_eq_true rfl] at hrd
        have HRD := Lib.hid hrd
        have HLL := Lib.hid hLn
        clear hrd hB16 hs5 hEW hsr hLn
        go_upto_region 17 with fail
        go_wp2_with fail
        refine HRD.out.mono ?_
        rintro e w17 ⟨rfl, hb17⟩
        have H17 := Lib.hid (H16.out.on_ hb17)
        have HS17 := Lib.hid (And.intro (orow_below HS16.out.1 hb17 (Nat.le_refl _)) (HS16.out.2.trans (hb17.mono HB16.out)))
        clear hb17
        have zg8 := H17.out.b.cells 8 _ rfl
        have zgf := H17.out.b.frozen
        have zgl := H17.out.b.lt
        simp only [houseC, stepC, List.getElem_toArray, List.getElem_cons_zero, List.getElem_cons_succ] at zg8
        go_wp2_with fail
        go_ret
        have hh := H17.out.setSaid HS17.out.1 HP5.out.1
        rw [HN6.out.1, ← HNI5.out.2] at hh
        exact ⟨rfl, q2, q6, said5, drawn5, nx6, r5, hh.at_, ⟨1 - a, gn + 1, v5, HLL.out, HP5.out.2.2.1, HN6.out.2.1, HN6.out.2.2.1, by have := HP5.out.2.2.2.2.2.2; have := HN6.out.2.2.2; omega, by have := HPL.out.2.2.2.2.2; omega⟩, HP5.out.2.2.2.2.2.1, HS17.out.2.setCell (p := ⟨g, 8, none⟩) HLO.out.1 _⟩
end Go.Proofs.YtpkomloblhbkiaaGreatDoor
