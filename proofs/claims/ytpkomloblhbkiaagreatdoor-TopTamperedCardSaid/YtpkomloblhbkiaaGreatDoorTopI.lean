/- top26: House.writes. -/
import Derived.Test.YtpkomloblhbkiaaGreatDoorTopH
import Derived.BigRegion
import Derived.Deep.DeepCutAuto
set_option linter.unusedVariables false
set_option linter.unusedSimpArgs false
namespace Go.Proofs.YtpkomloblhbkiaaGreatDoor
open Go.RowKit
/-- what writes tells, and leaves -/
def WritesOut (w : World) (B g n : Nat) (P1 P2 sv : Value) (p : Plat) (key : ByteArray) (said0 : List ByteArray) (r0 : Nat) (e : Ending) (w' : World) : Prop :=
  ∃ (A : Option Addr) (c : Nat) (v : Vol) (As : Option Addr) (cs : Nat) (said : List ByteArray) (Q1 Q2 : Value) (q : Plat) (nx r : Nat) (dv : Value) (drawn : List ByteArray),
    e = .returned (.tuple #[.agg #[.slice A n c, .string v.root], .slice As n cs, .bool true]) ∧ HouseIn w' B g P1 P2 Q1 Q2 ⟨0, nx, ((16 * r : Nat) : Int)⟩ key sv dv p q said0 drawn ∧ SRow w' B (.slice A n c) v.blocks ∧ SRow w' B (.slice As n cs) said ∧ Away dv (.slice As n cs) ∧ Whole v n ∧ Tells key v said ∧ NGood q r ∧ nx ≤ 16 * r ∧ r ≤ r0 + 6 ∧ drawn.length ≤ nx ∧ Below B w w' ∧ KeptT w w'
theorem nonB_not (k : Nat) : ((nonB k).toList == []) = false := by
  have hl : (nonB k).toList.length = 12 := by rw [ByteArray.toList_eq, Array.length_toList]; exact nonB_size k
  cases e : (nonB k).toList with
  | nil => rw [e] at hl; simp at hl
  | cons a l => rfl
set_option maxRecDepth 100000 in
set_option maxHeartbeats 16000000 in
theorem twrites_any (x : TStp) (p q : Plat) (v : Vol) (n r nx B g : Nat) (key : ByteArray) (P1 P2 Q1 Q2 sv dv : Value) (said drawn : List ByteArray) (A : Option Addr) (c : Nat) (w : World)
    (hH : HouseIn w B g P1 P2 Q1 Q2 ⟨0, nx, ((16 * r : Nat) : Int)⟩ key sv dv p q said drawn) (hB : B ≤ g) (hX : StepIn w B x) (hx : bigStep x = false) (hv : Whole v n) (hT : Tells key v said) (hkey : key.size = 32)
    (hV : SRow w B (.slice A n c) v.blocks) (hdv : Away dv (.slice A n c)) (hN : NGood q r) (hr : r ≤ 60) (hnx : nx ≤ 16 * r) (hdl : drawn.length ≤ nx) (hE : Hid (∀ W, Below B w W → Env W)) :
    Calls Tryz.prog 22 #[.pointer (some ⟨g, 0, none⟩), .agg #[.slice A n c, .string v.root], .agg (stepC x)] w (WritesOut w B g n P1 P2 sv p key said r) := by
  have hvb := (volB_iff v).1 hv.vol
  obtain ⟨hmay, hn1, hn64⟩ := count_may hvb.1
  rw [hv.len] at hn1 hn64
  have hsl : said.length = n := hT.1.trans hv.len
  obtain ⟨As0, cs0, hsv, _, _⟩ := orow_form hH.s
  rw [hsl] at hsv
  subst hsv
  obtain ⟨pa, pn, pc, P, ta, tn, tc, Tx, deeds, fa, fn, fc, F, oa, on, oc, O⟩ := x
  have hbx : pn ≤ 6 ∧ tn ≤ 6 ∧ ∀ s ∈ Tx, s.size ≤ 200 := by
    simp only [bigStep, Bool.or_eq_false_iff, decide_eq_false_iff_not] at hx
    refine ⟨by omega, by omega, fun s hs => ?_⟩
    have := List.any_eq_false.1 hx.2.2.1 s hs
    simp [longT] at this
    omega
  have hk : Below w.heap.size w (((w.alloc (.cells #[.slice A n c, .string v.root] 36)).alloc (.cells #[.slice pa pn pc, .slice ta tn tc, .int .i64 deeds, .slice fa fn fc, .slice oa on oc] 32)).alloc (.cells #[.slice none 0 0, .string ⟨#[]⟩] 36)) := by go_grown
  have hbv : Blk (((w.alloc (.cells #[.slice A n c, .string v.root] 36)).alloc (.cells #[.slice pa pn pc, .slice ta tn tc, .int .i64 deeds, .slice fa fn fc, .slice oa on oc] 32)).alloc (.cells #[.slice none 0 0, .string ⟨#[]⟩] 36)) w.heap.size 36 #[.slice A n c, .string v.root] := ((Blk.new _ _ _).alloc _).alloc _
  have hbs : Blk (((w.alloc (.cells #[.slice A n c, .string v.root] 36)).alloc (.cells #[.slice pa pn pc, .slice ta tn tc, .int .i64 deeds, .slice fa fn fc, .slice oa on oc] 32)).alloc (.cells #[.slice none 0 0, .string ⟨#[]⟩] 36)) (w.heap.size + 1) 32 #[.slice pa pn pc, .slice ta tn tc, .int .i64 deeds, .slice fa fn fc, .slice oa on oc] := (Blk.new_at (by simp) _ _).alloc _
  have hbr : Blk (((w.alloc (.cells #[.slice A n c, .string v.root] 36)).alloc (.cells #[.slice pa pn pc, .slice ta tn tc, .int .i64 deeds, .slice fa fn fc, .slice oa on oc] 32)).alloc (.cells #[.slice none 0 0, .string ⟨#[]⟩] 36)) (w.heap.size + 1 + 1) 36 #[.slice none 0 0, .string ⟨#[]⟩] := Blk.new_at (by simp) _ _
  have hBw : B ≤ w.heap.size := Nat.le_trans hB (Nat.le_of_lt hH.b.lt)
  have H0 := Lib.hid (And.intro (hH.on_ hk) (And.intro hbv (And.intro hbs (And.intro hbr (And.intro (orow_below hV hk (Nat.le_refl _)) hk)))))
  have HX := Lib.hid hX
  have HPL0 : Hid (Whole v n ∧ Tells key v said ∧ NGood q r ∧ nx ≤ 16 * r ∧ r ≤ r + 0 ∧ drawn.length ≤ nx) := Lib.hid ⟨hv, hT, hN, hnx, by omega, hdl⟩
  have HBX := Lib.hid hbx
  have HSL := Lib.hid hsl
  have HDV := Lib.hid hdv
  have HLO : Hid (B ≤ g ∧ B ≤ w.heap.size) := Lib.hid ⟨hB, hBw⟩
  clear hH hX hx hv hT hV hdv hN hnx hdl hk hbv hbs hbr hvb hmay hbx hsl hB hBw
  unfold stepC
  dsimp only
  go_enter Tryz.func22, Tryz.ntmps22
  go_upto_region 2 with fail
  generalize (((w.alloc (.cells #[.slice A n c, .string v.root] 36)).alloc (.cells #[.slice pa pn pc, .slice ta tn tc, .int .i64 deeds, .slice fa fn fc, .slice oa on oc] 32)).alloc (.cells #[.slice none 0 0, .string ⟨#[]⟩] 36)) = w3 at *
  have y8 := H0.out.1.b.cells 8 _ rfl
  simp only [houseC, List.getElem_toArray, List.getElem_cons_zero, List.getElem_cons_succ] at y8
  have hslr := srow_slr H0.out.1.s HSL.out
  have HSR := Lib.hid hslr
  have HNL : Hid (([] ++ said).length = n ∧ n ≤ 1000000000) := Lib.hid ⟨by simpa using HSL.out, by omega⟩
  clear hslr
  go_wp2_with (at_builtin; refine wpList_append_strs rfl (.tmp 18) (.tmp 22) rfl rfl (srow_nil w3 w3.heap.size) w3.heap.size As0 n cs0 said rfl HSR.out n HNL.out.1 HNL.out.2 (Nat.le_refl _) ?_; intro A4 c4 w4 HR4 hg4 hb4 hc4 hc5; have HB4 := Lib.hid hb4; clear hg4 hb4 hc4 hc5 y8)
  have HM4 : Hid (WMem w B g w.heap.size n P1 P2 (.slice As0 n cs0) p key said ⟨pa, pn, pc, P, ta, tn, tc, Tx, deeds, fa, fn, fc, F, oa, on, oc, O⟩ Q1 Q2 dv q ⟨0, nx, ((16 * r : Nat) : Int)⟩ drawn A c v A4 c4 said w4) := wmem_start H0.out HDV.out HLO.out (Nat.le_refl _) HLO.out.2 HR4.out HB4.out
  clear HSR HNL H0 HR4 HB4
  go_loopw [10] (fun iv wr => ∃ (i : Nat) (r1 nx1 : Nat) (q1 : Plat) (Q1 Q2 dv : Value) (drawn : List ByteArray) (A : Option Addr) (c : Nat) (v : Vol) (said1 : List ByteArray) (ni li : Int), i ≤ 6 ∧ (i ≤ pn ∧ i ≤ tn) ∧ iv = .int .i64 i ∧ r1 ≤ r + i ∧ nx1 ≤ 16 * r1 ∧
    Hid (WMem w B g w.heap.size n P1 P2 (.slice As0 n cs0) p key said ⟨pa, pn, pc, P, ta, tn, tc, Tx, deeds, fa, fn, fc, F, oa, on, oc, O⟩ Q1 Q2 dv q1 ⟨0, ni, li⟩ drawn A c v A4 c4 said1 wr) ∧ Hid (Whole v n ∧ Tells key v said1 ∧ NGood q1 r1 ∧ drawn.length ≤ nx1) ∧ Hid (ni = ((nx1 : Nat) : Int) ∧ li = ((16 * r1 : Nat) : Int))) (fun iv _ => tn - (intOf iv).toNat)
  case atStart => exact ⟨0, r, nx, q, Q1, Q2, dv, drawn, A, c, v, said, _, _, by omega, ⟨by omega, by omega⟩, rfl, by omega, HPL0.out.2.2.2.1, HM4, Lib.hid ⟨HPL0.out.1, HPL0.out.2.1, HPL0.out.2.2.1, HPL0.out.2.2.2.2.2⟩, Lib.hid ⟨rfl, rfl⟩⟩
  case round =>
    clear HPL0 HM4 HDV
    obtain ⟨i, r1, nx1, q1, Q1, Q2, dv, drawn, A, c, v, said1, ni, li, hi6, hip, rfl, hr1, hnx1, HM, HPL, HNI⟩ := hrel
    have x0 := HM.out.bx.cells 0 _ rfl
    have x1 := HM.out.bx.cells 1 _ rfl
    simp only [stepC, List.getElem_toArray, List.getElem_cons_zero, List.getElem_cons_succ] at x0 x1
    by_cases hlt : i < pn ∧ i < tn
    · obtain ⟨hlp, hlt⟩ := hlt
      have i0 : (0 : Int) ≤ (i : Int) := by omega
      have ip : (i : Int) < (pn : Int) := by omega
      have it : (i : Int) < (tn : Int) := by omega
      obtain ⟨pi, hpi⟩ : ∃ x, P[i]? = some x := ⟨_, List.getElem?_eq_getElem (by rw [HX.out.p.1]; exact hlp)⟩
      obtain ⟨ti, hti⟩ : ∃ x, Tx[i]? = some x := ⟨_, List.getElem?_eq_getElem (by rw [HX.out.t.1]; exact hlt)⟩
      have hts := HBX.out.2.2 ti (List.mem_of_getElem? hti)
      rcases HX.out.p.2 with h0 | ⟨bp, op, hpa, hbp, hcp⟩
      · exact absurd (show pn = 0 from h0) (by omega)
      rcases HX.out.t.2 with h0 | ⟨bt, ot, hta, hbt, hct⟩
      · exact absurd (show tn = 0 from h0) (by omega)
      dsimp only at hpa hta
      subst hpa hta
      have HPI : Hid (∀ W, Below B w W → bp < W.heap.size ∧ bt < W.heap.size ∧ W.cell? ⟨bp, op + i, none⟩ = some (.int .i64 pi) ∧ W.cell? ⟨bt, ot + i, none⟩ = some (.string ti)) := Lib.hid (fun W hb => by
        have h1 := hcp i pi hpi 0 _ rfl
        have h2 := hct i ti hti 0 _ rfl
        simp only [Nat.mul_one, Nat.add_zero] at h1 h2
        have hs := hb.size
        have hBs : B ≤ w.heap.size := HLO.out.2
        exact ⟨by omega, by omega, (hb.cell (p := ⟨bp, op + i, none⟩) hbp).trans h1, (hb.cell (p := ⟨bt, ot + i, none⟩) hbt).trans h2⟩)
      have HTS := Lib.hid hts
      clear hpi hti hts hcp hct hbp hbt
      obtain ⟨Aq, cq, Aq', cq', nq, mq, hQe, hnq, hmq, hat, _⟩ := HM.out.h.q.slices
      have hl3 := ngood_len HPL.out.2.2.1
      obtain rfl : nq = 3 := hnq.symm.trans hl3.1
      obtain rfl : mq = 0 := hmq.symm.trans hl3.2
      simp only [Value.agg.injEq, Array.mk.injEq, List.cons.injEq, and_true] at hQe
      obtain ⟨rfl, rfl⟩ := hQe
      obtain ⟨q2, r2, hnext, hN2, hnx2, hr2⟩ := ngood_next HPL.out.2.2.1 (by omega) hnx1
      have HNX := Lib.hid (fun W (hW : Below wr.heap.size wr W) => next_any q1 ⟨0, ni, li⟩ (-1) Aq Aq' 3 0 cq cq' W (hat.grow hW) (by omega) (by omega) (hE.out W (HM.out.bl.trans (hW.mono HM.out.big))).2.1)
      rw [HNI.out.1, HNI.out.2, hnext] at HNX
      rw [← HNI.out.1, ← HNI.out.2] at HNX
      obtain ⟨e1, he1⟩ : ∃ e : Int, ((nx1 + 1 : Nat) : Int) = e := ⟨_, rfl⟩
      obtain ⟨e2, he2⟩ : ∃ e : Int, ((16 * r2 : Nat) : Int) = e := ⟨_, rfl⟩
      rw [he1, he2] at HNX
      have HNE := Lib.hid (And.intro he1 he2)
      clear he1 he2
      unfold NextOut srcV at HNX
      dsimp only at HNX
      have HG2 := Lib.hid (And.intro hN2 (And.intro hnx2 hr2))
      have HHL := Lib.hid HM.out.h.b
      have q0 := HM.out.h.b.cells 2 _ rfl
      have q1c := HM.out.h.b.cells 3 _ rfl
      have s0 := HM.out.h.b.cells 4 _ rfl
      have s1 := HM.out.h.b.cells 5 _ rfl
      have s2 := HM.out.h.b.cells 6 _ rfl
      simp only [houseC, List.getElem_toArray, List.getElem_cons_zero, List.getElem_cons_succ] at q0 q1c s0 s1 s2
      clear hnext hN2 hnx2 hr2 hat hnq hmq hl3
      obtain ⟨bb, hbb⟩ : ∃ b, nonB nx1 = b := ⟨_, rfl⟩
      have HBB : Hid (bb.size = 12) := Lib.hid (by rw [← hbb]; exact nonB_size _)
      have hbe : (bb.toList == []) = false := by rw [← hbb]; exact nonB_not _
      rw [hbb] at HNX
      clear hbb
      go_upto_region 6 with fail
      go_cut [11, 12, 13, 14] (fun a b c d wx => a = .string bb ∧ d = .int .i64 0 ∧ ∃ (g12 g13 : Nat) (A6 : Option Addr) (c6 : Nat) (A6' : Option Addr) (c6' n6 m6 : Nat), b = .pointer (some ⟨g12, 0, none⟩) ∧ c = .pointer (some ⟨g13, 0, none⟩) ∧ Hid (Blk wx g12 44 #[.int .i64 0, .int .i64 e1, .int .i64 e2]) ∧ Hid (Blk wx g13 42 #[.slice A6 n6 c6, .slice A6' m6 c6']) ∧ Hid (PlatOut wx wr.heap.size (.agg #[.slice A6 n6 c6, .slice A6' m6 c6']) q2) ∧ Hid (Below wr.heap.size wr wx))
      case first =>
        as_aux_lemma =>
          refine wp_region_T [16, 17, 18, 19] (fun W => Below wr.heap.size wr W ∧ W.cell? ⟨g, 2, none⟩ = some (.slice Aq 3 cq) ∧ W.cell? ⟨g, 3, none⟩ = some (.slice Aq' 0 cq') ∧ W.cell? ⟨g, 4, none⟩ = some (.int .i64 0) ∧ W.cell? ⟨g, 5, none⟩ = some (.int .i64 ni) ∧ W.cell? ⟨g, 6, none⟩ = some (.int .i64 li)) (by kernel_rfl) ?_
          have hHeld : (fun W => Below wr.heap.size wr W ∧ W.cell? ⟨g, 2, none⟩ = some (.slice Aq 3 cq) ∧ W.cell? ⟨g, 3, none⟩ = some (.slice Aq' 0 cq') ∧ W.cell? ⟨g, 4, none⟩ = some (.int .i64 0) ∧ W.cell? ⟨g, 5, none⟩ = some (.int .i64 ni) ∧ W.cell? ⟨g, 6, none⟩ = some (.int .i64 li)) _ := ⟨(Below.refl _ _).drew, q0, q1c, s0, s1, s2⟩
          have hba : Below wr.heap.size wr wr.drew := (Below.refl _ _).drew
          clear hba
          generalize wr.drew = wqd at *
          refine wT (i := 0) (v := ?tv1) rfl (Or.inl ⟨by rfl, ?th1⟩) hHeld ?tr1
          case th1 => (intro w hSw; (try dsimp only at hSw); go_simp; try with_reducible rfl)
          try simp only [Act.put, lst]
          refine wT (i := 1) (v := ?tv2) rfl (Or.inl ⟨by rfl, ?th2⟩) hHeld ?tr2
          case th2 => (intro w hSw; (try dsimp only at hSw); go_simp; try with_reducible rfl)
          try simp only [Act.put, lst]
          refine wT (i := 2) (v := ?tv3) rfl (Or.inl ⟨by rfl, ?th3⟩) hHeld ?tr3
          case th3 => (intro w hSw; (try dsimp only at hSw); go_simp; try with_reducible rfl)
          try simp only [Act.put, lst]
          refine wT (i := 3) (v := ?tv4) rfl (Or.inl ⟨by rfl, ?th4⟩) hHeld ?tr4
          case th4 => (intro w hSw; (try dsimp only at hSw); go_simp; try with_reducible rfl)
          try simp only [Act.put, lst]
          refine wT (i := 4) (v := ?tv5) rfl (Or.inl ⟨by rfl, ?th5⟩) hHeld ?tr5
          case th5 => (intro w hSw; (try dsimp only at hSw); go_simp; try with_reducible rfl)
          try simp only [Act.put, lst]
          refine wT (i := 5) (v := ?tv6) rfl (Or.inl ⟨by rfl, ?th6⟩) hHeld ?tr6
          case th6 => (intro w hSw; (try dsimp only at hSw); go_simp; try with_reducible rfl)
          try simp only [Act.put, lst]
          refine wT (i := 6) (v := ?tv7) rfl (Or.inl ⟨by rfl, ?th7⟩) hHeld ?tr7
          case th7 => (intro w hSw; (try dsimp only at hSw); go_simp; try with_reducible rfl)
          try simp only [Act.put, lst]
          refine wT (i := 7) (v := ?tv8) rfl (Or.inl ⟨by rfl, ?th8⟩) hHeld ?tr8
          case th8 => (intro w hSw; (try dsimp only at hSw); go_simp; try with_reducible rfl)
          try simp only [Act.put, lst]
          refine wpAnyT_ready (rs := [8, 14, 15]) (by kernel_rfl) (by simp) ?_
          refine AllReadyT.cons rfl (fun K hK => ?_) ?_
          · rw [if_pos (by rfl)]
            simp only [lst]
            have hPrev := Lib.hid hHeld
            clear hHeld
            go_simp
            refine (HNX.out _ hPrev.out.1).mono ?_
            rintro e' wq1 ⟨v6, rfl, hO6, hba⟩
            have hO6 := hO6.base (B' := wr.heap.size) hPrev.out.1.size
            obtain ⟨A6, c6, A6', c6', n6, m6, rfl, hn6, hm6, hat6, hO6⟩ := hO6.slices
            have HO := Lib.hid hO6
            clear hO6 hat6 hn6 hm6
            go_simp
            refine hK.out _ _ (⟨hPrev.out.1.trans (hba.mono hPrev.out.1.size), kpc hba hPrev.out.2.1, kpc hba hPrev.out.2.2.1, kpc hba hPrev.out.2.2.2.1, kpc hba hPrev.out.2.2.2.2.1, kpc hba hPrev.out.2.2.2.2.2⟩) (fun hHeld => ?_)
            clear hK K hPrev
            try simp only [Act.put, lst]
            clear hba
            refine wP (i := 9) (v := ?tv9) rfl (Or.inl ⟨by rfl, ?th9⟩) hHeld ?tr9
            case th9 => (intro w hSw; clear hSw; go_simp; try with_reducible rfl)
            try simp only [Act.put, lst]
            refine wP (i := 10) (v := ?tv10) rfl (Or.inl ⟨by rfl, ?th10⟩) hHeld ?tr10
            case th10 => (intro w hSw; clear hSw; go_simp; try with_reducible rfl)
            try simp only [Act.put, lst]
            refine wP (i := 11) (v := ?tv11) rfl (Or.inl ⟨by rfl, ?th11⟩) hHeld ?tr11
            case th11 => (intro w hSw; clear hSw; go_simp; try with_reducible rfl)
            try simp only [Act.put, lst]
            refine wP (i := 12) (v := ?tv12) rfl (Or.inl ⟨by rfl, ?th12⟩) hHeld ?tr12
            case th12 => (intro w hSw; clear hSw; go_simp; try with_reducible rfl)
            try simp only [Act.put, lst]
            refine wP (i := 13) (v := ?tv13) rfl (Or.inl ⟨by rfl, ?th13⟩) hHeld ?tr13
            case th13 => (intro w hSw; clear hSw; go_simp; try with_reducible rfl)
            try simp only [Act.put, lst]
            refine wpAnyT_ready (rs := [14, 15]) (by kernel_rfl) (by simp) ?_
            refine AllReadyT.cons rfl (fun K hK => ?_) ?_
            · rw [if_pos (by rfl)]
              simp only [lst]
              have hPrev := Lib.hid hHeld
              clear hHeld
              go_simp
              have HLA := Lib.hid hPrev.out.1.size
              have hba : Below wq1.heap.size wq1 (wq1.alloc (.cells #[.int .i64 0, .int .i64 0, .int .i64 0] 44)) := (Below.refl _ _).alloc (Nat.le_refl _) _
              have HA := Lib.hid (Blk.new wq1 44 #[.int .i64 0, .int .i64 0, .int .i64 0])
              replace HO := Lib.hid (HO.out.on_ hba)
              refine hK.out _ _ (⟨hPrev.out.1.trans (hba.mono hPrev.out.1.size), kpc hba hPrev.out.2.1, kpc hba hPrev.out.2.2.1, kpc hba hPrev.out.2.2.2.1, kpc hba hPrev.out.2.2.2.2.1, kpc hba hPrev.out.2.2.2.2.2⟩) (fun hHeld => ?_)
              clear hK K hPrev
              try simp only [Act.put, lst]
              clear hba
              generalize wq1.alloc (.cells #[.int .i64 0, .int .i64 0, .int .i64 0] 44) = wq2 at *
              refine wpAnyT_ready (rs := [15]) (by kernel_rfl) (by simp) ?_
              refine AllReadyT.cons rfl (fun K hK => ?_) ?_
              · rw [if_pos (by rfl)]
                simp only [lst]
                have hPrev := Lib.hid hHeld
                clear hHeld
                go_simp
                have HLC := Lib.hid hPrev.out.1.size
                have hba : Below wq2.heap.size wq2 (wq2.alloc (.cells #[.slice none 0 0, .slice none 0 0] 42)) := (Below.refl _ _).alloc (Nat.le_refl _) _
                have HC := Lib.hid (Blk.new wq2 42 #[.slice none 0 0, .slice none 0 0])
                replace HO := Lib.hid (HO.out.on_ hba)
                replace HA := Lib.hid (HA.out.below hba HA.out.lt)
                refine hK.out _ _ (⟨hPrev.out.1.trans (hba.mono hPrev.out.1.size), kpc hba hPrev.out.2.1, kpc hba hPrev.out.2.2.1, kpc hba hPrev.out.2.2.2.1, kpc hba hPrev.out.2.2.2.2.1, kpc hba hPrev.out.2.2.2.2.2⟩) (fun hHeld => ?_)
                clear hK K hPrev
                try simp only [Act.put, lst]
                clear hba
                generalize wq2.alloc (.cells #[.slice none 0 0, .slice none 0 0] 42) = wq3 at *
                refine wpAnyT_ready (rs := [16]) (by kernel_rfl) (by simp) ?_
                refine AllReadyT.late rfl (by kernel_rfl) (fun K hK => ?_) AllReadyT.nil
                rw [if_pos (by rfl)]
                simp only [lst]
                go_simp
                refine hK.out _ _ ?_
                clear hK K
                try simp only [Act.put, lst]
                refine wpAnyT_ready (rs := [17]) (by kernel_rfl) (by simp) ?_
                refine AllReadyT.late rfl (by kernel_rfl) (fun K hK => ?_) AllReadyT.nil
                rw [if_pos (by rfl)]
                simp only [lst]
                have za0 := HA.out.cells 0 _ rfl
                have za1 := HA.out.cells 1 _ rfl
                have za2 := HA.out.cells 2 _ rfl
                have zaf := HA.out.frozen
                have zal := HA.out.lt
                simp only [List.getElem_toArray, List.getElem_cons_zero, List.getElem_cons_succ] at za0 za1 za2
                go_simp
                refine hK.out _ _ ?_
                clear hK K
                try simp only [Act.put, lst]
                refine wpAnyT_ready (rs := [18]) (by kernel_rfl) (by simp) ?_
                refine AllReadyT.late rfl (by kernel_rfl) (fun K hK => ?_) AllReadyT.nil
                rw [if_pos (by rfl)]
                simp only [lst]
                have hne1 := Blk.ne_ HA.out HC.out (by decide)
                have hne2 := hne1.symm
                have zc0 := HC.out.cells 0 _ rfl
                have zc1 := HC.out.cells 1 _ rfl
                have zcf := HC.out.frozen
                have zcl := HC.out.lt
                simp only [List.getElem_toArray, List.getElem_cons_zero, List.getElem_cons_succ] at zc0 zc1
                go_simp
                refine hK.out _ _ ?_
                clear hK K
                try simp only [Act.put, lst]
                refine wpAnyT_ready (rs := [19]) (by kernel_rfl) (by simp) ?_
                refine AllReadyT.late rfl (by kernel_rfl) (fun K hK => ?_) AllReadyT.nil
                rw [if_pos (by rfl)]
                simp only [lst]
                go_simp
                refine hK.out _ _ ?_
                clear hK K
                try simp only [Act.put, lst]
                refine wpAnyT_done (by kernel_rfl) ?_
                go_step
                go_step
                go_meet
                have hc1 := ((HC.out.far (p := ⟨_, 0, none⟩) (Blk.ne_ HC.out HA.out (by decide)) (.int .i64 0)).far (p := ⟨_, 1, none⟩) (Blk.ne_ HC.out HA.out (by decide)) (.int .i64 e1)).far (p := ⟨_, 2, none⟩) (Blk.ne_ HC.out HA.out (by decide)) (.int .i64 e2)
                have HC1 := Lib.hid hc1
                have a1 := HA.out.set_ 0 (.int .i64 0)
                have a2 := a1.set_ 1 (.int .i64 e1)
                have a3 := a2.set_ 2 (.int .i64 e2)
                have o3 := ((HO.out.far HA.out (by decide) (by decide) 0 (.int .i64 0)).far a1 (by decide) (by decide) 1 (.int .i64 e1)).far a2 (by decide) (by decide) 2 (.int .i64 e2)
                have c1 := HC1.out.set_ 0 (.slice A6 n6 c6)
                have o4 := (o3.far HC1.out (by decide) (by decide) 0 (.slice A6 n6 c6)).far c1 (by decide) (by decide) 1 (.slice A6' m6 c6')
                have hne := Blk.ne_ HA.out HC.out (by decide)
                have hbl := ((((hHeld.1.setCell (p := ⟨_, 0, none⟩) HLA.out (.int .i64 0)).setCell (p := ⟨_, 1, none⟩) HLA.out (.int .i64 e1)).setCell (p := ⟨_, 2, none⟩) HLA.out (.int .i64 e2)).setCell (p := ⟨_, 0, none⟩) HLC.out (.slice A6 n6 c6)).setCell (p := ⟨_, 1, none⟩) HLC.out (.slice A6' m6 c6')
                exact ⟨rfl, rfl, _, _, A6, c6, A6', c6', n6, m6, rfl, rfl, Lib.hid ((a3.far (p := ⟨_, 0, none⟩) hne _).far (p := ⟨_, 1, none⟩) hne _), Lib.hid (c1.set_ 1 (.slice A6' m6 c6')), Lib.hid o4, Lib.hid hbl⟩
              exact AllReadyT.nil
            refine AllReadyT.cons rfl (fun K hK => ?_) ?_
            · rw [if_pos (by rfl)]
              simp only [lst]
              have hPrev := Lib.hid hHeld
              clear hHeld
              go_simp
              have HLC := Lib.hid hPrev.out.1.size
              have hba : Below wq1.heap.size wq1 (wq1.alloc (.cells #[.slice none 0 0, .slice none 0 0] 42)) := (Below.refl _ _).alloc (Nat.le_refl _) _
              have HC := Lib.hid (Blk.new wq1 42 #[.slice none 0 0, .slice none 0 0])
              replace HO := Lib.hid (HO.out.on_ hba)
              refine hK.out _ _ (⟨hPrev.out.1.trans (hba.mono hPrev.out.1.size), kpc hba hPrev.out.2.1, kpc hba hPrev.out.2.2.1, kpc hba hPrev.out.2.2.2.1, kpc hba hPrev.out.2.2.2.2.1, kpc hba hPrev.out.2.2.2.2.2⟩) (fun hHeld => ?_)
              clear hK K hPrev
              try simp only [Act.put, lst]
              clear hba
              generalize wq1.alloc (.cells #[.slice none 0 0, .slice none 0 0] 42) = wq4 at *
              refine wpAnyT_ready (rs := [14]) (by kernel_rfl) (by simp) ?_
              refine AllReadyT.cons rfl (fun K hK => ?_) ?_
              · rw [if_pos (by rfl)]
                simp only [lst]
                have hPrev := Lib.hid hHeld
                clear hHeld
                go_simp
                have HLA := Lib.hid hPrev.out.1.size
                have hba : Below wq4.heap.size wq4 (wq4.alloc (.cells #[.int .i64 0, .int .i64 0, .int .i64 0] 44)) := (Below.refl _ _).alloc (Nat.le_refl _) _
                have HA := Lib.hid (Blk.new wq4 44 #[.int .i64 0, .int .i64 0, .int .i64 0])
                replace HO := Lib.hid (HO.out.on_ hba)
                replace HC := Lib.hid (HC.out.below hba HC.out.lt)
                refine hK.out _ _ (⟨hPrev.out.1.trans (hba.mono hPrev.out.1.size), kpc hba hPrev.out.2.1, kpc hba hPrev.out.2.2.1, kpc hba hPrev.out.2.2.2.1, kpc hba hPrev.out.2.2.2.2.1, kpc hba hPrev.out.2.2.2.2.2⟩) (fun hHeld => ?_)
                clear hK K hPrev
                try simp only [Act.put, lst]
                clear hba
                generalize wq4.alloc (.cells #[.int .i64 0, .int .i64 0, .int .i64 0] 44) = wq5 at *
                refine wpAnyT_ready (rs := [16]) (by kernel_rfl) (by simp) ?_
                refine AllReadyT.late rfl (by kernel_rfl) (fun K hK => ?_) AllReadyT.nil
                rw [if_pos (by rfl)]
                simp only [lst]
                go_simp
                refine hK.out _ _ ?_
                clear hK K
                try simp only [Act.put, lst]
                refine wpAnyT_ready (rs := [17]) (by kernel_rfl) (by simp) ?_
                refine AllReadyT.late rfl (by kernel_rfl) (fun K hK => ?_) AllReadyT.nil
                rw [if_pos (by rfl)]
                simp only [lst]
                have za0 := HA.out.cells 0 _ rfl
                have za1 := HA.out.cells 1 _ rfl
                have za2 := HA.out.cells 2 _ rfl
                have zaf := HA.out.frozen
                have zal := HA.out.lt
                simp only [List.getElem_toArray, List.getElem_cons_zero, List.getElem_cons_succ] at za0 za1 za2
                go_simp
                refine hK.out _ _ ?_
                clear hK K
                try simp only [Act.put, lst]
                refine wpAnyT_ready (rs := [18]) (by kernel_rfl) (by simp) ?_
                refine AllReadyT.late rfl (by kernel_rfl) (fun K hK => ?_) AllReadyT.nil
                rw [if_pos (by rfl)]
                simp only [lst]
                have hne1 := Blk.ne_ HA.out HC.out (by decide)
                have hne2 := hne1.symm
                have zc0 := HC.out.cells 0 _ rfl
                have zc1 := HC.out.cells 1 _ rfl
                have zcf := HC.out.frozen
                have zcl := HC.out.lt
                simp only [List.getElem_toArray, List.getElem_cons_zero, List.getElem_cons_succ] at zc0 zc1
                go_simp
                refine hK.out _ _ ?_
                clear hK K
                try simp only [Act.put, lst]
                refine wpAnyT_ready (rs := [19]) (by kernel_rfl) (by simp) ?_
                refine AllReadyT.late rfl (by kernel_rfl) (fun K hK => ?_) AllReadyT.nil
                rw [if_pos (by rfl)]
                simp only [lst]
                go_simp
                refine hK.out _ _ ?_
                clear hK K
                try simp only [Act.put, lst]
                refine wpAnyT_done (by kernel_rfl) ?_
                go_step
                go_step
                go_meet
                have hc1 := ((HC.out.far (p := ⟨_, 0, none⟩) (Blk.ne_ HC.out HA.out (by decide)) (.int .i64 0)).far (p := ⟨_, 1, none⟩) (Blk.ne_ HC.out HA.out (by decide)) (.int .i64 e1)).far (p := ⟨_, 2, none⟩) (Blk.ne_ HC.out HA.out (by decide)) (.int .i64 e2)
                have HC1 := Lib.hid hc1
                have a1 := HA.out.set_ 0 (.int .i64 0)
                have a2 := a1.set_ 1 (.int .i64 e1)
                have a3 := a2.set_ 2 (.int .i64 e2)
                have o3 := ((HO.out.far HA.out (by decide) (by decide) 0 (.int .i64 0)).far a1 (by decide) (by decide) 1 (.int .i64 e1)).far a2 (by decide) (by decide) 2 (.int .i64 e2)
                have c1 := HC1.out.set_ 0 (.slice A6 n6 c6)
                have o4 := (o3.far HC1.out (by decide) (by decide) 0 (.slice A6 n6 c6)).far c1 (by decide) (by decide) 1 (.slice A6' m6 c6')
                have hne := Blk.ne_ HA.out HC.out (by decide)
                have hbl := ((((hHeld.1.setCell (p := ⟨_, 0, none⟩) HLA.out (.int .i64 0)).setCell (p := ⟨_, 1, none⟩) HLA.out (.int .i64 e1)).setCell (p := ⟨_, 2, none⟩) HLA.out (.int .i64 e2)).setCell (p := ⟨_, 0, none⟩) HLC.out (.slice A6 n6 c6)).setCell (p := ⟨_, 1, none⟩) HLC.out (.slice A6' m6 c6')
                exact ⟨rfl, rfl, _, _, A6, c6, A6', c6', n6, m6, rfl, rfl, Lib.hid ((a3.far (p := ⟨_, 0, none⟩) hne _).far (p := ⟨_, 1, none⟩) hne _), Lib.hid (c1.set_ 1 (.slice A6' m6 c6')), Lib.hid o4, Lib.hid hbl⟩
              exact AllReadyT.nil
            exact AllReadyT.nil
          refine AllReadyT.cons rfl (fun K hK => ?_) ?_
          · rw [if_pos (by rfl)]
            simp only [lst]
            have hPrev := Lib.hid hHeld
            clear hHeld
            go_simp
            have HLA := Lib.hid hPrev.out.1.size
            have hba : Below wqd.heap.size wqd (wqd.alloc (.cells #[.int .i64 0, .int .i64 0, .int .i64 0] 44)) := (Below.refl _ _).alloc (Nat.le_refl _) _
            have HA := Lib.hid (Blk.new wqd 44 #[.int .i64 0, .int .i64 0, .int .i64 0])
            refine hK.out _ _ (⟨hPrev.out.1.trans (hba.mono hPrev.out.1.size), kpc hba hPrev.out.2.1, kpc hba hPrev.out.2.2.1, kpc hba hPrev.out.2.2.2.1, kpc hba hPrev.out.2.2.2.2.1, kpc hba hPrev.out.2.2.2.2.2⟩) (fun hHeld => ?_)
            clear hK K hPrev
            try simp only [Act.put, lst]
            clear hba
            generalize wqd.alloc (.cells #[.int .i64 0, .int .i64 0, .int .i64 0] 44) = wq6 at *
            refine wpAnyT_ready (rs := [8, 15]) (by kernel_rfl) (by simp) ?_
            refine AllReadyT.cons rfl (fun K hK => ?_) ?_
            · rw [if_pos (by rfl)]
              simp only [lst]
              have hPrev := Lib.hid hHeld
              clear hHeld
              go_simp
              refine (HNX.out _ hPrev.out.1).mono ?_
              rintro e' wq7 ⟨v6, rfl, hO6, hba⟩
              have hO6 := hO6.base (B' := wr.heap.size) hPrev.out.1.size
              obtain ⟨A6, c6, A6', c6', n6, m6, rfl, hn6, hm6, hat6, hO6⟩ := hO6.slices
              have HO := Lib.hid hO6
              clear hO6 hat6 hn6 hm6
              go_simp
              replace HA := Lib.hid (HA.out.below hba HA.out.lt)
              refine hK.out _ _ (⟨hPrev.out.1.trans (hba.mono hPrev.out.1.size), kpc hba hPrev.out.2.1, kpc hba hPrev.out.2.2.1, kpc hba hPrev.out.2.2.2.1, kpc hba hPrev.out.2.2.2.2.1, kpc hba hPrev.out.2.2.2.2.2⟩) (fun hHeld => ?_)
              clear hK K hPrev
              try simp only [Act.put, lst]
              clear hba
              refine wP (i := 9) (v := ?tv14) rfl (Or.inl ⟨by rfl, ?th14⟩) hHeld ?tr14
              case th14 => (intro w hSw; clear hSw; go_simp; try with_reducible rfl)
              try simp only [Act.put, lst]
              refine wP (i := 10) (v := ?tv15) rfl (Or.inl ⟨by rfl, ?th15⟩) hHeld ?tr15
              case th15 => (intro w hSw; clear hSw; go_simp; try with_reducible rfl)
              try simp only [Act.put, lst]
              refine wP (i := 11) (v := ?tv16) rfl (Or.inl ⟨by rfl, ?th16⟩) hHeld ?tr16
              case th16 => (intro w hSw; clear hSw; go_simp; try with_reducible rfl)
              try simp only [Act.put, lst]
              refine wP (i := 12) (v := ?tv17) rfl (Or.inl ⟨by rfl, ?th17⟩) hHeld ?tr17
              case th17 => (intro w hSw; clear hSw; go_simp; try with_reducible rfl)
              try simp only [Act.put, lst]
              refine wP (i := 13) (v := ?tv18) rfl (Or.inl ⟨by rfl, ?th18⟩) hHeld ?tr18
              case th18 => (intro w hSw; clear hSw; go_simp; try with_reducible rfl)
              try simp only [Act.put, lst]
              refine wpAnyT_ready (rs := [15]) (by kernel_rfl) (by simp) ?_
              refine AllReadyT.cons rfl (fun K hK => ?_) ?_
              · rw [if_pos (by rfl)]
                simp only [lst]
                have hPrev := Lib.hid hHeld
                clear hHeld
                go_simp
                have HLC := Lib.hid hPrev.out.1.size
                have hba : Below wq7.heap.size wq7 (wq7.alloc (.cells #[.slice none 0 0, .slice none 0 0] 42)) := (Below.refl _ _).alloc (Nat.le_refl _) _
                have HC := Lib.hid (Blk.new wq7 42 #[.slice none 0 0, .slice none 0 0])
                replace HA := Lib.hid (HA.out.below hba HA.out.lt)
                replace HO := Lib.hid (HO.out.on_ hba)
                refine hK.out _ _ (⟨hPrev.out.1.trans (hba.mono hPrev.out.1.size), kpc hba hPrev.out.2.1, kpc hba hPrev.out.2.2.1, kpc hba hPrev.out.2.2.2.1, kpc hba hPrev.out.2.2.2.2.1, kpc hba hPrev.out.2.2.2.2.2⟩) (fun hHeld => ?_)
                clear hK K hPrev
                try simp only [Act.put, lst]
                clear hba
                generalize wq7.alloc (.cells #[.slice none 0 0, .slice none 0 0] 42) = wq8 at *
                refine wpAnyT_ready (rs := [16]) (by kernel_rfl) (by simp) ?_
                refine AllReadyT.late rfl (by kernel_rfl) (fun K hK => ?_) AllReadyT.nil
                rw [if_pos (by rfl)]
                simp only [lst]
                go_simp
                refine hK.out _ _ ?_
                clear hK K
                try simp only [Act.put, lst]
                refine wpAnyT_ready (rs := [17]) (by kernel_rfl) (by simp) ?_
                refine AllReadyT.late rfl (by kernel_rfl) (fun K hK => ?_) AllReadyT.nil
                rw [if_pos (by rfl)]
                simp only [lst]
                have za0 := HA.out.cells 0 _ rfl
                have za1 := HA.out.cells 1 _ rfl
                have za2 := HA.out.cells 2 _ rfl
                have zaf := HA.out.frozen
                have zal := HA.out.lt
                simp only [List.getElem_toArray, List.getElem_cons_zero, List.getElem_cons_succ] at za0 za1 za2
                go_simp
                refine hK.out _ _ ?_
                clear hK K
                try simp only [Act.put, lst]
                refine wpAnyT_ready (rs := [18]) (by kernel_rfl) (by simp) ?_
                refine AllReadyT.late rfl (by kernel_rfl) (fun K hK => ?_) AllReadyT.nil
                rw [if_pos (by rfl)]
                simp only [lst]
                have hne1 := Blk.ne_ HA.out HC.out (by decide)
                have hne2 := hne1.symm
                have zc0 := HC.out.cells 0 _ rfl
                have zc1 := HC.out.cells 1 _ rfl
                have zcf := HC.out.frozen
                have zcl := HC.out.lt
                simp only [List.getElem_toArray, List.getElem_cons_zero, List.getElem_cons_succ] at zc0 zc1
                go_simp
                refine hK.out _ _ ?_
                clear hK K
                try simp only [Act.put, lst]
                refine wpAnyT_ready (rs := [19]) (by kernel_rfl) (by simp) ?_
                refine AllReadyT.late rfl (by kernel_rfl) (fun K hK => ?_) AllReadyT.nil
                rw [if_pos (by rfl)]
                simp only [lst]
                go_simp
                refine hK.out _ _ ?_
                clear hK K
                try simp only [Act.put, lst]
                refine wpAnyT_done (by kernel_rfl) ?_
                go_step
                go_step
                go_meet
                have hc1 := ((HC.out.far (p := ⟨_, 0, none⟩) (Blk.ne_ HC.out HA.out (by decide)) (.int .i64 0)).far (p := ⟨_, 1, none⟩) (Blk.ne_ HC.out HA.out (by decide)) (.int .i64 e1)).far (p := ⟨_, 2, none⟩) (Blk.ne_ HC.out HA.out (by decide)) (.int .i64 e2)
                have HC1 := Lib.hid hc1
                have a1 := HA.out.set_ 0 (.int .i64 0)
                have a2 := a1.set_ 1 (.int .i64 e1)
                have a3 := a2.set_ 2 (.int .i64 e2)
                have o3 := ((HO.out.far HA.out (by decide) (by decide) 0 (.int .i64 0)).far a1 (by decide) (by decide) 1 (.int .i64 e1)).far a2 (by decide) (by decide) 2 (.int .i64 e2)
                have c1 := HC1.out.set_ 0 (.slice A6 n6 c6)
                have o4 := (o3.far HC1.out (by decide) (by decide) 0 (.slice A6 n6 c6)).far c1 (by decide) (by decide) 1 (.slice A6' m6 c6')
                have hne := Blk.ne_ HA.out HC.out (by decide)
                have hbl := ((((hHeld.1.setCell (p := ⟨_, 0, none⟩) HLA.out (.int .i64 0)).setCell (p := ⟨_, 1, none⟩) HLA.out (.int .i64 e1)).setCell (p := ⟨_, 2, none⟩) HLA.out (.int .i64 e2)).setCell (p := ⟨_, 0, none⟩) HLC.out (.slice A6 n6 c6)).setCell (p := ⟨_, 1, none⟩) HLC.out (.slice A6' m6 c6')
                exact ⟨rfl, rfl, _, _, A6, c6, A6', c6', n6, m6, rfl, rfl, Lib.hid ((a3.far (p := ⟨_, 0, none⟩) hne _).far (p := ⟨_, 1, none⟩) hne _), Lib.hid (c1.set_ 1 (.slice A6' m6 c6')), Lib.hid o4, Lib.hid hbl⟩
              exact AllReadyT.nil
            refine AllReadyT.cons rfl (fun K hK => ?_) ?_
            · rw [if_pos (by rfl)]
              simp only [lst]
              have hPrev := Lib.hid hHeld
              clear hHeld
              go_simp
              have HLC := Lib.hid hPrev.out.1.size
              have hba : Below wq6.heap.size wq6 (wq6.alloc (.cells #[.slice none 0 0, .slice none 0 0] 42)) := (Below.refl _ _).alloc (Nat.le_refl _) _
              have HC := Lib.hid (Blk.new wq6 42 #[.slice none 0 0, .slice none 0 0])
              replace HA := Lib.hid (HA.out.below hba HA.out.lt)
              refine hK.out _ _ (⟨hPrev.out.1.trans (hba.mono hPrev.out.1.size), kpc hba hPrev.out.2.1, kpc hba hPrev.out.2.2.1, kpc hba hPrev.out.2.2.2.1, kpc hba hPrev.out.2.2.2.2.1, kpc hba hPrev.out.2.2.2.2.2⟩) (fun hHeld => ?_)
              clear hK K hPrev
              try simp only [Act.put, lst]
              clear hba
              generalize wq6.alloc (.cells #[.slice none 0 0, .slice none 0 0] 42) = wq9 at *
              refine wpAnyT_ready (rs := [8]) (by kernel_rfl) (by simp) ?_
              refine AllReadyT.cons rfl (fun K hK => ?_) ?_
              · rw [if_pos (by rfl)]
                simp only [lst]
                have hPrev := Lib.hid hHeld
                clear hHeld
                go_simp
                refine (HNX.out _ hPrev.out.1).mono ?_
                rintro e' wq10 ⟨v6, rfl, hO6, hba⟩
                have hO6 := hO6.base (B' := wr.heap.size) hPrev.out.1.size
                obtain ⟨A6, c6, A6', c6', n6, m6, rfl, hn6, hm6, hat6, hO6⟩ := hO6.slices
                have HO := Lib.hid hO6
                clear hO6 hat6 hn6 hm6
                go_simp
                replace HA := Lib.hid (HA.out.below hba HA.out.lt)
                replace HC := Lib.hid (HC.out.below hba HC.out.lt)
                refine hK.out _ _ (⟨hPrev.out.1.trans (hba.mono hPrev.out.1.size), kpc hba hPrev.out.2.1, kpc hba hPrev.out.2.2.1, kpc hba hPrev.out.2.2.2.1, kpc hba hPrev.out.2.2.2.2.1, kpc hba hPrev.out.2.2.2.2.2⟩) (fun hHeld => ?_)
                clear hK K hPrev
                try simp only [Act.put, lst]
                clear hba
                refine wP (i := 9) (v := ?tv19) rfl (Or.inl ⟨by rfl, ?th19⟩) hHeld ?tr19
                case th19 => (intro w hSw; clear hSw; go_simp; try with_reducible rfl)
                try simp only [Act.put, lst]
                refine wP (i := 10) (v := ?tv20) rfl (Or.inl ⟨by rfl, ?th20⟩) hHeld ?tr20
                case th20 => (intro w hSw; clear hSw; go_simp; try with_reducible rfl)
                try simp only [Act.put, lst]
                refine wP (i := 11) (v := ?tv21) rfl (Or.inl ⟨by rfl, ?th21⟩) hHeld ?tr21
                case th21 => (intro w hSw; clear hSw; go_simp; try with_reducible rfl)
                try simp only [Act.put, lst]
                refine wP (i := 12) (v := ?tv22) rfl (Or.inl ⟨by rfl, ?th22⟩) hHeld ?tr22
                case th22 => (intro w hSw; clear hSw; go_simp; try with_reducible rfl)
                try simp only [Act.put, lst]
                refine wP (i := 13) (v := ?tv23) rfl (Or.inl ⟨by rfl, ?th23⟩) hHeld ?tr23
                case th23 => (intro w hSw; clear hSw; go_simp; try with_reducible rfl)
                try simp only [Act.put, lst]
                refine wpAnyT_ready (rs := [16]) (by kernel_rfl) (by simp) ?_
                refine AllReadyT.late rfl (by kernel_rfl) (fun K hK => ?_) AllReadyT.nil
                rw [if_pos (by rfl)]
                simp only [lst]
                go_simp
                refine hK.out _ _ ?_
                clear hK K
                try simp only [Act.put, lst]
                refine wpAnyT_ready (rs := [17]) (by kernel_rfl) (by simp) ?_
                refine AllReadyT.late rfl (by kernel_rfl) (fun K hK => ?_) AllReadyT.nil
                rw [if_pos (by rfl)]
                simp only [lst]
                have za0 := HA.out.cells 0 _ rfl
                have za1 := HA.out.cells 1 _ rfl
                have za2 := HA.out.cells 2 _ rfl
                have zaf := HA.out.frozen
                have zal := HA.out.lt
                simp only [List.getElem_toArray, List.getElem_cons_zero, List.getElem_cons_succ] at za0 za1 za2
                go_simp
                refine hK.out _ _ ?_
                clear hK K
                try simp only [Act.put, lst]
                refine wpAnyT_ready (rs := [18]) (by kernel_rfl) (by simp) ?_
                refine AllReadyT.late rfl (by kernel_rfl) (fun K hK => ?_) AllReadyT.nil
                rw [if_pos (by rfl)]
                simp only [lst]
                have hne1 := Blk.ne_ HA.out HC.out (by decide)
                have hne2 := hne1.symm
                have zc0 := HC.out.cells 0 _ rfl
                have zc1 := HC.out.cells 1 _ rfl
                have zcf := HC.out.frozen
                have zcl := HC.out.lt
                simp only [List.getElem_toArray, List.getElem_cons_zero, List.getElem_cons_succ] at zc0 zc1
                go_simp
                refine hK.out _ _ ?_
                clear hK K
                try simp only [Act.put, lst]
                refine wpAnyT_ready (rs := [19]) (by kernel_rfl) (by simp) ?_
                refine AllReadyT.late rfl (by kernel_rfl) (fun K hK => ?_) AllReadyT.nil
                rw [if_pos (by rfl)]
                simp only [lst]
                go_simp
                refine hK.out _ _ ?_
                clear hK K
                try simp only [Act.put, lst]
                refine wpAnyT_done (by kernel_rfl) ?_
                go_step
                go_step
                go_meet
                have hc1 := ((HC.out.far (p := ⟨_, 0, none⟩) (Blk.ne_ HC.out HA.out (by decide)) (.int .i64 0)).far (p := ⟨_, 1, none⟩) (Blk.ne_ HC.out HA.out (by decide)) (.int .i64 e1)).far (p := ⟨_, 2, none⟩) (Blk.ne_ HC.out HA.out (by decide)) (.int .i64 e2)
                have HC1 := Lib.hid hc1
                have a1 := HA.out.set_ 0 (.int .i64 0)
                have a2 := a1.set_ 1 (.int .i64 e1)
                have a3 := a2.set_ 2 (.int .i64 e2)
                have o3 := ((HO.out.far HA.out (by decide) (by decide) 0 (.int .i64 0)).far a1 (by decide) (by decide) 1 (.int .i64 e1)).far a2 (by decide) (by decide) 2 (.int .i64 e2)
                have c1 := HC1.out.set_ 0 (.slice A6 n6 c6)
                have o4 := (o3.far HC1.out (by decide) (by decide) 0 (.slice A6 n6 c6)).far c1 (by decide) (by decide) 1 (.slice A6' m6 c6')
                have hne := Blk.ne_ HA.out HC.out (by decide)
                have hbl := ((((hHeld.1.setCell (p := ⟨_, 0, none⟩) HLA.out (.int .i64 0)).setCell (p := ⟨_, 1, none⟩) HLA.out (.int .i64 e1)).setCell (p := ⟨_, 2, none⟩) HLA.out (.int .i64 e2)).setCell (p := ⟨_, 0, none⟩) HLC.out (.slice A6 n6 c6)).setCell (p := ⟨_, 1, none⟩) HLC.out (.slice A6' m6 c6')
                exact ⟨rfl, rfl, _, _, A6, c6, A6', c6', n6, m6, rfl, rfl, Lib.hid ((a3.far (p := ⟨_, 0, none⟩) hne _).far (p := ⟨_, 1, none⟩) hne _), Lib.hid (c1.set_ 1 (.slice A6' m6 c6')), Lib.hid o4, Lib.hid hbl⟩
              exact AllReadyT.nil
            exact AllReadyT.nil
          refine AllReadyT.cons rfl (fun K hK => ?_) ?_
          · rw [if_pos (by rfl)]
            simp only [lst]
            have hPrev := Lib.hid hHeld
            clear hHeld
            go_simp
            have HLC := Lib.hid hPrev.out.1.size
            have hba : Below wqd.heap.size wqd (wqd.alloc (.cells #[.slice none 0 0, .slice none 0 0] 42)) := (Below.refl _ _).alloc (Nat.le_refl _) _
            have HC := Lib.hid (Blk.new wqd 42 #[.slice none 0 0, .slice none 0 0])
            refine hK.out _ _ (⟨hPrev.out.1.trans (hba.mono hPrev.out.1.size), kpc hba hPrev.out.2.1, kpc hba hPrev.out.2.2.1, kpc hba hPrev.out.2.2.2.1, kpc hba hPrev.out.2.2.2.2.1, kpc hba hPrev.out.2.2.2.2.2⟩) (fun hHeld => ?_)
            clear hK K hPrev
            try simp only [Act.put, lst]
            clear hba
            generalize wqd.alloc (.cells #[.slice none 0 0, .slice none 0 0] 42) = wq11 at *
            refine wpAnyT_ready (rs := [8, 14]) (by kernel_rfl) (by simp) ?_
            refine AllReadyT.cons rfl (fun K hK => ?_) ?_
            · rw [if_pos (by rfl)]
              simp only [lst]
              have hPrev := Lib.hid hHeld
              clear hHeld
              go_simp
              refine (HNX.out _ hPrev.out.1).mono ?_
              rintro e' wq12 ⟨v6, rfl, hO6, hba⟩
              have hO6 := hO6.base (B' := wr.heap.size) hPrev.out.1.size
              obtain ⟨A6, c6, A6', c6', n6, m6, rfl, hn6, hm6, hat6, hO6⟩ := hO6.slices
              have HO := Lib.hid hO6
              clear hO6 hat6 hn6 hm6
              go_simp
              replace HC := Lib.hid (HC.out.below hba HC.out.lt)
              refine hK.out _ _ (⟨hPrev.out.1.trans (hba.mono hPrev.out.1.size), kpc hba hPrev.out.2.1, kpc hba hPrev.out.2.2.1, kpc hba hPrev.out.2.2.2.1, kpc hba hPrev.out.2.2.2.2.1, kpc hba hPrev.out.2.2.2.2.2⟩) (fun hHeld => ?_)
              clear hK K hPrev
              try simp only [Act.put, lst]
              clear hba
              refine wP (i := 9) (v := ?tv24) rfl (Or.inl ⟨by rfl, ?th24⟩) hHeld ?tr24
              case th24 => (intro w hSw; clear hSw; go_simp; try with_reducible rfl)
              try simp only [Act.put, lst]
              refine wP (i := 10) (v := ?tv25) rfl (Or.inl ⟨by rfl, ?th25⟩) hHeld ?tr25
              case th25 => (intro w hSw; clear hSw; go_simp; try with_reducible rfl)
              try simp only [Act.put, lst]
              refine wP (i := 11) (v := ?tv26) rfl (Or.inl ⟨by rfl, ?th26⟩) hHeld ?tr26
              case th26 => (intro w hSw; clear hSw; go_simp; try with_reducible rfl)
              try simp only [Act.put, lst]
              refine wP (i := 12) (v := ?tv27) rfl (Or.inl ⟨by rfl, ?th27⟩) hHeld ?tr27
              case th27 => (intro w hSw; clear hSw; go_simp; try with_reducible rfl)
              try simp only [Act.put, lst]
              refine wP (i := 13) (v := ?tv28) rfl (Or.inl ⟨by rfl, ?th28⟩) hHeld ?tr28
              case th28 => (intro w hSw; clear hSw; go_simp; try with_reducible rfl)
              try simp only [Act.put, lst]
              refine wpAnyT_ready (rs := [14]) (by kernel_rfl) (by simp) ?_
              refine AllReadyT.cons rfl (fun K hK => ?_) ?_
              · rw [if_pos (by rfl)]
                simp only [lst]
                have hPrev := Lib.hid hHeld
                clear hHeld
                go_simp
                have HLA := Lib.hid hPrev.out.1.size
                have hba : Below wq12.heap.size wq12 (wq12.alloc (.cells #[.int .i64 0, .int .i64 0, .int .i64 0] 44)) := (Below.refl _ _).alloc (Nat.le_refl _) _
                have HA := Lib.hid (Blk.new wq12 44 #[.int .i64 0, .int .i64 0, .int .i64 0])
                replace HC := Lib.hid (HC.out.below hba HC.out.lt)
                replace HO := Lib.hid (HO.out.on_ hba)
                refine hK.out _ _ (⟨hPrev.out.1.trans (hba.mono hPrev.out.1.size), kpc hba hPrev.out.2.1, kpc hba hPrev.out.2.2.1, kpc hba hPrev.out.2.2.2.1, kpc hba hPrev.out.2.2.2.2.1, kpc hba hPrev.out.2.2.2.2.2⟩) (fun hHeld => ?_)
                clear hK K hPrev
                try simp only [Act.put, lst]
                clear hba
                generalize wq12.alloc (.cells #[.int .i64 0, .int .i64 0, .int .i64 0] 44) = wq13 at *
                refine wpAnyT_ready (rs := [16]) (by kernel_rfl) (by simp) ?_
                refine AllReadyT.late rfl (by kernel_rfl) (fun K hK => ?_) AllReadyT.nil
                rw [if_pos (by rfl)]
                simp only [lst]
                go_simp
                refine hK.out _ _ ?_
                clear hK K
                try simp only [Act.put, lst]
                refine wpAnyT_ready (rs := [17]) (by kernel_rfl) (by simp) ?_
                refine AllReadyT.late rfl (by kernel_rfl) (fun K hK => ?_) AllReadyT.nil
                rw [if_pos (by rfl)]
                simp only [lst]
                have za0 := HA.out.cells 0 _ rfl
                have za1 := HA.out.cells 1 _ rfl
                have za2 := HA.out.cells 2 _ rfl
                have zaf := HA.out.frozen
                have zal := HA.out.lt
                simp only [List.getElem_toArray, List.getElem_cons_zero, List.getElem_cons_succ] at za0 za1 za2
                go_simp
                refine hK.out _ _ ?_
                clear hK K
                try simp only [Act.put, lst]
                refine wpAnyT_ready (rs := [18]) (by kernel_rfl) (by simp) ?_
                refine AllReadyT.late rfl (by kernel_rfl) (fun K hK => ?_) AllReadyT.nil
                rw [if_pos (by rfl)]
                simp only [lst]
                have hne1 := Blk.ne_ HA.out HC.out (by decide)
                have hne2 := hne1.symm
                have zc0 := HC.out.cells 0 _ rfl
                have zc1 := HC.out.cells 1 _ rfl
                have zcf := HC.out.frozen
                have zcl := HC.out.lt
                simp only [List.getElem_toArray, List.getElem_cons_zero, List.getElem_cons_succ] at zc0 zc1
                go_simp
                refine hK.out _ _ ?_
                clear hK K
                try simp only [Act.put, lst]
                refine wpAnyT_ready (rs := [19]) (by kernel_rfl) (by simp) ?_
                refine AllReadyT.late rfl (by kernel_rfl) (fun K hK => ?_) AllReadyT.nil
                rw [if_pos (by rfl)]
                simp only [lst]
                go_simp
                refine hK.out _ _ ?_
                clear hK K
                try simp only [Act.put, lst]
                refine wpAnyT_done (by kernel_rfl) ?_
                go_step
                go_step
                go_meet
                have hc1 := ((HC.out.far (p := ⟨_, 0, none⟩) (Blk.ne_ HC.out HA.out (by decide)) (.int .i64 0)).far (p := ⟨_, 1, none⟩) (Blk.ne_ HC.out HA.out (by decide)) (.int .i64 e1)).far (p := ⟨_, 2, none⟩) (Blk.ne_ HC.out HA.out (by decide)) (.int .i64 e2)
                have HC1 := Lib.hid hc1
                have a1 := HA.out.set_ 0 (.int .i64 0)
                have a2 := a1.set_ 1 (.int .i64 e1)
                have a3 := a2.set_ 2 (.int .i64 e2)
                have o3 := ((HO.out.far HA.out (by decide) (by decide) 0 (.int .i64 0)).far a1 (by decide) (by decide) 1 (.int .i64 e1)).far a2 (by decide) (by decide) 2 (.int .i64 e2)
                have c1 := HC1.out.set_ 0 (.slice A6 n6 c6)
                have o4 := (o3.far HC1.out (by decide) (by decide) 0 (.slice A6 n6 c6)).far c1 (by decide) (by decide) 1 (.slice A6' m6 c6')
                have hne := Blk.ne_ HA.out HC.out (by decide)
                have hbl := ((((hHeld.1.setCell (p := ⟨_, 0, none⟩) HLA.out (.int .i64 0)).setCell (p := ⟨_, 1, none⟩) HLA.out (.int .i64 e1)).setCell (p := ⟨_, 2, none⟩) HLA.out (.int .i64 e2)).setCell (p := ⟨_, 0, none⟩) HLC.out (.slice A6 n6 c6)).setCell (p := ⟨_, 1, none⟩) HLC.out (.slice A6' m6 c6')
                exact ⟨rfl, rfl, _, _, A6, c6, A6', c6', n6, m6, rfl, rfl, Lib.hid ((a3.far (p := ⟨_, 0, none⟩) hne _).far (p := ⟨_, 1, none⟩) hne _), Lib.hid (c1.set_ 1 (.slice A6' m6 c6')), Lib.hid o4, Lib.hid hbl⟩
              exact AllReadyT.nil
            refine AllReadyT.cons rfl (fun K hK => ?_) ?_
            · rw [if_pos (by rfl)]
              simp only [lst]
              have hPrev := Lib.hid hHeld
              clear hHeld
              go_simp
              have HLA := Lib.hid hPrev.out.1.size
              have hba : Below wq11.heap.size wq11 (wq11.alloc (.cells #[.int .i64 0, .int .i64 0, .int .i64 0] 44)) := (Below.refl _ _).alloc (Nat.le_refl _) _
              have HA := Lib.hid (Blk.new wq11 44 #[.int .i64 0, .int .i64 0, .int .i64 0])
              replace HC := Lib.hid (HC.out.below hba HC.out.lt)
              refine hK.out _ _ (⟨hPrev.out.1.trans (hba.mono hPrev.out.1.size), kpc hba hPrev.out.2.1, kpc hba hPrev.out.2.2.1, kpc hba hPrev.out.2.2.2.1, kpc hba hPrev.out.2.2.2.2.1, kpc hba hPrev.out.2.2.2.2.2⟩) (fun hHeld => ?_)
              clear hK K hPrev
              try simp only [Act.put, lst]
              clear hba
              generalize wq11.alloc (.cells #[.int .i64 0, .int .i64 0, .int .i64 0] 44) = wq14 at *
              refine wpAnyT_ready (rs := [8]) (by kernel_rfl) (by simp) ?_
              refine AllReadyT.cons rfl (fun K hK => ?_) ?_
              · rw [if_pos (by rfl)]
                simp only [lst]
                have hPrev := Lib.hid hHeld
                clear hHeld
                go_simp
                refine (HNX.out _ hPrev.out.1).mono ?_
                rintro e' wq15 ⟨v6, rfl, hO6, hba⟩
                have hO6 := hO6.base (B' := wr.heap.size) hPrev.out.1.size
                obtain ⟨A6, c6, A6', c6', n6, m6, rfl, hn6, hm6, hat6, hO6⟩ := hO6.slices
                have HO := Lib.hid hO6
                clear hO6 hat6 hn6 hm6
                go_simp
                replace HC := Lib.hid (HC.out.below hba HC.out.lt)
                replace HA := Lib.hid (HA.out.below hba HA.out.lt)
                refine hK.out _ _ (⟨hPrev.out.1.trans (hba.mono hPrev.out.1.size), kpc hba hPrev.out.2.1, kpc hba hPrev.out.2.2.1, kpc hba hPrev.out.2.2.2.1, kpc hba hPrev.out.2.2.2.2.1, kpc hba hPrev.out.2.2.2.2.2⟩) (fun hHeld => ?_)
                clear hK K hPrev
                try simp only [Act.put, lst]
                clear hba
                refine wP (i := 9) (v := ?tv29) rfl (Or.inl ⟨by rfl, ?th29⟩) hHeld ?tr29
                case th29 => (intro w hSw; clear hSw; go_simp; try with_reducible rfl)
                try simp only [Act.put, lst]
                refine wP (i := 10) (v := ?tv30) rfl (Or.inl ⟨by rfl, ?th30⟩) hHeld ?tr30
                case th30 => (intro w hSw; clear hSw; go_simp; try with_reducible rfl)
                try simp only [Act.put, lst]
                refine wP (i := 11) (v := ?tv31) rfl (Or.inl ⟨by rfl, ?th31⟩) hHeld ?tr31
                case th31 => (intro w hSw; clear hSw; go_simp; try with_reducible rfl)
                try simp only [Act.put, lst]
                refine wP (i := 12) (v := ?tv32) rfl (Or.inl ⟨by rfl, ?th32⟩) hHeld ?tr32
                case th32 => (intro w hSw; clear hSw; go_simp; try with_reducible rfl)
                try simp only [Act.put, lst]
                refine wP (i := 13) (v := ?tv33) rfl (Or.inl ⟨by rfl, ?th33⟩) hHeld ?tr33
                case th33 => (intro w hSw; clear hSw; go_simp; try with_reducible rfl)
                try simp only [Act.put, lst]
                refine wpAnyT_ready (rs := [16]) (by kernel_rfl) (by simp) ?_
                refine AllReadyT.late rfl (by kernel_rfl) (fun K hK => ?_) AllReadyT.nil
                rw [if_pos (by rfl)]
                simp only [lst]
                go_simp
                refine hK.out _ _ ?_
                clear hK K
                try simp only [Act.put, lst]
                refine wpAnyT_ready (rs := [17]) (by kernel_rfl) (by simp) ?_
                refine AllReadyT.late rfl (by kernel_rfl) (fun K hK => ?_) AllReadyT.nil
                rw [if_pos (by rfl)]
                simp only [lst]
                have za0 := HA.out.cells 0 _ rfl
                have za1 := HA.out.cells 1 _ rfl
                have za2 := HA.out.cells 2 _ rfl
                have zaf := HA.out.frozen
                have zal := HA.out.lt
                simp only [List.getElem_toArray, List.getElem_cons_zero, List.getElem_cons_succ] at za0 za1 za2
                go_simp
                refine hK.out _ _ ?_
                clear hK K
                try simp only [Act.put, lst]
                refine wpAnyT_ready (rs := [18]) (by kernel_rfl) (by simp) ?_
                refine AllReadyT.late rfl (by kernel_rfl) (fun K hK => ?_) AllReadyT.nil
                rw [if_pos (by rfl)]
                simp only [lst]
                have hne1 := Blk.ne_ HA.out HC.out (by decide)
                have hne2 := hne1.symm
                have zc0 := HC.out.cells 0 _ rfl
                have zc1 := HC.out.cells 1 _ rfl
                have zcf := HC.out.frozen
                have zcl := HC.out.lt
                simp only [List.getElem_toArray, List.getElem_cons_zero, List.getElem_cons_succ] at zc0 zc1
                go_simp
                refine hK.out _ _ ?_
                clear hK K
                try simp only [Act.put, lst]
                refine wpAnyT_ready (rs := [19]) (by kernel_rfl) (by simp) ?_
                refine AllReadyT.late rfl (by kernel_rfl) (fun K hK => ?_) AllReadyT.nil
                rw [if_pos (by rfl)]
                simp only [lst]
                go_simp
                refine hK.out _ _ ?_
                clear hK K
                try simp only [Act.put, lst]
                refine wpAnyT_done (by kernel_rfl) ?_
                go_step
                go_step
                go_meet
                have hc1 := ((HC.out.far (p := ⟨_, 0, none⟩) (Blk.ne_ HC.out HA.out (by decide)) (.int .i64 0)).far (p := ⟨_, 1, none⟩) (Blk.ne_ HC.out HA.out (by decide)) (.int .i64 e1)).far (p := ⟨_, 2, none⟩) (Blk.ne_ HC.out HA.out (by decide)) (.int .i64 e2)
                have HC1 := Lib.hid hc1
                have a1 := HA.out.set_ 0 (.int .i64 0)
                have a2 := a1.set_ 1 (.int .i64 e1)
                have a3 := a2.set_ 2 (.int .i64 e2)
                have o3 := ((HO.out.far HA.out (by decide) (by decide) 0 (.int .i64 0)).far a1 (by decide) (by decide) 1 (.int .i64 e1)).far a2 (by decide) (by decide) 2 (.int .i64 e2)
                have c1 := HC1.out.set_ 0 (.slice A6 n6 c6)
                have o4 := (o3.far HC1.out (by decide) (by decide) 0 (.slice A6 n6 c6)).far c1 (by decide) (by decide) 1 (.slice A6' m6 c6')
                have hne := Blk.ne_ HA.out HC.out (by decide)
                have hbl := ((((hHeld.1.setCell (p := ⟨_, 0, none⟩) HLA.out (.int .i64 0)).setCell (p := ⟨_, 1, none⟩) HLA.out (.int .i64 e1)).setCell (p := ⟨_, 2, none⟩) HLA.out (.int .i64 e2)).setCell (p := ⟨_, 0, none⟩) HLC.out (.slice A6 n6 c6)).setCell (p := ⟨_, 1, none⟩) HLC.out (.slice A6' m6 c6')
                exact ⟨rfl, rfl, _, _, A6, c6, A6', c6', n6, m6, rfl, rfl, Lib.hid ((a3.far (p := ⟨_, 0, none⟩) hne _).far (p := ⟨_, 1, none⟩) hne _), Lib.hid (c1.set_ 1 (.slice A6' m6 c6')), Lib.hid o4, Lib.hid hbl⟩
              exact AllReadyT.nil
            exact AllReadyT.nil
          exact AllReadyT.nil
      case rest =>
        as_aux_lemma =>
        obtain ⟨rfl, rfl, g12, g13, A6, c6, A6', c6', n6, m6, rfl, rfl, HA, HC, HO, HB6⟩ := hcut
        have HM6 := Lib.hid (HM.out.on_ HB6.out)
        have hdl := srow_lt HM.out.h.d
        have hsl := srow_lt HM.out.rs
        have HM7 := Lib.hid (HM6.out.setN (HO.out.base HM.out.big) (plat_ge HO.out) hdl hsl)
        have HA7 := Lib.hid ((HA.out.far (p := ⟨g, 2, none⟩) (Blk.ne_ HA.out HM6.out.h.b (by decide)) (.slice A6 n6 c6)).far (p := ⟨g, 3, none⟩) (Blk.ne_ HA.out HM6.out.h.b (by decide)) (.slice A6' m6 c6'))
        have zc0 := HC.out.cells 0 _ rfl
        have zc1 := HC.out.cells 1 _ rfl
        have zcf := HC.out.frozen
        have zcl := HC.out.lt
        have zh2 := HM6.out.h.b.cells 2 _ rfl
        have zh3 := HM6.out.h.b.cells 3 _ rfl
        have zhf := HM6.out.h.b.frozen
        have zhl := HM6.out.h.b.lt
        simp only [houseC, stepC, List.getElem_toArray, List.getElem_cons_zero, List.getElem_cons_succ] at zc0 zc1 zh2 zh3
        clear q0 q1c s0 s1 s2 x0 x1 HNX HHL hdl hsl
        go_upto_region 10 with fail
        generalize (wc.setCell ⟨g, 2, none⟩ (.slice A6 n6 c6)).setCell ⟨g, 3, none⟩ (.slice A6' m6 c6') = w7 at *
        clear HM HM6 HA HC HO HB6 zc0 zc1 zcf zcl zh2 zh3 zhf zhl
        have HM8 := Lib.hid (HM7.out.setS ⟨0, e1, e2⟩)
        dsimp only at HM8
        have za0 := HA7.out.cells 0 _ rfl
        have za1 := HA7.out.cells 1 _ rfl
        have za2 := HA7.out.cells 2 _ rfl
        have zaf := HA7.out.frozen
        have zal := HA7.out.lt
        have zh4 := HM7.out.h.b.cells 4 _ rfl
        have zh5 := HM7.out.h.b.cells 5 _ rfl
        have zh6 := HM7.out.h.b.cells 6 _ rfl
        have zhf := HM7.out.h.b.frozen
        have zhl := HM7.out.h.b.lt
        simp only [houseC, stepC, List.getElem_toArray, List.getElem_cons_zero, List.getElem_cons_succ] at za0 za1 za2 zh4 zh5 zh6
        go_upto_region 11 with fail
        generalize ((w7.setCell ⟨g, 4, none⟩ (.int .i64 0)).setCell ⟨g, 5, none⟩ (.int .i64 e1)).setCell ⟨g, 6, none⟩ (.int .i64 e2) = w8 at *
        clear HM7 HA7 za0 za1 za2 zaf zal zh4 zh5 zh6 zhf zhl
        have zh9 := HM8.out.h.b.cells 9 _ rfl
        simp only [houseC, List.getElem_toArray, List.getElem_cons_zero, List.getElem_cons_succ] at zh9
        obtain ⟨j0, hj0, hz0, hz1, hz2⟩ := info_parts str_info
        have hba : Below w8.heap.size w8 (w8.alloc (.cells #[.string bb] 9)) := (Below.refl _ _).alloc (Nat.le_refl _) _
        have HM8a := Lib.hid (HM8.out.on_ hba)
        have HDO : Hid ((w8.alloc (.cells #[.string bb] 9)).ownsRow B 9 1 dv drawn.length (flat encS drawn)) := Lib.hid HM8a.out.h.d
        have HRD : Hid (Reads (w8.alloc (.cells #[.string bb] 9)) (w8.heap.size + 1) 1 (some ⟨w8.heap.size, 0, none⟩) 1 [.string bb]) := Lib.hid ((slr_one encS_len bb (Blk.new w8 _ _) (by omega)).reads encS_len)
        have HDL : Hid (drawn.length + 1 ≤ 10000 ∧ B ≤ (w8.alloc (.cells #[.string bb] 9)).heap.size) := Lib.hid ⟨by have := HPL.out.2.2.2; omega, HM8a.out.big⟩
        clear hba
        go_upto_region 12 with (at_builtin; refine wpList_append_any _ rfl (.tmp 72) (.tmp 74) _ rfl B _ j0 _ 1 16 Tryz.underlying30 hj0 hz0 hz1 hz2 rfl (by omega) dv drawn.length (flat encS drawn) rfl HDO.out (w8.heap.size + 1) (some ⟨w8.heap.size, 0, none⟩) 1 1 [.string bb] rfl HRD.out (by simp [Value.oneCell']) (by have := HDL.out.1; simp only [maxLen]; omega) (by have := HDL.out.1; omega) HDL.out.2 ?_; intro v9 w9 hown9 hg9 ho9; obtain ⟨A9, c9, rfl, _, _, _⟩ := own_form hown9; have HR9 : Hid (SRow w9 B (.slice A9 (drawn.length + 1) c9) (drawn ++ [bb])) := Lib.hid (orow_join hown9 _ (by simp) (flat_snoc bb).symm); have hk9 := blk_grown_row HM8a.out.h.b HM8a.out.h.d (by decide) hg9; have zk9 := hk9.cells 9 _ rfl; simp only [houseC, List.getElem_toArray, List.getElem_cons_zero, List.getElem_cons_succ] at zk9; have zkf := hk9.frozen; have zkl := hk9.lt; have HG9 := Lib.hid hg9; have HO9 := Lib.hid ho9; clear hown9 hg9 ho9 hk9)
        have HM10 := Lib.hid (HM8a.out.draws_ HG9.out HR9.out HO9.out)
        clear HM8 HM8a HDO HRD HDL HG9 HR9 HO9 zh9 zk9 zkf zkl hj0 hz0 hz1 hz2
        generalize w9.setCell ⟨g, 9, none⟩ (.slice A9 (drawn.length + 1) c9) = w10 at *
        have HPW := Lib.hid (HPI.out w10 HM10.out.bl)
        obtain ⟨⟨u, f⟩, hu⟩ : ∃ V, writeV v key bb pi ti = V := ⟨_, rfl⟩
        have HWR := Lib.hid (fun W (hW : Below w10.heap.size w10 W) => vwrite_any v key bb pi ti A n c W ((srow_slr HM10.out.rv HPL.out.1.len).below hW |>.more hW.size) HPL.out.1.sizes.1 HPL.out.1.sizes.2 (by have := HTS.out; omega) (hE.out W (HM10.out.bl.trans (hW.mono HM10.out.big))))
        rw [hu] at HWR
        dsimp only at HWR
        have HU := Lib.hid hu
        clear hu
        obtain ⟨hbp2, hbt2, cp, ct⟩ := HPW.out
        have zv0 := HM10.out.bv.cells 0 _ rfl
        have zv1 := HM10.out.bv.cells 1 _ rfl
        have zk7 := HM10.out.h.b.cells 7 _ rfl
        have zx0 := HM10.out.bx.cells 0 _ rfl
        have zx1 := HM10.out.bx.cells 1 _ rfl
        simp only [houseC, stepC, List.getElem_toArray, List.getElem_cons_zero, List.getElem_cons_succ] at zv0 zv1 zk7 zx0 zx1
        go_cut [15, 16] (fun a b wx => b = .int .i64 f ∧ ∃ (g15 n15 c15 : Nat) (A15 : Option Addr), a = .pointer (some ⟨g15, 0, none⟩) ∧ Hid (Blk wx g15 36 #[.slice A15 n15 c15, .string u.root]) ∧ Hid (SRow wx w10.heap.size (.slice A15 n15 c15) u.blocks ∧ u.blocks.length = n15) ∧ Hid (Below w10.heap.size w10 wx))
        case first =>
          as_aux_lemma =>
            refine wp_region_T [21, 22] (fun W => Below w10.heap.size w10 W ∧ W.cell? ⟨w.heap.size, 0, none⟩ = some (.slice A n c) ∧ W.cell? ⟨w.heap.size, 1, none⟩ = some (.string v.root) ∧ W.cell? ⟨g, 7, none⟩ = some (.string key) ∧ W.cell? ⟨w.heap.size + 1, 0, none⟩ = some (.slice (some ⟨bp, op, none⟩) pn pc) ∧ W.cell? ⟨w.heap.size + 1, 1, none⟩ = some (.slice (some ⟨bt, ot, none⟩) tn tc) ∧ W.cell? ⟨bp, op + i, none⟩ = some (.int .i64 pi) ∧ W.cell? ⟨bt, ot + i, none⟩ = some (.string ti)) (by kernel_rfl) ?_
            have hHeld : (fun W => Below w10.heap.size w10 W ∧ W.cell? ⟨w.heap.size, 0, none⟩ = some (.slice A n c) ∧ W.cell? ⟨w.heap.size, 1, none⟩ = some (.string v.root) ∧ W.cell? ⟨g, 7, none⟩ = some (.string key) ∧ W.cell? ⟨w.heap.size + 1, 0, none⟩ = some (.slice (some ⟨bp, op, none⟩) pn pc) ∧ W.cell? ⟨w.heap.size + 1, 1, none⟩ = some (.slice (some ⟨bt, ot, none⟩) tn tc) ∧ W.cell? ⟨bp, op + i, none⟩ = some (.int .i64 pi) ∧ W.cell? ⟨bt, ot + i, none⟩ = some (.string ti)) _ := ⟨(Below.refl _ _).drew, zv0, zv1, zk7, zx0, zx1, cp, ct⟩
            have hba : Below w10.heap.size w10 w10.drew := (Below.refl _ _).drew
            clear hba
            generalize w10.drew = wvd at *
            refine wT (i := 0) (v := ?tv34) rfl (Or.inl ⟨by rfl, ?th34⟩) hHeld ?tr34
            case th34 => (intro w hSw; (try dsimp only at hSw); go_simp; try with_reducible rfl)
            try simp only [Act.put, lst]
            refine wT (i := 1) (v := ?tv35) rfl (Or.inl ⟨by rfl, ?th35⟩) hHeld ?tr35
            case th35 => (intro w hSw; (try dsimp only at hSw); go_simp; try with_reducible rfl)
            try simp only [Act.put, lst]
            refine wT (i := 2) (v := ?tv36) rfl (Or.inl ⟨by rfl, ?th36⟩) hHeld ?tr36
            case th36 => (intro w hSw; (try dsimp only at hSw); go_simp; try with_reducible rfl)
            try simp only [Act.put, lst]
            refine wT (i := 3) (v := ?tv37) rfl (Or.inl ⟨by rfl, ?th37⟩) hHeld ?tr37
            case th37 => (intro w hSw; (try dsimp only at hSw); go_simp; try with_reducible rfl)
            try simp only [Act.put, lst]
            refine wT (i := 4) (v := ?tv38) rfl (Or.inl ⟨by rfl, ?th38⟩) hHeld ?tr38
            case th38 => (intro w hSw; (try dsimp only at hSw); go_simp; try with_reducible rfl)
            try simp only [Act.put, lst]
            refine wT (i := 5) (v := ?tv39) rfl (Or.inl ⟨by rfl, ?th39⟩) hHeld ?tr39
            case th39 => (intro w hSw; (try dsimp only at hSw); go_simp; try with_reducible rfl)
            try simp only [Act.put, lst]
            refine wT (i := 6) (v := ?tv40) rfl (Or.inl ⟨by rfl, ?th40⟩) hHeld ?tr40
            case th40 => (intro w hSw; (try dsimp only at hSw); go_simp; try with_reducible rfl)
            try simp only [Act.put, lst]
            refine wT (i := 7) (v := ?tv41) rfl (Or.inl ⟨by rfl, ?th41⟩) hHeld ?tr41
            case th41 => (intro w hSw; (try dsimp only at hSw); go_simp; try with_reducible rfl)
            try simp only [Act.put, lst]
            refine wT (i := 8) (v := ?tv42) rfl (Or.inl ⟨by rfl, ?th42⟩) hHeld ?tr42
            case th42 => (intro w hSw; (try dsimp only at hSw); go_simp; try with_reducible rfl)
            try simp only [Act.put, lst]
            refine wT (i := 9) (v := ?tv43) rfl (Or.inl ⟨by rfl, ?th43⟩) hHeld ?tr43
            case th43 => (intro w hSw; (try dsimp only at hSw); go_simp; try with_reducible rfl)
            try simp only [Act.put, lst]
            refine wT (i := 10) (v := ?tv44) rfl (Or.inl ⟨by rfl, ?th44⟩) hHeld ?tr44
            case th44 => (intro w hSw; (try dsimp only at hSw); go_simp; try with_reducible rfl)
            try simp only [Act.put, lst]
            refine wT (i := 11) (v := ?tv45) rfl (Or.inl ⟨by rfl, ?th45⟩) hHeld ?tr45
            case th45 => (intro w hSw; (try dsimp only at hSw); go_simp; try with_reducible rfl)
            try simp only [Act.put, lst]
            refine wT (i := 12) (v := ?tv46) rfl (Or.inl ⟨by rfl, ?th46⟩) hHeld ?tr46
            case th46 => (intro w hSw; (try dsimp only at hSw); go_simp; try with_reducible rfl)
            try simp only [Act.put, lst]
            refine wT (i := 13) (v := ?tv47) rfl (Or.inl ⟨by rfl, ?th47⟩) hHeld ?tr47
            case th47 => (intro w hSw; (try dsimp only at hSw); go_simp; try with_reducible rfl)
            try simp only [Act.put, lst]
            refine wT (i := 14) (v := ?tv48) rfl (Or.inl ⟨by rfl, ?th48⟩) hHeld ?tr48
            case th48 => (intro w hSw; (try dsimp only at hSw); go_simp; try with_reducible rfl)
            try simp only [Act.put, lst]
            refine wT (i := 15) (v := ?tv49) rfl (Or.inl ⟨by rfl, ?th49⟩) hHeld ?tr49
            case th49 => (intro w hSw; (try dsimp only at hSw); go_simp; try with_reducible rfl)
            try simp only [Act.put, lst]
            refine wpAnyT_ready (rs := [16, 20]) (by kernel_rfl) (by simp) ?_
            refine AllReadyT.cons rfl (fun K hK => ?_) ?_
            · rw [if_pos (by rfl)]
              simp only [lst]
              have hPrev := Lib.hid hHeld
              clear hHeld
              go_simp
              refine (HWR.out _ hPrev.out.1).mono ?_
              rintro e' wv1 ⟨v15, rfl, hV15, hba⟩
              obtain ⟨A15, c15, n15, rfl, hn15, hs15⟩ := hV15.slices
              have HS15 := Lib.hid (orow_base (base' := w10.heap.size) hs15 hPrev.out.1.size)
              have HN15 := Lib.hid hn15
              clear hV15 hs15 hn15
              go_simp
              refine hK.out _ _ (⟨hPrev.out.1.trans (hba.mono hPrev.out.1.size), kpc hba hPrev.out.2.1, kpc hba hPrev.out.2.2.1, kpc hba hPrev.out.2.2.2.1, kpc hba hPrev.out.2.2.2.2.1, kpc hba hPrev.out.2.2.2.2.2.1, kpc hba hPrev.out.2.2.2.2.2.2.1, kpc hba hPrev.out.2.2.2.2.2.2.2⟩) (fun hHeld => ?_)
              clear hK K hPrev
              try simp only [Act.put, lst]
              clear hba
              refine wP (i := 17) (v := ?tv50) rfl (Or.inl ⟨by rfl, ?th50⟩) hHeld ?tr50
              case th50 => (intro w hSw; clear hSw; go_simp; try with_reducible rfl)
              try simp only [Act.put, lst]
              refine wP (i := 18) (v := ?tv51) rfl (Or.inl ⟨by rfl, ?th51⟩) hHeld ?tr51
              case th51 => (intro w hSw; clear hSw; go_simp; try with_reducible rfl)
              try simp only [Act.put, lst]
              refine wP (i := 19) (v := ?tv52) rfl (Or.inl ⟨by rfl, ?th52⟩) hHeld ?tr52
              case th52 => (intro w hSw; clear hSw; go_simp; try with_reducible rfl)
              try simp only [Act.put, lst]
              refine wpAnyT_ready (rs := [20]) (by kernel_rfl) (by simp) ?_
              refine AllReadyT.cons rfl (fun K hK => ?_) ?_
              · rw [if_pos (by rfl)]
                simp only [lst]
                have hPrev := Lib.hid hHeld
                clear hHeld
                go_simp
                have HLA := Lib.hid hPrev.out.1.size
                have hba : Below wv1.heap.size wv1 (wv1.alloc (.cells #[.slice none 0 0, .string ⟨#[]⟩] 36)) := (Below.refl _ _).alloc (Nat.le_refl _) _
                have HA := Lib.hid (Blk.new wv1 36 #[.slice none 0 0, .string ⟨#[]⟩])
                replace HS15 := Lib.hid (orow_below HS15.out hba (Nat.le_refl _))
                refine hK.out _ _ (⟨hPrev.out.1.trans (hba.mono hPrev.out.1.size), kpc hba hPrev.out.2.1, kpc hba hPrev.out.2.2.1, kpc hba hPrev.out.2.2.2.1, kpc hba hPrev.out.2.2.2.2.1, kpc hba hPrev.out.2.2.2.2.2.1, kpc hba hPrev.out.2.2.2.2.2.2.1, kpc hba hPrev.out.2.2.2.2.2.2.2⟩) (fun hHeld => ?_)
                clear hK K hPrev
                try simp only [Act.put, lst]
                clear hba
                generalize wv1.alloc (.cells #[.slice none 0 0, .string ⟨#[]⟩] 36) = wv2 at *
                refine wpAnyT_ready (rs := [21]) (by kernel_rfl) (by simp) ?_
                refine AllReadyT.late rfl (by kernel_rfl) (fun K hK => ?_) AllReadyT.nil
                rw [if_pos (by rfl)]
                simp only [lst]
                have za0 := HA.out.cells 0 _ rfl
                have za1 := HA.out.cells 1 _ rfl
                have zaf := HA.out.frozen
                have zal := HA.out.lt
                simp only [List.getElem_toArray, List.getElem_cons_zero, List.getElem_cons_succ] at za0 za1
                go_simp
                refine hK.out _ _ ?_
                clear hK K
                try simp only [Act.put, lst]
                refine wpAnyT_ready (rs := [22]) (by kernel_rfl) (by simp) ?_
                refine AllReadyT.late rfl (by kernel_rfl) (fun K hK => ?_) AllReadyT.nil
                rw [if_pos (by rfl)]
                simp only [lst]
                go_simp
                refine hK.out _ _ ?_
                clear hK K
                try simp only [Act.put, lst]
                refine wpAnyT_done (by kernel_rfl) ?_
                go_step
                go_step
                go_meet
                have hy := (HA.out.set_ 0 (.slice A15 n15 c15)).set_ 1 (.string u.root)
                have hs := orow_far (orow_far HS15.out HA.out (by decide) 0 (.slice A15 n15 c15)) (HA.out.set_ 0 _) (by decide) 1 (.string u.root)
                exact ⟨rfl, _, n15, c15, A15, rfl, Lib.hid hy, Lib.hid ⟨hs, HN15.out⟩, Lib.hid ((hHeld.1.setCell (p := ⟨_, 0, none⟩) HLA.out (.slice A15 n15 c15)).setCell (p := ⟨_, 1, none⟩) HLA.out (.string u.root))⟩
              exact AllReadyT.nil
            refine AllReadyT.cons rfl (fun K hK => ?_) ?_
            · rw [if_pos (by rfl)]
              simp only [lst]
              have hPrev := Lib.hid hHeld
              clear hHeld
              go_simp
              have HLA := Lib.hid hPrev.out.1.size
              have hba : Below wvd.heap.size wvd (wvd.alloc (.cells #[.slice none 0 0, .string ⟨#[]⟩] 36)) := (Below.refl _ _).alloc (Nat.le_refl _) _
              have HA := Lib.hid (Blk.new wvd 36 #[.slice none 0 0, .string ⟨#[]⟩])
              refine hK.out _ _ (⟨hPrev.out.1.trans (hba.mono hPrev.out.1.size), kpc hba hPrev.out.2.1, kpc hba hPrev.out.2.2.1, kpc hba hPrev.out.2.2.2.1, kpc hba hPrev.out.2.2.2.2.1, kpc hba hPrev.out.2.2.2.2.2.1, kpc hba hPrev.out.2.2.2.2.2.2.1, kpc hba hPrev.out.2.2.2.2.2.2.2⟩) (fun hHeld => ?_)
              clear hK K hPrev
              try simp only [Act.put, lst]
              clear hba
              generalize wvd.alloc (.cells #[.slice none 0 0, .string ⟨#[]⟩] 36) = wv3 at *
              refine wpAnyT_ready (rs := [16]) (by kernel_rfl) (by simp) ?_
              refine AllReadyT.cons rfl (fun K hK => ?_) ?_
              · rw [if_pos (by rfl)]
                simp only [lst]
                have hPrev := Lib.hid hHeld
                clear hHeld
                go_simp
                refine (HWR.out _ hPrev.out.1).mono ?_
                rintro e' wv4 ⟨v15, rfl, hV15, hba⟩
                obtain ⟨A15, c15, n15, rfl, hn15, hs15⟩ := hV15.slices
                have HS15 := Lib.hid (orow_base (base' := w10.heap.size) hs15 hPrev.out.1.size)
                have HN15 := Lib.hid hn15
                clear hV15 hs15 hn15
                go_simp
                replace HA := Lib.hid (HA.out.below hba HA.out.lt)
                refine hK.out _ _ (⟨hPrev.out.1.trans (hba.mono hPrev.out.1.size), kpc hba hPrev.out.2.1, kpc hba hPrev.out.2.2.1, kpc hba hPrev.out.2.2.2.1, kpc hba hPrev.out.2.2.2.2.1, kpc hba hPrev.out.2.2.2.2.2.1, kpc hba hPrev.out.2.2.2.2.2.2.1, kpc hba hPrev.out.2.2.2.2.2.2.2⟩) (fun hHeld => ?_)
                clear hK K hPrev
                try simp only [Act.put, lst]
                clear hba
                refine wP (i := 17) (v := ?tv53) rfl (Or.inl ⟨by rfl, ?th53⟩) hHeld ?tr53
                case th53 => (intro w hSw; clear hSw; go_simp; try with_reducible rfl)
                try simp only [Act.put, lst]
                refine wP (i := 18) (v := ?tv54) rfl (Or.inl ⟨by rfl, ?th54⟩) hHeld ?tr54
                case th54 => (intro w hSw; clear hSw; go_simp; try with_reducible rfl)
                try simp only [Act.put, lst]
                refine wP (i := 19) (v := ?tv55) rfl (Or.inl ⟨by rfl, ?th55⟩) hHeld ?tr55
                case th55 => (intro w hSw; clear hSw; go_simp; try with_reducible rfl)
                try simp only [Act.put, lst]
                refine wpAnyT_ready (rs := [21]) (by kernel_rfl) (by simp) ?_
                refine AllReadyT.late rfl (by kernel_rfl) (fun K hK => ?_) AllReadyT.nil
                rw [if_pos (by rfl)]
                simp only [lst]
                have za0 := HA.out.cells 0 _ rfl
                have za1 := HA.out.cells 1 _ rfl
                have zaf := HA.out.frozen
                have zal := HA.out.lt
                simp only [List.getElem_toArray, List.getElem_cons_zero, List.getElem_cons_succ] at za0 za1
                go_simp
                refine hK.out _ _ ?_
                clear hK K
                try simp only [Act.put, lst]
                refine wpAnyT_ready (rs := [22]) (by kernel_rfl) (by simp) ?_
                refine AllReadyT.late rfl (by kernel_rfl) (fun K hK => ?_) AllReadyT.nil
                rw [if_pos (by rfl)]
                simp only [lst]
                go_simp
                refine hK.out _ _ ?_
                clear hK K
                try simp only [Act.put, lst]
                refine wpAnyT_done (by kernel_rfl) ?_
                go_step
                go_step
                go_meet
                have hy := (HA.out.set_ 0 (.slice A15 n15 c15)).set_ 1 (.string u.root)
                have hs := orow_far (orow_far HS15.out HA.out (by decide) 0 (.slice A15 n15 c15)) (HA.out.set_ 0 _) (by decide) 1 (.string u.root)
                exact ⟨rfl, _, n15, c15, A15, rfl, Lib.hid hy, Lib.hid ⟨hs, HN15.out⟩, Lib.hid ((hHeld.1.setCell (p := ⟨_, 0, none⟩) HLA.out (.slice A15 n15 c15)).setCell (p := ⟨_, 1, none⟩) HLA.out (.string u.root))⟩
              exact AllReadyT.nil
            exact AllReadyT.nil
        case rest =>
        as_aux_lemma =>
        obtain ⟨rfl, g15, n15, c15, A15, rfl, HV15, HR15, HB12⟩ := hcut
        have HM12 := Lib.hid (HM10.out.on_ HB12.out)
        have HPW12 := Lib.hid (HPI.out wc HM12.out.bl)
        clear hbp2 hbt2 cp ct zv0 zv1 zk7 zx0 zx1 HWR HPW
        obtain ⟨hbp2, hbt2, cp, ct⟩ := HPW12.out
        have zx0 := HM12.out.bx.cells 0 _ rfl
        have zx1 := HM12.out.bx.cells 1 _ rfl
        simp only [houseC, stepC, List.getElem_toArray, List.getElem_cons_zero, List.getElem_cons_succ] at zx0 zx1
        by_cases hm1 : 0 ≤ pi
        rotate_left
        · have HF := Lib.hid (write_not (key := key) (nonce := bb) HPL.out.1 (i := pi) (s := ti) (fun h => hm1 h.1))
          rw [HU.out] at HF
          have hf0 : (f == 0) = false := beq_eq_false_iff_ne.2 HF.out
          clear HF
          as_aux_lemma =>
          go_wp2_with fail
          go_roundw
          case rel =>
            refine ⟨i + 1, r2, nx1 + 1, q2, _, _, _, drawn ++ [bb], A, c, v, said1, e1, e2, by have := HBX.out.1; omega, ⟨by omega, by omega⟩, by go_num, by have := HG2.out.2.2; omega, HG2.out.2.1, HM12, Lib.hid ⟨HPL.out.1, HPL.out.2.1, HG2.out.1, ?_⟩, Lib.hid ⟨HNE.out.1.symm, HNE.out.2.symm⟩⟩
            have := HPL.out.2.2.2
            rw [List.length_append]
            show drawn.length + 1 ≤ nx1 + 1
            omega
          case measure => simp [intOf]; omega
        by_cases hm2 : pi < (n : Int)
        rotate_left
        · have HF := Lib.hid (write_not (key := key) (nonce := bb) HPL.out.1 (i := pi) (s := ti) (fun h => hm2 h.2.1))
          rw [HU.out] at HF
          have hf0 : (f == 0) = false := beq_eq_false_iff_ne.2 HF.out
          clear HF
          as_aux_lemma =>
          go_wp2_with fail
          go_roundw
          case rel =>
            refine ⟨i + 1, r2, nx1 + 1, q2, _, _, _, drawn ++ [bb], A, c, v, said1, e1, e2, by have := HBX.out.1; omega, ⟨by omega, by omega⟩, by go_num, by have := HG2.out.2.2; omega, HG2.out.2.1, HM12, Lib.hid ⟨HPL.out.1, HPL.out.2.1, HG2.out.1, ?_⟩, Lib.hid ⟨HNE.out.1.symm, HNE.out.2.symm⟩⟩
            have := HPL.out.2.2.2
            rw [List.length_append]
            show drawn.length + 1 ≤ nx1 + 1
            omega
          case measure => simp [intOf]; omega
        by_cases hm3 : ti.size ≤ 64
        rotate_left
        · have HF := Lib.hid (write_not (key := key) (nonce := bb) HPL.out.1 (i := pi) (s := ti) (fun h => hm3 h.2.2))
          rw [HU.out] at HF
          have hf0 : (f == 0) = false := beq_eq_false_iff_ne.2 HF.out
          have hm4 : ¬ (ti.size : Int) ≤ 64 := by omega
          clear HF
          as_aux_lemma =>
          go_wp2_with fail
          go_roundw
          case rel =>
            refine ⟨i + 1, r2, nx1 + 1, q2, _, _, _, drawn ++ [bb], A, c, v, said1, e1, e2, by have := HBX.out.1; omega, ⟨by omega, by omega⟩, by go_num, by have := HG2.out.2.2; omega, HG2.out.2.1, HM12, Lib.hid ⟨HPL.out.1, HPL.out.2.1, HG2.out.1, ?_⟩, Lib.hid ⟨HNE.out.1.symm, HNE.out.2.symm⟩⟩
            have := HPL.out.2.2.2
            rw [List.length_append]
            show drawn.length + 1 ≤ nx1 + 1
            omega
          case measure => simp [intOf]; omega
        have hm4 : (ti.size : Int) ≤ 64 := by omega
        obtain ⟨pk, hpk⟩ : ∃ pk : Nat, pi = (pk : Int) := ⟨pi.toNat, by omega⟩
        subst hpk
        have hpn : pk < n := by omega
        obtain ⟨u', hu', hwu, htu, h12, hex⟩ := write_may HPL.out.1 HPL.out.2.1 hkey HBB.out hpn hm3
        rw [HU.out] at hu'
        injection hu' with e3 e4
        subst e3 e4
        obtain rfl : n15 = n := HR15.out.2.symm.trans hwu.len
        have hul : pk < u.blocks.length := by rw [hwu.len]; exact hpn
        obtain ⟨ub, hub⟩ : ∃ s, u.blocks.getD pk ByteArray.empty = s := ⟨_, rfl⟩
        rw [hub] at h12 hex
        have hus : u.blocks[pk]? = some ub := by rw [← hub, List.getD_eq_getElem?_getD, List.getElem?_eq_getElem hul]; rfl
        have hslu := srow_slr HR15.out.1 hwu.len
        rcases hslu.2 with h0 | ⟨b15, o15, hA15, hb15, hc15⟩
        · exact absurd h0 (by omega)
        have cu : wc.cell? ⟨b15, o15 + pk, none⟩ = some (.string ub) := SlC.str (show SlC encS 1 wc b15 o15 u.blocks from hc15) hus
        have hlt15 : ∀ k, (Value.slice A15 n15 c15).ownBlock = some k → w10.heap.size ≤ k := srow_ge HR15.out.1
        have HWU := Lib.hid (And.intro hwu (And.intro htu hlt15))
        subst hA15
        have h12i : ¬ (ub.size : Int) < 12 := by omega
        have h12j : (12 : Int) ≤ (ub.size : Int) := by omega
        have hpi0 : (0 : Int) ≤ (pk : Int) := by omega
        have hpi1 : (pk : Int) < (n15 : Int) := by omega
        have zu0 := HV15.out.cells 0 _ rfl
        have zu1 := HV15.out.cells 1 _ rfl
        simp only [houseC, stepC, List.getElem_toArray, List.getElem_cons_zero, List.getElem_cons_succ] at zu0 zu1
        clear hus hslu hc15 hub hwu htu hul HU hlt15
        go_upto_region 17 with fail
        refine wp_region_T [] (fun (W : World) => W.cell? ⟨g15, 0, none⟩ = some (.slice (some ⟨b15, o15, none⟩) n15 c15) ∧ W.cell? ⟨w.heap.size + 1, 0, none⟩ = some (.slice (some ⟨bp, op, none⟩) pn pc) ∧ W.cell? ⟨bp, op + i, none⟩ = some (.int .i64 pk) ∧ W.cell? ⟨b15, o15 + pk, none⟩ = some (.string ub) ∧ b15 < W.heap.size ∧ bp < W.heap.size) (by kernel_rfl) ?_
        have hHeld : (fun (W : World) => W.cell? ⟨g15, 0, none⟩ = some (.slice (some ⟨b15, o15, none⟩) n15 c15) ∧ W.cell? ⟨w.heap.size + 1, 0, none⟩ = some (.slice (some ⟨bp, op, none⟩) pn pc) ∧ W.cell? ⟨bp, op + i, none⟩ = some (.int .i64 pk) ∧ W.cell? ⟨b15, o15 + pk, none⟩ = some (.string ub) ∧ b15 < W.heap.size ∧ bp < W.heap.size) _ := ⟨zu0, zx0, cp, cu, hb15, hbp2⟩
        refine wT (i := 0) (v := ?tv56) rfl (Or.inl ⟨by rfl, ?th56⟩) hHeld ?tr56
        case th56 => (intro w hSw; (try dsimp only at hSw); go_simp; try with_reducible rfl)
        try simp only [Act.put, lst]
        refine wT (i := 1) (v := ?tv57) rfl (Or.inl ⟨by rfl, ?th57⟩) hHeld ?tr57
        case th57 => (intro w hSw; (try dsimp only at hSw); go_simp; try with_reducible rfl)
        try simp only [Act.put, lst]
        refine wT (i := 2) (v := ?tv58) rfl (Or.inl ⟨by rfl, ?th58⟩) hHeld ?tr58
        case th58 => (intro w hSw; (try dsimp only at hSw); go_simp; try with_reducible rfl)
        try simp only [Act.put, lst]
        refine wT (i := 3) (v := ?tv59) rfl (Or.inl ⟨by rfl, ?th59⟩) hHeld ?tr59
        case th59 => (intro w hSw; (try dsimp only at hSw); go_simp; try with_reducible rfl)
        try simp only [Act.put, lst]
        refine wT (i := 4) (v := ?tv60) rfl (Or.inl ⟨by rfl, ?th60⟩) hHeld ?tr60
        case th60 => (intro w hSw; (try dsimp only at hSw); go_simp; try with_reducible rfl)
        try simp only [Act.put, lst]
        refine wT (i := 5) (v := ?tv61) rfl (Or.inl ⟨by rfl, ?th61⟩) hHeld ?tr61
        case th61 => (intro w hSw; (try dsimp only at hSw); go_simp; try with_reducible rfl)
        try simp only [Act.put, lst]
        refine wT (i := 6) (v := ?tv62) rfl (Or.inl ⟨by rfl, ?th62⟩) hHeld ?tr62
        case th62 => (intro w hSw; (try dsimp only at hSw); go_simp; try with_reducible rfl)
        try simp only [Act.put, lst]
        refine wT (i := 7) (v := ?tv63) rfl (Or.inl ⟨by rfl, ?th63⟩) hHeld ?tr63
        case th63 => (intro w hSw; (try dsimp only at hSw); go_simp; try with_reducible rfl)
        try simp only [Act.put, lst]
        refine wT (i := 8) (v := ?tv64) rfl (Or.inl ⟨by rfl, ?th64⟩) hHeld ?tr64
        case th64 => (intro w hSw; (try dsimp only at hSw); go_simp; try with_reducible rfl)
        try simp only [Act.put, lst]
        refine wT (i := 9) (v := ?tv65) rfl (Or.inl ⟨by rfl, ?th65⟩) hHeld ?tr65
        case th65 => (intro w hSw; (try dsimp only at hSw); go_simp; try with_reducible rfl)
        try simp only [Act.put, lst]
        refine wT (i := 10) (v := ?tv66) rfl (Or.inl ⟨by rfl, ?th66⟩) hHeld ?tr66
        case th66 => (intro w hSw; (try dsimp only at hSw); go_simp; try with_reducible rfl)
        try simp only [Act.put, lst]
        refine wT (i := 11) (v := ?tv67) rfl (Or.inl ⟨by rfl, ?th67⟩) hHeld ?tr67
        case th67 => (intro w hSw; (try dsimp only at hSw); go_simp; try with_reducible rfl)
        try simp only [Act.put, lst]
        refine wT (i := 12) (v := ?tv68) rfl (Or.inl ⟨by rfl, ?th68⟩) hHeld ?tr68
        case th68 => (intro w hSw; (try dsimp only at hSw); go_simp; try with_reducible rfl)
        try simp only [Act.put, lst]
        refine wT (i := 13) (v := ?tv69) rfl (Or.inl ⟨by rfl, ?th69⟩) hHeld ?tr69
        case th69 => (intro w hSw; (try dsimp only at hSw); go_simp; try with_reducible rfl)
        try simp only [Act.put, lst]
        refine wT (i := 14) (v := ?tv70) rfl (Or.inl ⟨by rfl, ?th70⟩) hHeld ?tr70
        case th70 => (intro w hSw; (try dsimp only at hSw); go_simp; try with_reducible rfl)
        try simp only [Act.put, lst]
        refine wT (i := 15) (v := ?tv71) rfl (Or.inl ⟨by rfl, ?th71⟩) hHeld ?tr71
        case th71 => (intro w hSw; (try dsimp only at hSw); go_simp; try with_reducible rfl)
        try simp only [Act.put, lst]
        refine wT (i := 16) (v := ?tv72) rfl (Or.inl ⟨by rfl, ?th72⟩) hHeld ?tr72
        case th72 => (intro w hSw; (try dsimp only at hSw); go_simp; try with_reducible rfl)
        try simp only [Act.put, lst]
        refine wT (i := 17) (v := ?tv73) rfl (Or.inl ⟨by rfl, ?th73⟩) hHeld ?tr73
        case th73 => (intro w hSw; (try dsimp only at hSw); go_simp; try with_reducible rfl)
        try simp only [Act.put, lst]
        refine wT (i := 18) (v := ?tv74) rfl (Or.inl ⟨by rfl, ?th74⟩) hHeld ?tr74
        case th74 => (intro w hSw; (try dsimp only at hSw); go_simp; try with_reducible rfl)
        try simp only [Act.put, lst]
        refine wT (i := 19) (v := ?tv75) rfl (Or.inl ⟨by rfl, ?th75⟩) hHeld ?tr75
        case th75 => (intro w hSw; (try dsimp only at hSw); go_simp; try with_reducible rfl)
        try simp only [Act.put, lst]
        refine wT (i := 20) (v := ?tv76) rfl (Or.inl ⟨by rfl, ?th76⟩) hHeld ?tr76
        case th76 => (intro w hSw; (try dsimp only at hSw); go_simp; try with_reducible rfl)
        try simp only [Act.put, lst]
        refine wT (i := 21) (v := ?tv77) rfl (Or.inl ⟨by rfl, ?th77⟩) hHeld ?tr77
        case th77 => (intro w hSw; (try dsimp only at hSw); go_simp; try with_reducible rfl)
        try simp only [Act.put, lst]
        refine wT (i := 22) (v := ?tv78) rfl (Or.inl ⟨by rfl, ?th78⟩) hHeld ?tr78
        case th78 => (intro w hSw; (try dsimp only at hSw); go_simp; try with_reducible rfl)
        try simp only [Act.put, lst]
        refine wT (i := 23) (v := ?tv79) rfl (Or.inl ⟨by rfl, ?th79⟩) hHeld ?tr79
        case th79 => (intro w hSw; (try dsimp only at hSw); go_simp; try with_reducible rfl)
        try simp only [Act.put, lst]
        refine wT (i := 24) (v := ?tv80) rfl (Or.inl ⟨by rfl, ?th80⟩) hHeld ?tr80
        case th80 => (intro w hSw; (try dsimp only at hSw); go_simp; try with_reducible rfl)
        try simp only [Act.put, lst]
        refine wT (i := 25) (v := ?tv81) rfl (Or.inl ⟨by rfl, ?th81⟩) hHeld ?tr81
        case th81 => (intro w hSw; (try dsimp only at hSw); go_simp; try with_reducible rfl)
        try simp only [Act.put, lst]
        refine wT (i := 26) (v := ?tv82) rfl (Or.inl ⟨by rfl, ?th82⟩) hHeld ?tr82
        case th82 => (intro w hSw; (try dsimp only at hSw); go_simp; try with_reducible rfl)
        try simp only [Act.put, lst]
        refine wT (i := 27) (v := ?tv83) rfl (Or.inl ⟨by rfl, ?th83⟩) hHeld ?tr83
        case th83 => (intro w hSw; (try dsimp only at hSw); go_simp; try with_reducible rfl)
        try simp only [Act.put, lst]
        refine wT (i := 28) (v := ?tv84) rfl (Or.inl ⟨by rfl, ?th84⟩) hHeld ?tr84
        case th84 => (intro w hSw; (try dsimp only at hSw); go_simp; try with_reducible rfl)
        try simp only [Act.put, lst]
        refine wT (i := 29) (v := ?tv85) rfl (Or.inl ⟨by rfl, ?th85⟩) hHeld ?tr85
        case th85 => (intro w hSw; (try dsimp only at hSw); go_simp; try with_reducible rfl)
        try simp only [Act.put, lst]
        refine wT (i := 30) (v := ?tv86) rfl (Or.inl ⟨by rfl, ?th86⟩) hHeld ?tr86
        case th86 => (intro w hSw; (try dsimp only at hSw); go_simp; try with_reducible rfl)
        try simp only [Act.put, lst]
        refine wT (i := 31) (v := ?tv87) rfl (Or.inl ⟨by rfl, ?th87⟩) hHeld ?tr87
        case th87 => (intro w hSw; (try dsimp only at hSw); go_simp; try with_reducible rfl)
        try simp only [Act.put, lst]
        refine wT (i := 32) (v := ?tv88) rfl (Or.inl ⟨by rfl, ?th88⟩) hHeld ?tr88
        case th88 => (intro w hSw; (try dsimp only at hSw); go_simp; try with_reducible rfl)
        try simp only [Act.put, lst]
        refine wpAnyT_done (by kernel_rfl) ?_
        as_aux_lemma =>
        have hz20 := srow_lt HM10.out.h.d
        have hz21 := srow_lt HM10.out.rs
        have HM20 := Lib.hid (HM12.out.setV (orow_base HR15.out.1 HM10.out.big) HWU.out.2.2 hz20 hz21)
        have zv0 := HM12.out.bv.cells 0 _ rfl
        have zv1 := HM12.out.bv.cells 1 _ rfl
        have zvf := HM12.out.bv.frozen
        have zvl := HM12.out.bv.lt
        simp only [houseC, stepC, List.getElem_toArray, List.getElem_cons_zero, List.getElem_cons_succ] at zv0 zv1
        clear hz20 hz21 hHeld hex h12 h12i h12j cu hb15 zx0 zx1 cp ct hbp2 hbt2
        go_upto_region 20 with fail
        have HMd := Lib.hid (HM20.out.on_ (Below.refl _ _).drew)
        clear HM20 HM12 zv0 zv1 zvf zvl HV15 HR15
        generalize ((wc.setCell ⟨w.heap.size, 0, none⟩ (.slice (some ⟨b15, o15, none⟩) n15 c15)).setCell ⟨w.heap.size, 1, none⟩ (.string u.root)).drew = w20 at *
        obtain ⟨b4, y4, hA4, hBb, hb4, cy, cyf, hM21⟩ := HMd.out.says (HPL.out.2.1.1.trans HPL.out.1.len) hpn ti
        subst hA4
        have HM21 := Lib.hid hM21
        have HPW20 := Lib.hid (HPI.out w20 HMd.out.bl)
        obtain ⟨hbp2, hbt2, cp, ct⟩ := HPW20.out
        have zx0 := HMd.out.bx.cells 0 _ rfl
        have zx1 := HMd.out.bx.cells 1 _ rfl
        simp only [houseC, stepC, List.getElem_toArray, List.getElem_cons_zero, List.getElem_cons_succ] at zx0 zx1
        clear hM21
        refine wp_region_T [12] (fun (W : World) => W.cell? ⟨w.heap.size + 1, 0, none⟩ = some (.slice (some ⟨bp, op, none⟩) pn pc) ∧ W.cell? ⟨w.heap.size + 1, 1, none⟩ = some (.slice (some ⟨bt, ot, none⟩) tn tc) ∧ W.cell? ⟨bp, op + i, none⟩ = some (.int .i64 pk) ∧ W.cell? ⟨bt, ot + i, none⟩ = some (.string ti) ∧ bp < W.heap.size ∧ bt < W.heap.size ∧ b4 < W.heap.size) (by kernel_rfl) ?_
        have hHeld : (fun (W : World) => W.cell? ⟨w.heap.size + 1, 0, none⟩ = some (.slice (some ⟨bp, op, none⟩) pn pc) ∧ W.cell? ⟨w.heap.size + 1, 1, none⟩ = some (.slice (some ⟨bt, ot, none⟩) tn tc) ∧ W.cell? ⟨bp, op + i, none⟩ = some (.int .i64 pk) ∧ W.cell? ⟨bt, ot + i, none⟩ = some (.string ti) ∧ bp < W.heap.size ∧ bt < W.heap.size ∧ b4 < W.heap.size) _ := ⟨zx0, zx1, cp, ct, hbp2, hbt2, hb4⟩
        refine wT (i := 0) (v := ?tv89) rfl (Or.inl ⟨by rfl, ?th89⟩) hHeld ?tr89
        case th89 => (intro w hSw; (try dsimp only at hSw); go_simp; try with_reducible rfl)
        try simp only [Act.put, lst]
        refine wT (i := 1) (v := ?tv90) rfl (Or.inl ⟨by rfl, ?th90⟩) hHeld ?tr90
        case th90 => (intro w hSw; (try dsimp only at hSw); go_simp; try with_reducible rfl)
        try simp only [Act.put, lst]
        refine wT (i := 2) (v := ?tv91) rfl (Or.inl ⟨by rfl, ?th91⟩) hHeld ?tr91
        case th91 => (intro w hSw; (try dsimp only at hSw); go_simp; try with_reducible rfl)
        try simp only [Act.put, lst]
        refine wT (i := 3) (v := ?tv92) rfl (Or.inl ⟨by rfl, ?th92⟩) hHeld ?tr92
        case th92 => (intro w hSw; (try dsimp only at hSw); go_simp; try with_reducible rfl)
        try simp only [Act.put, lst]
        refine wT (i := 4) (v := ?tv93) rfl (Or.inl ⟨by rfl, ?th93⟩) hHeld ?tr93
        case th93 => (intro w hSw; (try dsimp only at hSw); go_simp; try with_reducible rfl)
        try simp only [Act.put, lst]
        refine wT (i := 5) (v := ?tv94) rfl (Or.inl ⟨by rfl, ?th94⟩) hHeld ?tr94
        case th94 => (intro w hSw; (try dsimp only at hSw); go_simp; try with_reducible rfl)
        try simp only [Act.put, lst]
        refine wT (i := 6) (v := ?tv95) rfl (Or.inl ⟨by rfl, ?th95⟩) hHeld ?tr95
        case th95 => (intro w hSw; (try dsimp only at hSw); go_simp; try with_reducible rfl)
        try simp only [Act.put, lst]
        refine wT (i := 7) (v := ?tv96) rfl (Or.inl ⟨by rfl, ?th96⟩) hHeld ?tr96
        case th96 => (intro w hSw; (try dsimp only at hSw); go_simp; try with_reducible rfl)
        try simp only [Act.put, lst]
        refine wT (i := 8) (v := ?tv97) rfl (Or.inl ⟨by rfl, ?th97⟩) hHeld ?tr97
        case th97 => (intro w hSw; (try dsimp only at hSw); go_simp; try with_reducible rfl)
        try simp only [Act.put, lst]
        refine wT (i := 9) (v := ?tv98) rfl (Or.inl ⟨by rfl, ?th98⟩) hHeld ?tr98
        case th98 => (intro w hSw; (try dsimp only at hSw); go_simp; try with_reducible rfl)
        try simp only [Act.put, lst]
        refine wT (i := 10) (v := ?tv99) rfl (Or.inl ⟨by rfl, ?th99⟩) hHeld ?tr99
        case th99 => (intro w hSw; (try dsimp only at hSw); go_simp; try with_reducible rfl)
        try simp only [Act.put, lst]
        refine wT (i := 11) (v := ?tv100) rfl (Or.inl ⟨by rfl, ?th100⟩) hHeld ?tr100
        case th100 => (intro w hSw; (try dsimp only at hSw); go_simp; try with_reducible rfl)
        try simp only [Act.put, lst]
        refine wpAnyT_ready (rs := [12]) (by kernel_rfl) (by simp) ?_
        refine AllReadyT.late rfl (by kernel_rfl) (fun K hK => ?_) AllReadyT.nil
        rw [if_pos (by rfl)]
        simp only [lst]
        go_simp
        refine hK.out _ _ ?_
        clear hK K
        try simp only [Act.put, lst]
        refine wpAnyT_done (by kernel_rfl) ?_
        go_wp2_with fail
        go_roundw
        case rel =>
          refine ⟨i + 1, r2, nx1 + 1, q2, _, _, _, drawn ++ [bb], _, _, u, said1.set pk ti, e1, e2, by have := HBX.out.1; omega, ⟨by omega, by omega⟩, by go_num, by have := HG2.out.2.2; omega, HG2.out.2.1, (by first | exact HM21 | exact Lib.hid (HM21.out.on_ (Below.refl _ _).drew)), Lib.hid ⟨HWU.out.1, HWU.out.2.1, HG2.out.1, ?_⟩, Lib.hid ⟨HNE.out.1.symm, HNE.out.2.symm⟩⟩
          have := HPL.out.2.2.2
          rw [List.length_append]
          show drawn.length + 1 ≤ nx1 + 1
          omega
        case measure => simp [intOf]; omega
    · have i0 : (0 : Int) ≤ (i : Int) := by omega
      have zv0 := HM.out.bv.cells 0 _ rfl
      have zv1 := HM.out.bv.cells 1 _ rfl
      have zr0 := HM.out.br.cells 0 _ rfl
      have zr1 := HM.out.br.cells 1 _ rfl
      have zrf := HM.out.br.frozen
      have zrl := HM.out.br.lt
      simp only [houseC, stepC, List.getElem_toArray, List.getElem_cons_zero, List.getElem_cons_succ] at zv0 zv1 zr0 zr1
      by_cases hp : i < pn
      · have ht : ¬ i < tn := fun h => hlt ⟨hp, h⟩
        have hpi : (i : Int) < (pn : Int) := by omega
        have hti : ¬ (i : Int) < (tn : Int) := by omega
        go_wp2_with (with_reducible refine end_at ?_)
        obtain ⟨e1, e2, e3, e4, e5, e6⟩ := HM.out.setR
        have hld := vol_load e5
        generalize (wr.setCell ⟨w.heap.size + 1 + 1, 0, none⟩ (.slice A n c)).setCell ⟨w.heap.size + 1 + 1, 1, none⟩ (.string v.root) = W9 at *
        refine end_ret (v := .tuple #[.agg #[.slice A n c, .string v.root], .slice A4 n c4, .bool true]) (by simp [results, Tryz.results22, asAddr, hld]) rfl ⟨A, c, v, A4, c4, said1, Q1, Q2, q1, nx1, r1, dv, drawn, rfl, ?_, e2, e3, HM.out.a2.symm, HPL.out.1, HPL.out.2.1, HPL.out.2.2.1, hnx1, by omega, HPL.out.2.2.2, e4, e6⟩
        rw [HNI.out.1, HNI.out.2] at e1
        exact e1
      · have hpi : ¬ (i : Int) < (pn : Int) := by omega
        go_wp2_with (with_reducible refine end_at ?_)
        obtain ⟨e1, e2, e3, e4, e5, e6⟩ := HM.out.setR
        have hld := vol_load e5
        generalize (wr.setCell ⟨w.heap.size + 1 + 1, 0, none⟩ (.slice A n c)).setCell ⟨w.heap.size + 1 + 1, 1, none⟩ (.string v.root) = W9 at *
        refine end_ret (v := .tuple #[.agg #[.slice A n c, .string v.root], .slice A4 n c4, .bool true]) (by simp [results, Tryz.results22, asAddr, hld]) rfl ⟨A, c, v, A4, c4, said1, Q1, Q2, q1, nx1, r1, dv, drawn, rfl, ?_, e2, e3, HM.out.a2.symm, HPL.out.1, HPL.out.2.1, HPL.out.2.2.1, hnx1, by omega, HPL.out.2.2.2, e4, e6⟩
        rw [HNI.out.1, HNI.out.2] at e1
        exact e1
end Go.Proofs.YtpkomloblhbkiaaGreatDoor
