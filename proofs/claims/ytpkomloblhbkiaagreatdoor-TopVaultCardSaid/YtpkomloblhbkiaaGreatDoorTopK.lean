/- TopVault: the walk. -/
import Derived.Test.YtpkomloblhbkiaaGreatDoorTopJ
import Derived.Test.YtpkomloblhbkiaaGreatDoorTopC
set_option linter.unusedVariables false
set_option linter.unusedSimpArgs false
namespace Go.Proofs.YtpkomloblhbkiaaGreatDoor
open Go.RowKit
theorem TOk.stepIn {w W : World} {x : TStp} (h : TOk w x) (hb : Below w.heap.size w W) : StepIn W w.heap.size x := ⟨h.p.below hb, h.t.below hb, h.f.below hb, h.o.below hb, h.ts, h.fs, h.os⟩
theorem good_start {n : Nat} (h : countI (n : Int) = true) (key : ByteArray) : Good (vformP (n : Int)).1 P33 key (List.replicate (max 0 (min (n : Int) 64)).toNat ByteArray.empty) [] n 0 0 0 := by
  obtain ⟨_, h2, h3, h4⟩ := format_lies h
  obtain ⟨_, h1, h64⟩ := count_may h
  have e : (max 0 (min (n : Int) 64)).toNat = n := by omega
  rw [e]
  exact ⟨0, 0, _, h2, h4 key, ngood_start, Nat.le_refl _, Nat.le_refl _, Nat.le_refl _⟩
theorem HouseAt.on_ {w w' : World} {B g : Nat} {p q : Plat} {s : Src} {key : ByteArray} {said drawn : List ByteArray} (h : HouseAt w B g p q s key said drawn) (hb : Below w.heap.size w w') : HouseAt w' B g p q s key said drawn := by
  obtain ⟨P1, P2, Q1, Q2, sv, dv, h1, h2, h3, h4, h5, h6, h7, h8⟩ := h
  have hH : HouseIn w B g P1 P2 Q1 Q2 s key sv dv p q said drawn := ⟨h1, h2, h3, h4, h5, h6, h7, h8⟩
  exact (hH.on_ hb).at_
theorem HouseAt.big {w : World} {B g : Nat} {p q : Plat} {s : Src} {key : ByteArray} {said drawn : List ByteArray} (h : HouseAt w B g p q s key said drawn) : g < w.heap.size := by
  obtain ⟨P1, P2, Q1, Q2, sv, dv, h1, _⟩ := h
  exact h1.lt
theorem large_no {L : List TStp} (h : largeB L = false) : L.length ≤ 8 ∧ ∀ x ∈ L, bigStep x = false := by
  simp only [largeB, Bool.or_eq_false_iff, decide_eq_false_iff_not] at h
  refine ⟨by omega, fun x hx => ?_⟩
  have := List.any_eq_false.1 h.2 x hx
  simpa using this
set_option maxRecDepth 100000 in
set_option maxHeartbeats 8000000 in
theorem vault_walk (n : Int) (key : ByteArray) (L : List TStp) (A : Option Addr) (ns c : Nat) (w : World) (hL : SlR encT 5 w w.heap.size A ns L) (hns : ns ≤ 140737488351232) (hOk : ∀ x ∈ L, TOk w x) (hE : Env w) :
    Calls Tryz.prog 3 #[.int .i64 n, .string key, .slice A ns c] w fun e w' => e = .returned (.bool true) ∧ Below w.heap.size w w' := by
  have HKP : Hid (∀ W, Below w.heap.size w W → Calls Tryz.prog 7 #[] W fun e w' => e = .returned (.bool true) ∧ Below W.heap.size W w') := Lib.hid (fun W hW => tkept_any W (hE.below hW))
  have HLG := Lib.hid (fun W (hW : Below w.heap.size w W) => tlarge_any L A ns c W ((hL.below hW).more hW.size) hns (fun x hx => (hOk x hx).grow hW))
  have HHS := Lib.hid (thouse_any n key w hE)
  have HEN := Lib.hid hE
  have HOK := Lib.hid hOk
  have HLL := Lib.hid hL
  obtain ⟨b, hb⟩ : ∃ b, countI n = b := ⟨_, rfl⟩
  obtain ⟨lb, hlb⟩ : ∃ b, largeB L = b := ⟨_, rfl⟩
  rw [hb] at HHS
  rw [hlb] at HLG
  have HB := Lib.hid hb
  have HLB := Lib.hid hlb
  clear hL hOk hE hb hlb
  go_enter Tryz.func3, Tryz.ntmps3
  go_wp2_with fail
  refine HHS.out.mono ?_
  rintro e w1 ⟨g, rfl, hg, hH, hb1⟩
  have HH := Lib.hid (And.intro hg (And.intro hH hb1))
  clear hg hH hb1 HHS
  cases b with
  | false =>
    go_wp2_with fail
    refine (HKP.out _ HH.out.2.2).mono ?_
    rintro e w2 ⟨rfl, hb2⟩
    have HZ := Lib.hid (HH.out.2.2.trans (hb2.mono HH.out.2.2.size))
    clear hb2
    go_wp2_with fail
    go_ret
    exact ⟨rfl, HZ.out⟩
  | true =>
    by_cases h8 : (8 : Int) < n
    · go_wp2_with fail
      refine (HKP.out _ HH.out.2.2).mono ?_
      rintro e w2 ⟨rfl, hb2⟩
      have HZ := Lib.hid (HH.out.2.2.trans (hb2.mono HH.out.2.2.size))
      clear hb2
      go_wp2_with fail
      go_ret
      exact ⟨rfl, HZ.out⟩
    · by_cases hk : key.size = 32
      · have hki : (key.size : Int) = 32 := by omega
        have HKZ := Lib.hid hk
        clear hk
        go_wp2_with fail
        refine (HLG.out _ HH.out.2.2).mono ?_
        rintro e w2 ⟨rfl, hb2⟩
        have HB2 := Lib.hid (HH.out.2.2.trans (hb2.mono HH.out.2.2.size))
        have HH2 := Lib.hid (HH.out.2.1.on_ hb2)
        clear hb2
        cases lb with
        | true =>
          go_wp2_with fail
          refine (HKP.out _ HB2.out).mono ?_
          rintro e w3 ⟨rfl, hb3⟩
          have HZ := Lib.hid (HB2.out.trans (hb3.mono HB2.out.size))
          clear hb3
          go_wp2_with fail
          go_ret
          exact ⟨rfl, HZ.out⟩
        | false =>
          obtain ⟨k, rfl, hk1, hk64, hkm⟩ := count_nat HB.out
          obtain ⟨hl8, hbig⟩ := large_no HLB.out
          have hns8 : ns ≤ 8 := by have := HLL.out.1; omega
          have HBIG := Lib.hid hbig
          have HGS := Lib.hid (good_start HB.out key)
          have HGE := Lib.hid HH.out.1
          clear hl8 hbig HH
          go_wp2_with fail
          go_loopw [9] (fun iv wr => ∃ (i : Nat) (p q : Plat) (said drawn : List ByteArray) (nx r : Nat), i ≤ ns ∧ iv = .int .i64 i ∧ r ≤ 6 * i ∧ Hid (HouseAt wr w.heap.size g p q ⟨0, nx, ((16 * r : Nat) : Int)⟩ key said drawn) ∧ Hid (Good p q key said drawn k nx r i) ∧ Hid (Below w.heap.size w wr)) (fun iv _ => ns - (intOf iv).toNat)
          case atStart => exact ⟨0, _, P33, _, [], 0, 0, Nat.zero_le _, rfl, Nat.zero_le _, HH2, HGS, HB2⟩
          case round =>
            clear HH2 HGS HB2
            obtain ⟨i, p, q, said, drawn, nx, r, hi, rfl, hr, HH, HG, HBW⟩ := hrel
            by_cases hlt : i < ns
            · obtain ⟨x, hx⟩ : ∃ x, L[i]? = some x := ⟨_, List.getElem?_eq_getElem (by rw [HLL.out.1]; exact hlt)⟩
              have hmem := List.mem_of_getElem? hx
              rcases HLL.out.2 with h0 | ⟨b, off, rfl, hbl, hC⟩
              · omega
              have i0 : (0 : Int) ≤ (i : Int) := by omega
              have i1 : (i : Int) < (ns : Int) := by omega
              obtain ⟨x0, x1, x2, x3, x4⟩ := (show SlC encT 5 wr b off L from hC.below HBW.out hbl).stp hx
              have HST := Lib.hid (tstep_any x p q k r nx i w.heap.size g key said drawn wr HH.out HG.out HGE.out ((HOK.out x hmem).stepIn HBW.out) (HBIG.out x hmem) HKZ.out (by omega) (by omega) (Lib.hid (fun W hW => HEN.out.below (HBW.out.trans hW))))
              have hbw : b < wr.heap.size := Nat.lt_of_lt_of_le hbl HBW.out.size
              obtain ⟨pa, pn, pc, P, ta, tn, tc, Tx, deeds, fa, fn, fc, F, oa, on, oc, O⟩ := x
              unfold stepC at HST
              dsimp only at HST x0 x1 x2 x3 x4
              clear hx hmem hC hbl
              go_wp2_with fail
              refine HST.out.mono ?_
              rintro e w3 ⟨rfl, p', q', said', drawn', nx', r', hH', hG', hr', hb'⟩
              have H3 := Lib.hid (And.intro hH' (And.intro hG' (And.intro hr' hb')))
              clear hH' hG' hr' hb'
              go_wp2_with fail
              go_roundw
              case rel => exact ⟨i + 1, p', q', said', drawn', nx', r', by omega, by go_num, by have := H3.out.2.2.1; omega, Lib.hid H3.out.1, Lib.hid H3.out.2.1, Lib.hid (HBW.out.trans H3.out.2.2.2)⟩
              case measure => simp [intOf]; omega
            · obtain rfl : i = ns := by omega
              have i1 : ¬ (i : Int) < (i : Int) := by omega
              go_wp2_with fail
              refine (HKP.out _ HBW.out).mono ?_
              rintro e w3 ⟨rfl, hb3⟩
              have HZ := Lib.hid (HBW.out.trans (hb3.mono HBW.out.size))
              clear hb3
              go_wp2_with fail
              go_ret
              exact ⟨rfl, HZ.out⟩
      · have hki : ¬ (key.size : Int) = 32 := by omega
        go_wp2_with fail
        refine (HKP.out _ HH.out.2.2).mono ?_
        rintro e w2 ⟨rfl, hb2⟩
        have HZ := Lib.hid (HH.out.2.2.trans (hb2.mono HH.out.2.2.size))
        clear hb2
        go_wp2_with fail
        go_ret
        exact ⟨rfl, HZ.out⟩
end Go.Proofs.YtpkomloblhbkiaaGreatDoor
