/- TopTampered: the walk. -/
import Derived.Test.YtpkomloblhbkiaaGreatDoorTreF
import Derived.Test.YtpkomloblhbkiaaGreatDoorTopB
import Derived.Test.YtpkomloblhbkiaaGreatDoorTexts
import Derived.Test.YtpkomloblhbkiaaGreatDoorTreI
import Derived.BigRegion
import Derived.Deep.DeepCutAuto
set_option linter.unusedVariables false
set_option linter.unusedSimpArgs false
namespace Go.Proofs.YtpkomloblhbkiaaGreatDoor
open Go.RowKit
/-- what is loaded without an errno is right -/
theorem load_right {p : Plat} {v : Vol} {gn : Nat} (h : loadP p = (v, gn, 0)) : volB v = true ∧ rootedB v = true ∧ v.blocks.length = (vsizeF p.sectors.length).1 := by
  unfold loadP at h
  by_cases h0 : (openP p).2 = 0
  · rw [if_pos h0] at h
    injection h with h1 h2
    rw [← h1]
    clear h1 h2
    unfold openP at h0 ⊢
    split at h0
    · simp at h0
    · split at h0
      · rename_i h1; exact absurd h0 h1
      · cases hh : headV (getF p 0).1 with
        | none => rw [hh] at h0; simp at h0
        | some V =>
          obtain ⟨g, a, root⟩ := V
          rw [hh] at h0
          simp only at h0 ⊢
          rename_i q1 q2
          rw [if_neg q1, if_neg q2]
          split at h0
          · simp at h0
          · split at h0
            · simp at h0
            · rename_i q3 q4
              rw [if_neg q3, if_neg q4]
              refine ⟨?_, ?_, ?_⟩
              · simpa using q3
              · simpa using q4
              · exact blocksOf_len _ _ _
  · rw [if_neg h0] at h
    exact absurd (congrArg (fun x => x.2.2) h) h0
theorem tamper_len {p q : Plat} {i : Int} {s : ByteArray} (h : tamperF p i s = (q, 0)) : q.sectors.length = p.sectors.length := by
  unfold tamperF at h
  split at h
  · split at h
    · split at h
      · injection h with h _
        rw [← h]
        simp
      · simp at h
    · simp at h
  · simp at h
/-- two volumes of one Root that are not the same: Collide shows two texts with one Sum -/
theorem vols_shown {v u : Vol} {n : Nat} (hv : Whole v n) (hu : Whole u n) (hne : v.blocks ≠ u.blocks) (hr : u.root = v.root) : ∃ a b, collF v.blocks u.blocks = ⟨a, b, true⟩ ∧ a ≠ b ∧ sumF a = sumF b ∧ a.size ≤ 1001 ∧ b.size ≤ 1001 := by
  have h1 := (volB_iff v).1 hv.vol
  have h2 := (volB_iff u).1 hu.vol
  have hm := (count_may h1.1).1
  have hm2 := (count_may h2.1).1
  have r1 := hv.rt
  have r2 := hu.rt
  simp only [rootedB, Bool.and_eq_true, decide_eq_true_eq] at r1 r2
  have e1 : rootV v.blocks = rootB v.blocks := by unfold rootV; rw [if_pos hm]
  have e2 : rootV u.blocks = rootB u.blocks := by unfold rootV; rw [if_pos hm2]
  refine coll_shows (hv.len.trans hu.len.symm) hm hne ?_ (fun s hs => by have := h1.2.2 s hs; omega) (fun s hs => by have := h2.2.2 s hs; omega)
  rw [← e1, ← e2, r1.2, r2.2, hr]
/-- the platter that is tampered with, in its box, beside the volume -/
structure TamAt (w : World) (kv kp : Nat) (Av : Option Addr) (n cv : Nat) (v : Vol) (p : Plat) (W : World) : Prop where
  bv : Blk W kv 36 #[.slice Av n cv, .string v.root]
  rv : SRow W w.heap.size (.slice Av n cv) v.blocks
  pp : ∃ (A A' : Option Addr) (na nb ca cb : Nat), Blk W kp 42 #[.slice A na ca, .slice A' nb cb] ∧ PlatOut W w.heap.size (.agg #[.slice A na ca, .slice A' nb cb]) p
  bl : Below w.heap.size w W
  lo : w.heap.size ≤ kp
theorem TamAt.on_ {w : World} {kv kp : Nat} {Av : Option Addr} {n cv : Nat} {v : Vol} {p : Plat} {W W' : World} (h : TamAt w kv kp Av n cv v p W) (hb : Below W.heap.size W W') : TamAt w kv kp Av n cv v p W' := by
  obtain ⟨A, A', na, nb, ca, cb, h1, h2⟩ := h.pp
  exact ⟨h.bv.below hb h.bv.lt, orow_below h.rv hb (Nat.le_refl _), ⟨A, A', na, nb, ca, cb, h1.below hb h1.lt, h2.on_ hb⟩, h.bl.trans (hb.mono h.bl.size), h.lo⟩
theorem TamAt.setP {w : World} {kv kp : Nat} {Av : Option Addr} {n cv : Nat} {v : Vol} {p q : Plat} {W : World} {A A' : Option Addr} {na nb ca cb : Nat} (h : TamAt w kv kp Av n cv v p W) (ho : PlatOut W w.heap.size (.agg #[.slice A na ca, .slice A' nb cb]) q) : TamAt w kv kp Av n cv v q ((W.setCell ⟨kp, 0, none⟩ (.slice A na ca)).setCell ⟨kp, 1, none⟩ (.slice A' nb cb)) := by
  obtain ⟨B, B', na', nb', ca', cb', h1, _⟩ := h.pp
  have h2 := h1.set_ 0 (.slice A na ca)
  have hne := Blk.ne_ h.bv h1 (by decide)
  exact ⟨(h.bv.far (p := ⟨kp, 0, none⟩) hne _).far (p := ⟨kp, 1, none⟩) hne _, orow_far (orow_far h.rv h1 (by decide) 0 _) h2 (by decide) 1 _, ⟨A, A', na, nb, ca, cb, h2.set_ 1 _, (ho.far h1 (by decide) (by decide) 0 _).far h2 (by decide) (by decide) 1 _⟩, (h.bl.setCell (p := ⟨kp, 0, none⟩) h.lo _).setCell (p := ⟨kp, 1, none⟩) h.lo _, h.lo⟩
set_option maxRecDepth 100000 in
set_option maxHeartbeats 16000000 in
theorem tampered_walk (n : Int) (key : ByteArray) (L : List TStp) (A : Option Addr) (ns c : Nat) (La : List Int) (Aa : Option Addr) (na ca : Nat) (Lt : List ByteArray) (At : Option Addr) (nt ct : Nat) (w : World) (hL : SlR encT 5 w w.heap.size A ns L) (hns : ns ≤ 140737488351232) (hOk : ∀ x ∈ L, TOk w x)
    (hLa : SlR encI 1 w w.heap.size Aa na La) (hna : na ≤ 140737488351232) (hLt : SlR encS 1 w w.heap.size At nt Lt) (hnt : nt ≤ 140737488351232) (hts : ∀ s ∈ Lt, s.size ≤ 140737488351232) (hE : Env w) :
    Calls Tryz.prog 4 #[.int .i64 n, .string key, .slice A ns c, .slice Aa na ca, .slice At nt ct] w fun e w' => e = .returned (.bool true) ∧ Below w.heap.size w w' := by
  have HKP : Hid (∀ W, Below w.heap.size w W → Calls Tryz.prog 7 #[] W fun e w' => e = .returned (.bool true) ∧ Below W.heap.size W w') := Lib.hid (fun W hW => tkept_any W (hE.below hW))
  have HLG := Lib.hid (fun W (hW : Below w.heap.size w W) => tlarge_any L A ns c W ((hL.below hW).more hW.size) hns (fun x hx => (hOk x hx).grow hW))
  have HSH := Lib.hid (fun W (hW : Below w.heap.size w W) (h : nt ≤ 1000) => short_any Lt At nt ct W ((hLt.below hW).more hW.size) h)
  have HHS := Lib.hid (thouse_any n key w hE)
  have HEN := Lib.hid hE
  have HOK := Lib.hid hOk
  have HLL := Lib.hid hL
  have HLA := Lib.hid hLa
  have HLT := Lib.hid hLt
  obtain ⟨b, hb⟩ : ∃ b, countI n = b := ⟨_, rfl⟩
  obtain ⟨lb, hlb⟩ : ∃ b, largeB L = b := ⟨_, rfl⟩
  obtain ⟨sb, hsb⟩ : ∃ b, Lt.any longT = b := ⟨_, rfl⟩
  rw [hb] at HHS
  rw [hlb] at HLG
  rw [hsb] at HSH
  have HB := Lib.hid hb
  have HLB := Lib.hid hlb
  clear hL hOk hE hb hlb hLa hLt hts hsb
  go_enter Tryz.func4, Tryz.ntmps4
  go_wp2_with fail
  refine HHS.out.mono ?_
  rintro e w1 ⟨g, rfl, hg, hH, hb1⟩
  have HH := Lib.hid (And.intro hg (And.intro hH hb1))
  clear hg hH hb1 HHS
  cases b with
  | false =>
    go_wp2_with fail
    refine (HKP.out _ HH.out.2.2).mono ?_
    rintro e wk ⟨rfl, hbk⟩
    have HZ := Lib.hid (Below.trans HH.out.2.2 (hbk.mono (Below.size HH.out.2.2)))
    clear hbk
    go_wp2_with fail
    go_ret
    exact ⟨rfl, HZ.out⟩
  | true =>
  by_cases h8 : (8 : Int) < n
  · skip
    go_wp2_with fail
    refine (HKP.out _ HH.out.2.2).mono ?_
    rintro e wk ⟨rfl, hbk⟩
    have HZ := Lib.hid (Below.trans HH.out.2.2 (hbk.mono (Below.size HH.out.2.2)))
    clear hbk
    go_wp2_with fail
    go_ret
    exact ⟨rfl, HZ.out⟩
  by_cases hk : key.size = 32
  rotate_left
  · have hki : ¬ (key.size : Int) = 32 := by omega
    go_wp2_with fail
    refine (HKP.out _ HH.out.2.2).mono ?_
    rintro e wk ⟨rfl, hbk⟩
    have HZ := Lib.hid (Below.trans HH.out.2.2 (hbk.mono (Below.size HH.out.2.2)))
    clear hbk
    go_wp2_with fail
    go_ret
    exact ⟨rfl, HZ.out⟩
  have hki : (key.size : Int) = 32 := by omega
  have HKZ := Lib.hid hk
  clear hk
  go_wp2_with fail
  refine (HLG.out _ HH.out.2.2).mono ?_
  rintro e w2 ⟨rfl, hb2⟩
  have HB2 := Lib.hid (HH.out.2.2.trans (hb2.mono HH.out.2.2.size))
  have HH2 := Lib.hid (HH.out.2.1.on_ hb2)
  clear hb2
  cases lb with
  | true =>
    go_wp2_with fail
    refine (HKP.out _ HB2.out).mono ?_
    rintro e wk ⟨rfl, hbk⟩
    have HZ := Lib.hid (Below.trans HB2.out (hbk.mono (Below.size HB2.out)))
    clear hbk
    go_wp2_with fail
    go_ret
    exact ⟨rfl, HZ.out⟩
  | false =>
  by_cases ha : 10 < na
  · have hai : (10 : Int) < (na : Int) := by omega
    go_wp2_with fail
    refine (HKP.out _ HB2.out).mono ?_
    rintro e wk ⟨rfl, hbk⟩
    have HZ := Lib.hid (Below.trans HB2.out (hbk.mono (Below.size HB2.out)))
    clear hbk
    go_wp2_with fail
    go_ret
    exact ⟨rfl, HZ.out⟩
  have hai : ¬ (10 : Int) < (na : Int) := by omega
  by_cases ht : 10 < nt
  · have hti : (10 : Int) < (nt : Int) := by omega
    go_wp2_with fail
    refine (HKP.out _ HB2.out).mono ?_
    rintro e wk ⟨rfl, hbk⟩
    have HZ := Lib.hid (Below.trans HB2.out (hbk.mono (Below.size HB2.out)))
    clear hbk
    go_wp2_with fail
    go_ret
    exact ⟨rfl, HZ.out⟩
  have hti : ¬ (10 : Int) < (nt : Int) := by omega
  have ht10 : nt ≤ 1000 := by omega
  go_wp2_with fail
  refine (HSH.out _ HB2.out ht10).mono ?_
  rintro e w3 ⟨rfl, rfl⟩
  cases sb with
  | true =>
    go_wp2_with fail
    refine (HKP.out _ HB2.out).mono ?_
    rintro e wk ⟨rfl, hbk⟩
    have HZ := Lib.hid (Below.trans HB2.out (hbk.mono (Below.size HB2.out)))
    clear hbk
    go_wp2_with fail
    go_ret
    exact ⟨rfl, HZ.out⟩
  | false =>
  obtain ⟨k, rfl, hk1, hk64, hkm⟩ := count_nat HB.out
  obtain ⟨hl8, hbig⟩ := large_no HLB.out
  have hns8 : ns ≤ 8 := by have := HLL.out.1; omega
  have HBIG := Lib.hid hbig
  have HGS := Lib.hid (good_start HB.out key)
  have HGE := Lib.hid HH.out.1
  clear hl8 hbig HH
  go_wp2_with fail
  go_loopw [13] (fun iv wr => ∃ (i : Nat) (p q : Plat) (said drawn : List ByteArray) (nx r : Nat), i ≤ ns ∧ iv = .int .i64 i ∧ r ≤ 6 * i ∧ Hid (HouseAt wr w.heap.size g p q ⟨0, nx, ((16 * r : Nat) : Int)⟩ key said drawn) ∧ Hid (Good p q key said drawn k nx r i) ∧ Hid (Below w.heap.size w wr)) (fun iv _ => ns - (intOf iv).toNat)
  case atStart => exact ⟨0, _, P33, _, [], 0, 0, Nat.zero_le _, rfl, Nat.zero_le _, HH2, HGS, HB2⟩
  case round =>
  clear HH2 HGS HB2
  obtain ⟨i, p, q, said, drawn, nx, r, hi, rfl, hr, HH, HG, HBW⟩ := hrel
  by_cases hlt : i < ns
  · obtain ⟨x, hx⟩ : ∃ x, L[i]? = some x := ⟨_, List.getElem?_eq_getElem (by rw [HLL.out.1]; exact hlt)⟩
    have hmem := List.mem_of_getElem? hx
    rcases HLL.out.2 with h0 | ⟨b, off, rfl, hbl, hC⟩
    · omega
    have i0 : (0 : Int) ≤ (i : Int) := by omega
    have i1 : (i : Int) < (ns : Int) := by omega
    obtain ⟨x0, x1, x2, x3, x4⟩ := (show SlC encT 5 wr b off L from hC.below HBW.out hbl).stp hx
    have HST := Lib.hid (tstep_any x p q k r nx i w.heap.size g key said drawn wr HH.out HG.out HGE.out ((HOK.out x hmem).stepIn HBW.out) (HBIG.out x hmem) HKZ.out (by omega) (by omega) (Lib.hid (fun W hW => HEN.out.below (HBW.out.trans hW))))
    have hbw : b < wr.heap.size := Nat.lt_of_lt_of_le hbl HBW.out.size
    obtain ⟨pa, pn, pc, P, ta, tn, tc, Tx, deeds, fa, fn, fc, F, oa, on, oc, O⟩ := x
    unfold stepC at HST
    dsimp only at HST x0 x1 x2 x3 x4
    clear hx hmem hC hbl
    go_wp2_with fail
    refine HST.out.mono ?_
    rintro e w4 ⟨rfl, p', q', said', drawn', nx', r', hH', hG', hr', hb'⟩
    have H3 := Lib.hid (And.intro hH' (And.intro hG' (And.intro hr' hb')))
    clear hH' hG' hr' hb'
    go_wp2_with fail
    go_roundw
    case rel => exact ⟨i + 1, p', q', said', drawn', nx', r', by omega, by go_num, by have := H3.out.2.2.1; omega, Lib.hid H3.out.1, Lib.hid H3.out.2.1, Lib.hid (HBW.out.trans H3.out.2.2.2)⟩
    case measure => simp [intOf]; omega
  obtain rfl : i = ns := by omega
  have i1 : ¬ (i : Int) < (i : Int) := by omega
  obtain ⟨P1, P2, Q1, Q2, sv, dv, hq1, hq2, _⟩ := HH.out
  obtain ⟨a, gn, v, hLi, _⟩ := HG.out
  obtain ⟨Ap, cp, Ap', cp', np, mp, hPe, hnp, hmp, hat, hO⟩ := hq2.slices
  simp only [Value.agg.injEq, Array.mk.injEq, List.cons.injEq, and_true] at hPe
  obtain ⟨rfl, rfl⟩ := hPe
  have hnp9 : np ≤ 1000 := by have := hLi.n64.2.2; rw [← hnp, hLi.len]; omega
  have HHB := Lib.hid hq1
  have HPO := Lib.hid hO
  have HLI := Lib.hid hLi
  have HLD := Lib.hid (load_any p Ap Ap' np mp cp cp' wr hat (by omega) (HEN.out.below HBW.out))
  rw [load_lies hLi] at HLD
  dsimp only at HLD
  clear hq1 hq2 hLi hnp hmp hat hO
  have p90 := HHB.out.cells 0 _ rfl
  have p91 := HHB.out.cells 1 _ rfl
  simp only [houseC, stepC, List.getElem_toArray, List.getElem_cons_zero, List.getElem_cons_succ] at p90 p91
  go_wp2_with fail
  refine HLD.out.mono ?_
  rintro e w5 ⟨v5, rfl, hV5, hb5⟩
  obtain ⟨A5, c5, n5, rfl, hn5, hs5⟩ := hV5.slices
  obtain rfl : n5 = k := hn5.symm.trans HLI.out.vlen
  have hb6 : Below wr.heap.size wr (w5.alloc (.cells #[.slice A5 n5 c5, .string v.root] 36)) := hb5.alloc hb5.size _
  have H6 : Hid (Blk (w5.alloc (.cells #[.slice A5 n5 c5, .string v.root] 36)) w5.heap.size 36 #[.slice A5 n5 c5, .string v.root] ∧ SRow (w5.alloc (.cells #[.slice A5 n5 c5, .string v.root] 36)) w.heap.size (.slice A5 n5 c5) v.blocks ∧ PlatOut (w5.alloc (.cells #[.slice A5 n5 c5, .string v.root] 36)) w.heap.size (.agg #[.slice Ap np cp, .slice Ap' mp cp']) p ∧ Below w.heap.size w (w5.alloc (.cells #[.slice A5 n5 c5, .string v.root] 36)) ∧ Blk (w5.alloc (.cells #[.slice A5 n5 c5, .string v.root] 36)) g 46 (houseC (.slice Ap np cp) (.slice Ap' mp cp') Q1 Q2 ⟨0, nx, ((16 * r : Nat) : Int)⟩ key sv dv)) :=
    Lib.hid ⟨Blk.new _ _ _, orow_alloc (orow_base hs5 HBW.out.size) _, HPO.out.on_ hb6, HBW.out.trans (hb6.mono HBW.out.size), HHB.out.below hb6 HHB.out.lt⟩
  clear hb5 hb6 hV5 hs5 HLD HHB HPO p90 p91
  go_upto_region 10 with fail
  generalize w5.alloc (.cells #[.slice A5 n5 c5, .string v.root] 36) = w6 at *
  obtain ⟨kv, hkv⟩ : ∃ x, w5.heap.size = x := ⟨_, rfl⟩
  rw [hkv] at H6 ⊢
  clear hkv
  have pa0 := H6.out.2.2.2.2.cells 0 _ rfl
  have pa1 := H6.out.2.2.2.2.cells 1 _ rfl
  simp only [houseC, stepC, List.getElem_toArray, List.getElem_cons_zero, List.getElem_cons_succ] at pa0 pa1
  go_upto_region 11 with fail
  have hb7 : Below w6.heap.size w6 (w6.alloc (.cells #[.slice Ap np cp, .slice Ap' mp cp'] 42)) := (Below.refl _ _).alloc (Nat.le_refl _) _
  have HT7 : Hid (TamAt w kv w6.heap.size A5 n5 c5 v p (w6.alloc (.cells #[.slice Ap np cp, .slice Ap' mp cp'] 42))) := Lib.hid ⟨H6.out.1.below hb7 H6.out.1.lt, orow_below H6.out.2.1 hb7 (Nat.le_refl _), ⟨Ap, Ap', np, mp, cp, cp', Blk.new _ _ _, H6.out.2.2.1.on_ hb7⟩, H6.out.2.2.2.1.trans (hb7.mono H6.out.2.2.2.1.size), H6.out.2.2.2.1.size⟩
  clear hb7 H6 pa0 pa1
  generalize w6.alloc (.cells #[.slice Ap np cp, .slice Ap' mp cp'] 42) = w7 at *
  obtain ⟨kp, hkp⟩ : ∃ x, w6.heap.size = x := ⟨_, rfl⟩
  rw [hkp] at HT7 ⊢
  clear hkp
  have HWV := Lib.hid HLI.out.whole
  have HPL : Hid (p.sectors.length = 3 + 2 * n5) := Lib.hid HLI.out.len
  go_wp2_with fail
  go_loopw [18] (fun iv wx => ∃ (j : Nat) (p' : Plat), j ≤ na ∧ j ≤ nt ∧ iv = .int .i64 j ∧ Hid (j = 0 → p' = p) ∧ Hid (p'.sectors.length = 3 + 2 * n5) ∧ Hid (TamAt w kv kp A5 n5 c5 v p' wx)) (fun iv _ => nt - (intOf iv).toNat)
  case atStart => exact ⟨0, p, Nat.zero_le _, Nat.zero_le _, rfl, Lib.hid (fun _ => rfl), HPL, HT7⟩
  case round =>
  clear HT7 HPL
  obtain ⟨j, p', hja, hjt, rfl, HJ0, HPL, HT⟩ := hrel
  obtain ⟨A8, A8', n8, m8, c8, c8', hk8, ho8⟩ := HT.out.pp
  have HK8 := Lib.hid hk8
  have HO8 := Lib.hid ho8
  have hsz : w.heap.size ≤ wr.heap.size := HT.out.bl.size
  have HSZ := Lib.hid hsz
  clear hk8 ho8 hsz
  by_cases hlt : j < na ∧ j < nt
  · obtain ⟨hla, hlt⟩ := hlt
    have i0 : (0 : Int) ≤ (j : Int) := by omega
    have ia : (j : Int) < (na : Int) := by omega
    have it : (j : Int) < (nt : Int) := by omega
    obtain ⟨ai, hai⟩ : ∃ x, La[j]? = some x := ⟨_, List.getElem?_eq_getElem (by rw [HLA.out.1]; exact hla)⟩
    obtain ⟨ti, hti⟩ : ∃ x, Lt[j]? = some x := ⟨_, List.getElem?_eq_getElem (by rw [HLT.out.1]; exact hlt)⟩
    rcases HLA.out.2 with h0 | ⟨ba, oa, hAa, hba, hca⟩
    · exact absurd h0 (by omega)
    rcases HLT.out.2 with h0 | ⟨bt, ot, hAt, hbt, hct⟩
    · exact absurd h0 (by omega)
    subst hAa hAt
    have ca0 : wr.cell? ⟨ba, oa + j, none⟩ = some (.int .i64 ai) := by
      have h1 := hca j ai hai 0 _ rfl
      simp only [Nat.mul_one, Nat.add_zero] at h1
      exact (HT.out.bl.cell (p := ⟨ba, oa + j, none⟩) hba).trans h1
    have ct0 : wr.cell? ⟨bt, ot + j, none⟩ = some (.string ti) := by
      have h1 := hct j ti hti 0 _ rfl
      simp only [Nat.mul_one, Nat.add_zero] at h1
      exact (HT.out.bl.cell (p := ⟨bt, ot + j, none⟩) hbt).trans h1
    obtain ⟨⟨pt, et⟩, hpt⟩ : ∃ V, tamperF p' ai ti = V := ⟨_, rfl⟩
    have HTM := Lib.hid (fun W (hW : Below wr.heap.size wr W) => tamper_any p' ai ti A8 A8' n8 m8 c8 c8' W (HO8.out.on_ hW).met_.1)
    rw [hpt] at HTM
    unfold Out2P at HTM
    dsimp only at HTM
    have HPT := Lib.hid hpt
    clear hai hti hca hct hba hbt hpt
    go_upto_region 14 with fail
    have p80 := HK8.out.cells 0 _ rfl
    have p81 := HK8.out.cells 1 _ rfl
    simp only [houseC, stepC, List.getElem_toArray, List.getElem_cons_zero, List.getElem_cons_succ] at p80 p81
    go_cut [19, 20] (fun a b wx => b = .int .i64 et ∧ ∃ (g11 n7 m7 c7 c7' : Nat) (A7 A7' : Option Addr), a = .pointer (some ⟨g11, 0, none⟩) ∧ Hid (Blk wx g11 42 #[.slice A7 n7 c7, .slice A7' m7 c7']) ∧ Hid (PlatOut wx w.heap.size (.agg #[.slice A7 n7 c7, .slice A7' m7 c7']) pt) ∧ Hid (Below wr.heap.size wr wx))
    case first =>
      as_aux_lemma =>
      refine wp_region_T [14, 15] (fun W => Below wr.heap.size wr W ∧ W.cell? ⟨kp, 0, none⟩ = some (.slice A8 n8 c8) ∧ W.cell? ⟨kp, 1, none⟩ = some (.slice A8' m8 c8') ∧ W.cell? ⟨ba, oa + j, none⟩ = some (.int .i64 ai) ∧ W.cell? ⟨bt, ot + j, none⟩ = some (.string ti)) (by kernel_rfl) ?_
      have hHeld : (fun W => Below wr.heap.size wr W ∧ W.cell? ⟨kp, 0, none⟩ = some (.slice A8 n8 c8) ∧ W.cell? ⟨kp, 1, none⟩ = some (.slice A8' m8 c8') ∧ W.cell? ⟨ba, oa + j, none⟩ = some (.int .i64 ai) ∧ W.cell? ⟨bt, ot + j, none⟩ = some (.string ti)) _ := ⟨(Below.refl _ _).drew, p80, p81, ca0, ct0⟩
      have hba : Below wr.heap.size wr wr.drew := (Below.refl _ _).drew
      clear hba
      generalize wr.drew = wqd at *
      refine wT (i := 0) (v := ?tv1) rfl (Or.inl ⟨by rfl, ?th1⟩) hHeld ?tr1
      case th1 => (intro w hSw; (try dsimp only at hSw); go_simp; try with_reducible rfl)
      try simp only [Act.put, lst]
      refine wT (i := 1) (v := ?tv2) rfl (Or.inl ⟨by rfl, ?th2⟩) hHeld ?tr2
      case th2 => (intro w hSw; (try dsimp only at hSw); go_simp; try with_reducible rfl)
      try simp only [Act.put, lst]
      refine wT (i := 2) (v := ?tv3) rfl (Or.inl ⟨by rfl, ?th3⟩) hHeld ?tr3
      case th3 => (intro w hSw; (try dsimp only at hSw); go_simp; try with_reducible rfl)
      try simp only [Act.put, lst]
      refine wT (i := 3) (v := ?tv4) rfl (Or.inl ⟨by rfl, ?th4⟩) hHeld ?tr4
      case th4 => (intro w hSw; (try dsimp only at hSw); go_simp; try with_reducible rfl)
      try simp only [Act.put, lst]
      refine wT (i := 4) (v := ?tv5) rfl (Or.inl ⟨by rfl, ?th5⟩) hHeld ?tr5
      case th5 => (intro w hSw; (try dsimp only at hSw); go_simp; try with_reducible rfl)
      try simp only [Act.put, lst]
      refine wT (i := 5) (v := ?tv6) rfl (Or.inl ⟨by rfl, ?th6⟩) hHeld ?tr6
      case th6 => (intro w hSw; (try dsimp only at hSw); go_simp; try with_reducible rfl)
      try simp only [Act.put, lst]
      refine wT (i := 6) (v := ?tv7) rfl (Or.inl ⟨by rfl, ?th7⟩) hHeld ?tr7
      case th7 => (intro w hSw; (try dsimp only at hSw); go_simp; try with_reducible rfl)
      try simp only [Act.put, lst]
      refine wT (i := 7) (v := ?tv8) rfl (Or.inl ⟨by rfl, ?th8⟩) hHeld ?tr8
      case th8 => (intro w hSw; (try dsimp only at hSw); go_simp; try with_reducible rfl)
      try simp only [Act.put, lst]
      refine wT (i := 8) (v := ?tv9) rfl (Or.inl ⟨by rfl, ?th9⟩) hHeld ?tr9
      case th9 => (intro w hSw; (try dsimp only at hSw); go_simp; try with_reducible rfl)
      try simp only [Act.put, lst]
      refine wpAnyT_ready (rs := [9, 13]) (by kernel_rfl) (by simp) ?_
      refine AllReadyT.cons rfl (fun K hK => ?_) ?_
      · rw [if_pos (by rfl)]
        simp only [lst]
        have hPrev := Lib.hid hHeld
        clear hHeld
        go_simp
        refine (HTM.out _ hPrev.out.1).mono ?_
        rintro e' wq1 ⟨v7, rfl, hO7, hba⟩
        have hO7 := hO7.base (B' := w.heap.size) (Nat.le_trans HSZ.out hPrev.out.1.size)
        obtain ⟨A7, c7, A7', c7', n7, m7, rfl, _, _, _, hO7⟩ := hO7.slices
        have HO := Lib.hid hO7
        clear hO7
        go_simp
        refine hK.out _ _ (⟨hPrev.out.1.trans (hba.mono hPrev.out.1.size), kpc hba hPrev.out.2.1, kpc hba hPrev.out.2.2.1, kpc hba hPrev.out.2.2.2.1, kpc hba hPrev.out.2.2.2.2⟩) (fun hHeld => ?_)
        clear hK K hPrev
        try simp only [Act.put, lst]
        clear hba
        refine wP (i := 10) (v := ?tv10) rfl (Or.inl ⟨by rfl, ?th10⟩) hHeld ?tr10
        case th10 => (intro w hSw; clear hSw; go_simp; try with_reducible rfl)
        try simp only [Act.put, lst]
        refine wP (i := 11) (v := ?tv11) rfl (Or.inl ⟨by rfl, ?th11⟩) hHeld ?tr11
        case th11 => (intro w hSw; clear hSw; go_simp; try with_reducible rfl)
        try simp only [Act.put, lst]
        refine wP (i := 12) (v := ?tv12) rfl (Or.inl ⟨by rfl, ?th12⟩) hHeld ?tr12
        case th12 => (intro w hSw; clear hSw; go_simp; try with_reducible rfl)
        try simp only [Act.put, lst]
        refine wpAnyT_ready (rs := [13]) (by kernel_rfl) (by simp) ?_
        refine AllReadyT.cons rfl (fun K hK => ?_) ?_
        · rw [if_pos (by rfl)]
          simp only [lst]
          have hPrev := Lib.hid hHeld
          clear hHeld
          go_simp
          have HLA2 := Lib.hid hPrev.out.1.size
          have hba : Below wq1.heap.size wq1 (wq1.alloc (.cells #[.slice none 0 0, .slice none 0 0] 42)) := (Below.refl _ _).alloc (Nat.le_refl _) _
          have HA := Lib.hid (Blk.new wq1 42 #[.slice none 0 0, .slice none 0 0])
          replace HO := Lib.hid (HO.out.on_ hba)
          refine hK.out _ _ (⟨hPrev.out.1.trans (hba.mono hPrev.out.1.size), kpc hba hPrev.out.2.1, kpc hba hPrev.out.2.2.1, kpc hba hPrev.out.2.2.2.1, kpc hba hPrev.out.2.2.2.2⟩) (fun hHeld => ?_)
          clear hK K hPrev
          try simp only [Act.put, lst]
          clear hba
          generalize wq1.alloc (.cells #[.slice none 0 0, .slice none 0 0] 42) = wq2 at *
          refine wpAnyT_ready (rs := [14]) (by kernel_rfl) (by simp) ?_
          refine AllReadyT.late rfl (by kernel_rfl) (fun K hK => ?_) AllReadyT.nil
          rw [if_pos (by rfl)]
          simp only [lst]
          have za0 := HA.out.cells 0 _ rfl
          have za1 := HA.out.cells 1 _ rfl
          have zaf := HA.out.frozen
          have zal := HA.out.lt
          simp only [List.getElem_toArray, List.getElem_cons_zero, List.getElem_cons_succ] at za0 za1
          go_simp
          refine hK.out _ _ ?_
          clear hK K
          try simp only [Act.put, lst]
          refine wpAnyT_ready (rs := [15]) (by kernel_rfl) (by simp) ?_
          refine AllReadyT.late rfl (by kernel_rfl) (fun K hK => ?_) AllReadyT.nil
          rw [if_pos (by rfl)]
          simp only [lst]
          go_simp
          refine hK.out _ _ ?_
          clear hK K
          try simp only [Act.put, lst]
          refine wpAnyT_done (by kernel_rfl) ?_
          go_step
          go_step
          go_meet
          have hy := (HA.out.set_ 0 (.slice A7 n7 c7)).set_ 1 (.slice A7' m7 c7')
          have ho := (HO.out.far HA.out (by decide) (by decide) 0 (.slice A7 n7 c7)).far (HA.out.set_ 0 _) (by decide) (by decide) 1 (.slice A7' m7 c7')
          exact ⟨rfl, _, n7, m7, c7, c7', A7, A7', rfl, Lib.hid hy, Lib.hid ho, Lib.hid ((hHeld.1.setCell (p := ⟨_, 0, none⟩) HLA2.out (.slice A7 n7 c7)).setCell (p := ⟨_, 1, none⟩) HLA2.out (.slice A7' m7 c7'))⟩
        exact AllReadyT.nil
      refine AllReadyT.cons rfl (fun K hK => ?_) ?_
      · rw [if_pos (by rfl)]
        simp only [lst]
        have hPrev := Lib.hid hHeld
        clear hHeld
        go_simp
        have HLA2 := Lib.hid hPrev.out.1.size
        have hba : Below wqd.heap.size wqd (wqd.alloc (.cells #[.slice none 0 0, .slice none 0 0] 42)) := (Below.refl _ _).alloc (Nat.le_refl _) _
        have HA := Lib.hid (Blk.new wqd 42 #[.slice none 0 0, .slice none 0 0])
        refine hK.out _ _ (⟨hPrev.out.1.trans (hba.mono hPrev.out.1.size), kpc hba hPrev.out.2.1, kpc hba hPrev.out.2.2.1, kpc hba hPrev.out.2.2.2.1, kpc hba hPrev.out.2.2.2.2⟩) (fun hHeld => ?_)
        clear hK K hPrev
        try simp only [Act.put, lst]
        clear hba
        generalize wqd.alloc (.cells #[.slice none 0 0, .slice none 0 0] 42) = wq3 at *
        refine wpAnyT_ready (rs := [9]) (by kernel_rfl) (by simp) ?_
        refine AllReadyT.cons rfl (fun K hK => ?_) ?_
        · rw [if_pos (by rfl)]
          simp only [lst]
          have hPrev := Lib.hid hHeld
          clear hHeld
          go_simp
          refine (HTM.out _ hPrev.out.1).mono ?_
          rintro e' wq4 ⟨v7, rfl, hO7, hba⟩
          have hO7 := hO7.base (B' := w.heap.size) (Nat.le_trans HSZ.out hPrev.out.1.size)
          obtain ⟨A7, c7, A7', c7', n7, m7, rfl, _, _, _, hO7⟩ := hO7.slices
          have HO := Lib.hid hO7
          clear hO7
          go_simp
          replace HA := Lib.hid (HA.out.below hba HA.out.lt)
          refine hK.out _ _ (⟨hPrev.out.1.trans (hba.mono hPrev.out.1.size), kpc hba hPrev.out.2.1, kpc hba hPrev.out.2.2.1, kpc hba hPrev.out.2.2.2.1, kpc hba hPrev.out.2.2.2.2⟩) (fun hHeld => ?_)
          clear hK K hPrev
          try simp only [Act.put, lst]
          clear hba
          refine wP (i := 10) (v := ?tv13) rfl (Or.inl ⟨by rfl, ?th13⟩) hHeld ?tr13
          case th13 => (intro w hSw; clear hSw; go_simp; try with_reducible rfl)
          try simp only [Act.put, lst]
          refine wP (i := 11) (v := ?tv14) rfl (Or.inl ⟨by rfl, ?th14⟩) hHeld ?tr14
          case th14 => (intro w hSw; clear hSw; go_simp; try with_reducible rfl)
          try simp only [Act.put, lst]
          refine wP (i := 12) (v := ?tv15) rfl (Or.inl ⟨by rfl, ?th15⟩) hHeld ?tr15
          case th15 => (intro w hSw; clear hSw; go_simp; try with_reducible rfl)
          try simp only [Act.put, lst]
          refine wpAnyT_ready (rs := [14]) (by kernel_rfl) (by simp) ?_
          refine AllReadyT.late rfl (by kernel_rfl) (fun K hK => ?_) AllReadyT.nil
          rw [if_pos (by rfl)]
          simp only [lst]
          have za0 := HA.out.cells 0 _ rfl
          have za1 := HA.out.cells 1 _ rfl
          have zaf := HA.out.frozen
          have zal := HA.out.lt
          simp only [List.getElem_toArray, List.getElem_cons_zero, List.getElem_cons_succ] at za0 za1
          go_simp
          refine hK.out _ _ ?_
          clear hK K
          try simp only [Act.put, lst]
          refine wpAnyT_ready (rs := [15]) (by kernel_rfl) (by simp) ?_
          refine AllReadyT.late rfl (by kernel_rfl) (fun K hK => ?_) AllReadyT.nil
          rw [if_pos (by rfl)]
          simp only [lst]
          go_simp
          refine hK.out _ _ ?_
          clear hK K
          try simp only [Act.put, lst]
          refine wpAnyT_done (by kernel_rfl) ?_
          go_step
          go_step
          go_meet
          have hy := (HA.out.set_ 0 (.slice A7 n7 c7)).set_ 1 (.slice A7' m7 c7')
          have ho := (HO.out.far HA.out (by decide) (by decide) 0 (.slice A7 n7 c7)).far (HA.out.set_ 0 _) (by decide) (by decide) 1 (.slice A7' m7 c7')
          exact ⟨rfl, _, n7, m7, c7, c7', A7, A7', rfl, Lib.hid hy, Lib.hid ho, Lib.hid ((hHeld.1.setCell (p := ⟨_, 0, none⟩) HLA2.out (.slice A7 n7 c7)).setCell (p := ⟨_, 1, none⟩) HLA2.out (.slice A7' m7 c7'))⟩
        exact AllReadyT.nil
      exact AllReadyT.nil
    case rest =>
    obtain ⟨rfl, g19, n7, m7, c7, c7', A7, A7', rfl, HA, HO, HB9⟩ := hcut
    have HT9 := Lib.hid (HT.out.on_ HB9.out)
    have HK9 := Lib.hid (HK8.out.below HB9.out HK8.out.lt)
    clear HTM HT HK8 HO8 ca0 ct0 p80 p81
    have pa0 := HA.out.cells 0 _ rfl
    have pa1 := HA.out.cells 1 _ rfl
    have pk0 := HK9.out.cells 0 _ rfl
    have pk1 := HK9.out.cells 1 _ rfl
    have pkf := HK9.out.frozen
    have pkl := HK9.out.lt
    simp only [houseC, stepC, List.getElem_toArray, List.getElem_cons_zero, List.getElem_cons_succ] at pa0 pa1 pk0 pk1
    by_cases he : et = 0
    · have hee : (et == 0) = true := by simp [he]
      have HT10 := Lib.hid (HT9.out.setP HO.out)
      have HE := Lib.hid he
      clear he
      go_wp2_with fail
      go_roundw
      case rel => exact ⟨j + 1, pt, by omega, by omega, by go_num, Lib.hid (fun h => absurd h (by omega)), Lib.hid ((tamper_len (by rw [HPT.out, HE.out])).trans HPL.out), HT10⟩
      case measure => simp [intOf]; omega
    · have hee : (et == 0) = false := beq_eq_false_iff_ne.2 he
      clear he
      go_wp2_with fail
      go_roundw
      case rel => exact ⟨j + 1, p', by omega, by omega, by go_num, Lib.hid (fun h => absurd h (by omega)), HPL, HT9⟩
      case measure => simp [intOf]; omega
  have HNJ : Hid (na = 0 → p' = p) := Lib.hid (fun h => HJ0.out (by omega))
  have hst : (¬ (j : Int) < (na : Int)) ∨ ((j : Int) < (na : Int) ∧ ¬ (j : Int) < (nt : Int)) := by omega
  obtain ⟨⟨wv, now, er⟩, hld⟩ : ∃ V, loadP p' = V := ⟨_, rfl⟩
  have HLD := Lib.hid (load_any p' A8 A8' n8 m8 c8 c8' wr HO8.out.met_.1 (by have := HO8.out.met_.2.1; have := HPL.out; omega) (HEN.out.below HT.out.bl))
  rw [hld] at HLD
  dsimp only at HLD
  have HLP := Lib.hid hld
  clear hld hlt
  have HMN := Lib.hid HLI.out.n64
  have p80 := HK8.out.cells 0 _ rfl
  have p81 := HK8.out.cells 1 _ rfl
  have pv0 := HT.out.bv.cells 0 _ rfl
  have pv1 := HT.out.bv.cells 1 _ rfl
  simp only [houseC, stepC, List.getElem_toArray, List.getElem_cons_zero, List.getElem_cons_succ] at p80 p81 pv0 pv1
  rcases hst with hj1 | ⟨hj1, hj2⟩
  all_goals
    go_upto_region 17 with fail
    go_wp2_with fail
    refine HLD.out.mono ?_
    rintro e w9 ⟨v9, rfl, hV9, hb9⟩
    obtain ⟨A9, c9, n9, rfl, hn9, hs9⟩ := hV9.slices
    have hb10 : Below wr.heap.size wr (w9.alloc (.cells #[.slice A9 n9 c9, .string wv.root] 36)) := hb9.alloc hb9.size _
    have H10 : Hid (Blk (w9.alloc (.cells #[.slice A9 n9 c9, .string wv.root] 36)) w9.heap.size 36 #[.slice A9 n9 c9, .string wv.root] ∧ SRow (w9.alloc (.cells #[.slice A9 n9 c9, .string wv.root] 36)) wr.heap.size (.slice A9 n9 c9) wv.blocks ∧ TamAt w kv kp A5 n5 c5 v p' (w9.alloc (.cells #[.slice A9 n9 c9, .string wv.root] 36))) := Lib.hid ⟨Blk.new _ _ _, orow_alloc hs9 _, HT.out.on_ hb10⟩
    have HN9 := Lib.hid hn9
    clear hb9 hb10 hV9 hs9 hn9 HLD p80 p81 pv0 pv1
    go_upto_region 18 with fail
    generalize w9.alloc (.cells #[.slice A9 n9 c9, .string wv.root] 36) = w10 at *
    obtain ⟨k21, hk21⟩ : ∃ x, w9.heap.size = x := ⟨_, rfl⟩
    rw [hk21] at H10 ⊢
    clear hk21
    have pz0 := H10.out.1.cells 0 _ rfl
    have pz1 := H10.out.1.cells 1 _ rfl
    have pv0 := H10.out.2.2.bv.cells 0 _ rfl
    have pv1 := H10.out.2.2.bv.cells 1 _ rfl
    simp only [houseC, stepC, List.getElem_toArray, List.getElem_cons_zero, List.getElem_cons_succ] at pz0 pz1 pv0 pv1
    by_cases he : er = 0
    rotate_left
    · have hee : (er == 0) = false := beq_eq_false_iff_ne.2 he
      go_wp2_with fail
      refine (HKP.out _ H10.out.2.2.bl).mono ?_
      rintro e wk ⟨rfl, hbk⟩
      have HZ := Lib.hid (Below.trans H10.out.2.2.bl (hbk.mono (Below.size H10.out.2.2.bl)))
      clear hbk
      go_wp2_with fail
      go_ret
      exact ⟨rfl, HZ.out⟩
    subst he
    by_cases hroot : wv.root = v.root
    rotate_left
    · have hne := (txt_ne hroot).1
      clear hroot
      go_wp2_with fail
      refine (HKP.out _ H10.out.2.2.bl).mono ?_
      rintro e wk ⟨rfl, hbk⟩
      have HZ := Lib.hid (Below.trans H10.out.2.2.bl (hbk.mono (Below.size H10.out.2.2.bl)))
      clear hbk
      go_wp2_with fail
      go_ret
      exact ⟨rfl, HZ.out⟩
    have heq := (txt_eq hroot).1
    obtain ⟨r1, r2, r3⟩ := load_right HLP.out
    have hwu : Whole wv n5 := ⟨r1, r2, by rw [r3, HPL.out, pow_size HMN.out.1 HMN.out.2.2]⟩
    have HWU := Lib.hid (And.intro hwu hroot)
    obtain rfl : n9 = n5 := HN9.out.symm.trans hwu.len
    have hrw := trows_any v.blocks wv.blocks A5 A9 n9 c5 n9 c9 w10 (srow_slr H10.out.2.2.rv HWV.out.len) (srow_slr H10.out.2.1 hwu.len) (by omega)
    obtain ⟨rb, hrb⟩ : ∃ rb, decide (v.blocks = wv.blocks) = rb := ⟨_, rfl⟩
    rw [hrb] at hrw
    have HRW := Lib.hid hrw
    have HRB := Lib.hid hrb
    clear r1 r2 r3 hwu hrw hrb hroot
    go_wp2_with fail
    refine HRW.out.mono ?_
    rintro e w11 ⟨rfl, hb11⟩
    have H11 := Lib.hid (And.intro (H10.out.1.below hb11 H10.out.1.lt) (And.intro (orow_below H10.out.2.1 hb11 (Nat.le_refl _)) (H10.out.2.2.on_ hb11)))
    clear hb11 HRW heq H10 pv0 pv1 pz0 pz1
    cases rb with
    | true =>
      have hgn : gn = now ∨ (gn ≠ now ∧ 0 < na) := by
        by_cases h0 : na = 0
        · have h1 := HLP.out
          rw [HNJ.out h0, load_lies HLI.out] at h1
          injection h1 with _ h1
          injection h1 with h1 _
          exact .inl h1
        · by_cases h1 : gn = now
          · exact .inl h1
          · exact .inr ⟨h1, by omega⟩
      rcases hgn with hgn | ⟨hgn, hna0⟩
      · have hgi : ((gn : Int) == (now : Int)) = true := by simp [hgn]
        have hgk : (gn : Int) = (now : Int) := by omega
        go_wp2_with fail
        refine (HKP.out _ H11.out.2.2.bl).mono ?_
        rintro e wk ⟨rfl, hbk⟩
        have HZ := Lib.hid (Below.trans H11.out.2.2.bl (hbk.mono (Below.size H11.out.2.2.bl)))
        clear hbk
        go_wp2_with fail
        go_ret
        exact ⟨rfl, HZ.out⟩
      · have hgi : ((gn : Int) == (now : Int)) = false := beq_eq_false_iff_ne.2 (by omega)
        have hgk : ¬ (gn : Int) = (now : Int) := by omega
        have hni : (0 : Int) < (na : Int) := by omega
        have HN0 := Lib.hid hna0
        clear hna0
        go_wp2_with fail
        refine (HKP.out _ H11.out.2.2.bl).mono ?_
        rintro e wk ⟨rfl, hbk⟩
        have HZ := Lib.hid (Below.trans H11.out.2.2.bl (hbk.mono (Below.size H11.out.2.2.bl)))
        clear hbk
        go_wp2_with fail
        go_ret
        refine ⟨?_, HZ.out⟩
        have hdc : ∀ (i : Decidable (0 < na)), @decide _ i = true := fun i => @decide_eq_true _ i HN0.out
        exact congrArg (fun b => Ending.returned (Value.bool b)) (hdc _)
    | false =>
      obtain ⟨a1, b1, hcf, hab, hsm, ha1, hb1⟩ := vols_shown HWV.out HWU.out.1 (of_decide_eq_false HRB.out) HWU.out.2
      have hco := coll_any v.blocks wv.blocks A5 A9 n9 c5 n9 c9 w11 (HEN.out.below H11.out.2.2.bl).1 (srow_slr H11.out.2.2.rv HWV.out.len) (srow_slr H11.out.2.1 HWU.out.1.len) (by have := HMN.out.2.2; omega) (by have := HMN.out.2.2; omega) HWV.out.sizes.1 HWU.out.1.sizes.1
      rw [hcf] at hco
      unfold TwoPost twoV at hco
      dsimp only at hco
      have HCO := Lib.hid hco
      have hne := (txt_ne hab).1
      obtain ⟨s1, hs1⟩ : ∃ s, sumF a1 = s := ⟨_, rfl⟩
      have HS1 := Lib.hid (fun W (hW : Below w.heap.size w W) => sumF_any a1 W (HEN.out.below hW).1 (by simp only [maxLen]; omega))
      have HS2 := Lib.hid (fun W (hW : Below w.heap.size w W) => sumF_any b1 W (HEN.out.below hW).1 (by simp only [maxLen]; omega))
      rw [hs1] at HS1
      rw [← hsm, hs1] at HS2
      have py0 := H11.out.1.cells 0 _ rfl
      have pw0 := H11.out.2.2.bv.cells 0 _ rfl
      simp only [houseC, stepC, List.getElem_toArray, List.getElem_cons_zero, List.getElem_cons_succ] at py0 pw0
      clear hco hcf hab hsm ha1 hb1 hs1
      go_wp2_with fail
      refine HCO.out.mono ?_
      rintro e w12 ⟨rfl, hb12⟩
      have HB12 := Lib.hid (H11.out.2.2.bl.trans (hb12.mono H11.out.2.2.bl.size))
      clear hb12 HCO py0 pw0
      go_wp2_with fail
      refine (HKP.out _ HB12.out).mono ?_
      rintro e w13 ⟨rfl, hb13⟩
      have HB13 := Lib.hid (HB12.out.trans (hb13.mono HB12.out.size))
      clear hb13
      go_wp2_with fail
      refine (HS1.out _ HB13.out).mono ?_
      rintro e w14 ⟨rfl, hb14⟩
      have HB14 := Lib.hid (HB13.out.trans (hb14.mono HB13.out.size))
      clear hb14
      go_wp2_with fail
      refine (HS2.out _ HB14.out).mono ?_
      rintro e w15 ⟨rfl, hb15⟩
      have HB15 := Lib.hid (HB14.out.trans (hb15.mono HB14.out.size))
      clear hb15
      go_wp2_with fail
      go_ret
      exact ⟨rfl, HB15.out⟩
end Go.Proofs.YtpkomloblhbkiaaGreatDoor
