/- chapter 20, SessionLost: the walk. -/
import Derived.Test.YtbgohcedakpnbaaDoorSesH
set_option linter.unusedVariables false
set_option linter.unusedSimpArgs false
namespace Go.Proofs.YtbgohcedakpnbaaDoor
open Go.RowKit
set_option maxRecDepth 100000 in
set_option maxHeartbeats 4000000 in
theorem slost_bad (key salt : ByteArray) (A : Option Addr) (n c : Nat) (A2 : Option Addr) (n2 c2 : Nat) (w : World) (hT : HTab w) (h : key.size ≠ 32) :
    Calls Tryd.prog 8 #[.string key, .string salt, .slice A n c, .slice A2 n2 c2] w fun e w' => e = .returned (.bool true) ∧ Below w.heap.size w w' := by
  have t3 : ((key.size : Int) != 32) = true := by simp; omega
  have HP := Lib.hid (fun W => pair_bad key salt W h)
  have HG : HTab w := hT
  clear h hT
  go_enter Tryd.func8, Tryd.ntmps8
  go_wp2_with fail
  refine (HP.out _).mono ?_
  rintro e w1 ⟨rfl, hb1⟩
  have hs1 : Below w.heap.size w w1 := Below.trans (by go_grown) (hb1.mono (by first | (simp; done) | (simp; omega)))
  have HG_1 := HG.on hs1
  have hB_1 := hs1
  unfold sesV
  have hz_1 := hs1.size
  clear hb1 HG hs1
  go_wp2_with fail
  refine (slines_any _ (HG_1.on (by go_grown))).mono ?_
  rintro e w2 ⟨rfl, hb3⟩
  have hs2 : Below w1.heap.size w1 w2 := Below.trans (by go_grown) (hb3.mono (by first | (simp; done) | (simp; omega)))
  have HG_2 := HG_1.on hs2
  have hB_2 := hB_1.trans (hs2.mono hB_1.size)
  have hz_2 := hs2.size
  clear hb3 HG_1 hB_1 hs2
  go_wp2_with fail
  go_ret
  exact ⟨rfl, by have h := hB_2; go_grown⟩
set_option maxRecDepth 100000 in
set_option maxHeartbeats 4000000 in
theorem slost_big (key salt K : ByteArray) (A : Option Addr) (n c : Nat) (A2 : Option Addr) (n2 c2 : Nat) (w : World) (hT : HTab w) (h : key.size = 32) (hbig : decide (200 < (salt.size : Int)) = true ∨ (decide (200 < (salt.size : Int)) = false ∧ decide (20 < (n : Int)) = true) ∨ (decide (200 < (salt.size : Int)) = false ∧ decide (20 < (n : Int)) = false ∧ decide (30 < (n2 : Int)) = true)) (hP : ∀ W, Rounds W → Calls Tryd.prog 24 #[.string key, .string salt] W fun e w' => e = .returned (.tuple #[sesV K 0 0 0, sesV K 1 0 0, .int .i64 0]) ∧ Below W.heap.size W w') :
    Calls Tryd.prog 8 #[.string key, .string salt, .slice A n c, .slice A2 n2 c2] w fun e w' => e = .returned (.bool true) ∧ Below w.heap.size w w' := by
  have t3 : ((key.size : Int) != 32) = false := by simp; omega
  have HP := Lib.hid hP
  have HG : HTab w := hT
  clear h hT hP
  rcases hbig with t5 | ⟨t5, t6⟩ | ⟨t5, t6, t7⟩
  all_goals
    go_enter Tryd.func8, Tryd.ntmps8
    go_wp2_with fail
    refine (HP.out _ (HG.step (by go_grown)).1).mono ?_
    rintro e w1 ⟨rfl, hb1⟩
    have hs1 : Below w.heap.size w w1 := Below.trans (by go_grown) (hb1.mono (by first | (simp; done) | (simp; omega)))
    have HG_1 := HG.on hs1
    have hB_1 := hs1
    unfold sesV
    have hz_1 := hs1.size
    clear hb1 HG hs1
    go_wp2_with fail
    refine (slines_any _ (HG_1.on (by go_grown))).mono ?_
    rintro e w2 ⟨rfl, hb3⟩
    have hs2 : Below w1.heap.size w1 w2 := Below.trans (by go_grown) (hb3.mono (by first | (simp; done) | (simp; omega)))
    have HG_2 := HG_1.on hs2
    have hB_2 := hB_1.trans (hs2.mono hB_1.size)
    have hz_2 := hs2.size
    clear hb3 HG_1 hB_1 hs2
    go_wp2_with fail
    go_ret
    exact ⟨rfl, by have h := hB_2; go_grown⟩
set_option maxRecDepth 100000 in
set_option maxHeartbeats 8000000 in
theorem slost_main (key salt K : ByteArray) (L : List ByteArray) (M : List Bool) (A A2 : Option Addr) (n c n2 c2 : Nat) (w : World) (hT : HTab w) (h : key.size = 32) (hs : salt.size ≤ 200) (hn : n ≤ 20) (hn2 : n2 ≤ 30)
    (hS : SlR encS 1 w w.heap.size A n L) (hM : SlR encBo 1 w w.heap.size A2 n2 M) (hL : ∀ s ∈ L, s.size ≤ 140737488351232) (hK : K.size = 32)
    (hP : ∀ W, Rounds W → Calls Tryd.prog 24 #[.string key, .string salt] W fun e w' => e = .returned (.tuple #[sesV K 0 0 0, sesV K 1 0 0, .int .i64 0]) ∧ Below W.heap.size W w') :
    Calls Tryd.prog 8 #[.string key, .string salt, .slice A n c, .slice A2 n2 c2] w fun e w' => e = .returned (.bool true) ∧ Below w.heap.size w w' := by
  have t5 : decide (200 < (salt.size : Int)) = false := by simp; omega
  have t6 : decide (20 < (n : Int)) = false := by simp; omega
  have t7 : decide (30 < (n2 : Int)) = false := by simp; omega
  have HP := Lib.hid hP
  have HG : HTab w := hT
  have HK := Lib.hid hK
  have hp1 := HG.out.1.pos
  have hp2 := HG.out.2.pos
  have HRow : Hid (∀ i, i < n → ∃ b off x, A = some ⟨b, off, none⟩ ∧ x.size ≤ 140737488351232 ∧ ∀ W, Below w.heap.size w W → W.cell? ⟨b, off + i, none⟩ = some (.string x)) := Lib.hid (fun i hi => by
    obtain ⟨b, off, x, h1, h2, h3⟩ := row_at hS hi
    exact ⟨b, off, x, h1, hL x (List.mem_of_getElem? h2), h3⟩)
  have HBo : Hid (∀ i, i < n2 → ∃ b off x, A2 = some ⟨b, off, none⟩ ∧ ∀ W, Below w.heap.size w W → W.cell? ⟨b, off + i, none⟩ = some (.bool x)) := Lib.hid (fun i hi => by
    obtain ⟨b, off, x, h1, h2, h3⟩ := bool_at hM hi
    exact ⟨b, off, x, h1, h3⟩)
  clear hP hT hK h hs hS hM hL
  go_enter Tryd.func8, Tryd.ntmps8
  go_wp2_with fail
  refine (HP.out _ (HG.step (by go_grown)).1).mono ?_
  rintro e w1 ⟨rfl, hb1⟩
  unfold sesV
  have hs1 : Below w.heap.size w w1 := Below.trans (by go_grown) (hb1.mono (by first | (simp; done) | (simp; omega)))
  have hz1 := hs1.size
  have HG1 := HG.on hs1
  have HB0 : Hid (SB ((w1.alloc (.cells #[.string K, .int .i64 0, .int .i64 0, .int .i64 0] 41)).alloc (.cells #[.string K, .int .i64 1, .int .i64 0, .int .i64 0] 41)) w1.heap.size K 0 0 0 ∧ SB ((w1.alloc (.cells #[.string K, .int .i64 0, .int .i64 0, .int .i64 0] 41)).alloc (.cells #[.string K, .int .i64 1, .int .i64 0, .int .i64 0] 41)) (w1.heap.size + 1) K 1 0 0) := Lib.hid ⟨Blk.alloc (SB.new rfl K 0 0 0) _, SB.new (by simp) K 1 0 0⟩
  clear hb1 HP
  go_wp2_with fail
  go_loopw [12] (fun iv wr => ∃ (i s : Nat), i ≤ n ∧ s ≤ i ∧ iv = .int .i64 i ∧ Hid (SB wr w1.heap.size K 0 i 0 ∧ SB wr (w1.heap.size + 1) K 1 0 s) ∧ HTab wr ∧ Below w.heap.size w wr) (fun iv _ => n - (intOf iv).toNat)
  case atStart => exact ⟨0, 0, by omega, by omega, rfl, HB0, HG1.on (by go_grown), by go_grown⟩
  case round =>
    clear HB0 HG1 hs1
    obtain ⟨i, s, hi, hsi, rfl, HB, HTr, hBr⟩ := hrel
    by_cases hlt : i < n
    · obtain ⟨b, off, x, rfl, hx, hc⟩ := HRow.out i hlt
      have cx := hc wr hBr
      have hbl : b < wr.heap.size := World.block_lt_of_cell? wr _ cx
      have HC := Lib.hid hc
      clear hc
      by_cases hbig : 300 < x.size
      · have t8 : decide (300 < (x.size : Int)) = true := by simp; omega
        clear hbig
        go_wp2_with fail
        refine (slines_any _ (HTr.on (by go_grown))).mono ?_
        rintro e w3 ⟨rfl, hb3⟩
        go_wp2_with fail
        go_ret
        exact ⟨rfl, hBr.trans (hb3.mono hBr.size)⟩
      · have t8 : decide (300 < (x.size : Int)) = false := by simp; omega
        have hi0 : (0 : Int) ≤ (i : Int) := by omega
        have hi1 : (i : Int) < (n : Int) := by omega
        obtain ⟨m, hm⟩ : ∃ m, i + 1 = m := ⟨_, rfl⟩
        have hmi : (i : Int) + 1 = (m : Int) := by omega
        have tq : ((m : Int) != (m : Int)) = false := by simp
        have HSE := Lib.hid (fun W hW => send_frm K x 0 i 0 m W hW HK.out (by omega) (by omega) (by omega) (by omega) hm)
        have HNU := Lib.hid (fun W => num_frm K x 0 m W HK.out (by omega) (by omega) (by omega))
        have HRE := Lib.hid (fun W hW => recv_frm K x 1 0 0 s m W hW HK.out rfl (by omega) (by omega) (by omega) (by omega) (by omega))
        have hFs := frm_size (K := K) (t := x) (side := 0) (n := m) HK.out (by omega) (by omega) (by omega)
        generalize frm K 0 m x = F at *
        have tz : ((F.size : Int) != 24 + (x.size : Int)) = false := by simp; omega
        have hlost : (i < n2 ∧ ∃ b2 off2 x2, A2 = some ⟨b2, off2, none⟩ ∧ ∀ W, Below w.heap.size w W → W.cell? ⟨b2, off2 + i, none⟩ = some (.bool x2)) ∨ n2 ≤ i := by
          by_cases hq : i < n2
          · exact .inl ⟨hq, HBo.out i hq⟩
          · exact .inr (by omega)
        have HLo := Lib.hid hlost
        obtain ⟨a0, a1, a2, a3⟩ := HB.out.1.cells
        have hla := Blk.lt HB.out.1
        have hlb := Blk.lt HB.out.2
        have hzr := hBr.size
        clear hbig hlost
        go_upto_region 9 with (fail)
        go_cut [13, 14, 15] from 67 to 76 (fun s13 s14 s15 wx => ∃ g : Nat, s13 = .string F ∧ s14 = .pointer (some ⟨g, 0, none⟩) ∧ s15 = .int .i64 0 ∧ Hid (SDone wr wx g K 0 m 0))
        case first =>
          have HTA : Hid (Turns wr.drew) := Lib.hid (HTr.step (by go_grown)).2
          have HTB : Hid (Turns (wr.alloc (.cells #[.string ⟨#[]⟩, .int .i64 0, .int .i64 0, .int .i64 0] 41)).drew) := Lib.hid (HTr.step (by go_grown)).2
          go_region_with (first
            | (go_at_call 26; (with_reducible refine Calls.mono (HSE.out wr.drew HTA.out) ?_); rintro e w3 ⟨rfl, hb3⟩; have hS5 := Lib.hid (sdone_after K 0 m 0 hb3))
            | (go_at_call 26; (with_reducible refine Calls.mono (HSE.out (wr.alloc (.cells #[.string ⟨#[]⟩, .int .i64 0, .int .i64 0, .int .i64 0] 41)).drew HTB.out) ?_); rintro e w3 ⟨rfl, hb3⟩; have hb6 := below_alloc_drew hb3; have hk5 := (Blk.new wr 41 #[.string ⟨#[]⟩, .int .i64 0, .int .i64 0, .int .i64 0]).below hb6 (by omega); have k50 := hk5.cells 0 _ rfl; have k51 := hk5.cells 1 _ rfl; have k52 := hk5.cells 2 _ rfl; have k53 := hk5.cells 3 _ rfl; have k5f := hk5.frozen; have k5l := hk5.lt; simp only [List.getElem_toArray, List.getElem_cons_zero, List.getElem_cons_succ] at k50 k51 k52 k53; have hS5 := Lib.hid (sdone_before K 0 m 0 hb6)))
          all_goals go_wp2_with fail
          all_goals go_meet
          all_goals exact ⟨_, rfl, rfl, rfl, hS5⟩
        case rest =>
          obtain ⟨g, rfl, rfl, rfl, HSD⟩ := hcut
          obtain ⟨w5, rfl⟩ : ∃ W : World, W = wc := ⟨wc, rfl⟩
          have hSa : SB w5 w1.heap.size K 0 i 0 := HB.out.1.below HSD.out.2.2 hla
          have hSb : SB w5 (w1.heap.size + 1) K 1 0 s := HB.out.2.below HSD.out.2.2 hlb
          have hB5 : Below w.heap.size w w5 := hBr.trans (HSD.out.2.2.mono hzr)
          have HT5 := HTr.on HSD.out.2.2
          have hlg := Blk.lt HSD.out.1
          have hgg := HSD.out.2.1
          have cx5 := HC.out w5 hB5
          obtain ⟨g0, g1, g2, g3⟩ := HSD.out.1.cells
          obtain ⟨s0, s1, s2, s3⟩ := hSa.cells
          have sf := Blk.frozen hSa
          have hla5 := Blk.lt hSa
          have HE : Hid (SB ((((w5.setCell ⟨w1.heap.size, 0, none⟩ (.string K)).setCell ⟨w1.heap.size, 1, none⟩ (.int .i64 0)).setCell ⟨w1.heap.size, 2, none⟩ (.int .i64 m)).setCell ⟨w1.heap.size, 3, none⟩ (.int .i64 0)) w1.heap.size K 0 m 0
            ∧ SB ((((w5.setCell ⟨w1.heap.size, 0, none⟩ (.string K)).setCell ⟨w1.heap.size, 1, none⟩ (.int .i64 0)).setCell ⟨w1.heap.size, 2, none⟩ (.int .i64 m)).setCell ⟨w1.heap.size, 3, none⟩ (.int .i64 0)) (w1.heap.size + 1) K 1 0 s
            ∧ Below w1.heap.size w5 ((((w5.setCell ⟨w1.heap.size, 0, none⟩ (.string K)).setCell ⟨w1.heap.size, 1, none⟩ (.int .i64 0)).setCell ⟨w1.heap.size, 2, none⟩ (.int .i64 m)).setCell ⟨w1.heap.size, 3, none⟩ (.int .i64 0))) := Lib.hid
            ⟨ses_set hSa _ _ _ _, ses_far hSb (show w1.heap.size + 1 ≠ w1.heap.size by omega) _ _ _ _, ses_below (Below.refl _ _) (Nat.le_refl _) _ _ _ _⟩
          clear hSa hSb HSD HSE HB a0 a1 a2 a3 cx
          go_wp2_with fail
          refine (HNU.out _).mono ?_
          rintro e w6 ⟨rfl, rfl⟩
          go_upto_region 14 with (fail)
          obtain ⟨w6, hw6⟩ : ∃ W : World, (((w5.setCell ⟨w1.heap.size, 0, none⟩ (.string K)).setCell ⟨w1.heap.size, 1, none⟩ (.int .i64 0)).setCell ⟨w1.heap.size, 2, none⟩ (.int .i64 m)).setCell ⟨w1.heap.size, 3, none⟩ (.int .i64 0) = W := ⟨_, rfl⟩
          rw [hw6] at HE ⊢
          have HT6 := HT5.low HE.out.2.2 (by omega) (by omega)
          have hB6 : Below w.heap.size w w6 := hB5.trans (HE.out.2.2.mono hz1)
          have hz6 := HE.out.2.2.size
          clear g0 g1 g2 g3 s0 s1 s2 s3 sf hw6 cx5 HT5 hB5 HNU
          have cx6 := HC.out w6 hB6
          obtain ⟨b0, b1, b2, b3⟩ := HE.out.2.1.cells
          have bf := Blk.frozen HE.out.2.1
          have hlb6 := Blk.lt HE.out.2.1
          have hgo : (∃ b2 off2, A2 = some ⟨b2, off2, none⟩ ∧ i < n2 ∧ w6.cell? ⟨b2, off2 + i, none⟩ = some (.bool true)) ∨ (∃ b2 off2, A2 = some ⟨b2, off2, none⟩ ∧ i < n2 ∧ w6.cell? ⟨b2, off2 + i, none⟩ = some (.bool false)) ∨ n2 ≤ i := by
            rcases HLo.out with ⟨hq, b2, off2, x2, hA2, hc2⟩ | hq
            · cases x2
              · exact .inr (.inl ⟨b2, off2, hA2, hq, hc2 w6 hB6⟩)
              · exact .inl ⟨b2, off2, hA2, hq, hc2 w6 hB6⟩
            · exact .inr (.inr hq)
          rcases hgo with ⟨e2, off2, rfl, hq, hcq⟩ | hgo
          · have tl : decide ((i : Int) < (n2 : Int)) = true := by simp; omega
            have tl2 : decide (i < n2) = true := by simp; omega
            clear b0 b1 b2 b3 bf cx6
            go_wp2_with fail
            go_roundw
            case rel => exact ⟨m, s, by omega, by omega, by go_num, Lib.hid ⟨HE.out.1, HE.out.2.1⟩, HT6, hB6⟩
            case measure => simp [intOf]; omega
          · have hgo2 : (∃ e2 off2, A2 = some ⟨e2, off2, none⟩ ∧ decide ((i : Int) < (n2 : Int)) = true ∧ i < n2 ∧ w6.cell? ⟨e2, off2 + i, none⟩ = some (.bool false)) ∨ (decide ((i : Int) < (n2 : Int)) = false ∧ n2 ≤ i) := by
              rcases hgo with ⟨e2, off2, hA, hq, hcq⟩ | hq
              · exact .inl ⟨e2, off2, hA, by simp; omega, hq, hcq⟩
              · exact .inr ⟨by simp; omega, hq⟩
            clear hgo
            rcases hgo2 with ⟨e2, off2, rfl, tl, hq, hcq⟩ | ⟨tl, hq⟩
            all_goals
              go_wp2_with fail
              refine (HRE.out _ (HT6.step (by go_grown)).2).mono ?_
              rintro e w7 ⟨rfl, hb7⟩
              have hB7 : Below w6.heap.size w6 w7 := Below.trans (by go_grown) (hb7.mono (by first | (simp; done) | (simp; omega)))
              have hz7 := hB7.size
              have hSa7 : SB w7 w1.heap.size K 0 m 0 := HE.out.1.on hB7
              have hSb7 : SB w7 (w1.heap.size + 1) K 1 0 s := HE.out.2.1.on hB7
              have hB8 := hB6.trans (hB7.mono hB6.size)
              have HT7 := HT6.on hB7
              have cx7 := HC.out w7 hB8
              have hbl7 : b < w7.heap.size := World.block_lt_of_cell? w7 _ cx7
              clear b0 b1 b2 b3 bf cx6 hb7
              obtain ⟨b0, b1, b2, b3⟩ := hSb7.cells
              have bf := Blk.frozen hSb7
              have hlb7 := Blk.lt hSb7
              have HS7 := Lib.hid (And.intro hSa7 hSb7)
              clear hSa7 hSb7
              go_wp2_with fail
              go_roundw
              case rel => exact ⟨m, m, by omega, by omega, by go_num, Lib.hid ⟨Blk.alloc (ses_far HS7.out.1 (show w1.heap.size ≠ w1.heap.size + 1 by omega) _ _ _ _) _, Blk.alloc (ses_set HS7.out.2 _ _ _ _) _⟩,
                (HT7.low (B := w1.heap.size + 1) (ses_below (Below.refl _ _) (Nat.le_refl _) _ _ _ _) (by omega) (by omega)).on (Below.alloc (Below.refl _ _) (Nat.le_refl _) _), (ses_below hB8 (show w.heap.size ≤ w1.heap.size + 1 by omega) _ _ _ _).alloc (ses_below hB8 (show w.heap.size ≤ w1.heap.size + 1 by omega) _ _ _ _).size _⟩
              case measure => simp [intOf]; omega
    · obtain rfl : i = n := by omega
      go_wp2_with fail
      refine (slines_any _ (HTr.on (by go_grown))).mono ?_
      rintro e w3 ⟨rfl, hb3⟩
      go_wp2_with fail
      go_ret
      exact ⟨rfl, hBr.trans (hb3.mono hBr.size)⟩
theorem slost_all (key salt : ByteArray) (L : List ByteArray) (M : List Bool) (A A2 : Option Addr) (n c n2 c2 : Nat) (w : World) (hT : HTab w) (hS : SlR encS 1 w w.heap.size A n L) (hM : SlR encBo 1 w w.heap.size A2 n2 M) (hL : ∀ s ∈ L, s.size ≤ 140737488351232) (hs : salt.size ≤ 140737488351232) :
    Calls Tryd.prog 8 #[.string key, .string salt, .slice A n c, .slice A2 n2 c2] w fun e w' => e = .returned (.bool true) ∧ Below w.heap.size w w' := by
  by_cases h : key.size = 32
  · obtain ⟨K, hK, _, hD⟩ := derive_some key salt (by omega) hs
    have hP := fun W hW => pair_good key salt K W h hW hD
    by_cases h1 : 200 < salt.size
    · exact slost_big key salt K A n c A2 n2 c2 w hT h (.inl (by simp; omega)) hP
    · by_cases h2 : 20 < n
      · exact slost_big key salt K A n c A2 n2 c2 w hT h (.inr (.inl ⟨by simp; omega, by simp; omega⟩)) hP
      · by_cases h3 : 30 < n2
        · exact slost_big key salt K A n c A2 n2 c2 w hT h (.inr (.inr ⟨by simp; omega, by simp; omega, by simp; omega⟩)) hP
        · exact slost_main key salt K L M A A2 n c n2 c2 w hT h (by omega) (by omega) (by omega) hS hM hL hK hP
  · exact slost_bad key salt A n c A2 n2 c2 w hT h
end Go.Proofs.YtbgohcedakpnbaaDoor
