/- chapter 20, SessionOnce: the walk. -/
import Derived.Test.YtbgohcedakpnbaaDoorSesH
import Derived.Test.YtbgohcedakpnbaaDoorStrs
set_option linter.unusedVariables false
set_option linter.unusedSimpArgs false
namespace Go.Proofs.YtbgohcedakpnbaaDoor
open Go.RowKit
theorem srow_low {w : World} {base : Nat} {v : Value} {L : List ByteArray} (h : SRow w base v L) (g : Nat) (hg : g < base) (k a b c : Value) : SRow ((((w.setCell ⟨g, 0, none⟩ k).setCell ⟨g, 1, none⟩ a).setCell ⟨g, 2, none⟩ b).setCell ⟨g, 3, none⟩ c) base v L :=
  ownsRow_setCell_below (ownsRow_setCell_below (ownsRow_setCell_below (ownsRow_setCell_below h hg _) hg _) hg _) hg _
set_option maxRecDepth 100000 in
set_option maxHeartbeats 4000000 in
theorem sonce_bad (key salt : ByteArray) (A : Option Addr) (n c : Nat) (A2 : Option Addr) (n2 c2 : Nat) (w : World) (hT : HTab w) (h : key.size ≠ 32) :
    Calls Tryd.prog 6 #[.string key, .string salt, .slice A n c, .slice A2 n2 c2] w fun e w' => e = .returned (.bool true) ∧ Below w.heap.size w w' := by
  have t3 : ((key.size : Int) != 32) = true := by simp; omega
  have HP := Lib.hid (fun W => pair_bad key salt W h)
  have HG : HTab w := hT
  clear h hT
  go_enter Tryd.func6, Tryd.ntmps6
  go_wp2_with fail
  refine (HP.out _).mono ?_
  rintro e w1 ⟨rfl, hb1⟩
  have hs1 : Below w.heap.size w w1 := Below.trans (by go_grown) (hb1.mono (by first | (simp; done) | (simp; omega)))
  have HG_1 := HG.on hs1
  have hB_1 := hs1
  unfold sesV
  have hz_1 := hs1.size
  clear hb1 HG hs1
  go_wp2_with fail
  refine (slines_any _ (HG_1.on (by go_grown))).mono ?_
  rintro e w2 ⟨rfl, hb3⟩
  have hs2 : Below w1.heap.size w1 w2 := Below.trans (by go_grown) (hb3.mono (by first | (simp; done) | (simp; omega)))
  have HG_2 := HG_1.on hs2
  have hB_2 := hB_1.trans (hs2.mono hB_1.size)
  have hz_2 := hs2.size
  clear hb3 HG_1 hB_1 hs2
  go_wp2_with fail
  go_ret
  exact ⟨rfl, by have h := hB_2; go_grown⟩
set_option maxRecDepth 100000 in
set_option maxHeartbeats 4000000 in
theorem sonce_big (key salt K : ByteArray) (A : Option Addr) (n c : Nat) (A2 : Option Addr) (n2 c2 : Nat) (w : World) (hT : HTab w) (h : key.size = 32) (hbig : decide (200 < (salt.size : Int)) = true ∨ (decide (200 < (salt.size : Int)) = false ∧ decide (20 < (n : Int)) = true) ∨ (decide (200 < (salt.size : Int)) = false ∧ decide (20 < (n : Int)) = false ∧ decide (60 < (n2 : Int)) = true)) (hP : ∀ W, Rounds W → Calls Tryd.prog 24 #[.string key, .string salt] W fun e w' => e = .returned (.tuple #[sesV K 0 0 0, sesV K 1 0 0, .int .i64 0]) ∧ Below W.heap.size W w') :
    Calls Tryd.prog 6 #[.string key, .string salt, .slice A n c, .slice A2 n2 c2] w fun e w' => e = .returned (.bool true) ∧ Below w.heap.size w w' := by
  have t3 : ((key.size : Int) != 32) = false := by simp; omega
  have HP := Lib.hid hP
  have HG : HTab w := hT
  clear h hT hP
  rcases hbig with t5 | ⟨t5, t6⟩ | ⟨t5, t6, t7⟩
  all_goals
    go_enter Tryd.func6, Tryd.ntmps6
    go_wp2_with fail
    refine (HP.out _ (HG.step (by go_grown)).1).mono ?_
    rintro e w1 ⟨rfl, hb1⟩
    have hs1 : Below w.heap.size w w1 := Below.trans (by go_grown) (hb1.mono (by first | (simp; done) | (simp; omega)))
    have HG_1 := HG.on hs1
    have hB_1 := hs1
    unfold sesV
    have hz_1 := hs1.size
    clear hb1 HG hs1
    go_wp2_with fail
    refine (slines_any _ (HG_1.on (by go_grown))).mono ?_
    rintro e w2 ⟨rfl, hb3⟩
    have hs2 : Below w1.heap.size w1 w2 := Below.trans (by go_grown) (hb3.mono (by first | (simp; done) | (simp; omega)))
    have HG_2 := HG_1.on hs2
    have hB_2 := hB_1.trans (hs2.mono hB_1.size)
    have hz_2 := hs2.size
    clear hb3 HG_1 hB_1 hs2
    go_wp2_with fail
    go_ret
    exact ⟨rfl, by have h := hB_2; go_grown⟩
set_option maxRecDepth 100000 in
set_option maxHeartbeats 8000000 in
theorem sonce_main (key salt K : ByteArray) (L : List ByteArray) (M : List Int) (A A2 : Option Addr) (n c n2 c2 : Nat) (w : World) (hT : HTab w) (h : key.size = 32) (hs : salt.size ≤ 200) (hn : n ≤ 20) (hn2 : n2 ≤ 60)
    (hS : SlR encS 1 w w.heap.size A n L) (hM : SlR encI 1 w w.heap.size A2 n2 M) (hL : ∀ s ∈ L, s.size ≤ 140737488351232) (hK : K.size = 32)
    (hP : ∀ W, Rounds W → Calls Tryd.prog 24 #[.string key, .string salt] W fun e w' => e = .returned (.tuple #[sesV K 0 0 0, sesV K 1 0 0, .int .i64 0]) ∧ Below W.heap.size W w') :
    Calls Tryd.prog 6 #[.string key, .string salt, .slice A n c, .slice A2 n2 c2] w fun e w' => e = .returned (.bool true) ∧ Below w.heap.size w w' := by
  have t5 : decide (200 < (salt.size : Int)) = false := by simp; omega
  have t6 : decide (20 < (n : Int)) = false := by simp; omega
  have t7 : decide (60 < (n2 : Int)) = false := by simp; omega
  have HP := Lib.hid hP
  have HG : HTab w := hT
  have HK := Lib.hid hK
  have hp1 := HG.out.1.pos
  have hp2 := HG.out.2.pos
  have HLn : Hid (L.length = n) := Lib.hid hS.1
  have HRow : Hid (∀ i, i < n → ∃ b off x, A = some ⟨b, off, none⟩ ∧ L[i]? = some x ∧ x.size ≤ 140737488351232 ∧ ∀ W, Below w.heap.size w W → W.cell? ⟨b, off + i, none⟩ = some (.string x)) := Lib.hid (fun i hi => by
    obtain ⟨b, off, x, h1, h2, h3⟩ := row_at hS hi
    exact ⟨b, off, x, h1, h2, hL x (List.mem_of_getElem? h2), h3⟩)
  have HIn : Hid (∀ i, i < n2 → ∃ b off x, A2 = some ⟨b, off, none⟩ ∧ ∀ W, Below w.heap.size w W → W.cell? ⟨b, off + i, none⟩ = some (.int .i64 x)) := Lib.hid (fun i hi => by
    obtain ⟨b, off, x, h1, h2, h3⟩ := int_at hM hi
    exact ⟨b, off, x, h1, h3⟩)
  clear hP hT hK h hs hS hM hL
  go_enter Tryd.func6, Tryd.ntmps6
  go_wp2_with fail
  refine (HP.out _ (HG.step (by go_grown)).1).mono ?_
  rintro e w1 ⟨rfl, hb1⟩
  unfold sesV
  have hs1 : Below w.heap.size w w1 := Below.trans (by go_grown) (hb1.mono (by first | (simp; done) | (simp; omega)))
  have hz1 := hs1.size
  have HG1 := HG.on hs1
  have HB0 : Hid (SB ((w1.alloc (.cells #[.string K, .int .i64 0, .int .i64 0, .int .i64 0] 41)).alloc (.cells #[.string K, .int .i64 1, .int .i64 0, .int .i64 0] 41)) w1.heap.size K 0 0 0 ∧ SB ((w1.alloc (.cells #[.string K, .int .i64 0, .int .i64 0, .int .i64 0] 41)).alloc (.cells #[.string K, .int .i64 1, .int .i64 0, .int .i64 0] 41)) (w1.heap.size + 1) K 1 0 0) := Lib.hid ⟨Blk.alloc (SB.new rfl K 0 0 0) _, SB.new (by simp) K 1 0 0⟩
  clear hb1 HP
  go_wp2_with fail
  go_loopw [12, 13] (fun fv iv wr => ∃ (i : Nat) (FA : Option Addr) (fc : Nat), i ≤ n ∧ fv = .slice FA i fc ∧ iv = .int .i64 i ∧ Hid (SB wr w1.heap.size K 0 i 0 ∧ SB wr (w1.heap.size + 1) K 1 0 0) ∧ Hid (SRow wr (w1.heap.size + 1 + 1) (.slice FA i fc) (frmL K L i)) ∧ Hid (∀ j x, j < i → L[j]? = some x → x.size ≤ 300) ∧ HTab wr ∧ Below w.heap.size w wr) (fun _ iv _ => n - (intOf iv).toNat)
  case atStart => exact ⟨0, none, 0, by omega, rfl, rfl, HB0, Lib.hid (by rw [frmL_zero]; exact srow_nil _ _), Lib.hid (fun j x hj => absurd hj (by omega)), HG1.on (by go_grown), by go_grown⟩
  case round =>
    clear HB0 HG1 hs1
    obtain ⟨i, FA, fc, hi, rfl, rfl, HB, HR, HSm, HTr, hBr⟩ := hrel
    by_cases hlt : i < n
    · obtain ⟨b, off, x, rfl, hLx, hx, hc⟩ := HRow.out i hlt
      have cx := hc wr hBr
      have hbl : b < wr.heap.size := World.block_lt_of_cell? wr _ cx
      have HLx := Lib.hid hLx
      clear hc hLx
      by_cases hbig : 300 < x.size
      · have t8 : decide (300 < (x.size : Int)) = true := by simp; omega
        clear hbig
        go_wp2_with fail
        refine (slines_any _ (HTr.on (by go_grown))).mono ?_
        rintro e w3 ⟨rfl, hb3⟩
        go_wp2_with fail
        go_ret
        exact ⟨rfl, hBr.trans (hb3.mono hBr.size)⟩
      · have t8 : decide (300 < (x.size : Int)) = false := by simp; omega
        have HSm2 : Hid (∀ j y, j < i + 1 → L[j]? = some y → y.size ≤ 300) := Lib.hid (fun j y hj hy => by
          by_cases e : j = i
          · subst e
            rw [HLx.out] at hy
            injection hy with hy
            subst hy
            omega
          · exact HSm.out j y (by omega) hy)
        have HEq : Hid (frmL K L i ++ [frm K 0 (i + 1) x] = frmL K L (i + 1)) := Lib.hid (frmL_snoc K HLx.out)
        have HTk : Hid ((frmL K L i).length = i) := Lib.hid (frmL_len K (by rw [HLn.out]; omega))
        have hi0 : (0 : Int) ≤ (i : Int) := by omega
        have hi1 : (i : Int) < (n : Int) := by omega
        obtain ⟨m, hm⟩ : ∃ m, i + 1 = m := ⟨_, rfl⟩
        have hmi : (i : Int) + 1 = (m : Int) := by omega
        rw [hm] at HEq HSm2
        have HSE := Lib.hid (fun W hW => send_frm K x 0 i 0 m W hW HK.out (by omega) (by omega) (by omega) (by omega) hm)
        generalize frm K 0 m x = Y at *
        obtain ⟨a0, a1, a2, a3⟩ := HB.out.1.cells
        have hla := Blk.lt HB.out.1
        have hlb := Blk.lt HB.out.2
        have hzr := hBr.size
        clear hbig HSm
        go_upto_region 10 with (fail)
        go_cut [14, 15, 16] from 69 to 78 (fun s13 s14 s15 wx => ∃ g : Nat, s13 = .string Y ∧ s14 = .pointer (some ⟨g, 0, none⟩) ∧ s15 = .int .i64 0 ∧ Hid (SDone wr wx g K 0 m 0))
        case first =>
          have HTA : Hid (Turns wr.drew) := Lib.hid (HTr.step (by go_grown)).2
          have HTB : Hid (Turns (wr.alloc (.cells #[.string ⟨#[]⟩, .int .i64 0, .int .i64 0, .int .i64 0] 41)).drew) := Lib.hid (HTr.step (by go_grown)).2
          go_region_with (first
            | (go_at_call 26; (with_reducible refine Calls.mono (HSE.out wr.drew HTA.out) ?_); rintro e w3 ⟨rfl, hb3⟩; have hS5 := Lib.hid (sdone_after K 0 m 0 hb3))
            | (go_at_call 26; (with_reducible refine Calls.mono (HSE.out (wr.alloc (.cells #[.string ⟨#[]⟩, .int .i64 0, .int .i64 0, .int .i64 0] 41)).drew HTB.out) ?_); rintro e w3 ⟨rfl, hb3⟩; have hb6 := below_alloc_drew hb3; have hk5 := (Blk.new wr 41 #[.string ⟨#[]⟩, .int .i64 0, .int .i64 0, .int .i64 0]).below hb6 (by omega); have k50 := hk5.cells 0 _ rfl; have k51 := hk5.cells 1 _ rfl; have k52 := hk5.cells 2 _ rfl; have k53 := hk5.cells 3 _ rfl; have k5f := hk5.frozen; have k5l := hk5.lt; simp only [List.getElem_toArray, List.getElem_cons_zero, List.getElem_cons_succ] at k50 k51 k52 k53; have hS5 := Lib.hid (sdone_before K 0 m 0 hb6)))
          all_goals go_wp2_with fail
          all_goals go_meet
          all_goals exact ⟨_, rfl, rfl, rfl, hS5⟩
        case rest =>
          obtain ⟨g, rfl, rfl, rfl, HSD⟩ := hcut
          obtain ⟨w5, rfl⟩ : ∃ W : World, W = wc := ⟨wc, rfl⟩
          have hSa : SB w5 w1.heap.size K 0 i 0 := HB.out.1.below HSD.out.2.2 hla
          have hSb : SB w5 (w1.heap.size + 1) K 1 0 0 := HB.out.2.below HSD.out.2.2 hlb
          have hB5 : Below w.heap.size w w5 := hBr.trans (HSD.out.2.2.mono hzr)
          have HT5 := HTr.on HSD.out.2.2
          have hlg := Blk.lt HSD.out.1
          have hgg := HSD.out.2.1
          have hlw := HSD.out.2.2.size
          have HR5 := Lib.hid (orow_below HR.out HSD.out.2.2 (Nat.le_refl _))
          have hgne : ∀ k, (Value.slice FA i fc).ownBlock = some k → k < wr.heap.size := fun k e => (orow_lt HR.out e).2
          have hne5 : some g ≠ (Value.slice FA i fc).ownBlock := fun e => by have := hgne g e.symm; omega
          have HS5 := Lib.hid (And.intro hSa hSb)
          clear hSa hSb HSE HB a0 a1 a2 a3 cx hgne HR
          go_wp2_with (at_builtin; refine wpList_append_str rfl (.tmp 81) (.tmp 83) rfl rfl (orow_alloc HR5.out _) w5.heap.size Y rfl (Blk.new _ _ _) i HTk.out _ HEq.out (by omega) (by simp; omega) ?_; intro A3 c3 w7 HR7 hg7 hb7; have HSA : SB w7 w1.heap.size K 0 i 0 := Blk.below (Blk.alloc HS5.out.1 _) hb7 (by omega); have HSB : SB w7 (w1.heap.size + 1) K 1 0 0 := Blk.below (Blk.alloc HS5.out.2 _) hb7 (by omega); have HSG : SB w7 g K 0 m 0 := Blk.grown (Blk.alloc HSD.out.1 _) hg7 hne5; obtain ⟨g0, g1, g2, g3⟩ := HSG.cells; obtain ⟨s0, s1, s2, s3⟩ := HSA.cells; have sf := Blk.frozen HSA; have hla7 := Blk.lt HSA; have hlg7 := Blk.lt HSG; have H7 := Lib.hid (And.intro HSA (And.intro HSB hb7)); clear HSA HSB HSG hg7 hb7)
          go_roundw
          case rel =>
            refine ⟨m, A3, c3, by omega, by first | rfl | rw [hm], by go_num, Lib.hid ⟨ses_set H7.out.1 _ _ _ _, ses_far H7.out.2.1 (show w1.heap.size + 1 ≠ w1.heap.size by omega) _ _ _ _⟩, Lib.hid (srow_low (by have h := HR7.out; rw [hm] at h; exact h) _ (by omega) _ _ _ _), HSm2, ?_, ?_⟩
            · exact (((HT5.on (Below.alloc (Below.refl _ _) (Nat.le_refl _) _)).low H7.out.2.2 (by omega) (by omega)).low (B := w1.heap.size) (ses_below (Below.refl _ _) (Nat.le_refl _) _ _ _ _) (by omega) (by omega))
            · exact ses_below ((hB5.alloc hB5.size _).trans (H7.out.2.2.mono (by omega))) (by omega) _ _ _ _
          case measure => simp [intOf]; omega
    · obtain rfl : i = n := by omega
      obtain ⟨wo, rfl⟩ : ∃ W : World, W = wr := ⟨wr, rfl⟩
      go_wp2_with fail
      go_loopw [17, 18] (fun lv iv wr => ∃ (k l : Nat) (z : Int), k ≤ n2 ∧ l ≤ i ∧ z + 1 = (l : Int) ∧ lv = .int .i64 z ∧ iv = .int .i64 k ∧ Hid (SB wr w1.heap.size K 0 i 0 ∧ SB wr (w1.heap.size + 1) K 1 0 l) ∧ Hid (SRow wr (w1.heap.size + 1 + 1) (.slice FA i fc) (frmL K L i)) ∧ HTab wr ∧ Below w.heap.size w wr) (fun _ iv _ => n2 - (intOf iv).toNat)
      case atStart => exact ⟨0, 0, -1, by omega, by omega, rfl, rfl, rfl, HB, HR, HTr, hBr⟩
      case round =>
        clear HB HR HTr hBr
        obtain ⟨k, l, z, hk, hl, hz, rfl, rfl, HB, HR, HTr, hBr⟩ := hrel
        by_cases hlt2 : k < n2
        · obtain ⟨b2, off2, y, rfl, hc2⟩ := HIn.out k hlt2
          have cy := hc2 wr hBr
          clear hc2
          by_cases hneg : y < 0
          · have u1 : decide (y < 0) = true := decide_eq_true hneg
            clear hneg
            go_wp2_with fail
            refine (slines_any _ (HTr.on (by go_grown))).mono ?_
            rintro e w3 ⟨rfl, hb3⟩
            go_wp2_with fail
            go_ret
            exact ⟨rfl, hBr.trans (hb3.mono hBr.size)⟩
          · have u1 : decide (y < 0) = false := decide_eq_false hneg
            obtain ⟨j, rfl⟩ : ∃ j : Nat, y = j := ⟨y.toNat, by omega⟩
            by_cases hbig : i ≤ j
            · have u2 : decide ((i : Int) ≤ (j : Int)) = true := by simp; omega
              have u3 : decide (i ≤ j) = true := by simp; omega
              clear hneg hbig
              go_wp2_with fail
              refine (slines_any _ (HTr.on (by go_grown))).mono ?_
              rintro e w3 ⟨rfl, hb3⟩
              go_wp2_with fail
              go_ret
              exact ⟨rfl, hBr.trans (hb3.mono hBr.size)⟩
            · have u2 : decide ((i : Int) ≤ (j : Int)) = false := by simp; omega
              have u3 : decide (i ≤ j) = false := by simp; omega
              have hji : j < i := by omega
              obtain ⟨b, off, x, rfl, hLx, hx, hc⟩ := HRow.out j hji
              have hx3 := HSm.out j x hji hLx
              obtain ⟨b3, off3, Y', rfl, hY, hcY⟩ := row_at (srow_slr HR.out (frmL_len K (by rw [HLn.out]; omega))) hji
              rw [frmL_get K hji hLx] at hY
              injection hY with hY
              subst hY
              have cF := hcY wr (Below.refl _ _)
              have HC := Lib.hid hc
              have hj0 : (0 : Int) ≤ (j : Int) := by omega
              have hj1 : (j : Int) < (i : Int) := by omega
              obtain ⟨m, hm⟩ : ∃ m, j + 1 = m := ⟨_, rfl⟩
              rw [hm] at cF
              have hmj : (j : Int) + 1 = (m : Int) := by omega
              obtain ⟨a0, a1, a2, a3⟩ := HB.out.2.cells
              have hla := Blk.lt HB.out.1
              have hlb := Blk.lt HB.out.2
              have hzr := hBr.size
              have hj3 : b3 < wr.heap.size := World.block_lt_of_cell? wr _ cF
              by_cases hnew : l ≤ j
              · have HSE := Lib.hid (fun W hW => recv_frm K x 1 0 0 l m W hW HK.out rfl (by omega) (by omega) (by omega) (by omega) (by omega))
                have u4 : decide (z < (j : Int)) = true := by simp; omega
                generalize frm K 0 m x = Y at *
                clear hneg hbig hcY hc hLx
                go_upto_region 22 with (fail)
                go_cut [20, 21, 22] from 105 to 114 (fun s13 s14 s15 wx => ∃ g : Nat, s13 = .string x ∧ s14 = .pointer (some ⟨g, 0, none⟩) ∧ s15 = .int .i64 0 ∧ Hid (SDone wr wx g K 1 0 m))
                case first =>
                  have HTA : Hid (Turns wr.drew) := Lib.hid (HTr.step (by go_grown)).2
                  have HTB : Hid (Turns (wr.alloc (.cells #[.string ⟨#[]⟩, .int .i64 0, .int .i64 0, .int .i64 0] 41)).drew) := Lib.hid (HTr.step (by go_grown)).2
                  go_region_with (first
                    | (go_at_call 27; (with_reducible refine Calls.mono (HSE.out wr.drew HTA.out) ?_); rintro e w3 ⟨rfl, hb3⟩; have hS5 := Lib.hid (sdone_after K 1 0 m hb3))
                    | (go_at_call 27; (with_reducible refine Calls.mono (HSE.out (wr.alloc (.cells #[.string ⟨#[]⟩, .int .i64 0, .int .i64 0, .int .i64 0] 41)).drew HTB.out) ?_); rintro e w3 ⟨rfl, hb3⟩; have hb6 := below_alloc_drew hb3; have hk5 := (Blk.new wr 41 #[.string ⟨#[]⟩, .int .i64 0, .int .i64 0, .int .i64 0]).below hb6 (by omega); have k50 := hk5.cells 0 _ rfl; have k51 := hk5.cells 1 _ rfl; have k52 := hk5.cells 2 _ rfl; have k53 := hk5.cells 3 _ rfl; have k5f := hk5.frozen; have k5l := hk5.lt; simp only [List.getElem_toArray, List.getElem_cons_zero, List.getElem_cons_succ] at k50 k51 k52 k53; have hS5 := Lib.hid (sdone_before K 1 0 m hb6)))
                  all_goals go_wp2_with fail
                  all_goals go_meet
                  all_goals exact ⟨_, rfl, rfl, rfl, hS5⟩
                case rest =>
                  obtain ⟨g, rfl, rfl, rfl, HSD⟩ := hcut
                  obtain ⟨w5, rfl⟩ : ∃ W : World, W = wc := ⟨wc, rfl⟩
                  have hSa : SB w5 w1.heap.size K 0 i 0 := HB.out.1.below HSD.out.2.2 hla
                  have hSb : SB w5 (w1.heap.size + 1) K 1 0 l := HB.out.2.below HSD.out.2.2 hlb
                  have hB5 : Below w.heap.size w w5 := hBr.trans (HSD.out.2.2.mono hzr)
                  have HT5 := HTr.on HSD.out.2.2
                  have hlg := Blk.lt HSD.out.1
                  have hgg := HSD.out.2.1
                  have hlw := HSD.out.2.2.size
                  have HR5 := Lib.hid (orow_below HR.out HSD.out.2.2 (Nat.le_refl _))
                  have HS5 := Lib.hid (And.intro hSa hSb)
                  have cx5 := HC.out w5 hB5
                  obtain ⟨g0, g1, g2, g3⟩ := HSD.out.1.cells
                  obtain ⟨s0, s1, s2, s3⟩ := hSb.cells
                  have sf := Blk.frozen hSb
                  have hlb5 := Blk.lt hSb
                  clear hSa hSb HSE HB a0 a1 a2 a3 cF HR HSD
                  go_wp2_with fail
                  go_roundw
                  case rel =>
                    exact ⟨k + 1, m, (j : Int), by omega, by omega, hmj, rfl, by go_num, Lib.hid ⟨ses_far HS5.out.1 (show w1.heap.size ≠ w1.heap.size + 1 by omega) _ _ _ _, ses_set HS5.out.2 _ _ _ _⟩, Lib.hid (srow_low HR5.out _ (by omega) _ _ _ _),
                      HT5.low (B := w1.heap.size + 1) (ses_below (Below.refl _ _) (Nat.le_refl _) _ _ _ _) (by omega) (by omega), ses_below hB5 (by omega) _ _ _ _⟩
                  case measure => simp [intOf]; omega
              · have HSE := Lib.hid (fun W => recv_old K x 1 0 0 l m W HK.out (by omega) (by omega) (by omega) (by omega) (by omega) (by omega))
                have u4 : decide (z < (j : Int)) = false := by simp; omega
                generalize frm K 0 m x = Y at *
                clear hneg hbig hcY hc hLx
                go_upto_region 22 with (fail)
                go_cut [20, 21, 22] from 105 to 114 (fun s13 s14 s15 wx => ∃ g : Nat, s13 = .string ⟨#[]⟩ ∧ s14 = .pointer (some ⟨g, 0, none⟩) ∧ s15 = .int .i64 200 ∧ Hid (SDone wr wx g ⟨#[]⟩ 0 0 0))
                case first =>
                  have HTA : Hid (Turns wr.drew) := Lib.hid (HTr.step (by go_grown)).2
                  have HTB : Hid (Turns (wr.alloc (.cells #[.string ⟨#[]⟩, .int .i64 0, .int .i64 0, .int .i64 0] 41)).drew) := Lib.hid (HTr.step (by go_grown)).2
                  go_region_with (first
                    | (go_at_call 27; (with_reducible refine Calls.mono (HSE.out wr.drew) ?_); rintro e w3 ⟨rfl, hb3⟩; have hS5 := Lib.hid (sdone_after ⟨#[]⟩ 0 0 0 hb3))
                    | (go_at_call 27; (with_reducible refine Calls.mono (HSE.out (wr.alloc (.cells #[.string ⟨#[]⟩, .int .i64 0, .int .i64 0, .int .i64 0] 41)).drew) ?_); rintro e w3 ⟨rfl, hb3⟩; have hb6 := below_alloc_drew hb3; have hk5 := (Blk.new wr 41 #[.string ⟨#[]⟩, .int .i64 0, .int .i64 0, .int .i64 0]).below hb6 (by omega); have k50 := hk5.cells 0 _ rfl; have k51 := hk5.cells 1 _ rfl; have k52 := hk5.cells 2 _ rfl; have k53 := hk5.cells 3 _ rfl; have k5f := hk5.frozen; have k5l := hk5.lt; simp only [List.getElem_toArray, List.getElem_cons_zero, List.getElem_cons_succ] at k50 k51 k52 k53; have hS5 := Lib.hid (sdone_before ⟨#[]⟩ 0 0 0 hb6)))
                  all_goals go_wp2_with fail
                  all_goals go_meet
                  all_goals exact ⟨_, rfl, rfl, rfl, hS5⟩
                case rest =>
                  obtain ⟨g, rfl, rfl, rfl, HSD⟩ := hcut
                  obtain ⟨w5, rfl⟩ : ∃ W : World, W = wc := ⟨wc, rfl⟩
                  have hSa : SB w5 w1.heap.size K 0 i 0 := HB.out.1.below HSD.out.2.2 hla
                  have hSb : SB w5 (w1.heap.size + 1) K 1 0 l := HB.out.2.below HSD.out.2.2 hlb
                  have hB5 : Below w.heap.size w w5 := hBr.trans (HSD.out.2.2.mono hzr)
                  have HT5 := HTr.on HSD.out.2.2
                  have hlg := Blk.lt HSD.out.1
                  have hgg := HSD.out.2.1
                  have hlw := HSD.out.2.2.size
                  have HR5 := Lib.hid (orow_below HR.out HSD.out.2.2 (Nat.le_refl _))
                  have HS5 := Lib.hid (And.intro hSa hSb)
                  clear hSa hSb HSE HB a0 a1 a2 a3 cF HR
                  go_wp2_with fail
                  go_roundw
                  case rel => exact ⟨k + 1, l, z, by omega, by omega, hz, rfl, by go_num, HS5, HR5, HT5, hB5⟩
                  case measure => simp [intOf]; omega
        · obtain rfl : k = n2 := by omega
          go_wp2_with fail
          refine (slines_any _ (HTr.on (by go_grown))).mono ?_
          rintro e w3 ⟨rfl, hb3⟩
          have hb4 : Below wr.heap.size wr w3 := hb3
          obtain ⟨a0, a1, a2, a3⟩ := (HB.out.1.on hb4).cells
          obtain ⟨b0, b1, b2, b3⟩ := (HB.out.2.on hb4).cells
          have e1 : ((l : Int) == z + 1) = true := by simp [hz]
          have e2 : ((i : Int) == (i : Int)) = true := by simp
          go_wp2_with fail
          go_ret
          exact ⟨rfl, hBr.trans (hb4.mono hBr.size)⟩
theorem sonce_all (key salt : ByteArray) (L : List ByteArray) (M : List Int) (A A2 : Option Addr) (n c n2 c2 : Nat) (w : World) (hT : HTab w) (hS : SlR encS 1 w w.heap.size A n L) (hM : SlR encI 1 w w.heap.size A2 n2 M) (hL : ∀ s ∈ L, s.size ≤ 140737488351232) (hs : salt.size ≤ 140737488351232) :
    Calls Tryd.prog 6 #[.string key, .string salt, .slice A n c, .slice A2 n2 c2] w fun e w' => e = .returned (.bool true) ∧ Below w.heap.size w w' := by
  by_cases h : key.size = 32
  · obtain ⟨K, hK, _, hD⟩ := derive_some key salt (by omega) hs
    have hP := fun W hW => pair_good key salt K W h hW hD
    by_cases h1 : 200 < salt.size
    · exact sonce_big key salt K A n c A2 n2 c2 w hT h (.inl (by simp; omega)) hP
    · by_cases h2 : 20 < n
      · exact sonce_big key salt K A n c A2 n2 c2 w hT h (.inr (.inl ⟨by simp; omega, by simp; omega⟩)) hP
      · by_cases h3 : 60 < n2
        · exact sonce_big key salt K A n c A2 n2 c2 w hT h (.inr (.inr ⟨by simp; omega, by simp; omega, by simp; omega⟩)) hP
        · exact sonce_main key salt K L M A A2 n c n2 c2 w hT h (by omega) (by omega) (by omega) hS hM hL hK hP
  · exact sonce_bad key salt A n c A2 n2 c2 w hT h
end Go.Proofs.YtbgohcedakpnbaaDoor
