/- chapter 13, PlatterTwice: the walk. -/
import Derived.Test.YtefodifmfjpnlaaPlatQ
import Derived.Test.YtefodifmfjpnlaaPlatterNew
set_option linter.unusedVariables false
namespace Go.Proofs.Ytefodifmfjpnlaa
open Go.RowKit
set_option maxHeartbeats 1000000 in
theorem twice_walk (p : Plat) (F : List Int) (A A' AF : Option Addr) (n m c d nF cF : Nat) (w : World) (HP : PlatPre w A n A' m p) (HS : Hid (∀ W, Below w.heap.size w W → SlR encI 1 W W.heap.size AF nF F)) (hnF : nF ≤ 140737488355328) (HF : Hid (∀ x ∈ F, x ≤ 9223372036854775807)) :
    Calls Try.prog 6 #[.agg #[.slice A n c, .slice A' m d], .slice AF nF cF] w fun e w' => e = .returned (.bool true) ∧ Below w.heap.size w w' := by
  by_cases hf : farB p ByteArray.empty nF = true
  · go_enter Try.func6, Try.ntmps6
    go_wp2_with fail
    refine (far_any p ByteArray.empty AF nF cF A A' n m c d _ (HP.step (by go_grown))).mono ?_
    rintro e w1 ⟨rfl, hb1⟩
    rw [hf]
    have hB1 : Below w.heap.size w w1 := Below.trans (by go_grown) (hb1.mono (by simp))
    clear hb1
    go_wp2_with fail
    refine (spins_any _).mono ?_
    rintro e w2 ⟨rfl, hb2⟩
    go_wp2_with fail
    go_ret
    exact ⟨rfl, hB1.trans (hb2.mono hB1.size)⟩
  have hf' : farB p ByteArray.empty nF = false := by simpa using hf
  clear hf
  by_cases hc : checkP p = true
  · obtain ⟨q1, q2, q3, q4, q5, q6, q7⟩ := twice_plain hc F
    have HR := Lib.hid q5
    have HA := Lib.hid q2
    generalize hsy : syncF p = SR at *
    have HSY := Lib.hid hsy
    clear hsy
    obtain ⟨a, es⟩ := SR
    have hcl := ((checkP_iff p).1 hc).2
    have HC := Lib.hid hc
    obtain ⟨hc2, _⟩ := hcl
    have hn := (HP.step (Below.refl _ _)).1.1
    have hn2 : n ≤ 200 := by omega
    have HN := Lib.hid hn
    dsimp only at q1 q3 q4 q6 q7
    have HQ := Lib.hid (And.intro q3 (And.intro q4 (And.intro q6 q7)))
    subst q1
    clear q2 q3 q4 q5 q6 q7 hc hc2 hn
    go_enter Try.func6, Try.ntmps6
    go_wp2_with fail
    refine (far_any p ByteArray.empty AF nF cF A A' n m c d _ (HP.step (by go_grown))).mono ?_
    rintro e w1 ⟨rfl, hb1⟩
    rw [hf']
    have hX := (Blk.new w _ _).below hb1 (by simp)
    have hB1 : Below w.heap.size w w1 := Below.trans (by go_grown) (hb1.mono (by simp))
    have HP1 := HP.on hB1
    have hz1 := hb1.size
    simp only [World.size_alloc] at hz1
    have x0 := hX.cells 0 _ rfl
    have x1 := hX.cells 1 _ rfl
    have hxl := hX.lt
    simp only [List.getElem_toArray, List.getElem_cons_zero, List.getElem_cons_succ] at x0 x1
    clear hb1
    go_wp2_with fail
    refine (checkP_any p A A' n m c d _ (HP1.step (by go_grown))).mono ?_
    rintro e w2 ⟨rfl, hb2⟩
    rw [HC.out]
    have hX2 := hX.below hb2 hX.lt
    have hB2 : Below w.heap.size w w2 := hB1.trans (hb2.mono hB1.size)
    have HP2 := HP1.on hb2
    have hz2 := hb2.size
    clear hb2 hB1 HP1 x0 x1 hxl hX
    have x0 := hX2.cells 0 _ rfl
    have x1 := hX2.cells 1 _ rfl
    have hxl := hX2.lt
    simp only [List.getElem_toArray, List.getElem_cons_zero, List.getElem_cons_succ] at x0 x1
    go_wp2_with fail
    refine (sync_any p A A' n m c d _ (HP2.step (by go_grown))).mono ?_
    rintro e w3 ⟨v, rfl, hO3, hb3⟩
    rw [HSY.out] at hO3 ⊢
    obtain ⟨A3, c3, A3', c3', rfl, HP3⟩ := hO3.at_
    have hX3 := hX2.below hb3 hX2.lt
    have hB3 : Below w.heap.size w w3 := hB2.trans (hb3.mono hB2.size)
    have HP23 := HP2.on hb3
    have hz3 := hb3.size
    have hla : a.sectors.length = n := by rw [HQ.out.2.2.1, HN.out]
    have hka : a.cache.length = 0 := by rw [HQ.out.2.2.2]; rfl
    rw [hla, hka] at HP3
    simp only [hla, hka]
    clear hb3 hO3 hB2 HP2 hX2 x0 x1 hxl hla hka
    go_wp2_with fail
    refine (sync_any a A3 A3' n 0 c3 c3' _ (HP3.step (by go_grown))).mono ?_
    rintro e w4 ⟨v, rfl, hO4, hb4⟩
    rw [HQ.out.1] at hO4 ⊢
    obtain ⟨A4, c4, A4', c4', rfl, HP4⟩ := hO4.at_
    have hX4 := (hX3.alloc _).below hb4 (by have := hX3.lt; simp; omega)
    have hY4 := (Blk.new w3 _ _).below hb4 (by simp)
    have hB4 : Below w.heap.size w w4 := Below.trans (by go_grown; all_goals (have := hB3.size; omega)) (hb4.mono (by have := hB3.size; simp; omega))
    have HP14 := HP23.on (Below.trans (by go_grown) (hb4.mono (by simp)))
    have HP34 := HP3.on (Below.trans (by go_grown) (hb4.mono (by simp)))
    have hz4 := hb4.size
    simp only [World.size_alloc] at hz4
    have y0 := hY4.cells 0 _ rfl
    have y1 := hY4.cells 1 _ rfl
    have hyl := hY4.lt
    simp only [List.getElem_toArray, List.getElem_cons_zero, List.getElem_cons_succ] at y0 y1
    have hla : a.sectors.length = n := by rw [HQ.out.2.2.1, HN.out]
    have hka : a.cache.length = 0 := by rw [HQ.out.2.2.2]; rfl
    rw [hla, hka] at HP4
    simp only [hla, hka]
    clear hO4 hb4 hB3 HP23 HP3 hX3 hla hka
    go_wp2_with fail
    refine (crash_any a F AF nF cF A3 A3' n 0 c3 c3' _ (HP34.step (by go_grown)) (HS.out _ (by go_grown; all_goals (have := hB4.size; omega))) hnF HF.out).mono ?_
    rintro e w5 ⟨v, rfl, hO5, hb5⟩
    rw [HQ.out.2.1] at hO5 ⊢
    obtain ⟨A5, c5, A5', c5', rfl, HP5⟩ := hO5.at_
    have hX5 := (hX4.alloc _).below hb5 (by have := hX4.lt; simp; omega)
    have hY5 := (hY4.alloc _).below hb5 (by have := hY4.lt; simp; omega)
    have hZ5 := (Blk.new w4 _ _).below hb5 (by simp)
    have hB5 : Below w.heap.size w w5 := Below.trans (by go_grown; all_goals (have := hB4.size; omega)) (hb5.mono (by have := hB4.size; simp; omega))
    have HP15 := HP14.on (Below.trans (by go_grown) (hb5.mono (by simp)))
    have HP35 := HP34.on (Below.trans (by go_grown) (hb5.mono (by simp)))
    have HP45 := HP4.on (Below.trans (by go_grown) (hb5.mono (by simp)))
    have hz5 := hb5.size
    simp only [World.size_alloc] at hz5
    have hla : a.sectors.length = n := by rw [HQ.out.2.2.1, HN.out]
    have hka : a.cache.length = 0 := by rw [HQ.out.2.2.2]; rfl
    rw [hla, hka] at HP5
    simp only [hla, hka]
    clear hO5 hb5 hB4 HP14 HP34 HP4 hX4 hY4 y0 y1 hyl hla hka
    go_wp2_with fail
    go_loopw [11] (fun i wr => ∃ k : Nat, k ≤ n ∧ i = .int .i64 k ∧ Below w5.heap.size w5 wr ∧ Blk wr w5.heap.size 25 #[.slice A5 n c5, .slice A5' 0 c5']) (fun i _ => n - (intOf i).toNat)
    case atStart => exact ⟨0, Nat.zero_le _, rfl, by go_grown, Blk.new _ _ _⟩
    case round =>
      obtain ⟨k, hk, rfl, hBr, hW⟩ := hrel
      have hX := hX5.below hBr hX5.lt
      have hY := hY5.below hBr hY5.lt
      have hZ := hZ5.below hBr hZ5.lt
      have HP1 := HP15.on hBr
      have HP3 := HP35.on hBr
      have HP4 := HP45.on hBr
      have HP5' := HP5.on hBr
      have hB := hB5.trans (hBr.mono hB5.size)
      have hzr := hBr.size
      have x0 := hX.cells 0 _ rfl
      have x1 := hX.cells 1 _ rfl
      have hxl := hX.lt
      have y0 := hY.cells 0 _ rfl
      have y1 := hY.cells 1 _ rfl
      have hyl := hY.lt
      simp only [List.getElem_toArray, List.getElem_cons_zero, List.getElem_cons_succ] at x0 x1 y0 y1
      by_cases hlt : k < n
      · have hR1 : (readF p (k : Int)).2 = 0 := read_in HC.out (by rw [HN.out]; exact hlt)
        have HRk := HR.out (k : Int)
        go_wp2_with fail
        refine (read_any p k A A' n m c d _ (HP1.step (by go_grown))).mono ?_
        rintro e w6 ⟨rfl, hb6⟩
        have hY6 := hY.below hb6 hY.lt
        have hW6 := hW.below hb6 hW.lt
        have hB6 : Below w5.heap.size w5 w6 := hBr.trans (hb6.mono hBr.size)
        have HP36 := HP3.on hb6
        have hz6 := hb6.size
        have y0 := hY6.cells 0 _ rfl
        have y1 := hY6.cells 1 _ rfl
        have hyl := hY6.lt
        simp only [List.getElem_toArray, List.getElem_cons_zero, List.getElem_cons_succ] at y0 y1
        clear hb6 hBr hB HP1 HP3 HP4 HP5' hX hY hZ hW x0 x1 hxl
        go_wp2_with fail
        refine (read_any a k A3 A3' n 0 c3 c3' _ (HP36.step (by go_grown))).mono ?_
        rintro e w7 ⟨rfl, hb7⟩
        rw [HRk]
        generalize readF p (k : Int) = R at hR1 HRk ⊢
        obtain ⟨t, et⟩ := R
        dsimp only at hR1 ⊢
        subst hR1
        have hW7 := hW6.below hb7 hW6.lt
        have hB7 : Below w5.heap.size w5 w7 := hB6.trans (hb7.mono hB6.size)
        clear hb7 hB6 hY6 hW6 y0 y1 hyl HRk HP36
        go_wp2_with fail
        go_round
        case rel => exact ⟨k + 1, by omega, by go_num, hB7, hW7⟩
        case measure => simp [intOf]; omega
      · obtain rfl : k = n := by omega
        go_wp2_with fail
        refine (spins_any _).mono ?_
        rintro e w6 ⟨rfl, hb6⟩
        have hY6 := hY.below hb6 hY.lt
        have hZ6 := hZ.below hb6 hZ.lt
        have hW6 := hW.below hb6 hW.lt
        have hB6 : Below w.heap.size w w6 := hB.trans (hb6.mono hB.size)
        have HP36 := HP3.on hb6
        have HP46 := HP4.on hb6
        have HP56 := HP5'.on hb6
        have hz6 := hb6.size
        have y0 := hY6.cells 0 _ rfl
        have y1 := hY6.cells 1 _ rfl
        have hyl := hY6.lt
        have z0 := hZ6.cells 0 _ rfl
        have z1 := hZ6.cells 1 _ rfl
        have hzl := hZ6.lt
        simp only [List.getElem_toArray, List.getElem_cons_zero, List.getElem_cons_succ] at y0 y1 z0 z1
        clear hb6 hBr hB HP1 HP3 HP4 HP5' hX hY hZ hW x0 x1 hxl
        go_wp2_with fail
        refine (same_any a a A3 A3' A4 A4' k 0 c3 c3' k 0 c4 c4' _ (HP36.step (by go_grown)) (HP46.step (by go_grown)) (by omega) (by omega)).mono ?_
        rintro e w7 ⟨rfl, hb7⟩
        rw [samePl_refl]
        have hY7 := hY6.below hb7 hY6.lt
        have hW7 := hW6.below hb7 hW6.lt
        have hB7 : Below w.heap.size w w7 := hB6.trans (hb7.mono hB6.size)
        have HP37 := HP36.on hb7
        have HP57 := HP56.on hb7
        have hz7 := hb7.size
        have y0 := hY7.cells 0 _ rfl
        have y1 := hY7.cells 1 _ rfl
        have hyl := hY7.lt
        have z0 := hW7.cells 0 _ rfl
        have z1 := hW7.cells 1 _ rfl
        have hzl := hW7.lt
        simp only [List.getElem_toArray, List.getElem_cons_zero, List.getElem_cons_succ] at y0 y1 z0 z1
        clear hb7 hB6 HP36 HP46 HP56 hY6 hZ6 hW6
        go_wp2_with fail
        refine (same_any a a A3 A3' A5 A5' k 0 c3 c3' k 0 c5 c5' _ (HP37.step (by go_grown)) (HP57.step (by go_grown)) (by omega) (by omega)).mono ?_
        rintro e w8 ⟨rfl, hb8⟩
        rw [samePl_refl]
        have hY8 := hY7.below hb8 hY7.lt
        have hB8 : Below w.heap.size w w8 := hB7.trans (hb8.mono hB7.size)
        have HP38 := HP37.on hb8
        have y0 := hY8.cells 0 _ rfl
        have y1 := hY8.cells 1 _ rfl
        have hyl := hY8.lt
        simp only [List.getElem_toArray, List.getElem_cons_zero, List.getElem_cons_succ] at y0 y1
        clear hb8 hB7 HP37 HP57 hY7 hW7 z0 z1 hzl
        go_wp2_with fail
        refine (checkP_any a A3 A3' k 0 c3 c3' _ (HP38.step (by go_grown))).mono ?_
        rintro e w9 ⟨rfl, hb9⟩
        rw [HA.out]
        go_wp2_with fail
        go_ret
        exact ⟨rfl, hB8.trans (hb9.mono hB8.size)⟩
  have hc' : checkP p = false := by simpa using hc
  clear hc
  go_enter Try.func6, Try.ntmps6
  go_wp2_with fail
  refine (far_any p ByteArray.empty AF nF cF A A' n m c d _ (HP.step (by go_grown))).mono ?_
  rintro e w1 ⟨rfl, hb1⟩
  rw [hf']
  have hX := (Blk.new w _ _).below hb1 (by simp)
  have hB1 : Below w.heap.size w w1 := Below.trans (by go_grown) (hb1.mono (by simp))
  have HP1 := HP.on hB1
  have hz1 := hb1.size
  simp only [World.size_alloc] at hz1
  have x0 := hX.cells 0 _ rfl
  have x1 := hX.cells 1 _ rfl
  have hxl := hX.lt
  simp only [List.getElem_toArray, List.getElem_cons_zero, List.getElem_cons_succ] at x0 x1
  clear hb1 hX
  go_wp2_with fail
  refine (checkP_any p A A' n m c d _ (HP1.step (by go_grown))).mono ?_
  rintro e w2 ⟨rfl, hb2⟩
  rw [hc']
  have hB2 : Below w.heap.size w w2 := hB1.trans (hb2.mono hB1.size)
  clear hb2 x0 x1 hxl
  go_wp2_with fail
  refine (spins_any _).mono ?_
  rintro e w3 ⟨rfl, hb3⟩
  go_wp2_with fail
  go_ret
  exact ⟨rfl, hB2.trans (hb3.mono hB2.size)⟩
theorem twice_law (p : Plat) (F : List Int) (A A' AF : Option Addr) (c d nF cF : Nat) (w : World) {R : Prop} (h : PlatPre w A p.sectors.length A' p.cache.length p ∧ R) (hS : SlR encI 1 w w.heap.size AF nF F) (hnF : nF ≤ 140737488351232) (hF : ∀ x ∈ F, x ≤ 9223372036854775807) :
    Calls Try.prog 6 #[.agg #[.slice A p.sectors.length c, .slice A' p.cache.length d], .slice AF nF cF] w fun e w' => e = .returned (.bool true) ∧ Below w.heap.size w w' :=
  twice_walk p F A A' AF _ _ c d nF cF w h.1 (fun W hb => (hS.below hb).more hb.size) (by omega) hF
end Go.Proofs.Ytefodifmfjpnlaa
