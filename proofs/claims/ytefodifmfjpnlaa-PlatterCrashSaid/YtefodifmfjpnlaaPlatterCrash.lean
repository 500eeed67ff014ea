/- chapter 13, PlatterCrash: the walk. -/
import Derived.Test.YtefodifmfjpnlaaPlatR
import Derived.Test.YtefodifmfjpnlaaPlatterNew
set_option linter.unusedVariables false
namespace Go.Proofs.Ytefodifmfjpnlaa
open Go.RowKit
theorem bool_info : (Try.prog.info? 4).map (fun i => (i.zero, i.size, i.bytes)) = some (some (.bool false), 1, 1) := by kernel_rfl
theorem int_info : (Try.prog.info? 3).map (fun i => (i.zero, i.size, i.bytes)) = some (some (.int .i64 0), 1, 8) := by kernel_rfl
def vI (n : Int) : Value := .int .i64 n
set_option maxHeartbeats 1000000 in
set_option maxRecDepth 100000 in
theorem crash_walk (p : Plat) (F : List Int) (A A' AF : Option Addr) (n m c d nF cF : Nat) (w : World) (HP : PlatPre w A n A' m p) (HS : Hid (∀ W, Below w.heap.size w W → SlR encI 1 W W.heap.size AF nF F)) (hnF : nF ≤ 140737488355328) (HF : Hid (∀ x ∈ F, x ≤ 9223372036854775807)) :
    Calls Try.prog 5 #[.agg #[.slice A n c, .slice A' m d], .slice AF nF cF] w fun e w' => e = .returned (.bool true) ∧ Below w.heap.size w w' := by
  by_cases hf : farB p ByteArray.empty nF = true
  · go_enter Try.func5, Try.ntmps5
    go_wp2_with fail
    refine (far_any p ByteArray.empty AF nF cF A A' n m c d _ (HP.step (by go_grown))).mono ?_
    rintro e w1 ⟨rfl, hb1⟩
    rw [hf]
    have hB1 : Below w.heap.size w w1 := Below.trans (by go_grown) (hb1.mono (by simp))
    clear hb1
    go_wp2_with fail
    refine (spins_any _).mono ?_
    rintro e w2 ⟨rfl, hb2⟩
    go_wp2_with fail
    go_ret
    exact ⟨rfl, hB1.trans (hb2.mono hB1.size)⟩
  have hf' : farB p ByteArray.empty nF = false := by simpa using hf
  clear hf
  by_cases hc : checkP p = true
  · have hn := (HP.step (Below.refl _ _)).1.1
    have hm := (HP.step (Below.refl _ _)).2.1
    obtain ⟨hn1, hn2, hc2, _, hcx⟩ := (checkP_iff p).1 hc
    have HCX := Lib.hid hcx
    have HC := Lib.hid hc
    have HN := Lib.hid (And.intro hn hm)
    rw [hn] at hn2
    rw [hm] at hc2
    have hmkb := fun W => run_mkrow (P := Try.prog) 40 4 (.bool false) 1 Try.underlying40 bool_info rfl n (by omega) (by omega) W
    have hmki := fun W => run_mkrow (P := Try.prog) 38 3 (.int .i64 0) 8 Try.underlying38 int_info rfl m (by omega) (by omega) W
    clear hc hn hm hn1 hcx
    go_enter Try.func5, Try.ntmps5
    go_wp2_with fail
    refine (far_any p ByteArray.empty AF nF cF A A' n m c d _ (HP.step (by go_grown))).mono ?_
    rintro e w1 ⟨rfl, hb1⟩
    rw [hf']
    have hX := (Blk.new w _ _).below hb1 (by simp)
    have hB1 : Below w.heap.size w w1 := Below.trans (by go_grown) (hb1.mono (by simp))
    have HP1 := HP.on hB1
    have hz1 := hb1.size
    simp only [World.size_alloc] at hz1
    have x0 := hX.cells 0 _ rfl
    have x1 := hX.cells 1 _ rfl
    have hxl := hX.lt
    simp only [List.getElem_toArray, List.getElem_cons_zero, List.getElem_cons_succ] at x0 x1
    clear hb1
    go_wp2_with fail
    refine (checkP_any p A A' n m c d _ (HP1.step (by go_grown))).mono ?_
    rintro e w2 ⟨rfl, hb2⟩
    rw [HC.out]
    have hX2 := hX.below hb2 hX.lt
    have hB2 : Below w.heap.size w w2 := hB1.trans (hb2.mono hB1.size)
    have HP2 := HP1.on hb2
    have hz2 := hb2.size
    clear hb2 hB1 HP1 x0 x1 hxl hX
    have x0 := hX2.cells 0 _ rfl
    have x1 := hX2.cells 1 _ rfl
    have hxl := hX2.lt
    simp only [List.getElem_toArray, List.getElem_cons_zero, List.getElem_cons_succ] at x0 x1
    go_wp2_with fail
    clear hmkb hmki x0 x1
    have hT0 : Row (fun b => Value.bool b) ((w2.alloc (.cells (List.replicate n (Value.bool false)).toArray 4)).alloc (.cells (List.replicate m (Value.int .i64 0)).toArray 3)) w2.heap.size 4 (List.replicate n false) := Row.alloc (Row.new w2 _ n false) _
    have hO0 : Row vI ((w2.alloc (.cells (List.replicate n (Value.bool false)).toArray 4)).alloc (.cells (List.replicate m (Value.int .i64 0)).toArray 3)) (w2.heap.size + 1) 3 (List.replicate m (0 : Int)) := by
      have := Row.new (f := vI) (w2.alloc (.cells (List.replicate n (Value.bool false)).toArray 4)) 3 m 0
      simpa [vI] using this
    go_loopw [7] (fun i wr => ∃ (k : Nat) (T : List Bool), k ≤ m ∧ i = .int .i64 k ∧ Below w2.heap.size w2 wr ∧ Hid (TouchOk p k T) ∧ Row (fun b => Value.bool b) wr w2.heap.size 4 T ∧ Row vI wr (w2.heap.size + 1) 3 (List.replicate k 1 ++ List.replicate (m - k) 0)) (fun i _ => m - (intOf i).toNat)
    case atStart => exact ⟨0, List.replicate n false, Nat.zero_le _, rfl, by go_grown, by rw [← HN.out.1]; exact TouchOk.zero p, hT0, by simpa using hO0⟩
    case round =>
      obtain ⟨k, T, hk, rfl, hBr, HT, hT, hO⟩ := hrel
      have hX := hX2.below hBr hX2.lt
      have HPr := HP2.on hBr
      have hzr := hBr.size
      have hol := hO.lt
      have x0 := hX.cells 0 _ rfl
      have x1 := hX.cells 1 _ rfl
      simp only [List.getElem_toArray, List.getElem_cons_zero, List.getElem_cons_succ] at x0 x1
      by_cases hlt : k < m
      · obtain ⟨x, hx⟩ : ∃ x, p.cache[k]? = some x := ⟨p.cache[k]'(by rw [HN.out.2]; exact hlt), List.getElem?_eq_getElem _⟩
        have hpx := HCX.out x (List.mem_of_getElem? hx)
        simp only [putB, hasB, Bool.and_eq_true, decide_eq_true_eq] at hpx
        obtain ⟨j, hj⟩ := Int.eq_ofNat_of_zero_le hpx.2.1
        have hjn : j < n := by have := hpx.2.2; rw [HN.out.1] at this; omega
        rcases (HPr.step (Below.refl _ _)).2.2 with h0 | ⟨b, off, rfl, hb, hC⟩
        · omega
        obtain ⟨c0, _⟩ := hC.put hx
        rw [hj] at c0
        have HX := Lib.hid (And.intro hx hj)
        have t0 := hT.get (k := j) (List.getElem?_eq_getElem (by rw [HT.out.1, HN.out.1]; exact hjn))
        have o0 := hO.get (k := k) (List.getElem?_eq_getElem (by simp; omega))
        simp only [vI] at o0
        generalize T[j]'_ = tj at t0
        generalize (List.replicate k (1 : Int) ++ List.replicate (m - k) 0)[k]'_ = ok at o0
        have ft := hT.free j
        have fo := hO.free k
        clear hx hj hpx hC hX
        have HR := Lib.hid (And.intro hT hO)
        have HBr := Lib.hid hBr
        clear hT hO hBr
        go_wp2
        go_roundw
        case rel =>
          refine ⟨k + 1, T.set j true, by omega, by go_num, ?_, TouchOk.succ HT.out HX.out.1 HX.out.2 (by rw [HN.out.1]; exact hjn), ?_, ?_⟩
          · have := HBr.out
            go_grown
          · exact (HR.out.1.set_ j true).far (by simp) _
          · rw [← ones_set k m hlt]
            exact (HR.out.2.far (p := ⟨w2.heap.size, j, none⟩) (by simp) _).set_ k 1
        case measure => simp [intOf]; omega
      · obtain rfl : k = m := by omega
        have hB := hB2.trans (hBr.mono hB2.size)
        have HOS : Hid (∀ W, Below wr.heap.size wr W → SlR encI 1 W W.heap.size (some ⟨w2.heap.size + 1, 0, none⟩) k (List.replicate k 1)) := by
          intro W hb
          have h := hO.below hb hO.lt
          have := h.slr (B := W.heap.size) (by have := h.lt; omega)
          simp only [Nat.sub_self, List.replicate_zero, List.append_nil, List.length_replicate] at this
          exact this
        obtain ⟨ca, cl, cc, _, cu⟩ := crash_ok HC.out F
        have HCU := Lib.hid cu
        have HC1 := Lib.hid (crash_ones p k HN.out.2)
        have HCN := Lib.hid (crash_nil HC.out)
        obtain ⟨sa, sc, sl, _, _⟩ := sync_ok HC.out
        rw [HN.out.1] at cl sl
        generalize hcr : crashF p F = CR at ca cl cc HCU
        generalize hsr : syncF p = SR at sa sc sl HC1
        obtain ⟨a, ea⟩ := CR
        obtain ⟨s, es⟩ := SR
        dsimp only at ca cl cc sa sc sl HCU
        subst ca; subst sa
        have HCR := Lib.hid hcr
        have HSR := Lib.hid hsr
        have HL := Lib.hid (And.intro cl (And.intro cc (And.intro sl sc)))
        clear hcr hsr cl cc sl sc cu hO hBr hB2 HP2 hX2 hT0 hO0 hlt
        go_wp2_with fail
        refine (crash_any p F AF nF cF A A' n k c d _ (HPr.step (by go_grown)) (HS.out _ hB) hnF HF.out).mono ?_
        rintro e w5 ⟨v, rfl, hO5, hb5⟩
        rw [HCR.out] at hO5 ⊢
        obtain ⟨A5, c5, A5', c5', rfl, HP5⟩ := hO5.at_
        have hX5 := hX.below hb5 hX.lt
        have hT5 := hT.below hb5 hT.lt
        have hB5 : Below w.heap.size w w5 := hB.trans (hb5.mono hB.size)
        have HP15 := HPr.on hb5
        have HOS5 : Hid (∀ W, Below w5.heap.size w5 W → SlR encI 1 W W.heap.size (some ⟨w2.heap.size + 1, 0, none⟩) k (List.replicate k 1)) := fun W hb => HOS.out W (hb5.trans (hb.mono hb5.size))
        have hz5 := hb5.size
        rw [HL.out.1, HL.out.2.1, List.length_nil] at HP5
        simp only [HL.out.1, HL.out.2.1, List.length_nil]
        clear hO5 hb5 HPr hX hT HOS x0 x1 hB
        have x0 := hX5.cells 0 _ rfl
        have x1 := hX5.cells 1 _ rfl
        have hxl := hX5.lt
        simp only [List.getElem_toArray, List.getElem_cons_zero, List.getElem_cons_succ] at x0 x1
        go_wp2_with fail
        refine (crash_any p (List.replicate k 1) (some ⟨w2.heap.size + 1, 0, none⟩) k k A A' n k c d _ (HP15.step (by go_grown)) (HOS5.out _ (by go_grown)) (by omega) (by intro x hx; rw [List.eq_of_mem_replicate hx]; omega)).mono ?_
        rintro e w6 ⟨v, rfl, hO6, hb6⟩
        rw [HC1.out] at hO6 ⊢
        obtain ⟨A6, c6, A6', c6', rfl, HP6⟩ := hO6.at_
        have hb6' : Below w5.heap.size w5 w6 := Below.trans (by go_grown) (hb6.mono (by simp))
        have hX6 := hX5.below hb6' hX5.lt
        have hT6 := hT5.below hb6' hT5.lt
        have hY6 := (Blk.new w5 _ _).below hb6 (by simp)
        have hB6 : Below w.heap.size w w6 := hB5.trans (hb6'.mono hB5.size)
        have HP16 := HP15.on hb6'
        have HP56 := HP5.on hb6'
        have hz6 := hb6.size
        simp only [World.size_alloc] at hz6
        rw [HL.out.2.2.1, HL.out.2.2.2, List.length_nil] at HP6
        simp only [HL.out.2.2.1, HL.out.2.2.2, List.length_nil]
        clear hO6 hb6 HP15 HP5 hX5 hT5 HOS5 x0 x1 hB5 hxl hb6'
        have x0 := hX6.cells 0 _ rfl
        have x1 := hX6.cells 1 _ rfl
        have hxl := hX6.lt
        simp only [List.getElem_toArray, List.getElem_cons_zero, List.getElem_cons_succ] at x0 x1
        go_wp2_with fail
        refine (sync_any p A A' n k c d _ (HP16.step (by go_grown))).mono ?_
        rintro e w7 ⟨v, rfl, hO7, hb7⟩
        rw [HSR.out] at hO7 ⊢
        obtain ⟨A7, c7, A7', c7', rfl, HP7⟩ := hO7.at_
        have hb7' : Below w6.heap.size w6 w7 := Below.trans (by go_grown) (hb7.mono (by simp))
        have hX7 := hX6.below hb7' hX6.lt
        have hT7 := hT6.below hb7' hT6.lt
        have hY7 := hY6.below hb7' hY6.lt
        have hZ7 := (Blk.new w6 _ _).below hb7 (by simp)
        have hB7 : Below w.heap.size w w7 := hB6.trans (hb7'.mono hB6.size)
        have HP17 := HP16.on hb7'
        have HP57 := HP56.on hb7'
        have HP67 := HP6.on hb7'
        have hz7 := hb7.size
        simp only [World.size_alloc] at hz7
        rw [HL.out.2.2.1, HL.out.2.2.2, List.length_nil] at HP7
        simp only [HL.out.2.2.1, HL.out.2.2.2, List.length_nil]
        clear hO7 hb7 HP16 HP56 HP6 hX6 hT6 hY6 x0 x1 hB6 hxl hb7'
        have x0 := hX7.cells 0 _ rfl
        have x1 := hX7.cells 1 _ rfl
        have hxl := hX7.lt
        simp only [List.getElem_toArray, List.getElem_cons_zero, List.getElem_cons_succ] at x0 x1
        go_wp2_with fail
        refine (crash_any p [] none 0 0 A A' n k c d _ (HP17.step (by go_grown)) SlR.nil_ (by omega) (by intro x hx; cases hx)).mono ?_
        rintro e w8 ⟨v, rfl, hO8, hb8⟩
        rw [HCN.out] at hO8 ⊢
        obtain ⟨A8, c8, A8', c8', rfl, HP8⟩ := hO8.at_
        have hb8' : Below w7.heap.size w7 w8 := Below.trans (by go_grown) (hb8.mono (by simp))
        have hX8 := hX7.below hb8' hX7.lt
        have hT8 := hT7.below hb8' hT7.lt
        have hY8 := hY7.below hb8' hY7.lt
        have hZ8 := hZ7.below hb8' hZ7.lt
        have hV8 := (Blk.new w7 _ _).below hb8 (by simp)
        have hB8 : Below w.heap.size w w8 := hB7.trans (hb8'.mono hB7.size)
        have HP18 := HP17.on hb8'
        have HP58 := HP57.on hb8'
        have HP68 := HP67.on hb8'
        have HP78 := HP7.on hb8'
        have hz8 := hb8.size
        simp only [World.size_alloc] at hz8
        dsimp only at HP8
        rw [HN.out.1, List.length_nil] at HP8
        simp only [HN.out.1, List.length_nil]
        clear hO8 hb8 HP17 HP57 HP67 HP7 hX7 hT7 hY7 hZ7 x0 x1 hB7 hxl hb8'
        have x0 := hX8.cells 0 _ rfl
        have x1 := hX8.cells 1 _ rfl
        have hxl := hX8.lt
        have y0 := hY8.cells 0 _ rfl
        have y1 := hY8.cells 1 _ rfl
        have hyl := hY8.lt
        simp only [List.getElem_toArray, List.getElem_cons_zero, List.getElem_cons_succ] at x0 x1 y0 y1
        go_wp2_with fail
        have hW0 := Blk.new w8 25 #[.slice A8 n c8, .slice A8' 0 c8']
        go_loopw [16] (fun i wr => ∃ j : Nat, j ≤ n ∧ i = .int .i64 j ∧ Below w8.heap.size w8 wr ∧ Blk wr w8.heap.size 25 #[.slice A8 n c8, .slice A8' 0 c8']) (fun i _ => n - (intOf i).toNat)
        case atStart => exact ⟨0, Nat.zero_le _, rfl, by go_grown, hW0⟩
        case round =>
          obtain ⟨j, hj, rfl, hBq, hW⟩ := hrel
          rename_i wq _ _
          have hX := hX8.below hBq hX8.lt
          have hT := hT8.below hBq hT8.lt
          have hY := hY8.below hBq hY8.lt
          have hZ := hZ8.below hBq hZ8.lt
          have hV := hV8.below hBq hV8.lt
          have HP1 := HP18.on hBq
          have HP5 := HP58.on hBq
          have HP6 := HP68.on hBq
          have HP7 := HP78.on hBq
          have HP8' := HP8.on hBq
          have hB := hB8.trans (hBq.mono hB8.size)
          have hzq := hBq.size
          clear x0 x1 y0 y1 hxl hyl
          have x0 := hX.cells 0 _ rfl
          have x1 := hX.cells 1 _ rfl
          have hxl := hX.lt
          have y0 := hY.cells 0 _ rfl
          have y1 := hY.cells 1 _ rfl
          have hyl := hY.lt
          simp only [List.getElem_toArray, List.getElem_cons_zero, List.getElem_cons_succ] at x0 x1 y0 y1
          by_cases hlt : j < n
          · obtain ⟨tj, htj⟩ : ∃ x, T[j]? = some x := ⟨T[j]'(by rw [HT.out.1, HN.out.1]; exact hlt), List.getElem?_eq_getElem _⟩
            have t0 := hT.get htj
            have i0 : (0 : Int) ≤ (j : Int) := by omega
            have i1 : (j : Int) < (n : Int) := by omega
            cases tj
            · have hun := HCU.out j (by have := HT.out.2 j htj; rwa [← HN.out.2, List.take_length] at this)
              obtain ⟨s, hs⟩ : ∃ s, p.sectors[j]? = some s := ⟨p.sectors[j]'(by rw [HN.out.1]; exact hlt), List.getElem?_eq_getElem _⟩
              rw [hs] at hun
              rcases (HP1.step (Below.refl _ _)).1.2 with h0 | ⟨b, off, rfl, hb, hC⟩
              · omega
              rcases (HP5.step (Below.refl _ _)).1.2 with h0 | ⟨b', off', rfl, hb', hC'⟩
              · omega
              have s0 := hC.str hs
              have s1 := hC'.str hun
              have hq : (!(s.toList == s.toList)) = false := by simp
              clear hC hC' hs hun htj hT hZ hV HP1 HP5 HP6 HP7 HP8' HT hX hY
              go_wp2_with fail
              go_quiet (fail)
              all_goals go_wp2_with fail
              all_goals (go_roundw; case rel => exact ⟨j + 1, by omega, by go_num, below_drewN hBq _, hW.drewN _⟩)
              all_goals (case measure => simp [intOf]; omega)
            · clear htj hT hZ hV HP1 HP5 HP6 HP7 HP8' HT hX hY
              go_wp2_with fail
              go_quiet (fail)
              all_goals go_wp2_with fail
              all_goals (go_roundw; case rel => exact ⟨j + 1, by omega, by go_num, below_drewN hBq _, hW.drewN _⟩)
              all_goals (case measure => simp [intOf]; omega)
          · obtain rfl : j = n := by omega
            clear x0 x1 hxl hT HP5
            go_wp2_with fail
            refine (spins_any _).mono ?_
            rintro e w9 ⟨rfl, hb9⟩
            have hX9 := hX.below hb9 hX.lt
            have hZ9 := hZ.below hb9 hZ.lt
            have hV9 := hV.below hb9 hV.lt
            have hW9 := hW.below hb9 hW.lt
            have hB9 := hB.trans (hb9.mono hB.size)
            have HP19 := HP1.on hb9
            have HP69 := HP6.on hb9
            have HP79 := HP7.on hb9
            have HP89 := HP8'.on hb9
            have hz9 := hb9.size
            have z0 := hZ9.cells 0 _ rfl
            have z1 := hZ9.cells 1 _ rfl
            have hzl := hZ9.lt
            have v0 := hV9.cells 0 _ rfl
            have v1 := hV9.cells 1 _ rfl
            have hvl := hV9.lt
            simp only [List.getElem_toArray, List.getElem_cons_zero, List.getElem_cons_succ] at z0 z1 v0 v1
            clear hb9 hB HP1 HP6 HP7 HP8' hX hZ hV hW y0 y1 hyl hY
            go_wp2_with fail
            refine (same_any s s A6 A6' A7 A7' j 0 c6 c6' j 0 c7 c7' _ (HP69.step (by go_grown)) (HP79.step (by go_grown)) (by omega) (by omega)).mono ?_
            rintro e w10 ⟨rfl, hb10⟩
            rw [samePl_refl]
            have hX10 := hX9.below hb10 hX9.lt
            have hW10 := hW9.below hb10 hW9.lt
            have hB10 := hB9.trans (hb10.mono hB9.size)
            have HP110 := HP19.on hb10
            have HP810 := HP89.on hb10
            have hz10 := hb10.size
            clear z0 z1 v0 v1 hzl hvl
            have x0 := hX10.cells 0 _ rfl
            have x1 := hX10.cells 1 _ rfl
            have hxl := hX10.lt
            have y0 := hW10.cells 0 _ rfl
            have y1 := hW10.cells 1 _ rfl
            have hyl := hW10.lt
            simp only [List.getElem_toArray, List.getElem_cons_zero, List.getElem_cons_succ] at x0 x1 y0 y1
            clear hb10 hB9 HP19 HP69 HP79 HP89 hX9 hZ9 hV9 hW9
            go_wp2_with fail
            refine (same_any ⟨p.sectors, []⟩ ⟨p.sectors, []⟩ A8 A8' A none j 0 c8 c8' j 0 c 0 _ (HP810.step (by go_grown)) ⟨(HP110.step (by go_grown)).1, SlR.nil_⟩ (by omega) (by omega)).mono ?_
            rintro e w11 ⟨rfl, hb11⟩
            rw [samePl_refl]
            go_wp2_with fail
            go_ret
            exact ⟨rfl, hB10.trans (hb11.mono hB10.size)⟩
  have hc' : checkP p = false := by simpa using hc
  clear hc
  go_enter Try.func5, Try.ntmps5
  go_wp2_with fail
  refine (far_any p ByteArray.empty AF nF cF A A' n m c d _ (HP.step (by go_grown))).mono ?_
  rintro e w1 ⟨rfl, hb1⟩
  rw [hf']
  have hX := (Blk.new w _ _).below hb1 (by simp)
  have hB1 : Below w.heap.size w w1 := Below.trans (by go_grown) (hb1.mono (by simp))
  have HP1 := HP.on hB1
  have hz1 := hb1.size
  simp only [World.size_alloc] at hz1
  have x0 := hX.cells 0 _ rfl
  have x1 := hX.cells 1 _ rfl
  have hxl := hX.lt
  simp only [List.getElem_toArray, List.getElem_cons_zero, List.getElem_cons_succ] at x0 x1
  clear hb1 hX
  go_wp2_with fail
  refine (checkP_any p A A' n m c d _ (HP1.step (by go_grown))).mono ?_
  rintro e w2 ⟨rfl, hb2⟩
  rw [hc']
  have hB2 : Below w.heap.size w w2 := hB1.trans (hb2.mono hB1.size)
  clear hb2 x0 x1 hxl
  go_wp2_with fail
  refine (spins_any _).mono ?_
  rintro e w3 ⟨rfl, hb3⟩
  go_wp2_with fail
  go_ret
  exact ⟨rfl, hB2.trans (hb3.mono hB2.size)⟩
theorem crash_law (p : Plat) (F : List Int) (A A' AF : Option Addr) (c d nF cF : Nat) (w : World) {R : Prop} (h : PlatPre w A p.sectors.length A' p.cache.length p ∧ R) (hS : SlR encI 1 w w.heap.size AF nF F) (hnF : nF ≤ 140737488351232) (hF : ∀ x ∈ F, x ≤ 9223372036854775807) :
    Calls Try.prog 5 #[.agg #[.slice A p.sectors.length c, .slice A' p.cache.length d], .slice AF nF cF] w fun e w' => e = .returned (.bool true) ∧ Below w.heap.size w w' :=
  crash_walk p F A A' AF _ _ c d nF cF w h.1 (fun W hb => (hS.below hb).more hb.size) (by omega) hF
end Go.Proofs.Ytefodifmfjpnlaa
