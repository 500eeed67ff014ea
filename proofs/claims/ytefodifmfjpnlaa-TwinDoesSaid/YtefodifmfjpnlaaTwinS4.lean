/- chapter 13's reference: a Crash of fates 1 alone; Sync. -/
import Derived.Test.YtefodifmfjpnlaaTwinS3
set_option linter.unusedVariables false
namespace Go.Proofs.Ytefodifmfjpnlaa
open Go.RowKit
theorem settle1_succ {p : Plat} {k : Nat} {x : PPut} {j : Nat} (h : p.cache[k]? = some x) (hj : x.pos = (j : Int)) : (settleTo p (fun _ => 1) (k + 1)).sectors = (settleTo p (fun _ => 1) k).sectors.set j x.text := by
  have hd : p.cache.getD k noPut = x := by simp [List.getD, h]
  rw [settleTo, hd]
  have : x.pos.toNat = j := by omega
  simp [fallF, this]
theorem own_far_ne {w : World} {base b g n c : Nat} {xs : List Value} {t : TypeId} {cs : Array Value} (h : w.ownsRow base 9 1 (.slice (some ⟨b, 0, none⟩) n c) n xs) (hg : Blk w g t cs) (ht : 9 ≠ t := by decide) : g ≠ b := fun e => own_blk_ne h hg ht (by rw [e]; rfl)
set_option maxHeartbeats 1000000 in
theorem refcrash_ones (p : Plat) (A A' AF : Option Addr) (n m c d cF : Nat) (w : World) (hP : PlatAt w w.heap.size A n A' m p) (hn9 : n ≤ 1000) (hm9 : m ≤ 1000)
    (HF : Hid (∀ W, Below w.heap.size w W → SlR encI 1 W W.heap.size AF m (List.replicate m 1))) :
    Calls Try.prog 60 #[.agg #[.slice A n c, .slice A' m d], .slice AF m cF] w (Out2P w (syncF p)) := by
  have HP := hP.pre
  have hl := hP.1.1
  have hl' := hP.2.1
  clear hP
  by_cases hc : checkP p = true
  · obtain ⟨hn1, _, _, _, hcx⟩ := (checkP_iff p).1 hc
    have HE : Hid (syncF p = (⟨(settleTo p (fun _ => 1) m).sectors, []⟩, 0)) := by unfold Hid syncF settleF; rw [if_pos hc, hl']
    have HK : Hid (∀ k, k ≤ m → (settleTo p (fun _ => 1) k).sectors.length = n) := fun k hk => by rw [(settleTo_keeps p _ hc k (by omega)).1, hl]
    have HCX := Lib.hid hcx
    have HC := Lib.hid hc
    have HL := Lib.hid (And.intro hl hl')
    generalize hg : syncF p = rr at HE ⊢
    rw [hl] at hn1
    clear hc hcx hl hl' hg
    go_enter Try.func60, Try.ntmps60
    go_wp2_with fail
    refine (refcheck_any p A A' n m c d _ (HP.step (by go_grown)) (by omega) (by omega)).mono ?_
    rintro e w1 ⟨rfl, hb1⟩
    rw [HC.out]
    have hX := ((Blk.new w _ _).alloc _).below hb1 (by simp; omega)
    have hY := (Blk.new_at (g := w.heap.size + 1) (by simp) _ _).below hb1 (by simp)
    have hB1 : Below w.heap.size w w1 := Below.trans (by go_grown) (hb1.mono (by simp; omega))
    have x0 := hX.cells 0 _ rfl
    have x1 := hX.cells 1 _ rfl
    simp only [List.getElem_toArray, List.getElem_cons_zero, List.getElem_cons_succ] at x0 x1
    clear hb1
    go_wp2_with fail
    refine (own13_any p A A' n m c d _ (HP.step hB1) hn9 hm9).mono ?_
    rintro e w2 ⟨v, rfl, ⟨A2, c2, A2', c2', rfl, ho1, ho2⟩, hb2⟩
    have hX2 := hX.below hb2 hX.lt
    have hY2 := hY.below hb2 hY.lt
    have hB2 := hB1.trans (hb2.mono hB1.size)
    have ho1 := own_base ho1 hB1.size
    rw [HL.out.1] at ho1
    simp only [HL.out.1, HL.out.2]
    obtain ⟨A3, c3, hv, _, _, h0⟩ := own_form ho1
    obtain ⟨rfl, rfl⟩ : A2 = A3 ∧ c2 = c3 := by injection hv with h1 _ h2; exact ⟨h1, h2⟩
    obtain ⟨b, rfl, hbB, hbw⟩ := h0.resolve_left (by omega)
    have HO := Lib.hid ho1
    clear hb2 hB1 hX hY x0 x1 ho1 ho2 hv h0
    have x0 := hX2.cells 0 _ rfl
    have x1 := hX2.cells 1 _ rfl
    have hxl := hX2.lt
    simp only [List.getElem_toArray, List.getElem_cons_zero, List.getElem_cons_succ] at x0 x1
    go_wp2_with fail
    have hZ0 : Blk (w2.alloc (.cells #[.slice (some ⟨b, 0, none⟩) n c2, .slice none 0 0] 25)) w2.heap.size 25 #[.slice (some ⟨b, 0, none⟩) n c2, .slice none 0 0] := Blk.new _ _ _
    clear x0 x1
    go_loopw [7] (fun i wr => ∃ k : Nat, k ≤ m ∧ i = .int .i64 k ∧ Below w.heap.size w wr ∧ Hid (Blk wr w.heap.size 25 #[.slice A n c, .slice A' m d]) ∧ Hid (Blk wr (w.heap.size + 1) 25 #[.slice none 0 0, .slice none 0 0]) ∧ Hid (Blk wr w2.heap.size 25 #[.slice (some ⟨b, 0, none⟩) n c2, .slice none 0 0]) ∧
      Hid (wr.ownsRow w.heap.size 9 1 (.slice (some ⟨b, 0, none⟩) n c2) n (flat encS (settleTo p (fun _ => 1) k).sectors))) (fun i _ => m - (intOf i).toNat)
    case atStart => exact ⟨0, Nat.zero_le _, rfl, by have := hB2.size; go_grown, hX2.alloc _, hY2.alloc _, hZ0, HO.out.alloc _⟩
    case round =>
      obtain ⟨k, hk, rfl, hBr, HX, HY, HZ, HR⟩ := hrel
      have x0 := HX.out.cells 0 _ rfl
      have x1 := HX.out.cells 1 _ rfl
      have z0 := HZ.out.cells 0 _ rfl
      have z1 := HZ.out.cells 1 _ rfl
      have hxl := HX.out.lt
      have hzl := HZ.out.lt
      simp only [List.getElem_toArray, List.getElem_cons_zero, List.getElem_cons_succ] at x0 x1 z0 z1
      clear hZ0 hX2 hY2
      by_cases hlt : k < m
      · obtain ⟨x, hx⟩ : ∃ x, p.cache[k]? = some x := ⟨p.cache[k]'(by rw [HL.out.2]; exact hlt), List.getElem?_eq_getElem _⟩
        have hpx := HCX.out x (List.mem_of_getElem? hx)
        simp only [putB, hasB, Bool.and_eq_true, decide_eq_true_eq] at hpx
        obtain ⟨j, hj⟩ := Int.eq_ofNat_of_zero_le hpx.2.1
        have hjn : j < n := by have := hpx.2.2; rw [HL.out.1] at this; omega
        rcases (HP.step (Below.refl _ _)).2.2 with h0 | ⟨bc, oc, rfl, hbc, hC⟩
        · omega
        obtain ⟨c0, c1⟩ := (hC.below hBr hbc).put hx
        rw [hj] at c0
        rcases (HF.out _ (Below.refl _ _)).2 with h0 | ⟨bf, off, rfl, hbf, hCF⟩
        · omega
        have f0 := (hCF.below hBr hbf).int (k := k) (s := 1) (by simp [hlt])
        have e1 : ¬ (b = bf) := by omega
        have e2 : ¬ (bf = b) := by omega
        have hfl := hBr.size
        have hbf2 : bf < wr.heap.size := by omega
        obtain ⟨old, hold⟩ : ∃ s, (settleTo p (fun _ => 1) k).sectors[j]? = some s := ⟨_, List.getElem?_eq_getElem (by rw [HK.out k hk]; exact hjn)⟩
        have o0 : _ = _ := HR.out.cellAt j (by omega)
        have hfg := flat_get encS_len _ j old hold 0 _ rfl
        simp only [Nat.mul_one, Nat.add_zero] at hfg
        rw [hfg] at o0
        have of := HR.out.frozenAt j
        have hbr := (HR.out.lt b rfl).2
        have HS := Lib.hid (settle1_succ hx hj)
        have HBr := Lib.hid hBr
        clear hx hj hpx hC hCF hold hfg hBr
        go_wp2_with fail
        go_roundw
        case rel =>
          refine ⟨k + 1, by omega, by go_num, by have := HBr.out; go_grown, ?_, ?_, ?_, ?_⟩
          · exact (HX.out.far (p := ⟨b, j, none⟩) (own_far_ne HR.out HX.out) _).alloc _
          · exact (HY.out.far (p := ⟨b, j, none⟩) (own_far_ne HR.out HY.out) _).alloc _
          · exact (HZ.out.far (p := ⟨b, j, none⟩) (own_far_ne HR.out HZ.out) _).alloc _
          · have := ((HR.out.stored j (.string x.text)).1).alloc (.cells #[.int .i64 j, .string x.text] 42)
            rw [flat_set, ← HS.out] at this
            refine Lib.hid ?_
            simpa using this
        case measure => simp [intOf]; omega
      · obtain rfl : k = m := by omega
        have y0 := HY.out.cells 0 _ rfl
        have y1 := HY.out.cells 1 _ rfl
        have yf := HY.out.frozen
        have hyl := HY.out.lt
        simp only [List.getElem_toArray, List.getElem_cons_zero, List.getElem_cons_succ] at y0 y1
        have n1 := own_blk_ne HR.out HY.out (by decide)
        go_wp2_with (with_reducible refine end_at ?_)
        refine end_ret (v := .tuple #[.agg #[.slice (some ⟨b, 0, none⟩) n c2, .slice none 0 0], .int .i64 0]) (by simp [results, Try.results60, go_sem, y0, y1]; try rfl) rfl ?_
        rw [HE.out]
        have hh := HR.out
        rw [← HK.out k (Nat.le_refl _)] at hh ⊢
        rw [← HK.out k (Nat.le_refl _)] at n1
        exact ⟨_, rfl, ⟨_, c2, none, 0, rfl, own_far (own_far hh n1 _ _) n1 _ _, World.ownsRow_nil _ _ _ _⟩, by go_grown⟩
  · have HE : Hid (syncF p = (noPlat, 1)) := by unfold Hid syncF settleF; rw [if_neg hc]
    have HC := Lib.hid (show checkP p = false by simpa using hc)
    generalize hg : syncF p = rr at HE ⊢
    clear hc hl hl' hg
    go_enter Try.func60, Try.ntmps60
    go_wp2_with fail
    refine (refcheck_any p A A' n m c d _ (HP.step (by go_grown)) (by omega) (by omega)).mono ?_
    rintro e w1 ⟨rfl, hb1⟩
    rw [HC.out]
    have hY := (Blk.new_at (g := w.heap.size + 1) (by simp) _ _).below hb1 (by simp)
    have hB1 : Below w.heap.size w w1 := Below.trans (by go_grown) (hb1.mono (by simp; omega))
    have y0 := hY.cells 0 _ rfl
    have y1 := hY.cells 1 _ rfl
    have yf := hY.frozen
    have hyl := hY.lt
    simp only [List.getElem_toArray, List.getElem_cons_zero, List.getElem_cons_succ] at y0 y1
    clear hb1 hY
    go_wp2_with (with_reducible refine end_at ?_)
    refine end_ret (v := .tuple #[.agg #[.slice none 0 0, .slice none 0 0], .int .i64 1]) (by simp [results, Try.results60, go_sem, y0, y1]; try rfl) rfl (out2_no HE.out rfl (by go_grown))
end Go.Proofs.Ytefodifmfjpnlaa
