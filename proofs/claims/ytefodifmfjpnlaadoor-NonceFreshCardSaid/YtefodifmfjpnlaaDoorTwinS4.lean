/- chapter 13's reference: a Crash of fates 1 alone; Sync. -/
import Derived.Test.YtefodifmfjpnlaaDoorTwinS1
import Derived.Test.YtefodifmfjpnlaaDoorTwinQ
set_option linter.unusedVariables false
namespace Go.Proofs.YtefodifmfjpnlaaDoor
open Go.RowKit
theorem settle1_succ {p : Plat} {k : Nat} {x : PPut} {j : Nat} (h : p.cache[k]? = some x) (hj : x.pos = (j : Int)) : (settleTo p (fun _ => 1) (k + 1)).sectors = (settleTo p (fun _ => 1) k).sectors.set j x.text := by
  have hd : p.cache.getD k noPut = x := by simp [List.getD, h]
  rw [settleTo, hd]
  have : x.pos.toNat = j := by omega
  simp [fallF, this]
theorem own_far_ne {w : World} {base b g n c : Nat} {xs : List Value} {t : TypeId} {cs : Array Value} (h : w.ownsRow base 9 1 (.slice (some ⟨b, 0, none⟩) n c) n xs) (hg : Blk w g t cs) (ht : 9 ≠ t := by decide) : g ≠ b := fun e => own_blk_ne h hg ht (by rw [e]; rfl)
set_option maxRecDepth 100000 in
set_option maxHeartbeats 1000000 in
theorem refcrash_ones (p : Plat) (A A' AF : Option Addr) (n m c d cF : Nat) (w : World) (hP : PlatAt w w.heap.size A n A' m p) (hn9 : n ≤ 1000) (hm9 : m ≤ 1000)
    (HF : Hid (∀ W, Below w.heap.size w W → SlR encI 1 W W.heap.size AF m (List.replicate m 1))) :
    Calls Tryd.prog 66 #[.agg #[.slice A n c, .slice A' m d], .slice AF m cF] w (Out2P w (syncF p)) := by
  have HP := hP.pre
  have hl := hP.1.1
  have hl' := hP.2.1
  clear hP
  by_cases hc : checkP p = true
  · obtain ⟨hn1, _, _, _, hcx⟩ := (checkP_iff p).1 hc
    have HE : Hid (syncF p = (⟨(settleTo p (fun _ => 1) m).sectors, []⟩, 0)) := by unfold Hid syncF settleF; rw [if_pos hc, hl']
    have HK : Hid (∀ k, k ≤ m → (settleTo p (fun _ => 1) k).sectors.length = n) := fun k hk => by rw [(settleTo_keeps p _ hc k (by omega)).1, hl]
    have HCX := Lib.hid hcx
    have HC := Lib.hid hc
    have HL := Lib.hid (And.intro hl hl')
    generalize hg : syncF p = rr at HE ⊢
    rw [hl] at hn1
    clear hc hcx hl hl' hg
    go_enter Tryd.func66, Tryd.ntmps66
    go_wp2_with fail
    refine (refcheck_any p A A' n m c d _ (HP.step (by go_grown)) (by omega) (by omega)).mono ?_
    rintro e w1 ⟨rfl, hb1⟩
    rw [HC.out]
    have hX := ((Blk.new w _ _).alloc _).below hb1 (by simp; omega)
    have hY := (Blk.new_at (g := w.heap.size + 1) (by simp) _ _).below hb1 (by simp)
    have hB1 : Below w.heap.size w w1 := Below.trans (by go_grown) (hb1.mono (by simp; omega))
    have x0 := hX.cells 0 _ rfl
    have x1 := hX.cells 1 _ rfl
    simp only [List.getElem_toArray, List.getElem_cons_zero, List.getElem_cons_succ] at x0 x1
    clear hb1
    go_wp2_with fail
    refine (own13_any p A A' n m c d _ (HP.step hB1) hn9 hm9).mono ?_
    rintro e w2 ⟨v, rfl, ⟨A2, c2, A2', c2', rfl, ho1, ho2⟩, hb2⟩
    have hX2 := hX.below hb2 hX.lt
    have hY2 := hY.below hb2 hY.lt
    have hB2 := hB1.trans (hb2.mono hB1.size)
    have ho1 := own_base ho1 hB1.size
    rw [HL.out.1] at ho1
    simp only [HL.out.1, HL.out.2]
    obtain ⟨A3, c3, hv, _, _, h0⟩ := own_form ho1
    obtain ⟨rfl, rfl⟩ : A2 = A3 ∧ c2 = c3 := by injection hv with h1 _ h2; exact ⟨h1, h2⟩
    obtain ⟨b, rfl, hbB, hbw⟩ := h0.resolve_left (by omega)
    have HO := Lib.hid ho1
    clear hb2 hB1 hX hY x0 x1 ho1 ho2 hv h0
    have x0 := hX2.cells 0 _ rfl
    have x1 := hX2.cells 1 _ rfl
    have hxl := hX2.lt
    simp only [List.getElem_toArray, List.getElem_cons_zero, List.getElem_cons_succ] at x0 x1
    go_wp2_with fail
    have hZ0 : Blk (w2.alloc (.cells #[.slice (some ⟨b, 0, none⟩) n c2, .slice none 0 0] 25)) w2.heap.size 25 #[.slice (some ⟨b, 0, none⟩) n c2, .slice none 0 0] := Blk.new _ _ _
    clear x0 x1
    go_loopw [7] (fun i wr => ∃ k : Nat, k ≤ m ∧ i = .int .i64 k ∧ Below w.heap.size w wr ∧ Hid (Blk wr w.heap.size 25 #[.slice A n c, .slice A' m d]) ∧ Hid (Blk wr (w.heap.size + 1) 25 #[.slice none 0 0, .slice none 0 0]) ∧ Hid (Blk wr w2.heap.size 25 #[.slice (some ⟨b, 0, none⟩) n c2, .slice none 0 0]) ∧
      Hid (wr.ownsRow w.heap.size 9 1 (.slice (some ⟨b, 0, none⟩) n c2) n (flat encS (settleTo p (fun _ => 1) k).sectors))) (fun i _ => m - (intOf i).toNat)
    case atStart => exact ⟨0, Nat.zero_le _, rfl, by have := hB2.size; go_grown, hX2.alloc _, hY2.alloc _, hZ0, HO.out.alloc _⟩
    case round =>
      obtain ⟨k, hk, rfl, hBr, HX, HY, HZ, HR⟩ := hrel
      have x0 := HX.out.cells 0 _ rfl
      have x1 := HX.out.cells 1 _ rfl
      have z0 := HZ.out.cells 0 _ rfl
      have z1 := HZ.out.cells 1 _ rfl
      have hxl := HX.out.lt
      have hzl := HZ.out.lt
      simp only [List.getElem_toArray, List.getElem_cons_zero, List.getElem_cons_succ] at x0 x1 z0 z1
      clear hZ0 hX2 hY2
      by_cases hlt : k < m
      · obtain ⟨x, hx⟩ : ∃ x, p.cache[k]? = some x := ⟨p.cache[k]'(by rw [HL.out.2]; exact hlt), List.getElem?_eq_getElem _⟩
        have hpx := HCX.out x (List.mem_of_getElem? hx)
        simp only [putB, hasB, Bool.and_eq_true, decide_eq_true_eq] at hpx
        obtain ⟨j, hj⟩ := Int.eq_ofNat_of_zero_le hpx.2.1
        have hjn : j < n := by have := hpx.2.2; rw [HL.out.1] at this; omega
        rcases (HP.step (Below.refl _ _)).2.2 with h0 | ⟨bc, oc, rfl, hbc, hC⟩
        · omega
        obtain ⟨c0, c1⟩ := (hC.below hBr hbc).put hx
        rw [hj] at c0
        rcases (HF.out _ (Below.refl _ _)).2 with h0 | ⟨bf, off, rfl, hbf, hCF⟩
        · omega
        have f0 := (hCF.below hBr hbf).int (k := k) (s := 1) (by simp [hlt])
        have e1 : ¬ (b = bf) := by omega
        have e2 : ¬ (bf = b) := by omega
        have hfl := hBr.size
        have hbf2 : bf < wr.heap.size := by omega
        obtain ⟨old, hold⟩ : ∃ s, (settleTo p (fun _ => 1) k).sectors[j]? = some s := ⟨_, List.getElem?_eq_getElem (by rw [HK.out k hk]; exact hjn)⟩
        have o0 : _ = _ := HR.out.cellAt j (by omega)
        have hfg := flat_get encS_len _ j old hold 0 _ rfl
        simp only [Nat.mul_one, Nat.add_zero] at hfg
        rw [hfg] at o0
        have of := HR.out.frozenAt j
        have hbr := (HR.out.lt b rfl).2
        have HS := Lib.hid (settle1_succ hx hj)
        have HBr := Lib.hid hBr
        clear hx hj hpx hC hCF hold hfg hBr
        go_wp2_with fail
        go_roundw
        case rel =>
          refine ⟨k + 1, by omega, by go_num, by have := HBr.out; go_grown, ?_, ?_, ?_, ?_⟩
          · exact (HX.out.far (p := ⟨b, j, none⟩) (own_far_ne HR.out HX.out) _).alloc _
          · exact (HY.out.far (p := ⟨b, j, none⟩) (own_far_ne HR.out HY.out) _).alloc _
          · exact (HZ.out.far (p := ⟨b, j, none⟩) (own_far_ne HR.out HZ.out) _).alloc _
          · have := ((HR.out.stored j (.string x.text)).1).alloc (.cells #[.int .i64 j, .string x.text] 52)
            rw [flat_set, ← HS.out] at this
            refine Lib.hid ?_
            simpa using this
        case measure => simp [intOf]; omega
      · obtain rfl : k = m := by omega
        have y0 := HY.out.cells 0 _ rfl
        have y1 := HY.out.cells 1 _ rfl
        have yf := HY.out.frozen
        have hyl := HY.out.lt
        simp only [List.getElem_toArray, List.getElem_cons_zero, List.getElem_cons_succ] at y0 y1
        have n1 := own_blk_ne HR.out HY.out (by decide)
        go_wp2_with (with_reducible refine end_at ?_)
        refine end_ret (v := .tuple #[.agg #[.slice (some ⟨b, 0, none⟩) n c2, .slice none 0 0], .int .i64 0]) (by simp [results, Tryd.results66, go_sem, y0, y1]; try rfl) rfl ?_
        rw [HE.out]
        have hh := HR.out
        rw [← HK.out k (Nat.le_refl _)] at hh ⊢
        rw [← HK.out k (Nat.le_refl _)] at n1
        exact ⟨_, rfl, ⟨_, c2, none, 0, rfl, own_far (own_far hh n1 _ _) n1 _ _, World.ownsRow_nil _ _ _ _⟩, by go_grown⟩
  · have HE : Hid (syncF p = (noPlat, 1)) := by unfold Hid syncF settleF; rw [if_neg hc]
    have HC := Lib.hid (show checkP p = false by simpa using hc)
    generalize hg : syncF p = rr at HE ⊢
    clear hc hl hl' hg
    go_enter Tryd.func66, Tryd.ntmps66
    go_wp2_with fail
    refine (refcheck_any p A A' n m c d _ (HP.step (by go_grown)) (by omega) (by omega)).mono ?_
    rintro e w1 ⟨rfl, hb1⟩
    rw [HC.out]
    have hY := (Blk.new_at (g := w.heap.size + 1) (by simp) _ _).below hb1 (by simp)
    have hB1 : Below w.heap.size w w1 := Below.trans (by go_grown) (hb1.mono (by simp; omega))
    have y0 := hY.cells 0 _ rfl
    have y1 := hY.cells 1 _ rfl
    have yf := hY.frozen
    have hyl := hY.lt
    simp only [List.getElem_toArray, List.getElem_cons_zero, List.getElem_cons_succ] at y0 y1
    clear hb1 hY
    go_wp2_with (with_reducible refine end_at ?_)
    refine end_ret (v := .tuple #[.agg #[.slice none 0 0, .slice none 0 0], .int .i64 1]) (by simp [results, Tryd.results66, go_sem, y0, y1]; try rfl) rfl (out2_no HE.out rfl (by go_grown))
end Go.Proofs.YtefodifmfjpnlaaDoor
/- chapters 13 and 14's references: Sync, body, Get, deed. -/
namespace Go.Proofs.YtefodifmfjpnlaaDoor
open Go.RowKit
theorem ones_all (m : Nat) : List.replicate m (1 : Int) ++ List.replicate (m - m) 0 = List.replicate m 1 := by simp
theorem sync_big {p : Plat} (h : 1000 < p.cache.length) : syncF p = (noPlat, 1) := by
  unfold syncF settleF
  rw [if_neg]
  intro hc
  have := ((checkP_iff p).1 hc).2.2.1
  omega
theorem int_info2 : (Tryd.prog.info? 3).map (fun i => (i.zero, i.size, i.bytes)) = some (some (.int .i64 0), 1, 8) := by kernel_rfl
set_option maxRecDepth 100000 in
set_option maxHeartbeats 1000000 in
theorem refsync_any (p : Plat) (A A' : Option Addr) (n m c d : Nat) (w : World) (hP : PlatAt w w.heap.size A n A' m p) (hn9 : n ≤ 1000) (hm9 : m ≤ 1000) :
    Calls Tryd.prog 59 #[.agg #[.slice A n c, .slice A' m d]] w (Out2P w (syncF p)) := by
  have HP := hP.pre
  clear hP
  have hmki := fun W => run_mkrow (P := Tryd.prog) 46 3 (.int .i64 0) 8 Tryd.underlying46 int_info2 rfl m (by omega) (by omega) W
  generalize hg : syncF p = rr
  have HG := Lib.hid hg
  clear hg
  go_enter Tryd.func59, Tryd.ntmps59
  go_wp2_with fail
  clear hmki
  have hX0 := (((Blk.new w 25 #[.slice A n c, .slice A' m d]).alloc (.cells #[.slice none 0 0, .slice none 0 0] 25)).alloc (.cells (List.replicate m (Value.int .i64 0)).toArray 3))
  have hY0 := ((Blk.new_at (w := w.alloc (.cells #[.slice A n c, .slice A' m d] 25)) (g := w.heap.size + 1) (by simp) 25 #[.slice none 0 0, .slice none 0 0]).alloc (.cells (List.replicate m (Value.int .i64 0)).toArray 3))
  have hO0 : Row vI (((w.alloc (.cells #[.slice A n c, .slice A' m d] 25)).alloc (.cells #[.slice none 0 0, .slice none 0 0] 25)).alloc (.cells (List.replicate m (Value.int .i64 0)).toArray 3)) (w.heap.size + 1 + 1) 3 (List.replicate m (0 : Int)) := by
    have := Row.new (f := vI) ((w.alloc (.cells #[.slice A n c, .slice A' m d] 25)).alloc (.cells #[.slice none 0 0, .slice none 0 0] 25)) 3 m 0
    simpa [vI] using this
  go_loopw [5] (fun i wr => ∃ k : Nat, k ≤ m ∧ i = .int .i64 k ∧ Below w.heap.size w wr ∧ Hid (Blk wr w.heap.size 25 #[.slice A n c, .slice A' m d]) ∧ Hid (Blk wr (w.heap.size + 1) 25 #[.slice none 0 0, .slice none 0 0]) ∧ Row vI wr (w.heap.size + 1 + 1) 3 (List.replicate k 1 ++ List.replicate (m - k) 0)) (fun i _ => m - (intOf i).toNat)
  case atStart => exact ⟨0, Nat.zero_le _, rfl, by go_grown, hX0, hY0, by simpa using hO0⟩
  case round =>
    obtain ⟨k, hk, rfl, hBr, HX, HY, hO⟩ := hrel
    have hol := hO.lt
    clear hX0 hY0 hO0
    by_cases hlt : k < m
    · have o0 := hO.get (k := k) (List.getElem?_eq_getElem (by simp; omega))
      simp only [vI] at o0
      generalize (List.replicate k (1 : Int) ++ List.replicate (m - k) 0)[k]'_ = ok at o0
      have fo := hO.free k
      have HR := Lib.hid hO
      have HBr := Lib.hid hBr
      clear hO hBr
      go_wp2
      go_roundw
      case rel =>
        refine ⟨k + 1, by omega, by go_num, by have := HBr.out; go_grown, HX.out.far (by first | (simp; done) | (simp; omega)) _, HY.out.far (by first | (simp; done) | (simp; omega)) _, ?_⟩
        rw [← ones_set k m hlt]
        exact HR.out.set_ k 1
      case measure => simp [intOf]; omega
    · obtain rfl : k = m := by omega
      rw [ones_all] at hO
      have x0 := HX.out.cells 0 _ rfl
      have x1 := HX.out.cells 1 _ rfl
      simp only [List.getElem_toArray, List.getElem_cons_zero, List.getElem_cons_succ] at x0 x1
      have HFS : Hid (∀ W, Below wr.heap.size wr W → SlR encI 1 W W.heap.size (some ⟨w.heap.size + 1 + 1, 0, none⟩) k (List.replicate k 1)) := by
        intro W hb
        have h := hO.below hb hO.lt
        have := h.slr (B := W.heap.size) h.lt
        rwa [List.length_replicate] at this
      go_wp2_with fail
      refine (refcrash_ones p A A' _ n k c d _ _ (HP.step hBr) hn9 hm9 HFS).mono ?_
      rintro e w1 ⟨v, rfl, ⟨A1, c1, A2, c2, rfl, h1, h2⟩, hb1⟩
      rw [HG.out] at h1 h2 ⊢
      have hY1 := HY.out.below hb1 HY.out.lt
      have hB1 := hBr.trans (hb1.mono hBr.size)
      have y0 := hY1.cells 0 _ rfl
      have y1 := hY1.cells 1 _ rfl
      have yf := hY1.frozen
      have hyl := hY1.lt
      simp only [List.getElem_toArray, List.getElem_cons_zero, List.getElem_cons_succ] at y0 y1
      have n1 := own_blk_ne h1 hY1 (by decide)
      have n2 := own_blk_ne h2 hY1 (by decide)
      have HO := Lib.hid (And.intro (And.intro (own_base (base' := w.heap.size) h1 hBr.size) (own_base (base' := w.heap.size) h2 hBr.size)) (And.intro n1 n2))
      obtain ⟨q, er⟩ := rr
      dsimp only at HO ⊢
      clear hb1 h1 h2 n1 n2 hY1 x0 x1
      go_wp2_with (with_reducible refine end_at ?_)
      refine end_ret (v := .tuple #[.agg #[.slice A1 q.sectors.length c1, .slice A2 q.cache.length c2], .int .i64 er]) (by simp [results, Tryd.results59, go_sem, y0, y1]; try rfl) rfl ?_
      obtain ⟨⟨h1, h2⟩, n1, n2⟩ := HO.out
      exact ⟨_, rfl, ⟨A1, c1, A2, c2, rfl, own_far (own_far h1 n1 _ _) n1 _ _, own_far (own_far h2 n2 _ _) n2 _ _⟩, by go_grown⟩
def bodyAt (m : ByteArray) (i : Int) : Int × Bool := if (bodyF m).2 = true then (i + (bodyF m).1, true) else (0, false)
set_option maxRecDepth 100000 in
set_option maxHeartbeats 400000 in
theorem refbody_any (m : ByteArray) (i : Int) (w : World) (h0 : 0 ≤ i) (h1 : i < 1000) :
    Calls Tryd.prog 37 #[.string m, .int .i64 i] w fun e w' => e = .returned (.tuple #[.int .i64 (bodyAt m i).1, .bool (bodyAt m i).2]) ∧ w = w' := by
  have t0 : (m.toList == [48]) = decide (m = ⟨#[48]⟩) := by
    rw [Bool.eq_iff_iff]
    simp only [beq_iff_eq, decide_eq_true_eq]
    exact ⟨fun h => bytes_ext (by rw [h, list0]), fun h => by rw [h, list0]⟩
  have t1 : (m.toList == [49]) = decide (m = ⟨#[49]⟩) := by
    rw [Bool.eq_iff_iff]
    simp only [beq_iff_eq, decide_eq_true_eq]
    exact ⟨fun h => bytes_ext (by rw [h, list1]), fun h => by rw [h, list1]⟩
  rcases bodyF_cases m with ⟨hm, hb⟩ | ⟨hm, hb⟩ | ⟨hm0, hm1, hb⟩
  · have e : bodyAt m i = (i + 1, true) := by unfold bodyAt; rw [hb]; rfl
    rw [e]
    have q0 : (m.toList == [48]) = true := by rw [t0, hm]; rfl
    clear t0 t1 hm hb e
    go_enter Tryd.func37, Tryd.ntmps37
    go_wp2
    go_ret2
    exact ⟨rfl, rfl⟩
  · have e : bodyAt m i = (i + 2, true) := by unfold bodyAt; rw [hb]; rfl
    rw [e]
    have q0 : (m.toList == [48]) = false := by rw [t0, hm]; decide
    have q1 : (m.toList == [49]) = true := by rw [t1, hm]; rfl
    clear t0 t1 hm hb e
    go_enter Tryd.func37, Tryd.ntmps37
    go_wp2
    go_ret2
    exact ⟨rfl, rfl⟩
  · have e : bodyAt m i = (0, false) := by unfold bodyAt; rw [hb]; rfl
    rw [e]
    have q0 : (m.toList == [48]) = false := by rw [t0]; simpa using hm0
    have q1 : (m.toList == [49]) = false := by rw [t1]; simpa using hm1
    clear t0 t1 hm0 hm1 hb e
    go_enter Tryd.func37, Tryd.ntmps37
    go_wp2
    go_ret2
    exact ⟨rfl, rfl⟩
end Go.Proofs.YtefodifmfjpnlaaDoor
/- chapter 14's reference: Get, deed. -/
namespace Go.Proofs.YtefodifmfjpnlaaDoor
open Go.RowKit
set_option maxRecDepth 100000 in
set_option maxHeartbeats 1000000 in
theorem refget_any (p : Plat) (i : Int) (A A' : Option Addr) (n m c d : Nat) (w : World) (hP : PlatAt w w.heap.size A n A' m p) (hn9 : n ≤ 1000) (hm9 : m ≤ 1000) :
    Calls Tryd.prog 22 #[.agg #[.slice A n c, .slice A' m d], .int .i64 i] w (OutG w (getF p i)) := by
  have HP := hP.pre
  clear hP
  have hsz := read_size p i
  by_cases hr : (readF p i).2 = 0
  · have hpos := read_pos hr
    by_cases ht : (readF p i).1.toList = []
    · have HG : Hid (getF p i = (⟨#[]⟩, false, 0)) := by unfold Hid getF; rw [if_pos hr, if_pos ht]
      generalize hR : readF p i = R at *
      have HR := Lib.hid hR
      obtain ⟨t, et⟩ := R
      dsimp only at hr ht hsz
      subst hr
      clear hR hpos hsz
      go_enter Tryd.func22, Tryd.ntmps22
      go_wp2_with fail
      refine (refread_any p i A A' n m c d _ (HP.step (by go_grown)) (by omega) (by omega)).mono ?_
      rintro e w1 ⟨rfl, hb1⟩
      rw [HR.out]
      have hB1 : Below w.heap.size w w1 := Below.trans (by go_grown) (hb1.mono (by simp))
      clear hb1
      go_wp2_with fail
      go_ret3
      exact outG HG.out rfl hB1
    · have HG : Hid (getF p i = if (bodyF (readF p i).1).2 = true then ((readF p (i + (bodyF (readF p i).1).1)).1, decide ((readF p (i + (bodyF (readF p i).1).1)).2 = 0), (readF p (i + (bodyF (readF p i).1).1)).2) else (⟨#[]⟩, false, 140)) := by
        unfold Hid getF; rw [if_pos hr, if_neg ht]
      generalize hR : readF p i = R at *
      have HR := Lib.hid hR
      obtain ⟨t, et⟩ := R
      dsimp only at hr ht hsz HG
      subst hr
      have ht' : t.toList.isEmpty = false := by cases h : t.toList with | nil => exact absurd h ht | cons a b => rfl
      clear hR ht
      obtain ⟨_, h0, hn, h2⟩ := hpos
      have hi : i < 200 := by omega
      have hbo := bodyF_cases t
      generalize hbt : bodyF t = B at *
      have HBT := Lib.hid hbt
      obtain ⟨far, ok⟩ := B
      dsimp only at HG
      have hfar : (ok = true ∧ 1 ≤ far ∧ far ≤ 2) ∨ (ok = false ∧ far = 0) := by
        rcases hbo with ⟨_, h⟩ | ⟨_, h⟩ | ⟨_, _, h⟩ <;> (injection h with h1 h2; subst h1; subst h2; simp)
      clear hbt hbo hn h2
      rcases hfar with ⟨rfl, hf1, hf2⟩ | ⟨rfl, rfl⟩
      · rw [if_pos rfl] at HG
        generalize hR2 : readF p (i + far) = R2 at HG
        have HR2 := Lib.hid hR2
        clear hR2
        obtain ⟨s, es⟩ := R2
        dsimp only at HG
        go_enter Tryd.func22, Tryd.ntmps22
        go_wp2_with fail
        refine (refread_any p i A A' n m c d _ (HP.step (by go_grown)) (by omega) (by omega)).mono ?_
        rintro e w1 ⟨rfl, hb1⟩
        rw [HR.out]
        have hX := (Blk.new w _ _).below hb1 (by simp)
        have hB1 : Below w.heap.size w w1 := Below.trans (by go_grown) (hb1.mono (by simp))
        clear hb1
        go_wp2_with fail
        refine (refbody_any t i _ h0 (by omega)).mono ?_
        rintro e w2 ⟨rfl, rfl⟩
        rw [show bodyAt t i = (i + far, true) from by unfold bodyAt; rw [HBT.out]; rfl]
        have hX2 := hX
        have hB2 := hB1
        have x0 := hX2.cells 0 _ rfl
        have x1 := hX2.cells 1 _ rfl
        simp only [List.getElem_toArray, List.getElem_cons_zero, List.getElem_cons_succ] at x0 x1
        clear hX hB1
        go_wp2_with fail
        refine (refread_any p (i + far) A A' n m c d _ (HP.step hB2) (by omega) (by omega)).mono ?_
        rintro e w3 ⟨rfl, hb3⟩
        rw [HR2.out]
        have hB3 := hB2.trans (hb3.mono hB2.size)
        clear hb3 hB2 x0 x1 hX2
        by_cases hes : es = 0
        · subst hes
          go_wp2_with fail
          go_ret3
          exact outG HG.out rfl hB3
        · have t1 : (es == 0) = false := by simpa using hes
          have HE := Lib.hid (show decide (es = 0) = false by simpa using hes)
          clear hes
          rw [HE.out] at HG
          go_wp2_with fail
          go_ret3
          exact outG HG.out rfl hB3
      · rw [if_neg (by decide)] at HG
        go_enter Tryd.func22, Tryd.ntmps22
        go_wp2_with fail
        refine (refread_any p i A A' n m c d _ (HP.step (by go_grown)) (by omega) (by omega)).mono ?_
        rintro e w1 ⟨rfl, hb1⟩
        rw [HR.out]
        have hB1 : Below w.heap.size w w1 := Below.trans (by go_grown) (hb1.mono (by simp))
        clear hb1
        go_wp2_with fail
        refine (refbody_any t i _ h0 (by omega)).mono ?_
        rintro e w2 ⟨rfl, rfl⟩
        rw [show bodyAt t i = (0, false) from by unfold bodyAt; rw [HBT.out]; rfl]
        have hB2 := hB1
        clear hB1
        go_wp2_with fail
        go_ret3
        exact outG HG.out rfl hB2
  · have HG : Hid (getF p i = (⟨#[]⟩, false, (readF p i).2)) := by unfold Hid getF; rw [if_neg hr]
    generalize hR : readF p i = R at *
    have HR := Lib.hid hR
    obtain ⟨t, et⟩ := R
    dsimp only at hr hsz HG
    have t1 : (et != 0) = true := by simpa using hr
    clear hR hsz hr
    go_enter Tryd.func22, Tryd.ntmps22
    go_wp2_with fail
    refine (refread_any p i A A' n m c d _ (HP.step (by go_grown)) (by omega) (by omega)).mono ?_
    rintro e w1 ⟨rfl, hb1⟩
    rw [HR.out]
    have hB1 : Below w.heap.size w w1 := Below.trans (by go_grown) (hb1.mono (by simp))
    clear hb1
    go_wp2_with fail
    go_ret3
    exact outG HG.out rfl hB1

set_option maxRecDepth 100000 in
set_option maxHeartbeats 400000 in
theorem refdeed0 (p : Plat) (i : Int) (M s : ByteArray) (far : Int) (A A' : Option Addr) (n m c d : Nat) (w : World) (hP : PlatAt w w.heap.size A n A' m p) (hn9 : n ≤ 1000) (hm9 : m ≤ 1000) (h0 : 0 ≤ i) (h1 : i < 1000) (hB : bodyAt M i = (i + far, true)) :
    Calls Tryd.prog 45 #[.agg #[.slice A n c, .slice A' m d], .int .i64 0, .int .i64 i, .string M, .string s] w (Out2P w (deedF (i + far) s i M 0 p)) := by
  have HP := hP.pre
  clear hP
  rw [show deedF (i + far) s i M 0 p = writeF p (i + far) s from rfl]
  generalize hg : writeF p (i + far) s = rr
  have HG := Lib.hid hg
  have HBD := Lib.hid hB
  clear hg hB
  go_enter Tryd.func45, Tryd.ntmps45
  go_wp2_with fail
  refine (refbody_any M i _ h0 h1).mono ?_
  rintro e w0 ⟨rfl, rfl⟩
  rw [HBD.out]
  go_wp2_with fail
  refine (refwrite_any p (i + far) s A A' n m c d _ (HP.step (by go_grown)) hn9 hm9).mono ?_
  rintro e w1 ⟨v, rfl, ⟨A1, c1, A2, c2, rfl, h1, h2⟩, hb1⟩
  rw [HG.out] at h1 h2 ⊢
  have hY1 := (Blk.new_at (g := w.heap.size + 1) (by simp) _ _).below hb1 (by simp)
  have hB1 : Below w.heap.size w w1 := Below.trans (by go_grown) (hb1.mono (by simp; omega))
  have y0 := hY1.cells 0 _ rfl
  have y1 := hY1.cells 1 _ rfl
  have yf := hY1.frozen
  have hyl := hY1.lt
  simp only [List.getElem_toArray, List.getElem_cons_zero, List.getElem_cons_succ] at y0 y1
  have n1 := own_blk_ne h1 hY1 (by decide)
  have n2 := own_blk_ne h2 hY1 (by decide)
  have HO := Lib.hid (And.intro (And.intro (own_base (base' := w.heap.size) h1 (by simp; omega)) (own_base (base' := w.heap.size) h2 (by simp; omega))) (And.intro n1 n2))
  obtain ⟨q, er⟩ := rr
  dsimp only at HO ⊢
  clear hb1 h1 h2 n1 n2 hY1
  go_wp2_with (with_reducible refine end_at ?_)
  refine end_ret (v := .tuple #[.agg #[.slice A1 q.sectors.length c1, .slice A2 q.cache.length c2], .int .i64 er]) (by simp [results, Tryd.results45, go_sem, y0, y1]; try rfl) rfl ?_
  obtain ⟨⟨h1, h2⟩, n1, n2⟩ := HO.out
  exact ⟨_, rfl, ⟨A1, c1, A2, c2, rfl, own_far (own_far h1 n1 _ _) n1 _ _, own_far (own_far h2 n2 _ _) n2 _ _⟩, by go_grown⟩

set_option maxRecDepth 100000 in
set_option maxHeartbeats 400000 in
theorem refdeed1 (p : Plat) (i : Int) (M s : ByteArray) (far : Int) (A A' : Option Addr) (n m c d : Nat) (w : World) (hP : PlatAt w w.heap.size A n A' m p) (hn9 : n ≤ 1000) (hm9 : m ≤ 1000) (h0 : 0 ≤ i) (h1 : i < 1000) (hB : bodyAt M i = (i + far, true)) :
    Calls Tryd.prog 45 #[.agg #[.slice A n c, .slice A' m d], .int .i64 1, .int .i64 i, .string M, .string s] w (Out2P w (deedF (i + far) s i M 1 p)) := by
  have HP := hP.pre
  clear hP
  rw [show deedF (i + far) s i M 1 p = syncF p from rfl]
  generalize hg : syncF p = rr
  have HG := Lib.hid hg
  have HBD := Lib.hid hB
  clear hg hB
  go_enter Tryd.func45, Tryd.ntmps45
  go_wp2_with fail
  refine (refsync_any p A A' n m c d _ (HP.step (by go_grown)) hn9 hm9).mono ?_
  rintro e w1 ⟨v, rfl, ⟨A1, c1, A2, c2, rfl, h1, h2⟩, hb1⟩
  rw [HG.out] at h1 h2 ⊢
  have hY1 := (Blk.new_at (g := w.heap.size + 1) (by simp) _ _).below hb1 (by simp)
  have hB1 : Below w.heap.size w w1 := Below.trans (by go_grown) (hb1.mono (by simp; omega))
  have y0 := hY1.cells 0 _ rfl
  have y1 := hY1.cells 1 _ rfl
  have yf := hY1.frozen
  have hyl := hY1.lt
  simp only [List.getElem_toArray, List.getElem_cons_zero, List.getElem_cons_succ] at y0 y1
  have n1 := own_blk_ne h1 hY1 (by decide)
  have n2 := own_blk_ne h2 hY1 (by decide)
  have HO := Lib.hid (And.intro (And.intro (own_base (base' := w.heap.size) h1 (by simp; omega)) (own_base (base' := w.heap.size) h2 (by simp; omega))) (And.intro n1 n2))
  obtain ⟨q, er⟩ := rr
  dsimp only at HO ⊢
  clear hb1 h1 h2 n1 n2 hY1
  go_wp2_with (with_reducible refine end_at ?_)
  refine end_ret (v := .tuple #[.agg #[.slice A1 q.sectors.length c1, .slice A2 q.cache.length c2], .int .i64 er]) (by simp [results, Tryd.results45, go_sem, y0, y1]; try rfl) rfl ?_
  obtain ⟨⟨h1, h2⟩, n1, n2⟩ := HO.out
  exact ⟨_, rfl, ⟨A1, c1, A2, c2, rfl, own_far (own_far h1 n1 _ _) n1 _ _, own_far (own_far h2 n2 _ _) n2 _ _⟩, by go_grown⟩

set_option maxRecDepth 100000 in
set_option maxHeartbeats 400000 in
theorem refdeed2 (p : Plat) (i : Int) (M s : ByteArray) (far : Int) (A A' : Option Addr) (n m c d : Nat) (w : World) (hP : PlatAt w w.heap.size A n A' m p) (hn9 : n ≤ 1000) (hm9 : m ≤ 1000) (h0 : 0 ≤ i) (h1 : i < 1000) (hB : bodyAt M i = (i + far, true)) :
    Calls Tryd.prog 45 #[.agg #[.slice A n c, .slice A' m d], .int .i64 2, .int .i64 i, .string M, .string s] w (Out2P w (deedF (i + far) s i M 2 p)) := by
  have HP := hP.pre
  clear hP
  rw [show deedF (i + far) s i M 2 p = writeF p i M from rfl]
  generalize hg : writeF p i M = rr
  have HG := Lib.hid hg
  have HBD := Lib.hid hB
  clear hg hB
  go_enter Tryd.func45, Tryd.ntmps45
  go_wp2_with fail
  refine (refwrite_any p i M A A' n m c d _ (HP.step (by go_grown)) hn9 hm9).mono ?_
  rintro e w1 ⟨v, rfl, ⟨A1, c1, A2, c2, rfl, h1, h2⟩, hb1⟩
  rw [HG.out] at h1 h2 ⊢
  have hY1 := (Blk.new_at (g := w.heap.size + 1) (by simp) _ _).below hb1 (by simp)
  have hB1 : Below w.heap.size w w1 := Below.trans (by go_grown) (hb1.mono (by simp; omega))
  have y0 := hY1.cells 0 _ rfl
  have y1 := hY1.cells 1 _ rfl
  have yf := hY1.frozen
  have hyl := hY1.lt
  simp only [List.getElem_toArray, List.getElem_cons_zero, List.getElem_cons_succ] at y0 y1
  have n1 := own_blk_ne h1 hY1 (by decide)
  have n2 := own_blk_ne h2 hY1 (by decide)
  have HO := Lib.hid (And.intro (And.intro (own_base (base' := w.heap.size) h1 (by simp; omega)) (own_base (base' := w.heap.size) h2 (by simp; omega))) (And.intro n1 n2))
  obtain ⟨q, er⟩ := rr
  dsimp only at HO ⊢
  clear hb1 h1 h2 n1 n2 hY1
  go_wp2_with (with_reducible refine end_at ?_)
  refine end_ret (v := .tuple #[.agg #[.slice A1 q.sectors.length c1, .slice A2 q.cache.length c2], .int .i64 er]) (by simp [results, Tryd.results45, go_sem, y0, y1]; try rfl) rfl ?_
  obtain ⟨⟨h1, h2⟩, n1, n2⟩ := HO.out
  exact ⟨_, rfl, ⟨A1, c1, A2, c2, rfl, own_far (own_far h1 n1 _ _) n1 _ _, own_far (own_far h2 n2 _ _) n2 _ _⟩, by go_grown⟩

set_option maxRecDepth 100000 in
set_option maxHeartbeats 400000 in
theorem refdeed3 (p : Plat) (i : Int) (M s : ByteArray) (far : Int) (A A' : Option Addr) (n m c d : Nat) (w : World) (hP : PlatAt w w.heap.size A n A' m p) (hn9 : n ≤ 1000) (hm9 : m ≤ 1000) (h0 : 0 ≤ i) (h1 : i < 1000) (hB : bodyAt M i = (i + far, true)) :
    Calls Tryd.prog 45 #[.agg #[.slice A n c, .slice A' m d], .int .i64 3, .int .i64 i, .string M, .string s] w (Out2P w (deedF (i + far) s i M 3 p)) := by
  have HP := hP.pre
  clear hP
  rw [show deedF (i + far) s i M 3 p = syncF p from rfl]
  generalize hg : syncF p = rr
  have HG := Lib.hid hg
  have HBD := Lib.hid hB
  clear hg hB
  go_enter Tryd.func45, Tryd.ntmps45
  go_wp2_with fail
  refine (refsync_any p A A' n m c d _ (HP.step (by go_grown)) hn9 hm9).mono ?_
  rintro e w1 ⟨v, rfl, ⟨A1, c1, A2, c2, rfl, h1, h2⟩, hb1⟩
  rw [HG.out] at h1 h2 ⊢
  have hY1 := (Blk.new_at (g := w.heap.size + 1) (by simp) _ _).below hb1 (by simp)
  have hB1 : Below w.heap.size w w1 := Below.trans (by go_grown) (hb1.mono (by simp; omega))
  have y0 := hY1.cells 0 _ rfl
  have y1 := hY1.cells 1 _ rfl
  have yf := hY1.frozen
  have hyl := hY1.lt
  simp only [List.getElem_toArray, List.getElem_cons_zero, List.getElem_cons_succ] at y0 y1
  have n1 := own_blk_ne h1 hY1 (by decide)
  have n2 := own_blk_ne h2 hY1 (by decide)
  have HO := Lib.hid (And.intro (And.intro (own_base (base' := w.heap.size) h1 (by simp; omega)) (own_base (base' := w.heap.size) h2 (by simp; omega))) (And.intro n1 n2))
  obtain ⟨q, er⟩ := rr
  dsimp only at HO ⊢
  clear hb1 h1 h2 n1 n2 hY1
  go_wp2_with (with_reducible refine end_at ?_)
  refine end_ret (v := .tuple #[.agg #[.slice A1 q.sectors.length c1, .slice A2 q.cache.length c2], .int .i64 er]) (by simp [results, Tryd.results45, go_sem, y0, y1]; try rfl) rfl ?_
  obtain ⟨⟨h1, h2⟩, n1, n2⟩ := HO.out
  exact ⟨_, rfl, ⟨A1, c1, A2, c2, rfl, own_far (own_far h1 n1 _ _) n1 _ _, own_far (own_far h2 n2 _ _) n2 _ _⟩, by go_grown⟩
end Go.Proofs.YtefodifmfjpnlaaDoor
