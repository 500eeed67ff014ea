/- chapter 13's reference: Check, Read. -/
import Derived.Test.YtefodifmfjpnlaaTwinS1
set_option linter.unusedVariables false
namespace Go.Proofs.Ytefodifmfjpnlaa
open Go.RowKit
theorem checkP_long {p : Plat} (h : p.sectors.any longB = true) : checkP p = false := by simp [checkP, h]
set_option maxHeartbeats 1000000 in
theorem refcheck_any (p : Plat) (A A' : Option Addr) (n m c d : Nat) (w : World) (hP : PlatAt w w.heap.size A n A' m p) (hn9 : n ≤ 100000) (hm9 : m ≤ 100000) :
    Calls Try.prog 55 #[.agg #[.slice A n c, .slice A' m d]] w fun e w' => e = .returned (.bool (checkP p)) ∧ Below w.heap.size w w' := by
  have HP := hP.pre
  obtain ⟨⟨hl, _⟩, ⟨hl', _⟩⟩ := hP
  have HEnd : Hid (p.sectors.any longB = false → p.cache.all (putB n) = true → checkP p = (decide (1 ≤ n) && (decide (n ≤ 200) && decide (m ≤ 100)))) := by
    intro a b
    simp [checkP, a, b, hl, hl']
  have HNo1 : Hid (p.sectors.any longB = true → checkP p = false) := checkP_long
  have HNo2 : Hid (∀ (k : Nat) (x : PPut), p.cache[k]? = some x → putB n x = false → checkP p = false) := by rw [← hl]; exact checkP_put p
  generalize hv : checkP p = v at HEnd HNo1 HNo2 ⊢
  have HL := Lib.hid (And.intro hl hl')
  clear hv hl hl'
  go_enter Try.func55, Try.ntmps55
  go_wp2
  go_loopw [3] (fun i wr => ∃ k : Nat, k ≤ n ∧ i = .int .i64 k ∧ Hid ((p.sectors.take k).any longB = false) ∧ Below w.heap.size w wr ∧ Hid (Blk wr w.heap.size 25 #[.slice A n c, .slice A' m d])) (fun i _ => n - (intOf i).toNat)
  case atStart => exact ⟨0, Nat.zero_le _, rfl, rfl, by go_grown, Blk.new _ _ _⟩
  case round =>
    obtain ⟨k, hk, rfl, HU, hB, HBX⟩ := hrel
    have q0 := HBX.out.cells 0 _ rfl
    have q1 := HBX.out.cells 1 _ rfl
    simp only [List.getElem_toArray, List.getElem_cons_zero, List.getElem_cons_succ] at q0 q1
    by_cases hlt : k < n
    · obtain ⟨x, hx⟩ : ∃ x, p.sectors[k]? = some x := ⟨p.sectors[k]'(by rw [HL.out.1]; exact hlt), List.getElem?_eq_getElem _⟩
      rcases (HP.step hB).1.2 with h0 | ⟨b, off, rfl, hb, hC⟩
      · omega
      have c0 := hC.str hx
      have HX := Lib.hid hx
      have i0 : (0 : Int) ≤ (k : Int) := by omega
      have i1 : (k : Int) < (n : Int) := by omega
      clear hx hC
      go_wp2
      all_goals first
        | (go_round
           case rel => exact ⟨k + 1, by omega, by go_num, anyTo_succ HX.out HU.out (by simp [longB]; omega), by go_grown, HBX⟩
           case measure => simp [intOf]; omega)
        | (go_ret
           exact ⟨ret_bool (HNo1.out (any_yes HX.out (by simp [longB]; omega))).symm, by go_grown⟩)
    · obtain rfl : k = n := by omega
      have HS : Hid (p.sectors.any longB = false) := any_end (by rw [HL.out.1]; exact HU.out)
      go_wp2
      go_loopw [4] (fun i wq => ∃ j : Nat, j ≤ m ∧ i = .int .i64 j ∧ Hid ((p.cache.take j).all (putB k) = true) ∧ Below w.heap.size w wq ∧ Hid (Blk wq w.heap.size 25 #[.slice A k c, .slice A' m d])) (fun i _ => m - (intOf i).toNat)
      case atStart => exact ⟨0, Nat.zero_le _, rfl, rfl, hB, HBX⟩
      case round =>
        obtain ⟨j, hj, rfl, HV, hB2, HBY⟩ := hrel
        have r0 := HBY.out.cells 0 _ rfl
        have r1 := HBY.out.cells 1 _ rfl
        have rl := HBY.out.lt
        simp only [List.getElem_toArray, List.getElem_cons_zero, List.getElem_cons_succ] at r0 r1
        by_cases hlt2 : j < m
        · obtain ⟨x, hx⟩ : ∃ x, p.cache[j]? = some x := ⟨p.cache[j]'(by rw [HL.out.2]; exact hlt2), List.getElem?_eq_getElem _⟩
          rcases (HP.step hB2).2.2 with h0 | ⟨b, off, rfl, hb, hC⟩
          · omega
          obtain ⟨c0, c1⟩ := hC.put hx
          have HX := Lib.hid hx
          have HC := Lib.hid (hB2)
          have i0 : (0 : Int) ≤ (j : Int) := by omega
          have i1 : (j : Int) < (m : Int) := by omega
          clear hx hC q0 q1
          by_cases hp0 : x.pos < 0
          · go_wp2
            go_ret
            exact ⟨ret_bool (HNo2.out j x HX.out (by simp [putB, hasB]; omega)).symm, by go_grown⟩
          · by_cases hp1 : (k : Int) ≤ x.pos
            · go_wp2
              go_ret
              exact ⟨ret_bool (HNo2.out j x HX.out (by simp [putB, hasB]; omega)).symm, by go_grown⟩
            · by_cases ht : 128 < x.text.size
              · go_wp2
                go_ret
                exact ⟨ret_bool (HNo2.out j x HX.out (by simp [putB, longB]; omega)).symm, by go_grown⟩
              · go_wp2
                go_round
                case rel => exact ⟨j + 1, by omega, by go_num, upP_succ HX.out HV.out (by simp [putB, longB, hasB]; omega), by go_grown, HBY.out.alloc _⟩
                case measure => simp [intOf]; omega
        · obtain rfl : j = m := by omega
          have HT : Hid (p.cache.all (putB k) = true) := by have := HV.out; rw [← HL.out.2, List.take_length] at this; exact this
          have HE := Lib.hid (HEnd.out HS.out HT.out)
          clear q0 q1
          by_cases h1 : 1 ≤ k
          · by_cases h2 : k ≤ 200
            · by_cases h3 : j ≤ 100
              · go_wp2
                go_ret
                exact ⟨ret_bool (by rw [HE.out]; simp [h1, h2]; omega), hB2⟩
              · go_wp2
                go_ret
                exact ⟨ret_bool (by rw [HE.out]; simp [h1, h2]; omega), hB2⟩
            · go_wp2
              go_ret
              exact ⟨ret_bool (by rw [HE.out]; simp [h2]), hB2⟩
          · go_wp2
            go_ret
            exact ⟨ret_bool (by rw [HE.out]; simp [h1]), hB2⟩
def readTo (p : Plat) (i : Nat) (k : Nat) : ByteArray := readOf ⟨p.sectors, p.cache.take k⟩ i
theorem readTo_zero (p : Plat) (i : Nat) : readTo p i 0 = p.sectors.getD i ByteArray.empty := by simp [readTo, readOf_bare]
theorem readTo_all (p : Plat) (i : Nat) : readTo p i p.cache.length = readOf p i := by unfold readTo; rw [List.take_length]
theorem readTo_succ {p : Plat} {i k : Nat} {x : PPut} (h : p.cache[k]? = some x) : readTo p i (k + 1) = if x.pos = (i : Int) then x.text else readTo p i k := by
  unfold readTo readOf
  have : p.cache.take (k + 1) = p.cache.take k ++ [x] := by rw [List.take_add_one, h]; rfl
  simp only [this, lastP_snoc]
  by_cases e : x.pos = (i : Int)
  · rw [if_pos e, if_pos e]
  · rw [if_neg e, if_neg e]
set_option maxHeartbeats 1000000 in
theorem refread_any (p : Plat) (i : Int) (A A' : Option Addr) (n m c d : Nat) (w : World) (hP : PlatAt w w.heap.size A n A' m p) (hn9 : n ≤ 100000) (hm9 : m ≤ 100000) :
    Calls Try.prog 43 #[.agg #[.slice A n c, .slice A' m d], .int .i64 i] w (OutR w (readF p i)) := by
  have HP := hP.pre
  obtain ⟨⟨hl, _⟩, ⟨hl', _⟩⟩ := hP
  by_cases hc : checkP p = true
  · by_cases hh : hasB n i = true
    · have hh' := (hasB_iff _ _).1 hh
      obtain ⟨j, rfl⟩ := Int.eq_ofNat_of_zero_le hh'.1
      have hjn : j < n := by omega
      have HE : Hid (readF p (j : Int) = (readTo p j m, 0)) := by
        rw [Hid, readF_ok hc, hl, if_pos hh, ← hl', readTo_all]; rfl
      have hZ := readTo_zero p j
      generalize hg : readF p (j : Int) = rr at HE ⊢
      obtain ⟨x, hx⟩ : ∃ x, p.sectors[j]? = some x := ⟨p.sectors[j]'(by omega), List.getElem?_eq_getElem _⟩
      have HZ : Hid (x = readTo p j 0) := by rw [Hid, hZ]; simp [List.getD, hx]
      have HX := Lib.hid hx
      have HL := Lib.hid hl'
      have HC := Lib.hid hc
      clear hl hl' hc hg hZ hx hh hh'
      go_enter Try.func43, Try.ntmps43
      go_wp2_with fail
      refine (refcheck_any p A A' n m c d _ (HP.step (by go_grown)) hn9 hm9).mono ?_
      rintro e w1 ⟨rfl, hb1⟩
      rw [HC.out]
      have hX := (Blk.new w _ _).below hb1 (by simp)
      have hB1 : Below w.heap.size w w1 := Below.trans (by go_grown) (hb1.mono (by simp))
      have q0 := hX.cells 0 _ rfl
      have q1 := hX.cells 1 _ rfl
      simp only [List.getElem_toArray, List.getElem_cons_zero, List.getElem_cons_succ] at q0 q1
      rcases (HP.step hB1).1.2 with h0 | ⟨b, off, rfl, hb, hC⟩
      · omega
      have c0 := hC.str HX.out
      clear hb1 hC
      go_wp2_with fail
      clear q0 q1 c0
      go_loop [6, 7] (fun s i => ∃ k : Nat, k ≤ m ∧ i = .int .i64 k ∧ s = .string (readTo p j k)) (fun _ i => m - (intOf i).toNat)
      case atStart => exact ⟨0, Nat.zero_le _, rfl, by rw [HZ.out]⟩
      case round =>
        obtain ⟨k, hk, rfl, rfl⟩ := hrel
        have q0 := hX.cells 0 _ rfl
        have q1 := hX.cells 1 _ rfl
        simp only [List.getElem_toArray, List.getElem_cons_zero, List.getElem_cons_succ] at q0 q1
        by_cases hlt : k < m
        · obtain ⟨y, hy⟩ : ∃ x, p.cache[k]? = some x := ⟨p.cache[k]'(by rw [HL.out]; exact hlt), List.getElem?_eq_getElem _⟩
          rcases (HP.step hB1).2.2 with h0 | ⟨b', off', rfl, hb', hC'⟩
          · omega
          obtain ⟨c0, c1⟩ := hC'.put hy
          have HS := Lib.hid (readTo_succ (i := j) hy)
          clear hC' hy
          by_cases hpj : y.pos = (j : Int)
          · have t1 : (y.pos == (j : Int)) = true := by simpa using hpj
            rw [if_pos hpj] at HS
            clear hpj
            go_wp2_with fail
            go_round
            case rel => exact ⟨k + 1, by omega, by go_num, by rw [HS.out]⟩
            case measure => simp [intOf]; omega
          · have t1 : (y.pos == (j : Int)) = false := by simpa using hpj
            rw [if_neg hpj] at HS
            clear hpj
            go_wp2_with fail
            go_round
            case rel => exact ⟨k + 1, by omega, by go_num, by rw [HS.out]⟩
            case measure => simp [intOf]; omega
        · obtain rfl : k = m := by omega
          go_wp2_with fail
          go_ret2
          exact ⟨by rw [HE.out]; rfl, hB1⟩
    · have HE : Hid (readF p i = (⟨#[]⟩, 130)) := by rw [Hid, readF_ok hc, hl, if_neg hh]; rfl
      have hh2 : i < 0 ∨ (0 ≤ i ∧ (n : Int) ≤ i) := by
        have := mt (hasB_iff n i).2 hh
        omega
      generalize hg : readF p i = rr at HE ⊢
      have HC := Lib.hid hc
      clear hl hl' hc hg hh
      rcases hh2 with hh2 | ⟨hh2, hh3⟩
      all_goals
        go_enter Try.func43, Try.ntmps43
        go_wp2_with fail
        refine (refcheck_any p A A' n m c d _ (HP.step (by go_grown)) hn9 hm9).mono ?_
        rintro e w1 ⟨rfl, hb1⟩
        rw [HC.out]
        have hX := (Blk.new w _ _).below hb1 (by simp)
        have hB1 : Below w.heap.size w w1 := Below.trans (by go_grown) (hb1.mono (by simp))
        have q0 := hX.cells 0 _ rfl
        have q1 := hX.cells 1 _ rfl
        simp only [List.getElem_toArray, List.getElem_cons_zero, List.getElem_cons_succ] at q0 q1
        clear hb1
        go_wp2_with fail
        go_ret2
        exact ⟨by rw [HE.out]; rfl, hB1⟩
  · have HE : Hid (readF p i = (⟨#[]⟩, 1)) := by unfold Hid readF; rw [if_neg hc]; rfl
    have HC := Lib.hid (show checkP p = false by simpa using hc)
    generalize hg : readF p i = rr at HE ⊢
    clear hl hl' hc hg
    go_enter Try.func43, Try.ntmps43
    go_wp2_with fail
    refine (refcheck_any p A A' n m c d _ (HP.step (by go_grown)) hn9 hm9).mono ?_
    rintro e w1 ⟨rfl, hb1⟩
    rw [HC.out]
    have hB1 : Below w.heap.size w w1 := Below.trans (by go_grown) (hb1.mono (by simp))
    clear hb1
    go_wp2_with fail
    go_ret2
    exact ⟨by rw [HE.out]; rfl, hB1⟩
end Go.Proofs.Ytefodifmfjpnlaa
