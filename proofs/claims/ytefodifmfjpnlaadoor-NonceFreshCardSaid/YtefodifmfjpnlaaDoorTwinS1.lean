/- chapter 13's reference: Own, Check. -/
import Derived.Test.YtefodifmfjpnlaaDoorTwinF
set_option linter.unusedVariables false
namespace Go.Proofs.YtefodifmfjpnlaaDoor
open Go.RowKit
set_option maxRecDepth 100000 in
set_option maxHeartbeats 400000 in
theorem towns_any (L : List ByteArray) (A : Option Addr) (n c : Nat) (w : World) (hL : SlR encS 1 w w.heap.size A n L) (hn : n ≤ 1000) :
    Calls Tryd.prog 24 #[.slice A n c] w fun e w' => ∃ A' c', e = .returned (.slice A' n c') ∧ w'.ownsRow w.heap.size 9 1 (.slice A' n c') n (flat encS L) ∧ Below w.heap.size w w' := by
  obtain ⟨i0, hi0, hz0, hz1, hz2⟩ := info_parts str_info
  have HR := Lib.hid (hL.reads encS_len)
  clear hL
  go_enter Tryd.func24, Tryd.ntmps24
  go_wp2_with (at_builtin; refine wpList_append_any _ rfl (.tmp 4) (.tmp 5) _ rfl w.heap.size _ i0 _ 1 16 Tryd.underlying22 hi0 hz0 hz1 hz2 rfl (by omega) (.slice none 0 0) 0 [] rfl (World.ownsRow_nil _ _ _ _) w.heap.size A n c (flat encS L) rfl HR.out (one_flatS L) (by simp only [maxLen]; omega) (by omega) (Nat.le_refl _) ?_; intro v1 w1 hown1 hg1 hat1; obtain ⟨A1, c1, rfl, _, _, _⟩ := own_form hown1)
  simp only [Nat.zero_add, List.nil_append] at hown1 ⊢
  have HO := Lib.hid (And.intro hown1 (below_of_grown hg1))
  clear hown1 hg1 hat1
  go_ret
  exact ⟨A1, c1, rfl, HO.out.1, HO.out.2⟩
set_option maxRecDepth 100000 in
set_option maxHeartbeats 1000000 in
theorem own13_any (p : Plat) (A A' : Option Addr) (n m c d : Nat) (w : World) (hP : PlatAt w w.heap.size A n A' m p) (hn : n ≤ 1000) (hm : m ≤ 1000) :
    Calls Tryd.prog 14 #[.agg #[.slice A n c, .slice A' m d]] w fun e w' => ∃ v, e = .returned v ∧ PlatOut w' w.heap.size v p ∧ Below w.heap.size w w' := by
  obtain ⟨i1, hj0, hy0, hy1, hy2⟩ := info_parts put_info
  have HP := hP.pre
  clear hP
  have HL := Lib.hid (And.intro (HP.step (Below.refl _ _)).1.1 (HP.step (Below.refl _ _)).2.1)
  go_enter Tryd.func14, Tryd.ntmps14
  go_wp2_with fail
  refine (towns_any p.sectors A n c _ (HP.step (by go_grown)).1 hn).mono ?_
  rintro e w1 ⟨A1, c1, rfl, ho1, hb1⟩
  have hk := ((Blk.new w _ _).alloc _).below hb1 (by simp; omega)
  have hr := (Blk.new_at (g := w.heap.size + 1) (by simp) _ _).below hb1 (by simp)
  have hB1 : Below w.heap.size w w1 := Below.trans (by go_grown) (hb1.mono (by simp; omega))
  have k0 := hk.cells 0 _ rfl
  have k1 := hk.cells 1 _ rfl
  have hkl := hk.lt
  have r0 := hr.cells 0 _ rfl
  have r1 := hr.cells 1 _ rfl
  have rf := hr.frozen
  have hrl := hr.lt
  simp only [List.getElem_toArray, List.getElem_cons_zero, List.getElem_cons_succ] at k0 k1 r0 r1
  have HO1 := Lib.hid (own_base (base' := w.heap.size) ho1 (by simp; omega))
  have HRB := Lib.hid hr
  clear hk hb1 ho1 hr
  go_wp2_with (at_builtin; refine wpList_append_any _ rfl (.tmp 9) (.tmp 11) _ rfl w.heap.size _ i1 _ 2 24 Tryd.underlying23 hj0 hy0 hy1 hy2 rfl (by omega) (.slice none 0 0) 0 [] rfl (World.ownsRow_nil _ _ _ _) (w1.heap.size + 1) A' m d (flat encP p.cache) rfl (((HP.step (by go_grown)).2.reads encP_len).more (by simp)) (one_flatP p.cache) (by simp only [maxLen]; omega) (by omega) (by have := hB1.size; simp; omega) ?_; intro v2 w2 hown2 hg2 hat2; obtain ⟨A2, c2, rfl, _, _, _⟩ := own_form hown2; have hs2 := Blk.grown (Blk.new w1 25 #[.slice A1 n c1, .slice none 0 0]) hg2 (by simp [Value.ownBlock]); have hr2 := Blk.grown (HRB.out.alloc (.cells #[.slice A1 n c1, .slice none 0 0] 25)) hg2 (by simp [Value.ownBlock]); have s0 := hs2.cells 0 _ rfl; have s1 := hs2.cells 1 _ rfl; have sf := hs2.frozen; have hsl := hs2.lt; have q0 := hr2.cells 0 _ rfl; have q1 := hr2.cells 1 _ rfl; have qf := hr2.frozen; simp only [List.getElem_toArray, List.getElem_cons_zero, List.getElem_cons_succ] at s0 s1 q0 q1)
  have hB2 : Below w.heap.size w w2 := Below.grown (by have := hB1.size; go_grown) hg2 (by have := hB1.size; simp; omega) (by simp [Value.ownBlock])
  simp only [Nat.zero_add, List.nil_append] at hown2 ⊢
  have h1 := own_below (HO1.out.alloc (.cells #[.slice A1 n c1, .slice none 0 0] 25)) (below_of_grown hg2) (Nat.le_refl _)
  have n1 := own_blk_ne h1 hr2 (by decide)
  have n2 := own_blk_ne hown2 hr2 (by decide)
  have m1 := own_blk_ne h1 hs2 (by decide)
  have m2 := own_blk_ne hown2 hs2 (by decide)
  have HO := Lib.hid (And.intro (And.intro h1 hown2) (And.intro (And.intro n1 n2) (And.intro m1 m2)))
  have hz := hB1.size
  clear hown2 hg2 hat2 h1 n1 n2 m1 m2 hs2 hr2 k0 k1 r0 r1 rf
  go_wp2_with (with_reducible refine end_at ?_)
  obtain ⟨⟨h1, h2⟩, ⟨n1, n2⟩, m1, m2⟩ := HO.out
  obtain ⟨rfl, rfl⟩ := HL.out
  refine end_ret (v := .agg #[.slice A1 p.sectors.length c1, .slice A2 p.cache.length c2]) (by simp [results, Tryd.results14, go_sem, q0, q1]; try rfl) rfl ⟨_, rfl, ⟨A1, c1, A2, c2, rfl, ?_, ?_⟩, ?_⟩
  · repeat' (first | (with_reducible exact h1) | (with_reducible refine own_far ?_ n1 _ _) | (with_reducible refine own_far ?_ m1 _ _))
  · repeat' (first | (with_reducible exact h2) | (with_reducible refine own_far ?_ n2 _ _) | (with_reducible refine own_far ?_ m2 _ _))
  · go_grown
end Go.Proofs.YtefodifmfjpnlaaDoor
/- chapter 13's reference: Check, Read. -/
namespace Go.Proofs.YtefodifmfjpnlaaDoor
open Go.RowKit
theorem checkP_long {p : Plat} (h : p.sectors.any longB = true) : checkP p = false := by simp [checkP, h]
set_option maxRecDepth 100000 in
set_option maxHeartbeats 1000000 in
theorem refcheck_any (p : Plat) (A A' : Option Addr) (n m c d : Nat) (w : World) (hP : PlatAt w w.heap.size A n A' m p) (hn9 : n ≤ 100000) (hm9 : m ≤ 100000) :
    Calls Tryd.prog 52 #[.agg #[.slice A n c, .slice A' m d]] w fun e w' => e = .returned (.bool (checkP p)) ∧ Below w.heap.size w w' := by
  have HP := hP.pre
  obtain ⟨⟨hl, _⟩, ⟨hl', _⟩⟩ := hP
  have HEnd : Hid (p.sectors.any longB = false → p.cache.all (putB n) = true → checkP p = (decide (1 ≤ n) && (decide (n ≤ 200) && decide (m ≤ 100)))) := by
    intro a b
    simp [checkP, a, b, hl, hl']
  have HNo1 : Hid (p.sectors.any longB = true → checkP p = false) := checkP_long
  have HNo2 : Hid (∀ (k : Nat) (x : PPut), p.cache[k]? = some x → putB n x = false → checkP p = false) := by rw [← hl]; exact checkP_put p
  generalize hv : checkP p = v at HEnd HNo1 HNo2 ⊢
  have HL := Lib.hid (And.intro hl hl')
  clear hv hl hl'
  go_enter Tryd.func52, Tryd.ntmps52
  go_wp2
  go_loopw [3] (fun i wr => ∃ k : Nat, k ≤ n ∧ i = .int .i64 k ∧ Hid ((p.sectors.take k).any longB = false) ∧ Below w.heap.size w wr ∧ Hid (Blk wr w.heap.size 25 #[.slice A n c, .slice A' m d])) (fun i _ => n - (intOf i).toNat)
  case atStart => exact ⟨0, Nat.zero_le _, rfl, rfl, by go_grown, Blk.new _ _ _⟩
  case round =>
    obtain ⟨k, hk, rfl, HU, hB, HBX⟩ := hrel
    have q0 := HBX.out.cells 0 _ rfl
    have q1 := HBX.out.cells 1 _ rfl
    simp only [List.getElem_toArray, List.getElem_cons_zero, List.getElem_cons_succ] at q0 q1
    by_cases hlt : k < n
    · obtain ⟨x, hx⟩ : ∃ x, p.sectors[k]? = some x := ⟨p.sectors[k]'(by rw [HL.out.1]; exact hlt), List.getElem?_eq_getElem _⟩
      rcases (HP.step hB).1.2 with h0 | ⟨b, off, rfl, hb, hC⟩
      · omega
      have c0 := hC.str hx
      have HX := Lib.hid hx
      have i0 : (0 : Int) ≤ (k : Int) := by omega
      have i1 : (k : Int) < (n : Int) := by omega
      clear hx hC
      go_wp2
      all_goals first
        | (go_round
           case rel => exact ⟨k + 1, by omega, by go_num, anyTo_succ HX.out HU.out (by simp [longB]; omega), by go_grown, HBX⟩
           case measure => simp [intOf]; omega)
        | (go_ret
           exact ⟨ret_bool (HNo1.out (any_yes HX.out (by simp [longB]; omega))).symm, by go_grown⟩)
    · obtain rfl : k = n := by omega
      have HS : Hid (p.sectors.any longB = false) := any_end (by rw [HL.out.1]; exact HU.out)
      go_wp2
      go_loopw [4] (fun i wq => ∃ j : Nat, j ≤ m ∧ i = .int .i64 j ∧ Hid ((p.cache.take j).all (putB k) = true) ∧ Below w.heap.size w wq ∧ Hid (Blk wq w.heap.size 25 #[.slice A k c, .slice A' m d])) (fun i _ => m - (intOf i).toNat)
      case atStart => exact ⟨0, Nat.zero_le _, rfl, rfl, hB, HBX⟩
      case round =>
        obtain ⟨j, hj, rfl, HV, hB2, HBY⟩ := hrel
        have r0 := HBY.out.cells 0 _ rfl
        have r1 := HBY.out.cells 1 _ rfl
        have rl := HBY.out.lt
        simp only [List.getElem_toArray, List.getElem_cons_zero, List.getElem_cons_succ] at r0 r1
        by_cases hlt2 : j < m
        · obtain ⟨x, hx⟩ : ∃ x, p.cache[j]? = some x := ⟨p.cache[j]'(by rw [HL.out.2]; exact hlt2), List.getElem?_eq_getElem _⟩
          rcases (HP.step hB2).2.2 with h0 | ⟨b, off, rfl, hb, hC⟩
          · omega
          obtain ⟨c0, c1⟩ := hC.put hx
          have HX := Lib.hid hx
          have HC := Lib.hid (hB2)
          have i0 : (0 : Int) ≤ (j : Int) := by omega
          have i1 : (j : Int) < (m : Int) := by omega
          clear hx hC q0 q1
          by_cases hp0 : x.pos < 0
          · go_wp2
            go_ret
            exact ⟨ret_bool (HNo2.out j x HX.out (by simp [putB, hasB]; omega)).symm, by go_grown⟩
          · by_cases hp1 : (k : Int) ≤ x.pos
            · go_wp2
              go_ret
              exact ⟨ret_bool (HNo2.out j x HX.out (by simp [putB, hasB]; omega)).symm, by go_grown⟩
            · by_cases ht : 128 < x.text.size
              · go_wp2
                go_ret
                exact ⟨ret_bool (HNo2.out j x HX.out (by simp [putB, longB]; omega)).symm, by go_grown⟩
              · go_wp2
                go_round
                case rel => exact ⟨j + 1, by omega, by go_num, upP_succ HX.out HV.out (by simp [putB, longB, hasB]; omega), by go_grown, HBY.out.alloc _⟩
                case measure => simp [intOf]; omega
        · obtain rfl : j = m := by omega
          have HT : Hid (p.cache.all (putB k) = true) := by have := HV.out; rw [← HL.out.2, List.take_length] at this; exact this
          have HE := Lib.hid (HEnd.out HS.out HT.out)
          clear q0 q1
          by_cases h1 : 1 ≤ k
          · by_cases h2 : k ≤ 200
            · by_cases h3 : j ≤ 100
              · go_wp2
                go_ret
                exact ⟨ret_bool (by rw [HE.out]; simp [h1, h2]; omega), hB2⟩
              · go_wp2
                go_ret
                exact ⟨ret_bool (by rw [HE.out]; simp [h1, h2]; omega), hB2⟩
            · go_wp2
              go_ret
              exact ⟨ret_bool (by rw [HE.out]; simp [h2]), hB2⟩
          · go_wp2
            go_ret
            exact ⟨ret_bool (by rw [HE.out]; simp [h1]), hB2⟩
def readTo (p : Plat) (i : Nat) (k : Nat) : ByteArray := readOf ⟨p.sectors, p.cache.take k⟩ i
theorem readTo_zero (p : Plat) (i : Nat) : readTo p i 0 = p.sectors.getD i ByteArray.empty := by simp [readTo, readOf_bare]
theorem readTo_all (p : Plat) (i : Nat) : readTo p i p.cache.length = readOf p i := by unfold readTo; rw [List.take_length]
theorem readTo_succ {p : Plat} {i k : Nat} {x : PPut} (h : p.cache[k]? = some x) : readTo p i (k + 1) = if x.pos = (i : Int) then x.text else readTo p i k := by
  unfold readTo readOf
  have : p.cache.take (k + 1) = p.cache.take k ++ [x] := by rw [List.take_add_one, h]; rfl
  simp only [this, lastP_snoc]
  by_cases e : x.pos = (i : Int)
  · rw [if_pos e, if_pos e]
  · rw [if_neg e, if_neg e]
set_option maxRecDepth 100000 in
set_option maxHeartbeats 1000000 in
theorem refread_any (p : Plat) (i : Int) (A A' : Option Addr) (n m c d : Nat) (w : World) (hP : PlatAt w w.heap.size A n A' m p) (hn9 : n ≤ 100000) (hm9 : m ≤ 100000) :
    Calls Tryd.prog 36 #[.agg #[.slice A n c, .slice A' m d], .int .i64 i] w (OutR w (readF p i)) := by
  have HP := hP.pre
  obtain ⟨⟨hl, _⟩, ⟨hl', _⟩⟩ := hP
  by_cases hc : checkP p = true
  · by_cases hh : hasB n i = true
    · have hh' := (hasB_iff _ _).1 hh
      obtain ⟨j, rfl⟩ := Int.eq_ofNat_of_zero_le hh'.1
      have hjn : j < n := by omega
      have HE : Hid (readF p (j : Int) = (readTo p j m, 0)) := by
        rw [Hid, readF_ok hc, hl, if_pos hh, ← hl', readTo_all]; rfl
      have hZ := readTo_zero p j
      generalize hg : readF p (j : Int) = rr at HE ⊢
      obtain ⟨x, hx⟩ : ∃ x, p.sectors[j]? = some x := ⟨p.sectors[j]'(by omega), List.getElem?_eq_getElem _⟩
      have HZ : Hid (x = readTo p j 0) := by rw [Hid, hZ]; simp [List.getD, hx]
      have HX := Lib.hid hx
      have HL := Lib.hid hl'
      have HC := Lib.hid hc
      clear hl hl' hc hg hZ hx hh hh'
      go_enter Tryd.func36, Tryd.ntmps36
      go_wp2_with fail
      refine (refcheck_any p A A' n m c d _ (HP.step (by go_grown)) hn9 hm9).mono ?_
      rintro e w1 ⟨rfl, hb1⟩
      rw [HC.out]
      have hX := (Blk.new w _ _).below hb1 (by simp)
      have hB1 : Below w.heap.size w w1 := Below.trans (by go_grown) (hb1.mono (by simp))
      have q0 := hX.cells 0 _ rfl
      have q1 := hX.cells 1 _ rfl
      simp only [List.getElem_toArray, List.getElem_cons_zero, List.getElem_cons_succ] at q0 q1
      rcases (HP.step hB1).1.2 with h0 | ⟨b, off, rfl, hb, hC⟩
      · omega
      have c0 := hC.str HX.out
      clear hb1 hC
      go_wp2_with fail
      clear q0 q1 c0
      go_loop [6, 7] (fun s i => ∃ k : Nat, k ≤ m ∧ i = .int .i64 k ∧ s = .string (readTo p j k)) (fun _ i => m - (intOf i).toNat)
      case atStart => exact ⟨0, Nat.zero_le _, rfl, by rw [HZ.out]⟩
      case round =>
        obtain ⟨k, hk, rfl, rfl⟩ := hrel
        have q0 := hX.cells 0 _ rfl
        have q1 := hX.cells 1 _ rfl
        simp only [List.getElem_toArray, List.getElem_cons_zero, List.getElem_cons_succ] at q0 q1
        by_cases hlt : k < m
        · obtain ⟨y, hy⟩ : ∃ x, p.cache[k]? = some x := ⟨p.cache[k]'(by rw [HL.out]; exact hlt), List.getElem?_eq_getElem _⟩
          rcases (HP.step hB1).2.2 with h0 | ⟨b', off', rfl, hb', hC'⟩
          · omega
          obtain ⟨c0, c1⟩ := hC'.put hy
          have HS := Lib.hid (readTo_succ (i := j) hy)
          clear hC' hy
          by_cases hpj : y.pos = (j : Int)
          · have t1 : (y.pos == (j : Int)) = true := by simpa using hpj
            rw [if_pos hpj] at HS
            clear hpj
            go_wp2_with fail
            go_round
            case rel => exact ⟨k + 1, by omega, by go_num, by rw [HS.out]⟩
            case measure => simp [intOf]; omega
          · have t1 : (y.pos == (j : Int)) = false := by simpa using hpj
            rw [if_neg hpj] at HS
            clear hpj
            go_wp2_with fail
            go_round
            case rel => exact ⟨k + 1, by omega, by go_num, by rw [HS.out]⟩
            case measure => simp [intOf]; omega
        · obtain rfl : k = m := by omega
          go_wp2_with fail
          go_ret2
          exact ⟨by rw [HE.out]; rfl, hB1⟩
    · have HE : Hid (readF p i = (⟨#[]⟩, 130)) := by rw [Hid, readF_ok hc, hl, if_neg hh]; rfl
      have hh2 : i < 0 ∨ (0 ≤ i ∧ (n : Int) ≤ i) := by
        have := mt (hasB_iff n i).2 hh
        omega
      generalize hg : readF p i = rr at HE ⊢
      have HC := Lib.hid hc
      clear hl hl' hc hg hh
      rcases hh2 with hh2 | ⟨hh2, hh3⟩
      all_goals
        go_enter Tryd.func36, Tryd.ntmps36
        go_wp2_with fail
        refine (refcheck_any p A A' n m c d _ (HP.step (by go_grown)) hn9 hm9).mono ?_
        rintro e w1 ⟨rfl, hb1⟩
        rw [HC.out]
        have hX := (Blk.new w _ _).below hb1 (by simp)
        have hB1 : Below w.heap.size w w1 := Below.trans (by go_grown) (hb1.mono (by simp))
        have q0 := hX.cells 0 _ rfl
        have q1 := hX.cells 1 _ rfl
        simp only [List.getElem_toArray, List.getElem_cons_zero, List.getElem_cons_succ] at q0 q1
        clear hb1
        go_wp2_with fail
        go_ret2
        exact ⟨by rw [HE.out]; rfl, hB1⟩
  · have HE : Hid (readF p i = (⟨#[]⟩, 1)) := by unfold Hid readF; rw [if_neg hc]; rfl
    have HC := Lib.hid (show checkP p = false by simpa using hc)
    generalize hg : readF p i = rr at HE ⊢
    clear hl hl' hc hg
    go_enter Tryd.func36, Tryd.ntmps36
    go_wp2_with fail
    refine (refcheck_any p A A' n m c d _ (HP.step (by go_grown)) hn9 hm9).mono ?_
    rintro e w1 ⟨rfl, hb1⟩
    rw [HC.out]
    have hB1 : Below w.heap.size w w1 := Below.trans (by go_grown) (hb1.mono (by simp))
    clear hb1
    go_wp2_with fail
    go_ret2
    exact ⟨by rw [HE.out]; rfl, hB1⟩
end Go.Proofs.YtefodifmfjpnlaaDoor
/- chapter 13's reference: Write; a Crash of fates 1 alone, Sync. -/
namespace Go.Proofs.YtefodifmfjpnlaaDoor
open Go.RowKit
theorem write_cases (p : Plat) (i : Int) (s : ByteArray) (n m : Nat) (hl : p.sectors.length = n) (hm : p.cache.length = m) :
    (checkP p = false ∧ writeF p i s = (noPlat, 1)) ∨ (checkP p = true ∧ (i < 0 ∨ (0 ≤ i ∧ (n : Int) ≤ i)) ∧ writeF p i s = (noPlat, 130)) ∨ (checkP p = true ∧ 0 ≤ i ∧ i < n ∧ 128 < s.size ∧ writeF p i s = (noPlat, 2)) ∨
      (checkP p = true ∧ 0 ≤ i ∧ i < n ∧ s.size ≤ 128 ∧ 100 ≤ m ∧ writeF p i s = (noPlat, 260)) ∨ (checkP p = true ∧ 0 ≤ i ∧ i < n ∧ s.size ≤ 128 ∧ m < 100 ∧ writeF p i s = (⟨p.sectors, p.cache ++ [⟨i, s⟩]⟩, 0)) := by
  subst hl; subst hm
  unfold writeF oneF
  by_cases hc : checkP p = true
  · by_cases hh : hasB p.sectors.length i = true
    · have hh' := (hasB_iff _ _).1 hh
      by_cases hs : s.size ≤ 128
      · by_cases h4 : 100 ≤ p.cache.length
        · exact .inr (.inr (.inr (.inl ⟨hc, hh'.1, hh'.2, hs, h4, by simp [hc, hh, hs, h4]⟩)))
        · exact .inr (.inr (.inr (.inr ⟨hc, hh'.1, hh'.2, hs, by omega, by simp [hc, hh, hs, h4]⟩)))
      · exact .inr (.inr (.inl ⟨hc, hh'.1, hh'.2, by omega, by simp [hc, hh, hs]⟩))
    · have := mt (hasB_iff p.sectors.length i).2 hh
      exact .inr (.inl ⟨hc, by omega, by simp [hc, hh]⟩)
  · exact .inl ⟨by simpa using hc, by simp [hc]⟩
theorem out2_no {w w' : World} {r : Plat × Int} {e : Ending} {er : Int} (h : r = (noPlat, er)) (he : e = .returned (.tuple #[.agg #[.slice none 0 0, .slice none 0 0], .int .i64 er])) (hb : Below w.heap.size w w') : Out2P w r e w' := by
  subst h
  exact ⟨_, he, ⟨none, 0, none, 0, rfl, World.ownsRow_nil _ _ _ _, World.ownsRow_nil _ _ _ _⟩, hb⟩
set_option maxRecDepth 100000 in
set_option maxHeartbeats 1000000 in
theorem refwrite_any (p : Plat) (i : Int) (s : ByteArray) (A A' : Option Addr) (n m c d : Nat) (w : World) (hP : PlatAt w w.heap.size A n A' m p) (hn9 : n ≤ 1000) (hm9 : m ≤ 1000) :
    Calls Tryd.prog 58 #[.agg #[.slice A n c, .slice A' m d], .int .i64 i, .string s] w (Out2P w (writeF p i s)) := by
  have HP := hP.pre
  have hcs := write_cases p i s n m hP.1.1 hP.2.1
  have HL := Lib.hid (And.intro hP.1.1 hP.2.1)
  clear hP
  generalize hg : writeF p i s = rr at hcs ⊢
  clear hg
  obtain ⟨i1, hj0, hy0, hy1, hy2⟩ := info_parts put_info
  have bad : ∀ (er : Int) (v : Bool), rr = (noPlat, er) → checkP p = v → ((v = false ∧ er = 1) ∨ (v = true ∧ (i < 0 ∨ (0 ≤ i ∧ (n : Int) ≤ i)) ∧ er = 130) ∨ (v = true ∧ 0 ≤ i ∧ i < n ∧ 128 < s.size ∧ er = 2) ∨ (v = true ∧ 0 ≤ i ∧ i < n ∧ s.size ≤ 128 ∧ 100 ≤ m ∧ er = 260)) →
      Calls Tryd.prog 58 #[.agg #[.slice A n c, .slice A' m d], .int .i64 i, .string s] w (Out2P w rr) := by
    intro er v h1 h2 h3
    have HR := Lib.hid h1
    have HC := Lib.hid h2
    clear h1 h2 hj0 hy0 hy1 hy2 hcs
    rcases h3 with ⟨rfl, rfl⟩ | ⟨rfl, h3 | ⟨h3, h4⟩, rfl⟩ | ⟨rfl, h3, h4, h5, rfl⟩ | ⟨rfl, h3, h4, h5, h6, rfl⟩
    all_goals
      go_enter Tryd.func58, Tryd.ntmps58
      go_wp2_with fail
      refine (refcheck_any p A A' n m c d _ (HP.step (by go_grown)) (by omega) (by omega)).mono ?_
      rintro e w1 ⟨rfl, hb1⟩
      rw [HC.out]
      have hX := ((Blk.new w _ _).alloc _).below hb1 (by simp; omega)
      have hY := (Blk.new_at (g := w.heap.size + 1) (by simp) _ _).below hb1 (by simp)
      have hB1 : Below w.heap.size w w1 := Below.trans (by go_grown) (hb1.mono (by simp; omega))
      have x0 := hX.cells 0 _ rfl
      have x1 := hX.cells 1 _ rfl
      have y0 := hY.cells 0 _ rfl
      have y1 := hY.cells 1 _ rfl
      have yf := hY.frozen
      have hyl := hY.lt
      simp only [List.getElem_toArray, List.getElem_cons_zero, List.getElem_cons_succ] at x0 x1 y0 y1
      clear hb1 hX hY
      go_wp2_with (with_reducible refine end_at ?_)
      refine end_ret (v := .tuple #[.agg #[.slice none 0 0, .slice none 0 0], .int .i64 _]) (by simp [results, Tryd.results58, go_sem, y0, y1]; try rfl) rfl (out2_no HR.out rfl (by go_grown))
  rcases hcs with ⟨h1, h2⟩ | ⟨h1, h2, h3⟩ | ⟨h1, h2, h3, h4, h5⟩ | ⟨h1, h2, h3, h4, h5, h6⟩ | ⟨h1, h2, h3, h4, h5, h6⟩
  · exact bad 1 false h2 h1 (.inl ⟨rfl, rfl⟩)
  · exact bad 130 true h3 h1 (.inr (.inl ⟨rfl, h2, rfl⟩))
  · exact bad 2 true h5 h1 (.inr (.inr (.inl ⟨rfl, h2, h3, h4, rfl⟩)))
  · exact bad 260 true h6 h1 (.inr (.inr (.inr ⟨rfl, h2, h3, h4, h5, rfl⟩)))
  · have HR := Lib.hid h6
    have HC := Lib.hid h1
    clear h6 h1 bad
    go_enter Tryd.func58, Tryd.ntmps58
    go_wp2_with fail
    refine (refcheck_any p A A' n m c d _ (HP.step (by go_grown)) (by omega) (by omega)).mono ?_
    rintro e w1 ⟨rfl, hb1⟩
    rw [HC.out]
    have hX := ((Blk.new w _ _).alloc _).below hb1 (by simp; omega)
    have hY := (Blk.new_at (g := w.heap.size + 1) (by simp) _ _).below hb1 (by simp)
    have hB1 : Below w.heap.size w w1 := Below.trans (by go_grown) (hb1.mono (by simp; omega))
    have x0 := hX.cells 0 _ rfl
    have x1 := hX.cells 1 _ rfl
    simp only [List.getElem_toArray, List.getElem_cons_zero, List.getElem_cons_succ] at x0 x1
    clear hb1
    go_wp2_with fail
    refine (own13_any p A A' n m c d _ (HP.step hB1) hn9 hm9).mono ?_
    rintro e w2 ⟨v, rfl, ⟨A2, c2, A2', c2', rfl, ho1, ho2⟩, hb2⟩
    have hY2 := hY.below hb2 hY.lt
    have hB2 := hB1.trans (hb2.mono hB1.size)
    have ho1 := own_base ho1 hB1.size
    have ho2 := own_base ho2 hB1.size
    have hz := hB2.size
    rw [HL.out.1] at ho1
    rw [HL.out.2] at ho2
    have HO := Lib.hid (And.intro ho1 ho2)
    have hbl : ∀ k, (Value.slice A2' m c2').ownBlock = some k → k < w2.heap.size := fun k h => (ho2.lt k h).2
    have HBL := Lib.hid (And.intro hbl (fun k h => (ho2.lt k h).1))
    have hoo := own_own_ne ho1 ho2 (by decide)
    have HOO := Lib.hid hoo
    simp only [HL.out.1, HL.out.2]
    have HYB := Lib.hid hY2
    have hyne := own_blk_ne ho2 hY2 (by decide)
    have HYN := Lib.hid hyne
    have HB2' := Lib.hid hB2
    have hyl := hY2.lt
    have e1 : ¬ (w2.heap.size = w.heap.size + 1) := by omega
    have e2 : ¬ (w.heap.size + 1 = w2.heap.size) := by omega
    clear hb2 hB1 hX hY x0 x1 ho1 ho2 hbl hoo hyne hY2 hB2
    go_wp2_with (at_builtin; refine wpList_append_any _ rfl (.tmp 35) (.tmp 39) _ rfl w.heap.size _ i1 _ 2 24 Tryd.underlying23 hj0 hy0 hy1 hy2 rfl (by omega) (.slice A2' m c2') m (flat encP p.cache) rfl ((HO.out.2.alloc _).alloc _) (w2.heap.size + 1 + 1) (some ⟨w2.heap.size + 1, 0, none⟩) 1 1 [.int .i64 i, .string s] rfl (Reads.new_at (by simp) 52 #[.int .i64 i, .string s] rfl) (one_flatP [⟨i, s⟩]) (by simp only [maxLen]; omega) (by omega) (by simp; omega) ?_; intro v1 w3 hown1 hg1 hat1; obtain ⟨A3, c3, rfl, _, _, _⟩ := own_form hown1; have hs3 := Blk.grown ((Blk.new w2 25 #[.slice A2 n c2, .slice A2' m c2']).alloc (.cells #[.int .i64 i, .string s] 52)) hg1 (fun h => by have := HBL.out.1 _ h.symm; omega); have hr3 := Blk.grown ((HYB.out.alloc (.cells #[.slice A2 n c2, .slice A2' m c2'] 25)).alloc (.cells #[.int .i64 i, .string s] 52)) hg1 (fun h => HYN.out h.symm); have s0 := hs3.cells 0 _ rfl; have s1 := hs3.cells 1 _ rfl; have sf := hs3.frozen; have hsl := hs3.lt; have q0 := hr3.cells 0 _ rfl; have q1 := hr3.cells 1 _ rfl; have qf := hr3.frozen; simp only [List.getElem_toArray, List.getElem_cons_zero, List.getElem_cons_succ] at s0 s1 q0 q1)
    have hB3 : Below w.heap.size w w3 := Below.grown (by have := HB2'.out; have := this.size; go_grown) hg1 (by have := HB2'.out.size; simp; omega) (fun k h => HBL.out.2 k h)
    have h1 := ((HO.out.1.alloc (.cells #[.slice A2 n c2, .slice A2' m c2'] 25)).alloc (.cells #[.int .i64 i, .string s] 52)).kept hg1 (by
      cases hb : (Value.slice A2 n c2).ownBlock with
      | none => exact .inl rfl
      | some b => exact .inr (fun e => HOO.out b hb e.symm))
    have n1 := own_blk_ne h1 hr3 (by decide)
    have n2 := own_blk_ne hown1 hr3 (by decide)
    have m1 := own_blk_ne h1 hs3 (by decide)
    have m2 := own_blk_ne hown1 hs3 (by decide)
    have HZ := Lib.hid (And.intro (And.intro h1 hown1) (And.intro (And.intro n1 n2) (And.intro m1 m2)))
    clear hown1 hg1 hat1 h1 n1 n2 m1 m2 hs3 hr3
    go_wp2_with (with_reducible refine end_at ?_)
    obtain ⟨⟨h1, h2⟩, ⟨n1, n2⟩, m1, m2⟩ := HZ.out
    obtain ⟨rfl, rfl⟩ := HL.out
    refine end_ret (v := .tuple #[.agg #[.slice A2 p.sectors.length c2, .slice A3 (p.cache.length + 1) c3], .int .i64 0]) (by simp [results, Tryd.results58, go_sem, q0, q1]; try rfl) rfl ?_
    rw [HR.out]
    refine ⟨_, rfl, ⟨A2, c2, A3, c3, by simp, ?_, ?_⟩, by go_grown⟩
    · repeat' (first | (with_reducible exact h1) | (with_reducible refine own_far ?_ n1 _ _) | (with_reducible refine own_far ?_ m1 _ _))
    · simp only [List.length_append, List.length_singleton, flat_snoc]
      repeat' (first | (with_reducible refine own_far ?_ n2 _ _) | (with_reducible refine own_far ?_ m2 _ _))
      exact h2
end Go.Proofs.YtefodifmfjpnlaaDoor
