/- tree: Trace. -/
import Derived.Test.YtkaaicmadknjcaaDoorTreF
set_option linter.unusedVariables false
set_option linter.unusedSimpArgs false
namespace Go.Proofs.YtkaaicmadknjcaaDoor
open Go.RowKit
theorem find_rev_none (p : Nat → Bool) : ∀ n, (∀ j, j < n → p j = false) → (List.range n).reverse.find? p = none := by
  intro n h
  rw [List.find?_eq_none]
  intro x hx
  have := h x (by simpa using hx)
  simp [this]
theorem find_rev_some (p : Nat → Bool) : ∀ n k, k < n → p k = true → (∀ j, k < j → j < n → p j = false) → (List.range n).reverse.find? p = some k := by
  intro n
  induction n with
  | zero => intro k h; omega
  | succ n ih =>
    intro k hk hp hb
    rw [List.range_succ, List.reverse_append]
    simp only [List.reverse_cons, List.reverse_nil, List.nil_append, List.cons_append, List.find?_cons]
    by_cases e : k = n
    · subst e
      rw [hp]
    · rw [hb n (by omega) (by omega)]
      exact ih k (by omega) hp (fun j h1 h2 => hb j h1 (by omega))
def twoV (t : Two) : Value := .tuple #[.string t.a, .string t.b, .bool t.ok]
/-- what Trace and Collide tell, and leave -/
def TwoPost (t : Two) (w : World) (e : Ending) (w' : World) : Prop := e = .returned (twoV t) ∧ Below w.heap.size w w'
theorem two_no {w w' : World} (h : Below w.heap.size w w') : TwoPost noTwo w (.returned (.tuple #[.string ByteArray.empty, .string ByteArray.empty, .bool false])) w' := ⟨rfl, h⟩
theorem div_low {i m j : Nat} (hi : i < 2 ^ m) (hj : j ≤ m) : i / 2 ^ j < 2 ^ (m - j) := by
  have hq : 2 ^ m = 2 ^ (m - j) * 2 ^ j := by rw [← Nat.pow_add]; congr 1; omega
  rw [Nat.div_lt_iff_lt_mul (Nat.pos_of_ne_zero (by simp)), ← hq]; exact hi
theorem ttrace_out (l : List ByteArray) (i : Int) (s : ByteArray) (path : List ByteArray) (A A' : Option Addr) (n c m c' : Nat) (w : World) (hn : n ≤ 140737488351232) (hm : m ≤ 140737488351232)
    (h : (mayB n && (hasI n i && (decide (m ≤ 10) && decide (2 ^ m = n)))) = false) :
    Calls Tryd.prog 73 #[.slice A n c, .int .i64 i, .string s, .slice A' m c'] w (TwoPost noTwo w) := by
  have HM := Lib.hid (mayroot_any n w hn)
  cases hmay : mayB n
  · rw [hmay] at HM
    clear h hmay
    go_enter Tryd.func73, Tryd.ntmps73
    go_wp2_with fail
    refine HM.out.mono ?_
    rintro e w1 ⟨rfl, rfl⟩
    go_wp2_with fail
    refine bodyPost_ret (results_tmp3 rfl _ _ _) rfl ?_
    exact two_no (Below.refl _ _)
  · rw [hmay] at HM h
    simp only [Bool.true_and, hasI, Bool.and_eq_false_iff, decide_eq_false_iff_not] at h
    by_cases h0 : i < 0
    · clear h hmay
      go_enter Tryd.func73, Tryd.ntmps73
      go_wp2_with fail
      refine HM.out.mono ?_
      rintro e w1 ⟨rfl, rfl⟩
      go_wp2_with fail
      refine bodyPost_ret (results_tmp3 rfl _ _ _) rfl ?_
      exact two_no (Below.refl _ _)
    · by_cases h1 : (n : Int) ≤ i
      · clear h hmay
        go_enter Tryd.func73, Tryd.ntmps73
        go_wp2_with fail
        refine HM.out.mono ?_
        rintro e w1 ⟨rfl, rfl⟩
        go_wp2_with fail
        refine bodyPost_ret (results_tmp3 rfl _ _ _) rfl ?_
        exact two_no (Below.refl _ _)
      · by_cases h10 : 10 < m
        · clear h hmay
          go_enter Tryd.func73, Tryd.ntmps73
          go_wp2_with fail
          refine HM.out.mono ?_
          rintro e w1 ⟨rfl, rfl⟩
          go_wp2_with fail
          refine bodyPost_ret (results_tmp3 rfl _ _ _) rfl ?_
          exact two_no (Below.refl _ _)
        · have hne : 2 ^ m ≠ n := by omega
          have hp1 : 1 ≤ 2 ^ m := Nat.one_le_two_pow
          have hp2 : 2 ^ m ≤ 1024 := Nat.le_trans (pow_le_two (by omega : m ≤ 10)) (by decide)
          have hs := shl_pow m m (by omega) rfl
          generalize 2 ^ m = p at *
          have t1 : ((p : Int) == (n : Int)) = false := by simp; omega
          have t2 : ((p : Int) != (n : Int)) = true := by simp; omega
          clear h hmay
          go_enter Tryd.func73, Tryd.ntmps73
          go_wp2_with fail
          refine HM.out.mono ?_
          rintro e w1 ⟨rfl, rfl⟩
          go_wp2_with fail
          refine bodyPost_ret (results_tmp3 rfl _ _ _) rfl ?_
          exact two_no (Below.refl _ _)
set_option maxRecDepth 100000 in
set_option maxHeartbeats 2000000 in
theorem ttrace_in (l : List ByteArray) (i : Nat) (s : ByteArray) (path : List ByteArray) (A A' : Option Addr) (n c m c' : Nat) (w : World) (hG : Rounds w) (hL : SlR encS 1 w w.heap.size A n l) (hP : SlR encS 1 w w.heap.size A' m path)
    (hmay : mayB n = true) (hi : i < n) (hm : m ≤ 10) (hn : 2 ^ m = n) (hls : ∀ x ∈ l, x.size ≤ 140737488351232) (hs : s.size ≤ 1000000) (hp : ∀ p ∈ path, p.size ≤ 200) :
    Calls Tryd.prog 73 #[.slice A n c, .int .i64 i, .string s, .slice A' m c'] w (TwoPost (traceF l i s path) w) := by
  have hn2 : n ≤ 1024 := by rw [← hn]; exact Nat.le_trans (pow_le_two hm) (by decide)
  have hM := mayroot_any n w (by omega)
  rw [hmay] at hM
  have HM := Lib.hid hM
  have HLn : Hid (l.length = 2 ^ m) := Lib.hid (by rw [hL.1, hn])
  have HPn := Lib.hid hP.1
  have HL := Lib.hid hL
  have HP := Lib.hid hP
  have HG := Lib.hid hG
  have HR := Lib.hid (rowsOf_any l A n c m w hG hL hn.symm hm hls)
  have hgl : hgt l.length = m := by rw [hL.1, ← hn, hgt_pow]
  have hrt : rootB l = atB (lev l m) 0 := by rw [rootB, hgl]
  have hok : traceOk l i s path = (decide (s ≠ atB l i) && checkV (rootB l) i s path) := by
    have q1 : decide ((i : Int) < (n : Int)) = true := by rw [decide_eq_true_eq]; omega
    have q2 : decide ((0 : Int) ≤ (i : Int)) = true := by rw [decide_eq_true_eq]; omega
    have q3 : decide (m ≤ 10) = true := by rw [decide_eq_true_eq]; exact hm
    have q4 : decide (2 ^ m = n) = true := by rw [decide_eq_true_eq]; exact hn
    unfold traceOk hasI
    rw [hL.1, hP.1, hmay, q1, q2, q3, q4]
    simp
  obtain ⟨x, hx⟩ : ∃ x, l[i]? = some x := ⟨l[i]'(by rw [hL.1]; exact hi), List.getElem?_eq_getElem _⟩
  rw [atB_of hx] at hok
  obtain ⟨b0, off0, rfl, hb0, hC0⟩ := hL.2.resolve_left (by omega)
  have c0 := hC0.str hx
  have HC0 : Hid (∀ W, Below w.heap.size w W → W.cell? ⟨b0, off0 + i, none⟩ = some (.string x)) := Lib.hid (fun W hb => (hC0.below hb hb0).str hx)
  have HNo : Hid ((s = x ∨ checkV (rootB l) i s path = false) → traceF l i s path = noTwo) := Lib.hid (fun h => by
    have : traceOk l i s path = false := by
      rw [hok]
      rcases h with h | h
      · simp [h]
      · simp [h]
    simp [traceF, this])
  have HYes : Hid (s ≠ x → checkV (rootB l) i s path = true → traceF l i s path = findStep l i s path (List.range (m + 1)).reverse) := Lib.hid (fun h1 h2 => by
    have : traceOk l i s path = true := by
      rw [hok, h2]; simp [h1]
    have hpm : path.length = m := hP.1
    simp [traceF, this, hpm])
  have hms : (1 : Int) * 2 ^ m = (n : Int) := by rw [← hn]; exact shl_pow m m hm rfl
  have t0 : ((n : Int) == (n : Int)) = true := by simp
  have HCk := Lib.hid (fun W (h1 : Rounds W) (h2 : SlR encS 1 W W.heap.size A' m path) => tcheck_any (rootB l) i s path A' m c' W h1 h2 (by omega) hs)
  have HWy := Lib.hid (fun W (h1 : Rounds W) (h2 : SlR encS 1 W W.heap.size A' m path) => way_any i s path A' m c' W h1 h2 (by omega) (by omega) hs hp)
  have Hls := Lib.hid hls
  have HRt := Lib.hid hrt
  obtain ⟨K, hK⟩ : ∃ K, checkV (rootB l) i s path = K := ⟨_, rfl⟩
  rw [hK] at HCk HNo HYes
  generalize traceF l i s path = t at HNo HYes ⊢
  clear hL hP hG hM hmay hok hgl hrt hC0 hls hp hx hK
  have i0 : (0 : Int) ≤ (i : Int) := by omega
  have i1 : (i : Int) < (n : Int) := by omega
  by_cases hsx : s = x
  · obtain rfl := HNo.out (.inl hsx)
    have e1 : (s.toList == x.toList) = true := by rw [hsx]; simp
    clear hsx HNo HYes
    go_enter Tryd.func73, Tryd.ntmps73
    go_wp2_with fail
    refine HM.out.mono ?_
    rintro e w1 ⟨rfl, rfl⟩
    go_wp2_with fail
    refine HR.out.mono ?_
    rintro e w2 ⟨hb2, A2, c2, rfl, h21, h22, HR2⟩
    have hz2 := hb2.size
    have c1 := HC0.out (w2.alloc (.cells #[.slice (some ⟨b0, off0, none⟩) n c, .slice A2 (m + 1) c2] 111)) (Below.trans hb2 (by go_grown))
    clear HM HR HR2 c0
    go_wp2_with fail
    refine bodyPost_ret (results_tmp3 rfl _ _ _) rfl ?_
    exact two_no (Below.trans hb2 (by go_grown))
  · have e1 : (s.toList == x.toList) = false := by
      simp only [beq_eq_false_iff_ne, ne_eq]
      exact fun h => hsx (bytes_ext h)
    go_enter Tryd.func73, Tryd.ntmps73
    go_wp2_with fail
    refine HM.out.mono ?_
    rintro e w1 ⟨rfl, rfl⟩
    go_wp2_with fail
    refine HR.out.mono ?_
    rintro e w2 ⟨hb2, A2, c2, rfl, h21, h22, HR2⟩
    have hz2 := hb2.size
    have hb3 : Below w.heap.size w (w2.alloc (.cells #[.slice (some ⟨b0, off0, none⟩) n c, .slice A2 (m + 1) c2] 111)) := Below.trans hb2 (by go_grown)
    have c1 := HC0.out _ hb3
    have HT := Lib.hid (tree_new (T := .slice (some ⟨b0, off0, none⟩) n c) HR2.out h21 h22)
    clear HM HR HR2 c0
    go_wp2_with fail
    refine (root_any _ w2.heap.size m _ l HT.out HLn.out hm).mono ?_
    rintro e w4 ⟨rfl, hb4⟩
    rw [← HRt.out]
    have hB4 := hb3.trans (hb4.mono hb3.size)
    have HT4 := Lib.hid (HT.out.below hb4)
    clear HT hb3 hb4 c1
    go_wp2_with fail
    refine (HCk.out _ (rounds_of HG.out hB4) ((HP.out.below hB4).more hB4.size)).mono ?_
    rintro e w5 ⟨rfl, hb5⟩
    have hB5 := hB4.trans (hb5.mono hB4.size)
    have HT5 := Lib.hid (HT4.out.below hb5)
    clear HT4 hb5 hB4 HCk
    cases K
    · obtain rfl := HNo.out (.inr rfl)
      clear HNo HYes hsx
      go_wp2_with fail
      refine bodyPost_ret (results_tmp3 rfl _ _ _) rfl ?_
      exact two_no hB5
    · have hty := HYes.out hsx rfl
      have HTy := Lib.hid hty
      clear HNo HYes hsx hty
      go_wp2_with fail
      refine (HWy.out _ (rounds_of HG.out hB5) ((HP.out.below hB5).more hB5.size)).mono ?_
      rintro e wx ⟨hb6, A6, c6, rfl, HR6⟩
      have hB6 := hB5.trans (hb6.mono hB5.size)
      have HT6 := Lib.hid (HT5.out.below hb6)
      have HL6 := Lib.hid ((HL.out.below hB6).more hB6.size)
      obtain ⟨b6, off6, rfl, hb6', hC6⟩ := (srow_slr HR6.out (waysB_len _ _ _ _)).2.resolve_left (by omega)
      have HC6 : Hid (∀ W, Below wx.heap.size wx W → ∀ k, k < m + 1 → W.cell? ⟨b6, off6 + k, none⟩ = some (.string (wayB i s path k))) := Lib.hid (fun W hb k hk => (hC6.below hb hb6').str (waysB_at i s path hk))
      clear HT5 hb6 HR6 hC6 HWy hB5
      go_wp2_with fail
      go_loopw [14] (fun hv wr => ∃ k : Nat, k ≤ m + 1 ∧ hv = .int .i64 ((k : Int) - 1) ∧ Hid (∀ j, k ≤ j → j < m + 1 → stepUnlike l i s path j = false) ∧ Below wx.heap.size wx wr) (fun hv _ => (intOf hv + 1).toNat)
      case atStart => exact ⟨m + 1, by omega, by go_num, Lib.hid (fun j h1 h2 => by omega), Below.refl _ _⟩
      case round =>
        obtain ⟨k, hk, rfl, HU, hB⟩ := hrel
        cases k with
        | zero =>
          have hz : t = noTwo := by
            rw [HTy.out]
            unfold findStep
            rw [find_rev_none _ _ (fun j h => HU.out j (Nat.zero_le _) h)]
          subst hz
          have e0 : ((0 : Nat) : Int) - 1 = -1 := rfl
          rw [e0]
          have HBx := Lib.hid (hB6.trans (hB.mono hB6.size))
          clear HTy HT6 HL6 HC6 hB hB6 e0
          go_wp2
          refine bodyPost_ret (results_tmp3 rfl _ _ _) rfl ?_
          exact two_no HBx.out
        | succ j =>
          have e0 : ((j + 1 : Nat) : Int) - 1 = (j : Int) := by omega
          rw [e0]
          have HTd := Lib.hid (told_any wr w2.heap.size m j (i / 2 ^ j) (some ⟨b0, off0, none⟩) n c l ((HL6.out.below hB).more hB.size) (HT6.out.below hB) HLn.out hm (by omega) (div_low (by rw [hn]; exact hi) (by omega)) Hls.out)
          obtain ⟨q, hq⟩ : ∃ q, i / 2 ^ j = q := ⟨_, rfl⟩
          have es : ((i : Int) / 2 ^ j) = (q : Int) := by rw [← hq]; simp
          obtain ⟨T1, hT1⟩ : ∃ T, toldT l j q = T := ⟨_, rfl⟩
          obtain ⟨T2, hT2⟩ : ∃ T, wayB i s path j = T := ⟨_, rfl⟩
          have HSt : Hid (stepUnlike l i s path j = decide (T1 ≠ T2)) := Lib.hid (by rw [stepUnlike, hq, hT1, hT2])
          have HFd : Hid (toldT l j (i / 2 ^ j) = T1 ∧ wayB i s path j = T2) := Lib.hid (by rw [hq]; exact ⟨hT1, hT2⟩)
          rw [hq, hT1] at HTd
          have i2 : (0 : Int) ≤ (j : Int) := by omega
          have i3 : (j : Int) < ((m + 1 : Nat) : Int) := by omega
          have i4 : (j : Int) < (m : Int) + 1 := by omega
          have hC7 : Hid (∀ W, Below wx.heap.size wx W → W.cell? ⟨b6, off6 + j, none⟩ = some (.string T2)) := Lib.hid (fun W hb => by rw [← hT2]; exact HC6.out W hb j (by omega))
          clear e0 hq hT1 hT2
          go_wp2_with fail
          refine HTd.out.mono ?_
          rintro e w7 ⟨rfl, hb7⟩
          have hB7 := hB.trans (hb7.mono hB.size)
          have c7 := hC7.out w7 hB7
          clear HTd hb7 hB
          by_cases hT : T1 = T2
          · have e1 : (T1.toList == T2.toList) = true := by rw [hT]; simp
            have e2 : (T1.toList != T2.toList) = false := by rw [hT]; simp
            have HU2 : Hid (∀ k, j ≤ k → k < m + 1 → stepUnlike l i s path k = false) := Lib.hid (fun k h1 h2 => by
              by_cases e : k = j
              · rw [e, HSt.out]; simp [hT]
              · exact HU.out k (by omega) h2)
            clear hT
            go_wp2_with fail
            go_roundw
            case rel => exact ⟨j, by omega, by go_num, HU2, hB7⟩
            case measure => simp [intOf]
          · have e1 : (T1.toList == T2.toList) = false := by
              simp only [beq_eq_false_iff_ne, ne_eq]
              exact fun h => hT (bytes_ext h)
            have e2 : (T1.toList != T2.toList) = true := by
              simp only [bne_iff_ne, ne_eq]
              exact fun h => hT (bytes_ext h)
            have hz : t = ⟨T1, T2, true⟩ := by
              rw [HTy.out]
              unfold findStep
              rw [find_rev_some _ (m + 1) j (by omega) (by rw [HSt.out]; simp [hT]) (fun k h1 h2 => HU.out k (by omega) h2)]
              simp only [HFd.out.1, HFd.out.2]
            subst hz
            have HBx := Lib.hid (hB6.trans (hB7.mono hB6.size))
            clear hT HTy
            go_wp2_with fail
            go_quiet (fail)
            go_wp2_with fail
            refine bodyPost_ret (results_tmp3 rfl _ _ _) rfl ?_
            exact ⟨rfl, below_drewN HBx.out _⟩
theorem ttrace_any (l : List ByteArray) (i : Int) (s : ByteArray) (path : List ByteArray) (A A' : Option Addr) (n c m c' : Nat) (w : World) (hG : Rounds w) (hL : SlR encS 1 w w.heap.size A n l) (hP : SlR encS 1 w w.heap.size A' m path)
    (hn : n ≤ 140737488351232) (hm : m ≤ 140737488351232) (hls : ∀ x ∈ l, x.size ≤ 140737488351232) (hs : s.size ≤ 1000000) (hp : ∀ p ∈ path, p.size ≤ 200) :
    Calls Tryd.prog 73 #[.slice A n c, .int .i64 i, .string s, .slice A' m c'] w (TwoPost (traceF l i s path) w) := by
  cases h : (mayB n && (hasI n i && (decide (m ≤ 10) && decide (2 ^ m = n))))
  · have : traceF l i s path = noTwo := by
      have hk : traceOk l i s path = false := by
        unfold traceOk
        rw [hL.1, hP.1]
        cases h1 : mayB n <;> cases h2 : hasI n i <;> cases h3 : decide (m ≤ 10) <;> cases h4 : decide (2 ^ m = n) <;> simp_all
      simp [traceF, hk]
    rw [this]
    exact ttrace_out l i s path A A' n c m c' w hn hm h
  · simp only [Bool.and_eq_true, hasI, decide_eq_true_eq] at h
    obtain ⟨h1, ⟨h2, h3⟩, h4, h5⟩ := h
    obtain ⟨k, rfl⟩ : ∃ k : Nat, i = k := ⟨i.toNat, by omega⟩
    exact ttrace_in l k s path A A' n c m c' w hG hL hP h1 (by omega) h4 h5 hls hs hp
end Go.Proofs.YtkaaicmadknjcaaDoor
