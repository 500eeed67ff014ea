/- chapter 11's reference: ofLeaf, ofNode, Leaf, Node, partner, wide, May, Big. -/
import Derived.Test.YtkaaicmadknjcaaDoorTreP
import Derived.Test.YtkaaicmadknjcaaDoorStrs
import Derived.Test.YtkaaicmadknjcaaDoorRefH
set_option linter.unusedVariables false
set_option linter.unusedSimpArgs false
namespace Go.Proofs.YtkaaicmadknjcaaDoor
open Go.RowKit
theorem rofleaf_any (s : ByteArray) (w : World) (hs : s.size ≤ 140737488351232) : Calls Tryd.prog 114 #[.string s] w fun r w' => r = .returned (.string (leafT s)) ∧ w = w' := by
  go_enter Tryd.func114, Tryd.ntmps114
  go_wp2
  go_ret
  exact ⟨rfl, rfl⟩
theorem rofnode_any (a b : ByteArray) (w : World) (ha : a.size ≤ 140737488351232) (hb : b.size ≤ 140737488351232) : Calls Tryd.prog 116 #[.string a, .string b] w fun r w' => r = .returned (.string (nodeT a b)) ∧ w = w' := by
  go_enter Tryd.func116, Tryd.ntmps116
  go_wp2
  go_ret
  exact ⟨rfl, rfl⟩
theorem rsumF_any (s : ByteArray) (w : World) (hs : s.size ≤ 1000000) : Calls Tryd.prog 30 #[.string s] w fun r w' => r = .returned (.string (sumF s)) ∧ Below w.heap.size w w' := by
  rw [sumF_small (by omega)]
  exact rsum_str s w hs
theorem rleaf_any (s : ByteArray) (w : World) (hs : s.size ≤ 900000) : Calls Tryd.prog 65 #[.string s] w fun r w' => r = .returned (.string (leafS s)) ∧ Below w.heap.size w w' := by
  have HS : Hid ((leafT s).size ≤ 1000000) := Lib.hid (by rw [leafT_size]; omega)
  unfold leafS
  go_enter Tryd.func65, Tryd.ntmps65
  go_wp2_with fail
  refine (rofleaf_any s _ (by omega)).mono ?_
  rintro e w1 ⟨rfl, rfl⟩
  go_wp2_with fail
  refine (rsumF_any (leafT s) _ HS.out).mono ?_
  rintro e w1 ⟨rfl, hb1⟩
  go_wp2_with fail
  go_ret
  exact ⟨rfl, hb1⟩
theorem rnode_any (a b : ByteArray) (w : World) (ha : a.size ≤ 400000) (hb : b.size ≤ 400000) : Calls Tryd.prog 67 #[.string a, .string b] w fun r w' => r = .returned (.string (nodeS a b)) ∧ Below w.heap.size w w' := by
  have HS : Hid ((nodeT a b).size ≤ 1000000) := Lib.hid (by rw [nodeT_size]; omega)
  unfold nodeS
  go_enter Tryd.func67, Tryd.ntmps67
  go_wp2_with fail
  refine (rofnode_any a b _ (by omega) (by omega)).mono ?_
  rintro e w1 ⟨rfl, rfl⟩
  go_wp2_with fail
  refine (rsumF_any (nodeT a b) _ HS.out).mono ?_
  rintro e w1 ⟨rfl, hb1⟩
  go_wp2_with fail
  go_ret
  exact ⟨rfl, hb1⟩
theorem rpartner_any (i : Nat) (w : World) (hi : i ≤ 140737488351232) : Calls Tryd.prog 112 #[.int .i64 i] w fun r w' => r = .returned (.int .i64 (i ^^^ 1 : Nat)) ∧ w = w' := by
  by_cases h : i % 2 = 1
  · have e : ((i ^^^ 1 : Nat) : Int) = (i : Int) - 1 := by rw [xor_one, if_pos h]; omega
    rw [e]
    have t1 : (i : Int).tmod 2 = 1 := by show ((i % 2 : Nat) : Int) = 1; rw [h]; rfl
    have h1 : 1 ≤ i := by omega
    clear h e
    go_enter Tryd.func112, Tryd.ntmps112
    go_wp2
    go_ret
    exact ⟨rfl, rfl⟩
  · have e : ((i ^^^ 1 : Nat) : Int) = (i : Int) + 1 := by rw [xor_one, if_neg h]; omega
    rw [e]
    have t1 : (i : Int).tmod 2 = 0 := by show ((i % 2 : Nat) : Int) = 0; rw [show i % 2 = 0 by omega]; rfl
    clear h e
    go_enter Tryd.func112, Tryd.ntmps112
    go_wp2
    go_ret
    exact ⟨rfl, rfl⟩
theorem pow2_le {k n : Nat} (h : k ≤ n) : 2 ^ k ≤ 2 ^ n := Nat.pow_le_pow_right (by omega) h
theorem rwide_any (n : Nat) (w : World) (hn : n ≤ 20) : Calls Tryd.prog 141 #[.int .i64 n] w fun r w' => r = .returned (.int .i64 (2 ^ n : Nat)) ∧ w = w' := by
  have HN := Lib.hid hn
  go_enter Tryd.func141, Tryd.ntmps141
  go_wp2
  go_loop [3, 4] (fun v i => ∃ k p : Nat, k ≤ n ∧ Hid (p = 2 ^ k) ∧ p ≤ 1048576 ∧ i = .int .i64 k ∧ v = .int .i64 p) (fun _ i => n - (intOf i).toNat)
  case atStart => exact ⟨0, 1, by omega, Lib.hid rfl, by omega, rfl, rfl⟩
  case round =>
    obtain ⟨k, p, hk, HP, hp, rfl, rfl⟩ := hrel
    by_cases hlt : k < n
    · have hp2 : 2 * p ≤ 1048576 := by
        have : 2 ^ (k + 1) ≤ 2 ^ 20 := pow2_le (by have := HN.out; omega)
        rw [Nat.pow_succ, ← HP.out] at this
        have e : 2 ^ 20 = 1048576 := rfl
        omega
      go_wp2
      go_round
      case rel => exact ⟨k + 1, 2 * p, by omega, Lib.hid (by rw [HP.out, Nat.pow_succ]; omega), hp2, by go_num, by go_num⟩
      case measure => simp [intOf]; omega
    · obtain rfl : k = n := by omega
      have hp2 := HP.out
      clear HP
      subst hp2
      go_wp2
      go_ret
      exact ⟨rfl, rfl⟩
theorem may_end {n k : Nat} (hk : k = 0 ∨ 2 ^ (k - 1) < n) (hge : n ≤ 2 ^ k) (h11 : k ≤ 11) (hn : n ≤ 2000) : mayB n = (decide (2 ^ k = n) && decide (2 ^ k ≤ 1024)) := by
  by_cases he : 2 ^ k = n
  · have h10 : k ≤ 10 := by
      rcases Nat.lt_or_ge k 11 with h | h
      · omega
      · have : k = 11 := by omega
        subst this
        have e : 2 ^ 11 = 2048 := rfl
        omega
    have h1 : 2 ^ k ≤ 1024 := pow2_le (n := 10) h10
    rw [← he, mayB_of_pow k (by omega)]
    simp [h1]
  · simp only [he, decide_false, Bool.false_and]
    cases hm : mayB n with
    | false => rfl
    | true =>
      exfalso
      obtain ⟨j, hj, rfl⟩ := mayB_pow hm
      have hjk : j < k := by
        rcases Nat.lt_or_ge j k with h | h
        · exact h
        · exact absurd (Nat.le_antisymm (pow2_le h) hge) he
      rcases hk with hk | hk
      · omega
      · have := pow2_le (k := j) (n := k - 1) (by omega)
        omega
theorem may_any (n c : Nat) (A : Option Addr) (w : World) (hn : n ≤ 2000) : Calls Tryd.prog 110 #[.slice A n c] w fun r w' => r = .returned (.bool (mayB n)) ∧ w = w' := by
  have HE : Hid (∀ k, (k = 0 ∨ 2 ^ (k - 1) < n) → n ≤ 2 ^ k → k ≤ 11 → mayB n = (decide (2 ^ k = n) && decide (2 ^ k ≤ 1024))) := Lib.hid fun k a b c => may_end a b c hn
  generalize hq : mayB n = q at HE ⊢
  clear hq
  go_enter Tryd.func110, Tryd.ntmps110
  go_wp2
  go_loop [3] (fun v => ∃ k p : Nat, Hid (k = 0 ∨ 2 ^ (k - 1) < n) ∧ Hid (k ≤ 11) ∧ Hid (p = 2 ^ k) ∧ p ≤ 4000 ∧ 1 ≤ p ∧ v = .int .i64 p) (fun v => 4000 - (intOf v).toNat)
  case atStart => exact ⟨0, 1, Lib.hid (.inl rfl), Lib.hid (by omega), Lib.hid rfl, by omega, by omega, rfl⟩
  case round =>
    obtain ⟨k, p, HK, HK2, HP, hp, hp1, rfl⟩ := hrel
    by_cases hlt : p < n
    · have HK3 : Hid (k + 1 ≤ 11) := Lib.hid (by
        rcases Nat.lt_or_ge k 11 with h | h
        · omega
        · have := pow2_le (k := 11) (n := k) h
          rw [← HP.out] at this
          have e : 2 ^ 11 = 2048 := rfl
          omega)
      go_wp2
      go_round
      case rel => exact ⟨k + 1, 2 * p, Lib.hid (.inr (by rw [Nat.add_sub_cancel, ← HP.out]; exact hlt)), HK3, Lib.hid (by rw [HP.out, Nat.pow_succ]; omega), by omega, by omega, by go_num⟩
      case measure => simp [intOf]; omega
    · have hv := HE.out k HK.out (by rw [← HP.out]; omega) HK2.out
      rw [← HP.out] at hv
      by_cases he : p = n
      · subst he
        by_cases h1 : p ≤ 1024
        · have hq : q = true := by rw [hv]; simp [h1]
          have t2 : decide ((p : Int) ≤ 1024) = true := by simp; omega
          subst hq
          clear hv HE
          go_wp2
          go_ret
          exact ⟨rfl, rfl⟩
        · have hq : q = false := by rw [hv]; simp [h1]
          have t2 : decide ((p : Int) ≤ 1024) = false := by simp; omega
          subst hq
          clear hv HE
          go_wp2
          go_ret
          exact ⟨rfl, rfl⟩
      · have hq : q = false := by rw [hv]; simp [he]
        subst hq
        have t2 : ((p : Int) == (n : Int)) = false := by simp; omega
        clear hv HE
        go_wp2
        go_ret
        exact ⟨rfl, rfl⟩
def bigT (L : List ByteArray) : Bool := (decide (16 < L.length) && decide (L.length ≤ 1024)) || decide (1100 < L.length) || L.any (fun x => decide (200 < x.size))
theorem bigT_no {L : List ByteArray} (h : bigT L = false) : (L.length ≤ 16 ∨ 1024 < L.length) ∧ L.length ≤ 1100 ∧ ∀ x ∈ L, x.size ≤ 200 := by
  simp only [bigT, Bool.or_eq_false_iff] at h
  obtain ⟨⟨h0, h1⟩, h2⟩ := h
  refine ⟨?_, by simpa using h1, fun x hx => ?_⟩
  · simp only [Bool.and_eq_false_iff, decide_eq_false_iff_not] at h0
    omega
  · have := List.any_eq_false.1 h2 x hx
    simpa using this
set_option maxHeartbeats 400000 in
theorem bigt_any (L : List ByteArray) (A : Option Addr) (n c : Nat) (w : World) (hL : SlR encS 1 w w.heap.size A n L) (hn : n ≤ 140737488351232) :
    Calls Tryd.prog 58 #[.slice A n c] w fun e w' => e = .returned (.bool (bigT L)) ∧ w = w' := by
  obtain ⟨rfl, hA⟩ := hL
  by_cases hBig : (16 < L.length ∧ L.length ≤ 1024) ∨ 1100 < L.length
  · have hv : bigT L = true := by
      unfold bigT
      rcases hBig with ⟨h1, h2⟩ | h1
      · simp [h1, h2]
      · simp [h1]
    rw [hv]
    clear hv hA
    by_cases h8 : 16 < L.length
    · by_cases h255 : L.length ≤ 1024
      · clear hBig
        go_enter Tryd.func58, Tryd.ntmps58
        go_wp2
        go_ret
        exact ⟨rfl, rfl⟩
      · have h300 : 1100 < L.length := by omega
        clear hBig
        go_enter Tryd.func58, Tryd.ntmps58
        go_wp2
        go_ret
        exact ⟨rfl, rfl⟩
    · omega
  · have hN : L.length ≤ 16 ∨ (1024 < L.length ∧ L.length ≤ 1100) := by omega
    have h300 : L.length ≤ 1100 := by omega
    have HEnd : Hid ((∀ (i : Nat) s, L[i]? = some s → i < L.length → s.size ≤ 200) → bigT L = false) := Lib.hid (fun h => by
      have h1 : L.any (fun s => decide (200 < s.size)) = false := by
        rw [List.any_eq_false]
        intro s hs
        obtain ⟨i, hi⟩ := List.getElem?_of_mem hs
        have := h i s hi (List.getElem?_eq_some_iff.1 hi).1
        simp; omega
      unfold bigT
      rw [h1]
      simp
      omega)
    have HNo : Hid (∀ (k : Nat) (x : ByteArray), L[k]? = some x → 200 < x.size → bigT L = true) := Lib.hid (fun k x hx h => by
      have : L.any (fun s => decide (200 < s.size)) = true := List.any_eq_true.2 ⟨x, List.mem_of_getElem? hx, by simpa using h⟩
      simp [bigT, this])
    generalize hv : bigT L = v at HEnd HNo ⊢
    clear hv hBig
    by_cases h0 : L.length = 0
    · have hd : v = false := HEnd.out (fun i s _ h => by omega)
      subst hd
      rw [h0]
      clear h0 HEnd HNo hA hn hN h300
      go_enter Tryd.func58, Tryd.ntmps58
      go_wp2
      go_loop [3] (fun i => i = .int .i64 0) (fun _ => 0)
      case atStart => rfl
      case round =>
        subst hrel
        go_wp2
        go_ret
        exact ⟨rfl, rfl⟩
    · obtain ⟨b, off, rfl, hb, hC⟩ := hA.resolve_left h0
      have HC := Lib.hid hC
      clear hC hA h0 hn
      rcases hN with hN | ⟨hN, hN2⟩
      all_goals
        go_enter Tryd.func58, Tryd.ntmps58
        go_wp2
        go_loop [3] (fun i => ∃ k : Nat, k ≤ L.length ∧ i = .int .i64 k ∧ Hid (∀ (i : Nat) s, L[i]? = some s → i < k → s.size ≤ 200)) (fun i => L.length - (intOf i).toNat)
        case atStart => exact ⟨0, Nat.zero_le _, rfl, Lib.hid (fun i s _ h => by omega)⟩
        case round =>
          obtain ⟨k, hk, rfl, HU⟩ := hrel
          by_cases hlt : k < L.length
          · obtain ⟨x, hx⟩ : ∃ x, L[k]? = some x := ⟨L[k], List.getElem?_eq_getElem hlt⟩
            have c0 := HC.out.str hx
            by_cases hx1 : 200 < x.size
            · have hv := HNo.out k x hx hx1
              subst hv
              clear hx
              go_wp2
              go_ret
              exact ⟨rfl, rfl⟩
            · have hx2 : x.size ≤ 200 := by omega
              have HX : Hid (∀ (i : Nat) s, L[i]? = some s → i < k + 1 → s.size ≤ 200) := Lib.hid (fun i s hi h => by
                by_cases e : i = k
                · subst e
                  rw [hx] at hi
                  injection hi with hi
                  subst hi; exact hx2
                · exact HU.out i s hi (by omega))
              clear hx hx1
              go_wp2
              go_round
              case rel => exact ⟨k + 1, by omega, by go_num, HX⟩
              case measure => simp [intOf]; omega
          · obtain rfl : k = L.length := by omega
            have hv := HEnd.out HU.out
            subst hv
            go_wp2
            go_ret
            exact ⟨rfl, rfl⟩
end Go.Proofs.YtkaaicmadknjcaaDoor
