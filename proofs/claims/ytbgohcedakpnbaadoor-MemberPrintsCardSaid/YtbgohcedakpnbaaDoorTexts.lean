/- keyholeref01.Texts, Own: rows of texts. -/
import Derived.Test.YtbgohcedakpnbaaDoorStrs
set_option linter.unusedVariables false
set_option linter.unusedSimpArgs false
namespace Go.Proofs.YtbgohcedakpnbaaDoor
open Go.RowKit
def textsB (S T : List ByteArray) : Bool := decide (S = T)
theorem textsB_self (S : List ByteArray) : textsB S S = true := by simp [textsB]
theorem textsB_len {S T : List ByteArray} (h : S.length ≠ T.length) : textsB S T = false := by
  simp only [textsB, decide_eq_false_iff_not]
  rintro rfl; exact h rfl
theorem textsB_at {S T : List ByteArray} {k : Nat} {x y : ByteArray} (hx : S[k]? = some x) (hy : T[k]? = some y) (h : x ≠ y) : textsB S T = false := by
  simp only [textsB, decide_eq_false_iff_not]
  rintro rfl
  rw [hx] at hy
  exact h (Option.some.inj hy)
theorem textsB_all {S T : List ByteArray} (hl : S.length = T.length) (h : ∀ (i : Nat) x y, S[i]? = some x → T[i]? = some y → x = y) : textsB S T = true := by
  simp only [textsB, decide_eq_true_eq]
  apply List.ext_getElem hl
  intro i h1 h2
  exact h i _ _ (List.getElem?_eq_getElem h1) (List.getElem?_eq_getElem h2)
set_option maxHeartbeats 400000 in
theorem texts_any (S T : List ByteArray) (A A' : Option Addr) (n m c c' : Nat) (w : World) (hS : SlR encS 1 w w.heap.size A n S) (hT : SlR encS 1 w w.heap.size A' m T) (hn : n ≤ 140737488351232) (hm : m ≤ 140737488351232) :
    Calls Tryd.prog 42 #[.slice A n c, .slice A' m c'] w fun e w' => e = .returned (.bool (textsB S T)) ∧ Below w.heap.size w w' := by
  obtain ⟨rfl, hSA⟩ := hS
  obtain ⟨rfl, hTA⟩ := hT
  by_cases hne : S.length = T.length
  · have HAll := Lib.hid (textsB_all hne)
    have HNo := Lib.hid (fun k x y h1 h2 h3 => @textsB_at S T k x y h1 h2 h3)
    have HNe := Lib.hid hne
    generalize hv : textsB S T = v at HAll HNo ⊢
    clear hv
    rw [← hne] at hTA ⊢
    by_cases h0 : S.length = 0
    · have hv : v = true := HAll.out fun i x y h _ => by have := (List.getElem?_eq_some_iff.1 h).1; omega
      subst hv
      rw [h0]
      clear HAll HNo hSA hTA hn hm h0 HNe hne
      go_enter Tryd.func42, Tryd.ntmps42
      go_wp2
      go_loop [5] (fun i => i = .int .i64 0) (fun _ => 0)
      case atStart => rfl
      case round =>
        subst hrel
        go_wp2
        go_ret
        exact ⟨rfl, Below.refl _ _⟩
    · obtain ⟨b, off, rfl, hb, hC⟩ := hSA.resolve_left h0
      obtain ⟨b', off', rfl, hb', hC'⟩ := hTA.resolve_left h0
      have HC := Lib.hid hC
      have HC' := Lib.hid hC'
      clear hC hC' hSA hTA h0 hne
      generalize hln : S.length = n at hn HNe ⊢
      have HLn := Lib.hid hln
      clear hln hm
      go_enter Tryd.func42, Tryd.ntmps42
      go_wp2
      go_loopw [5] (fun i wr => ∃ k : Nat, k ≤ n ∧ i = .int .i64 k ∧ Hid (∀ (i : Nat) x y, i < k → S[i]? = some x → T[i]? = some y → x = y) ∧ Below w.heap.size w wr) (fun i _ => n - (intOf i).toNat)
      case atStart => exact ⟨0, Nat.zero_le _, rfl, Lib.hid (fun i s x h => by omega), Below.refl _ _⟩
      case round =>
        obtain ⟨k, hk, rfl, HU, hB⟩ := hrel
        by_cases hlt : k < n
        · obtain ⟨x, hxk⟩ : ∃ x, S[k]? = some x := ⟨S[k]'(by rw [HLn.out]; exact hlt), List.getElem?_eq_getElem _⟩
          obtain ⟨y, hyk⟩ : ∃ y, T[k]? = some y := ⟨T[k]'(by rw [← HNe.out]; exact hlt), List.getElem?_eq_getElem _⟩
          have c0 := (HC.out.below hB hb).str hxk
          have c1 := (HC'.out.below hB hb').str hyk
          have Hxk := Lib.hid hxk
          have Hyk := Lib.hid hyk
          have i0 : (0 : Int) ≤ (k : Int) := by omega
          have i1 : (k : Int) < (n : Int) := by omega
          clear hxk hyk
          by_cases hxy : x = y
          · have t1 : (x.toList == y.toList) = true := by rw [hxy]; simp
            have HU1 : Hid (∀ (i : Nat) x y, i < k + 1 → S[i]? = some x → T[i]? = some y → x = y) := Lib.hid (by
              intro i x' y' hi h3 h4
              by_cases e : i = k
              · subst e
                rw [Hxk.out] at h3
                rw [Hyk.out] at h4
                injection h3 with h3
                injection h4 with h4
                subst h3 h4
                exact hxy
              · exact HU.out i x' y' (by omega) h3 h4)
            clear hxy
            go_wp2
            go_quiet (fail)
            go_wp2
            go_roundw
            case rel => exact ⟨k + 1, by omega, by go_num, HU1, below_drewN hB _⟩
            case measure => simp [intOf]; omega
          · have t1 : (x.toList == y.toList) = false := by
              simp only [beq_eq_false_iff_ne, ne_eq]
              exact fun h => hxy (bytes_ext h)
            have hv := HNo.out k x y Hxk.out Hyk.out hxy
            subst hv
            clear hxy
            go_wp2
            go_quiet (fail)
            go_wp2
            go_ret
            exact ⟨rfl, below_drewN hB _⟩
        · obtain rfl : k = n := by omega
          have hv : v = true := HAll.out fun i x y h1 h2 => HU.out i x y (by have := (List.getElem?_eq_some_iff.1 h1).1; rw [HLn.out] at this; exact this) h1 h2
          subst hv
          go_wp2
          go_ret
          exact ⟨rfl, hB⟩
  · rw [textsB_len hne]
    clear hSA hTA
    go_enter Tryd.func42, Tryd.ntmps42
    go_wp2
    go_ret
    exact ⟨rfl, Below.refl _ _⟩
theorem owns_any (S : List ByteArray) (A : Option Addr) (n c : Nat) (w : World) (hS : SlR encS 1 w w.heap.size A n S) (hn : n ≤ 1000000) :
    Calls Tryd.prog 29 #[.slice A n c] w fun e w' => Below w.heap.size w w' ∧ ∃ A' c', e = .returned (.slice A' n c') ∧ Hid (SRow w' w.heap.size (.slice A' n c') S) := by
  have HS := Lib.hid hS
  have HL : Hid (([] ++ S).length = n) := Lib.hid (by simpa using hS.1)
  clear hS
  go_enter Tryd.func29, Tryd.ntmps29
  go_wp2_with (at_builtin; refine wpList_append_strs rfl (.tmp 4) (.tmp 5) rfl rfl (srow_nil w w.heap.size) w.heap.size A n c S rfl HS.out n HL.out (by omega) (Nat.le_refl _) ?_; intro A2 c2 w2 HR2 hg2 hb2 hc21 hc22)
  go_ret
  exact ⟨hb2, A2, c2, rfl, HR2⟩
end Go.Proofs.YtbgohcedakpnbaaDoor
