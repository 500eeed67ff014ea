/- platter: the references Texts, Same, Big, and the laws' far. -/
import Derived.Test.YtefodifmfjpnlaaPlatL
import Derived.Test.YtefodifmfjpnlaaEqs
set_option linter.unusedVariables false
namespace Go.Proofs.Ytefodifmfjpnlaa
open Go.RowKit
def eqP (a b : PPut) : Bool := decide (a.pos = b.pos) && decide (a.text.toList = b.text.toList)
theorem eqP_iff (a b : PPut) : eqP a b = true ↔ a = b := by
  obtain ⟨a1, a2⟩ := a; obtain ⟨b1, b2⟩ := b
  simp [eqP, bytes_eq_iff]
theorem run_neq_put (a b : PPut) (w : World) : (binOp .neq 42 (.agg #[.int .i64 a.pos, .string a.text]) (.agg #[.int .i64 b.pos, .string b.text])).run Try.prog w = .ok (.bool (!eqP a b)) w := by
  go_simp
  unfold eqP
  by_cases h1 : a.pos = b.pos <;> by_cases h2 : a.text.toList = b.text.toList <;> simp [h1, h2]

set_option maxHeartbeats 1000000 in
theorem texts_any (L M : List ByteArray) (A A' : Option Addr) (n m c d : Nat) (w : World) (hL : SlR encS 1 w w.heap.size A n L) (hM : SlR encS 1 w w.heap.size A' m M) (hn : n ≤ 140737488355328) :
    Calls Try.prog 29 #[.slice A n c, .slice A' m d] w fun e w' => e = .returned (.bool (eqAll eqS L M)) ∧ Below w.heap.size w w' := by
  obtain ⟨hl, hA⟩ := hL
  obtain ⟨hm, hA'⟩ := hM
  by_cases hnm : n = m
  · subst hnm
    have HEnd := Lib.hid (eqAll_end eqS (hl.trans hm.symm))
    rw [hl] at HEnd
    have HNo : Hid (∀ (k : Nat) (x y : ByteArray), L[k]? = some x → M[k]? = some y → eqS x y = false → eqAll eqS L M = false) := fun k x y => eqAll_no eqS
    generalize hv : eqAll eqS L M = v at HEnd HNo ⊢
    clear hv
    have HA := Lib.hid (And.intro hl hm)
    rcases hA with h0 | ⟨b, off, rfl, hb, hC⟩
    · subst h0
      clear hl hm
      go_enter Try.func29, Try.ntmps29
      go_wp2
      go_rounds 1
      go_ret
      exact ⟨ret_bool (HEnd.out (eqTo_zero _ _ _)).symm, by go_grown⟩
    · rcases hA' with h0 | ⟨b', off', rfl, hb', hC'⟩
      · subst h0
        clear hl hm
        go_enter Try.func29, Try.ntmps29
        go_wp2
        go_rounds 1
        go_ret
        exact ⟨ret_bool (HEnd.out (eqTo_zero _ _ _)).symm, by go_grown⟩
      · have HC := Lib.hid (And.intro hC hC')
        clear hC hC' hl hm
        go_enter Try.func29, Try.ntmps29
        go_wp2
        go_loopw [5] (fun i wr => ∃ k : Nat, k ≤ n ∧ i = .int .i64 k ∧ Hid (eqTo eqS L M k) ∧ Below w.heap.size w wr) (fun i _ => n - (intOf i).toNat)
        case atStart => exact ⟨0, Nat.zero_le _, rfl, eqTo_zero _ _ _, by go_grown⟩
        case round =>
          obtain ⟨k, hk, rfl, HU, hB⟩ := hrel
          by_cases hlt : k < n
          · obtain ⟨x, hx⟩ : ∃ x, L[k]? = some x := ⟨L[k]'(by rw [HA.out.1]; exact hlt), List.getElem?_eq_getElem _⟩
            obtain ⟨y, hy⟩ : ∃ x, M[k]? = some x := ⟨M[k]'(by rw [HA.out.2]; exact hlt), List.getElem?_eq_getElem _⟩
            have c0 := (HC.out.1.below hB hb).str hx
            have c1 := (HC.out.2.below hB hb').str hy
            have HX := Lib.hid (And.intro hx hy)
            have i0 : (0 : Int) ≤ (k : Int) := by omega
            have i1 : (k : Int) < (n : Int) := by omega
            clear hx hy
            go_wp2
            go_region
            go_wp2
            · go_ret
              exact ⟨ret_bool (HNo.out k x y HX.out.1 HX.out.2 (by have h := ‹(!x.toList == y.toList) = true›; simpa [eqS] using h)).symm, by go_grown⟩
            · go_roundw
              case rel => exact ⟨k + 1, by omega, by go_num, eqTo_succ eqS HX.out.1 HX.out.2 HU.out (by have h := ‹(!x.toList == y.toList) = false›; simpa [eqS] using h), by go_grown⟩
              case measure => simp [intOf]; omega
          · obtain rfl : k = n := by omega
            go_wp2
            go_ret
            exact ⟨ret_bool (HEnd.out HU.out).symm, hB⟩
  · rw [eqAll_len eqS (by omega)]
    have t0 : ((n : Int) != (m : Int)) = true := by simp; omega
    clear hl hA hm hA' hnm
    go_enter Try.func29, Try.ntmps29
    go_wp2
    go_ret
    exact ⟨rfl, by go_grown⟩

def samePl (p q : Plat) : Bool := eqAll eqS p.sectors q.sectors && eqAll eqP p.cache q.cache

set_option maxHeartbeats 1000000 in
theorem same_any (p q : Plat) (A A' B B' : Option Addr) (n m c d n' m' c' d' : Nat) (w : World) (hP : PlatAt w w.heap.size A n A' m p) (hQ : PlatAt w w.heap.size B n' B' m' q) (hn : n ≤ 140737488355328) (hm : m ≤ 140737488355328) :
    Calls Try.prog 15 #[.agg #[.slice A n c, .slice A' m d], .agg #[.slice B n' c', .slice B' m' d']] w fun e w' => e = .returned (.bool (samePl p q)) ∧ Below w.heap.size w w' := by
  have HP := hP.pre
  have HQ := hQ.pre
  have hl := hP.2.1
  have hl' := hQ.2.1
  by_cases ht : eqAll eqS p.sectors q.sectors = true
  · have e1 : samePl p q = eqAll eqP p.cache q.cache := by simp [samePl, ht]
    rw [e1]
    by_cases hmm : m = m'
    · subst hmm
      have HEnd := Lib.hid (eqAll_end eqP (hl.trans hl'.symm))
      rw [hl] at HEnd
      have HNo : Hid (∀ (k : Nat) (x y : PPut), p.cache[k]? = some x → q.cache[k]? = some y → eqP x y = false → eqAll eqP p.cache q.cache = false) := fun k x y => eqAll_no eqP
      generalize hv : eqAll eqP p.cache q.cache = v at HEnd HNo ⊢
      have HL := Lib.hid (And.intro hl hl')
      clear hv hP hQ hl hl' e1
      go_enter Try.func15, Try.ntmps15
      go_wp2_with fail
      refine (texts_any p.sectors q.sectors A B n n' c c' _ (HP.step (by go_grown)).1 (HQ.step (by go_grown)).1 hn).mono ?_
      rintro e w1 ⟨rfl, hb1⟩
      rw [ht]
      have hB1 : Below w.heap.size w w1 := Below.trans (by go_grown) (hb1.mono (by simp; omega))
      have h1 := ((Blk.new w _ _).alloc _).below hb1 (by simp; omega)
      have h2 := (Blk.new_at (g := w.heap.size + 1) (by simp) _ _).below hb1 (by simp)
      have hz := hb1.size
      simp only [World.size_alloc] at hz
      have HBX := Lib.hid (And.intro h1 h2)
      have q1 := h1.cells 1 _ rfl
      have r1 := h2.cells 1 _ rfl
      simp only [List.getElem_toArray, List.getElem_cons_zero, List.getElem_cons_succ] at q1 r1
      clear h1 h2 hb1
      go_wp2_with fail
      clear q1 r1
      go_loopw [5] (fun i wr => ∃ k : Nat, k ≤ m ∧ i = .int .i64 k ∧ Hid (eqTo eqP p.cache q.cache k) ∧ Hid (Below w1.heap.size w1 wr)) (fun i _ => m - (intOf i).toNat)
      case atStart => exact ⟨0, Nat.zero_le _, rfl, eqTo_zero _ _ _, Below.refl _ _⟩
      case round =>
        obtain ⟨k, hk, rfl, HU, HB⟩ := hrel
        have hBr := hB1.trans (HB.out.mono (by omega))
        have q1 := (HBX.out.1.below HB.out (by omega)).cells 1 _ rfl
        have r1 := (HBX.out.2.below HB.out (by omega)).cells 1 _ rfl
        simp only [List.getElem_toArray, List.getElem_cons_zero, List.getElem_cons_succ] at q1 r1
        by_cases hlt : k < m
        · obtain ⟨x, hx⟩ : ∃ x, p.cache[k]? = some x := ⟨p.cache[k]'(by rw [HL.out.1]; exact hlt), List.getElem?_eq_getElem _⟩
          obtain ⟨y, hy⟩ : ∃ x, q.cache[k]? = some x := ⟨q.cache[k]'(by rw [HL.out.2]; exact hlt), List.getElem?_eq_getElem _⟩
          rcases (HP.step hBr).2.2 with h0 | ⟨b, off, rfl, hb, hC⟩
          · omega
          rcases (HQ.step hBr).2.2 with h0 | ⟨b', off', rfl, hb', hC'⟩
          · omega
          obtain ⟨c0, c1⟩ := hC.put hx
          obtain ⟨d0, d1⟩ := hC'.put hy
          have HX := Lib.hid (And.intro hx hy)
          have i0 : (0 : Int) ≤ (k : Int) := by omega
          have i1 : (k : Int) < (m : Int) := by omega
          have he := run_neq_put x y
          clear hx hy hC hC'
          go_wp2_with fail
          go_region
          all_goals go_wp2_with fail
          all_goals first
            | (go_roundw
               case rel => exact ⟨k + 1, by omega, by go_num, eqTo_succ eqP HX.out.1 HX.out.2 HU.out (by simpa using ‹(!eqP x y) = false›), HB.out.drew⟩
               case measure => simp [intOf]; omega)
            | (go_ret
               exact ⟨ret_bool (HNo.out k x y HX.out.1 HX.out.2 (by simpa using ‹(!eqP x y) = true›)).symm, by go_grown⟩)
        · obtain rfl : k = m := by omega
          go_wp2_with fail
          go_ret
          exact ⟨ret_bool (HEnd.out HU.out).symm, hBr⟩
    · rw [eqAll_len eqP (by omega)]
      have t0 : ((m : Int) != (m' : Int)) = true := by simp; omega
      clear hP hQ hl hl' e1 hmm
      go_enter Try.func15, Try.ntmps15
      go_wp2_with fail
      refine (texts_any p.sectors q.sectors A B n n' c c' _ (HP.step (by go_grown)).1 (HQ.step (by go_grown)).1 hn).mono ?_
      rintro e w1 ⟨rfl, hb1⟩
      rw [ht]
      have hB1 : Below w.heap.size w w1 := Below.trans (by go_grown) (hb1.mono (by simp; omega))
      have q1 := (((Blk.new w _ _).alloc _).below hb1 (by simp; omega)).cells 1 _ rfl
      have r1 := ((Blk.new_at (g := w.heap.size + 1) (by simp) _ _).below hb1 (by simp)).cells 1 _ rfl
      simp only [List.getElem_toArray, List.getElem_cons_zero, List.getElem_cons_succ] at q1 r1
      clear hb1
      go_wp2_with fail
      go_ret
      exact ⟨rfl, hB1⟩
  · have e1 : samePl p q = false := by simp [samePl, ht]
    have ht' : eqAll eqS p.sectors q.sectors = false := by simpa using ht
    rw [e1]
    clear hP hQ hl hl' e1 ht
    go_enter Try.func15, Try.ntmps15
    go_wp2_with fail
    refine (texts_any p.sectors q.sectors A B n n' c c' _ (HP.step (by go_grown)).1 (HQ.step (by go_grown)).1 hn).mono ?_
    rintro e w1 ⟨rfl, hb1⟩
    rw [ht']
    have hB1 : Below w.heap.size w w1 := Below.trans (by go_grown) (hb1.mono (by simp; omega))
    clear hb1
    go_wp2_with fail
    go_ret
    exact ⟨rfl, hB1⟩
end Go.Proofs.Ytefodifmfjpnlaa
