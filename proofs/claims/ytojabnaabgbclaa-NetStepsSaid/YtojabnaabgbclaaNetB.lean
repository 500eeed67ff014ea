/- net.Check: whether a net is right. -/
import Derived.Test.YtojabnaabgbclaaNetA
set_option linter.unusedVariables false
namespace Go.Proofs.Ytojabnaabgbclaa
open Go.RowKit
theorem checkB_ints (N : Net) (h : (inB N.sent && (inB N.delivered && (inB N.lost && inB N.doubled))) = false) : checkB N = false := by
  revert h; unfold checkB
  cases inB N.sent <;> cases inB N.delivered <;> cases inB N.lost <;> cases inB N.doubled <;> simp
theorem checkB_letter (N : Net) (k : Nat) (l : Letter) (h : N.way[k]? = some l) (hl : letterB l = false) : checkB N = false := by
  have : N.way.all letterB = false := by
    rw [List.all_eq_false]; exact ⟨l, List.mem_of_getElem? h, by simp [hl]⟩
  simp [checkB, this]
/-- the first k letters may be on the way -/
def upL (L : List Letter) (k : Nat) : Bool := (L.take k).all letterB
theorem upL_succ {L : List Letter} {k : Nat} {l : Letter} (h : L[k]? = some l) : upL L (k + 1) = (upL L k && letterB l) := by
  obtain ⟨hk, he⟩ := List.getElem?_eq_some_iff.1 h
  unfold upL
  rw [List.take_succ_eq_append_getElem hk, List.all_append, he]
  simp
theorem checkB_end (N : Net) (h60 : N.way.length ≤ 60) (h1 : 0 ≤ N.sent ∧ N.sent ≤ 1000000000) (h2 : 0 ≤ N.delivered ∧ N.delivered ≤ 1000000000) (h3 : 0 ≤ N.lost ∧ N.lost ≤ 1000000000) (h4 : 0 ≤ N.doubled ∧ N.doubled ≤ 1000000000)
    (hu : upL N.way N.way.length = true) : checkB N = (N.sent + N.doubled == N.delivered + N.lost + N.way.length) := by
  have : N.way.all letterB = true := by simpa [upL] using hu
  simp [checkB, inB, *]
  rw [Bool.eq_iff_iff]; simp

set_option maxHeartbeats 400000 in
theorem check_ints (N : Net) (A : Option Addr) (c : Nat) (w : World) (hn : N.way.length ≤ 60)
   (h : ¬ ((0 ≤ N.sent ∧ N.sent ≤ 1000000000) ∧ (0 ≤ N.delivered ∧ N.delivered ≤ 1000000000) ∧ (0 ≤ N.lost ∧ N.lost ≤ 1000000000) ∧ (0 ≤ N.doubled ∧ N.doubled ≤ 1000000000))) :
    Calls Try.prog 11 #[.agg #[.slice A N.way.length c, .int .i64 N.sent, .int .i64 N.delivered, .int .i64 N.lost, .int .i64 N.doubled]] w fun e w' => e = .returned (.bool (checkB N)) ∧ Below w.heap.size w w' := by
  rw [checkB_ints N (by simp [inB]; omega)]
  obtain ⟨L, s, d, l, e⟩ := N
  simp only at hn h ⊢
  by_cases h1 : 0 ≤ s ∧ s ≤ 1000000000
  · obtain ⟨h1, h1'⟩ := h1
    by_cases h2 : 0 ≤ d ∧ d ≤ 1000000000
    · obtain ⟨h2, h2'⟩ := h2
      by_cases h3 : 0 ≤ l ∧ l ≤ 1000000000
      · obtain ⟨h3, h3'⟩ := h3
        have h4 : ¬ (0 ≤ e ∧ e ≤ 1000000000) := by omega
        clear h
        go_enter Try.func11, Try.ntmps11
        go_wp2
        go_rounds 4
        all_goals
          go_ret
          exact ⟨rfl, by go_grown⟩
      · clear h
        go_enter Try.func11, Try.ntmps11
        go_wp2
        go_rounds 3
        all_goals
          go_ret
          exact ⟨rfl, by go_grown⟩
    · clear h
      go_enter Try.func11, Try.ntmps11
      go_wp2
      go_rounds 2
      all_goals
        go_ret
        exact ⟨rfl, by go_grown⟩
  · clear h
    go_enter Try.func11, Try.ntmps11
    go_wp2
    go_rounds 1
    all_goals
      go_ret
      exact ⟨rfl, by go_grown⟩

set_option maxHeartbeats 400000 in
theorem check_any (N : Net) (A : Option Addr) (n c : Nat) (w : World) (hS : SlR encL 3 w w.heap.size A n N.way) :
    Calls Try.prog 11 #[.agg #[.slice A n c, .int .i64 N.sent, .int .i64 N.delivered, .int .i64 N.lost, .int .i64 N.doubled]] w fun e w' => e = .returned (.bool (checkB N)) ∧ Below w.heap.size w w' := by
  obtain ⟨rfl, hA⟩ := hS
  by_cases hn : N.way.length ≤ 60
  · by_cases h : (0 ≤ N.sent ∧ N.sent ≤ 1000000000) ∧ (0 ≤ N.delivered ∧ N.delivered ≤ 1000000000) ∧ (0 ≤ N.lost ∧ N.lost ≤ 1000000000) ∧ (0 ≤ N.doubled ∧ N.doubled ≤ 1000000000)
    · obtain ⟨h1, h2, h3, h4⟩ := h
      have HE := Lib.hid (checkB_end N hn h1 h2 h3 h4)
      have HNo := Lib.hid (checkB_letter N)
      obtain ⟨L, s, d, l, e⟩ := N
      simp only at hn h1 h2 h3 h4 hA HE HNo ⊢
      obtain ⟨h1, h1'⟩ := h1
      obtain ⟨h2, h2'⟩ := h2
      obtain ⟨h3, h3'⟩ := h3
      obtain ⟨h4, h4'⟩ := h4
      generalize hv : checkB ⟨L, s, d, l, e⟩ = v at HE HNo ⊢
      clear hv
      rcases hA with h0 | ⟨b, off, rfl, hb, hC⟩
      · have h0' : L.length ≤ 0 := by omega
        have H0 := Lib.hid h0
        clear h0
        go_enter Try.func11, Try.ntmps11
        go_wp2
        go_rounds 5
        go_rounds 1
        go_ret
        exact ⟨ret_bool (by rw [HE.out (by rw [H0.out]; rfl)]), by go_grown⟩
      · have HC := Lib.hid hC
        clear hC
        go_enter Try.func11, Try.ntmps11
        go_wp2
        go_rounds 5
        go_loopw [35] (fun i wr => ∃ k : Nat, k ≤ L.length ∧ i = .int .i64 k ∧ Hid (upL L k = true) ∧ Below w.heap.size w wr ∧ Blk wr w.heap.size 25 #[.slice (some ⟨b, off, none⟩) L.length c, .int .i64 s, .int .i64 d, .int .i64 l, .int .i64 e]) (fun i _ => L.length - (intOf i).toNat)
        case atStart => exact ⟨0, Nat.zero_le _, rfl, rfl, by go_grown, (Blk.new _ _ _).alloc _⟩
        case round =>
          obtain ⟨k, hk, rfl, HK, hB, hbox⟩ := hrel
          have hsz := hbox.lt
          have q0 := hbox.cells 0 _ rfl
          have q1 := hbox.cells 1 _ rfl
          have q2 := hbox.cells 2 _ rfl
          have q3 := hbox.cells 3 _ rfl
          have q4 := hbox.cells 4 _ rfl
          by_cases hlt : k < L.length
          · obtain ⟨x, hx⟩ : ∃ x, L[k]? = some x := ⟨L[k], List.getElem?_eq_getElem hlt⟩
            obtain ⟨c0, c1, c2⟩ := (HC.out.below hB hb).letter hx
            have HX := Lib.hid hx
            clear hx
            go_wp2_with (go_at_call 27; refine (addressed_any _ _).mono ?_; rintro e w' ⟨rfl, hb1⟩; obtain ⟨hc1, hf1⟩ := bcell hb1)
            all_goals first
              | (go_round
                 case rel => exact ⟨k + 1, by omega, by go_num, by unfold Hid; rw [upL_succ HX.out, HK.out]; simp [letterB, *]; omega, Below.trans (by go_grown) (hb1.mono (by simp; omega)), (hbox.alloc _).below hb1 (by simp; omega)⟩
                 case measure => simp [intOf]; omega)
              | (go_ret
                 exact ⟨ret_bool (HNo.out k x HX.out (by first | (simp [letterB, *]; done) | (simp [letterB, *]; omega))).symm, Below.trans (by go_grown) (hb1.mono (by simp; omega))⟩)
          · obtain rfl : k = L.length := by omega
            go_wp2
            go_ret
            exact ⟨ret_bool (HE.out HK.out).symm, hB⟩
    · exact check_ints N A c w hn h
  · have : checkB N = false := by simp [checkB]; omega
    rw [this]
    go_enter Try.func11, Try.ntmps11
    go_wp2
    go_ret
    exact ⟨rfl, by go_grown⟩
end Go.Proofs.Ytojabnaabgbclaa
