/- net: the three steps at a place: deliver, lose, double. -/
import Derived.Test.YtojabnaabgbclaaNetC
set_option linter.unusedVariables false
namespace Go.Proofs.Ytojabnaabgbclaa
open Go.RowKit
def Fine (N : Net) : Prop := N.way.length ≤ 60 ∧ (0 ≤ N.sent ∧ N.sent ≤ 1000000000) ∧ (0 ≤ N.delivered ∧ N.delivered ≤ 1000000000) ∧ (0 ≤ N.lost ∧ N.lost ≤ 1000000000) ∧ (0 ≤ N.doubled ∧ N.doubled ≤ 1000000000)
def deliverF (N : Net) (i : Nat) : Int × Net := if N.delivered = 1000000000 then (260, N) else (0, { N with way := N.way.eraseIdx i, delivered := N.delivered + 1 })
def loseF (N : Net) (i : Nat) : Int × Net := if N.lost = 1000000000 then (260, N) else (0, { N with way := N.way.eraseIdx i, lost := N.lost + 1 })
def noLetter : Letter := ⟨ByteArray.empty, ByteArray.empty, ByteArray.empty⟩
def doubleF (N : Net) (i : Nat) : Int × Net := if N.way.length = 60 ∨ N.doubled = 1000000000 then (260, N) else (0, { N with way := N.way ++ [N.way.getD i noLetter], doubled := N.doubled + 1 })
/-- function f does to a net that is worked on what F says -/
def Does (f : Nat) (F : Net → Nat → Int × Net) : Prop := ∀ (N : Net) (i B g : Nat) (w : World), Way w B g N → B ≤ w.heap.size → Fine N → i < N.way.length →
  Calls Try.prog f #[.pointer (some ⟨g, 0, none⟩), .int .i64 i] w fun e w' => e = .returned (.int .i64 (F N i).1) ∧ Way w' B g (F N i).2 ∧ Below B w w'

set_option maxHeartbeats 400000 in
theorem deliver_does : Does 33 deliverF := by
  intro N i B g w hW hB hF hi
  obtain ⟨hn, _, hd, _, _⟩ := hF
  by_cases hfull : N.delivered = 1000000000
  · have e1 : deliverF N i = (260, N) := by simp [deliverF, hfull]
    rw [e1]
    have HW := Lib.hid hW
    obtain ⟨A, c, hk, hown, hBg⟩ := hW
    clear hown
    have k2 := hk.cells 2 _ rfl
    rw [hfull] at k2
    clear hfull hd e1 hk hn hi
    go_enter Try.func33, Try.ntmps33
    go_wp2
    go_ret
    exact ⟨rfl, HW.out, Below.refl _ _⟩
  · have e1 : deliverF N i = (0, { N with way := N.way.eraseIdx i, delivered := N.delivered + 1 }) := by simp [deliverF, hfull]
    rw [e1]
    have HC := Lib.hid (remove_any N i B g w hW hB hn hi)
    obtain ⟨A, c, hk, hown, hBg⟩ := hW
    have k2 := hk.cells 2 _ rfl
    have hd2 : N.delivered < 1000000000 := by omega
    obtain ⟨hd, _⟩ := hd
    clear hfull e1 hown hn hi
    go_enter Try.func33, Try.ntmps33
    go_wp2_with (go_at_call 40; refine HC.out.mono ?_; rintro e w' ⟨rfl, ⟨A1, c1, hk1, hown1, _⟩, hb1⟩; have q2 := hk1.cells 2 _ rfl; have f2 := hk1.frozen 2)
    go_ret
    exact ⟨rfl, ⟨A1, c1, by simpa using hk1.set_ 2 _, own_far hown1 (own_blk_ne hown1 hk1 (by decide)) _ _, hBg⟩, hb1.setCell hBg _⟩

set_option maxHeartbeats 400000 in
theorem lose_does : Does 30 loseF := by
  intro N i B g w hW hB hF hi
  obtain ⟨hn, _, _, hd, _⟩ := hF
  by_cases hfull : N.lost = 1000000000
  · have e1 : loseF N i = (260, N) := by simp [loseF, hfull]
    rw [e1]
    have HW := Lib.hid hW
    obtain ⟨A, c, hk, hown, hBg⟩ := hW
    clear hown
    have k2 := hk.cells 3 _ rfl
    rw [hfull] at k2
    clear hfull hd e1 hk hn hi
    go_enter Try.func30, Try.ntmps30
    go_wp2
    go_ret
    exact ⟨rfl, HW.out, Below.refl _ _⟩
  · have e1 : loseF N i = (0, { N with way := N.way.eraseIdx i, lost := N.lost + 1 }) := by simp [loseF, hfull]
    rw [e1]
    have HC := Lib.hid (remove_any N i B g w hW hB hn hi)
    obtain ⟨A, c, hk, hown, hBg⟩ := hW
    have k2 := hk.cells 3 _ rfl
    have hd2 : N.lost < 1000000000 := by omega
    obtain ⟨hd, _⟩ := hd
    clear hfull e1 hown hn hi
    go_enter Try.func30, Try.ntmps30
    go_wp2_with (go_at_call 40; refine HC.out.mono ?_; rintro e w' ⟨rfl, ⟨A1, c1, hk1, hown1, _⟩, hb1⟩; have q2 := hk1.cells 3 _ rfl; have f2 := hk1.frozen 3)
    go_ret
    exact ⟨rfl, ⟨A1, c1, by simpa using hk1.set_ 3 _, own_far hown1 (own_blk_ne hown1 hk1 (by decide)) _ _, hBg⟩, hb1.setCell hBg _⟩

set_option maxHeartbeats 400000 in
theorem double_does : Does 29 doubleF := by
  intro N i B g w hW hB hF hi
  obtain ⟨hn, _, _, _, hd⟩ := hF
  by_cases h60 : N.way.length = 60
  · have e1 : doubleF N i = (260, N) := by simp [doubleF, h60]
    rw [e1]
    have HW := Lib.hid hW
    obtain ⟨A, c, hk, hown, hBg⟩ := hW
    clear hown
    rw [h60] at hk
    have k0 := hk.cells 0 _ rfl
    have k4 := hk.cells 4 _ rfl
    clear h60 hd e1 hk hn hi
    go_enter Try.func29, Try.ntmps29
    go_wp2
    go_ret
    exact ⟨rfl, HW.out, Below.refl _ _⟩
  · by_cases hfull : N.doubled = 1000000000
    · have e1 : doubleF N i = (260, N) := by simp [doubleF, hfull]
      rw [e1]
      have HW := Lib.hid hW
      obtain ⟨A, c, hk, hown, hBg⟩ := hW
      clear hown
      have k0 := hk.cells 0 _ rfl
      have k4 := hk.cells 4 _ rfl
      rw [hfull] at k4
      have hlt60 : N.way.length < 60 := by omega
      clear h60 hfull hd e1 hk hn hi
      go_enter Try.func29, Try.ntmps29
      go_wp2
      go_ret
      exact ⟨rfl, HW.out, Below.refl _ _⟩
    · obtain ⟨x, hx⟩ : ∃ x, N.way[i]? = some x := ⟨N.way[i], List.getElem?_eq_getElem hi⟩
      have e1 : doubleF N i = (0, { N with way := N.way ++ [x], doubled := N.doubled + 1 }) := by simp [doubleF, hfull, h60, hx]
      rw [e1]
      have HC := Lib.hid (add_any N x B g w hW hB (by omega))
      obtain ⟨A, c, hk, hown, hBg⟩ := hW
      obtain ⟨_, hs⟩ := SlR.of_own encL_len hown rfl
      rcases hs with h0 | ⟨b, off, rfl, hb, hC⟩
      · omega
      obtain ⟨c0, c1, c2⟩ := hC.letter hx
      have k0 := hk.cells 0 _ rfl
      have k4 := hk.cells 4 _ rfl
      have hlt60 : N.way.length < 60 := by omega
      have hd2 : N.doubled < 1000000000 := by omega
      have t60 : ((N.way.length : Int) == 60) = false := by simp; omega
      have t61 : (N.doubled == 1000000000) = false := by simp; omega
      obtain ⟨hd, _⟩ := hd
      have HX := Lib.hid hx
      clear h60 hfull e1 hown hn hC hx
      go_enter Try.func29, Try.ntmps29
      go_wp2_with (go_at_call 32; refine HC.out.mono ?_; rintro e w' ⟨rfl, ⟨A1, c1, hk1, hown1, _⟩, hb1⟩; have q2 := hk1.cells 4 _ rfl; have f2 := hk1.frozen 4)
      go_ret
      exact ⟨rfl, ⟨A1, c1, by simpa using hk1.set_ 4 _, own_far hown1 (own_blk_ne hown1 hk1 (by decide)) _ _, hBg⟩, hb1.setCell hBg _⟩
end Go.Proofs.Ytojabnaabgbclaa
