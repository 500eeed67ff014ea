/- the references of chapter 19: at, Lose. -/
import Derived.Test.YtojabnaabgbclaaNetSe
set_option linter.unusedVariables false
set_option linter.unusedSimpArgs false
namespace Go.Proofs.Ytojabnaabgbclaa
open Go.RowKit
def atE (N : Net) (i : Int) : Int := if checkB N = true then if 0 ≤ i ∧ i < N.way.length then 0 else 1 else 190
theorem stepF_no {F : Net → Nat → Int × Net} {N : Net} {i : Int} (h : atE N i ≠ 0) : stepF F N i = (noLetter, noNet, atE N i) := by
  unfold atE at h ⊢
  unfold stepF
  split
  · rename_i hc
    rw [if_pos hc] at h
    split
    · rename_i hi
      rw [if_pos hi] at h
      exact absurd rfl h
    · rfl
  · rfl
theorem atE_yes {N : Net} {i : Int} (h : atE N i = 0) : checkB N = true ∧ 0 ≤ i ∧ i < N.way.length := by
  unfold atE at h
  split at h
  · rename_i hc
    split at h
    · rename_i hi
      exact ⟨hc, hi⟩
    · cases h
  · cases h
theorem stepF_yes {F : Net → Nat → Int × Net} {N : Net} {j : Nat} (hc : checkB N = true) (hj : j < N.way.length) : stepF F N j = if (F N j).1 = 0 then (N.way.getD j noLetter, (F N j).2, 0) else (noLetter, noNet, (F N j).1) := by
  unfold stepF; rw [if_pos hc, if_pos ⟨by omega, by omega⟩, Int.toNat_natCast]
set_option maxHeartbeats 1000000 in
theorem at_any (N : Net) (A : Option Addr) (c : Nat) (i : Int) (w : World) (hS : SlR encL 3 w w.heap.size A N.way.length N.way) (hn : N.way.length ≤ 80) (hok : ∀ l ∈ N.way, LetterOk l) :
    Calls Try.prog 35 #[.agg #[.slice A N.way.length c, .int .i64 N.sent, .int .i64 N.delivered, .int .i64 N.lost, .int .i64 N.doubled], .int .i64 i] w fun e w' => e = .returned (.int .i64 (atE N i)) ∧ Below w.heap.size w w' := by
  have HCk := Lib.hid (rcheck_any N A c (w.alloc (.cells #[.slice A N.way.length c, .int .i64 N.sent, .int .i64 N.delivered, .int .i64 N.lost, .int .i64 N.doubled] 25)) ((hS.below (by go_grown)).more (by simp)) hn hok)
  clear hS hok
  cases hc : checkB N with
  | false =>
    have hv : atE N i = 190 := by simp [atE, hc]
    rw [hv]
    rw [hc] at HCk
    go_enter Try.func35, Try.ntmps35
    go_wp2_with fail
    refine HCk.out.mono ?_
    rintro e w1 ⟨rfl, hb1⟩
    have hB : Below w.heap.size w w1 := Below.trans (by go_grown) (hb1.mono (by simp))
    go_wp2_with fail
    go_ret
    exact ⟨rfl, hB⟩
  | true =>
    have hv : atE N i = if 0 ≤ i ∧ i < N.way.length then 0 else 1 := by simp [atE, hc]
    rw [hv]
    rw [hc] at HCk
    by_cases h0 : 0 ≤ i
    · by_cases h1 : i < N.way.length
      all_goals
        simp only [h0, h1, and_self, and_true, and_false, if_true, if_false]
        go_enter Try.func35, Try.ntmps35
        go_wp2_with fail
        refine HCk.out.mono ?_
        rintro e w1 ⟨rfl, hb1⟩
        have hB : Below w.heap.size w w1 := Below.trans (by go_grown) (hb1.mono (by simp))
        have n0 := ((Blk.new w _ _).below hb1 (by simp)).cells 0 _ rfl
        simp only [List.getElem_toArray, List.getElem_cons_zero] at n0
        clear hb1
        go_wp2_with fail
        go_ret
        exact ⟨rfl, hB⟩
    · simp only [h0, false_and, if_false]
      go_enter Try.func35, Try.ntmps35
      go_wp2_with fail
      refine HCk.out.mono ?_
      rintro e w1 ⟨rfl, hb1⟩
      have hB : Below w.heap.size w w1 := Below.trans (by go_grown) (hb1.mono (by simp))
      go_wp2_with fail
      go_ret
      exact ⟨rfl, hB⟩
/-- the argument's box, and the result's -/
def LBox (w : World) (N : Net) (A : Option Addr) (c : Nat) (wr : World) : Prop :=
  Below w.heap.size w wr ∧ Blk wr w.heap.size 25 #[.slice A N.way.length c, .int .i64 N.sent, .int .i64 N.delivered, .int .i64 N.lost, .int .i64 N.doubled] ∧
  Blk wr (w.heap.size + 1) 25 #[.slice none 0 0, .int .i64 0, .int .i64 0, .int .i64 0, .int .i64 0]
theorem LBox.below {w wr wx : World} {N : Net} {A : Option Addr} {c : Nat} (h : LBox w N A c wr) (hb : Below wr.heap.size wr wx) : LBox w N A c wx :=
  ⟨h.1.trans (hb.mono h.1.size), h.2.1.below hb h.2.1.lt, h.2.2.below hb h.2.2.lt⟩
set_option maxHeartbeats 2000000 in
set_option maxRecDepth 100000 in
theorem rlose_any (N : Net) (A : Option Addr) (c : Nat) (i : Int) (w : World) (hS : SlR encL 3 w w.heap.size A N.way.length N.way) (hn : N.way.length ≤ 80) (hok : ∀ l ∈ N.way, LetterOk l) :
    Calls Try.prog 20 #[.agg #[.slice A N.way.length c, .int .i64 N.sent, .int .i64 N.delivered, .int .i64 N.lost, .int .i64 N.doubled], .int .i64 i] w (Out2 w (stepF loseF N i).2) := by
  have HS : Hid (∀ W, Below w.heap.size w W → SlR encL 3 W W.heap.size A N.way.length N.way) := Lib.hid (fun W hb => (hS.below hb).more hb.size)
  have HOk := Lib.hid hok
  have HF := Lib.hid (fine_of N)
  clear hS hok
  obtain ⟨R, hRr⟩ : ∃ R, (stepF loseF N i).2 = R := ⟨_, rfl⟩
  rw [hRr]
  have HR := Lib.hid hRr
  clear hRr
  go_enter Try.func20, Try.ntmps20
  go_wp2_with fail
  refine (at_any N A c i _ (HS.out _ (by go_grown)) hn HOk.out).mono ?_
  rintro e w1 ⟨rfl, hb1⟩
  have HB1 : Hid (LBox w N A c w1) := Lib.hid ⟨Below.trans (by go_grown) (hb1.mono (by simp; omega)), ((Blk.new w _ _).alloc _).below hb1 (by simp; omega), (Blk.new_at (g := w.heap.size + 1) (by simp) _ _).below hb1 (by simp)⟩
  clear hb1
  have s0 := HB1.out.2.2.cells 0 _ rfl
  have s1 := HB1.out.2.2.cells 1 _ rfl
  have s2 := HB1.out.2.2.cells 2 _ rfl
  have s3 := HB1.out.2.2.cells 3 _ rfl
  have s4 := HB1.out.2.2.cells 4 _ rfl
  have sf := HB1.out.2.2.frozen
  have n0 := HB1.out.2.1.cells 0 _ rfl
  have n1 := HB1.out.2.1.cells 1 _ rfl
  have n2 := HB1.out.2.1.cells 2 _ rfl
  have n3 := HB1.out.2.1.cells 3 _ rfl
  have n4 := HB1.out.2.1.cells 4 _ rfl
  simp only [List.getElem_toArray, List.getElem_cons_zero, List.getElem_cons_succ] at s0 s1 s2 s3 s4 n0 n1 n2 n3 n4
  by_cases hE : atE N i = 0
  · obtain ⟨hc, h0, h1⟩ := atE_yes hE
    obtain ⟨j, rfl⟩ := Int.eq_ofNat_of_zero_le h0
    have hj : j < N.way.length := by omega
    have HSt := Lib.hid (stepF_yes (F := loseF) hc hj)
    obtain ⟨f1, _, _, ⟨f2, f3⟩, _⟩ := HF.out hc
    have HR2 := Lib.hid HR.out
    rw [hE]
    clear hE hc h0 h1
    by_cases hfull : N.lost = 1000000000
    · have hR : R = (noNet, 260) := by rw [← HR.out, HSt.out]; simp [loseF, hfull]
      subst hR
      have hB := HB1.out.1
      go_wp2_with (with_reducible refine end_at ?_)
      refine end_ret (v := .tuple #[.agg #[.slice none 0 0, .int .i64 0, .int .i64 0, .int .i64 0, .int .i64 0], .int .i64 260]) (by simp [results, Try.results20, go_sem, s0, s1, s2, s3, s4]; try rfl) rfl (out2_no _ _ _ (by go_grown))
    · have hR : R = ({ N with way := N.way.eraseIdx j, lost := N.lost + 1 }, 0) := by rw [← HR.out, HSt.out]; simp [loseF, hfull]
      have HRR := Lib.hid hR
      have hl9 : N.lost < 1000000000 := by omega
      clear hR hfull
      go_wp2_with fail
      refine (without_any N A c j w1 ((HS.out _ HB1.out.1)) hn hj).mono ?_
      rintro e w2 ⟨v, rfl, ⟨A3, c3, rfl, ho3⟩, hb3⟩
      have HB2 := Lib.hid (HB1.out.below hb3)
      have hsz := HB1.out.2.2.lt
      have hz2 := hb3.size
      have hzA : w.heap.size + 1 < w2.heap.size := by omega
      clear s0 s1 s2 s3 s4 sf n0 n1 n2 n3 n4 hb3 HB1
      have s0 := HB2.out.2.2.cells 0 _ rfl
      have s1 := HB2.out.2.2.cells 1 _ rfl
      have s2 := HB2.out.2.2.cells 2 _ rfl
      have s3 := HB2.out.2.2.cells 3 _ rfl
      have s4 := HB2.out.2.2.cells 4 _ rfl
      have sf := HB2.out.2.2.frozen
      simp only [List.getElem_toArray, List.getElem_cons_zero, List.getElem_cons_succ] at s0 s1 s2 s3 s4
      have HO3 := Lib.hid ho3
      clear ho3
      simp only
      go_wp2_with (with_reducible refine end_at ?_)
      have hB := HB2.out.1
      refine end_ret (v := .tuple #[.agg #[.slice A3 (N.way.eraseIdx j).length c3, .int .i64 N.sent, .int .i64 N.delivered, .int .i64 (N.lost + 1), .int .i64 N.doubled], .int .i64 0]) (by simp [results, Try.results20, go_sem, s0, s1, s2, s3, s4, hzA]; try rfl) rfl ?_
      rw [HRR.out]
      refine ⟨_, rfl, ⟨A3, c3, rfl, own_base (base := w1.heap.size) ?_ (by omega)⟩, by go_grown⟩
      have h1 := HO3.out
      simp only at h1 ⊢
      repeat' (first | (with_reducible exact h1) | (with_reducible refine World.ownsRow.alloc ?_ _) | (with_reducible refine ownsRow_setCell_below ?_ (by first | (simp; done) | (simp; omega)) _))
  · have hR : R = (noNet, atE N i) := by rw [← HR.out, stepF_no hE]
    subst hR
    have t0 : (atE N i == 0) = false := by simpa using hE
    have t1 : (atE N i != 0) = true := by simpa using hE
    clear hE
    have hB := HB1.out.1
    go_wp2_with (with_reducible refine end_at ?_)
    refine end_ret (v := .tuple #[.agg #[.slice none 0 0, .int .i64 0, .int .i64 0, .int .i64 0, .int .i64 0], .int .i64 (atE N i)]) (by simp [results, Try.results20, go_sem, s0, s1, s2, s3, s4]; try rfl) rfl (out2_no _ _ _ (by go_grown))
end Go.Proofs.Ytojabnaabgbclaa
