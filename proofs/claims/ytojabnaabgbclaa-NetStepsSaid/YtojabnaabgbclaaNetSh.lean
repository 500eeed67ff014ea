/- the references of chapter 19: Double. -/
import Derived.Test.YtojabnaabgbclaaNetSg
set_option linter.unusedVariables false
set_option linter.unusedSimpArgs false
namespace Go.Proofs.Ytojabnaabgbclaa
open Go.RowKit
set_option maxHeartbeats 2000000 in
set_option maxRecDepth 100000 in
theorem rdouble_any (N : Net) (A : Option Addr) (c : Nat) (i : Int) (w : World) (hS : SlR encL 3 w w.heap.size A N.way.length N.way) (hn : N.way.length ≤ 80) (hok : ∀ l ∈ N.way, LetterOk l) :
    Calls Try.prog 21 #[.agg #[.slice A N.way.length c, .int .i64 N.sent, .int .i64 N.delivered, .int .i64 N.lost, .int .i64 N.doubled], .int .i64 i] w (Out2 w (stepF doubleF N i).2) := by
  obtain ⟨i0, hi0, hz0, hz1, hz2⟩ := info_parts letter_info
  have HS : Hid (∀ W, Below w.heap.size w W → SlR encL 3 W W.heap.size A N.way.length N.way) := Lib.hid (fun W hb => (hS.below hb).more hb.size)
  have HC : Hid (∀ W, Below w.heap.size w W → ∀ k x, N.way[k]? = some x → ∃ b off, A = some ⟨b, off, none⟩ ∧ W.cell? ⟨b, off + k * 3, none⟩ = some (.string x.fr) ∧ W.cell? ⟨b, off + k * 3 + 1, none⟩ = some (.string x.to) ∧ W.cell? ⟨b, off + k * 3 + 2, none⟩ = some (.string x.text) ∧ b < w.heap.size) := Lib.hid (fun W hb k x hx => by
    have hk := (List.getElem?_eq_some_iff.1 hx).1
    obtain ⟨b, off, e, hbl, hC⟩ := (hS.below hb).2.resolve_left (by omega)
    obtain ⟨q1, q2, q3⟩ := hC.letter hx
    exact ⟨b, off, e, q1, q2, q3, hbl⟩)
  have HOk := Lib.hid hok
  have HF := Lib.hid (fine_of N)
  clear hS hok
  obtain ⟨R, hRr⟩ : ∃ R, (stepF doubleF N i).2 = R := ⟨_, rfl⟩
  rw [hRr]
  have HR := Lib.hid hRr
  clear hRr
  go_enter Try.func21, Try.ntmps21
  go_wp2_with fail
  refine (at_any N A c i _ (HS.out _ (by go_grown)) hn HOk.out).mono ?_
  rintro e w1 ⟨rfl, hb1⟩
  have HB1 : Hid (LBox w N A c w1) := Lib.hid ⟨Below.trans (by go_grown) (hb1.mono (by simp; omega)), ((Blk.new w _ _).alloc _).below hb1 (by simp; omega), (Blk.new_at (g := w.heap.size + 1) (by simp) _ _).below hb1 (by simp)⟩
  clear hb1
  have s0 := HB1.out.2.2.cells 0 _ rfl
  have s1 := HB1.out.2.2.cells 1 _ rfl
  have s2 := HB1.out.2.2.cells 2 _ rfl
  have s3 := HB1.out.2.2.cells 3 _ rfl
  have s4 := HB1.out.2.2.cells 4 _ rfl
  have sf := HB1.out.2.2.frozen
  have n0 := HB1.out.2.1.cells 0 _ rfl
  have n1 := HB1.out.2.1.cells 1 _ rfl
  have n2 := HB1.out.2.1.cells 2 _ rfl
  have n3 := HB1.out.2.1.cells 3 _ rfl
  have n4 := HB1.out.2.1.cells 4 _ rfl
  simp only [List.getElem_toArray, List.getElem_cons_zero, List.getElem_cons_succ] at s0 s1 s2 s3 s4 n0 n1 n2 n3 n4
  by_cases hE : atE N i = 0
  · obtain ⟨hc, h0, h1⟩ := atE_yes hE
    obtain ⟨j, rfl⟩ := Int.eq_ofNat_of_zero_le h0
    have hj : j < N.way.length := by omega
    have HSt := Lib.hid (stepF_yes (F := doubleF) hc hj)
    obtain ⟨f1, _, _, _, ⟨f2, f3⟩⟩ := HF.out hc
    rw [hE]
    clear hE hc h0 h1
    by_cases hfull : N.way.length = 60 ∨ N.doubled = 1000000000
    · have hR : R = (noNet, 260) := by rw [← HR.out, HSt.out]; simp [doubleF, hfull]
      subst hR
      have hB := HB1.out.1
      by_cases h60 : 60 ≤ N.way.length
      all_goals
        go_wp2_with (with_reducible refine end_at ?_)
        refine end_ret (v := .tuple #[.agg #[.slice none 0 0, .int .i64 0, .int .i64 0, .int .i64 0, .int .i64 0], .int .i64 260]) (by simp [results, Try.results21, go_sem, s0, s1, s2, s3, s4]; try rfl) rfl (out2_no _ _ _ (by go_grown))
    · obtain ⟨x, hx⟩ : ∃ x, N.way[j]? = some x := ⟨N.way[j], List.getElem?_eq_getElem hj⟩
      have hR : R = ({ N with way := N.way ++ [x], doubled := N.doubled + 1 }, 0) := by rw [← HR.out, HSt.out]; simp [doubleF, hfull, hx]
      have HRR := Lib.hid hR
      have HX := Lib.hid hx
      have h60 : N.way.length < 60 := by omega
      have hl9 : N.doubled < 1000000000 := by omega
      clear hR hfull hx
      go_wp2_with fail
      refine (own_any N A c w1 ((HS.out _ HB1.out.1)) hn).mono ?_
      rintro e w2 ⟨v, rfl, ⟨A3, c3, rfl, ho3⟩, hb3⟩
      have HB2 := Lib.hid (HB1.out.below hb3)
      have hsz := HB1.out.2.2.lt
      have hzz2 := hb3.size
      have hzA : w.heap.size + 1 < w2.heap.size := by omega
      clear s0 s1 s2 s3 s4 sf n0 n1 n2 n3 n4 hb3 HB1
      have HO3 := Lib.hid ho3
      clear ho3
      go_wp2_with fail
      have hk8 := Blk.new w2 25 #[.slice A3 N.way.length c3, .int .i64 N.sent, .int .i64 N.delivered, .int .i64 N.lost, .int .i64 N.doubled]
      have hD3 := HB2.out.below (wx := w2.alloc (.cells #[.slice A3 N.way.length c3, .int .i64 N.sent, .int .i64 N.delivered, .int .i64 N.lost, .int .i64 N.doubled] 25)) (by go_grown)
      have hO4 : (w2.alloc (.cells #[.slice A3 N.way.length c3, .int .i64 N.sent, .int .i64 N.delivered, .int .i64 N.lost, .int .i64 N.doubled] 25)).ownsRow w1.heap.size 27 3 (.slice A3 N.way.length c3) N.way.length (flat encL N.way) := World.ownsRow.alloc HO3.out _
      have hz3 : (w2.alloc (.cells #[.slice A3 N.way.length c3, .int .i64 N.sent, .int .i64 N.delivered, .int .i64 N.lost, .int .i64 N.doubled] 25)).heap.size = w2.heap.size + 1 := by simp
      clear HB2 HO3
      generalize w2.alloc (.cells #[.slice A3 N.way.length c3, .int .i64 N.sent, .int .i64 N.delivered, .int .i64 N.lost, .int .i64 N.doubled] 25) = w3 at *
      have hq3 : w2.heap.size < w3.heap.size := by omega
      have hr3 : w1.heap.size ≤ w3.heap.size := by omega
      clear hz3
      have HO4 := Lib.hid hO4
      have HD3 := Lib.hid hD3
      have HK8 := Lib.hid hk8
      obtain ⟨b, off, rfl, c0, c1, c2, hbl⟩ := HC.out w3 hD3.1 j x HX.out
      have hb3 : b < w3.heap.size := by omega
      have k0 := hk8.cells 0 _ rfl
      have kf := hk8.frozen
      have n0 := hD3.2.1.cells 0 _ rfl
      have hgA : w.heap.size < w3.heap.size := by omega
      simp only [List.getElem_toArray, List.getElem_cons_zero, List.getElem_cons_succ] at k0 n0
      have i0' : (0 : Int) ≤ (j : Int) := by omega
      have i1' : (j : Int) < (N.way.length : Int) := by omega
      clear hk8 hO4 hD3
      go_region_law (refine step_append_any _ rfl (.tmp 31) (.tmp 37) _ rfl w1.heap.size _ i0 _ 3 48 Try.underlying23 hi0 hz0 hz1 hz2 rfl (by omega) (.slice A3 N.way.length c3) N.way.length (flat encL N.way) (by simp [Act.eval]) (World.ownsRow.drew (World.ownsRow.alloc HO4.out _)) (w3.heap.size + 1) (some ⟨w3.heap.size, 0, none⟩) 1 1 [.string x.fr, .string x.to, .string x.text] (by simp [Act.eval]) ((Reads.new_at (by simp) 27 #[.string x.fr, .string x.to, .string x.text] rfl).drew) (one_flat [x]) (by simp only [maxLen]; omega) (by omega) (by simp; omega) ?_; intro v1 w4 hown1 hg1 hat1; obtain ⟨A4, c4, rfl, _, _, _⟩ := own_form hown1; have hs1 := (((HK8.out).alloc _).drew).grown hg1 (fun e => own_blk_ne HO4.out HK8.out (by decide) e.symm); have hr1 := (((HD3.out.2.2).alloc _).drew).grown hg1 (fun e => own_blk_ne HO4.out HD3.out.2.2 (by decide) e.symm); have x0 := hs1.cells 0 _ rfl; have x1 := hs1.cells 1 _ rfl; have x2 := hs1.cells 2 _ rfl; have x3 := hs1.cells 3 _ rfl; have x4 := hs1.cells 4 _ rfl; have xf := hs1.frozen; have s0 := hr1.cells 0 _ rfl; have s1 := hr1.cells 1 _ rfl; have s2 := hr1.cells 2 _ rfl; have s3 := hr1.cells 3 _ rfl; have s4 := hr1.cells 4 _ rfl; have sf := hr1.frozen; have HB4 : Hid (Below w.heap.size w w4) := Lib.hid (Below.grown ((HD3.out.1.alloc (by omega) _).drew) hg1 (by simp; omega) (fun k e => by have := (World.ownsRow.lt HO4.out k e).1; omega)); have HO5 := Lib.hid (And.intro (show w4.ownsRow w1.heap.size 27 3 (.slice A4 (N.way.length + 1) c4) (N.way.length + 1) (flat encL (N.way ++ [x])) from by rw [flat_snoc]; exact hown1) (And.intro (own_blk_ne hown1 hs1 (by decide)) (own_blk_ne hown1 hr1 (by decide)))); simp only [List.getElem_toArray, List.getElem_cons_zero, List.getElem_cons_succ] at x0 x1 x2 x3 x4 s0 s1 s2 s3 s4; clear hs1 hr1 hg1 hat1 hown1)
      all_goals go_wp2_with (with_reducible refine end_at ?_)
      all_goals
        have hB := HB4.out
        obtain ⟨h1, m1, m2⟩ := HO5.out
        refine end_ret (v := .tuple #[.agg #[.slice A4 (N.way.length + 1) c4, .int .i64 N.sent, .int .i64 N.delivered, .int .i64 N.lost, .int .i64 (N.doubled + 1)], .int .i64 0]) (by simp [results, Try.results21, go_sem, s0, s1, s2, s3, s4, hzA]; try rfl) rfl ?_
        rw [HRR.out]
        refine ⟨_, rfl, ⟨A4, c4, by simp, own_base (base := w1.heap.size) ?_ (by omega)⟩, by go_grown⟩
        simp only [List.length_append, List.length_singleton]
        repeat' (first | (with_reducible exact h1) | (with_reducible refine World.ownsRow.drew ?_) | (with_reducible refine own_far ?_ m1 _ _) | (with_reducible refine own_far ?_ m2 _ _))
  · have hR : R = (noNet, atE N i) := by rw [← HR.out, stepF_no hE]
    subst hR
    have t0 : (atE N i == 0) = false := by simpa using hE
    have t1 : (atE N i != 0) = true := by simpa using hE
    clear hE
    have hB := HB1.out.1
    go_wp2_with (with_reducible refine end_at ?_)
    refine end_ret (v := .tuple #[.agg #[.slice none 0 0, .int .i64 0, .int .i64 0, .int .i64 0, .int .i64 0], .int .i64 (atE N i)]) (by simp [results, Try.results21, go_sem, s0, s1, s2, s3, s4]; try rfl) rfl (out2_no _ _ _ (by go_grown))
end Go.Proofs.Ytojabnaabgbclaa
