/- net.step with the method double. -/
import Derived.Test.YtojabnaabgbclaaNetE
set_option linter.unusedVariables false
namespace Go.Proofs.Ytojabnaabgbclaa
open Go.RowKit
set_option maxHeartbeats 1000000 in
theorem step_double_bad (N : Net) (A : Option Addr) (n c : Nat) (i : Int) (w : World) (HS : Hid (∀ W, Below w.heap.size w W → w.heap.size ≤ W.heap.size → SlR encL 3 W W.heap.size A n N.way)) (hc' : checkB N = false) :
    Calls Try.prog 28 #[.agg #[.slice A n c, .int .i64 N.sent, .int .i64 N.delivered, .int .i64 N.lost, .int .i64 N.doubled], .int .i64 i, .func (.func 29) #[] #[]] w (Out3 w (noLetter, noNet, 190)) := by
  go_enter Try.func28, Try.ntmps28
  go_wp2_with fail
  refine (check_any N A n c _ (HS.out _ (by go_grown) (by simp; omega))).mono ?_
  rintro e w1 ⟨rfl, hb1⟩
  rw [hc']
  have hB1 : Below w.heap.size w w1 := Below.trans (by go_grown) (hb1.mono (by simp; omega))
  have hsz1 := hb1.size
  simp only [World.size_alloc] at hsz1
  obtain ⟨hc1, hf1⟩ := bcell hb1
  go_wp2_with fail
  refine bodyPost_ret (v := .tuple #[lv noLetter, .agg #[.slice none 0 0, .int .i64 0, .int .i64 0, .int .i64 0, .int .i64 0], .int .i64 190]) (by simp [results, Try.results28, go_sem, hc1]; rfl) rfl ⟨_, rfl, NetOut.none_ _ _, ?_⟩
  go_grown

set_option maxHeartbeats 1000000 in
theorem step_double_place (N : Net) (A : Option Addr) (n c : Nat) (i : Int) (w : World) (HS : Hid (∀ W, Below w.heap.size w W → w.heap.size ≤ W.heap.size → SlR encL 3 W W.heap.size A n N.way)) (HCk : Hid (checkB N = true)) (hi : i < 0 ∨ (0 ≤ i ∧ (n : Int) ≤ i)) :
    Calls Try.prog 28 #[.agg #[.slice A n c, .int .i64 N.sent, .int .i64 N.delivered, .int .i64 N.lost, .int .i64 N.doubled], .int .i64 i, .func (.func 29) #[] #[]] w (Out3 w (noLetter, noNet, 1)) := by
  rcases hi with hneg | ⟨h0, hge⟩
  all_goals
    go_enter Try.func28, Try.ntmps28
    go_wp2_with fail
    refine (check_any N A n c _ (HS.out _ (by go_grown) (by simp; omega))).mono ?_
    rintro e w1 ⟨rfl, hb1⟩
    rw [HCk.out]
    have hB1 : Below w.heap.size w w1 := Below.trans (by go_grown) (hb1.mono (by simp; omega))
    have hsz1 := hb1.size
    simp only [World.size_alloc] at hsz1
    obtain ⟨hc1, hf1⟩ := bcell hb1
    go_wp2_with fail
    refine bodyPost_ret (v := .tuple #[lv noLetter, .agg #[.slice none 0 0, .int .i64 0, .int .i64 0, .int .i64 0, .int .i64 0], .int .i64 1]) (by simp [results, Try.results28, go_sem, hc1]; rfl) rfl ⟨_, rfl, NetOut.none_ _ _, ?_⟩
    go_grown

set_option maxHeartbeats 1000000 in
theorem step_double_err (N : Net) (b off n c j : Nat) (er : Int) (N2 : Net) (w : World) (HS : Hid (∀ W, Below w.heap.size w W → w.heap.size ≤ W.heap.size → SlR encL 3 W W.heap.size (some ⟨b, off, none⟩) n N.way)) (HCk : Hid (checkB N = true)) (HF : Hid (Fine N)) (HFN : Hid (doubleF N j = (er, N2))) (hj : j < N.way.length) (hjn : j < n) (hd : decide (n ≤ j) = false) (hn60 : n ≤ 60) (t0 : (er != 0) = true) :
    Calls Try.prog 28 #[.agg #[.slice (some ⟨b, off, none⟩) n c, .int .i64 N.sent, .int .i64 N.delivered, .int .i64 N.lost, .int .i64 N.doubled], .int .i64 j, .func (.func 29) #[] #[]] w (Out3 w (noLetter, noNet, er)) := by
  go_enter Try.func28, Try.ntmps28
  go_wp2_with fail
  refine (check_any N (some ⟨b, off, none⟩) n c _ (HS.out _ (by go_grown) (by simp; omega))).mono ?_
  rintro e w1 ⟨rfl, hb1⟩
  rw [HCk.out]
  have hB1 : Below w.heap.size w w1 := Below.trans (by go_grown) (hb1.mono (by simp; omega))
  have hsz1 := hb1.size
  simp only [World.size_alloc] at hsz1
  obtain ⟨hc1, hf1⟩ := bcell hb1
  go_wp2_with fail
  refine (copied_any N (some ⟨b, off, none⟩) n c _ (HS.out _ hB1 (by omega)) hn60).mono ?_
  rintro e w2 ⟨g, rfl, hW2, hb2⟩
  have hsz2 := hb2.size
  go_wp2_with fail
  refine (double_does N j w1.heap.size g w2 hW2 hb2.size HF.out hj).mono ?_
  rintro e w3 ⟨rfl, hW3, hb3⟩
  rw [HFN.out] at hW3 ⊢
  have hB3 := hb1.trans ((hb2.trans hb3).mono (by simpa using hsz1))
  have hB3' : Below w.heap.size w w3 := Below.trans (by go_grown) (hB3.mono (by simp; omega))
  have hsz3 := hB3.size
  simp only [World.size_alloc] at hsz3
  clear hc1 hf1 hb1 hb2 hW2 hb3 hW3
  obtain ⟨hc3, hf3⟩ := bcell hB3
  go_wp2_with fail
  refine bodyPost_ret (v := .tuple #[lv noLetter, .agg #[.slice none 0 0, .int .i64 0, .int .i64 0, .int .i64 0, .int .i64 0], .int .i64 er]) (by simp [results, Try.results28, go_sem, hc3]; rfl) rfl ⟨_, rfl, NetOut.none_ _ _, ?_⟩
  go_grown

set_option maxHeartbeats 1000000 in
theorem step_double_ok (N : Net) (b off n c j : Nat) (x : Letter) (er : Int) (N2 : Net) (w : World) (HS : Hid (∀ W, Below w.heap.size w W → w.heap.size ≤ W.heap.size → SlR encL 3 W W.heap.size (some ⟨b, off, none⟩) n N.way)) (HCk : Hid (checkB N = true)) (HF : Hid (Fine N)) (HFN : Hid (doubleF N j = (er, N2))) (hj : j < N.way.length) (hjn : j < n) (hd : decide (n ≤ j) = false) (hn60 : n ≤ 60) (hb : b < w.heap.size) (HC : Hid (SlC encL 3 w b off N.way)) (HX : Hid (N.way[j]? = some x)) (HE : Hid (er = 0)) (t0 : (er != 0) = false) :
    Calls Try.prog 28 #[.agg #[.slice (some ⟨b, off, none⟩) n c, .int .i64 N.sent, .int .i64 N.delivered, .int .i64 N.lost, .int .i64 N.doubled], .int .i64 j, .func (.func 29) #[] #[]] w (Out3 w (x, N2, 0)) := by
  go_enter Try.func28, Try.ntmps28
  go_wp2_with fail
  refine (check_any N (some ⟨b, off, none⟩) n c _ (HS.out _ (by go_grown) (by simp; omega))).mono ?_
  rintro e w1 ⟨rfl, hb1⟩
  rw [HCk.out]
  have hB1 : Below w.heap.size w w1 := Below.trans (by go_grown) (hb1.mono (by simp; omega))
  have hsz1 := hb1.size
  simp only [World.size_alloc] at hsz1
  obtain ⟨hc1, hf1⟩ := bcell hb1
  go_wp2_with fail
  refine (copied_any N (some ⟨b, off, none⟩) n c _ (HS.out _ hB1 (by omega)) hn60).mono ?_
  rintro e w2 ⟨g, rfl, hW2, hb2⟩
  have hsz2 := hb2.size
  go_wp2_with fail
  refine (double_does N j w1.heap.size g w2 hW2 hb2.size HF.out hj).mono ?_
  rintro e w3 ⟨rfl, hW3, hb3⟩
  rw [HFN.out] at hW3 ⊢
  have hB3 := hb1.trans ((hb2.trans hb3).mono (by simpa using hsz1))
  have hB3' : Below w.heap.size w w3 := Below.trans (by go_grown) (hB3.mono (by simp; omega))
  have hbn := (((Blk.new w _ _).alloc _).alloc _).below hB3 (by simp; omega)
  have hr1 := ((Blk.new_at (g := w.heap.size + 1) (by simp) _ _).alloc _).below hB3 (by simp)
  have hr2 := (Blk.new_at (g := w.heap.size + 1 + 1) (by simp) _ _).below hB3 (by simp)
  obtain ⟨A2, c2, hk, hown, hBg⟩ := hW3
  have hg := hk.lt
  have n0 := hbn.cells 0 _ rfl
  have g0 := hk.cells 0 _ rfl
  have g1 := hk.cells 1 _ rfl
  have g2 := hk.cells 2 _ rfl
  have g3 := hk.cells 3 _ rfl
  have g4 := hk.cells 4 _ rfl
  have p0 := hr1.cells 0 _ rfl
  have p1 := hr1.cells 1 _ rfl
  have p2 := hr1.cells 2 _ rfl
  have s0 := hr2.cells 0 _ rfl
  have s1 := hr2.cells 1 _ rfl
  have s2 := hr2.cells 2 _ rfl
  have s3 := hr2.cells 3 _ rfl
  have s4 := hr2.cells 4 _ rfl
  have fp := hr1.frozen
  have fs := hr2.frozen
  obtain ⟨x0, x1, x2⟩ := (HC.out.below hB3' hb).letter HX.out
  have HO := Lib.hid hown
  have HB := Lib.hid (And.intro hB3' (And.intro hr1 (And.intro hr2 hk)))
  have hsz3 := hB3.size
  clear hc1 hf1 hown hB3 hB1 hb1 hb2 hW2 hbn hr1 hr2 hk hb3 hB3'
  simp only [List.getElem_toArray, List.getElem_cons_zero, List.getElem_cons_succ] at n0 g0 g1 g2 g3 g4 p0 p1 p2 s0 s1 s2 s3 s4
  go_wp2_with fail
  go_region
  all_goals go_wp2
  all_goals
    refine bodyPost_ret (v := .tuple #[lv x, .agg #[.slice A2 N2.way.length c2, .int .i64 N2.sent, .int .i64 N2.delivered, .int .i64 N2.lost, .int .i64 N2.doubled], .int .i64 0]) (by simp [results, Try.results28, go_sem, p0, p1, p2, s0, s1, s2, s3, s4]; rfl) rfl ⟨_, rfl, ⟨A2, c2, rfl, own_base (base := w1.heap.size) ?_ (by omega)⟩, ?_⟩
    · have hown := HO.out
      repeat' (first | (with_reducible exact hown) | (with_reducible refine World.ownsRow.drew ?_) | (with_reducible refine ownsRow_setCell_below ?_ (by simp; omega) _))
    · have hB := HB.out.1
      go_grown

theorem step_double (N : Net) (A : Option Addr) (n c : Nat) (i : Int) (w : World) (hS : SlR encL 3 w w.heap.size A n N.way) :
    Calls Try.prog 28 #[.agg #[.slice A n c, .int .i64 N.sent, .int .i64 N.delivered, .int .i64 N.lost, .int .i64 N.doubled], .int .i64 i, .func (.func 29) #[] #[]] w (Out3 w (stepF doubleF N i)) := by
  have HS : Hid (∀ W, Below w.heap.size w W → w.heap.size ≤ W.heap.size → SlR encL 3 W W.heap.size A n N.way) := fun W hb hs => (hS.below hb).more hs
  have hl := hS.1
  by_cases hc : checkB N = true
  · have hf := fine_of N hc
    by_cases hi : 0 ≤ i ∧ i < N.way.length
    · obtain ⟨j, rfl⟩ := Int.eq_ofNat_of_zero_le hi.1
      have hj : j < N.way.length := by omega
      obtain ⟨x, hx⟩ : ∃ x, N.way[j]? = some x := ⟨N.way[j], List.getElem?_eq_getElem hj⟩
      obtain ⟨er, N2, hFN⟩ : ∃ er N2, doubleF N j = (er, N2) := ⟨_, _, rfl⟩
      have hg : N.way.getD j noLetter = x := by simp [List.getD, hx]
      have e1 : stepF doubleF N j = if er = 0 then (x, N2, 0) else (noLetter, noNet, er) := by simp only [stepF, hc, if_true]; rw [if_pos (by omega)]; simp only [Int.toNat_natCast, hFN, hg]
      rcases hS.2 with h0 | ⟨b, off, rfl, hb, hC⟩
      · omega
      have hn60 : n ≤ 60 := by have := hf.1; omega
      have hd : decide (n ≤ j) = false := by simp; omega
      by_cases her : er = 0
      · rw [e1, if_pos her]
        exact step_double_ok N b off n c j x er N2 w HS hc hf hFN hj (by omega) hd hn60 hb hC hx her (by simp [her])
      · rw [e1, if_neg her]
        exact step_double_err N b off n c j er N2 w HS hc hf hFN hj (by omega) hd hn60 (by simpa using her)
    · have e1 : stepF doubleF N i = (noLetter, noNet, 1) := by simp only [stepF, hc, if_true]; rw [if_neg hi]
      rw [e1]
      exact step_double_place N A n c i w HS hc (by omega)
  · have e1 : stepF doubleF N i = (noLetter, noNet, 190) := by simp [stepF, hc]
    rw [e1]
    exact step_double_bad N A n c i w HS (by simpa using hc)
end Go.Proofs.Ytojabnaabgbclaa
