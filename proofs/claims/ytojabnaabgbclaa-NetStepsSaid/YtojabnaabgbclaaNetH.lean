/- net.Send. -/
import Derived.Test.YtojabnaabgbclaaNetG
set_option linter.unusedVariables false
namespace Go.Proofs.Ytojabnaabgbclaa
open Go.RowKit
def sendF (N : Net) (l : Letter) : Net × Int :=
  if checkB N = true then
    if addrB l = true then
      if l.text.size ≤ 4000 then
        if N.way.length = 60 ∨ N.sent = 1000000000 then (noNet, 260) else ({ N with way := N.way ++ [l], sent := N.sent + 1 }, 0)
      else (noNet, 2)
    else (noNet, 1)
  else (noNet, 190)

set_option maxHeartbeats 1000000 in
theorem send_bad (N : Net) (l : Letter) (A : Option Addr) (n c : Nat) (w : World) (HS : Hid (∀ W, Below w.heap.size w W → w.heap.size ≤ W.heap.size → SlR encL 3 W W.heap.size A n N.way)) (hc : checkB N = false) :
    Calls Try.prog 15 #[.agg #[.slice A n c, .int .i64 N.sent, .int .i64 N.delivered, .int .i64 N.lost, .int .i64 N.doubled], .agg #[.string l.fr, .string l.to, .string l.text]] w (Out2 w (noNet, 190)) := by
  go_enter Try.func15, Try.ntmps15
  go_wp2_with fail
  refine (check_any N A n c _ (HS.out _ (by go_grown) (by simp; omega))).mono ?_
  rintro e w1 ⟨rfl, hb1⟩
  rw [hc]
  have hB1 : Below w.heap.size w w1 := Below.trans (by go_grown) (hb1.mono (by simp; omega))
  have hr2 := (Blk.new_at (g := w.heap.size + 1 + 1) (by simp) _ _).below hb1 (by simp)
  have s0 := hr2.cells 0 _ rfl
  have s1 := hr2.cells 1 _ rfl
  have s2 := hr2.cells 2 _ rfl
  have s3 := hr2.cells 3 _ rfl
  have s4 := hr2.cells 4 _ rfl
  have fs := hr2.frozen
  simp only [List.getElem_toArray, List.getElem_cons_zero, List.getElem_cons_succ] at s0 s1 s2 s3 s4
  clear hr2 hb1
  go_wp2_with (with_reducible refine end_at ?_)
  refine end_ret (v := .tuple #[.agg #[.slice none 0 0, .int .i64 0, .int .i64 0, .int .i64 0, .int .i64 0], .int .i64 190]) (by simp [results, Try.results15, go_sem, s0, s1, s2, s3, s4]; try rfl) rfl ⟨_, rfl, NetOut.none_ _ _, by go_grown⟩

set_option maxHeartbeats 1000000 in
theorem send_none (N : Net) (l : Letter) (A : Option Addr) (n c : Nat) (w : World) (HS : Hid (∀ W, Below w.heap.size w W → w.heap.size ≤ W.heap.size → SlR encL 3 W W.heap.size A n N.way)) (hc : checkB N = true) (ha : addrB l = false) :
    Calls Try.prog 15 #[.agg #[.slice A n c, .int .i64 N.sent, .int .i64 N.delivered, .int .i64 N.lost, .int .i64 N.doubled], .agg #[.string l.fr, .string l.to, .string l.text]] w (Out2 w (noNet, 1)) := by
  go_enter Try.func15, Try.ntmps15
  go_wp2_with fail
  refine (check_any N A n c _ (HS.out _ (by go_grown) (by simp; omega))).mono ?_
  rintro e w1 ⟨rfl, hb1⟩
  rw [hc]
  have hr1 := ((Blk.new_at (g := w.heap.size + 1) (by simp) _ _).alloc _).below hb1 (by simp)
  have l0 := hr1.cells 0 _ rfl
  have l1 := hr1.cells 1 _ rfl
  have l2 := hr1.cells 2 _ rfl
  simp only [List.getElem_toArray, List.getElem_cons_zero, List.getElem_cons_succ] at l0 l1 l2
  clear hr1
  go_wp2_with fail
  refine (addressed_any l w1).mono ?_
  rintro e w2 ⟨rfl, hb2⟩
  rw [ha]
  have hb3 := hb1.trans (hb2.mono hb1.size)
  have hB3 : Below w.heap.size w w2 := Below.trans (by go_grown) (hb3.mono (by simp; omega))
  have hr2 := (Blk.new_at (g := w.heap.size + 1 + 1) (by simp) _ _).below hb3 (by simp)
  have s0 := hr2.cells 0 _ rfl
  have s1 := hr2.cells 1 _ rfl
  have s2 := hr2.cells 2 _ rfl
  have s3 := hr2.cells 3 _ rfl
  have s4 := hr2.cells 4 _ rfl
  have fs := hr2.frozen
  simp only [List.getElem_toArray, List.getElem_cons_zero, List.getElem_cons_succ] at s0 s1 s2 s3 s4
  clear hr2 hb1 hb2 hb3
  go_wp2_with (with_reducible refine end_at ?_)
  refine end_ret (v := .tuple #[.agg #[.slice none 0 0, .int .i64 0, .int .i64 0, .int .i64 0, .int .i64 0], .int .i64 1]) (by simp [results, Try.results15, go_sem, s0, s1, s2, s3, s4]; try rfl) rfl ⟨_, rfl, NetOut.none_ _ _, by go_grown⟩

set_option maxHeartbeats 1000000 in
theorem send_full (N : Net) (l : Letter) (A : Option Addr) (c er : Nat) (w : World) (HS : Hid (∀ W, Below w.heap.size w W → w.heap.size ≤ W.heap.size → SlR encL 3 W W.heap.size A N.way.length N.way)) (hc : checkB N = true) (ha : addrB l = true)
    (hr : (4000 < l.text.size ∧ er = 2) ∨ (l.text.size ≤ 4000 ∧ ((N.way.length : Int) == 60) = true ∧ er = 260) ∨ (l.text.size ≤ 4000 ∧ ((N.way.length : Int) == 60) = false ∧ (N.sent == 1000000000) = true ∧ er = 260)) :
    Calls Try.prog 15 #[.agg #[.slice A N.way.length c, .int .i64 N.sent, .int .i64 N.delivered, .int .i64 N.lost, .int .i64 N.doubled], .agg #[.string l.fr, .string l.to, .string l.text]] w (Out2 w (noNet, er)) := by
  rcases hr with ⟨ht, rfl⟩ | ⟨ht, t1, rfl⟩ | ⟨ht, t1, t2, rfl⟩
  all_goals
    go_enter Try.func15, Try.ntmps15
    go_wp2_with fail
    refine (check_any N A _ c _ (HS.out _ (by go_grown) (by simp; omega))).mono ?_
    rintro e w1 ⟨rfl, hb1⟩
    rw [hc]
    have hr1 := ((Blk.new_at (g := w.heap.size + 1) (by simp) _ _).alloc _).below hb1 (by simp)
    have l0 := hr1.cells 0 _ rfl
    have l1 := hr1.cells 1 _ rfl
    have l2 := hr1.cells 2 _ rfl
    simp only [List.getElem_toArray, List.getElem_cons_zero, List.getElem_cons_succ] at l0 l1 l2
    clear hr1
    go_wp2_with fail
    refine (addressed_any l w1).mono ?_
    rintro e w2 ⟨rfl, hb2⟩
    rw [ha]
    have hb3 := hb1.trans (hb2.mono hb1.size)
    have hB3 : Below w.heap.size w w2 := Below.trans (by go_grown) (hb3.mono (by simp; omega))
    have hr0 := (((Blk.new w _ _).alloc _).alloc _).below hb3 (by simp; omega)
    have n0 := hr0.cells 0 _ rfl
    have n1 := hr0.cells 1 _ rfl
    have hr1 := ((Blk.new_at (g := w.heap.size + 1) (by simp) _ _).alloc _).below hb3 (by simp)
    have m2 := hr1.cells 2 _ rfl
    have hr2 := (Blk.new_at (g := w.heap.size + 1 + 1) (by simp) _ _).below hb3 (by simp)
    have s0 := hr2.cells 0 _ rfl
    have s1 := hr2.cells 1 _ rfl
    have s2 := hr2.cells 2 _ rfl
    have s3 := hr2.cells 3 _ rfl
    have s4 := hr2.cells 4 _ rfl
    have fs := hr2.frozen
    simp only [List.getElem_toArray, List.getElem_cons_zero, List.getElem_cons_succ] at n0 n1 m2 s0 s1 s2 s3 s4
    clear hr0 hr1 hr2 hb1 hb2 hb3 l0 l1 l2
    go_wp2_with (with_reducible refine end_at ?_)
    refine end_ret (v := .tuple #[.agg #[.slice none 0 0, .int .i64 0, .int .i64 0, .int .i64 0, .int .i64 0], .int .i64 _]) (by simp [results, Try.results15, go_sem, s0, s1, s2, s3, s4]; try rfl) rfl ⟨_, rfl, NetOut.none_ _ _, by go_grown⟩

set_option maxHeartbeats 1000000 in
theorem send_ok (N : Net) (l : Letter) (A : Option Addr) (c : Nat) (w : World) (HS : Hid (∀ W, Below w.heap.size w W → w.heap.size ≤ W.heap.size → SlR encL 3 W W.heap.size A N.way.length N.way)) (hc : checkB N = true) (ha : addrB l = true)
    (ht : l.text.size ≤ 4000) (t1 : ((N.way.length : Int) == 60) = false) (t2 : (N.sent == 1000000000) = false) (h60 : N.way.length < 60) (hs0 : 0 ≤ N.sent) (hs1 : N.sent < 1000000000) :
    Calls Try.prog 15 #[.agg #[.slice A N.way.length c, .int .i64 N.sent, .int .i64 N.delivered, .int .i64 N.lost, .int .i64 N.doubled], .agg #[.string l.fr, .string l.to, .string l.text]] w (Out2 w ({ N with way := N.way ++ [l], sent := N.sent + 1 }, 0)) := by
  go_enter Try.func15, Try.ntmps15
  go_wp2_with fail
  refine (check_any N A _ c _ (HS.out _ (by go_grown) (by simp; omega))).mono ?_
  rintro e w1 ⟨rfl, hb1⟩
  rw [hc]
  have hr1 := ((Blk.new_at (g := w.heap.size + 1) (by simp) _ _).alloc _).below hb1 (by simp)
  have l0 := hr1.cells 0 _ rfl
  have l1 := hr1.cells 1 _ rfl
  have l2 := hr1.cells 2 _ rfl
  simp only [List.getElem_toArray, List.getElem_cons_zero, List.getElem_cons_succ] at l0 l1 l2
  clear hr1
  go_wp2_with fail
  refine (addressed_any l w1).mono ?_
  rintro e w2 ⟨rfl, hb2⟩
  rw [ha]
  have hb3 := hb1.trans (hb2.mono hb1.size)
  have hB3 : Below w.heap.size w w2 := Below.trans (by go_grown) (hb3.mono (by simp; omega))
  have hr0 := (((Blk.new w _ _).alloc _).alloc _).below hb3 (by simp; omega)
  have n0 := hr0.cells 0 _ rfl
  have n1 := hr0.cells 1 _ rfl
  have n2 := hr0.cells 2 _ rfl
  have n3 := hr0.cells 3 _ rfl
  have n4 := hr0.cells 4 _ rfl
  have hr1 := ((Blk.new_at (g := w.heap.size + 1) (by simp) _ _).alloc _).below hb3 (by simp)
  have m0 := hr1.cells 0 _ rfl
  have m1 := hr1.cells 1 _ rfl
  have m2 := hr1.cells 2 _ rfl
  simp only [List.getElem_toArray, List.getElem_cons_zero, List.getElem_cons_succ] at n0 n1 n2 n3 n4 m0 m1 m2
  have hsz3 := hb3.size
  simp only [World.size_alloc] at hsz3
  clear hr0 l0 l1 l2
  go_wp2_with fail
  refine (copied_any N A _ c w2 (HS.out _ hB3 (by omega)) (by omega)).mono ?_
  rintro e w3 ⟨g, rfl, hW3, hb4⟩
  have hr1' := hr1.below hb4 (by omega)
  have o0 := hr1'.cells 0 _ rfl
  have o1 := hr1'.cells 1 _ rfl
  have o2 := hr1'.cells 2 _ rfl
  simp only [List.getElem_toArray, List.getElem_cons_zero, List.getElem_cons_succ] at o0 o1 o2
  clear hr1 hr1' m0 m1 m2 n0 n1 n2 n3 n4
  go_wp2_with fail
  refine (add_any N l w2.heap.size g w3 hW3 hb4.size h60).mono ?_
  rintro e w4 ⟨rfl, ⟨A2, c2, hk, hown, hBg⟩, hb5⟩
  have hb6 := hb3.trans ((hb4.trans hb5).mono (by simpa using hsz3))
  have hB6 : Below w.heap.size w w4 := Below.trans (by go_grown) (hb6.mono (by simp; omega))
  have hr2 := (Blk.new_at (g := w.heap.size + 1 + 1) (by simp) _ _).below hb6 (by simp)
  have s0 := hr2.cells 0 _ rfl
  have s1 := hr2.cells 1 _ rfl
  have s2 := hr2.cells 2 _ rfl
  have s3 := hr2.cells 3 _ rfl
  have s4 := hr2.cells 4 _ rfl
  have fs := hr2.frozen
  have g0 := hk.cells 0 _ rfl
  have g1 := hk.cells 1 _ rfl
  have g2 := hk.cells 2 _ rfl
  have g3 := hk.cells 3 _ rfl
  have g4 := hk.cells 4 _ rfl
  have fg := hk.frozen
  simp only [List.getElem_toArray, List.getElem_cons_zero, List.getElem_cons_succ] at s0 s1 s2 s3 s4 g0 g1 g2 g3 g4
  have hgne : g ≠ w.heap.size + 1 + 1 := by omega
  have HO := Lib.hid (And.intro hown (own_blk_ne hown hk (by decide)))
  have HZ := Lib.hid hsz3
  clear hr2 hb1 hb2 hb3 hb4 hb5 hb6 hW3 hk hown o0 o1 o2 hB3
  simp only [List.length_append, List.length_singleton] at g0
  go_wp2_with (with_reducible refine end_at ?_)
  refine end_ret (v := .tuple #[.agg #[.slice A2 (N.way.length + 1) c2, .int .i64 (N.sent + 1), .int .i64 N.delivered, .int .i64 N.lost, .int .i64 N.doubled], .int .i64 0]) (by simp [results, Try.results15, go_sem, s0, s1, s2, s3, s4]; try rfl) rfl ⟨_, rfl, ⟨A2, c2, by simp, own_base (base := w2.heap.size) ?_ (by have := HZ.out; omega)⟩, by go_grown⟩
  have hown := HO.out.1
  have hne := HO.out.2
  have hz := HZ.out
  repeat' (first | (with_reducible exact hown) | (with_reducible refine World.ownsRow.drew ?_) | (with_reducible refine ownsRow_setCell_below ?_ (by first | (simp; done) | (simp; omega)) _) | (with_reducible refine own_far ?_ hne _ _))

theorem send_any (N : Net) (l : Letter) (A : Option Addr) (n c : Nat) (w : World) (hS : SlR encL 3 w w.heap.size A n N.way) :
    Calls Try.prog 15 #[.agg #[.slice A n c, .int .i64 N.sent, .int .i64 N.delivered, .int .i64 N.lost, .int .i64 N.doubled], .agg #[.string l.fr, .string l.to, .string l.text]] w (Out2 w (sendF N l)) := by
  have HS : Hid (∀ W, Below w.heap.size w W → w.heap.size ≤ W.heap.size → SlR encL 3 W W.heap.size A n N.way) := fun W hb hs => (hS.below hb).more hs
  obtain ⟨rfl, _⟩ := hS
  unfold sendF
  by_cases hc : checkB N = true
  · obtain ⟨hf60, hfs, _⟩ := fine_of N hc
    rw [if_pos hc]
    by_cases ha : addrB l = true
    · rw [if_pos ha]
      by_cases ht : l.text.size ≤ 4000
      · rw [if_pos ht]
        by_cases h60 : N.way.length = 60
        · rw [if_pos (.inl h60)]
          exact send_full N l A c 260 w HS hc ha (.inr (.inl ⟨ht, by simp [h60], rfl⟩))
        · have t1 : ((N.way.length : Int) == 60) = false := by simp; omega
          by_cases hs : N.sent = 1000000000
          · rw [if_pos (.inr hs)]
            exact send_full N l A c 260 w HS hc ha (.inr (.inr ⟨ht, t1, by simp [hs], rfl⟩))
          · rw [if_neg (by simp [h60, hs])]
            exact send_ok N l A c w HS hc ha ht t1 (by simp [hs]) (by omega) (by omega) (by omega)
      · rw [if_neg ht]
        exact send_full N l A c 2 w HS hc ha (.inl ⟨by omega, rfl⟩)
    · rw [if_neg ha]
      exact send_none N l A _ c w HS hc (by simpa using ha)
  · rw [if_neg hc]
    exact send_bad N l A _ c w HS (by simpa using hc)
end Go.Proofs.Ytojabnaabgbclaa
