/- net: Deliver, Lose, Double. -/
import Derived.Test.YtojabnaabgbclaaNetF1
import Derived.Test.YtojabnaabgbclaaNetF2
import Derived.Test.YtojabnaabgbclaaNetF3
set_option linter.unusedVariables false
namespace Go.Proofs.Ytojabnaabgbclaa
open Go.RowKit
def Out2 (w : World) (r : Net × Int) (e : Ending) (w' : World) : Prop := ∃ v, e = .returned (.tuple #[v, .int .i64 r.2]) ∧ NetOut w' w.heap.size v r.1 ∧ Below w.heap.size w w'

set_option maxHeartbeats 1000000 in
theorem deliver_any (N : Net) (A : Option Addr) (n c : Nat) (i : Int) (w : World) (hS : SlR encL 3 w w.heap.size A n N.way) :
    Calls Try.prog 16 #[.agg #[.slice A n c, .int .i64 N.sent, .int .i64 N.delivered, .int .i64 N.lost, .int .i64 N.doubled], .int .i64 i] w (Out3 w (stepF deliverF N i)) := by
  have HS : Hid (∀ W, Below w.heap.size w W → w.heap.size ≤ W.heap.size → SlR encL 3 W W.heap.size A n N.way) := fun W hb hs => (hS.below hb).more hs
  clear hS
  generalize hr : stepF deliverF N i = r
  have HR := Lib.hid hr
  clear hr
  obtain ⟨l, M, er⟩ := r
  go_enter Try.func16, Try.ntmps16
  go_wp2_with fail
  refine (step_deliver N A n c i _ (HS.out _ (by go_grown) (by simp; omega))).mono ?_
  rintro e w1 ⟨v, rfl, ⟨A1, c1, rfl, hown⟩, hb1⟩
  rw [HR.out] at hown ⊢
  have hB1 : Below w.heap.size w w1 := Below.trans (by go_grown) (hb1.mono (by simp; omega))
  have hsz1 := hb1.size
  simp only [World.size_alloc] at hsz1 hown
  obtain ⟨hc1, hf1⟩ := bcell hb1
  have hz0 : w.heap.size < w1.heap.size := by omega
  have hz1 : w.heap.size + 1 < w1.heap.size := by omega
  simp only [lv]
  go_wp2_with (with_reducible refine end_at ?_)
  refine end_ret (v := .tuple #[lv l, .agg #[.slice A1 M.way.length c1, .int .i64 M.sent, .int .i64 M.delivered, .int .i64 M.lost, .int .i64 M.doubled], .int .i64 er]) (by simp [results, Try.results16, go_sem, hc1]; rfl) rfl ⟨_, rfl, ⟨A1, c1, rfl, own_base (base := w.heap.size + 1 + 1 + 1) ?_ (by omega)⟩, by go_grown⟩
  repeat' (first | (with_reducible exact hown) | (with_reducible refine World.ownsRow.drew ?_) | (with_reducible refine ownsRow_setCell_below ?_ (by first | (simp; done) | (simp; omega)) _))

set_option maxHeartbeats 400000 in
theorem lose_any (N : Net) (A : Option Addr) (n c : Nat) (i : Int) (w : World) (hS : SlR encL 3 w w.heap.size A n N.way) :
    Calls Try.prog 14 #[.agg #[.slice A n c, .int .i64 N.sent, .int .i64 N.delivered, .int .i64 N.lost, .int .i64 N.doubled], .int .i64 i] w (Out2 w (stepF loseF N i).2) := by
  have HS : Hid (∀ W, Below w.heap.size w W → w.heap.size ≤ W.heap.size → SlR encL 3 W W.heap.size A n N.way) := fun W hb hs => (hS.below hb).more hs
  clear hS
  generalize hr : stepF loseF N i = r
  have HR := Lib.hid hr
  clear hr
  obtain ⟨l, M, er⟩ := r
  go_enter Try.func14, Try.ntmps14
  go_wp2_with fail
  refine (step_lose N A n c i _ (HS.out _ (by go_grown) (by simp; omega))).mono ?_
  rintro e w1 ⟨v, rfl, ⟨A1, c1, rfl, hown⟩, hb1⟩
  rw [HR.out] at hown ⊢
  have hB1 : Below w.heap.size w w1 := Below.trans (by go_grown) (hb1.mono (by simp; omega))
  have hsz1 := hb1.size
  simp only [World.size_alloc] at hsz1 hown
  have hr2 := (Blk.new_at (g := w.heap.size + 1) (by simp) _ _).below hb1 (by simp)
  have s0 := hr2.cells 0 _ rfl
  have s1 := hr2.cells 1 _ rfl
  have s2 := hr2.cells 2 _ rfl
  have s3 := hr2.cells 3 _ rfl
  have s4 := hr2.cells 4 _ rfl
  have fs := hr2.frozen
  simp only [List.getElem_toArray, List.getElem_cons_zero, List.getElem_cons_succ] at s0 s1 s2 s3 s4
  have hz0 : w.heap.size < w1.heap.size := by omega
  have hz1 : w.heap.size + 1 < w1.heap.size := by omega
  have HO := Lib.hid hown
  clear hown hr2 hb1 hsz1
  simp only [lv]
  go_wp2_with (with_reducible refine end_at ?_)
  refine end_ret (v := .tuple #[.agg #[.slice A1 M.way.length c1, .int .i64 M.sent, .int .i64 M.delivered, .int .i64 M.lost, .int .i64 M.doubled], .int .i64 er]) (by simp [results, Try.results14, go_sem, s0, s1, s2, s3, s4, hz0, hz1]; try rfl) rfl ⟨_, rfl, ⟨A1, c1, rfl, own_base (base := w.heap.size + 1 + 1) ?_ (by omega)⟩, by go_grown⟩
  have hown := HO.out
  repeat' (first | (with_reducible exact hown) | (with_reducible refine World.ownsRow.drew ?_) | (with_reducible refine World.ownsRow.alloc ?_ _) | (with_reducible refine ownsRow_setCell_below ?_ (by first | (simp; done) | (simp; omega)) _))

set_option maxHeartbeats 400000 in
theorem double_any (N : Net) (A : Option Addr) (n c : Nat) (i : Int) (w : World) (hS : SlR encL 3 w w.heap.size A n N.way) :
    Calls Try.prog 13 #[.agg #[.slice A n c, .int .i64 N.sent, .int .i64 N.delivered, .int .i64 N.lost, .int .i64 N.doubled], .int .i64 i] w (Out2 w (stepF doubleF N i).2) := by
  have HS : Hid (∀ W, Below w.heap.size w W → w.heap.size ≤ W.heap.size → SlR encL 3 W W.heap.size A n N.way) := fun W hb hs => (hS.below hb).more hs
  clear hS
  generalize hr : stepF doubleF N i = r
  have HR := Lib.hid hr
  clear hr
  obtain ⟨l, M, er⟩ := r
  go_enter Try.func13, Try.ntmps13
  go_wp2_with fail
  refine (step_double N A n c i _ (HS.out _ (by go_grown) (by simp; omega))).mono ?_
  rintro e w1 ⟨v, rfl, ⟨A1, c1, rfl, hown⟩, hb1⟩
  rw [HR.out] at hown ⊢
  have hB1 : Below w.heap.size w w1 := Below.trans (by go_grown) (hb1.mono (by simp; omega))
  have hsz1 := hb1.size
  simp only [World.size_alloc] at hsz1 hown
  have hr2 := (Blk.new_at (g := w.heap.size + 1) (by simp) _ _).below hb1 (by simp)
  have s0 := hr2.cells 0 _ rfl
  have s1 := hr2.cells 1 _ rfl
  have s2 := hr2.cells 2 _ rfl
  have s3 := hr2.cells 3 _ rfl
  have s4 := hr2.cells 4 _ rfl
  have fs := hr2.frozen
  simp only [List.getElem_toArray, List.getElem_cons_zero, List.getElem_cons_succ] at s0 s1 s2 s3 s4
  have hz0 : w.heap.size < w1.heap.size := by omega
  have hz1 : w.heap.size + 1 < w1.heap.size := by omega
  have HO := Lib.hid hown
  clear hown hr2 hb1 hsz1
  simp only [lv]
  go_wp2_with (with_reducible refine end_at ?_)
  refine end_ret (v := .tuple #[.agg #[.slice A1 M.way.length c1, .int .i64 M.sent, .int .i64 M.delivered, .int .i64 M.lost, .int .i64 M.doubled], .int .i64 er]) (by simp [results, Try.results13, go_sem, s0, s1, s2, s3, s4, hz0, hz1]; try rfl) rfl ⟨_, rfl, ⟨A1, c1, rfl, own_base (base := w.heap.size + 1 + 1) ?_ (by omega)⟩, by go_grown⟩
  have hown := HO.out
  repeat' (first | (with_reducible exact hown) | (with_reducible refine World.ownsRow.drew ?_) | (with_reducible refine World.ownsRow.alloc ?_ _) | (with_reducible refine ownsRow_setCell_below ?_ (by first | (simp; done) | (simp; omega)) _))
end Go.Proofs.Ytojabnaabgbclaa
