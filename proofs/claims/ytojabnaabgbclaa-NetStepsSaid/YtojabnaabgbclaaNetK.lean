/- the laws' helpers of chapter 19: step. -/
import Derived.Test.YtojabnaabgbclaaNetH
set_option linter.unusedVariables false
namespace Go.Proofs.Ytojabnaabgbclaa
open Go.RowKit
structure Op where
  kind : Int
  letter : Letter
  i : Int
def lstepF (N : Net) (o : Op) : Letter × Net × Int :=
  if o.kind = 1 then (noLetter, sendF N o.letter) else if o.kind = 2 then stepF deliverF N o.i else if o.kind = 3 then (noLetter, (stepF loseF N o.i).2) else (noLetter, (stepF doubleF N o.i).2)
def HoldsNet (w : World) (A : Option Addr) (n : Nat) (N : Net) : Prop := Hid (∀ W, Below w.heap.size w W → w.heap.size ≤ W.heap.size → SlR encL 3 W W.heap.size A n N.way)

set_option maxHeartbeats 1000000 in
theorem lstep_send (N : Net) (k : Int) (l : Letter) (A : Option Addr) (n c : Nat) (i : Int) (w : World) (HS : HoldsNet w A n N) (t1 : (k == 1) = true) :
    Calls Try.prog 9 #[.agg #[.slice A n c, .int .i64 N.sent, .int .i64 N.delivered, .int .i64 N.lost, .int .i64 N.doubled], .agg #[.int .i64 k, .string l.fr, .string l.to, .string l.text, .int .i64 i]] w (Out3 w (noLetter, sendF N l)) := by
  generalize hr : sendF N l = r
  have HR := Lib.hid hr
  clear hr
  obtain ⟨M, er⟩ := r
  go_enter Try.func9, Try.ntmps9
  go_wp2_with fail
  refine (send_any N l A n c _ (HS.out _ (by go_grown) (by simp; omega))).mono ?_
  rintro e w1 ⟨v, rfl, ⟨A1, c1, rfl, hown⟩, hb1⟩
  rw [HR.out] at hown ⊢
  have hB1 : Below w.heap.size w w1 := Below.trans (by go_grown) (hb1.mono (by simp; omega))
  have hr1 := ((Blk.new_at (g := w.heap.size + 1 + 1) (by simp) _ _).alloc _).below hb1 (by simp)
  have hr2 := (Blk.new_at (g := w.heap.size + 1 + 1 + 1) (by simp) _ _).below hb1 (by simp)
  have p0 := hr1.cells 0 _ rfl
  have p1 := hr1.cells 1 _ rfl
  have p2 := hr1.cells 2 _ rfl
  have s0 := hr2.cells 0 _ rfl
  have s1 := hr2.cells 1 _ rfl
  have s2 := hr2.cells 2 _ rfl
  have s3 := hr2.cells 3 _ rfl
  have s4 := hr2.cells 4 _ rfl
  have fp := hr1.frozen
  have fs := hr2.frozen
  simp only [List.getElem_toArray, List.getElem_cons_zero, List.getElem_cons_succ] at p0 p1 p2 s0 s1 s2 s3 s4
  have hz := hb1.size
  simp only [World.size_alloc] at hz hown
  have hz0 : w.heap.size + 1 + 1 < w1.heap.size := by omega
  have hz1 : w.heap.size + 1 + 1 + 1 < w1.heap.size := by omega
  have HO := Lib.hid hown
  clear hr1 hr2 hb1 hown hz
  go_wp2_with fail
  go_region
  all_goals go_wp2_with (with_reducible refine end_at ?_)
  all_goals
    refine end_ret (v := .tuple #[lv noLetter, .agg #[.slice A1 M.way.length c1, .int .i64 M.sent, .int .i64 M.delivered, .int .i64 M.lost, .int .i64 M.doubled], .int .i64 er]) (by simp [results, Try.results9, go_sem, p0, p1, p2, s0, s1, s2, s3, s4, hz0, hz1]; try rfl) rfl ⟨_, rfl, ⟨A1, c1, rfl, own_base (base := w.heap.size + 1 + 1 + 1 + 1) ?_ (by omega)⟩, by go_grown⟩
    have hown := HO.out
    repeat' (first | (with_reducible exact hown) | (with_reducible refine World.ownsRow.drew ?_) | (with_reducible refine World.ownsRow.alloc ?_ _) | (with_reducible refine ownsRow_setCell_below ?_ (by first | (simp; done) | (simp; omega)) _))

set_option maxHeartbeats 1000000 in
theorem lstep_deliver (N : Net) (k : Int) (l : Letter) (A : Option Addr) (n c : Nat) (i : Int) (w : World) (HS : HoldsNet w A n N) (t1 : (k == 1) = false) (t2 : (k == 2) = true) :
    Calls Try.prog 9 #[.agg #[.slice A n c, .int .i64 N.sent, .int .i64 N.delivered, .int .i64 N.lost, .int .i64 N.doubled], .agg #[.int .i64 k, .string l.fr, .string l.to, .string l.text, .int .i64 i]] w (Out3 w (stepF deliverF N i)) := by
  generalize hr : stepF deliverF N i = r
  have HR := Lib.hid hr
  clear hr
  obtain ⟨l1, M, er⟩ := r
  go_enter Try.func9, Try.ntmps9
  go_wp2_with fail
  refine (deliver_any N A n c i _ (HS.out _ (by go_grown) (by simp; omega))).mono ?_
  rintro e w1 ⟨v, rfl, ⟨A1, c1, rfl, hown⟩, hb1⟩
  rw [HR.out] at hown ⊢
  have hB1 : Below w.heap.size w w1 := Below.trans (by go_grown) (hb1.mono (by simp; omega))
  have hr1 := ((Blk.new_at (g := w.heap.size + 1 + 1) (by simp) _ _).alloc _).below hb1 (by simp)
  have hr2 := (Blk.new_at (g := w.heap.size + 1 + 1 + 1) (by simp) _ _).below hb1 (by simp)
  have p0 := hr1.cells 0 _ rfl
  have p1 := hr1.cells 1 _ rfl
  have p2 := hr1.cells 2 _ rfl
  have s0 := hr2.cells 0 _ rfl
  have s1 := hr2.cells 1 _ rfl
  have s2 := hr2.cells 2 _ rfl
  have s3 := hr2.cells 3 _ rfl
  have s4 := hr2.cells 4 _ rfl
  have fp := hr1.frozen
  have fs := hr2.frozen
  simp only [List.getElem_toArray, List.getElem_cons_zero, List.getElem_cons_succ] at p0 p1 p2 s0 s1 s2 s3 s4
  have hz := hb1.size
  simp only [World.size_alloc] at hz hown
  have hz0 : w.heap.size + 1 + 1 < w1.heap.size := by omega
  have hz1 : w.heap.size + 1 + 1 + 1 < w1.heap.size := by omega
  have HO := Lib.hid hown
  clear hr1 hr2 hb1 hown hz
  simp only [lv]
  go_wp2_with (with_reducible refine end_at ?_)
  all_goals
    refine end_ret (v := .tuple #[lv l1, .agg #[.slice A1 M.way.length c1, .int .i64 M.sent, .int .i64 M.delivered, .int .i64 M.lost, .int .i64 M.doubled], .int .i64 er]) (by simp [results, Try.results9, go_sem, p0, p1, p2, s0, s1, s2, s3, s4]; try rfl) rfl ⟨_, rfl, ⟨A1, c1, rfl, own_base (base := w.heap.size + 1 + 1 + 1 + 1) ?_ (by omega)⟩, by go_grown⟩
    have hown := HO.out
    repeat' (first | (with_reducible exact hown) | (with_reducible refine World.ownsRow.drew ?_) | (with_reducible refine World.ownsRow.alloc ?_ _) | (with_reducible refine ownsRow_setCell_below ?_ (by first | (simp; done) | (simp; omega)) _))

set_option maxHeartbeats 1000000 in
theorem lstep_lose (N : Net) (k : Int) (l : Letter) (A : Option Addr) (n c : Nat) (i : Int) (w : World) (HS : HoldsNet w A n N) (t1 : (k == 1) = false) (t2 : (k == 2) = false) (t3 : (k == 3) = true) :
    Calls Try.prog 9 #[.agg #[.slice A n c, .int .i64 N.sent, .int .i64 N.delivered, .int .i64 N.lost, .int .i64 N.doubled], .agg #[.int .i64 k, .string l.fr, .string l.to, .string l.text, .int .i64 i]] w (Out3 w (noLetter, (stepF loseF N i).2)) := by
  generalize hr : (stepF loseF N i).2 = r
  have HR := Lib.hid hr
  clear hr
  obtain ⟨M, er⟩ := r
  go_enter Try.func9, Try.ntmps9
  go_wp2_with fail
  refine (lose_any N A n c i _ (HS.out _ (by go_grown) (by simp; omega))).mono ?_
  rintro e w1 ⟨v, rfl, ⟨A1, c1, rfl, hown⟩, hb1⟩
  rw [HR.out] at hown ⊢
  have hB1 : Below w.heap.size w w1 := Below.trans (by go_grown) (hb1.mono (by simp; omega))
  have hr1 := ((Blk.new_at (g := w.heap.size + 1 + 1) (by simp) _ _).alloc _).below hb1 (by simp)
  have hr2 := (Blk.new_at (g := w.heap.size + 1 + 1 + 1) (by simp) _ _).below hb1 (by simp)
  have p0 := hr1.cells 0 _ rfl
  have p1 := hr1.cells 1 _ rfl
  have p2 := hr1.cells 2 _ rfl
  have s0 := hr2.cells 0 _ rfl
  have s1 := hr2.cells 1 _ rfl
  have s2 := hr2.cells 2 _ rfl
  have s3 := hr2.cells 3 _ rfl
  have s4 := hr2.cells 4 _ rfl
  have fp := hr1.frozen
  have fs := hr2.frozen
  simp only [List.getElem_toArray, List.getElem_cons_zero, List.getElem_cons_succ] at p0 p1 p2 s0 s1 s2 s3 s4
  have hz := hb1.size
  simp only [World.size_alloc] at hz hown
  have hz0 : w.heap.size + 1 + 1 < w1.heap.size := by omega
  have hz1 : w.heap.size + 1 + 1 + 1 < w1.heap.size := by omega
  have HO := Lib.hid hown
  clear hr1 hr2 hb1 hown hz
  go_wp2_with fail
  go_region
  all_goals go_wp2_with (with_reducible refine end_at ?_)
  all_goals
    refine end_ret (v := .tuple #[lv noLetter, .agg #[.slice A1 M.way.length c1, .int .i64 M.sent, .int .i64 M.delivered, .int .i64 M.lost, .int .i64 M.doubled], .int .i64 er]) (by simp [results, Try.results9, go_sem, p0, p1, p2, s0, s1, s2, s3, s4, hz0, hz1]; try rfl) rfl ⟨_, rfl, ⟨A1, c1, rfl, own_base (base := w.heap.size + 1 + 1 + 1 + 1) ?_ (by omega)⟩, by go_grown⟩
    have hown := HO.out
    repeat' (first | (with_reducible exact hown) | (with_reducible refine World.ownsRow.drew ?_) | (with_reducible refine World.ownsRow.alloc ?_ _) | (with_reducible refine ownsRow_setCell_below ?_ (by first | (simp; done) | (simp; omega)) _))

set_option maxHeartbeats 1000000 in
theorem lstep_double (N : Net) (k : Int) (l : Letter) (A : Option Addr) (n c : Nat) (i : Int) (w : World) (HS : HoldsNet w A n N) (t1 : (k == 1) = false) (t2 : (k == 2) = false) (t3 : (k == 3) = false) :
    Calls Try.prog 9 #[.agg #[.slice A n c, .int .i64 N.sent, .int .i64 N.delivered, .int .i64 N.lost, .int .i64 N.doubled], .agg #[.int .i64 k, .string l.fr, .string l.to, .string l.text, .int .i64 i]] w (Out3 w (noLetter, (stepF doubleF N i).2)) := by
  generalize hr : (stepF doubleF N i).2 = r
  have HR := Lib.hid hr
  clear hr
  obtain ⟨M, er⟩ := r
  go_enter Try.func9, Try.ntmps9
  go_wp2_with fail
  refine (double_any N A n c i _ (HS.out _ (by go_grown) (by simp; omega))).mono ?_
  rintro e w1 ⟨v, rfl, ⟨A1, c1, rfl, hown⟩, hb1⟩
  rw [HR.out] at hown ⊢
  have hB1 : Below w.heap.size w w1 := Below.trans (by go_grown) (hb1.mono (by simp; omega))
  have hr1 := ((Blk.new_at (g := w.heap.size + 1 + 1) (by simp) _ _).alloc _).below hb1 (by simp)
  have hr2 := (Blk.new_at (g := w.heap.size + 1 + 1 + 1) (by simp) _ _).below hb1 (by simp)
  have p0 := hr1.cells 0 _ rfl
  have p1 := hr1.cells 1 _ rfl
  have p2 := hr1.cells 2 _ rfl
  have s0 := hr2.cells 0 _ rfl
  have s1 := hr2.cells 1 _ rfl
  have s2 := hr2.cells 2 _ rfl
  have s3 := hr2.cells 3 _ rfl
  have s4 := hr2.cells 4 _ rfl
  have fp := hr1.frozen
  have fs := hr2.frozen
  simp only [List.getElem_toArray, List.getElem_cons_zero, List.getElem_cons_succ] at p0 p1 p2 s0 s1 s2 s3 s4
  have hz := hb1.size
  simp only [World.size_alloc] at hz hown
  have hz0 : w.heap.size + 1 + 1 < w1.heap.size := by omega
  have hz1 : w.heap.size + 1 + 1 + 1 < w1.heap.size := by omega
  have HO := Lib.hid hown
  clear hr1 hr2 hb1 hown hz
  go_wp2_with fail
  go_region
  all_goals go_wp2_with (with_reducible refine end_at ?_)
  all_goals
    refine end_ret (v := .tuple #[lv noLetter, .agg #[.slice A1 M.way.length c1, .int .i64 M.sent, .int .i64 M.delivered, .int .i64 M.lost, .int .i64 M.doubled], .int .i64 er]) (by simp [results, Try.results9, go_sem, p0, p1, p2, s0, s1, s2, s3, s4, hz0, hz1]; try rfl) rfl ⟨_, rfl, ⟨A1, c1, rfl, own_base (base := w.heap.size + 1 + 1 + 1 + 1) ?_ (by omega)⟩, by go_grown⟩
    have hown := HO.out
    repeat' (first | (with_reducible exact hown) | (with_reducible refine World.ownsRow.drew ?_) | (with_reducible refine World.ownsRow.alloc ?_ _) | (with_reducible refine ownsRow_setCell_below ?_ (by first | (simp; done) | (simp; omega)) _))

theorem lstep_any (N : Net) (o : Op) (A : Option Addr) (n c : Nat) (w : World) (hS : SlR encL 3 w w.heap.size A n N.way) :
    Calls Try.prog 9 #[.agg #[.slice A n c, .int .i64 N.sent, .int .i64 N.delivered, .int .i64 N.lost, .int .i64 N.doubled], .agg #[.int .i64 o.kind, .string o.letter.fr, .string o.letter.to, .string o.letter.text, .int .i64 o.i]] w (Out3 w (lstepF N o)) := by
  have HS : HoldsNet w A n N := fun W hb hs => (hS.below hb).more hs
  unfold lstepF
  by_cases h1 : o.kind = 1
  · rw [if_pos h1]; exact lstep_send N o.kind o.letter A n c o.i w HS (by simp [h1])
  · rw [if_neg h1]
    by_cases h2 : o.kind = 2
    · rw [if_pos h2]; exact lstep_deliver N o.kind o.letter A n c o.i w HS (by simp [h1]) (by simp [h2])
    · rw [if_neg h2]
      by_cases h3 : o.kind = 3
      · rw [if_pos h3]; exact lstep_lose N o.kind o.letter A n c o.i w HS (by simp [h1]) (by simp [h2]) (by simp [h3])
      · rw [if_neg h3]; exact lstep_double N o.kind o.letter A n c o.i w HS (by simp [h1]) (by simp [h2]) (by simp [h3])
end Go.Proofs.Ytojabnaabgbclaa
