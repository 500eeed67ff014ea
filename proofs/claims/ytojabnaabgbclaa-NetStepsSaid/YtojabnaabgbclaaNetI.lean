/- the laws' helpers of chapter 19: nets. -/
import Derived.Test.YtojabnaabgbclaaNetH
import Derived.Deep.RegionHeld3
set_option linter.unusedVariables false
namespace Go.Proofs.Ytojabnaabgbclaa
open Go.RowKit
def lx : Letter := ⟨⟨#[97]⟩, ⟨#[98]⟩, ⟨#[120]⟩⟩
def ly : Letter := ⟨⟨#[98]⟩, ⟨#[97]⟩, ⟨#[121]⟩⟩
def net1 : Net := ⟨[lx], 1, 0, 0, 0⟩
def net2 : Net := ⟨[lx, ly], 2, 0, 0, 0⟩
def net3 : Net := ⟨[lx, ly, lx], 2, 0, 0, 1⟩
def net4 : Net := ⟨[ly, lx], 2, 0, 1, 1⟩
def net5 : Net := ⟨[ly], 2, 1, 1, 1⟩
theorem nets1 : sendF noNet lx = (net1, 0) := by rfl
theorem nets2 : sendF net1 ly = (net2, 0) := by rfl
theorem nets3 : (stepF doubleF net2 0).2 = (net3, 0) := by rfl
theorem nets4 : (stepF loseF net3 0).2 = (net4, 0) := by rfl
theorem nets5 : stepF deliverF net4 1 = (lx, net5, 0) := by rfl
theorem nets6 : stepF deliverF noNet 0 = (noLetter, noNet, 1) := by rfl
theorem nets7 : checkB net5 = true := by rfl

set_option maxHeartbeats 1000000 in
theorem nets_any (w : World) : Calls Try.prog 8 #[] w fun e w' => e = .returned (.bool true) ∧ Below w.heap.size w w' := by
  go_enter Try.func8, Try.ntmps8
  go_wp2_with fail
  refine (send_any noNet lx none 0 0 _ SlR.nil_).mono ?_
  rintro e w1 ⟨v, rfl, ⟨A1, c1, rfl, hown1⟩, hb1⟩
  rw [nets1] at hown1 ⊢
  have hX := ((Blk.new w _ _).alloc _).below hb1 (by simp; omega)
  have hY := (Blk.new_at (g := w.heap.size + 1) (by simp) _ _).below hb1 (by simp)
  have hS1 : SlR encL 3 w1 w1.heap.size A1 1 net1.way := SlR.of_own encL_len hown1 rfl
  have hB1 : Below w.heap.size w w1 := Below.trans (by go_grown) (hb1.mono (by simp; omega))
  have y0 := hY.cells 0 _ rfl
  have y1 := hY.cells 1 _ rfl
  have y2 := hY.cells 2 _ rfl
  have hz1 := hb1.size
  simp only [World.size_alloc] at hz1
  have hy := hY.lt
  simp only [List.getElem_toArray, List.getElem_cons_zero, List.getElem_cons_succ] at y0 y1 y2
  clear hb1 hown1
  go_wp2_with fail
  refine (send_any net1 ly A1 1 c1 _ ((hS1.below ((Below.refl _ _).alloc (Nat.le_refl _) _)).more (by simp))).mono ?_
  rintro e w2 ⟨v, rfl, ⟨A2, c2, rfl, hown2⟩, hb2⟩
  rw [nets2] at hown2 ⊢
  have hS2 : SlR encL 3 w2 w2.heap.size A2 2 net2.way := SlR.of_own encL_len hown2 rfl
  have hX2 := (hX.alloc _).below hb2 (by have := hX.lt; simp; omega)
  have hY2 := (hY.alloc _).below hb2 (by have := hY.lt; simp; omega)
  have hB2 : Below w.heap.size w w2 := Below.trans (by go_grown) (hb2.mono (by simp; omega))
  have hz2 := hb2.size
  simp only [World.size_alloc] at hz2
  clear hb2 hown2 hX hY y0 y1 y2 hS1 hB1
  go_wp2_with fail
  refine (double_any net2 A2 2 c2 0 _ ((hS2.below ((Below.refl _ _).alloc (Nat.le_refl _) _)).more (by simp))).mono ?_
  rintro e w3 ⟨v, rfl, ⟨A3, c3, rfl, hown3⟩, hb3⟩
  rw [nets3] at hown3 ⊢
  have hS3 : SlR encL 3 w3 w3.heap.size A3 3 net3.way := SlR.of_own encL_len hown3 rfl
  have hX3 := (hX2.alloc _).below hb3 (by have := hX2.lt; simp; omega)
  have hY3 := (hY2.alloc _).below hb3 (by have := hY2.lt; simp; omega)
  have hB3 : Below w.heap.size w w3 := Below.trans (by go_grown) (hb3.mono (by simp; omega))
  have hz3 := hb3.size
  simp only [World.size_alloc] at hz3
  clear hb3 hown3 hX2 hY2 hS2 hB2
  go_wp2_with fail
  refine (lose_any net3 A3 3 c3 0 _ ((hS3.below ((Below.refl _ _).alloc (Nat.le_refl _) _)).more (by simp))).mono ?_
  rintro e w4 ⟨v, rfl, ⟨A4, c4, rfl, hown4⟩, hb4⟩
  rw [nets4] at hown4 ⊢
  have hS4 : SlR encL 3 w4 w4.heap.size A4 2 net4.way := SlR.of_own encL_len hown4 rfl
  have hX4 := (hX3.alloc _).below hb4 (by have := hX3.lt; simp; omega)
  have hY4 := (hY3.alloc _).below hb4 (by have := hY3.lt; simp; omega)
  have hB4 : Below w.heap.size w w4 := Below.trans (by go_grown) (hb4.mono (by simp; omega))
  have hz4 := hb4.size
  simp only [World.size_alloc] at hz4
  clear hb4 hown4 hX3 hY3 hS3 hB3
  go_wp2_with fail
  refine (deliver_any net4 A4 2 c4 1 _ ((hS4.below ((Below.refl _ _).alloc (Nat.le_refl _) _)).more (by simp))).mono ?_
  rintro e w5 ⟨v, rfl, ⟨A5, c5, rfl, hown5⟩, hb5⟩
  rw [nets5] at hown5 ⊢
  obtain ⟨_, hS5⟩ : SlR encL 3 w5 w5.heap.size A5 1 net5.way := SlR.of_own encL_len hown5 rfl
  rcases hS5 with h0 | ⟨b, off, rfl, hb, hC⟩
  · omega
  have hX5 := (hX4.alloc _).below hb5 (by have := hX4.lt; simp; omega)
  have hY5 := (hY4.alloc _).below hb5 (by have := hY4.lt; simp; omega)
  have hB5 : Below w.heap.size w w5 := Below.trans (by go_grown) (hb5.mono (by simp; omega))
  have hz5 := hb5.size
  simp only [World.size_alloc] at hz5
  clear hb5 hown5 hX4 hY4 hS4 hB4
  simp only [lv, lx]
  go_wp2_with fail
  refine (deliver_any noNet none 0 0 0 _ SlR.nil_).mono ?_
  rintro e w6 ⟨v, rfl, ⟨A6, c6, rfl, hown6⟩, hb6⟩
  rw [nets6] at hown6 ⊢
  have hL6 := ((Blk.new w5 _ _).alloc _).below hb6 (by simp; omega)
  have hN6 := (Blk.new_at (g := w5.heap.size + 1) (by simp) _ _).below hb6 (by simp)
  have hX6 := ((hX5.alloc _).alloc _).below hb6 (by have := hX5.lt; simp; omega)
  have hY6 := ((hY5.alloc _).alloc _).below hb6 (by have := hY5.lt; simp; omega)
  have hB6 : Below w.heap.size w w6 := Below.trans (by go_grown) (hb6.mono (by simp; omega))
  have hw56 : Below w5.heap.size w5 w6 := Below.trans (by go_grown) (hb6.mono (by simp; omega))
  have hz6 := hb6.size
  simp only [World.size_alloc] at hz6
  obtain ⟨d0, d1, d2⟩ := (hC.below hw56 hb).letter (k := 0) (l := ly) rfl
  have HS : Hid (∀ W, Below w6.heap.size w6 W → w6.heap.size ≤ W.heap.size → SlR encL 3 W W.heap.size (some ⟨b, off, none⟩) 1 net5.way) := fun W h1 h2 => (SlR.ofC rfl (by omega) ((hC.below hw56 hb).below h1 (by omega)))
  have x0 := hX6.cells 0 _ rfl
  have x1 := hX6.cells 1 _ rfl
  have x2 := hX6.cells 2 _ rfl
  have y0 := hY6.cells 0 _ rfl
  have y1 := hY6.cells 1 _ rfl
  have y2 := hY6.cells 2 _ rfl
  have l0 := hL6.cells 0 _ rfl
  have l1 := hL6.cells 1 _ rfl
  have l2 := hL6.cells 2 _ rfl
  have n0 := hN6.cells 0 _ rfl
  have n1 := hN6.cells 1 _ rfl
  have n2 := hN6.cells 2 _ rfl
  have n3 := hN6.cells 3 _ rfl
  have n4 := hN6.cells 4 _ rfl
  simp only [List.getElem_toArray, List.getElem_cons_zero, List.getElem_cons_succ, net5, ly, Nat.zero_mul, Nat.add_zero] at x0 x1 x2 y0 y1 y2 l0 l1 l2 n0 n1 n2 n3 n4 d0 d1 d2
  have HB := Lib.hid hB6
  have hzA : w.heap.size + 1 < w5.heap.size := by omega
  clear hb6 hX6 hY6 hL6 hN6 hown6 hX5 hY5 hB5 hC hw56 hB6 hz1 hz2 hz3 hz4 hz5
  simp only [net5, lv, noLetter, noNet, List.length_singleton, List.length_nil]
  go_wp2_with fail
  go_region_held3 (fun w' => w'.cell? ⟨w.heap.size, 0, none⟩ = some (.string ⟨#[97]⟩) ∧ w'.cell? ⟨w.heap.size, 1, none⟩ = some (.string ⟨#[98]⟩) ∧ w'.cell? ⟨w.heap.size, 2, none⟩ = some (.string ⟨#[120]⟩) ∧
      w'.cell? ⟨w.heap.size + 1, 0, none⟩ = some (.string ⟨#[98]⟩) ∧ w'.cell? ⟨w.heap.size + 1, 1, none⟩ = some (.string ⟨#[97]⟩) ∧ w'.cell? ⟨w.heap.size + 1, 2, none⟩ = some (.string ⟨#[121]⟩) ∧
      w'.cell? ⟨w5.heap.size, 0, none⟩ = some (.string ⟨#[97]⟩) ∧ w'.cell? ⟨w5.heap.size, 1, none⟩ = some (.string ⟨#[98]⟩) ∧ w'.cell? ⟨w5.heap.size, 2, none⟩ = some (.string ⟨#[120]⟩) ∧
      w'.cell? ⟨w5.heap.size + 1, 0, none⟩ = some (.slice (some ⟨b, off, none⟩) 1 c5) ∧ w'.cell? ⟨w5.heap.size + 1, 1, none⟩ = some (.int .i64 2) ∧ w'.cell? ⟨w5.heap.size + 1, 2, none⟩ = some (.int .i64 1) ∧ w'.cell? ⟨w5.heap.size + 1, 3, none⟩ = some (.int .i64 1) ∧ w'.cell? ⟨w5.heap.size + 1, 4, none⟩ = some (.int .i64 1) ∧
      w'.cell? ⟨b, off, none⟩ = some (.string ⟨#[98]⟩) ∧ w'.cell? ⟨b, off + 1, none⟩ = some (.string ⟨#[97]⟩) ∧ w'.cell? ⟨b, off + 2, none⟩ = some (.string ⟨#[121]⟩))
    (first | go_keep | (go_split_ands; obtain ⟨hc7, _⟩ := bcell hb7; refine ⟨?_, ?_, ?_, ?_, ?_, ?_, ?_, ?_, ?_, ?_, ?_, ?_, ?_, ?_, ?_, ?_, ?_⟩ <;> (rw [hc7 _ _ (by first | (simp; done) | (simp; omega))]; assumption)))
    ((go_at_call 11; refine (check_any net5 _ 1 c5 _ (HS.out _ (by go_grown) (by simp; omega))).mono ?_; rintro e w7 ⟨rfl, hb7⟩; rw [nets7]))
  all_goals go_wp2
  all_goals go_ret
  all_goals exact ⟨rfl, HB.out.trans (Below.trans (by have := HB.out.size; go_grown) (hb7.mono (by simp; omega)))⟩
end Go.Proofs.Ytojabnaabgbclaa
