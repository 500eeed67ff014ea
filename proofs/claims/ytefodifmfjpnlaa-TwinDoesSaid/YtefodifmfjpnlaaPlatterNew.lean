/- chapter 13, PlatterNew: the walk. -/
import Derived.Test.YtefodifmfjpnlaaPlatO
set_option linter.unusedVariables false
namespace Go.Proofs.Ytefodifmfjpnlaa
open Go.RowKit
theorem eqS_refl (s : ByteArray) : eqS s s = true := by simp [eqS]
theorem eqP_refl (s : PPut) : eqP s s = true := (eqP_iff s s).2 rfl
theorem samePl_iff (p q : Plat) : samePl p q = true ↔ p = q := by
  obtain ⟨a, b⟩ := p; obtain ⟨c, d⟩ := q
  simp only [samePl, Bool.and_eq_true, eqAll_iff eqS eqS_iff, eqAll_iff eqP eqP_iff, Plat.mk.injEq]
theorem samePl_refl (p : Plat) : samePl p p = true := (samePl_iff p p).2 rfl
theorem newF_len (n : Int) : (newF n).1.sectors.length ≤ 200 ∧ (newF n).1.cache.length = 0 := by
  unfold newF
  split
  · simp; omega
  · simp [noPlat]
set_option maxHeartbeats 1000000 in
theorem new_law (n : Int) (w : World) : Calls Try.prog 3 #[.int .i64 n] w fun e w' => e = .returned (.bool true) ∧ Below w.heap.size w w' := by
  go_enter Try.func3, Try.ntmps3
  go_wp2_with fail
  refine (new_any n _).mono ?_
  rintro e w1 ⟨v, rfl, hO1, hb1⟩
  obtain ⟨A1, c1, A1', c1', rfl, HP1⟩ := hO1.at_
  have hB1 : Below w.heap.size w w1 := Below.trans (by go_grown) (hb1.mono (by simp))
  clear hO1 hb1
  go_wp2_with fail
  refine (refnew_any n _).mono ?_
  rintro e w2 ⟨v, rfl, hO2, hb2⟩
  obtain ⟨A2, c2, A2', c2', rfl, HP2⟩ := hO2.at_
  have hX := (Blk.new w1 _ _).below hb2 (by simp)
  have hB2 : Below w.heap.size w w2 := Below.trans (by go_grown; have := hB1.size; omega) (hb2.mono (by have := hB1.size; simp; omega))
  have HP1' := HP1.on (Below.trans (by go_grown) (hb2.mono (by simp)))
  have hz2 := hb2.size
  simp only [World.size_alloc] at hz2
  clear hO2 hb2 hB1 HP1
  have hq := newF_len n
  generalize newF n = N at *
  obtain ⟨pl, er⟩ := N
  dsimp only at HP1' HP2 hX hq ⊢
  generalize pl.sectors.length = n1 at *
  generalize pl.cache.length = m1 at *
  have HQ := Lib.hid hq
  clear hq
  go_wp2_with fail
  refine (spins_any _).mono ?_
  rintro e w3 ⟨rfl, hb3⟩
  have hX3 := (hX.alloc _).below hb3 (by have := hX.lt; simp; omega)
  have hY3 := (Blk.new w2 _ _).below hb3 (by simp)
  have hB3 : Below w.heap.size w w3 := Below.trans (by go_grown; have := hB2.size; omega) (hb3.mono (by have := hB2.size; simp; omega))
  have HP13 := HP1'.on (Below.trans (by go_grown) (hb3.mono (by simp)))
  have HP23 := HP2.on (Below.trans (by go_grown) (hb3.mono (by simp)))
  have hz3 := hb3.size
  simp only [World.size_alloc] at hz3
  have x0 := hX3.cells 0 _ rfl
  have x1 := hX3.cells 1 _ rfl
  have y0 := hY3.cells 0 _ rfl
  have y1 := hY3.cells 1 _ rfl
  have hxl := hX3.lt
  have hyl := hY3.lt
  simp only [List.getElem_toArray, List.getElem_cons_zero, List.getElem_cons_succ] at x0 x1 y0 y1
  clear hb3 hB2 HP1' HP2 hX hX3 hY3
  go_wp2_with fail
  refine (same_any pl pl A1 A1' A2 A2' n1 m1 c1 c1' n1 m1 c2 c2' _ (HP13.step (by go_grown)) (HP23.step (by go_grown)) (by have := HQ.out; omega) (by have := HQ.out; omega)).mono ?_
  rintro e w4 ⟨rfl, hb4⟩
  rw [samePl_refl]
  go_wp2_with fail
  go_ret
  exact ⟨rfl, Below.trans (by go_grown) (hb4.mono (by have := hB3.size; simp; omega))⟩
end Go.Proofs.Ytefodifmfjpnlaa
