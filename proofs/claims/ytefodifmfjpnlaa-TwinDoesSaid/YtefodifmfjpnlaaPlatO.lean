/- the laws' helpers of chapter 13: spins. -/
import Derived.Test.YtefodifmfjpnlaaPlatN
import Derived.Deep.RegionHeld3
set_option linter.unusedVariables false
namespace Go.Proofs.Ytefodifmfjpnlaa
open Go.RowKit
def sE : ByteArray := ⟨#[]⟩
def sAbc : ByteArray := ⟨#[97, 98, 99]⟩
def sXy : ByteArray := ⟨#[120, 121]⟩
def sXbc : ByteArray := ⟨#[120, 98, 99]⟩
def pl0 : Plat := ⟨[sE, sE], []⟩
def pl1 : Plat := ⟨[sE, sE], [⟨0, sAbc⟩]⟩
def pl2 : Plat := ⟨[sAbc, sE], []⟩
def pl3 : Plat := ⟨[sAbc, sE], [⟨0, sXy⟩]⟩
def pl4 : Plat := ⟨[sXbc, sE], []⟩
theorem sp1 : newF 2 = (pl0, 0) := by rfl
theorem sp2 : writeF pl0 0 ⟨#[97, 98, 99]⟩ = (pl1, 0) := by rfl
theorem sp3 : syncF pl1 = (pl2, 0) := by rfl
theorem sp4 : writeF pl2 0 ⟨#[120, 121]⟩ = (pl3, 0) := by rfl
theorem sp5 : crashF pl3 [3] = (pl4, 0) := by rfl
theorem sp6 : readF pl4 0 = (sXbc, 0) := by rfl
theorem sp7 : writeF pl0 2 ⟨#[97]⟩ = (noPlat, 130) := by rfl
theorem sp8 : newF 0 = (noPlat, 1) := by rfl
theorem sp9 : checkP pl4 = true := by rfl
theorem PlatOut.at_ {w : World} {B : Nat} {v : Value} {p : Plat} (h : PlatOut w B v p) : ∃ A c A' c', v = .agg #[.slice A p.sectors.length c, .slice A' p.cache.length c'] ∧ PlatPre w A p.sectors.length A' p.cache.length p := by
  obtain ⟨A, c, A', c', rfl, h1, h2⟩ := h
  exact ⟨A, c, A', c', rfl, PlatAt.pre ⟨SlR.of_own encS_len h1 rfl, SlR.of_own encP_len h2 rfl⟩⟩
theorem PlatPre.on {w w1 : World} {A A' : Option Addr} {n m : Nat} {p : Plat} (h : PlatPre w A n A' m p) (hb : Below w.heap.size w w1) : PlatPre w1 A n A' m p := (h.out w1 hb).pre

set_option maxHeartbeats 1000000 in
set_option maxRecDepth 100000 in
theorem spins_any (w : World) : Calls Try.prog 14 #[] w fun e w' => e = .returned (.bool true) ∧ Below w.heap.size w w' := by
  go_enter Try.func14, Try.ntmps14
  go_wp2_with fail
  refine (new_any 2 _).mono ?_
  rintro e w1 ⟨v, rfl, hO1, hb1⟩
  rw [sp1] at hO1 ⊢
  obtain ⟨A1, c1, A1', c1', rfl, HP1⟩ := hO1.at_
  have hB1 : Below w.heap.size w w1 := Below.trans (by go_grown) (hb1.mono (by simp))
  clear hO1 hb1
  simp only [pl0, List.length_cons, List.length_nil]
  go_wp2_with fail
  refine (write_any pl0 0 ⟨#[97, 98, 99]⟩ A1 A1' 2 0 c1 c1' _ (HP1.step (by go_grown))).mono ?_
  rintro e w2 ⟨v, rfl, hO2, hb2⟩
  rw [sp2] at hO2 ⊢
  obtain ⟨A2, c2, A2', c2', rfl, HP2⟩ := hO2.at_
  have hX := (Blk.new w1 _ _).below hb2 (by simp)
  have hB2 : Below w.heap.size w w2 := Below.trans (by go_grown; have := hB1.size; omega) (hb2.mono (by have := hB1.size; simp; omega))
  have HP1' := HP1.on (Below.trans (by go_grown) (hb2.mono (by simp)))
  have hz2 := hb2.size
  simp only [World.size_alloc] at hz2
  clear hO2 hb2 hB1 HP1
  simp only [pl1, List.length_cons, List.length_nil]
  go_wp2_with fail
  refine (sync_any pl1 A2 A2' 2 1 c2 c2' _ (HP2.step (by go_grown))).mono ?_
  rintro e w3 ⟨v, rfl, hO3, hb3⟩
  rw [sp3] at hO3 ⊢
  obtain ⟨A3, c3, A3', c3', rfl, HP3⟩ := hO3.at_
  have hX3 := (hX.alloc _).below hb3 (by have := hX.lt; simp; omega)
  have hB3 : Below w.heap.size w w3 := Below.trans (by go_grown; have := hB2.size; omega) (hb3.mono (by have := hB2.size; simp; omega))
  have HP13 := HP1'.on (Below.trans (by go_grown) (hb3.mono (by simp)))
  have hz3 := hb3.size
  simp only [World.size_alloc] at hz3
  clear hO3 hb3 hB2 HP1' hX HP2
  simp only [pl2, List.length_cons, List.length_nil]
  go_wp2_with fail
  refine (write_any pl2 0 ⟨#[120, 121]⟩ A3 A3' 2 0 c3 c3' _ (HP3.step (by go_grown))).mono ?_
  rintro e w4 ⟨v, rfl, hO4, hb4⟩
  rw [sp4] at hO4 ⊢
  obtain ⟨A4, c4, A4', c4', rfl, HP4⟩ := hO4.at_
  have hX4 := (hX3.alloc _).below hb4 (by have := hX3.lt; simp; omega)
  have hB4 : Below w.heap.size w w4 := Below.trans (by go_grown; have := hB3.size; omega) (hb4.mono (by have := hB3.size; simp; omega))
  have HP14 := HP13.on (Below.trans (by go_grown) (hb4.mono (by simp)))
  have hz4 := hb4.size
  simp only [World.size_alloc] at hz4
  clear hO4 hb4 hB3 HP13 hX3 HP3
  simp only [pl3, List.length_cons, List.length_nil]
  go_wp2_with fail
  refine (crash_any pl3 [3] (some ⟨w4.heap.size + 1, 0, none⟩) 1 1 A4 A4' 2 1 c4 c4' _ (HP4.step (by go_grown)) (SlR.ofC (b := w4.heap.size + 1) (off := 0) rfl (by simp) ?_) (by omega) (by simp)).mono ?_
  · intro k x hk j v hv
    have : k = 0 := by have := (List.getElem?_eq_some_iff.1 hk).1; simp at this; omega
    subst this
    simp at hk
    subst hk
    have : j = 0 := by have := (List.getElem?_eq_some_iff.1 hv).1; simp [encI] at this; omega
    subst this
    simp [encI] at hv
    subst hv
    simp [go_sem]
  rintro e w5 ⟨v, rfl, hO5, hb5⟩
  rw [sp5] at hO5 ⊢
  obtain ⟨A5, c5, A5', c5', rfl, HP5⟩ := hO5.at_
  have hX5 := ((hX4.alloc _).alloc _).below hb5 (by have := hX4.lt; simp; omega)
  have hB5 : Below w.heap.size w w5 := Below.trans (by go_grown; all_goals (have := hB4.size; first | omega | (simp; omega))) (hb5.mono (by have := hB4.size; simp; omega))
  have HP15 := HP14.on (Below.trans (by go_grown) (hb5.mono (by simp; omega)))
  have hz5 := hb5.size
  simp only [World.size_alloc] at hz5
  clear hO5 hb5 hB4 HP14 hX4 HP4
  simp only [pl4, List.length_cons, List.length_nil]
  go_wp2_with fail
  refine (read_any pl4 0 A5 A5' 2 0 c5 c5' _ (HP5.step (by go_grown))).mono ?_
  rintro e w6 ⟨rfl, hb6⟩
  rw [sp6]
  have hX6 := (hX5.alloc _).below hb6 (by have := hX5.lt; simp; omega)
  have hD6 := (Blk.new w5 _ _).below hb6 (by simp)
  have hB6 : Below w.heap.size w w6 := Below.trans (by go_grown; have := hB5.size; omega) (hb6.mono (by have := hB5.size; simp; omega))
  have HP16 := HP15.on (Below.trans (by go_grown) (hb6.mono (by simp)))
  have HP56 := HP5.on (Below.trans (by go_grown) (hb6.mono (by simp)))
  have hz6 := hb6.size
  simp only [World.size_alloc] at hz6
  have x0 := hX6.cells 0 _ rfl
  have x1 := hX6.cells 1 _ rfl
  simp only [List.getElem_toArray, List.getElem_cons_zero, List.getElem_cons_succ] at x0 x1
  clear hb6 hB5 HP15 hX5 HP5
  go_wp2_with fail
  refine (write_any pl0 2 ⟨#[97]⟩ A1 A1' 2 0 c1 c1' _ (HP16.step (by go_grown))).mono ?_
  rintro e w7 ⟨v, rfl, hO7, hb7⟩
  rw [sp7] at hO7 ⊢
  obtain ⟨A7, c7, A7', c7', rfl, HP7⟩ := hO7.at_
  have hB7 : Below w.heap.size w w7 := hB6.trans (hb7.mono (by have := hB6.size; omega))
  have hD7 := hD6.below hb7 (by omega)
  have HP57 := HP56.on hb7
  have hz7 := hb7.size
  clear hO7 hb7 hB6 HP16 hX6 HP7 HP56 hD6 x0 x1
  simp only [noPlat, List.length_nil]
  go_wp2_with fail
  refine (new_any 0 _).mono ?_
  rintro e w8 ⟨v, rfl, hO8, hb8⟩
  rw [sp8] at hO8 ⊢
  obtain ⟨A8, c8, A8', c8', rfl, HP8⟩ := hO8.at_
  have hB8 : Below w.heap.size w w8 := Below.trans (by go_grown; have := hB7.size; omega) (hb8.mono (by have := hB7.size; simp; omega))
  have hD8 := (hD7.alloc _).below hb8 (by simp; omega)
  have HP58 := HP57.on (Below.trans (by go_grown) (hb8.mono (by simp)))
  have d0 := hD8.cells 0 _ rfl
  have d1 := hD8.cells 1 _ rfl
  have hd := hD8.lt
  simp only [List.getElem_toArray, List.getElem_cons_zero, List.getElem_cons_succ] at d0 d1
  have hes : sXbc.toList = [120, 98, 99] := by decide +kernel
  clear hO8 hb8 hB7 HP57 HP8 hD7 hD8
  simp only [noPlat, List.length_nil]
  go_wp2_with fail
  refine (checkP_any pl4 A5 A5' 2 0 c5 c5' _ (HP58.step (by go_grown))).mono ?_
  rintro e w9 ⟨rfl, hb9⟩
  rw [sp9]
  go_wp2_with fail
  go_ret
  exact ⟨rfl, Below.trans (by go_grown; have := hB8.size; omega) (hb9.mono (by have := hB8.size; simp; omega))⟩
end Go.Proofs.Ytefodifmfjpnlaa
