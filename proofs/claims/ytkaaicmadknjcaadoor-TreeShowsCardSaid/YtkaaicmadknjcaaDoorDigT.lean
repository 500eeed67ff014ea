/- digest.Step: for every state and block. -/
import Derived.Test.YtkaaicmadknjcaaDoorDigC
import Derived.Test.YtkaaicmadknjcaaDoorDigD
set_option linter.unusedVariables false
namespace Go.Proofs.YtkaaicmadknjcaaDoor
open Go.RowKit
/-- a state as the program bears it -/
def stV (L : List Int) : Value := .agg (L.map vI).toArray
theorem list8 {α : Type} {L : List α} (h : L.length = 8) : ∃ a b c d e f g i, L = [a, b, c, d, e, f, g, i] := by
  match L, h with
  | [a, b, c, d, e, f, g, i], _ => exact ⟨a, b, c, d, e, f, g, i, rfl⟩
theorem step_good (L : List Nat) (s : ByteArray) (w : World) (hs : s.size = 64) (hG : Rounds w) (hL : State L) :
    Calls Tryd.prog 22 #[stV (ints L), .string s] w fun r w' => r = .returned (.tuple #[stV (ints (stepL L s)), .bool true]) ∧ Below w.heap.size w w' := by
  obtain ⟨hl, hw⟩ := hL
  obtain ⟨a, b, c, d, e, f, g, i, rfl⟩ := list8 hl
  exact step_in a b c d e f g i s w hs hG hw
def zero8 : List Int := [0, 0, 0, 0, 0, 0, 0, 0]
theorem slrI {L : List Int} {ty : TypeId} {W : World} {g B : Nat} (hW : Blk W g ty (L.map vI).toArray) (hB : g < B) : SlR encI 1 W B (some ⟨g, 0, none⟩) L.length L := by
  refine SlR.ofC rfl hB ?_
  intro k x hx j v hv
  have hj : j = 0 := by
    have := (List.getElem?_eq_some_iff.1 hv).1
    simp [encI] at this; omega
  subst hj
  simp [encI] at hv
  subst hv
  have := hW.cell k
  rw [Nat.mul_one, Nat.zero_add, Nat.add_zero, this]
  simp [hx, vI]
set_option maxHeartbeats 400000 in
set_option maxRecDepth 100000 in
theorem step_bad (L : List Int) (s : ByteArray) (w : World) (hl : L.length = 8) (hb : L.all isB = false ∨ s.size ≠ 64) :
    Calls Tryd.prog 22 #[stV L, .string s] w fun r w' => r = .returned (.tuple #[stV zero8, .bool false]) ∧ Below w.heap.size w w' := by
  obtain ⟨a, b, c, d, e, f, g, i, rfl⟩ := list8 hl
  obtain ⟨t, ht⟩ : ∃ t, [a, b, c, d, e, f, g, i].all isB = t := ⟨_, rfl⟩
  have HT := Lib.hid ht
  rw [ht] at hb
  clear ht hl
  unfold stV zero8
  simp only [List.map_cons, List.map_nil, vI]
  cases t
  · clear hb
    go_enter Tryd.func22, Tryd.ntmps22
    go_wp2_with fail
    refine (is_any [a, b, c, d, e, f, g, i] _ 8 8 _ (slrI ((Blk.new w _ _).alloc _) (by simp; omega)) (by omega)).mono ?_
    rintro r w1 ⟨rfl, rfl⟩
    rw [HT.out]
    go_wp2
    refine bodyPost_ret (v := .tuple #[.agg #[.int .i64 0, .int .i64 0, .int .i64 0, .int .i64 0, .int .i64 0, .int .i64 0, .int .i64 0, .int .i64 0], .bool false]) (by simp [results, Tryd.results22, go_sem]) rfl ⟨rfl, by go_grown⟩
  · have hne : s.size ≠ 64 := by simpa using hb
    have t1 : ((s.size : Int) != 64) = true := by simp; omega
    clear hb hne
    go_enter Tryd.func22, Tryd.ntmps22
    go_wp2_with fail
    refine (is_any [a, b, c, d, e, f, g, i] _ 8 8 _ (slrI ((Blk.new w _ _).alloc _) (by simp; omega)) (by omega)).mono ?_
    rintro r w1 ⟨rfl, rfl⟩
    rw [HT.out]
    go_wp2
    refine bodyPost_ret (v := .tuple #[.agg #[.int .i64 0, .int .i64 0, .int .i64 0, .int .i64 0, .int .i64 0, .int .i64 0, .int .i64 0, .int .i64 0], .bool false]) (by simp [results, Tryd.results22, go_sem]) rfl ⟨rfl, by go_grown⟩
/-- the state behind a block of whatever size -/
def stepT (L : List Nat) (s : ByteArray) : List Nat := if s.size = 64 then stepL L s else [0, 0, 0, 0, 0, 0, 0, 0]
theorem stepT_state (L : List Nat) (s : ByteArray) : State (stepT L s) := by
  unfold stepT
  split
  · exact stepL_state _ _
  · exact ⟨rfl, by unfold words; decide⟩
theorem step_tot (L : List Nat) (s : ByteArray) (w : World) (hG : Rounds w) (hL : State L) :
    Calls Tryd.prog 22 #[stV (ints L), .string s] w fun r w' => r = .returned (.tuple #[stV (ints (stepT L s)), .bool (decide (s.size = 64))]) ∧ Below w.heap.size w w' := by
  by_cases h : s.size = 64
  · have := step_good L s w h hG hL
    simpa only [stepT, h, if_true, decide_true] using this
  · have := step_bad (ints L) s w (by simpa [ints] using hL.1) (.inr h)
    simp only [stepT, h, if_false, decide_false]
    exact this
end Go.Proofs.YtkaaicmadknjcaaDoor
