/- the references of chapter 19: Same, of two like nets. -/
import Derived.Test.YtojabnaabgbclaaNetSh
set_option linter.unusedVariables false
set_option linter.unusedSimpArgs false
namespace Go.Proofs.Ytojabnaabgbclaa
open Go.RowKit
theorem neq_same (x : Letter) (w : World) : (binOp .neq 27 (.agg #[.string x.fr, .string x.to, .string x.text]) (.agg #[.string x.fr, .string x.to, .string x.text])).run Try.prog w = .ok (.bool false) w := by
  go_simp
/-- the two boxes -/
def TwoBox (w : World) (N : Net) (A B : Option Addr) (c d : Nat) (wr : World) : Prop :=
  Below w.heap.size w wr ∧ Blk wr w.heap.size 25 #[.slice A N.way.length c, .int .i64 N.sent, .int .i64 N.delivered, .int .i64 N.lost, .int .i64 N.doubled] ∧
  Blk wr (w.heap.size + 1) 25 #[.slice B N.way.length d, .int .i64 N.sent, .int .i64 N.delivered, .int .i64 N.lost, .int .i64 N.doubled]
def CellsOf (w : World) (L : List Letter) (A : Option Addr) : Prop := ∀ W, Below w.heap.size w W → ∀ k x, L[k]? = some x → ∃ b off, A = some ⟨b, off, none⟩ ∧ W.cell? ⟨b, off + k * 3, none⟩ = some (.string x.fr) ∧ W.cell? ⟨b, off + k * 3 + 1, none⟩ = some (.string x.to) ∧ W.cell? ⟨b, off + k * 3 + 2, none⟩ = some (.string x.text)
theorem cellsOf_slr {w : World} {L : List Letter} {A : Option Addr} (hS : SlR encL 3 w w.heap.size A L.length L) : CellsOf w L A := fun W hb k x hx => by
  have hk := (List.getElem?_eq_some_iff.1 hx).1
  obtain ⟨b, off, e, hbl, hC⟩ := (hS.below hb).2.resolve_left (by omega)
  obtain ⟨q1, q2, q3⟩ := hC.letter hx
  exact ⟨b, off, e, q1, q2, q3⟩
set_option maxHeartbeats 2000000 in
set_option maxRecDepth 100000 in
theorem rsame_any (N : Net) (A B : Option Addr) (c d : Nat) (w : World) (hA : SlR encL 3 w w.heap.size A N.way.length N.way) (hB : SlR encL 3 w w.heap.size B N.way.length N.way) (hn : N.way.length ≤ 1000) :
    Calls Try.prog 22 #[.agg #[.slice A N.way.length c, .int .i64 N.sent, .int .i64 N.delivered, .int .i64 N.lost, .int .i64 N.doubled], .agg #[.slice B N.way.length d, .int .i64 N.sent, .int .i64 N.delivered, .int .i64 N.lost, .int .i64 N.doubled]] w fun e w' => e = .returned (.bool true) ∧ Below w.heap.size w w' := by
  have HA := Lib.hid (cellsOf_slr hA)
  have HB := Lib.hid (cellsOf_slr hB)
  clear hA hB
  go_enter Try.func22, Try.ntmps22
  have z0 : (N.way.length != N.way.length) = false := by simp
  have z1 : (N.sent != N.sent) = false := by simp
  have z2 : (N.delivered != N.delivered) = false := by simp
  have z3 : (N.lost != N.lost) = false := by simp
  have z4 : (N.doubled != N.doubled) = false := by simp
  go_wp2_with fail
  go_loopw [5] (fun i wr => ∃ k : Nat, k ≤ N.way.length ∧ i = .int .i64 k ∧ Hid (TwoBox w N A B c d wr)) (fun i _ => N.way.length - (intOf i).toNat)
  case atStart => exact ⟨0, Nat.zero_le _, rfl, Lib.hid ⟨by go_grown, (Blk.new _ _ _).alloc _, Blk.new_at (by simp) _ _⟩⟩
  case round =>
    obtain ⟨k, hk, rfl, HT⟩ := hrel
    have n0 := HT.out.2.1.cells 0 _ rfl
    have m0 := HT.out.2.2.cells 0 _ rfl
    simp only [List.getElem_toArray, List.getElem_cons_zero] at n0 m0
    by_cases hlt : k < N.way.length
    · obtain ⟨x, hx⟩ : ∃ x, N.way[k]? = some x := ⟨N.way[k], List.getElem?_eq_getElem hlt⟩
      obtain ⟨b, off, rfl, c0, c1, c2⟩ := HA.out wr HT.out.1 k x hx
      obtain ⟨b', off', rfl, d0, d1, d2⟩ := HB.out wr HT.out.1 k x hx
      have he := neq_same x
      have i0 : (0 : Int) ≤ (k : Int) := by omega
      have i1 : (k : Int) < (N.way.length : Int) := by omega
      clear hx
      go_wp2_with fail
      go_big_quiet (fail)
      go_wp2_with fail
      go_roundw
      case rel => exact ⟨k + 1, by omega, by go_num, Lib.hid ⟨below_drewN HT.out.1 _, HT.out.2.1.drewN _, HT.out.2.2.drewN _⟩⟩
      case measure => simp [intOf]; omega
    · obtain rfl : k = N.way.length := by omega
      have hB := HT.out.1
      go_wp2_with fail
      go_ret
      exact ⟨rfl, hB⟩
end Go.Proofs.Ytojabnaabgbclaa
