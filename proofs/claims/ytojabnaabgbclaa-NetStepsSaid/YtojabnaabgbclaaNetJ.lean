/- the laws' helpers of chapter 19: in. -/
import Derived.Test.YtojabnaabgbclaaNetH
set_option linter.unusedVariables false
namespace Go.Proofs.Ytojabnaabgbclaa
open Go.RowKit

def leqB (y x : Letter) : Bool := decide (y.fr.toList = x.fr.toList) && (decide (y.to.toList = x.to.toList) && decide (y.text.toList = x.text.toList))
theorem leqB_iff (y x : Letter) : leqB y x = true ↔ y = x := by
  obtain ⟨a, b, c⟩ := y; obtain ⟨d, e, f⟩ := x
  simp only [leqB, Bool.and_eq_true, decide_eq_true_eq, Letter.mk.injEq, bytes_eq_iff]
theorem run_eql_letter (y x : Letter) (w : World) : (binOp .eql 27 (.agg #[.string y.fr, .string y.to, .string y.text]) (.agg #[.string x.fr, .string x.to, .string x.text])).run Try.prog w = .ok (.bool (leqB y x)) w := by
  go_simp
  unfold leqB
  by_cases h1 : y.fr.toList = x.fr.toList <;> by_cases h2 : y.to.toList = x.to.toList <;> by_cases h3 : y.text.toList = x.text.toList <;> simp [h1, h2, h3]
def inL (L : List Letter) (x : Letter) : Bool := L.any (leqB · x)
theorem inL_iff (L : List Letter) (x : Letter) : inL L x = true ↔ x ∈ L := by
  simp only [inL, List.any_eq_true, leqB_iff]
  constructor
  · rintro ⟨y, hy, rfl⟩; exact hy
  · intro h; exact ⟨x, h, rfl⟩

theorem inL_no (L : List Letter) (x : Letter) (h : (L.take L.length).any (leqB · x) = false) : inL L x = false := by rwa [List.take_length] at h
theorem inL_yes {L : List Letter} {x y : Letter} {k : Nat} (h : L[k]? = some y) (e : leqB y x = true) : inL L x = true := by
  simp only [inL, List.any_eq_true]; exact ⟨y, List.mem_of_getElem? h, e⟩
theorem upto_succ {L : List Letter} {x y : Letter} {k : Nat} (h : L[k]? = some y) (e : leqB y x = false) (hu : (L.take k).any (leqB · x) = false) : (L.take (k + 1)).any (leqB · x) = false := by
  obtain ⟨hk, he⟩ := List.getElem?_eq_some_iff.1 h
  rw [List.take_succ_eq_append_getElem hk, List.any_append, hu, he]
  simp [e]

set_option maxHeartbeats 400000 in
theorem in_any (L : List Letter) (x : Letter) (A : Option Addr) (n c : Nat) (w : World) (hS : SlR encL 3 w w.heap.size A n L) (hn : n ≤ 4611686018427387904) :
    Calls Try.prog 10 #[.slice A n c, .agg #[.string x.fr, .string x.to, .string x.text]] w fun e w' => e = .returned (.bool (inL L x)) ∧ Below w.heap.size w w' := by
  obtain ⟨rfl, hA⟩ := hS
  rcases hA with h0 | ⟨b, off, rfl, hb, hC⟩
  · obtain rfl : L = [] := List.eq_nil_of_length_eq_zero h0
    go_enter Try.func10, Try.ntmps10
    go_wp2
    go_rounds 1
    go_ret
    exact ⟨rfl, by go_grown⟩
  · have HC := Lib.hid hC
    clear hC
    go_enter Try.func10, Try.ntmps10
    go_wp2
    go_loopw [5] (fun i wr => ∃ k : Nat, k ≤ L.length ∧ i = .int .i64 k ∧ Hid ((L.take k).any (leqB · x) = false) ∧ Below w.heap.size w wr ∧ Blk wr w.heap.size 27 #[.string x.fr, .string x.to, .string x.text]) (fun i _ => L.length - (intOf i).toNat)
    case atStart => exact ⟨0, Nat.zero_le _, rfl, rfl, by go_grown, Blk.new _ _ _⟩
    case round =>
      obtain ⟨k, hk, rfl, HU, hB, hbox⟩ := hrel
      by_cases hlt : k < L.length
      · obtain ⟨y, hy⟩ : ∃ x, L[k]? = some x := ⟨L[k], List.getElem?_eq_getElem hlt⟩
        obtain ⟨c0, c1, c2⟩ := (HC.out.below hB hb).letter hy
        have HY := Lib.hid hy
        have q0 := hbox.cells 0 _ rfl
        have q1 := hbox.cells 1 _ rfl
        have q2 := hbox.cells 2 _ rfl
        have i0 : (0 : Int) ≤ (k : Int) := by omega
        have i1 : (k : Int) < (L.length : Int) := by omega
        simp only [List.getElem_toArray, List.getElem_cons_zero, List.getElem_cons_succ] at q0 q1 q2
        have he := run_eql_letter y x
        clear hy
        go_wp2
        go_region
        go_wp2
        · go_ret
          exact ⟨ret_bool (inL_yes HY.out (by assumption)).symm, by go_grown⟩
        · go_roundw
          case rel => exact ⟨k + 1, by omega, by go_num, upto_succ HY.out (by assumption) HU.out, by go_grown, hbox.drew⟩
          case measure => simp [intOf]; omega
      · obtain rfl : k = L.length := by omega
        go_wp2
        go_ret
        exact ⟨ret_bool (inL_no _ _ HU.out).symm, hB⟩
end Go.Proofs.Ytojabnaabgbclaa
