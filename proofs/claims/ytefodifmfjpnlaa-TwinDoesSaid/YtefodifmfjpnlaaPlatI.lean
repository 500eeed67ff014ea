/- platter.backward: the texts that wait, from the last one on, for whatever loop body. -/
import Derived.Test.YtefodifmfjpnlaaPlatE
import Derived.RangeFuncNested
import Derived.RangeFuncBound
import Derived.RangeFuncCalls
import Derived.RangeFuncLeaves
import Derived.Shelf.Abstract
import Derived.Shelf.RegionOpen
import Derived.OwnWalkIn
import Derived.TacticsInMore
import Derived.LoopNIn
import Derived.LoopIn
set_option linter.unusedVariables false
namespace Go.Proofs.Ytefodifmfjpnlaa
open Go.RowKit Go.Shelf
attribute [local go_sem] Oper.semAt_some
def pv (x : PPut) : Value := .agg #[.int .i64 x.pos, .string x.text]

theorem backward_in (F : Fence) (n : Nat) (hf : F.fn 37) (hro : F.round = none) (A : Option Addr) (m c : Nat) (w : World) :
    CallsIn F n Try.prog 37 #[.slice A m c] w fun e w' => e = .returned (.func (.func 53) #[] #[.pointer (some ⟨w.heap.size, 0, none⟩)]) ∧ w.alloc (.cells #[.slice A m c] 23) = w' := by
  refine callsIn_of_wp Try.func37 rfl hf ?_ hro
  simp only [Try.ntmps37, List.size_toArray, List.length_cons, List.length_nil, Nat.reduceAdd, Nat.reduceSub, Array.replicate_succ, Array.replicate_zero, List.push_toArray, List.append_toArray, List.nil_append, List.cons_append]
  gi_wp2
  go_ret
  exact ⟨rfl, rfl⟩

theorem rev_take {L : List PPut} {j : Nat} {x : PPut} (h : L[j]? = some x) : L.reverse.take (L.length - (j + 1)) ++ [x] = L.reverse.take (L.length - j) := by
  obtain ⟨hj, he⟩ := List.getElem?_eq_some_iff.1 h
  have e : L.length - j = (L.length - (j + 1)) + 1 := by omega
  rw [e, List.take_succ_eq_append_getElem (by simp; omega)]
  congr 2
  rw [List.getElem_reverse]
  rw [← he]
  congr 1
  omega

set_option maxHeartbeats 400000 in
theorem backward1_in (F : Fence) (n : Nat) (hf : F.fn 53) (hro : F.round = none) (hn : 1 ≤ n) (l Bn n₀ : Nat) (L : List PPut) (A : Option Addr) (m c : Nat) (J Jx : List PPut → World → Prop)
    (hY : ∀ pre x W, J pre W → pre.length < L.length → YieldAt F (n - 1) Try.prog l #[pv x] W fun e W' =>
      (e = .returned (.bool true) ∧ J (pre ++ [x]) W' ∧ Below n₀ W W') ∨ (e = .returned (.bool false) ∧ Jx (pre ++ [x]) W'))
    (W : World) (hBn : W.cell? ⟨Bn, 0, none⟩ = some (.slice A m c)) (hlt : Bn < n₀) (hL : SlR encP 2 W n₀ A m L) (hm : m ≤ 1000) (h0 : J [] W) :
    CallsIn F n Try.prog 53 #[.func (.yield l) #[] #[], .pointer (some ⟨Bn, 0, none⟩)] W fun e W' => (∃ v, e = .returned v) ∧
      ((∃ ys, ys = L.reverse ∧ J ys W') ∨ (∃ pre, pre <+: L.reverse ∧ Jx pre W')) := by
  obtain ⟨rfl, hA⟩ := hL
  have HA := Lib.hid hA
  have HY := Lib.hid hY
  clear hA hY
  refine callsIn_of_wp Try.func53 rfl hf ?_ hro
  simp only [Try.ntmps53, List.size_toArray, List.length_cons, List.length_nil, Nat.reduceAdd, Nat.reduceSub, Array.replicate_succ, Array.replicate_zero, List.push_toArray, List.append_toArray, List.nil_append, List.cons_append]
  gi_wp2
  gi_loopw [3] (fun v wr => ∃ k : Nat, k ≤ L.length ∧ v = .int .i64 ((k : Int) - 1) ∧ Hid (J (L.reverse.take (L.length - k)) wr) ∧ Below n₀ W wr) (fun v _ => (intOf v + 1).toNat)
  case atStart => exact ⟨L.length, Nat.le_refl _, rfl, by simpa [Hid] using h0, Below.refl _ _⟩
  case round =>
    obtain ⟨k, hk, rfl, HJ, hB⟩ := hrel
    have hBr := (hB.cell (p := ⟨Bn, 0, none⟩) hlt).trans hBn
    cases k with
    | zero =>
      have e0 : ((0 : Nat) : Int) - 1 = -1 := rfl
      rw [e0]
      gi_wp2
      go_end0
      exact ⟨⟨_, rfl⟩, .inl ⟨_, rfl, by have := HJ.out; rwa [Nat.sub_zero, List.take_of_length_le (by simp)] at this⟩⟩
    | succ j =>
      have e0 : ((j + 1 : Nat) : Int) - 1 = (j : Int) := by omega
      rw [e0]
      have hj : j < L.length := by omega
      obtain ⟨x, hx⟩ : ∃ x, L[j]? = some x := ⟨L[j], List.getElem?_eq_getElem hj⟩
      rcases HA.out with h0' | ⟨b, off, rfl, hb, hC⟩
      · omega
      obtain ⟨c0, c1⟩ := (hC.below hB hb).put hx
      obtain ⟨fn, tmps, assign, body, hy, hR⟩ := HY.out _ x wr HJ.out (by simp; omega)
      have HX := Lib.hid (rev_take hx)
      have HR := Lib.hid hR
      clear hR hx hC e0
      simp only [pv] at hy
      gi_wp2
      refine HR.out.mono ?_
      rintro e W3 (⟨rfl, hJ3, hk3⟩ | ⟨rfl, hJx3⟩)
      · rw [HX.out] at hJ3
        have HJ3 := Lib.hid hJ3
        clear hJ3
        gi_wp2
        go_roundw
        case rel => exact ⟨j, by omega, rfl, HJ3, hB.trans hk3⟩
        case measure => simp [intOf]
      · rw [HX.out] at hJx3
        have HJ3 := Lib.hid hJx3
        clear hJx3
        gi_wp2
        refine bodyPost_ret (results_none rfl _ _ _) rfl ?_
        exact ⟨⟨_, rfl⟩, .inr ⟨_, List.take_prefix _ _, HJ3⟩⟩
end Go.Proofs.Ytefodifmfjpnlaa
