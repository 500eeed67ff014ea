/- net: laid: what lies in a channel is told, and taken out of it. -/
import Derived.Test.YtojabnaabgbclaaNetE
import Derived.Test.YtojabnaabgbclaaTurn
import Derived.Test.YtojabnaabgbclaaOrows
import Derived.Shelf.Abstract
import Derived.Shelf.RegionOpen
import Derived.OwnWalkIn
import Derived.TacticsInMore
import Derived.LoopNIn
import Derived.LoopIn
import Derived.Sort.CutIn
set_option linter.unusedVariables false
set_option linter.unusedSimpArgs false
namespace Go.Proofs.Ytojabnaabgbclaa
open Go.RowKit Go.Shelf Go.Conc
attribute [local go_sem] Oper.semAt_some
def numV (i : Nat) : Value := .int .i64 (i : Int)
/-- what lies in a channel -/
def chanV (xs : List Nat) : Array Value := (xs.map numV).toArray
theorem chanV_size (xs : List Nat) : (chanV xs).size = xs.length := by simp [chanV]
theorem chanV_head (x : Nat) (xs : List Nat) : (chanV (x :: xs)).getD 0 undef = numV x := by simp [chanV]
theorem chanV_tail (x : Nat) (xs : List Nat) : (chanV (x :: xs)).extract 1 (chanV (x :: xs)).size = chanV xs := by
  simp only [chanV, List.size_toArray, List.extract_toArray, List.map_cons, List.length_cons]
  congr 1
  rw [List.extract_eq_take_drop]
  simp only [Nat.add_sub_cancel, List.drop_succ_cons, List.drop_zero]
  exact List.take_of_length_le (by simp)
theorem chanV_push (x : Nat) (xs : List Nat) : (chanV xs).push (numV x) = chanV (xs ++ [x]) := by simp [chanV]
def chLen (w : World) (c : Nat) : Nat := match w.heap[c]? with | some (.chan _ buf _ _ _ _) => buf.size | _ => 0
theorem chLen_of {w : World} {c cap s r : Nat} {xs : List Nat} {cl tm : Bool} (h : w.heap[c]? = some (.chan cap (chanV xs) cl s r tm)) : chLen w c = xs.length := by
  unfold chLen
  rw [h]
  simp [chanV_size]
/-- the turn of the iterator: the channel's block alone -/
def Turn (c : Nat) (A B : World) : Prop := ∃ cap buf cl s r tm, B = A.setChan c cap buf cl s r tm
theorem turn_heap {c : Nat} {A B : World} (h : Turn c A B) {i : Nat} (hi : i ≠ c) : B.heap[i]? = A.heap[i]? := by
  obtain ⟨cap, buf, cl, s, r, tm, rfl⟩ := h
  simp only [World.setChan]
  rw [Array.getElem?_setIfInBounds_ne (by omega)]
theorem laid_in (F : Fence) (n : Nat) (hf : F.fn 38) (hro : F.round = none) (c : Nat) (w : World) :
    CallsIn F n Try.prog 38 #[.chan (some c)] w fun e w' => e = .returned (.func (.func 42) #[] #[.pointer (some ⟨w.heap.size, 0, none⟩)]) ∧ w.alloc (.cells #[.chan (some c)] 69) = w' := by
  refine callsIn_of_wp Try.func38 rfl hf ?_ hro
  simp only [Try.ntmps38, List.size_toArray, List.length_cons, List.length_nil, Nat.reduceAdd, Nat.reduceSub, Array.replicate_succ, Array.replicate_zero, List.push_toArray, List.append_toArray, List.nil_append, List.cons_append]
  gi_wp2
  go_ret
  exact ⟨rfl, rfl⟩
/-- what a round keeps: the channel's block, and the box that names it -/
def KeepC (c Bp : Nat) (A B : World) : Prop := B.heap[c]? = A.heap[c]? ∧ B.heap[Bp]? = A.heap[Bp]?
set_option maxHeartbeats 1000000 in
theorem laid1_in (n : Nat) (hn : 1 ≤ n) (l c Bp s : Nat) (xs : List Nat) (J : List Nat → World → Prop) (hJt : ∀ p A B, J p A → Turn c A B → J p B)
    (hY : ∀ pre x W, J pre W → pre.length < xs.length → YieldAt Fence.wide (n - 1) Try.prog l #[numV x] W fun e W' => e = .returned (.bool true) ∧ J (pre ++ [x]) W' ∧ KeepC c Bp W W')
    (W : World) (hc : W.heap[c]? = some (.chan 60 (chanV xs) false s 0 false)) (hb : Blk W Bp 69 #[.chan (some c)]) (h0 : J [] W) :
    CallsIn Fence.wide n Try.prog 42 #[.func (.yield l) #[] #[], .pointer (some ⟨Bp, 0, none⟩)] W fun e W' => (∃ v, e = .returned v) ∧ ∃ ys, ys = xs ∧ J ys W' := by
  have HY := Lib.hid hY
  have HJt := Lib.hid hJt
  have HC := Lib.hid hc
  have HB := Lib.hid hb
  clear hY hJt hc hb
  refine callsIn_of_wp Try.func42 rfl trivial ?_ rfl
  simp only [Try.ntmps42, List.size_toArray, List.length_cons, List.length_nil, Nat.reduceAdd, Nat.reduceSub, Array.replicate_succ, Array.replicate_zero, List.push_toArray, List.append_toArray, List.nil_append, List.cons_append]
  gi_wp2
  gi_loopw [4] (fun v wr => ∃ (pre rest : List Nat) (r : Nat), Hid (xs = pre ++ rest) ∧ Hid (J pre wr) ∧ Hid (wr.heap[c]? = some (.chan 60 (chanV rest) false s r false)) ∧ Hid (Blk wr Bp 69 #[.chan (some c)])) (fun _ wr => chLen wr c)
  case atStart => exact ⟨[], xs, 0, rfl, Lib.hid h0, HC, HB⟩
  case round =>
    obtain ⟨pre, rest, r, HX, HJ, HCh, HBx⟩ := hrel
    have c0 := HBx.out.cells 0 _ rfl
    simp only [List.getElem_toArray, List.getElem_cons_zero] at c0
    gi_upto_region 1 with (fail)
    cases rest with
    | nil =>
      refine (wpIn_wide (n := n)).2 (OpsTo.region ?_)
      change OpsTo _ _ _ [0, 1, 2] _ _
      refine OpsTo.none (some 5) (c := c) (z := .int .i64 0) rfl rfl rfl (by simp [go_sem, rcase]) HCh.out ?_
      refine OpsTo.value (some 6) (v := .int .i64 (-1)) (w' := wr) rfl rfl rfl (by simp [go_sem, goInt]) ?_
      refine OpsTo.value (some 7) (v := .bool false) (w' := wr) rfl rfl rfl (by simp [go_sem]) ?_
      refine OpsTo.done ?_
      have HXs : Hid (pre = xs) := Lib.hid (by rw [HX.out, List.append_nil])
      clear HCh
      simp only [Act.put]
      gi_wp2
      refine bodyPost_ret (results_none rfl _ _ _) rfl ?_
      exact ⟨⟨_, rfl⟩, xs, rfl, by rw [← HXs.out]; exact HJ.out⟩
    | cons x rest =>
      refine (wpIn_wide (n := n)).2 (OpsTo.region ?_)
      change OpsTo _ _ _ [0, 1, 2] _ _
      refine OpsTo.take (some 5) (c := c) (z := .int .i64 0) rfl rfl rfl (by simp [go_sem, rcase]) HCh.out (by rw [chanV_size]; simp) ?_
      rw [chanV_head, chanV_tail]
      have HJ2 : Hid (J pre (wr.setChan c 60 (chanV rest) false s (r + 1) false)) := Lib.hid (HJt.out _ _ _ HJ.out ⟨_, _, _, _, _, _, rfl⟩)
      have hcl : c < wr.heap.size := (Array.getElem?_eq_some_iff.1 HCh.out).1
      have HCh2 : Hid ((wr.setChan c 60 (chanV rest) false s (r + 1) false).heap[c]? = some (.chan 60 (chanV rest) false s (r + 1) false)) := Lib.hid (heap_setChan _ _ _ _ _ _ _ _ hcl)
      have hcB : Bp ≠ c := by
        intro e
        have h1 := HBx.out
        unfold Blk at h1
        rw [e, HCh.out] at h1
        cases h1
      have HBx2 : Hid (Blk (wr.setChan c 60 (chanV rest) false s (r + 1) false) Bp 69 #[.chan (some c)]) := Lib.hid ((turn_heap ⟨_, _, _, _, _, _, rfl⟩ hcB).trans HBx.out)
      have HM : Hid (chLen wr c = rest.length + 1) := Lib.hid (by rw [chLen_of HCh.out]; rfl)
      clear HCh HBx HJ c0 hcl
      generalize wr.setChan c 60 (chanV rest) false s (r + 1) false = w2 at *
      refine OpsTo.value (some 6) (v := .int .i64 0) (w' := w2) rfl rfl rfl (by simp [go_sem, goInt]) ?_
      refine OpsTo.value (some 7) (v := .bool true) (w' := w2) rfl rfl rfl (by simp [go_sem]) ?_
      refine OpsTo.done ?_
      obtain ⟨fn, tmps, assign, body, hy, hR⟩ := HY.out pre x w2 HJ2.out (by rw [HX.out]; simp)
      have HR := Lib.hid hR
      clear hR
      simp only [Act.put, numV] at hy ⊢
      gi_wp2
      refine HR.out.mono ?_
      rintro e W3 ⟨rfl, hJ3, hk3⟩
      have HJ3 := Lib.hid hJ3
      have HC3 : Hid (W3.heap[c]? = some (.chan 60 (chanV rest) false s (r + 1) false)) := Lib.hid (hk3.1.trans HCh2.out)
      have HB3 : Hid (Blk W3 Bp 69 #[.chan (some c)]) := Lib.hid (hk3.2.trans HBx2.out)
      have HX3 : Hid (xs = (pre ++ [x]) ++ rest) := Lib.hid (by rw [HX.out]; simp)
      clear hJ3 hk3
      gi_wp2
      go_roundw
      case rel => exact ⟨pre ++ [x], rest, r + 1, HX3, HJ3, HC3, HB3⟩
      case measure => rw [chLen_of HC3.out, HM.out]; omega
end Go.Proofs.Ytojabnaabgbclaa
