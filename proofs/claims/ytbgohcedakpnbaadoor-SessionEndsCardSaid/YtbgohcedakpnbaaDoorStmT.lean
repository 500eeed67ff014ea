/- stream: the listed table, and what a Block's loops see. -/
import Derived.Test.YtbgohcedakpnbaaDoorStmP
import Derived.Deep.DeepCutAuto
import Derived.Deep.RegionHeld3
import Derived.BigRegion
set_option linter.unusedVariables false
namespace Go.Proofs.YtbgohcedakpnbaaDoor
open Go.RowKit
def turnCells : List Value := (turnsL.flatMap fun p => [p.1, p.2.1, p.2.2.1, p.2.2.2]).map fun (n : Nat) => .int .i64 (n : Int)
def pCells (p : Nat × Nat × Nat × Nat) : Array Value := #[.int .i64 p.1, .int .i64 p.2.1, .int .i64 p.2.2.1, .int .i64 p.2.2.2]
theorem turn_index (k : Nat) (hk : k < 8) (w : World) : (Instr.index 117 (.agg turnCells.toArray) (.int .i64 k)).run Tryd.prog w = .ok (.agg (pCells (turnsL.getD k (0, 0, 0, 0)))) w := by
  have h1 := Tryd.underlying117
  have hs : (sizeOf 116).run Tryd.prog w = .ok 4 w := Tryd.sizeOf116 w
  have h8 : k = 0 ∨ k = 1 ∨ k = 2 ∨ k = 3 ∨ k = 4 ∨ k = 5 ∨ k = 6 ∨ k = 7 := by omega
  rcases h8 with rfl | rfl | rfl | rfl | rfl | rfl | rfl | rfl
  all_goals
    simp [Instr.index, Sem.run_bind, run_underlying h1, hs, go_sem]
    try rfl
def Turns (w : World) : Prop := w.rangeAt 0 0 turnCells
theorem Turns.pos {w : World} (h : Turns w) : 0 < w.heap.size := World.block_lt_of_cell? w _ (h 0 (.int .i64 0) rfl)
theorem Turns.below {B : Nat} {w w' : World} (h : Turns w) (hb : Below B w w') (hB : 0 < B) : Turns w' := fun j v hv => (hb.cell hB).trans (h j v hv)
/-- places of a turn: below 16, no two the same -/
def placesOk (p : Nat × Nat × Nat × Nat) : Prop := p.1 < 16 ∧ p.2.1 < 16 ∧ p.2.2.1 < 16 ∧ p.2.2.2 < 16 ∧ p.1 ≠ p.2.1 ∧ p.1 ≠ p.2.2.1 ∧ p.1 ≠ p.2.2.2 ∧ p.2.1 ≠ p.2.2.1 ∧ p.2.1 ≠ p.2.2.2 ∧ p.2.2.1 ≠ p.2.2.2
theorem turnsL_ok (k : Nat) (hk : k < 8) : placesOk (turnsL.getD k (0, 0, 0, 0)) := by
  have h8 : k = 0 ∨ k = 1 ∨ k = 2 ∨ k = 3 ∨ k = 4 ∨ k = 5 ∨ k = 6 ∨ k = 7 := by omega
  unfold placesOk
  rcases h8 with rfl | rfl | rfl | rfl | rfl | rfl | rfl | rfl <;> decide
theorem getD_get {L : List Nat} {i : Nat} (h : i < L.length) : L[i]? = some (L.getD i 0) := by
  rw [List.getD_eq_getElem?_getD, List.getElem?_eq_getElem h]; rfl
/-- what the loops' rounds see -/
def At (w1 : World) (V : Array Value) (L : List Nat) (wr : World) : Prop := Below w1.heap.size w1 wr ∧ Blk wr w1.heap.size 104 V ∧ Row vI wr (w1.heap.size + 1) 104 (ints L)
theorem At.alloc {w1 : World} {V : Array Value} {L : List Nat} {wr : World} (h : At w1 V L wr) (o : Obj) : At w1 V L (wr.alloc o) := ⟨h.1.alloc h.1.size _, h.2.1.alloc _, h.2.2.alloc _⟩
theorem At.below {w1 : World} {V : Array Value} {L : List Nat} {wr wx : World} (h : At w1 V L wr) (hb : Below wr.heap.size wr wx) : At w1 V L wx := ⟨h.1.trans (hb.mono h.1.size), h.2.1.below hb h.2.1.lt, h.2.2.below hb h.2.2.lt⟩
theorem At.set_ {w1 : World} {V : Array Value} {L : List Nat} {wr : World} (h : At w1 V L wr) (k x : Nat) : At w1 V (L.set k x) (wr.setCell ⟨w1.heap.size + 1, k, none⟩ (.int .i64 x)) :=
  ⟨h.1.setCell (by simp) _, h.2.1.far (by simp) _, by have := h.2.2.set_ k (x : Int); rw [← ints_set] at this; exact this⟩
theorem At.put {w1 : World} {V : Array Value} {L : List Nat} {wr : World} (h : At w1 V L wr) (p0 p1 p2 p3 : Nat) (R : Q4) :
    At w1 V (putQ L (p0, p1, p2, p3) R) ((((wr.setCell ⟨w1.heap.size + 1, p0, none⟩ (.int .i64 R.a)).setCell ⟨w1.heap.size + 1, p1, none⟩ (.int .i64 R.b)).setCell ⟨w1.heap.size + 1, p2, none⟩ (.int .i64 R.c)).setCell ⟨w1.heap.size + 1, p3, none⟩ (.int .i64 R.d)) :=
  (((h.set_ p0 R.a).set_ p1 R.b).set_ p2 R.c).set_ p3 R.d
theorem At.drew {w1 : World} {V : Array Value} {L : List Nat} {wr : World} (h : At w1 V L wr) : At w1 V L wr.drew := ⟨h.1.drew, h.2.1, h.2.2⟩
theorem setRow_new_at {w : World} {g : Nat} (hg : w.heap.size = g) (c c' : Array Value) (t : TypeId) : (w.alloc (.cells c t)).setRow g c' = w.alloc (.cells c' t) := by subst hg; exact World.setRow_alloc_new w c c' t
theorem bel_one {b d : World} (h : Below b.drew.heap.size b.drew d) : Below b.heap.size b d := ⟨h.os, h.tape, h.output, h.size, h.block⟩
/-- the cells that a turn reads -/
def Cells8 (g12 g10 : Nat) (p0 p1 p2 p3 : Nat) (Q : Q4) (w' : World) : Prop := w'.cell? ⟨g12, 0, none⟩ = some (.int .i64 p0) ∧ w'.cell? ⟨g12, 1, none⟩ = some (.int .i64 p1) ∧ w'.cell? ⟨g12, 2, none⟩ = some (.int .i64 p2) ∧ w'.cell? ⟨g12, 3, none⟩ = some (.int .i64 p3)
              ∧ w'.cell? ⟨g10, p0, none⟩ = some (.int .i64 Q.a) ∧ w'.cell? ⟨g10, p1, none⟩ = some (.int .i64 Q.b) ∧ w'.cell? ⟨g10, p2, none⟩ = some (.int .i64 Q.c) ∧ w'.cell? ⟨g10, p3, none⟩ = some (.int .i64 Q.d)
end Go.Proofs.YtbgohcedakpnbaaDoor
