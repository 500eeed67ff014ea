/- Rows of one's own that are one block of cells, a cell an element. -/
import Derived.Test.YtbgohcedakpnbaaDoorMem
import Derived.Laws.MakeOwn
import Derived.Laws.OwnMore
import Derived.Deep.OwnRows
set_option linter.unusedVariables false
namespace Go.Proofs.YtbgohcedakpnbaaDoor
open Go.RowKit
def vI (n : Int) : Value := .int .i64 n
theorem made_one (z : Value) (n : Nat) : madeCells #[z] n = (List.replicate n z).toArray := by
  apply Array.ext'
  rw [toList_madeCells_one]
/-- block g is a row of one's own, each element's cell f x -/
def Row {α : Type} (f : α → Value) (w : World) (g : Nat) (t : TypeId) (L : List α) : Prop := Blk w g t (L.map f).toArray
section
variable {α : Type} {f : α → Value} {w w' : World} {g : Nat} {t : TypeId} {L : List α}
theorem Row.lt (h : Row f w g t L) : g < w.heap.size := Blk.lt h
theorem Row.get (h : Row f w g t L) {k : Nat} {x : α} (hx : L[k]? = some x) : w.cell? ⟨g, k, none⟩ = some (f x) := by
  rw [Blk.cell h]; simp [hx]
theorem Row.free (h : Row f w g t L) (k : Nat) : w.frozen? ⟨g, k, none⟩ = false := Blk.frozen h k
theorem Row.below {B : Nat} (h : Row f w g t L) (hb : Below B w w') (hg : g < B) : Row f w' g t L := Blk.below h hb hg
theorem Row.far (h : Row f w g t L) {p : Addr} (hp : g ≠ p.block) (u : Value) : Row f (w.setCell p u) g t L := Blk.far h hp u
theorem Row.alloc (h : Row f w g t L) (o : Obj) : Row f (w.alloc o) g t L := Blk.alloc h o
theorem Row.set_ (h : Row f w g t L) (k : Nat) (x : α) : Row f (w.setCell ⟨g, k, none⟩ (f x)) g t (L.set k x) := by
  have := Blk.set_ h k (f x)
  unfold Row
  rw [List.map_set]
  simpa using this
theorem Row.new (w : World) (t : TypeId) (n : Nat) (x : α) : Row f (w.alloc (.cells (List.replicate n (f x)).toArray t)) w.heap.size t (List.replicate n x) := by
  unfold Row
  rw [List.map_replicate]
  exact Blk.new w t _
theorem Row.slr (h : Row f w g t L) {B : Nat} (hB : g < B) : SlR (fun x => [f x]) 1 w B (some ⟨g, 0, none⟩) L.length L := by
  refine SlR.ofC rfl hB ?_
  intro k x hx j v hv
  have hj : j = 0 := by
    have := (List.getElem?_eq_some_iff.1 hv).1
    simp at this; omega
  subst hj
  simp at hv
  subst hv
  have := Row.get h hx
  simpa using this
end
/-- make([]T, n), n a variable -/
theorem run_mkrow {P : Program} (t e : TypeId) (z : Value) (bytes : Nat) (ht : P.underlying t = some (.slice e)) (hinfo : (P.info? e).map (fun i => (i.zero, i.size, i.bytes)) = some (some z, 1, bytes)) (hz1 : z.cells = #[z])
    (n : Nat) (hbytes : bytes * n ≤ 281474976710656) (h63 : n ≤ 9223372036854775807) (w : World) :
    (Instr.makeSlice t (.int .i64 (n : Int)) (.int .i64 (n : Int))).run P w = .ok (.slice (some ⟨w.heap.size, 0, none⟩) n n) (w.alloc (.cells (List.replicate n z).toArray e)) := by
  have := run_make_row' (P := P) t e z bytes ht hinfo hz1 .i64 .i64 n hbytes h63 w
  rwa [made_one] at this
end Go.Proofs.YtbgohcedakpnbaaDoor
