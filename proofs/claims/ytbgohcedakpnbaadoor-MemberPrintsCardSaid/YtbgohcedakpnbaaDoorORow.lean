/- Rows of one's own that hold the elements of a list, each as the cells 'enc x': append from whatever source; rows of texts. -/
import Derived.Test.YtbgohcedakpnbaaDoorMem
set_option linter.unusedVariables false
namespace Go.Proofs.YtbgohcedakpnbaaDoor
open Go.RowKit
/-- v is a row of one's own, from block base on, that holds the elements of L -/
def ORow {α : Type} (e : TypeId) (enc : α → List Value) (sz : Nat) (w : World) (base : Nat) (v : Value) (L : List α) : Prop := w.ownsRow base e sz v L.length (flat enc L)
section
variable {α : Type} {e : TypeId} {enc : α → List Value} {sz : Nat} {w w' : World} {base : Nat} {v : Value} {L : List α}
theorem orow_nil (w : World) (base : Nat) : ORow e enc sz w base (.slice none 0 0) [] := World.ownsRow_nil _ _ _ _
theorem orow_alloc (h : ORow e enc sz w base v L) (o : Obj) : ORow e enc sz (w.alloc o) base v L := World.ownsRow.alloc h o
theorem orow_drew (h : ORow e enc sz w base v L) : ORow e enc sz w.drew base v L := World.ownsRow.drew h
theorem orow_below {B : Nat} (h : ORow e enc sz w base v L) (hb : Below B w w') (hB : w.heap.size ≤ B) : ORow e enc sz w' base v L := own_below h hb hB
theorem orow_base {base' : Nat} (h : ORow e enc sz w base v L) (hb : base' ≤ base) : ORow e enc sz w base' v L := own_base h hb
theorem orow_form (h : ORow e enc sz w base v L) : ∃ A c, v = .slice A L.length c ∧ L.length ≤ c ∧ c ≤ maxLen := by
  obtain ⟨A, c, hv, h1, h2, _⟩ := own_form h
  exact ⟨A, c, hv, h1, h2⟩
theorem orow_join {m : Nat} {xs : List Value} (h : w.ownsRow base e sz v m xs) (M : List α) (hm : m = M.length) (hx : xs = flat enc M) : ORow e enc sz w base v M := by subst hm hx; exact h
theorem orow_slr (he : ∀ x, (enc x).length = sz) {A : Option Addr} {n c : Nat} (h : ORow e enc sz w base (.slice A n c) L) (hn : L.length = n) : SlR enc sz w w.heap.size A n L := by
  subst hn
  exact SlR.of_own (base := base) (e := e) (c := c) he h rfl
theorem orow_lt (h : ORow e enc sz w base v L) {g : Nat} (hg : v.ownBlock = some g) : base ≤ g ∧ g < w.heap.size := World.ownsRow.lt h g hg
theorem slr_one (he : ∀ x, (enc x).length = sz) {g B : Nat} {t : TypeId} (x : α) (h : Blk w g t (enc x).toArray) (hB : g < B) : SlR enc sz w B (some ⟨g, 0, none⟩) 1 [x] := by
  refine SlR.ofC rfl hB ?_
  intro k y hy j u hu
  have hk : k = 0 := by
    have := (List.getElem?_eq_some_iff.1 hy).1
    simp at this; omega
  subst hk
  simp only [List.getElem?_cons_zero, Option.some.injEq] at hy
  subst hy
  simp only [Nat.zero_mul, Nat.zero_add]
  rw [h.cell]
  simpa using hu
theorem wpList_append_row {P : Program} {ops : Array Oper} {rest : List Oper} {o : Oper} {a : Act} {Q : Exit → Act → World → Prop} (he : ∀ x, (enc x).length = sz) (h1 : ∀ x, ∀ u ∈ enc x, u.oneCell' = true) (hgd : o.guard = none) (s x : Operand) (t : TypeId)
    (ho : o.op = .call { callee := .builtin .append, args := #[s, x], argTypes := #[t, t] })
    (z : Value) (bytes : Nat) (ht : P.underlying t = some (.slice e)) (hinfo : (P.info? e).map (fun i => (i.zero, i.size, i.bytes)) = some (some z, sz, bytes)) (hzs : z.cells.size = sz) (hsz : 0 < sz)
    (hs : a.eval s = v) (hown : ORow e enc sz w base v L) (B : Nat) (A : Option Addr) (m c : Nat) (M : List α) (hx : a.eval x = .slice A m c) (hr : SlR enc sz w B A m M) (n : Nat) (hl : (L ++ M).length = n) (hn : n ≤ maxLen) (hby : n * bytes ≤ 140737488355328) (hbase : base ≤ w.heap.size)
    (h : ∀ A c w', Hid (ORow e enc sz w' base (.slice A n c) (L ++ M)) → w.grownBy w' v.ownBlock → Below base w w' → n ≤ c → c ≤ maxLen → wpList P ops Q rest (a.put o.dst (.slice A n c)) w') : wpList P ops Q (o :: rest) a w := by
  have hmm : M.length = m := hr.1
  have hlm : L.length + m = n := by rw [← hl, List.length_append, hmm]
  obtain ⟨i0, hi0, hz0, hz1, hz2⟩ := info_parts hinfo
  refine wpList_append_any _ hgd s x _ ho base _ i0 _ sz bytes ht hi0 hz0 hz1 hz2 hzs hsz v L.length (flat enc L) hs hown B A m c (flat enc M) hx (hr.reads he) ?_ (by omega) (by rw [hlm]; exact hby) hbase ?_
  · intro u hu
    obtain ⟨y, _, hy⟩ := List.mem_flatMap.1 hu
    exact h1 y u hy
  · intro v' w' h2 h3 _
    have h1' : ORow e enc sz w' base v' (L ++ M) := orow_join h2 _ (by simp [hmm]) (by rw [flat_append])
    obtain ⟨A, c, rfl, hc1, hc2⟩ := orow_form h1'
    rw [hl] at h1' hc1 ⊢
    exact h A c w' (Lib.hid h1') h3 ((Below.refl base w).grown h3 hbase (fun k e => (World.ownsRow.lt hown k e).1)) hc1 hc2
/-- make([]T, 0, n) -/
theorem run_mkcap {P : Program} (t : TypeId) (z : Value) (bytes : Nat) (ht : P.underlying t = some (.slice e)) (hinfo : (P.info? e).map (fun i => (i.zero, i.size, i.bytes)) = some (some z, sz, bytes))
    (c : Nat) (hbytes : bytes * c ≤ 281474976710656) (h63 : c ≤ 9223372036854775807) (w : World) :
    (Instr.makeSlice t (.int .i64 0) (.int .i64 (c : Int))).run P w = .ok (.slice (some ⟨w.heap.size, 0, none⟩) 0 c) (w.alloc (.cells (madeCells z.cells (c * sz)) e)) := by
  obtain ⟨i0, hi0, hz0, hz1, hz2⟩ := info_parts hinfo
  have hb : (i0.bytes : Int) * (c : Int) ≤ 281474976710656 := by
    rw [hz2]
    have h : ((bytes * c : Nat) : Int) ≤ 281474976710656 := by omega
    rwa [Int.natCast_mul] at h
  have hr := run_make (P := P) w t e i0 z ht hi0 hz0 .i64 .i64 0 c (by omega) (by omega) hb (by omega)
  rw [hz1] at hr
  simpa using hr
theorem orow_made (w : World) {base : Nat} (z : Array Value) (c : Nat) (hb : base ≤ w.heap.size) (hc : c ≤ maxLen) : ORow e enc sz (w.alloc (.cells (madeCells z (c * sz)) e)) base (.slice (some ⟨w.heap.size, 0, none⟩) 0 c) [] :=
  World.ownsRow_made w _ c hb hc (size_madeCells _ _)
end
end Go.Proofs.YtbgohcedakpnbaaDoor
