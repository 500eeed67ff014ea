/- Rows of bytes of one's own: one byte more, and the text they make. -/
import Derived.Test.YtbgohcedakpnbaaDoorWordC
set_option linter.unusedVariables false
namespace Go.Proofs.YtbgohcedakpnbaaDoor
open Go.RowKit
/-- v is a row of one's own, from block base on, that holds the bytes L -/
def BRow (w : World) (base : Nat) (v : Value) (L : List UInt8) : Prop := w.ownsRow base 5 1 v L.length (L.map vB)
section
variable {w w' : World} {base : Nat} {v : Value} {L : List UInt8}
theorem brow_nil (w : World) (base : Nat) : BRow w base (.slice none 0 0) [] := World.ownsRow_nil _ _ _ _
theorem brow_new (w : World) {W : World} {g : Nat} (hb : base ≤ g) (L : List UInt8) (hW : Blk W g 5 (L.map vB).toArray) (hl : L.length ≤ 140737488355328) : BRow W base (.slice (some ⟨g, 0, none⟩) L.length L.length) L := by
  refine ⟨by simp, .inr ⟨g, L.length, _, rfl, hb, hW, Nat.le_refl _, by simp only [maxLen]; omega, by simp, ?_⟩⟩
  rw [Nat.mul_one]
  exact List.take_of_length_le (by simp)
theorem brow_alloc (h : BRow w base v L) (o : Obj) : BRow (w.alloc o) base v L := World.ownsRow.alloc h o
theorem brow_below {B : Nat} (h : BRow w base v L) (hb : Below B w w') (hB : w.heap.size ≤ B) : BRow w' base v L := own_below h hb hB
theorem brow_form (h : BRow w base v L) : ∃ A c, v = .slice A L.length c := by
  obtain ⟨A, c, hv, _⟩ := own_form h
  exact ⟨A, c, hv⟩
/-- string(b) -/
theorem run_brow {P : Program} (src dst e : TypeId) (hs : P.underlying src = some (.slice e)) (he : P.underlying e = some (.int .u8)) (hd : P.underlying dst = some .string) {A : Option Addr} {n c : Nat} (hn : L.length = n)
    (h : BRow w base (.slice A n c) L) : (convert src dst (.slice A n c)).run P w = .ok (.string ⟨L.toArray⟩) w := by
  subst hn
  rcases h.2 with ⟨hv, h0⟩ | ⟨g, cap, cur, hv, _, hg, _⟩
  · obtain rfl : L = [] := List.eq_nil_of_length_eq_zero h0
    injection hv with hA
    subst hA
    rw [run_convert_bytes_string w src dst e none _ c hs he hd]
    rfl
  · have hA : A = some ⟨g, 0, none⟩ := by injection hv
    subst hA
    refine run_convert_bytes_back w src dst e ⟨g, 0, none⟩ c L hs he hd fun j hj => ?_
    exact h.cells (g := g) rfl j _ (by rw [List.getElem?_map, List.getElem?_eq_getElem hj]; rfl)
theorem brow_join {m : Nat} {xs : List Value} (h : w.ownsRow base 5 1 v m xs) (M : List UInt8) (hm : m = M.length) (hx : xs = M.map vB) : BRow w base v M := by subst hm hx; exact h
theorem wpList_append_byte {ops : Array Oper} {rest : List Oper} {o : Oper} {a : Act} {Q : Exit → Act → World → Prop} (hgd : o.guard = none) (s x : Operand)
    (ho : o.op = .call { callee := .builtin .append, args := #[s, x], argTypes := #[54, 54] })
    (hs : a.eval s = v) (hown : BRow w base v L) (g : Nat) (b : UInt8) (u : Value) (hx : a.eval x = .slice (some ⟨g, 0, none⟩) 1 1) (hB : Blk w g 5 #[u]) (hu : u = vB b) (n : Nat) (hl : L.length = n) (L' : List UInt8) (hL : L ++ [b] = L') (hn : n + 1 ≤ 140737488355328) (hbase : base ≤ w.heap.size)
    (h : ∀ A c w', Hid (BRow w' base (.slice A (n + 1) c) L') → w.grownBy w' v.ownBlock → Below base w w' → wpList Tryd.prog ops Q rest (a.put o.dst (.slice A (n + 1) c)) w') : wpList Tryd.prog ops Q (o :: rest) a w := by
  subst hu hL
  obtain ⟨i0, hi0, hz0, hz1, hz2⟩ := info_parts byte_info
  refine wpList_append_any _ hgd s x _ ho base _ i0 _ 1 1 Tryd.underlying54 hi0 hz0 hz1 hz2 rfl (by omega) v L.length (L.map vB) hs hown (g + 1) (some ⟨g, 0, none⟩) 1 1 [vB b] hx ?_ (by simp [vB, Value.oneCell']) (by simp only [maxLen]; omega) (by omega) hbase ?_
  · refine ⟨rfl, fun _ => ⟨_, rfl, by simp, fun j u hu => ?_⟩⟩
    have hadd : (⟨g, 0, none⟩ : Addr).add j = ⟨g, j, none⟩ := by unfold Addr.add; split <;> simp_all
    rw [hadd, hB.cell]
    simpa using hu
  · intro v' w' h1 h2 _
    have h1' : BRow w' base v' (L ++ [b]) := brow_join h1 _ (by simp) (by simp)
    obtain ⟨A, c, rfl⟩ := brow_form h1'
    have hn1 : (L ++ [b]).length = n + 1 := by simp [hl]
    rw [hn1] at h1' ⊢
    exact h A c w' (Lib.hid h1') h2 ((Below.refl base w).grown h2 hbase (fun k e => (World.ownsRow.lt hown k e).1))
end
end Go.Proofs.YtbgohcedakpnbaaDoor
