/- rows of texts: append; keyholeref01.Texts, Own. -/
import Derived.Test.YtbgohcedakpnbaaDoorInts
import Derived.Test.YtbgohcedakpnbaaDoorORow
import Derived.Test.YtbgohcedakpnbaaDoorRow
set_option linter.unusedVariables false
namespace Go.Proofs.YtbgohcedakpnbaaDoor
open Go.RowKit
theorem encS_one (s : ByteArray) : ∀ u ∈ encS s, u.oneCell' = true := by intro u hu; simp [encS] at hu; subst hu; rfl
theorem slr_strs {ty : TypeId} (L : List ByteArray) {W : World} {g B : Nat} (hW : Blk W g ty (L.map Value.string).toArray) (hB : g < B) : SlR encS 1 W B (some ⟨g, 0, none⟩) L.length L := by
  refine SlR.ofC rfl hB ?_
  intro k x hx j v hv
  have hj : j = 0 := by
    have := (List.getElem?_eq_some_iff.1 hv).1
    simp [encS] at this; omega
  subst hj
  simp [encS] at hv
  subst hv
  have := hW.cell k
  rw [Nat.mul_one, Nat.zero_add, Nat.add_zero, this]
  simp [hx]
theorem str_info3 : (Tryd.prog.info? 9).map (fun i => (i.zero, i.size, i.bytes)) = some (some (.string ByteArray.empty), 1, 16) := by kernel_rfl
def SRow (w : World) (base : Nat) (v : Value) (L : List ByteArray) : Prop := ORow 9 encS 1 w base v L
section
variable {w w' : World} {base : Nat} {v : Value} {L : List ByteArray}
theorem srow_nil (w : World) (base : Nat) : SRow w base (.slice none 0 0) [] := orow_nil w base
theorem srow_slr {A : Option Addr} {n c : Nat} (h : SRow w base (.slice A n c) L) (hn : L.length = n) : SlR encS 1 w w.heap.size A n L := orow_slr encS_len h hn
theorem wpList_append_strs {ops : Array Oper} {rest : List Oper} {o : Oper} {a : Act} {Q : Exit → Act → World → Prop} (hgd : o.guard = none) (s x : Operand)
    (ho : o.op = .call { callee := .builtin .append, args := #[s, x], argTypes := #[22, 22] })
    (hs : a.eval s = v) (hown : SRow w base v L) (B : Nat) (A : Option Addr) (m c : Nat) (M : List ByteArray) (hx : a.eval x = .slice A m c) (hr : SlR encS 1 w B A m M) (n : Nat) (hl : (L ++ M).length = n) (hn : n ≤ 1000000000) (hbase : base ≤ w.heap.size)
    (h : ∀ A c w', Hid (SRow w' base (.slice A n c) (L ++ M)) → w.grownBy w' v.ownBlock → Below base w w' → n ≤ c → c ≤ maxLen → wpList Tryd.prog ops Q rest (a.put o.dst (.slice A n c)) w') : wpList Tryd.prog ops Q (o :: rest) a w :=
  wpList_append_row encS_len encS_one hgd s x _ ho _ 16 Tryd.underlying22 str_info3 rfl (by omega) hs hown B A m c M hx hr n hl (by simp only [maxLen]; omega) (by omega) hbase h
theorem wpList_append_str {ops : Array Oper} {rest : List Oper} {o : Oper} {a : Act} {Q : Exit → Act → World → Prop} (hgd : o.guard = none) (s x : Operand)
    (ho : o.op = .call { callee := .builtin .append, args := #[s, x], argTypes := #[22, 22] })
    (hs : a.eval s = v) (hown : SRow w base v L) (g : Nat) (b : ByteArray) (hx : a.eval x = .slice (some ⟨g, 0, none⟩) 1 1) (hB : Blk w g 9 #[.string b]) (n : Nat) (hl : L.length = n) (L' : List ByteArray) (hL : L ++ [b] = L') (hn : n + 1 ≤ 1000000000) (hbase : base ≤ w.heap.size)
    (h : ∀ A c w', Hid (SRow w' base (.slice A (n + 1) c) L') → w.grownBy w' v.ownBlock → Below base w w' → wpList Tryd.prog ops Q rest (a.put o.dst (.slice A (n + 1) c)) w') : wpList Tryd.prog ops Q (o :: rest) a w := by
  subst hL
  exact wpList_append_strs hgd s x ho hs hown (g + 1) _ 1 1 [b] hx (slr_one encS_len b hB (by omega)) (n + 1) (by simp [hl]) hn hbase fun A c w' h1 h2 h3 _ _ => h A c w' h1 h2 h3
theorem make_strs (n : Nat) (h : n ≤ 1000000000) (w : World) :
    (Instr.makeSlice 22 (.int .i64 0) (.int .i64 (n : Int))).run Tryd.prog w = .ok (.slice (some ⟨w.heap.size, 0, none⟩) 0 n) (w.alloc (.cells (madeCells #[.string ByteArray.empty] n) 9)) := by
  have := run_mkcap (P := Tryd.prog) _ _ _ Tryd.underlying22 str_info3 n (by omega) (by omega) w
  rw [Nat.mul_one] at this
  exact this
theorem make_strs0 (w : World) :
    (Instr.makeSlice 22 (.int .i64 0) (.int .i64 0)).run Tryd.prog w = .ok (.slice (some ⟨w.heap.size, 0, none⟩) 0 0) (w.alloc (.cells (madeCells #[.string ByteArray.empty] 0) 9)) := make_strs 0 (by omega) w
theorem srow_made (w : World) (n : Nat) (h : n ≤ 1000000000) : SRow (w.alloc (.cells (madeCells #[.string ByteArray.empty] n) 9)) w.heap.size (.slice (some ⟨w.heap.size, 0, none⟩) 0 n) [] := by
  have := orow_made (e := 9) (enc := encS) (sz := 1) w (base := w.heap.size) #[.string ByteArray.empty] n (Nat.le_refl _) (by simp only [maxLen]; omega)
  rw [Nat.mul_one] at this
  exact this
end
end Go.Proofs.YtbgohcedakpnbaaDoor
