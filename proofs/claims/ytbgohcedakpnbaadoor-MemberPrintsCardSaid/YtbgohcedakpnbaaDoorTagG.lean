/- tag: digitsOf. -/
import Derived.Test.YtbgohcedakpnbaaDoorTagA
import Derived.Laws.IdiomStrings
set_option linter.unusedVariables false
namespace Go.Proofs.YtbgohcedakpnbaaDoor
open Go.RowKit
/-- v is a row of one's own, from block base on, that holds the numbers L -/
def NRow (w : World) (base : Nat) (v : Value) (L : List Nat) : Prop := w.ownsRow base 3 1 v L.length (L.map vN)
section
variable {w w' : World} {base : Nat} {v : Value} {L : List Nat}
theorem nrow_alloc (h : NRow w base v L) (o : Obj) : NRow (w.alloc o) base v L := World.ownsRow.alloc h o
theorem nrow_below {B : Nat} (h : NRow w base v L) (hb : Below B w w') (hB : w.heap.size ≤ B) : NRow w' base v L := own_below h hb hB
theorem nrow_form (h : NRow w base v L) : ∃ A c, v = .slice A L.length c ∧ L.length ≤ c ∧ c ≤ maxLen := by
  obtain ⟨A, c, hv, h1, h2, _⟩ := own_form h
  exact ⟨A, c, hv, h1, h2⟩
theorem nrow_join {m : Nat} {xs : List Value} (h : w.ownsRow base 3 1 v m xs) (M : List Nat) (hm : m = M.length) (hx : xs = M.map vN) : NRow w base v M := by subst hm hx; exact h
theorem flat_ints (L : List Nat) : flat encI (ints L) = L.map vN := by
  unfold flat ints
  induction L with
  | nil => rfl
  | cons x M ih => rw [List.map_cons, List.flatMap_cons, ih]; rfl
theorem nrow_slr {A : Option Addr} {n c : Nat} (h : NRow w base (.slice A n c) L) (hn : L.length = n) : SlR encI 1 w w.heap.size A n (ints L) := by
  subst hn
  exact SlR.of_own (base := base) (e := 3) (c := c) encI_len (by rw [flat_ints]; exact h) (by simp [ints])
theorem wpList_append_nums {ops : Array Oper} {rest : List Oper} {o : Oper} {a : Act} {Q : Exit → Act → World → Prop} (hgd : o.guard = none) (s x : Operand)
    (ho : o.op = .call { callee := .builtin .append, args := #[s, x], argTypes := #[39, 39] })
    (hs : a.eval s = v) (hown : NRow w base v L) (B : Nat) (A : Option Addr) (m c : Nat) (M : List Nat) (hx : a.eval x = .slice A m c) (hr : Reads w B 1 A m (M.map vN)) (n : Nat) (hl : (L ++ M).length = n) (hn : n ≤ 1000000) (hbase : base ≤ w.heap.size)
    (h : ∀ A c w', Hid (NRow w' base (.slice A n c) (L ++ M)) → w.grownBy w' v.ownBlock → Below base w w' → n ≤ c → c ≤ maxLen → wpList Tryd.prog ops Q rest (a.put o.dst (.slice A n c)) w') : wpList Tryd.prog ops Q (o :: rest) a w := by
  have hmm : M.length = m := by have := hr.1; simpa using this
  have hlm : L.length + m = n := by rw [← hl, List.length_append, hmm]
  obtain ⟨i0, hi0, hz0, hz1, hz2⟩ := info_parts int_info3
  refine wpList_append_any _ hgd s x _ ho base _ i0 _ 1 8 Tryd.underlying39 hi0 hz0 hz1 hz2 rfl (by omega) v L.length (L.map vN) hs hown B A m c (M.map vN) hx hr ?_ (by simp only [maxLen]; omega) (by omega) hbase ?_
  · intro u hu
    obtain ⟨y, _, rfl⟩ := List.mem_map.1 hu
    rfl
  · intro v' w' h1 h2 _
    have h1' : NRow w' base v' (L ++ M) := nrow_join h1 _ (by simp [hmm]) (by simp)
    obtain ⟨A, c, rfl, hc1, hc2⟩ := nrow_form h1'
    rw [hl] at h1' hc1 ⊢
    exact h A c w' (Lib.hid h1') h2 ((Below.refl base w).grown h2 hbase (fun k e => (World.ownsRow.lt hown k e).1)) hc1 hc2
end
theorem make0 (w : World) : (Instr.makeSlice 39 (.int .i64 0) (.int .i64 17)).run Tryd.prog w = .ok (.slice (some ⟨w.heap.size, 0, none⟩) 0 17) (w.alloc (.cells (List.replicate 17 (Value.int .i64 0)).toArray 3)) := by
  obtain ⟨i0, hi0, hz0, hz1, hz2⟩ := info_parts int_info3
  have hr := run_make (P := Tryd.prog) w 39 3 i0 _ Tryd.underlying39 hi0 hz0 .i64 .i64 0 17 (by omega) (by omega) (by rw [hz2]; omega) (by omega)
  rw [hz1] at hr
  rw [hr, show (Value.int .i64 0).cells = #[.int .i64 0] from rfl, show Int.toNat 17 * 1 = 17 from rfl, made_one]
  rfl
def bytesN (s : ByteArray) : List Nat := s.data.toList.map UInt8.toNat
theorem bytesN_len (s : ByteArray) : (bytesN s).length = s.size := by simp [bytesN]
theorem bytesN_lt (s : ByteArray) : ∀ x ∈ bytesN s, x < 256 := by
  intro x hx
  obtain ⟨b, _, rfl⟩ := List.mem_map.1 hx
  exact b.toNat_lt
theorem bytesN_get (s : ByteArray) (k : Nat) (h : k < s.size) : (bytesN s)[k]? = some (s[k].toNat) := by
  unfold bytesN
  rw [List.getElem?_map, List.getElem?_eq_getElem (by simpa using h)]
  rfl
theorem bytesN_take (s : ByteArray) (k : Nat) (h : k < s.size) : (bytesN s).take k ++ [s[k].toNat] = (bytesN s).take (k + 1) := by
  rw [List.take_add_one, bytesN_get s k h]; rfl
theorem reads_slr {w : World} {B n : Nat} {A : Option Addr} {L : List Nat} (h : SlR encI 1 w B A n (ints L)) : Reads w B 1 A n (L.map vN) := by
  obtain ⟨hl, hA⟩ := h
  have hl2 : L.length = n := by simpa [ints] using hl
  refine ⟨by simp [hl2], fun hn => ?_⟩
  obtain ⟨b, off, rfl, hb, hC⟩ := hA.resolve_left (by omega)
  refine ⟨_, rfl, hb, fun j u hu => ?_⟩
  rw [List.getElem?_map] at hu
  obtain ⟨x, hx, rfl⟩ := Option.map_eq_some_iff.1 hu
  have := hC.int (ints_get hx)
  rw [Addr.add_lit]
  exact this
set_option maxRecDepth 100000 in
set_option maxHeartbeats 400000 in
theorem digits_of (s : ByteArray) (A : Option Addr) (c m : Nat) (w : World) (hm : SlR encI 1 w w.heap.size A 1 (ints [m])) (hs : s.size ≤ 16) :
    Calls Tryd.prog 85 #[.string s, .slice A 1 c] w fun e w' => ∃ A' c', e = .returned (.slice A' (s.size + 1) c') ∧ NRow w' w.heap.size (.slice A' (s.size + 1) c') (bytesN s ++ [m]) ∧ s.size + 1 ≤ c' ∧ c' ≤ maxLen ∧ Below w.heap.size w w' := by
  have HM := Lib.hid hm
  have hmk := make0
  clear hm
  go_enter Tryd.func85, Tryd.ntmps85
  go_wp2_with fail
  clear hmk
  have h0 : Hid (NRow (w.alloc (.cells (List.replicate 17 (Value.int .i64 0)).toArray 3)) w.heap.size (.slice (some ⟨w.heap.size, 0, none⟩) 0 17) ((bytesN s).take 0)) := Lib.hid (World.ownsRow_made w _ 17 (Nat.le_refl _) (by simp [maxLen]) (by simp))
  go_loopw [5, 10] (fun v iv wr => ∃ (k : Nat) (A1 : Option Addr) (c1 : Nat), k ≤ s.size ∧ iv = .int .i64 k ∧ v = .slice A1 k c1 ∧ Hid (NRow wr w.heap.size (.slice A1 k c1) ((bytesN s).take k)) ∧ Below w.heap.size w wr) (fun _ iv _ => s.size - (intOf iv).toNat)
  case atStart => exact ⟨0, _, _, by omega, rfl, rfl, h0, by go_grown⟩
  case round =>
    clear h0
    obtain ⟨k, A1, c1, hk, rfl, rfl, HR, hB⟩ := hrel
    have hBs := hB.size
    by_cases hlt : k < s.size
    · have HE := Lib.hid (bytesN_take s k hlt)
      have HL : Hid (((bytesN s).take k ++ [s[k].toNat]).length = k + 1) := Lib.hid (by rw [bytesN_take s k hlt, List.length_take, bytesN_len]; omega)
      have hb : s[k].toNat < 256 := s[k].toNat_lt
      go_wp2_with (at_builtin; refine wpList_append_nums rfl (.tmp 13) (.tmp 18) rfl rfl (nrow_alloc HR.out _) (wr.heap.size + 1) (some ⟨wr.heap.size, 0, none⟩) 1 1 [s[k].toNat] rfl (Reads.new wr _ _ rfl) (k + 1) HL.out (by omega) (by simp; omega) ?_; intro A2 c2 w2 HR2 hg2 hb2 hc21 hc22)
      clear hg2
      go_roundw
      case rel => exact ⟨k + 1, A2, c2, by omega, by go_num, rfl, by rw [← HE.out]; exact HR2, Below.trans (by go_grown) hb2⟩
      case measure => simp [intOf]; omega
    · obtain rfl : k = s.size := by omega
      have hT : (bytesN s).take s.size = bytesN s := List.take_of_length_le (by rw [bytesN_len]; exact Nat.le_refl _)
      have hR := HR.out
      rw [hT] at hR
      have HR' := Lib.hid hR
      have HRd := Lib.hid (reads_slr (HM.out.below hB))
      have HL : Hid ((bytesN s ++ [m]).length = s.size + 1) := Lib.hid (by simp [bytesN_len])
      clear hT hR HR
      go_wp2_with (at_builtin; refine wpList_append_nums rfl (.tmp 21) (.tmp 22) rfl rfl HR'.out w.heap.size A 1 c [m] rfl HRd.out (s.size + 1) HL.out (by omega) hBs ?_; intro A2 c2 w2 HR2 hg2 hb2 hc21 hc22)
      go_ret
      exact ⟨A2, c2, rfl, HR2.out, hc21, hc22, hB.trans hb2⟩
end Go.Proofs.YtbgohcedakpnbaaDoor
