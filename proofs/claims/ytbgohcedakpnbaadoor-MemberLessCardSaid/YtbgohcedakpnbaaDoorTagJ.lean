/- tag.parts: the parts of a text, for whatever loop body. -/
import Derived.Test.YtbgohcedakpnbaaDoorTagI
import Derived.RangeFuncNested
import Derived.RangeFuncBound
import Derived.RangeFuncCalls
import Derived.RangeFuncLeaves
import Derived.Shelf.Abstract
import Derived.Shelf.RegionOpen
import Derived.OwnWalkIn
import Derived.TacticsInMore
import Derived.LoopNIn
import Derived.LoopIn
set_option linter.unusedVariables false
namespace Go.Proofs.YtbgohcedakpnbaaDoor
open Go.RowKit Go.Shelf
attribute [local go_sem] Oper.semAt_some
theorem textract_clip (s : ByteArray) (i j : Nat) : s.extract i (min j s.size) = s.extract i j := by
  rcases Nat.le_total j s.size with h | h
  · rw [Nat.min_eq_left h]
  · rw [Nat.min_eq_right h]
    apply ByteArray.ext
    rw [ByteArray.data_extract, ByteArray.data_extract]
    apply Array.ext'
    rw [Array.toList_extract, Array.toList_extract]
    have hs : s.data.toList.length = s.size := by simp
    rw [List.extract_eq_take_drop, List.extract_eq_take_drop, List.take_of_length_le (by first | (simp; done) | (simp; omega)), List.take_of_length_le (by first | (simp; done) | (simp; omega))]
/-- the parts of 16 bytes, the last one maybe of fewer -/
def part16 (s : ByteArray) (k : Nat) : ByteArray := s.extract (16 * k) (16 * k + 16)
def parts16 (s : ByteArray) : List ByteArray := (List.range ((s.size + 15) / 16)).map (part16 s)
theorem parts16_len (s : ByteArray) : (parts16 s).length = (s.size + 15) / 16 := by simp [parts16]
theorem parts16_succ (s : ByteArray) {k : Nat} (h : 16 * k < s.size) : (parts16 s).take k ++ [part16 s k] = (parts16 s).take (k + 1) := by
  have hl : k < (parts16 s).length := by rw [parts16_len]; omega
  rw [List.take_succ_eq_append_getElem hl]
  simp [parts16]
theorem part16_size (s : ByteArray) (k : Nat) : (part16 s k).size = min (16 * k + 16) s.size - 16 * k := by simp [part16]
/-- a text that may be a part -/
structure P16 where
  (x : ByteArray) (ok : 1 ≤ x.size ∧ x.size ≤ 16)
theorem part16_ok (s : ByteArray) (k : Nat) (h : 16 * k < s.size) : 1 ≤ (part16 s k).size ∧ (part16 s k).size ≤ 16 := by rw [part16_size]; omega
def partsP (s : ByteArray) : List P16 := (List.range ((s.size + 15) / 16)).pmap (fun k (h : 16 * k < s.size) => P16.mk (part16 s k) (part16_ok s k h)) (fun k hk => by have := List.mem_range.1 hk; omega)
theorem partsP_len (s : ByteArray) : (partsP s).length = (s.size + 15) / 16 := by simp [partsP]
theorem partsP_val (s : ByteArray) : (partsP s).map (·.1) = parts16 s := by
  unfold partsP parts16
  rw [List.map_pmap]
  simp
theorem partsP_succ (s : ByteArray) {k : Nat} (h : 16 * k < s.size) : (partsP s).take k ++ [⟨part16 s k, part16_ok s k h⟩] = (partsP s).take (k + 1) := by
  have hl : k < (partsP s).length := by rw [partsP_len]; omega
  rw [List.take_succ_eq_append_getElem hl]
  simp [partsP]
theorem parts_in (F : Fence) (n : Nat) (hf : F.fn 86) (hro : F.round = none) (s : ByteArray) (w : World) :
    CallsIn F n Tryd.prog 86 #[.string s] w fun e w' => e = .returned (.func (.func 103) #[] #[.pointer (some ⟨w.heap.size, 0, none⟩)]) ∧ w.alloc (.cells #[.string s] 9) = w' := by
  refine callsIn_of_wp Tryd.func86 rfl hf ?_ hro
  simp only [Tryd.ntmps86, List.size_toArray, List.length_cons, List.length_nil, Nat.reduceAdd, Nat.reduceSub, Array.replicate_succ, Array.replicate_zero, List.push_toArray, List.append_toArray, List.nil_append, List.cons_append]
  gi_wp2
  go_ret
  exact ⟨rfl, rfl⟩
set_option maxHeartbeats 400000 in
theorem parts1_in (F : Fence) (n : Nat) (hf : F.fn 103) (hro : F.round = none) (hn : 1 ≤ n) (l B1 : Nat) (s : ByteArray) (J Jx : List P16 → World → Prop) (Kp : World → World → Prop) (hKr : ∀ A, Kp A A) (hKt : ∀ A B C, Kp A B → Kp B C → Kp A C) (hKc : ∀ A B, Kp A B → B.cell? ⟨B1, 0, none⟩ = A.cell? ⟨B1, 0, none⟩)
    (hY : ∀ pre (x : P16) W, J pre W → pre.length < (partsP s).length → YieldAt F (n - 1) Tryd.prog l #[.string x.1] W fun e W' =>
      (e = .returned (.bool true) ∧ J (pre ++ [x]) W' ∧ Kp W W') ∨ (e = .returned (.bool false) ∧ Jx (pre ++ [x]) W'))
    (W : World) (h1 : W.cell? ⟨B1, 0, none⟩ = some (.string s)) (hs : s.size ≤ 1000000000) (h0 : J [] W) :
    CallsIn F n Tryd.prog 103 #[.func (.yield l) #[] #[], .pointer (some ⟨B1, 0, none⟩)] W fun e W' => (∃ v, e = .returned v) ∧
      ((∃ ys, ys = partsP s ∧ J ys W') ∨ (∃ pre, pre <+: partsP s ∧ Jx pre W')) := by
  have HY := Lib.hid hY
  have HK := Lib.hid hKt
  have HKc := Lib.hid hKc
  have H1 := Lib.hid h1
  clear hY h1 hKt hKc
  refine callsIn_of_wp Tryd.func103 rfl hf ?_ hro
  simp only [Tryd.ntmps103, List.size_toArray, List.length_cons, List.length_nil, Nat.reduceAdd, Nat.reduceSub, Array.replicate_succ, Array.replicate_zero, List.push_toArray, List.append_toArray, List.nil_append, List.cons_append]
  gi_wp2
  gi_loopw [3] (fun v wr => ∃ (k i : Nat), v = .int .i64 i ∧ Hid (i = 16 * k) ∧ i ≤ s.size + 15 ∧ Hid (J ((partsP s).take k) wr) ∧ Hid (Kp W wr)) (fun v _ => s.size + 16 - (intOf v).toNat)
  case atStart => exact ⟨0, 0, rfl, rfl, by omega, by simpa [Hid] using h0, hKr _⟩
  case round =>
    obtain ⟨k, i, rfl, HI, hi, HJ, hB⟩ := hrel
    have c1 := (HKc.out _ _ hB.out).trans H1.out
    by_cases hlt : i < s.size
    · obtain ⟨e, he⟩ : ∃ e, min (i + 16) s.size = e := ⟨_, rfl⟩
      have hc : part16 s k = s.extract i e := by rw [← he, textract_clip, HI.out]; rfl
      have hk16 : 16 * k < s.size := by have := HI.out; omega
      have HSC := Lib.hid (partsP_succ s hk16)
      obtain ⟨x, hx⟩ : ∃ x : P16, (⟨part16 s k, part16_ok s k hk16⟩ : P16) = x := ⟨_, rfl⟩
      have hx1 : x.1 = s.extract i e := by rw [← hx]; exact hc
      rw [hx] at HSC
      clear hx hc
      obtain ⟨fn, tmps, assign, body, hy, hR⟩ := HY.out _ x wr HJ.out (by rw [List.length_take, partsP_len]; have := HI.out; omega)
      rw [hx1] at hy
      have HRR := Lib.hid hR
      clear hR hx1
      by_cases h16 : i + 16 ≤ s.size
      · obtain rfl : e = i + 16 := by omega
        clear he
        gi_wp2
        refine HRR.out.mono ?_
        rintro r W3 (⟨rfl, hJ3, hk3⟩ | ⟨rfl, hJx3⟩)
        · rw [HSC.out] at hJ3
          have HJ3 := Lib.hid hJ3
          clear hJ3
          gi_wp2
          go_roundw
          case rel => exact ⟨k + 1, i + 16, by go_num, Lib.hid (by rw [HI.out]; omega), by omega, HJ3, HK.out _ _ _ hB.out hk3⟩
          case measure => simp [intOf]; omega
        · rw [HSC.out] at hJx3
          have HJ3 := Lib.hid hJx3
          clear hJx3
          gi_wp2
          refine bodyPost_ret (results_none rfl _ _ _) rfl ?_
          exact ⟨⟨_, rfl⟩, .inr ⟨_, List.take_prefix _ _, HJ3⟩⟩
      · obtain rfl : e = s.size := by omega
        clear he
        gi_wp2
        refine HRR.out.mono ?_
        rintro r W3 (⟨rfl, hJ3, hk3⟩ | ⟨rfl, hJx3⟩)
        · rw [HSC.out] at hJ3
          have HJ3 := Lib.hid hJ3
          clear hJ3
          gi_wp2
          go_roundw
          case rel => exact ⟨k + 1, i + 16, by go_num, Lib.hid (by rw [HI.out]; omega), by omega, HJ3, HK.out _ _ _ hB.out hk3⟩
          case measure => simp [intOf]; omega
        · rw [HSC.out] at hJx3
          have HJ3 := Lib.hid hJx3
          clear hJx3
          gi_wp2
          refine bodyPost_ret (results_none rfl _ _ _) rfl ?_
          exact ⟨⟨_, rfl⟩, .inr ⟨_, List.take_prefix _ _, HJ3⟩⟩
    · have HE : Hid ((partsP s).take k = partsP s) := Lib.hid (List.take_of_length_le (by rw [partsP_len]; have := HI.out; omega))
      gi_wp2
      go_end0
      exact ⟨⟨_, rfl⟩, .inl ⟨_, rfl, by have := HJ.out; rwa [HE.out] at this⟩⟩
end Go.Proofs.YtbgohcedakpnbaaDoor
