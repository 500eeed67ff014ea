/- Plain: the digest. -/
import Derived.Test.YtkaaicmadknjcaaDoorDigB
import Derived.Test.YtkaaicmadknjcaaDoorRefP
set_option linter.unusedVariables false
namespace Go.Proofs.YtkaaicmadknjcaaDoor
open Go.RowKit
theorem stepS_len (s : S8) (b : ByteArray) : (stepS s b).length = 8 := by simp [stepS, addTo]
theorem stepS_words (s : S8) (b : ByteArray) : words (stepS s b) := by
  intro n hn
  rw [stepS, addTo] at hn
  obtain ⟨i, hi, rfl⟩ := List.mem_map.1 hn
  rw [if_pos (List.mem_range.1 hi)]
  exact sumW_lt _
def startL : List Nat := [1779033703, 3144134277, 1013904242, 2773480762, 1359893119, 2600822924, 528734635, 1541459225]
/-- the state behind one block -/
def stepL (L : List Nat) (b : ByteArray) : List Nat := stepS ⟨L.getD 0 0, L.getD 1 0, L.getD 2 0, L.getD 3 0, L.getD 4 0, L.getD 5 0, L.getD 6 0, L.getD 7 0⟩ b
/-- the state behind n blocks of s -/
def foldB (x : List Nat) (s : ByteArray) : Nat → List Nat
  | 0 => x
  | n + 1 => stepL (foldB x s n) (s.extract (64 * n) (64 * n + 64))
def State (L : List Nat) : Prop := L.length = 8 ∧ words L
theorem stepL_state (L : List Nat) (b : ByteArray) : State (stepL L b) := ⟨stepS_len _ _, stepS_words _ _⟩
theorem startL_state : State startL := ⟨rfl, by unfold words startL; decide⟩
theorem foldB_state {x : List Nat} (hx : State x) (s : ByteArray) (n : Nat) : State (foldB x s n) := by
  cases n with
  | zero => exact hx
  | succ n => exact stepL_state _ _
theorem extract_left {s t : ByteArray} {i j : Nat} (h : j ≤ s.size) : (s ++ t).extract i j = s.extract i j := by
  rw [ByteArray.extract_append, show j - s.size = 0 by omega]
  have : t.extract (i - s.size) 0 = ByteArray.empty := ByteArray.extract_eq_empty_iff.2 (by simp)
  rw [this, ByteArray.append_empty]
theorem extract_clip (s : ByteArray) (i j : Nat) : s.extract i (min j s.size) = s.extract i j := by
  rcases Nat.le_total j s.size with h | h
  · rw [Nat.min_eq_left h]
  · rw [Nat.min_eq_right h]
    apply ByteArray.ext
    rw [ByteArray.data_extract, ByteArray.data_extract]
    apply Array.ext'
    rw [Array.toList_extract, Array.toList_extract]
    have hs : s.data.toList.length = s.size := by simp
    rw [List.extract_eq_take_drop, List.extract_eq_take_drop, List.take_of_length_le (by first | (simp; done) | (simp; omega)), List.take_of_length_le (by first | (simp; done) | (simp; omega))]
theorem foldB_left {x : List Nat} {s t : ByteArray} {n : Nat} (h : 64 * n ≤ s.size) : foldB x (s ++ t) n = foldB x s n := by
  induction n with
  | zero => rfl
  | succ n ih => rw [foldB, foldB, ih (by omega), extract_left (by omega)]
theorem foldB_add (x : List Nat) (s : ByteArray) (n m : Nat) : foldB x s (n + m) = foldB (foldB x s n) (s.extract (64 * n) s.size) m := by
  induction m with
  | zero => rfl
  | succ m ih =>
    rw [← Nat.add_assoc, foldB, foldB, ih, ByteArray.extract_extract, extract_clip]
    rw [show 64 * n + 64 * m = 64 * (n + m) by omega, show 64 * n + (64 * m + 64) = 64 * (n + m) + 64 by omega]
/-- how many bytes 0 stand behind a text of n bytes and byte 128 -/
def padZ (n : Nat) : Nat := (64 - (n + 9) % 64) % 64
def padL (n k : Nat) : List UInt8 := (128 :: List.replicate (padZ n) 0) ++ (List.range k).map fun i => UInt8.ofNat (8 * n / 2 ^ (56 - 8 * i) % 256)
def padB (n : Nat) : ByteArray := ⟨(padL n 8).toArray⟩
theorem padB_size (n : Nat) : (padB n).size = padZ n + 9 := by
  show (padL n 8).toArray.size = _
  simp [padL]
theorem pad_whole (n : Nat) : (n + (padB n).size) % 64 = 0 := by rw [padB_size, padZ]; omega
theorem pad_bounds (n : Nat) : 9 ≤ (padB n).size ∧ (padB n).size ≤ 72 := by rw [padB_size, padZ]; omega
/-- the digest -/
def stateS (s : ByteArray) : List Nat := foldB startL (s ++ padB s.size) ((s.size + (padB s.size).size) / 64)
def sumS (s : ByteArray) : ByteArray := joinW (stateS s) true
theorem stateS_state (s : ByteArray) : State (stateS s) := foldB_state startL_state _ _
theorem sumS_size (s : ByteArray) : (sumS s).size = 32 := by rw [sumS, joinW_size, (stateS_state s).1]
/-- the bytes of a number, in sixteens -/
def hexD (n : Nat) : UInt8 := if n < 10 then UInt8.ofNat (48 + n) else UInt8.ofNat (87 + n)
def hexL (l : List UInt8) : List UInt8 := l.flatMap fun c => [hexD (c.toNat / 16), hexD (c.toNat % 16)]
end Go.Proofs.YtkaaicmadknjcaaDoor
