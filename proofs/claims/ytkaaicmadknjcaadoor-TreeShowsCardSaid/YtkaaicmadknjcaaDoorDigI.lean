/- digest.blocks: the parts of a text and of what stands behind it, for whatever loop body. -/
import Derived.Test.YtkaaicmadknjcaaDoorDigD
import Derived.RangeFuncNested
import Derived.RangeFuncBound
import Derived.RangeFuncCalls
import Derived.RangeFuncLeaves
import Derived.Shelf.Abstract
import Derived.Shelf.RegionOpen
import Derived.OwnWalkIn
import Derived.TacticsInMore
import Derived.LoopNIn
import Derived.LoopIn
set_option linter.unusedVariables false
namespace Go.Proofs.YtkaaicmadknjcaaDoor
open Go.RowKit Go.Shelf
attribute [local go_sem] Oper.semAt_some
/-- the parts of 64 bytes -/
def chunkOf (s : ByteArray) (k : Nat) : ByteArray := s.extract (64 * k) (64 * k + 64)
def chunksOf (s : ByteArray) : List ByteArray := (List.range (s.size / 64)).map (chunkOf s)
theorem chunksOf_len (s : ByteArray) : (chunksOf s).length = s.size / 64 := by simp [chunksOf]
theorem chunks_succ (s : ByteArray) {k : Nat} (h : 64 * k + 64 ≤ s.size) : (chunksOf s).take k ++ [chunkOf s k] = (chunksOf s).take (k + 1) := by
  have hl : k < (chunksOf s).length := by rw [chunksOf_len]; omega
  rw [List.take_succ_eq_append_getElem hl]
  simp [chunksOf]
theorem size_extract (s : ByteArray) (i j : Nat) : (s.extract i j).size = min j s.size - i := by simp
theorem rest_chunk (s : ByteArray) (k : Nat) : (s.extract (64 * k) s.size).extract 0 64 = chunkOf s k := by
  rw [ByteArray.extract_extract, Nat.add_zero, extract_clip]; rfl
theorem rest_rest (s : ByteArray) (k : Nat) : (s.extract (64 * k) s.size).extract 64 (s.extract (64 * k) s.size).size = s.extract (64 * (k + 1)) s.size := by
  rw [ByteArray.extract_extract, size_extract, Nat.min_self]
  rcases Nat.le_total (64 * k) s.size with h | h
  · rw [show 64 * k + (s.size - 64 * k) = s.size by omega, Nat.min_self]; rfl
  · rw [show s.size - 64 * k = 0 by omega]
    rw [ByteArray.extract_eq_empty_iff.2 (by omega), ByteArray.extract_eq_empty_iff.2 (by omega)]
theorem chunk_left (s t : ByteArray) {k : Nat} (h : 64 * k + 64 ≤ s.size) : chunkOf s k = chunkOf (s ++ t) k := (extract_left h).symm
theorem rest_join (s t : ByteArray) {k : Nat} (h : 64 * k ≤ s.size) : s.extract (64 * k) s.size ++ t = (s ++ t).extract (64 * k) (s ++ t).size := by
  rw [ByteArray.extract_append, ByteArray.size_append, show 64 * k - s.size = 0 by omega, show s.size + t.size - s.size = t.size by omega, ByteArray.extract_zero_size]
  rw [← extract_clip s (64 * k) (s.size + t.size), show min (s.size + t.size) s.size = s.size by omega]
def sizeV (v : Value) : Nat := match v with | .string s => s.size | _ => 0

theorem blocks_in (F : Fence) (n : Nat) (hf : F.fn 92) (hro : F.round = none) (s b : ByteArray) (w : World) :
    CallsIn F n Tryd.prog 92 #[.string s, .string b] w fun e w' => e = .returned (.func (.func 133) #[] #[.pointer (some ⟨w.heap.size, 0, none⟩), .pointer (some ⟨w.heap.size + 1, 0, none⟩)]) ∧ (w.alloc (.cells #[.string s] 9)).alloc (.cells #[.string b] 9) = w' := by
  refine callsIn_of_wp Tryd.func92 rfl hf ?_ hro
  simp only [Tryd.ntmps92, List.size_toArray, List.length_cons, List.length_nil, Nat.reduceAdd, Nat.reduceSub, Array.replicate_succ, Array.replicate_zero, List.push_toArray, List.append_toArray, List.nil_append, List.cons_append]
  gi_wp2
  go_ret
  exact ⟨rfl, rfl⟩

set_option maxHeartbeats 400000 in
theorem blocks1_in (F : Fence) (n : Nat) (hf : F.fn 133) (hro : F.round = none) (hn : 1 ≤ n) (l B1 B2 : Nat) (s b : ByteArray) (J Jx : List ByteArray → World → Prop) (Kp : World → World → Prop) (hKr : ∀ A, Kp A A) (hKt : ∀ A B C, Kp A B → Kp B C → Kp A C) (hKc : ∀ A B, Kp A B → B.cell? ⟨B2, 0, none⟩ = A.cell? ⟨B2, 0, none⟩)
    (hY : ∀ pre x W, J pre W → pre.length < (chunksOf (s ++ b)).length → YieldAt F (n - 1) Tryd.prog l #[.string x] W fun e W' =>
      (e = .returned (.bool true) ∧ J (pre ++ [x]) W' ∧ Kp W W') ∨ (e = .returned (.bool false) ∧ Jx (pre ++ [x]) W'))
    (W : World) (h1 : W.cell? ⟨B1, 0, none⟩ = some (.string s)) (h2 : W.cell? ⟨B2, 0, none⟩ = some (.string b)) (hw : (s.size + b.size) % 64 = 0) (hs : s.size ≤ 1000000000) (hb : b.size ≤ 72) (h0 : J [] W) :
    CallsIn F n Tryd.prog 133 #[.func (.yield l) #[] #[], .pointer (some ⟨B1, 0, none⟩), .pointer (some ⟨B2, 0, none⟩)] W fun e W' => (∃ v, e = .returned v) ∧
      ((∃ ys, ys = chunksOf (s ++ b) ∧ J ys W') ∨ (∃ pre, pre <+: chunksOf (s ++ b) ∧ Jx pre W')) := by
  have HY := Lib.hid hY
  have HK := Lib.hid hKt
  have HKc := Lib.hid hKc
  have HS := Lib.hid (And.intro hw (And.intro hs hb))
  have H2 := Lib.hid h2
  clear hY hw hs hb h2 hKt hKc
  refine callsIn_of_wp Tryd.func133 rfl hf ?_ hro
  simp only [Tryd.ntmps133, List.size_toArray, List.length_cons, List.length_nil, Nat.reduceAdd, Nat.reduceSub, Array.replicate_succ, Array.replicate_zero, List.push_toArray, List.append_toArray, List.nil_append, List.cons_append]
  gi_wp2
  gi_loopw [4] (fun v wr => ∃ (k : Nat) (r : ByteArray), v = .string r ∧ Hid (r = s.extract (64 * k) s.size) ∧ Hid (64 * k + r.size = s.size) ∧ Hid (J ((chunksOf (s ++ b)).take k) wr) ∧ Hid (Kp W wr)) (fun v _ => sizeV v)
  case atStart => exact ⟨0, s, rfl, Lib.hid (by simp), Lib.hid (by omega), by simpa [Hid] using h0, hKr _⟩
  case round =>
    obtain ⟨k, r, rfl, HR, HN, HJ, hB⟩ := hrel
    by_cases hlt : 64 ≤ r.size
    · have hk : 64 * k + 64 ≤ s.size := by have := HN.out; omega
      have HC : Hid (r.extract 0 64 = chunkOf (s ++ b) k) := Lib.hid (by rw [HR.out, rest_chunk, chunk_left _ _ hk])
      have HT : Hid (r.extract 64 r.size = s.extract (64 * (k + 1)) s.size) := Lib.hid (by rw [HR.out, rest_rest])
      obtain ⟨fn, tmps, assign, body, hy, hR⟩ := HY.out _ (r.extract 0 64) wr HJ.out (by rw [List.length_take, chunksOf_len, ByteArray.size_append]; omega)
      have HRR := Lib.hid hR
      clear hR
      gi_wp2
      refine HRR.out.mono ?_
      rintro e W3 (⟨rfl, hJ3, hk3⟩ | ⟨rfl, hJx3⟩)
      · rw [HC.out, chunks_succ _ (by rw [ByteArray.size_append]; omega)] at hJ3
        have HJ3 := Lib.hid hJ3
        clear hJ3
        gi_wp2
        go_roundw
        case rel => exact ⟨k + 1, _, rfl, HT, Lib.hid (by rw [size_extract]; have := HN.out; omega), HJ3, HK.out _ _ _ hB.out hk3⟩
        case measure => simp [sizeV]; omega
      · rw [HC.out, chunks_succ _ (by rw [ByteArray.size_append]; omega)] at hJx3
        have HJ3 := Lib.hid hJx3
        clear hJx3
        gi_wp2
        refine bodyPost_ret (results_none rfl _ _ _) rfl ?_
        exact ⟨⟨_, rfl⟩, .inr ⟨_, List.take_prefix _ _, HJ3⟩⟩
    · have hb2 := (HKc.out _ _ hB.out).trans H2.out
      have HA : Hid (r ++ b = (s ++ b).extract (64 * k) (s ++ b).size) := Lib.hid (by rw [HR.out]; exact rest_join s b (by have := HN.out; omega))
      have HN2 : Hid (64 * k + (r ++ b).size = (s ++ b).size) := Lib.hid (by rw [ByteArray.size_append, ByteArray.size_append]; have := HN.out; omega)
      have hcat : r.size + b.size ≤ 1000000100 := by have := HS.out; have := HN.out; omega
      have HW : Hid ((s ++ b).size % 64 = 0) := Lib.hid (by rw [ByteArray.size_append]; exact HS.out.1)
      obtain ⟨wo, rfl⟩ : ∃ wo : World, wo = wr := ⟨_, rfl⟩
      gi_wp2
      gi_loopw [4] (fun v wr => ∃ (k : Nat) (r : ByteArray), v = .string r ∧ Hid (r = (s ++ b).extract (64 * k) (s ++ b).size) ∧ Hid (64 * k + r.size = (s ++ b).size) ∧ Hid (J ((chunksOf (s ++ b)).take k) wr) ∧ Hid (Kp W wr)) (fun v _ => sizeV v)
      case atStart => exact ⟨k, _, rfl, HA, HN2, HJ, hB⟩
      case round =>
        clear hb2 HA HN2 hcat
        obtain ⟨k, r, rfl, HR, HN, HJ, hB⟩ := hrel
        by_cases hz : r.size = 0
        · obtain rfl : r = ByteArray.empty := ByteArray.size_eq_zero_iff.1 hz
          have HD : Hid ((chunksOf (s ++ b)).take k = chunksOf (s ++ b)) := Lib.hid (List.take_of_length_le (by rw [chunksOf_len]; have := HN.out; rw [ByteArray.size_empty] at this; omega))
          clear hz hlt
          gi_wp2
          go_end0
          exact ⟨⟨_, rfl⟩, .inl ⟨_, rfl, by have := HJ.out; rwa [HD.out] at this⟩⟩
        · have hk : 64 * k + 64 ≤ (s ++ b).size := by have := HN.out; have := HW.out; omega
          have hne : r.toList.isEmpty = false := by
            cases h : r.toList with
            | nil =>
              exfalso; apply hz
              rw [Lib.toList_data] at h
              have : r.data.toList.length = 0 := by rw [h]; rfl
              simpa using this
            | cons a b => rfl
          have hsz : 64 ≤ r.size := by have := HN.out; omega
          have HC : Hid (r.extract 0 64 = chunkOf (s ++ b) k) := Lib.hid (by rw [HR.out, rest_chunk])
          have HT : Hid (r.extract 64 r.size = (s ++ b).extract (64 * (k + 1)) (s ++ b).size) := Lib.hid (by rw [HR.out, rest_rest])
          obtain ⟨fn, tmps, assign, body, hy, hR⟩ := HY.out _ (r.extract 0 64) wr HJ.out (by rw [List.length_take, chunksOf_len]; omega)
          have HRR := Lib.hid hR
          clear hR hz hlt
          gi_wp2
          refine HRR.out.mono ?_
          rintro e W3 (⟨rfl, hJ3, hk3⟩ | ⟨rfl, hJx3⟩)
          · rw [HC.out, chunks_succ _ hk] at hJ3
            have HJ3 := Lib.hid hJ3
            clear hJ3
            gi_wp2
            go_roundw
            case rel => exact ⟨k + 1, _, rfl, HT, Lib.hid (by rw [size_extract]; have := HN.out; omega), HJ3, HK.out _ _ _ hB.out hk3⟩
            case measure => simp [sizeV]; omega
          · rw [HC.out, chunks_succ _ hk] at hJx3
            have HJ3 := Lib.hid hJx3
            clear hJx3
            gi_wp2
            refine bodyPost_ret (results_none rfl _ _ _) rfl ?_
            exact ⟨⟨_, rfl⟩, .inr ⟨_, List.take_prefix _ _, HJ3⟩⟩
end Go.Proofs.YtkaaicmadknjcaaDoor
