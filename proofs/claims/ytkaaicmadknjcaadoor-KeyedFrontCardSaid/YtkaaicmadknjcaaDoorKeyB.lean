/- keyed: parts. -/
import Derived.Test.YtkaaicmadknjcaaDoorKeyA
import Derived.Test.YtkaaicmadknjcaaDoorBld
set_option linter.unusedVariables false
namespace Go.Proofs.YtkaaicmadknjcaaDoor
open Go.RowKit Go.Shelf
attribute [local go_sem] Oper.semAt_some
theorem kparts_in (F : Fence) (n : Nat) (hf : F.fn 96) (hro : F.round = none) (key info : ByteArray) (w : World) :
    CallsIn F n Tryd.prog 96 #[.string key, .string info] w fun e w' => e = .returned (.func (.func 137) #[] #[.pointer (some ⟨w.heap.size, 0, none⟩), .pointer (some ⟨w.heap.size + 1, 0, none⟩)]) ∧ (w.alloc (.cells #[.string key] 9)).alloc (.cells #[.string info] 9) = w' := by
  refine callsIn_of_wp Tryd.func96 rfl hf ?_ hro
  simp only [Tryd.ntmps96, List.size_toArray, List.length_cons, List.length_nil, Nat.reduceAdd, Nat.reduceSub, Array.replicate_succ, Array.replicate_zero, List.push_toArray, List.append_toArray, List.nil_append, List.cons_append]
  gi_wp2
  go_ret
  exact ⟨rfl, rfl⟩
structure P32 where
  (x : ByteArray) (ok : x.size = 32)
def partP (key info : ByteArray) (i : Nat) : P32 := ⟨partK key info (i + 1), partK_size key info i⟩
def partsL (key info : ByteArray) (k : Nat) : List P32 := (List.range k).map fun i => partP key info i
theorem partsL_len (key info : ByteArray) (k : Nat) : (partsL key info k).length = k := by simp [partsL]
theorem partsL_succ (key info : ByteArray) (k : Nat) : partsL key info k ++ [partP key info k] = partsL key info (k + 1) := by simp [partsL, List.range_succ]
theorem partsL_prefix (key info : ByteArray) {i k : Nat} (h : i ≤ k) : partsL key info i <+: partsL key info k := by
  induction k with
  | zero => obtain rfl : i = 0 := by omega
            exact List.prefix_refl _
  | succ k ih =>
    by_cases e : i = k + 1
    · rw [e]; exact List.prefix_refl _
    · rw [← partsL_succ]; exact (ih (by omega)).trans (List.prefix_append _ _)
theorem partsL_of_prefix (key info : ByteArray) {pre : List P32} {k : Nat} (h : pre <+: partsL key info k) : pre = partsL key info pre.length := by
  have hl := h.length_le
  rw [partsL_len] at hl
  have h2 := partsL_prefix key info hl
  exact List.IsPrefix.eq_of_length (List.prefix_of_prefix_length_le h h2 (by rw [partsL_len]; omega)) (by rw [partsL_len])
/-- the bytes of some parts -/
def catL (pre : List P32) : List UInt8 := pre.flatMap fun p => p.x.data.toList
theorem catL_snoc (pre : List P32) (p : P32) : catL (pre ++ [p]) = catL pre ++ p.x.data.toList := by simp [catL]
theorem catL_len (pre : List P32) : (catL pre).length = 32 * pre.length := by
  induction pre with
  | nil => rfl
  | cons p r ih =>
    have : p.x.data.toList.length = p.x.size := by simp
    have hp := p.ok
    show ((p :: r).flatMap _).length = _
    rw [List.flatMap_cons, List.length_append, List.length_cons]
    show _ + (catL r).length = _
    omega
theorem catL_parts (key info : ByteArray) (i : Nat) : catL (partsL key info i) = (catK key info i).data.toList := by
  induction i with
  | zero => rfl
  | succ i ih => rw [← partsL_succ, catL_snoc, ih, catK, ByteArray.data_append, Array.toList_append]; rfl
theorem one_byte_at (x : Nat) (hx : x < 256) (W : World) (g : Nat) (hg : W.heap.size = g) :
    (convert 40 9 (.slice (some ⟨g, 0, none⟩) 1 1)).run Tryd.prog (W.alloc (.cells #[.int .u8 x] 5)) = .ok (.string ⟨#[UInt8.ofNat x]⟩) (W.alloc (.cells #[.int .u8 x] 5)) := by
  have hv : (Value.int .u8 (x : Int)) = vB (UInt8.ofNat x) := by
    unfold vB
    have : (UInt8.ofNat x).toNat = x := by simp; omega
    rw [this]
  rw [hv]
  exact run_brow (base := g) (L := [UInt8.ofNat x]) 40 9 5 Tryd.underlying40 Tryd.underlying5 Tryd.underlying9 rfl (brow_new W (Nat.le_refl g) [UInt8.ofNat x] (Blk.new_at hg _ _) (by simp))
set_option maxHeartbeats 1000000 in
set_option maxRecDepth 100000 in
theorem kparts1_in (n : Nat) (hn : 1 ≤ n) (l B1 B2 : Nat) (key info : ByteArray) (hk : key.size ≤ 1000000) (hi : info.size ≤ 100000) (J Jx : List P32 → World → Prop) (Kp : World → World → Prop)
    (hKr : ∀ A, Kp A A) (hKt : ∀ A B C, Kp A B → Kp B C → Kp A C) (hKc : ∀ A B, Kp A B → B.cell? ⟨B1, 0, none⟩ = A.cell? ⟨B1, 0, none⟩ ∧ B.cell? ⟨B2, 0, none⟩ = A.cell? ⟨B2, 0, none⟩)
    (hKg : ∀ A B, Kp A B → Rounds A → Rounds B) (hKb : ∀ A B, B1 < A.heap.size → B2 < A.heap.size → Rounds A → Below A.heap.size A B → Kp A B) (hKs : ∀ A B, Kp A B → A.heap.size ≤ B.heap.size)
    (hJb : ∀ pre A B, J pre A → Below A.heap.size A B → J pre B)
    (hY : ∀ pre (x : P32) W, J pre W → pre.length < 255 → YieldAt Fence.wide (n - 1) Tryd.prog l #[.string x.x] W fun e W' =>
      (e = .returned (.bool true) ∧ J (pre ++ [x]) W' ∧ Kp W W') ∨ (e = .returned (.bool false) ∧ Jx (pre ++ [x]) W'))
    (W : World) (hG : Rounds W) (h1 : W.cell? ⟨B1, 0, none⟩ = some (.string key)) (h2 : W.cell? ⟨B2, 0, none⟩ = some (.string info)) (hl1 : B1 < W.heap.size) (hl2 : B2 < W.heap.size) (h0 : J [] W) :
    CallsIn Fence.wide n Tryd.prog 137 #[.func (.yield l) #[] #[], .pointer (some ⟨B1, 0, none⟩), .pointer (some ⟨B2, 0, none⟩)] W fun e W' => (∃ v, e = .returned v) ∧
      ((∃ ys, ys = partsL key info 255 ∧ J ys W') ∨ (∃ pre, pre <+: partsL key info 255 ∧ Jx pre W')) := by
  have HY := Lib.hid hY
  have HK := Lib.hid hKt
  have HKc := Lib.hid hKc
  have HKg := Lib.hid hKg
  have HKb := Lib.hid hKb
  have HKs := Lib.hid hKs
  have HJb := Lib.hid hJb
  have HS := Lib.hid (And.intro hk hi)
  have HG := Lib.hid hG
  have HC := Lib.hid (And.intro h1 h2)
  clear hY hKt hKc hKg hKb hKs hJb hk hi hG h1 h2
  refine callsIn_of_wp Tryd.func137 rfl trivial ?_ rfl
  simp only [Tryd.ntmps137, List.size_toArray, List.length_cons, List.length_nil, Nat.reduceAdd, Nat.reduceSub, Array.replicate_succ, Array.replicate_zero, List.push_toArray, List.append_toArray, List.nil_append, List.cons_append]
  gi_wp2
  gi_loopw [4, 5] (fun v iv wr => ∃ (k i : Nat) (t : ByteArray), v = .string t ∧ iv = .int .i64 i ∧ Hid (i = k + 1) ∧ k ≤ 255 ∧ Hid (t = partK key info k) ∧ Hid (J (partsL key info k) wr) ∧ Hid (Kp W wr)) (fun _ iv _ => 256 - (intOf iv).toNat)
  case atStart => exact ⟨0, 1, _, rfl, rfl, rfl, by omega, rfl, by simpa [Hid, partsL] using h0, hKr _⟩
  case round =>
    obtain ⟨k, i, t, rfl, rfl, HI, hk, HT, HJ, HB⟩ := hrel
    have hsz := HKs.out _ _ HB.out
    obtain ⟨kc1, kc2⟩ := HKc.out _ _ HB.out
    have c1 := kc1.trans HC.out.1
    have c2 := kc2.trans HC.out.2
    have HGr := Lib.hid (HKg.out _ _ HB.out HG.out)
    clear kc1 kc2
    by_cases hlt : i ≤ 255
    · have hi255 : (i : Int) ≤ 255 := by omega
      have hi0 : (0 : Int) ≤ (i : Int) := by omega
      have ht32 : t.size ≤ 32 := by rw [HT.out]; exact partK_le _ _ _
      have hin : info.size ≤ 100000 := HS.out.2
      have hR1 := one_byte_at i (by omega) wr wr.heap.size rfl
      have HP : Hid (macB key (t ++ info ++ ⟨#[UInt8.ofNat i]⟩) = partK key info (k + 1)) := Lib.hid (by rw [HT.out, HI.out]; rfl)
      gi_wp2_with fail
      refine ⟨trivial, ?_⟩
      gi_at_call 35
      have hm := mac_any key (t ++ info ++ ⟨#[UInt8.ofNat i]⟩) (wr.alloc (.cells #[.int .u8 i] 5)) (HGr.out.below (B := wr.heap.size) (by go_grown) HGr.out.pos) HS.out.1 (by rw [ByteArray.size_append, ByteArray.size_append, one_size]; omega)
      refine (callsIn_wide.2 hm).mono ?_
      clear hm
      rintro e w1 ⟨rfl, hb1⟩
      rw [HP.out]
      have hB1 : Below wr.heap.size wr w1 := Below.trans (by go_grown) (hb1.mono (by simp))
      clear hb1 hR1
      have HK1 := Lib.hid (HKb.out _ _ (by omega) (by omega) HGr.out hB1)
      obtain ⟨fn, tmps, assign, body, hy, hR⟩ := HY.out _ (partP key info k) w1 (HJb.out _ _ _ HJ.out hB1) (by rw [partsL_len]; have := HI.out; omega)
      have HRR := Lib.hid hR
      clear hR
      unfold partP at hy
      gi_wp2_with fail
      refine HRR.out.mono ?_
      rintro e W3 (⟨rfl, hJ3, hk3⟩ | ⟨rfl, hJx3⟩)
      · rw [partsL_succ] at hJ3
        have HJ3 := Lib.hid hJ3
        have HK3 := Lib.hid (HK.out _ _ _ HB.out (HK.out _ _ _ HK1.out hk3))
        clear hJ3 hk3
        gi_wp2_with fail
        go_roundw
        case rel => exact ⟨k + 1, i + 1, _, rfl, by go_num, Lib.hid (by rw [HI.out]), by have := HI.out; omega, rfl, HJ3, HK3⟩
        case measure => simp [intOf]; omega
      · rw [partsL_succ] at hJx3
        have HJ3 := Lib.hid hJx3
        have HLE : Hid (k + 1 ≤ 255) := Lib.hid (by have := HI.out; omega)
        clear hJx3
        gi_wp2_with fail
        refine bodyPost_ret (results_none rfl _ _ _) rfl ?_
        exact ⟨⟨_, rfl⟩, .inr ⟨_, partsL_prefix key info HLE.out, HJ3⟩⟩
    · obtain rfl : k = 255 := by have := HI.out; omega
      obtain rfl : i = 256 := by have := HI.out; omega
      gi_wp2_with fail
      go_end0
      exact ⟨⟨_, rfl⟩, .inl HJ.out⟩
end Go.Proofs.YtkaaicmadknjcaaDoor
