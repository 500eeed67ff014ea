/- word: Is, Add, Xor, And, Rot. -/
import Derived.Test.YtbgohcedakpnbaaDoorInts
import Derived.Test.YtbgohcedakpnbaaDoorBits
import Derived.Test.YtbgohcedakpnbaaDoorMem
set_option linter.unusedVariables false
namespace Go.Proofs.YtbgohcedakpnbaaDoor
open Go.RowKit
def isB (x : Int) : Bool := decide (0 ≤ x) && decide (x ≤ 4294967295)
theorem isB_iff (x : Int) : isB x = true ↔ 0 ≤ x ∧ x ≤ 4294967295 := by simp [isB]
section
variable {α : Type} {f : α → Bool} {L : List α} {k : Nat} {x : α}
theorem allTo_succ (h : L[k]? = some x) (hu : (L.take k).all f = true) (hl : f x = true) : (L.take (k + 1)).all f = true := by
  obtain ⟨hk, he⟩ := List.getElem?_eq_some_iff.1 h
  rw [List.take_succ_eq_append_getElem hk, List.all_append, hu, he]; simp [hl]
theorem all_no (h : L[k]? = some x) (hl : f x = false) : L.all f = false := by rw [List.all_eq_false]; exact ⟨x, List.mem_of_getElem? h, by simp [hl]⟩
theorem all_end (h : (L.take L.length).all f = true) : L.all f = true := by rwa [List.take_length] at h
end
set_option maxHeartbeats 400000 in
theorem is_any (L : List Int) (A : Option Addr) (n c : Nat) (w : World) (hL : SlR encI 1 w w.heap.size A n L) (hn : n ≤ 140737488355328) :
    Calls Tryd.prog 83 #[.slice A n c] w fun e w' => e = .returned (.bool (L.all isB)) ∧ w = w' := by
  obtain ⟨rfl, hA⟩ := hL
  have HEnd : Hid ((L.take L.length).all isB = true → L.all isB = true) := all_end
  have HNo : Hid (∀ (k : Nat) (x : Int), L[k]? = some x → isB x = false → L.all isB = false) := fun k x => all_no
  generalize hv : L.all isB = v at HEnd HNo ⊢
  clear hv
  rcases hA with h0 | ⟨b, off, rfl, hb, hC⟩
  · have hL0 : L = [] := List.eq_nil_of_length_eq_zero h0
    subst hL0
    go_enter Tryd.func83, Tryd.ntmps83
    go_wp2
    go_rounds 1
    go_ret
    exact ⟨ret_bool (HEnd.out rfl).symm, rfl⟩
  · have HC := Lib.hid hC
    clear hC
    go_enter Tryd.func83, Tryd.ntmps83
    go_wp2
    go_loop [7] (fun i => ∃ k : Nat, k ≤ L.length ∧ i = .int .i64 k ∧ Hid ((L.take k).all isB = true)) (fun i => L.length - (intOf i).toNat)
    case atStart => exact ⟨0, Nat.zero_le _, rfl, rfl⟩
    case round =>
      obtain ⟨k, hk, rfl, HU⟩ := hrel
      by_cases hlt : k < L.length
      · obtain ⟨x, hx⟩ : ∃ x, L[k]? = some x := ⟨L[k], List.getElem?_eq_getElem hlt⟩
        have c0 := HC.out.int hx
        have HX := Lib.hid hx
        clear hx
        by_cases h0 : x < 0
        · go_wp2
          go_ret
          exact ⟨ret_bool (HNo.out k x HX.out (by simp [isB]; omega)).symm, rfl⟩
        · by_cases h1 : 4294967295 < x
          · go_wp2
            go_ret
            exact ⟨ret_bool (HNo.out k x HX.out (by simp [isB]; omega)).symm, rfl⟩
          · go_wp2
            go_round
            case rel => exact ⟨k + 1, by omega, by go_num, allTo_succ HX.out HU.out (by simp [isB]; omega)⟩
            case measure => simp [intOf]; omega
      · obtain rfl : k = L.length := by omega
        go_wp2
        go_ret
        exact ⟨ret_bool (HEnd.out HU.out).symm, rfl⟩
/-- words, as numbers -/
def words (L : List Nat) : Prop := ∀ n ∈ L, n < 4294967296
theorem words_is {L : List Nat} (h : words L) : (ints L).all isB = true := by
  rw [List.all_eq_true]
  intro x hx
  obtain ⟨n, hn, rfl⟩ := List.mem_map.1 hx
  have := h n hn
  simp [isB]; omega
/-- a new row of numbers, as a slice -/
theorem slr_new (w : World) (L : List Nat) {W : World} {g B : Nat} (hW : Blk W g 3 ((ints L).map (fun x => Value.int .i64 x)).toArray) (hB : g < B) : SlR encI 1 W B (some ⟨g, 0, none⟩) L.length (ints L) := by
  refine SlR.ofC (by simp [ints]) hB ?_
  intro k x hx j v hv
  have hj : j = 0 := by
    have := (List.getElem?_eq_some_iff.1 hv).1
    simp [encI] at this; omega
  subst hj
  simp [encI] at hv
  subst hv
  have := hW.cell k
  rw [Nat.mul_one, Nat.zero_add, Nat.add_zero, this]
  simp [hx]
theorem slr_new2 (w : World) (a b : Nat) : SlR encI 1 (w.alloc (.cells #[.int .i64 a, .int .i64 b] 3)) (w.alloc (.cells #[.int .i64 a, .int .i64 b] 3)).heap.size (some ⟨w.heap.size, 0, none⟩) 2 (ints [a, b]) := slr_new w [a, b] (Blk.new w _ _) (by simp)
theorem slr_new1 (w : World) (a : Nat) : SlR encI 1 (w.alloc (.cells #[.int .i64 a] 3)) (w.alloc (.cells #[.int .i64 a] 3)).heap.size (some ⟨w.heap.size, 0, none⟩) 1 (ints [a]) := slr_new w [a] (Blk.new w _ _) (by simp)
def sumW (L : List Nat) : Nat := L.foldl (fun s x => (s + x) % 4294967296) 0
theorem sumW_snoc {L : List Nat} {k x : Nat} (h : L[k]? = some x) : sumW (L.take (k + 1)) = (sumW (L.take k) + x) % 4294967296 := by
  unfold sumW
  have : L.take (k + 1) = L.take k ++ [x] := by rw [List.take_add_one, h]; rfl
  rw [this, List.foldl_append]; rfl
theorem sumW_lt (L : List Nat) : sumW L < 4294967296 := by
  unfold sumW
  rcases List.eq_nil_or_concat L with rfl | ⟨M, x, rfl⟩
  · decide
  · rw [List.concat_eq_append, List.foldl_append]
    exact Nat.mod_lt _ (by decide)
set_option maxHeartbeats 400000 in
theorem wadd_any (L : List Nat) (A : Option Addr) (n c : Nat) (w : World) (hL : SlR encI 1 w w.heap.size A n (ints L)) (hn : n ≤ 140737488355328) (hw : words L) :
    Calls Tryd.prog 100 #[.slice A n c] w fun e w' => e = .returned (.tuple #[.int .i64 (sumW L : Nat), .bool true]) ∧ w = w' := by
  have HI := Lib.hid (words_is hw)
  have HL := Lib.hid hL
  have HW := Lib.hid hw
  obtain ⟨hl, hA⟩ := hL
  have hl2 : L.length = n := by simpa [ints] using hl
  have HN := Lib.hid hl2
  clear hw hl hl2
  go_enter Tryd.func100, Tryd.ntmps100
  go_wp2_with fail
  refine (is_any (ints L) A n c w HL.out hn).mono ?_
  rintro e w1 ⟨rfl, rfl⟩
  rw [HI.out]
  rcases hA with h0 | ⟨b, off, rfl, hb, hC⟩
  · subst h0
    have hL0 : L = [] := List.eq_nil_of_length_eq_zero HN.out
    clear HL HI HW
    subst hL0
    go_wp2_with fail
    go_rounds 1
    go_ret2
    exact ⟨rfl, rfl⟩
  · have HC := Lib.hid hC
    clear hC
    go_wp2_with fail
    go_loop [4, 12] (fun s i => ∃ k : Nat, k ≤ n ∧ i = .int .i64 k ∧ s = .int .i64 (sumW (L.take k) : Nat)) (fun _ i => n - (intOf i).toNat)
    case atStart => exact ⟨0, Nat.zero_le _, rfl, rfl⟩
    case round =>
      obtain ⟨k, hk, rfl, rfl⟩ := hrel
      by_cases hlt : k < n
      · obtain ⟨x, hx⟩ : ∃ x, L[k]? = some x := ⟨L[k]'(by rw [HN.out]; exact hlt), List.getElem?_eq_getElem _⟩
        have c0 := HC.out.int (ints_get hx)
        have hxw := HW.out x (List.mem_of_getElem? hx)
        have HS := Lib.hid (sumW_snoc hx)
        have hs := sumW_lt (L.take k)
        generalize sumW (L.take k) = s at HS hs ⊢
        have hm : bits .and .i64 ((s : Int) + (x : Int)) 4294967295 = (((s + x) % 4294967296 : Nat) : Int) := by
          rw [← i64_mask32 (s + x) (by omega)]; rfl
        clear hx
        go_wp2_with fail
        go_round
        case rel => exact ⟨k + 1, by omega, by go_num, by rw [HS.out]; exact congrArg (Value.int .i64) (by omega)⟩
        case measure => simp [intOf]; omega
      · obtain rfl : k = n := by omega
        go_wp2_with fail
        go_ret2
        exact ⟨by rw [← HN.out, List.take_length]; rfl, rfl⟩
set_option maxHeartbeats 400000 in
theorem wxor_any (a b : Nat) (w : World) (ha : a < 4294967296) (hb : b < 4294967296) :
    Calls Tryd.prog 144 #[.int .i64 a, .int .i64 b] w fun e w' => e = .returned (.tuple #[.int .i64 (a ^^^ b : Nat), .bool true]) ∧ w.alloc (.cells #[.int .i64 a, .int .i64 b] 3) = w' := by
  have hx := i64_xor_nat a b (by omega) (by omega)
  have HI := Lib.hid (words_is (L := [a, b]) (by intro n hn; simp at hn; omega))
  go_enter Tryd.func144, Tryd.ntmps144
  go_wp2_with fail
  refine (is_any (ints [a, b]) _ 2 2 _ (slr_new2 w a b) (by omega)).mono ?_
  rintro e w1 ⟨rfl, rfl⟩
  rw [HI.out]
  go_wp2_with fail
  go_ret2
  exact ⟨rfl, rfl⟩
end Go.Proofs.YtbgohcedakpnbaaDoor
