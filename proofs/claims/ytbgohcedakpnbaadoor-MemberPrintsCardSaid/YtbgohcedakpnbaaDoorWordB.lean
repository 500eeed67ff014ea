/- word: And, Rot; digest's add, xor, and, back, fall. -/
import Derived.Test.YtbgohcedakpnbaaDoorWordA
set_option linter.unusedVariables false
namespace Go.Proofs.YtbgohcedakpnbaaDoor
open Go.RowKit
set_option maxHeartbeats 400000 in
theorem wand_any (a b : Nat) (w : World) (ha : a < 4294967296) (hb : b < 4294967296) :
    Calls Tryd.prog 153 #[.int .i64 a, .int .i64 b] w fun e w' => e = .returned (.tuple #[.int .i64 (a &&& b : Nat), .bool true]) ∧ w.alloc (.cells #[.int .i64 a, .int .i64 b] 3) = w' := by
  have hx := i64_and_nat a b (by omega) (by omega)
  have HI := Lib.hid (words_is (L := [a, b]) (by intro n hn; simp at hn; omega))
  go_enter Tryd.func153, Tryd.ntmps153
  go_wp2_with fail
  refine (is_any (ints [a, b]) _ 2 2 _ (slr_new2 w a b) (by omega)).mono ?_
  rintro e w1 ⟨rfl, rfl⟩
  rw [HI.out]
  go_wp2_with fail
  go_ret2
  exact ⟨rfl, rfl⟩
/-- x with its digits s places higher up, those that fall out coming in below -/
def rotl (x s : Nat) : Nat := (x * 2 ^ s % 4294967296) ||| (x / 2 ^ (32 - s))
theorem rotl_lt {x s : Nat} (hx : x < 4294967296) : rotl x s < 4294967296 := by
  unfold rotl
  have h1 : x * 2 ^ s % 4294967296 < 2 ^ 32 := Nat.mod_lt _ (by decide)
  have h2 : x / 2 ^ (32 - s) < 2 ^ 32 := Nat.lt_of_le_of_lt (Nat.div_le_self _ _) hx
  exact Nat.or_lt_two_pow h1 h2
theorem rotl_bits (x k : Nat) (hx : x < 4294967296) : bits .or .u32 ((x : Int) * 2 ^ k % 4294967296) ((x : Int) / 2 ^ (32 - k)) = (rotl x k : Nat) := by
  have h1 : x * 2 ^ k % 4294967296 < 4294967296 := Nat.mod_lt _ (by decide)
  have h2 : x / 2 ^ (32 - k) < 4294967296 := Nat.lt_of_le_of_lt (Nat.div_le_self _ _) hx
  have := u32_or_nat (x * 2 ^ k % 4294967296) (x / 2 ^ (32 - k)) h1 h2
  simpa [rotl] using this
set_option maxHeartbeats 400000 in
theorem rotate_any (x k : Nat) (w : World) (hx : x < 4294967296) (hk : k < 32) :
    Calls Tryd.prog 154 #[.int .u32 x, .int .i64 k] w fun e w' => e = .returned (.int .u32 (rotl x k : Nat)) ∧ w = w' := by
  have hm : bits .and .u64 (k : Int) 31 = (k : Int) := by
    have := u64_and_nat k 31 (by omega) (by omega)
    rw [show ((31 : Nat) : Int) = 31 from rfl] at this
    rw [this, nat_mask5, Nat.mod_eq_of_lt hk]
  go_enter Tryd.func154, Tryd.ntmps154
  go_wp2
  go_ret
  exact ⟨ret_int (rotl_bits x k hx), rfl⟩
set_option maxHeartbeats 400000 in
theorem wrot_any (x k : Nat) (w : World) (hx : x < 4294967296) (hk : k < 32) :
    Calls Tryd.prog 145 #[.int .i64 x, .int .i64 k] w fun e w' => e = .returned (.tuple #[.int .i64 (rotl x k : Nat), .bool true]) ∧ w.alloc (.cells #[.int .i64 x] 3) = w' := by
  have HI := Lib.hid (words_is (L := [x]) (by intro n hn; simp at hn; omega))
  have hr := rotl_lt (s := k) hx
  generalize hrr : rotl x k = r at hr ⊢
  have HRR := Lib.hid hrr
  clear hrr
  go_enter Tryd.func145, Tryd.ntmps145
  go_wp2_with fail
  refine (is_any (ints [x]) _ 1 1 _ (slr_new1 w x) (by omega)).mono ?_
  rintro e w1 ⟨rfl, rfl⟩
  rw [HI.out]
  go_wp2_with fail
  refine (rotate_any x k _ hx hk).mono ?_
  rintro e w2 ⟨rfl, rfl⟩
  rw [HRR.out]
  go_wp2_with fail
  go_ret2
  exact ⟨rfl, rfl⟩
set_option maxHeartbeats 400000 in
theorem dadd_any (L : List Nat) (A : Option Addr) (n c : Nat) (w : World) (hL : SlR encI 1 w w.heap.size A n (ints L)) (hn : n ≤ 140737488355328) (hw : words L) :
    Calls Tryd.prog 140 #[.slice A n c] w fun e w' => e = .returned (.int .i64 (sumW L : Nat)) ∧ w = w' := by
  go_enter Tryd.func140, Tryd.ntmps140
  go_wp2_with fail
  refine (wadd_any L A n c w hL hn hw).mono ?_
  rintro e w1 ⟨rfl, rfl⟩
  go_wp2_with fail
  go_ret
  exact ⟨rfl, rfl⟩
set_option maxHeartbeats 400000 in
theorem dand_any (a b : Nat) (w : World) (ha : a < 4294967296) (hb : b < 4294967296) :
    Calls Tryd.prog 143 #[.int .i64 a, .int .i64 b] w fun e w' => e = .returned (.int .i64 (a &&& b : Nat)) ∧ w.alloc (.cells #[.int .i64 a, .int .i64 b] 3) = w' := by
  go_enter Tryd.func143, Tryd.ntmps143
  go_wp2_with fail
  refine (wand_any a b w ha hb).mono ?_
  rintro e w1 ⟨rfl, rfl⟩
  go_wp2_with fail
  go_ret
  exact ⟨rfl, rfl⟩
set_option maxHeartbeats 400000 in
theorem dback_any (x k : Nat) (w : World) (hx : x < 4294967296) (hk : 1 ≤ k) (hk2 : k ≤ 32) :
    Calls Tryd.prog 142 #[.int .i64 x, .int .i64 k] w fun e w' => e = .returned (.int .i64 (rotl x (32 - k) : Nat)) ∧ w.alloc (.cells #[.int .i64 x] 3) = w' := by
  have hc : (32 : Int) - (k : Int) = ((32 - k : Nat) : Int) := by omega
  have HC := Lib.hid hc
  clear hc
  go_enter Tryd.func142, Tryd.ntmps142
  go_wp2_with fail
  rw [HC.out]
  refine (wrot_any x (32 - k) w hx (by omega)).mono ?_
  rintro e w1 ⟨rfl, rfl⟩
  go_wp2_with fail
  go_ret
  exact ⟨rfl, rfl⟩
theorem dfall_any (x k : Nat) (w : World) (hx : x < 4294967296) (hk : k ≤ 32) :
    Calls Tryd.prog 152 #[.int .i64 x, .int .i64 k] w fun e w' => e = .returned (.int .i64 (x / 2 ^ k : Nat)) ∧ w = w' := by
  go_enter Tryd.func152, Tryd.ntmps152
  go_wp2
  go_ret
  exact ⟨ret_int (by simp), rfl⟩
def xorW (L : List Nat) : Nat := L.foldl (fun s x => s ^^^ x) 0
theorem xorW_snoc {L : List Nat} {k x : Nat} (h : L[k]? = some x) : xorW (L.take (k + 1)) = xorW (L.take k) ^^^ x := by
  unfold xorW
  have : L.take (k + 1) = L.take k ++ [x] := by rw [List.take_add_one, h]; rfl
  rw [this, List.foldl_append]; rfl
theorem xorW_lt {L : List Nat} (h : words L) : xorW L < 4294967296 := by
  unfold xorW
  have : ∀ (M : List Nat) (a : Nat), a < 4294967296 → words M → M.foldl (fun s x => s ^^^ x) a < 4294967296 := by
    intro M
    induction M with
    | nil => intro a ha _; exact ha
    | cons x M ih =>
      intro a ha hM
      refine ih _ (Nat.xor_lt_two_pow (n := 32) ha (hM x (by simp))) (fun n hn => hM n (by simp [hn]))
  exact this L 0 (by decide) h
theorem words_take {L : List Nat} (h : words L) (k : Nat) : words (L.take k) := fun n hn => h n (List.mem_of_mem_take hn)
set_option maxHeartbeats 400000 in
theorem dxor_any (L : List Nat) (A : Option Addr) (n c : Nat) (w : World) (hL : SlR encI 1 w w.heap.size A n (ints L)) (hn : n ≤ 140737488355328) (hw : words L) (h0 : 0 < n) :
    Calls Tryd.prog 141 #[.slice A n c] w fun e w' => e = .returned (.int .i64 (xorW L : Nat)) ∧ Below w.heap.size w w' := by
  obtain ⟨hl, hA⟩ := hL
  have hl2 : L.length = n := by simpa [ints] using hl
  have HN := Lib.hid hl2
  have HW := Lib.hid hw
  obtain ⟨b, off, rfl, hb, hC⟩ := hA.resolve_left (by omega)
  have HC := Lib.hid hC
  clear hw hl hl2 hC hA
  go_enter Tryd.func141, Tryd.ntmps141
  go_wp2_with fail
  go_loopw [3, 8] (fun s i wr => ∃ k : Nat, k ≤ n ∧ i = .int .i64 k ∧ s = .int .i64 (xorW (L.take k) : Nat) ∧ Below w.heap.size w wr) (fun _ i _ => n - (intOf i).toNat)
  case atStart => exact ⟨0, Nat.zero_le _, rfl, rfl, Below.refl _ _⟩
  case round =>
    obtain ⟨k, hk, rfl, rfl, hB⟩ := hrel
    by_cases hlt : k < n
    · obtain ⟨x, hx⟩ : ∃ x, L[k]? = some x := ⟨L[k]'(by rw [HN.out]; exact hlt), List.getElem?_eq_getElem _⟩
      have c0 := (HC.out.below hB hb).int (ints_get hx)
      have hxw := HW.out x (List.mem_of_getElem? hx)
      have HS := Lib.hid (xorW_snoc hx)
      have hs := xorW_lt (words_take HW.out k)
      generalize xorW (L.take k) = s at HS hs ⊢
      clear hx
      go_wp2_with fail
      refine (wxor_any s x _ hs hxw).mono ?_
      rintro e w1 ⟨rfl, rfl⟩
      generalize hq : s ^^^ x = q at HS ⊢
      have HQ := Lib.hid hq
      have hql : q < 4294967296 := by rw [← hq]; exact Nat.xor_lt_two_pow (n := 32) hs hxw
      clear hq
      go_wp2_with fail
      go_roundw
      case rel => exact ⟨k + 1, by omega, by go_num, by rw [HS.out], by have := hB.size; go_grown⟩
      case measure => simp [intOf]; omega
    · obtain rfl : k = n := by omega
      go_wp2_with fail
      go_ret
      exact ⟨by rw [← HN.out, List.take_length]; rfl, hB⟩
end Go.Proofs.YtbgohcedakpnbaaDoor
