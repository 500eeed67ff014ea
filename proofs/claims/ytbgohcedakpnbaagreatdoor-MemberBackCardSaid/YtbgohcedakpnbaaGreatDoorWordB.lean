/- word: And, Rot; digest's add, xor, and, back, fall. -/
import Derived.Test.YtbgohcedakpnbaaGreatDoorWordA
set_option linter.unusedVariables false
namespace Go.Proofs.YtbgohcedakpnbaaGreatDoor
open Go.RowKit
/-- x with its digits s places higher up, those that fall out coming in below -/
def rotl (x s : Nat) : Nat := (x * 2 ^ s % 4294967296) ||| (x / 2 ^ (32 - s))
theorem rotl_lt {x s : Nat} (hx : x < 4294967296) : rotl x s < 4294967296 := by
  unfold rotl
  have h1 : x * 2 ^ s % 4294967296 < 2 ^ 32 := Nat.mod_lt _ (by decide)
  have h2 : x / 2 ^ (32 - s) < 2 ^ 32 := Nat.lt_of_le_of_lt (Nat.div_le_self _ _) hx
  exact Nat.or_lt_two_pow h1 h2
theorem rotl_bits (x k : Nat) (hx : x < 4294967296) : bits .or .u32 ((x : Int) * 2 ^ k % 4294967296) ((x : Int) / 2 ^ (32 - k)) = (rotl x k : Nat) := by
  have h1 : x * 2 ^ k % 4294967296 < 4294967296 := Nat.mod_lt _ (by decide)
  have h2 : x / 2 ^ (32 - k) < 4294967296 := Nat.lt_of_le_of_lt (Nat.div_le_self _ _) hx
  have := u32_or_nat (x * 2 ^ k % 4294967296) (x / 2 ^ (32 - k)) h1 h2
  simpa [rotl] using this
set_option maxHeartbeats 400000 in
theorem rotate_any (x k : Nat) (w : World) (hx : x < 4294967296) (hk : k < 32) :
    Calls Tryz.prog 106 #[.int .u32 x, .int .i64 k] w fun e w' => e = .returned (.int .u32 (rotl x k : Nat)) ∧ w = w' := by
  have hm : bits .and .u64 (k : Int) 31 = (k : Int) := by
    have := u64_and_nat k 31 (by omega) (by omega)
    rw [show ((31 : Nat) : Int) = 31 from rfl] at this
    rw [this, nat_mask5, Nat.mod_eq_of_lt hk]
  go_enter Tryz.func106, Tryz.ntmps106
  go_wp2
  go_ret
  exact ⟨ret_int (rotl_bits x k hx), rfl⟩
set_option maxHeartbeats 400000 in
theorem wrot_any (x k : Nat) (w : World) (hx : x < 4294967296) (hk : k < 32) :
    Calls Tryz.prog 99 #[.int .i64 x, .int .i64 k] w fun e w' => e = .returned (.tuple #[.int .i64 (rotl x k : Nat), .bool true]) ∧ w.alloc (.cells #[.int .i64 x] 3) = w' := by
  have HI := Lib.hid (words_is (L := [x]) (by intro n hn; simp at hn; omega))
  have hr := rotl_lt (s := k) hx
  generalize hrr : rotl x k = r at hr ⊢
  have HRR := Lib.hid hrr
  clear hrr
  go_enter Tryz.func99, Tryz.ntmps99
  go_wp2_with fail
  refine (is_any (ints [x]) _ 1 1 _ (slr_new1 w x) (by omega)).mono ?_
  rintro e w1 ⟨rfl, rfl⟩
  rw [HI.out]
  go_wp2_with fail
  refine (rotate_any x k _ hx hk).mono ?_
  rintro e w2 ⟨rfl, rfl⟩
  rw [HRR.out]
  go_wp2_with fail
  go_ret2
  exact ⟨rfl, rfl⟩
def xorW (L : List Nat) : Nat := L.foldl (fun s x => s ^^^ x) 0
theorem xorW_snoc {L : List Nat} {k x : Nat} (h : L[k]? = some x) : xorW (L.take (k + 1)) = xorW (L.take k) ^^^ x := by
  unfold xorW
  have : L.take (k + 1) = L.take k ++ [x] := by rw [List.take_add_one, h]; rfl
  rw [this, List.foldl_append]; rfl
theorem xorW_lt {L : List Nat} (h : words L) : xorW L < 4294967296 := by
  unfold xorW
  have : ∀ (M : List Nat) (a : Nat), a < 4294967296 → words M → M.foldl (fun s x => s ^^^ x) a < 4294967296 := by
    intro M
    induction M with
    | nil => intro a ha _; exact ha
    | cons x M ih =>
      intro a ha hM
      refine ih _ (Nat.xor_lt_two_pow (n := 32) ha (hM x (by simp))) (fun n hn => hM n (by simp [hn]))
  exact this L 0 (by decide) h
theorem words_take {L : List Nat} (h : words L) (k : Nat) : words (L.take k) := fun n hn => h n (List.mem_of_mem_take hn)
end Go.Proofs.YtbgohcedakpnbaaGreatDoor
