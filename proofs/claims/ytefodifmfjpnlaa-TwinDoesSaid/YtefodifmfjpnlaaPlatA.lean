/- platter: sectors, texts that wait; has and Check. -/
import Derived.Test.YtefodifmfjpnlaaMem
set_option linter.unusedVariables false
namespace Go.Proofs.Ytefodifmfjpnlaa
open Go.RowKit
structure PPut where
  pos : Int
  text : ByteArray
structure Plat where
  sectors : List ByteArray
  cache : List PPut
def encS (s : ByteArray) : List Value := [.string s]
def encP (p : PPut) : List Value := [.int .i64 p.pos, .string p.text]
theorem encS_len (s : ByteArray) : (encS s).length = 1 := rfl
theorem encP_len (s : PPut) : (encP s).length = 2 := rfl
theorem SlC.str {w : World} {b off : Nat} {L : List ByteArray} (h : SlC encS 1 w b off L) {k : Nat} {s : ByteArray} (hl : L[k]? = some s) :
    w.cell? ⟨b, off + k, none⟩ = some (.string s) := by have := h k s hl 0 _ rfl; simpa using this
theorem SlC.put {w : World} {b off : Nat} {L : List PPut} (h : SlC encP 2 w b off L) {k : Nat} {s : PPut} (hl : L[k]? = some s) :
    w.cell? ⟨b, off + k * 2, none⟩ = some (.int .i64 s.pos) ∧ w.cell? ⟨b, off + k * 2 + 1, none⟩ = some (.string s.text) := ⟨h k s hl 0 _ rfl, h k s hl 1 _ rfl⟩
def longB (s : ByteArray) : Bool := decide (128 < s.size)
def hasB (n : Nat) (i : Int) : Bool := decide (0 ≤ i) && decide (i < n)
def putB (n : Nat) (p : PPut) : Bool := !longB p.text && hasB n p.pos
def checkP (p : Plat) : Bool := decide (1 ≤ p.sectors.length) && (decide (p.sectors.length ≤ 200) && (decide (p.cache.length ≤ 100) && (!p.sectors.any longB && p.cache.all (putB p.sectors.length))))

theorem long_any (s : ByteArray) (w : World) : Calls Try.prog 38 #[.string s] w fun e w' => e = .returned (.bool (longB s)) ∧ w = w' := by
  go_enter Try.func38, Try.ntmps38
  go_wp2
  go_ret
  exact ⟨ret_bool (by simp [longB]; omega), rfl⟩

theorem has_any (p : Plat) (n m : Nat) (A B : Option Addr) (c d : Nat) (i : Int) (w : World) (hn : p.sectors.length = n) :
    Calls Try.prog 36 #[.agg #[.slice A n c, .slice B m d], .int .i64 i] w fun e w' => e = .returned (.bool (hasB p.sectors.length i)) ∧ Below w.heap.size w w' := by
  rw [hn]
  by_cases h0 : 0 ≤ i
  · go_enter Try.func36, Try.ntmps36
    go_wp2
    go_ret
    exact ⟨ret_bool (by simp [hasB, h0]), by go_grown⟩
  · go_enter Try.func36, Try.ntmps36
    go_wp2
    go_ret
    exact ⟨ret_bool (by simp [hasB]; omega), by go_grown⟩

def IdxOf (b : Bool) (w : World) (e : Ending) (w' : World) : Prop := ∃ k : Int, e = .returned (.int .i64 k) ∧ decide (0 ≤ k) = b ∧ w = w'
theorem any_long_no (L : List ByteArray) (h : (L.take L.length).any longB = false) : L.any longB = false := by rwa [List.take_length] at h
theorem any_long_yes {L : List ByteArray} {k : Nat} {s : ByteArray} (h : L[k]? = some s) (hl : longB s = true) : L.any longB = true := by
  rw [List.any_eq_true]; exact ⟨s, List.mem_of_getElem? h, hl⟩
theorem any_long_succ {L : List ByteArray} {k : Nat} {s : ByteArray} (h : L[k]? = some s) (hu : (L.take k).any longB = false) (hl : longB s = false) : (L.take (k + 1)).any longB = false := by
  obtain ⟨hk, he⟩ := List.getElem?_eq_some_iff.1 h
  rw [List.take_succ_eq_append_getElem hk, List.any_append, hu, he]; simp [hl]

set_option maxHeartbeats 400000 in
theorem index_long (L : List ByteArray) (A : Option Addr) (n c : Nat) (w : World) (hS : SlR encS 1 w w.heap.size A n L) (hn : n ≤ 140737488355328) :
    Calls Try.prog 54 #[.slice A n c, .func (.func 38) #[] #[]] w (IdxOf (L.any longB) w) := by
  obtain ⟨rfl, hA⟩ := hS
  rcases hA with h0 | ⟨b, off, rfl, hb, hC⟩
  · obtain rfl : L = [] := List.eq_nil_of_length_eq_zero h0
    go_enter Try.func54, Try.ntmps54
    go_wp2
    go_rounds 1
    go_ret
    exact ⟨-1, rfl, rfl, rfl⟩
  · have HC := Lib.hid hC
    clear hC
    go_enter Try.func54, Try.ntmps54
    go_wp2
    go_loop [8] (fun i => ∃ k : Nat, k ≤ L.length ∧ i = .int .i64 k ∧ Hid ((L.take k).any longB = false)) (fun i => L.length - (intOf i).toNat)
    case atStart => exact ⟨0, Nat.zero_le _, rfl, rfl⟩
    case round =>
      obtain ⟨k, hk, rfl, HU⟩ := hrel
      by_cases hlt : k < L.length
      · obtain ⟨s, hs⟩ : ∃ x, L[k]? = some x := ⟨L[k], List.getElem?_eq_getElem hlt⟩
        have c0 := HC.out.str hs
        have HX := Lib.hid hs
        clear hs
        go_wp2_with (go_at_call 38; refine (long_any _ _).mono ?_; rintro e w' ⟨rfl, rfl⟩)
        · go_ret
          exact ⟨k, rfl, by rw [any_long_yes HX.out (by assumption)]; simp, rfl⟩
        · go_round
          case rel => exact ⟨k + 1, by omega, by go_num, any_long_succ HX.out HU.out (by assumption)⟩
          case measure => simp [intOf]; omega
      · obtain rfl : k = L.length := by omega
        go_wp2
        go_ret
        exact ⟨-1, rfl, by rw [any_long_no _ HU.out]; simp, rfl⟩

theorem contains_long (L : List ByteArray) (A : Option Addr) (n c : Nat) (w : World) (hS : SlR encS 1 w w.heap.size A n L) (hn : n ≤ 140737488355328) :
    Calls Try.prog 39 #[.slice A n c, .func (.func 38) #[] #[]] w fun e w' => e = .returned (.bool (L.any longB)) ∧ w = w' := by
  go_enter Try.func39, Try.ntmps39
  go_wp2_with fail
  refine (index_long L A n c w hS hn).mono ?_
  rintro e w' ⟨k, rfl, hk, rfl⟩
  have HK := Lib.hid hk
  clear hk
  go_wp2_with fail
  go_ret
  exact ⟨ret_bool (by rw [← HK.out]), rfl⟩
end Go.Proofs.Ytefodifmfjpnlaa
