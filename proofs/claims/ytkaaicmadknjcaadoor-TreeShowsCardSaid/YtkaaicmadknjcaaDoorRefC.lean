/- the references of chapters 1 and 2: Is, All, Join, Pad. -/
import Derived.Test.YtkaaicmadknjcaaDoorRefB
set_option linter.unusedVariables false
namespace Go.Proofs.YtkaaicmadknjcaaDoor
open Go.RowKit
theorem ris_any (x : Int) (w : World) : Calls Tryd.prog 128 #[.int .i64 x] w fun e w' => e = .returned (.bool (isB x)) ∧ w = w' := by
  by_cases h0 : x < 0
  · have hb : isB x = false := by simp [isB]; omega
    rw [hb]
    clear hb
    go_enter Tryd.func128, Tryd.ntmps128
    go_wp2
    go_ret
    exact ⟨rfl, rfl⟩
  · have h1 : 0 ≤ x := by omega
    by_cases h2 : 4294967295 < x
    · have hb : isB x = false := by simp [isB]; omega
      have t : decide (x ≤ 4294967295) = false := by simp; omega
      rw [hb]
      clear hb
      go_enter Tryd.func128, Tryd.ntmps128
      go_wp2
      go_ret
      exact ⟨rfl, rfl⟩
    · have hb : isB x = true := by simp [isB]; omega
      have t : decide (x ≤ 4294967295) = true := by simp; omega
      rw [hb]
      clear hb
      go_enter Tryd.func128, Tryd.ntmps128
      go_wp2
      go_ret
      exact ⟨rfl, rfl⟩
set_option maxHeartbeats 400000 in
theorem rall_any (L : List Int) (A : Option Addr) (n c : Nat) (w : World) (hL : SlR encI 1 w w.heap.size A n L) (hn : n ≤ 140737488355328) (hpos : 0 < n) :
    Calls Tryd.prog 83 #[.slice A n c] w fun e w' => e = .returned (.bool (L.all isB)) ∧ w = w' := by
  obtain ⟨rfl, hA⟩ := hL
  have HEnd : Hid ((L.take L.length).all isB = true → L.all isB = true) := all_end
  have HNo : Hid (∀ (k : Nat) (x : Int), L[k]? = some x → isB x = false → L.all isB = false) := fun k x => all_no
  generalize hv : L.all isB = v at HEnd HNo ⊢
  clear hv
  obtain ⟨b, off, rfl, hb, hC⟩ := hA.resolve_left (by omega)
  have HC := Lib.hid hC
  clear hC hA
  go_enter Tryd.func83, Tryd.ntmps83
  go_wp2
  go_loop [3] (fun i => ∃ k : Nat, k ≤ L.length ∧ i = .int .i64 k ∧ Hid ((L.take k).all isB = true)) (fun i => L.length - (intOf i).toNat)
  case atStart => exact ⟨0, Nat.zero_le _, rfl, rfl⟩
  case round =>
    obtain ⟨k, hk, rfl, HU⟩ := hrel
    by_cases hlt : k < L.length
    · obtain ⟨x, hx⟩ : ∃ x, L[k]? = some x := ⟨L[k], List.getElem?_eq_getElem hlt⟩
      have c0 := HC.out.int hx
      have HX := Lib.hid hx
      clear hx
      go_wp2_with fail
      refine (ris_any x _).mono ?_
      rintro e w1 ⟨rfl, rfl⟩
      obtain ⟨y, hy⟩ : ∃ y, isB x = y := ⟨_, rfl⟩
      have HY := Lib.hid hy
      rw [hy]
      clear hy
      cases y
      · go_wp2_with fail
        go_ret
        exact ⟨ret_bool (HNo.out k x HX.out HY.out).symm, rfl⟩
      · go_wp2_with fail
        go_round
        case rel => exact ⟨k + 1, by omega, by go_num, allTo_succ HX.out HU.out HY.out⟩
        case measure => simp [intOf]; omega
    · obtain rfl : k = L.length := by omega
      go_wp2
      go_ret
      exact ⟨ret_bool (HEnd.out HU.out).symm, rfl⟩
def toldL (L : List Nat) : ByteArray := ⟨(L.flatMap (toldB true)).toArray⟩
theorem toldL_join (L : List Nat) (hw : words L) : toldL L = joinW L true := by
  apply ByteArray.ext
  apply Array.ext'
  rw [joinW_eq L true hw]
  rfl
theorem toldL_snoc {L : List Nat} {k x : Nat} (h : L[k]? = some x) : toldL (L.take k) ++ ⟨(toldB true x).toArray⟩ = toldL (L.take (k + 1)) := by
  apply ByteArray.ext
  rw [ByteArray.data_append, List.take_add_one, h]
  simp [toldL]
theorem toldB_len (x : Nat) : (toldB true x).length = 4 := rfl
set_option maxHeartbeats 400000 in
theorem rjoin_any (L : List Nat) (A : Option Addr) (n c : Nat) (w : World) (hL : SlR encI 1 w w.heap.size A n (ints L)) (hn : n ≤ 1000000) (hw : words L) (hpos : 0 < n) :
    Calls Tryd.prog 93 #[.slice A n c, .bool true] w fun e w' => e = .returned (.tuple #[.string (joinW L true), .bool true]) ∧ Below w.heap.size w w' := by
  have HI := Lib.hid (words_is hw)
  have HJ := Lib.hid (toldL_join L hw)
  have HL := Lib.hid hL
  have HW := Lib.hid hw
  obtain ⟨hl, hA⟩ := hL
  have hl2 : L.length = n := by simpa [ints] using hl
  obtain ⟨b, off, rfl, hb, hC⟩ := hA.resolve_left (by omega)
  have HN := Lib.hid hl2
  have HC := Lib.hid hC
  clear hw hl hl2 hC hA
  go_enter Tryd.func93, Tryd.ntmps93
  go_wp2_with fail
  refine (rall_any (ints L) _ n c w HL.out (by omega) hpos).mono ?_
  rintro e w1 ⟨rfl, rfl⟩
  rw [HI.out]
  go_wp2_with fail
  go_loopw [6, 7] (fun so si wr => ∃ (k : Nat) (o : ByteArray), k ≤ n ∧ so = .string o ∧ si = .int .i64 k ∧ Hid (o = toldL (L.take k)) ∧ o.size ≤ 4 * k ∧ Below w.heap.size w wr) (fun _ si _ => n - (intOf si).toNat)
  case atStart => exact ⟨0, _, Nat.zero_le _, rfl, rfl, rfl, by decide, Below.refl _ _⟩
  case round =>
    obtain ⟨k, o, hk, rfl, rfl, HO, hos, hB⟩ := hrel
    by_cases hlt : k < n
    · obtain ⟨x, hx⟩ : ∃ x, L[k]? = some x := ⟨L[k]'(by rw [HN.out]; exact hlt), List.getElem?_eq_getElem _⟩
      have c0 := (HC.out.below hB hb).int (ints_get hx)
      have hxw := HW.out x (List.mem_of_getElem? hx)
      obtain ⟨t, ht⟩ : ∃ t : ByteArray, ⟨(toldB true x).toArray⟩ = t := ⟨_, rfl⟩
      have hts : t.size = 4 := by rw [← ht]; rfl
      have HS : Hid (o ++ t = toldL (L.take (k + 1))) := Lib.hid (by rw [HO.out, ← ht]; exact toldL_snoc hx)
      have HT := Lib.hid ht
      have hsum : o.size + t.size ≤ 4 * (k + 1) := by omega
      clear hx ht
      go_wp2_with fail
      refine (told_high x _ hxw).mono ?_
      rintro e w1 ⟨rfl, hb1⟩
      rw [HT.out]
      have hB1 := hB.trans (hb1.mono hB.size)
      clear hb1 hts
      go_wp2_with fail
      go_roundw
      case rel => exact ⟨k + 1, _, by omega, rfl, by go_num, HS, by rw [ByteArray.size_append]; exact hsum, hB1⟩
      case measure => simp [intOf]; omega
    · obtain rfl : k = n := by omega
      go_wp2_with fail
      go_ret2
      exact ⟨by rw [← HJ.out, HO.out, ← HN.out, List.take_length]; rfl, hB⟩
end Go.Proofs.YtkaaicmadknjcaaDoor
