/- platter: Big, and the laws' far. -/
import Derived.Test.YtefodifmfjpnlaaPlatM
set_option linter.unusedVariables false
namespace Go.Proofs.Ytefodifmfjpnlaa
open Go.RowKit
def l300 (s : ByteArray) : Bool := decide (300 < s.size)
def bigP (p : Plat) : Bool := decide (300 < p.sectors.length) || (decide (200 < p.cache.length) || (p.sectors.any l300 || p.cache.any fun x => l300 x.text))
section
variable {α : Type} {f : α → Bool} {L : List α} {k : Nat} {x : α}
theorem anyTo_succ (h : L[k]? = some x) (hu : (L.take k).any f = false) (hl : f x = false) : (L.take (k + 1)).any f = false := by
  obtain ⟨hk, he⟩ := List.getElem?_eq_some_iff.1 h
  rw [List.take_succ_eq_append_getElem hk, List.any_append, hu, he]; simp [hl]
theorem any_yes (h : L[k]? = some x) (hl : f x = true) : L.any f = true := by rw [List.any_eq_true]; exact ⟨x, List.mem_of_getElem? h, hl⟩
theorem any_end (h : (L.take L.length).any f = false) : L.any f = false := by rwa [List.take_length] at h
end

set_option maxHeartbeats 1000000 in
theorem bigP_any (p : Plat) (A A' : Option Addr) (n m c d : Nat) (w : World) (hP : PlatAt w w.heap.size A n A' m p) :
    Calls Try.prog 30 #[.agg #[.slice A n c, .slice A' m d]] w fun e w' => e = .returned (.bool (bigP p)) ∧ Below w.heap.size w w' := by
  obtain ⟨⟨hl, hA⟩, ⟨hl', hA'⟩⟩ := hP
  by_cases h1 : 300 < n
  · have e1 : bigP p = true := by simp [bigP, hl, h1]
    rw [e1]
    clear hl hl' hA hA' e1
    go_enter Try.func30, Try.ntmps30
    go_wp2
    go_ret
    exact ⟨rfl, by go_grown⟩
  · by_cases h2 : 200 < m
    · have e1 : bigP p = true := by simp [bigP, hl', h2]
      rw [e1]
      clear hl hl' hA hA' e1
      go_enter Try.func30, Try.ntmps30
      go_wp2
      go_ret
      exact ⟨rfl, by go_grown⟩
    · have HEnd : Hid (p.sectors.any l300 = false → (p.cache.any fun x => l300 x.text) = false → bigP p = false) := by
        intro a b
        simp [bigP, a, b, hl, hl']; omega
      have HNo1 : Hid (p.sectors.any l300 = true → bigP p = true) := fun a => by simp [bigP, a]
      have HNo2 : Hid ((p.cache.any fun x => l300 x.text) = true → bigP p = true) := fun a => by simp [bigP, a]
      generalize hv : bigP p = v at HEnd HNo1 HNo2 ⊢
      have HL := Lib.hid (And.intro hl hl')
      have HA := Lib.hid hA
      have HA' := Lib.hid hA'
      clear hv hl hl' hA hA'
      have hn : n ≤ 300 := by omega
      have hm : m ≤ 200 := by omega
      clear h1 h2
      go_enter Try.func30, Try.ntmps30
      go_wp2
      go_loopw [3] (fun i wr => ∃ k : Nat, k ≤ n ∧ i = .int .i64 k ∧ Hid ((p.sectors.take k).any l300 = false) ∧ Below w.heap.size w wr ∧ Hid (Blk wr w.heap.size 25 #[.slice A n c, .slice A' m d])) (fun i _ => n - (intOf i).toNat)
      case atStart => exact ⟨0, Nat.zero_le _, rfl, rfl, by go_grown, Blk.new _ _ _⟩
      case round =>
        obtain ⟨k, hk, rfl, HU, hB, HBX⟩ := hrel
        have q0 := HBX.out.cells 0 _ rfl
        have q1 := HBX.out.cells 1 _ rfl
        simp only [List.getElem_toArray, List.getElem_cons_zero, List.getElem_cons_succ] at q0 q1
        by_cases hlt : k < n
        · obtain ⟨x, hx⟩ : ∃ x, p.sectors[k]? = some x := ⟨p.sectors[k]'(by rw [HL.out.1]; exact hlt), List.getElem?_eq_getElem _⟩
          rcases HA.out with h0 | ⟨b, off, rfl, hb, hC⟩
          · omega
          have c0 := (hC.below hB hb).str hx
          have HX := Lib.hid hx
          have i0 : (0 : Int) ≤ (k : Int) := by omega
          have i1 : (k : Int) < (n : Int) := by omega
          clear hx hC
          go_wp2
          all_goals first
            | (go_round
               case rel => exact ⟨k + 1, by omega, by go_num, anyTo_succ HX.out HU.out (by simp [l300]; omega), by go_grown, HBX⟩
               case measure => simp [intOf]; omega)
            | (go_ret
               exact ⟨ret_bool (HNo1.out (any_yes HX.out (by simp [l300]; omega))).symm, by go_grown⟩)
        · obtain rfl : k = n := by omega
          have HS : Hid (p.sectors.any l300 = false) := any_end (by rw [HL.out.1]; exact HU.out)
          go_wp2
          go_loopw [4] (fun i wq => ∃ j : Nat, j ≤ m ∧ i = .int .i64 j ∧ Hid ((p.cache.take j).any (fun x => l300 x.text) = false) ∧ Below w.heap.size w wq ∧ Hid (Blk wq w.heap.size 25 #[.slice A k c, .slice A' m d])) (fun i _ => m - (intOf i).toNat)
          case atStart => exact ⟨0, Nat.zero_le _, rfl, rfl, hB, HBX⟩
          case round =>
            obtain ⟨j, hj, rfl, HV, hB2, HBY⟩ := hrel
            have r1 := HBY.out.cells 1 _ rfl
            simp only [List.getElem_toArray, List.getElem_cons_zero, List.getElem_cons_succ] at r1
            by_cases hlt2 : j < m
            · obtain ⟨x, hx⟩ : ∃ x, p.cache[j]? = some x := ⟨p.cache[j]'(by rw [HL.out.2]; exact hlt2), List.getElem?_eq_getElem _⟩
              rcases HA'.out with h0 | ⟨b, off, rfl, hb, hC⟩
              · omega
              obtain ⟨_, c1⟩ := (hC.below hB2 hb).put hx
              have HX := Lib.hid hx
              have i0 : (0 : Int) ≤ (j : Int) := by omega
              have i1 : (j : Int) < (m : Int) := by omega
              clear hx hC
              go_wp2
              all_goals first
                | (go_round
                   case rel => exact ⟨j + 1, by omega, by go_num, anyTo_succ HX.out HV.out (by simp [l300]; omega), by go_grown, HBY⟩
                   case measure => simp [intOf]; omega)
                | (go_ret
                   exact ⟨ret_bool (HNo2.out (any_yes (f := fun x => l300 x.text) HX.out (by simp [l300]; omega))).symm, by go_grown⟩)
            · obtain rfl : j = m := by omega
              go_wp2
              go_ret
              exact ⟨ret_bool (HEnd.out HS.out (any_end (by rw [HL.out.2]; exact HV.out))).symm, hB2⟩

def farB (p : Plat) (s : ByteArray) (nF : Nat) : Bool := bigP p || (decide (300 < s.size) || decide (300 < nF))
set_option maxHeartbeats 1000000 in
theorem far_any (p : Plat) (s : ByteArray) (AF : Option Addr) (nF cF : Nat) (A A' : Option Addr) (n m c d : Nat) (w : World) (hP : PlatAt w w.heap.size A n A' m p) :
    Calls Try.prog 16 #[.agg #[.slice A n c, .slice A' m d], .string s, .slice AF nF cF] w fun e w' => e = .returned (.bool (farB p s nF)) ∧ Below w.heap.size w w' := by
  have HP := hP.pre
  clear hP
  by_cases hb : bigP p = true
  · have e1 : farB p s nF = true := by simp [farB, hb]
    rw [e1]
    go_enter Try.func16, Try.ntmps16
    go_wp2_with fail
    refine (bigP_any p A A' n m c d _ (HP.step (by go_grown))).mono ?_
    rintro e w1 ⟨rfl, hb1⟩
    rw [hb]
    go_wp2_with fail
    go_ret
    exact ⟨rfl, Below.trans (by go_grown) (hb1.mono (by simp))⟩
  · have hb' : bigP p = false := by simpa using hb
    have e1 : farB p s nF = (decide (300 < s.size) || decide (300 < nF)) := by simp [farB, hb']
    rw [e1]
    clear hb
    by_cases hs : 300 < s.size
    · go_enter Try.func16, Try.ntmps16
      go_wp2_with fail
      refine (bigP_any p A A' n m c d _ (HP.step (by go_grown))).mono ?_
      rintro e w1 ⟨rfl, hb1⟩
      rw [hb']
      go_wp2_with fail
      go_ret
      exact ⟨ret_bool (by first | rfl | (simp; done) | (rw [Bool.eq_iff_iff]; simp; done) | (rw [Bool.eq_iff_iff]; simp; omega)), Below.trans (by go_grown) (hb1.mono (by simp))⟩
    · go_enter Try.func16, Try.ntmps16
      go_wp2_with fail
      refine (bigP_any p A A' n m c d _ (HP.step (by go_grown))).mono ?_
      rintro e w1 ⟨rfl, hb1⟩
      rw [hb']
      go_wp2_with fail
      go_ret
      exact ⟨ret_bool (by first | rfl | (simp; done) | (rw [Bool.eq_iff_iff]; simp; done) | (rw [Bool.eq_iff_iff]; simp; omega)), Below.trans (by go_grown) (hb1.mono (by simp))⟩
end Go.Proofs.Ytefodifmfjpnlaa
