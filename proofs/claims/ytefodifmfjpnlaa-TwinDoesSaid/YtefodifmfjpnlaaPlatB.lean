/- platter.Check. -/
import Derived.Test.YtefodifmfjpnlaaPlatA
set_option linter.unusedVariables false
namespace Go.Proofs.Ytefodifmfjpnlaa
open Go.RowKit
theorem checkP_put (p : Plat) (k : Nat) (x : PPut) (h : p.cache[k]? = some x) (hx : putB p.sectors.length x = false) : checkP p = false := by
  have : p.cache.all (putB p.sectors.length) = false := by rw [List.all_eq_false]; exact ⟨x, List.mem_of_getElem? h, by simp [hx]⟩
  simp [checkP, this]
theorem upP_succ {n : Nat} {L : List PPut} {k : Nat} {x : PPut} (h : L[k]? = some x) (hu : (L.take k).all (putB n) = true) (hx : putB n x = true) : (L.take (k + 1)).all (putB n) = true := by
  obtain ⟨hk, he⟩ := List.getElem?_eq_some_iff.1 h
  rw [List.take_succ_eq_append_getElem hk, List.all_append, hu, he]; simp [hx]
/-- a platter that lies in memory -/
def PlatAt (w : World) (B : Nat) (A : Option Addr) (n : Nat) (A' : Option Addr) (m : Nat) (p : Plat) : Prop := SlR encS 1 w B A n p.sectors ∧ SlR encP 2 w B A' m p.cache
theorem PlatAt.grow {w w' : World} {A A' : Option Addr} {n m : Nat} {p : Plat} (h : PlatAt w w.heap.size A n A' m p) (hb : Below w.heap.size w w') : PlatAt w' w'.heap.size A n A' m p :=
  ⟨(h.1.below hb).more hb.size, (h.2.below hb).more hb.size⟩

set_option maxHeartbeats 1000000 in
theorem checkP_any (p : Plat) (A A' : Option Addr) (n m c d : Nat) (w : World) (hP : PlatAt w w.heap.size A n A' m p) :
    Calls Try.prog 20 #[.agg #[.slice A n c, .slice A' m d]] w fun e w' => e = .returned (.bool (checkP p)) ∧ Below w.heap.size w w' := by
  obtain ⟨hS, hP⟩ := hP
  have HS : Hid (∀ W, Below w.heap.size w W → SlR encS 1 W W.heap.size A n p.sectors) := fun W hb => (hS.below hb).more hb.size
  have hl := hS.1
  by_cases hq : 1 ≤ n ∧ n ≤ 200 ∧ m ≤ 100
  · obtain ⟨h1, h2, h3⟩ := hq
    by_cases hlong : p.sectors.any longB = true
    · have e1 : checkP p = false := by simp [checkP, hlong]
      rw [e1]
      clear hS hP hl e1
      go_enter Try.func20, Try.ntmps20
      go_wp2_with fail
      refine (contains_long p.sectors A n c _ (HS.out _ (by go_grown)) (by omega)).mono ?_
      rintro e w' ⟨rfl, rfl⟩
      rw [hlong]
      go_wp2_with fail
      go_ret
      exact ⟨rfl, by go_grown⟩
    · have hlong' : p.sectors.any longB = false := by simpa using hlong
      have HEnd : Hid ((p.cache.take p.cache.length).all (putB n) = true → checkP p = true) := by
        intro h
        rw [List.take_length] at h
        have h100 : p.cache.length ≤ 100 := by rw [hP.1]; exact h3
        simp only [checkP, hl, hlong', h, h1, h2, h100, decide_true, Bool.not_false, Bool.and_self]
      have HNo : Hid (∀ (k : Nat) (x : PPut), p.cache[k]? = some x → putB n x = false → checkP p = false) := by
        rw [← hl]; exact checkP_put p
      generalize hv : checkP p = v at HEnd HNo ⊢
      have HHas : Hid (∀ (i : Int) (W : World), Calls Try.prog 36 #[.agg #[.slice A n c, .slice A' m d], .int .i64 i] W fun e w' => e = .returned (.bool (hasB n i)) ∧ Below W.heap.size W w') := by
        intro i W
        have := has_any p n m A A' c d i W hl
        rwa [hl] at this
      obtain ⟨hm, hA'⟩ := hP
      clear hS hl hlong hv
      have HM := Lib.hid hm
      rcases hA' with h0 | ⟨b, off, rfl, hb, hC⟩
      · subst h0
        have hc0 : p.cache = [] := List.eq_nil_of_length_eq_zero hm
        have HE := Lib.hid hc0
        clear hm hc0 HM
        go_enter Try.func20, Try.ntmps20
        go_wp2_with fail
        refine (contains_long p.sectors A n c _ (HS.out _ (by go_grown)) (by omega)).mono ?_
        rintro e w' ⟨rfl, rfl⟩
        rw [hlong']
        go_wp2_with fail
        refine wp_loop_rounds 1 ?_
        rw [rounds_succ]
        go_wp2_with fail
        go_ret
        exact ⟨ret_bool (HEnd.out (by rw [HE.out]; rfl)).symm, by go_grown⟩
      · have HC := Lib.hid hC
        clear hC hm
        go_enter Try.func20, Try.ntmps20
        go_wp2_with fail
        refine (contains_long p.sectors A n c _ (HS.out _ (by go_grown)) (by omega)).mono ?_
        rintro e w' ⟨rfl, rfl⟩
        rw [hlong']
        go_wp2_with fail
        go_loopw [29] (fun i wr => ∃ k : Nat, k ≤ m ∧ i = .int .i64 k ∧ Hid ((p.cache.take k).all (putB n) = true) ∧ Below w.heap.size w wr ∧ Blk wr w.heap.size 25 #[.slice A n c, .slice (some ⟨b, off, none⟩) m d]) (fun i _ => m - (intOf i).toNat)
        case atStart => exact ⟨0, Nat.zero_le _, rfl, rfl, by go_grown, Blk.new _ _ _⟩
        case round =>
          obtain ⟨k, hk, rfl, HU, hB, hbox⟩ := hrel
          have hsz := hbox.lt
          have q0 := hbox.cells 0 _ rfl
          have q1 := hbox.cells 1 _ rfl
          simp only [List.getElem_toArray, List.getElem_cons_zero, List.getElem_cons_succ] at q0 q1
          by_cases hlt : k < m
          · obtain ⟨x, hx⟩ : ∃ x, p.cache[k]? = some x := ⟨p.cache[k]'(by rw [HM.out]; exact hlt), List.getElem?_eq_getElem (by rw [HM.out]; exact hlt)⟩
            obtain ⟨c0, c1⟩ := (HC.out.below hB hb).put hx
            have HX := Lib.hid hx
            clear hx
            by_cases hxl : longB x.text = true
            · go_wp2_with (go_at_call 38; refine (long_any _ _).mono ?_; rintro e w' ⟨rfl, rfl⟩; rw [hxl])
              go_ret
              exact ⟨ret_bool (HNo.out k x HX.out (by simp [putB, hxl])).symm, by go_grown⟩
            · have hxl' : longB x.text = false := by simpa using hxl
              clear hxl
              go_wp2_with (first | (go_at_call 38; refine (long_any _ _).mono ?_; rintro e w' ⟨rfl, rfl⟩; rw [hxl']) | (go_at_call 36; refine (HHas.out _ _).mono ?_; rintro e w' ⟨rfl, hb1⟩))
              all_goals first
                | (go_round
                   case rel => exact ⟨k + 1, by omega, by go_num, upP_succ HX.out HU.out (by simp only [Bool.not_eq_false'] at *; simp [putB, *]), Below.trans (by go_grown) (hb1.mono (by simp; omega)), (hbox.alloc _).below hb1 (by simp; omega)⟩
                   case measure => simp [intOf]; omega)
                | (go_ret
                   exact ⟨ret_bool (HNo.out k x HX.out (by simp only [Bool.not_eq_true'] at *; simp [putB, *])).symm, Below.trans (by go_grown) (hb1.mono (by simp; omega))⟩)
          · obtain rfl : k = m := by omega
            go_wp2_with fail
            go_ret
            exact ⟨ret_bool (HEnd.out (by rw [HM.out]; exact HU.out)).symm, hB⟩
  · have e1 : checkP p = false := by
      simp only [checkP, hl, hP.1]
      rw [Bool.eq_false_iff]
      intro h
      simp only [Bool.and_eq_true, decide_eq_true_eq] at h
      exact hq ⟨h.1, h.2.1, h.2.2.1⟩
    rw [e1]
    clear hS hP hl e1
    by_cases h1 : 1 ≤ n
    · by_cases h2 : n ≤ 200
      · have h3 : 100 < m := by omega
        clear hq
        go_enter Try.func20, Try.ntmps20
        go_wp2_with fail
        go_ret
        exact ⟨rfl, by go_grown⟩
      · clear hq
        go_enter Try.func20, Try.ntmps20
        go_wp2_with fail
        go_ret
        exact ⟨rfl, by go_grown⟩
    · clear hq
      go_enter Try.func20, Try.ntmps20
      go_wp2_with fail
      go_ret
      exact ⟨rfl, by go_grown⟩
end Go.Proofs.Ytefodifmfjpnlaa
