/- member: a record without one of its names (plain). -/
import Derived.Test.YtbgohcedakpnbaaDoorMemP
set_option linter.unusedVariables false
namespace Go.Proofs.YtbgohcedakpnbaaDoor
theorem less_ne {α : Type} {L : List α} {i at_ : Nat} {x : α} (h : i ≠ at_) (hx : L[i]? = some x) : (L.take (i + 1)).eraseIdx at_ = (L.take i).eraseIdx at_ ++ [x] := by
  have hlen : (L.take i).length = i := by
    rw [List.length_take]
    have := (List.getElem?_eq_some_iff.1 hx).1
    omega
  rw [List.take_add_one, hx]
  show (L.take i ++ [x]).eraseIdx at_ = _
  by_cases hlt : at_ < i
  · rw [List.eraseIdx_append_of_lt_length (by omega)]
  · obtain ⟨k, hk⟩ : ∃ k, at_ = (L.take i).length + (k + 1) := ⟨at_ - i - 1, by omega⟩
    have e1 : (L.take i).eraseIdx at_ = L.take i := List.eraseIdx_of_length_le (by omega)
    rw [e1, List.eraseIdx_append_of_length_le (by omega), hk, Nat.add_sub_cancel_left]
    rfl
theorem less_eq {α : Type} {L : List α} {at_ : Nat} {x : α} (hx : L[at_]? = some x) : (L.take (at_ + 1)).eraseIdx at_ = (L.take at_).eraseIdx at_ := by
  have hlen : (L.take at_).length = at_ := by
    rw [List.length_take]
    have := (List.getElem?_eq_some_iff.1 hx).1
    omega
  rw [List.take_add_one, hx]
  show (L.take at_ ++ [x]).eraseIdx at_ = _
  have e1 : (L.take at_).eraseIdx at_ = L.take at_ := List.eraseIdx_of_length_le (by omega)
  rw [e1, List.eraseIdx_append_of_length_le (by omega), hlen, Nat.sub_self]
  simp
/-- what stands at a place of what is left stood at it, or at the next one -/
def backI (at_ i : Nat) : Nat := if i < at_ then i else i + 1
theorem less_at {α : Type} (L : List α) (at_ i : Nat) : (L.eraseIdx at_)[i]? = L[backI at_ i]? := by
  rw [List.getElem?_eraseIdx, backI]
  split <;> rfl
theorem backI_lt {at_ i j : Nat} (h : i < j) : backI at_ i < backI at_ j := by
  unfold backI
  split <;> split <;> omega
/-- a record without the name at a place -/
def lessR (r : Rec) (at_ : Nat) : Rec := ⟨r.epoch, r.k, r.names.eraseIdx at_, r.pledges.eraseIdx at_⟩
theorem less_rises {L : List ByteArray} (h : risesL L) (at_ : Nat) : risesL (L.eraseIdx at_) := fun i j x y hij hx hy => by
  rw [less_at] at hx hy
  exact h _ _ _ _ (backI_lt hij) hx hy
theorem less_check {r : Rec} {at_ : Nat} (h : checkB r = true) (ha : at_ < r.names.length) (hk : r.k < r.names.length) : checkB (lessR r at_) = true := by
  have hr := less_rises (check_rises h) at_
  have hp := fun {i x} => @check_place r h i x
  obtain ⟨⟨h1, h2, h3, h4, h5, h6, h7⟩, _⟩ := (checkB_iff r).1 h
  have e1 : (r.names.eraseIdx at_).length = r.names.length - 1 := by rw [List.length_eraseIdx, if_pos ha]
  have e2 : (r.pledges.eraseIdx at_).length = r.names.length - 1 := by rw [List.length_eraseIdx, if_pos (by omega)]; omega
  refine (checkB_iff _).2 ⟨⟨h1, h2, ?_, ?_, ?_, h6, ?_⟩, fun i hi => ?_⟩
  · show 1 ≤ (r.names.eraseIdx at_).length
    omega
  · show (r.names.eraseIdx at_).length ≤ 16
    omega
  · show (r.pledges.eraseIdx at_).length = (r.names.eraseIdx at_).length
    omega
  · show r.k ≤ ((r.names.eraseIdx at_).length : Int)
    omega
  · replace hi : i < (r.names.eraseIdx at_).length := hi
    obtain ⟨x, hx⟩ : ∃ x, (r.names.eraseIdx at_)[i]? = some x := ⟨_, List.getElem?_eq_getElem hi⟩
    obtain ⟨y, hy⟩ : ∃ y, (r.pledges.eraseIdx at_)[i]? = some y := ⟨_, List.getElem?_eq_getElem (by omega)⟩
    have hx2 := hx
    have hy2 := hy
    rw [less_at] at hx2 hy2
    obtain ⟨p1, p2, _⟩ := hp hx2
    have p3 := p2 y hy2
    unfold placeB lessR
    simp only [mgetD_at hx, mgetD_at hy, p1, p3, Bool.true_and, decide_true]
    by_cases h0 : i = 0
    · simp [h0]
    · obtain ⟨z, hz⟩ : ∃ z, (r.names.eraseIdx at_)[i - 1]? = some z := ⟨_, List.getElem?_eq_getElem (by omega)⟩
      rw [mgetD_at hz, leS_lt (hr _ _ _ _ (show i - 1 < i by omega) hz hx)]
      simp
theorem less_place {r : Rec} {at_ i : Nat} {x : ByteArray} (h : checkB r = true) (ha : at_ < r.names.length) (hk : r.k < r.names.length) (hx : r.names[i]? = some x) :
    placeF (lessR r at_) x = if i = at_ then (0, false) else if i < at_ then ((i : Int) + 1, true) else ((i : Int), true) := by
  by_cases he : i = at_
  · rw [if_pos he]
    refine place_none fun j y hy hxy => ?_
    rw [show (lessR r at_).names = r.names.eraseIdx at_ from rfl, less_at] at hy
    have hne : backI at_ j ≠ i := by unfold backI; split <;> omega
    rcases Nat.lt_or_gt_of_ne hne with hlt | hlt
    · have := (rises_ne (check_rises h) hlt hy hx).1
      simp [hxy] at this
    · have := (rises_ne (check_rises h) hlt hx hy).1
      simp [hxy] at this
  · rw [if_neg he]
    have hc := less_check h ha hk
    by_cases hlt : i < at_
    · rw [if_pos hlt]
      exact place_at hc (by rw [show (lessR r at_).names = r.names.eraseIdx at_ from rfl, less_at, backI, if_pos hlt]; exact hx)
    · rw [if_neg hlt]
      obtain ⟨p, rfl⟩ : ∃ p, i = p + 1 := ⟨i - 1, by omega⟩
      have := place_at hc (i := p) (x := x) (by rw [show (lessR r at_).names = r.names.eraseIdx at_ from rfl, less_at, backI, if_neg (by omega)]; exact hx)
      rw [this]
      simp
end Go.Proofs.YtbgohcedakpnbaaDoor
