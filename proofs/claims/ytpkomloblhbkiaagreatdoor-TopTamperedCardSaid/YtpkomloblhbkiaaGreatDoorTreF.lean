/- tree: way, Climb, Check. -/
import Derived.Test.YtpkomloblhbkiaaGreatDoorTopJ
import Derived.Test.YtpkomloblhbkiaaGreatDoorTopC
import Derived.Test.YtpkomloblhbkiaaGreatDoorVolA
set_option linter.unusedVariables false
set_option linter.unusedSimpArgs false
/- TopVault: the walk. -/
namespace Go.Proofs.YtpkomloblhbkiaaGreatDoor
open Go.RowKit
theorem TOk.stepIn {w W : World} {x : TStp} (h : TOk w x) (hb : Below w.heap.size w W) : StepIn W w.heap.size x := ⟨h.p.below hb, h.t.below hb, h.f.below hb, h.o.below hb, h.ts, h.fs, h.os⟩
theorem good_start {n : Nat} (h : countI (n : Int) = true) (key : ByteArray) : Good (vformP (n : Int)).1 P33 key (List.replicate (max 0 (min (n : Int) 64)).toNat ByteArray.empty) [] n 0 0 0 := by
  obtain ⟨_, h2, h3, h4⟩ := format_lies h
  obtain ⟨_, h1, h64⟩ := count_may h
  have e : (max 0 (min (n : Int) 64)).toNat = n := by omega
  rw [e]
  exact ⟨0, 0, _, h2, h4 key, ngood_start, Nat.le_refl _, Nat.le_refl _, Nat.le_refl _⟩
theorem HouseAt.on_ {w w' : World} {B g : Nat} {p q : Plat} {s : Src} {key : ByteArray} {said drawn : List ByteArray} (h : HouseAt w B g p q s key said drawn) (hb : Below w.heap.size w w') : HouseAt w' B g p q s key said drawn := by
  obtain ⟨P1, P2, Q1, Q2, sv, dv, h1, h2, h3, h4, h5, h6, h7, h8⟩ := h
  have hH : HouseIn w B g P1 P2 Q1 Q2 s key sv dv p q said drawn := ⟨h1, h2, h3, h4, h5, h6, h7, h8⟩
  exact (hH.on_ hb).at_
theorem HouseAt.big {w : World} {B g : Nat} {p q : Plat} {s : Src} {key : ByteArray} {said drawn : List ByteArray} (h : HouseAt w B g p q s key said drawn) : g < w.heap.size := by
  obtain ⟨P1, P2, Q1, Q2, sv, dv, h1, _⟩ := h
  exact h1.lt
theorem large_no {L : List TStp} (h : largeB L = false) : L.length ≤ 8 ∧ ∀ x ∈ L, bigStep x = false := by
  simp only [largeB, Bool.or_eq_false_iff, decide_eq_false_iff_not] at h
  refine ⟨by omega, fun x hx => ?_⟩
  have := List.any_eq_false.1 h.2 x hx
  simpa using this
end Go.Proofs.YtpkomloblhbkiaaGreatDoor
namespace Go.Proofs.YtpkomloblhbkiaaGreatDoor
open Go.RowKit
end Go.Proofs.YtpkomloblhbkiaaGreatDoor
/- tree: Trace. -/
namespace Go.Proofs.YtpkomloblhbkiaaGreatDoor
open Go.RowKit
def twoV (t : Two) : Value := .tuple #[.string t.a, .string t.b, .bool t.ok]
/-- what Trace and Collide tell, and leave -/
def TwoPost (t : Two) (w : World) (e : Ending) (w' : World) : Prop := e = .returned (twoV t) ∧ Below w.heap.size w w'
theorem two_no {w w' : World} (h : Below w.heap.size w w') : TwoPost noTwo w (.returned (.tuple #[.string ByteArray.empty, .string ByteArray.empty, .bool false])) w' := ⟨rfl, h⟩
end Go.Proofs.YtpkomloblhbkiaaGreatDoor
