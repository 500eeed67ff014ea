/- chapter 14, far: the walk. -/
import Derived.Test.YtefodifmfjpnlaaTwinP
import Derived.Test.YtefodifmfjpnlaaPlatterNew
set_option linter.unusedVariables false
namespace Go.Proofs.Ytefodifmfjpnlaa
open Go.RowKit

def farB14 (p : Plat) (s : ByteArray) : Bool := bigP p || decide (300 < s.size)
theorem far14_any (p : Plat) (s : ByteArray) (A A' : Option Addr) (n m c d : Nat) (w : World) (hP : PlatAt w w.heap.size A n A' m p) :
    Calls Try.prog 22 #[.agg #[.slice A n c, .slice A' m d], .string s] w fun e w' => e = .returned (.bool (farB14 p s)) ∧ Below w.heap.size w w' := by
  have HP := hP.pre
  clear hP
  by_cases hb : bigP p = true
  · have e1 : farB14 p s = true := by simp [farB14, hb]
    rw [e1]
    go_enter Try.func22, Try.ntmps22
    go_wp2_with fail
    refine (bigP_any p A A' n m c d _ (HP.step (by go_grown))).mono ?_
    rintro e w1 ⟨rfl, hb1⟩
    rw [hb]
    go_wp2_with fail
    go_ret
    exact ⟨rfl, Below.trans (by go_grown) (hb1.mono (by simp))⟩
  · have hb' : bigP p = false := by simpa using hb
    have e1 : farB14 p s = decide (300 < s.size) := by simp [farB14, hb']
    rw [e1]
    clear hb
    go_enter Try.func22, Try.ntmps22
    go_wp2_with fail
    refine (bigP_any p A A' n m c d _ (HP.step (by go_grown))).mono ?_
    rintro e w1 ⟨rfl, hb1⟩
    rw [hb']
    go_wp2_with fail
    go_ret
    exact ⟨ret_bool (by rw [Bool.eq_iff_iff]; simp; try omega), Below.trans (by go_grown) (hb1.mono (by simp))⟩
end Go.Proofs.Ytefodifmfjpnlaa
