/- NetSent, for every input: letters are delivered as they were sent, and none is on the way that was not; no condition. -/
import Derived.Test.YtojabnaabgbclaaNetLaw
namespace Go.Proofs.Ytojabnaabgbclaa
open Go.RowKit Go.ChangeShapes Go.WideShapes Go.ChangeAt Go.Deep
set_option maxHeartbeats 1000000 in
theorem sent_any (L : List Op) (A : Option Addr) (n c : Nat) (w : World) (hS : SlR encOp 5 w w.heap.size A n L) (hok : ∀ o ∈ L, OpIs o) :
    Calls Try.prog 3 #[.slice A n c] w fun e w' => e = .returned (.bool true) ∧ Below w.heap.size w w' := by
  obtain ⟨rfl, hA⟩ := hS
  by_cases hn : L.length ≤ 100
  · rcases hA with h0 | ⟨b, off, rfl, hb, hC⟩
    · obtain rfl : L = [] := List.eq_nil_of_length_eq_zero h0
      go_enter Try.func3, Try.ntmps3
      go_wp2_with fail
      refine wp_loop_rounds 1 ?_
      rw [rounds_succ]
      go_wp2_with fail
      refine (nets_any _).mono ?_
      rintro e w1 ⟨rfl, hb1⟩
      have m1 := (hb1.cell (p := ⟨w.heap.size, 1, none⟩) (by simp)).trans ((Blk.new w _ _).cells 1 _ rfl)
      go_wp2_with (with_reducible refine end_at ?_)
      refine end_ret (results_tmp rfl _ _ _) rfl ⟨rfl, Below.trans (by go_grown) (hb1.mono (by simp))⟩
    · exact sent_x L b off c w hC hb hn fun o ho => by
        have := hok o ho
        obtain ⟨h1, h2, _⟩ := this
        simp only [StrOk] at h1 h2
        exact ⟨by omega, by omega⟩
  · go_enter Try.func3, Try.ntmps3
    go_wp2_with (with_reducible refine end_at ?_)
    refine end_ret (results_tmp rfl _ _ _) rfl ⟨rfl, by go_grown⟩
end Go.Proofs.Ytojabnaabgbclaa
