/- TreeShows, for every input: the given card; no condition. -/
import Derived.Test.YtkaaicmadknjcaaDoorTreeShowsLift
set_option linter.unusedVariables false
namespace Go.Proofs.YtkaaicmadknjcaaDoor
open Go.RowKit Go.ChangeShapes Go.WideShapes Go.ChangeAt Go.Deep
set_option maxHeartbeats 8000000 in
theorem treeShows_row : Rows.TreeShowsSaid :=
  OpenClaim.holds_of_wide 21 Tryd.f21 rfl rfl rfl rfl rfl rfl rfl ⟨rfl, rfl, rfl, rfl, rfl⟩ rfl rfl rfl rfl rfl (by as_aux_lemma => kernel_rfl) Tryd.func21 (by as_aux_lemma => kernel_rfl)
    (of_decide_eq_true (by as_aux_lemma => kernel_rfl)) (by unfold Func.isWrapper; first | (rw [if_pos (by decide +kernel)]; kernel_rfl) | (rw [if_neg (by decide +kernel)]; exact ⟨rfl, rfl⟩))
    (fun os started H enc _ => treeShows_lifted os started H enc)
set_option maxHeartbeats 8000000 in
theorem treeShows_holds : Rows.TreeShowsCardSaid :=
  Claim7.holds_tied_plain_at .later [] [.data] true (true, "a5c8c176ef503824aed6c40cc98d019f33b7cf63dd68467548fc158f0554691e") false
    treeShows_row (fun _ h => by cases h) (by as_aux_lemma => kernel_rfl) (fun _ h => by cases h) treeShows_row_tie rfl ⟨rfl, rfl⟩ (by as_aux_lemma => kernel_rfl) rfl
    (fun f fn hf hfn => by
      obtain rfl : f = 21 := Option.some.inj ((show Tryd.prog.funcNamed "keyhole/keyholelaw11.TreeShows" = some 21 by as_aux_lemma => kernel_rfl).symm.trans hf) |>.symm
      obtain rfl : fn = Tryd.f21 := (Option.some.inj (Tryd.func21.symm.trans hfn)).symm
      exact ⟨by as_aux_lemma => kernel_rfl, fun j t ht => by
        rw [Tryd.params21] at ht
        have hm : t ∈ [54, 54, 3, 9, 54] := by have := Array.mem_of_getElem? ht; simpa using this
        have hall : ([54, 54, 3, 9, 54].all fun u => !Tryd.prog.wantsStandIn u) = true := by as_aux_lemma => kernel_rfl
        exact (show Tryd.prog.wantsStandIn t = false by simpa using List.all_eq_true.1 hall t hm)⟩)
    (by as_aux_lemma => kernel_rfl)
end Go.Proofs.YtkaaicmadknjcaaDoor
