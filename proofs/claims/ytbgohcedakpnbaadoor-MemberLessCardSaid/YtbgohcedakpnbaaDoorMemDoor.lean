/- The listed tables are there when a law of chapter 18 begins. -/
import Derived.Test.YtbgohcedakpnbaaDoorMemG
import Derived.Test.YtbgohcedakpnbaaDoorDoorOpen
import Derived.Test.YtbgohcedakpnbaaDoorLaw
import Derived.Test.YtbgohcedakpnbaaDoorTie
import Derived.Test.YtbgohcedakpnbaaDoorCards
import Derived.Handed
import Derived.ProofKit
import Derived.LaidMore
import Derived.OpenShut
import Derived.Stop.Joined
import Derived.SevenTiedAt
import Derived.Lib.LaidTab
set_option linter.unusedVariables false
namespace Go.Proofs.YtbgohcedakpnbaaDoor
open Go.RowKit Go.ChangeShapes Go.WideShapes Go.ChangeAt Go.Deep
def laidR : List (String × DataW Unit) := [("math/bits.deBruijn32tab", Rows.laid_math_bits_deBruijn32tab), ("math/bits.deBruijn64tab", Rows.laid_math_bits_deBruijn64tab), ("internal/strconv.uint64pow10", Rows.laid_internal_strconv_uint64pow10), ("strconv.ErrRange", Rows.laid_strconv_ErrRange), ("strconv.ErrSyntax", Rows.laid_strconv_ErrSyntax)]
theorem laidPow_eq : (Rows.laid_internal_strconv_uint64pow10 : DataW Unit) = Lib.tabData .u64 Lib.pow10Tab := by kernel_rfl
theorem pows_of_laid {W : World} (h : laidMetH Tryd.prog laidR W) : Pows W := by
  unfold laidR at h
  rw [MakeChecks.laidMetH_plain _ _ _ (by kernel_rfl)] at h
  obtain ⟨ps, ⟨g1, t1, cs1, f1, p1, q1, _, _, _, _, ⟨g2, t2, cs2, f2, p2, q2, _, _, _, _, ⟨g, t, cs, fuel, p, q, hg, ht, hv, hd, _, _⟩, _⟩, _⟩, _, _⟩ := h
  obtain rfl := Option.some.inj ((show Tryd.prog.globalNamed "internal/strconv.uint64pow10" = some 2 by kernel_rfl).symm.trans hg)
  obtain rfl := Option.some.inj ((show (Tryd.prog.globals[2]?).map (·.type) = some 151 by kernel_rfl).symm.trans ht)
  have c1 : Tryd.prog.cellsOf 86 = 1 := by kernel_rfl
  have c20 : Tryd.prog.cellsOf 151 = 20 := by kernel_rfl
  unfold Pows Lib.TabIs
  rw [laidPow_eq] at hd
  rw [hv, ← Lib.cells_of_tab Tryd.underlying151 Tryd.underlying86 c1 c20 hd]
theorem door_met (os : Os) (args : Array Value) : laidMetH Tryd.prog laidR ((World.doorLaid Tryd.prog 400 os).forCall (fun _ _ => 0) ⟨#[], args, []⟩).memory :=
  laidMetH_of_parts3 (fuel := 8) (laidMet_of_run' 8 (by kernel_rfl) (by kernel_rfl)) (by kernel_rfl) (by kernel_rfl)
end Go.Proofs.YtbgohcedakpnbaaDoor
