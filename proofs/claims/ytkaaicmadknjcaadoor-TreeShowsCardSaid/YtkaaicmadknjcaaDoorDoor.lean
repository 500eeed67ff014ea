/- The listed table is there when a law begins. -/
import Derived.Test.YtkaaicmadknjcaaDoorDigE
import Derived.Test.YtkaaicmadknjcaaDoorLaw
import Derived.Test.YtkaaicmadknjcaaDoorTie
import Derived.Test.YtkaaicmadknjcaaDoorCards
import Derived.Handed
import Derived.ProofKit
import Derived.LaidMore
import Derived.OpenShut
import Derived.Stop.Joined
import Derived.SevenTiedAt
set_option linter.unusedVariables false
namespace Go.Proofs.YtkaaicmadknjcaaDoor
open Go.RowKit Go.ChangeShapes Go.WideShapes Go.ChangeAt
def laidR : List (String × DataW Unit) := [("keyhole/digest.rounds", Rows.laid_keyhole_digest_rounds)]
theorem laidR_eq : (Rows.laid_keyhole_digest_rounds : DataW Unit) = .agg (K64.map fun x : Nat => .lit (.int .i64 (x : Int))) := by kernel_rfl
theorem rounds_of_laid {W : World} (h : laidMetH Tryd.prog laidR W) : Rounds W := by
  unfold laidR at h
  rw [MakeChecks.laidMetH_plain _ _ _ (by kernel_rfl)] at h
  obtain ⟨ps, ⟨g, t, cs, fuel, p, q, hg, ht, hv, hd, _, _⟩, _, _⟩ := h
  obtain rfl := Option.some.inj ((show Tryd.prog.globalNamed "keyhole/digest.rounds" = some 0 by kernel_rfl).symm.trans hg)
  obtain rfl := Option.some.inj ((show (Tryd.prog.globals[0]?).map (·.type) = some 79 by kernel_rfl).symm.trans ht)
  obtain ⟨xs, m, _, ex, _, hl, hel⟩ := DataW.trod_array Tryd.underlying79 hd
  have c5 : Tryd.prog.cellsOf 3 = 1 := by kernel_rfl
  intro r x hx
  have hr : r < 64 := by have := (List.getElem?_eq_some_iff.1 hx).1; rw [K64_len] at this; exact this
  have hE := hel r hr
  rw [c5, Nat.mul_one, List.getElem?_eq_getElem (by omega)] at hE
  obtain ⟨z, e1, e2, _⟩ := DataW.trod_int Tryd.underlying3 hE
  have e3 : (xs.map (·.1)) = K64.map fun x : Nat => .lit (.int .i64 (x : Int)) := by
    have := (Prod.mk.inj ex).1
    rw [laidR_eq] at this
    exact (DataW.agg.inj this).symm
  have e4 : (xs.map (·.1))[r]? = (K64.map fun x : Nat => (DataW.lit (.int .i64 (x : Int)) : DataW Unit))[r]? := by rw [e3]
  rw [List.getElem?_map, List.getElem?_map, List.getElem?_eq_getElem (by omega : r < xs.length), hx, e2] at e4
  have hz : z = (x : Int) := by
    simp only [Option.map_some, Option.some.injEq, DataW.lit.injEq, Lit.int.injEq, true_and] at e4
    exact e4
  rw [World.var?_cell hg hv r, ← hz]
  have : cs.toList[r]? = some (.int .i64 z) := by
    have h0 : ((cs.toList.drop r).take 1)[0]? = some (.int .i64 z) := by rw [e1]; rfl
    simpa using h0
  simpa using this
theorem door_met (os : Os) (args : Array Value) : laidMetH Tryd.prog laidR ((World.doorLaid Tryd.prog 400 os).forCall (fun _ _ => 0) ⟨#[], args, []⟩).memory :=
  laidMetH_of_parts3 (fuel := 8) (laidMet_of_run' 8 (by kernel_rfl) (by kernel_rfl)) (by kernel_rfl) (by kernel_rfl)
end Go.Proofs.YtkaaicmadknjcaaDoor
