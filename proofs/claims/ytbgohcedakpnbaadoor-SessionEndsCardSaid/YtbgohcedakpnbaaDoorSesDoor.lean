/- Both listed tables are there when a law begins. -/
import Derived.Test.YtbgohcedakpnbaaDoorSesG
import Derived.Test.YtbgohcedakpnbaaDoorDoorOpen
import Derived.Test.YtbgohcedakpnbaaDoorLaw
import Derived.Test.YtbgohcedakpnbaaDoorTie
import Derived.Test.YtbgohcedakpnbaaDoorCards
import Derived.Handed
import Derived.ProofKit
import Derived.LaidMore
import Derived.OpenShut
import Derived.Stop.Joined
import Derived.SevenTiedAt
set_option linter.unusedVariables false
namespace Go.Proofs.YtbgohcedakpnbaaDoor
open Go.RowKit Go.ChangeShapes Go.WideShapes Go.ChangeAt Go.Deep
def laidR : List (String × DataW Unit) := [("keyhole/stream.turns", Rows.laid_keyhole_stream_turns), ("keyhole/digest.rounds", Rows.laid_keyhole_digest_rounds)]
def rowD (p : Nat × Nat × Nat × Nat) : DataW Unit := .agg ([p.1, p.2.1, p.2.2.1, p.2.2.2].map fun x : Nat => .lit (.int .i64 (x : Int)))
set_option maxRecDepth 100000 in
theorem laidT_eq : (Rows.laid_keyhole_stream_turns : DataW Unit) = .agg (turnsL.map rowD) := by kernel_rfl
set_option maxRecDepth 100000 in
theorem turns_of_laid {W : World} (h : laidMetH Tryd.prog laidR W) : Turns W := by
  unfold laidR at h
  rw [MakeChecks.laidMetH_plain _ _ _ (by kernel_rfl)] at h
  obtain ⟨ps, ⟨g, t, cs, fuel, p, q, hg, ht, hv, hd, _, _⟩, _, _⟩ := h
  obtain rfl := Option.some.inj ((show Tryd.prog.globalNamed "keyhole/stream.turns" = some 0 by kernel_rfl).symm.trans hg)
  obtain rfl := Option.some.inj ((show (Tryd.prog.globals[0]?).map (·.type) = some 117 by kernel_rfl).symm.trans ht)
  obtain ⟨xs, m, _, ex, hcl, hl, hel⟩ := DataW.trod_array Tryd.underlying117 hd
  have c4 : Tryd.prog.cellsOf 116 = 4 := by kernel_rfl
  have c1 : Tryd.prog.cellsOf 3 = 1 := by kernel_rfl
  have e3 : (xs.map (·.1)) = turnsL.map rowD := by
    have := (Prod.mk.inj ex).1
    rw [laidT_eq] at this
    exact (DataW.agg.inj this).symm
  intro j v hj
  have hj32 : j < 32 := by have := (List.getElem?_eq_some_iff.1 hj).1; simpa [turnCells, turnsL] using this
  obtain ⟨a, b, hb, rfl⟩ : ∃ a b, b < 4 ∧ j = 4 * a + b := ⟨j / 4, j % 4, Nat.mod_lt _ (by decide), by omega⟩
  have ha : a < 8 := by omega
  have hA := hel a ha
  rw [c4, List.getElem?_eq_getElem (by omega : a < xs.length)] at hA
  obtain ⟨ys, m2, _, ey, _, hl2, hel2⟩ := DataW.trod_array Tryd.underlying116 hA
  have hB := hel2 b hb
  rw [c1, Nat.mul_one, List.getElem?_eq_getElem (by omega : b < ys.length)] at hB
  obtain ⟨z, e1, e2, _⟩ := DataW.trod_int Tryd.underlying3 hB
  have e4 : (xs.map (·.1))[a]? = (turnsL.map rowD)[a]? := by rw [e3]
  rw [List.getElem?_map, List.getElem?_map, List.getElem?_eq_getElem (by omega : a < xs.length), List.getElem?_eq_getElem (by exact ha : a < turnsL.length)] at e4
  have e5 : xs[a].1 = rowD turnsL[a] := by simpa using e4
  have e6 : (ys.map (·.1)) = [turnsL[a].1, turnsL[a].2.1, turnsL[a].2.2.1, turnsL[a].2.2.2].map fun x : Nat => (DataW.lit (.int .i64 (x : Int)) : DataW Unit) := by
    have := congrArg Prod.fst ey
    rw [e5] at this
    exact (DataW.agg.inj this).symm
  have e7 : (ys.map (·.1))[b]? = some ys[b].1 := by rw [List.getElem?_map, List.getElem?_eq_getElem (by omega : b < ys.length)]; rfl
  rw [e6, e2, List.getElem?_map] at e7
  have hcell : cs.toList[4 * a + b]? = some (.int .i64 z) := by
    have h0 : ((((cs.toList.drop (a * 4)).take 4).drop b).take 1)[0]? = some (.int .i64 z) := by rw [e1]; rfl
    rw [List.getElem?_take_of_lt (by decide), List.getElem?_drop, List.getElem?_take_of_lt (by omega), List.getElem?_drop] at h0
    rw [show 4 * a + b = a * 4 + (b + 0) by omega]
    exact h0
  have hv2 : v = .int .i64 z := by
    have h1 : ∀ i : Fin 8, ∀ k : Fin 4, ∀ x : Nat, [turnsL[i.1].1, turnsL[i.1].2.1, turnsL[i.1].2.2.1, turnsL[i.1].2.2.2][k.1]? = some x → turnCells[4 * i.1 + k.1]? = some (.int .i64 (x : Int)) := by
      intro i k x hx
      match i, k with
      | ⟨0, _⟩, ⟨0, _⟩ | ⟨0, _⟩, ⟨1, _⟩ | ⟨0, _⟩, ⟨2, _⟩ | ⟨0, _⟩, ⟨3, _⟩ | ⟨1, _⟩, ⟨0, _⟩ | ⟨1, _⟩, ⟨1, _⟩ | ⟨1, _⟩, ⟨2, _⟩ | ⟨1, _⟩, ⟨3, _⟩ | ⟨2, _⟩, ⟨0, _⟩ | ⟨2, _⟩, ⟨1, _⟩ | ⟨2, _⟩, ⟨2, _⟩ | ⟨2, _⟩, ⟨3, _⟩ | ⟨3, _⟩, ⟨0, _⟩ | ⟨3, _⟩, ⟨1, _⟩ | ⟨3, _⟩, ⟨2, _⟩ | ⟨3, _⟩, ⟨3, _⟩ | ⟨4, _⟩, ⟨0, _⟩ | ⟨4, _⟩, ⟨1, _⟩ | ⟨4, _⟩, ⟨2, _⟩ | ⟨4, _⟩, ⟨3, _⟩ | ⟨5, _⟩, ⟨0, _⟩ | ⟨5, _⟩, ⟨1, _⟩ | ⟨5, _⟩, ⟨2, _⟩ | ⟨5, _⟩, ⟨3, _⟩ | ⟨6, _⟩, ⟨0, _⟩ | ⟨6, _⟩, ⟨1, _⟩ | ⟨6, _⟩, ⟨2, _⟩ | ⟨6, _⟩, ⟨3, _⟩ | ⟨7, _⟩, ⟨0, _⟩ | ⟨7, _⟩, ⟨1, _⟩ | ⟨7, _⟩, ⟨2, _⟩ | ⟨7, _⟩, ⟨3, _⟩ =>
        injection hx with hx
        subst hx
        rfl
    obtain ⟨x, hx⟩ : ∃ x, [turnsL[a].1, turnsL[a].2.1, turnsL[a].2.2.1, turnsL[a].2.2.2][b]? = some x := ⟨_, List.getElem?_eq_getElem (show b < 4 from hb)⟩
    have h2 := h1 ⟨a, ha⟩ ⟨b, hb⟩ x hx
    rw [hx] at e7
    have hz : z = (x : Int) := by
      simp only [Option.map_some, Option.some.injEq, DataW.lit.injEq, Lit.int.injEq, true_and] at e7
      exact e7.symm
    rw [hj] at h2
    rw [hz]
    exact Option.some.inj h2
  show W.cell? ⟨0, 0 + (4 * a + b), none⟩ = some v
  rw [Nat.zero_add, World.var?_cell hg hv (4 * a + b), hv2]
  simpa using hcell
set_option maxRecDepth 100000 in
theorem laidK_eq : (Rows.laid_keyhole_digest_rounds : DataW Unit) = .agg (K64.map fun x : Nat => .lit (.int .i64 (x : Int))) := by kernel_rfl
set_option maxRecDepth 100000 in
theorem rounds_of_laid {W : World} (h : laidMetH Tryd.prog laidR W) : Rounds W := by
  unfold laidR at h
  rw [MakeChecks.laidMetH_plain _ _ _ (by kernel_rfl)] at h
  obtain ⟨ps, ⟨g1, t1, cs1, f1, p1, q1, _, _, _, _, ⟨g, t, cs, fuel, p, q, hg, ht, hv, hd, _, _⟩, _⟩, _, _⟩ := h
  obtain rfl := Option.some.inj ((show Tryd.prog.globalNamed "keyhole/digest.rounds" = some 5 by kernel_rfl).symm.trans hg)
  obtain rfl := Option.some.inj ((show (Tryd.prog.globals[5]?).map (·.type) = some 163 by kernel_rfl).symm.trans ht)
  obtain ⟨xs, m, _, ex, _, hl, hel⟩ := DataW.trod_array Tryd.underlying163 hd
  have c5 : Tryd.prog.cellsOf 3 = 1 := by kernel_rfl
  intro r x hx
  have hr : r < 64 := by have := (List.getElem?_eq_some_iff.1 hx).1; rw [K64_len] at this; exact this
  have hE := hel r hr
  rw [c5, Nat.mul_one, List.getElem?_eq_getElem (by omega)] at hE
  obtain ⟨z, e1, e2, _⟩ := DataW.trod_int Tryd.underlying3 hE
  have e3 : (xs.map (·.1)) = K64.map fun x : Nat => .lit (.int .i64 (x : Int)) := by
    have := (Prod.mk.inj ex).1
    rw [laidK_eq] at this
    exact (DataW.agg.inj this).symm
  have e4 : (xs.map (·.1))[r]? = (K64.map fun x : Nat => (DataW.lit (.int .i64 (x : Int)) : DataW Unit))[r]? := by rw [e3]
  rw [List.getElem?_map, List.getElem?_map, List.getElem?_eq_getElem (by omega : r < xs.length), hx, e2] at e4
  have hz : z = (x : Int) := by
    simp only [Option.map_some, Option.some.injEq, DataW.lit.injEq, Lit.int.injEq, true_and] at e4
    exact e4
  rw [World.var?_cell hg hv r, ← hz]
  have : cs.toList[r]? = some (.int .i64 z) := by
    have h0 : ((cs.toList.drop r).take 1)[0]? = some (.int .i64 z) := by rw [e1]; rfl
    simpa using h0
  simpa using this
theorem tab_of_laid {W : World} (h : laidMetH Tryd.prog laidR W) : HTab W := Lib.hid ⟨rounds_of_laid h, turns_of_laid h⟩
theorem door_met (os : Os) (args : Array Value) : laidMetH Tryd.prog laidR ((World.doorLaid Tryd.prog 400 os).forCall (fun _ _ => 0) ⟨#[], args, []⟩).memory :=
  laidMetH_of_parts3 (fuel := 8) (laidMet_of_run' 8 (by kernel_rfl) (by kernel_rfl)) (by kernel_rfl) (by kernel_rfl)
end Go.Proofs.YtbgohcedakpnbaaDoor
