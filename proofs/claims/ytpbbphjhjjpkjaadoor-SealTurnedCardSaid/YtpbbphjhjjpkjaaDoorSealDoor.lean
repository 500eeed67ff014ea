/- The listed table of turns is there when a law begins; reading a byte. -/
import Derived.Test.YtpbbphjhjjpkjaaDoorStmT
import Derived.Test.YtpbbphjhjjpkjaaDoorDoorOpen
import Derived.Test.YtpbbphjhjjpkjaaDoorLaw
import Derived.Test.YtpbbphjhjjpkjaaDoorTie
import Derived.Test.YtpbbphjhjjpkjaaDoorCards
import Derived.Handed
import Derived.ProofKit
import Derived.LaidMore
import Derived.OpenShut
import Derived.Stop.Joined
import Derived.SevenTiedAt
set_option linter.unusedVariables false
namespace Go.Proofs.YtpbbphjhjjpkjaaDoor
open Go.RowKit Go.ChangeShapes Go.WideShapes Go.ChangeAt Go.Deep
def laidR : List (String × DataW Unit) := [("keyhole/stream.turns", Rows.laid_keyhole_stream_turns)]
def rowD (p : Nat × Nat × Nat × Nat) : DataW Unit := .agg ([p.1, p.2.1, p.2.2.1, p.2.2.2].map fun x : Nat => .lit (.int .i64 (x : Int)))
theorem laidR_eq : (Rows.laid_keyhole_stream_turns : DataW Unit) = .agg (turnsL.map rowD) := by kernel_rfl
theorem turns_of_laid {W : World} (h : laidMetH Tryd.prog laidR W) : Turns W := by
  unfold laidR at h
  rw [MakeChecks.laidMetH_plain _ _ _ (by kernel_rfl)] at h
  obtain ⟨ps, ⟨g, t, cs, fuel, p, q, hg, ht, hv, hd, _, _⟩, _, _⟩ := h
  obtain rfl := Option.some.inj ((show Tryd.prog.globalNamed "keyhole/stream.turns" = some 0 by kernel_rfl).symm.trans hg)
  obtain rfl := Option.some.inj ((show (Tryd.prog.globals[0]?).map (·.type) = some 54 by kernel_rfl).symm.trans ht)
  obtain ⟨xs, m, _, ex, hcl, hl, hel⟩ := DataW.trod_array Tryd.underlying54 hd
  have c4 : Tryd.prog.cellsOf 53 = 4 := by kernel_rfl
  have c1 : Tryd.prog.cellsOf 3 = 1 := by kernel_rfl
  have e3 : (xs.map (·.1)) = turnsL.map rowD := by
    have := (Prod.mk.inj ex).1
    rw [laidR_eq] at this
    exact (DataW.agg.inj this).symm
  intro j v hj
  have hj32 : j < 32 := by have := (List.getElem?_eq_some_iff.1 hj).1; simpa [turnCells, turnsL] using this
  obtain ⟨a, b, hb, rfl⟩ : ∃ a b, b < 4 ∧ j = 4 * a + b := ⟨j / 4, j % 4, Nat.mod_lt _ (by decide), by omega⟩
  have ha : a < 8 := by omega
  have hA := hel a ha
  rw [c4, List.getElem?_eq_getElem (by omega : a < xs.length)] at hA
  obtain ⟨ys, m2, _, ey, _, hl2, hel2⟩ := DataW.trod_array Tryd.underlying53 hA
  have hB := hel2 b hb
  rw [c1, Nat.mul_one, List.getElem?_eq_getElem (by omega : b < ys.length)] at hB
  obtain ⟨z, e1, e2, _⟩ := DataW.trod_int Tryd.underlying3 hB
  have e4 : (xs.map (·.1))[a]? = (turnsL.map rowD)[a]? := by rw [e3]
  rw [List.getElem?_map, List.getElem?_map, List.getElem?_eq_getElem (by omega : a < xs.length), List.getElem?_eq_getElem (by exact ha : a < turnsL.length)] at e4
  have e5 : xs[a].1 = rowD turnsL[a] := by simpa using e4
  have e6 : (ys.map (·.1)) = [turnsL[a].1, turnsL[a].2.1, turnsL[a].2.2.1, turnsL[a].2.2.2].map fun x : Nat => (DataW.lit (.int .i64 (x : Int)) : DataW Unit) := by
    have := congrArg Prod.fst ey
    rw [e5] at this
    exact (DataW.agg.inj this).symm
  have e7 : (ys.map (·.1))[b]? = some ys[b].1 := by rw [List.getElem?_map, List.getElem?_eq_getElem (by omega : b < ys.length)]; rfl
  rw [e6, e2, List.getElem?_map] at e7
  have hcell : cs.toList[4 * a + b]? = some (.int .i64 z) := by
    have h0 : ((((cs.toList.drop (a * 4)).take 4).drop b).take 1)[0]? = some (.int .i64 z) := by rw [e1]; rfl
    rw [List.getElem?_take_of_lt (by decide), List.getElem?_drop, List.getElem?_take_of_lt (by omega), List.getElem?_drop] at h0
    rw [show 4 * a + b = a * 4 + (b + 0) by omega]
    exact h0
  have hv2 : v = .int .i64 z := by
    have h1 : ∀ i : Fin 8, ∀ k : Fin 4, ∀ x : Nat, [turnsL[i.1].1, turnsL[i.1].2.1, turnsL[i.1].2.2.1, turnsL[i.1].2.2.2][k.1]? = some x → turnCells[4 * i.1 + k.1]? = some (.int .i64 (x : Int)) := by
      intro i k x hx
      match i, k with
      | ⟨0, _⟩, ⟨0, _⟩ | ⟨0, _⟩, ⟨1, _⟩ | ⟨0, _⟩, ⟨2, _⟩ | ⟨0, _⟩, ⟨3, _⟩ | ⟨1, _⟩, ⟨0, _⟩ | ⟨1, _⟩, ⟨1, _⟩ | ⟨1, _⟩, ⟨2, _⟩ | ⟨1, _⟩, ⟨3, _⟩ | ⟨2, _⟩, ⟨0, _⟩ | ⟨2, _⟩, ⟨1, _⟩ | ⟨2, _⟩, ⟨2, _⟩ | ⟨2, _⟩, ⟨3, _⟩ | ⟨3, _⟩, ⟨0, _⟩ | ⟨3, _⟩, ⟨1, _⟩ | ⟨3, _⟩, ⟨2, _⟩ | ⟨3, _⟩, ⟨3, _⟩ | ⟨4, _⟩, ⟨0, _⟩ | ⟨4, _⟩, ⟨1, _⟩ | ⟨4, _⟩, ⟨2, _⟩ | ⟨4, _⟩, ⟨3, _⟩ | ⟨5, _⟩, ⟨0, _⟩ | ⟨5, _⟩, ⟨1, _⟩ | ⟨5, _⟩, ⟨2, _⟩ | ⟨5, _⟩, ⟨3, _⟩ | ⟨6, _⟩, ⟨0, _⟩ | ⟨6, _⟩, ⟨1, _⟩ | ⟨6, _⟩, ⟨2, _⟩ | ⟨6, _⟩, ⟨3, _⟩ | ⟨7, _⟩, ⟨0, _⟩ | ⟨7, _⟩, ⟨1, _⟩ | ⟨7, _⟩, ⟨2, _⟩ | ⟨7, _⟩, ⟨3, _⟩ =>
        injection hx with hx
        subst hx
        rfl
    obtain ⟨x, hx⟩ : ∃ x, [turnsL[a].1, turnsL[a].2.1, turnsL[a].2.2.1, turnsL[a].2.2.2][b]? = some x := ⟨_, List.getElem?_eq_getElem (show b < 4 from hb)⟩
    have h2 := h1 ⟨a, ha⟩ ⟨b, hb⟩ x hx
    rw [hx] at e7
    have hz : z = (x : Int) := by
      simp only [Option.map_some, Option.some.injEq, DataW.lit.injEq, Lit.int.injEq, true_and] at e7
      exact e7.symm
    rw [hj] at h2
    rw [hz]
    exact Option.some.inj h2
  show W.cell? ⟨0, 0 + (4 * a + b), none⟩ = some v
  rw [Nat.zero_add, World.var?_cell hg hv (4 * a + b), hv2]
  simpa using hcell
theorem door_met (os : Os) (args : Array Value) : laidMetH Tryd.prog laidR ((World.doorLaid Tryd.prog 400 os).forCall (fun _ _ => 0) ⟨#[], args, []⟩).memory :=
  laidMetH_of_parts3 (fuel := 8) (laidMet_of_run' 8 (by kernel_rfl) (by kernel_rfl)) (by kernel_rfl) (by kernel_rfl)
section
variable {H : Type} {enc' : TypeId × Value → H} {w : World} {base b0 : Nat} {spare : Nat → Bool} {held : Bool} {r : Reach} {v : Value} {d : DataW H} {p : List MemPlace}
theorem open_u8 (hv : Value.okWide Tryd.prog w r b0 5 v) (h : DataW.Trod enc' Tryd.prog w base spare held 5 v d p) : ∃ c : UInt8, v = .int .u8 c.toNat := by
  obtain ⟨x, rfl, rfl, rfl, hx⟩ := open_int Tryd.underlying5 hv h
  simp [Lit.wf, IntKind.min, IntKind.max, IntKind.signed, IntKind.bits] at hx
  refine ⟨UInt8.ofNat x.toNat, ?_⟩
  have : (UInt8.ofNat x.toNat).toNat = x.toNat := by simp; omega
  rw [this, Int.toNat_of_nonneg (by omega)]
end
end Go.Proofs.YtpbbphjhjjpkjaaDoor
