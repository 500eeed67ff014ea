/- What is listed lies there when MemberBack begins. -/
import Derived.Test.YtbgohcedakpnbaaGreatDoorMemY
import Derived.Test.YtbgohcedakpnbaaGreatDoorDoorOpen
import Derived.Test.YtbgohcedakpnbaaGreatDoorLaw
import Derived.Test.YtbgohcedakpnbaaGreatDoorTie
import Derived.Test.YtbgohcedakpnbaaGreatDoorCards
import Derived.Handed
import Derived.ProofKit
import Derived.LaidMore
import Derived.OpenShut
import Derived.Stop.Joined
import Derived.SevenTiedAt
import Derived.Lib.LaidTab
set_option linter.unusedVariables false
namespace Go.Proofs.YtbgohcedakpnbaaGreatDoor
open Go.RowKit Go.ChangeShapes Go.WideShapes Go.ChangeAt Go.Deep
def laidR : List (String × DataW Unit) := [("math/bits.deBruijn32tab", Rows.laid_math_bits_deBruijn32tab), ("math/bits.deBruijn64tab", Rows.laid_math_bits_deBruijn64tab), ("internal/strconv.uint64pow10", Rows.laid_internal_strconv_uint64pow10), ("keyhole/stream.turns", Rows.laid_keyhole_stream_turns), ("strconv.ErrRange", Rows.laid_strconv_ErrRange), ("strconv.ErrSyntax", Rows.laid_strconv_ErrSyntax)]
theorem laidPow_eq : (Rows.laid_internal_strconv_uint64pow10 : DataW Unit) = Lib.tabData .u64 Lib.pow10Tab := by kernel_rfl
theorem pows_of_laid {W : World} (h : laidMetH Tryz.prog laidR W) : Pows W := by
  unfold laidR at h
  rw [MakeChecks.laidMetH_plain _ _ _ (by kernel_rfl)] at h
  obtain ⟨ps, ⟨g1, t1, cs1, f1, p1, q1, _, _, _, _, ⟨g2, t2, cs2, f2, p2, q2, _, _, _, _, ⟨g, t, cs, fuel, p, q, hg, ht, hv, hd, _⟩, _⟩, _⟩, _⟩ := h
  obtain rfl := Option.some.inj ((show Tryz.prog.globalNamed "internal/strconv.uint64pow10" = some 2 by kernel_rfl).symm.trans hg)
  obtain rfl := Option.some.inj ((show (Tryz.prog.globals[2]?).map (·.type) = some 122 by kernel_rfl).symm.trans ht)
  have c1 : Tryz.prog.cellsOf 106 = 1 := by kernel_rfl
  have c20 : Tryz.prog.cellsOf 122 = 20 := by kernel_rfl
  unfold Pows Lib.TabIs
  rw [laidPow_eq] at hd
  rw [hv, ← Lib.cells_of_tab Tryz.underlying122 Tryz.underlying106 c1 c20 hd]
def rowD (p : Nat × Nat × Nat × Nat) : DataW Unit := .agg ([p.1, p.2.1, p.2.2.1, p.2.2.2].map fun x : Nat => .lit (.int .i64 (x : Int)))
set_option maxRecDepth 100000 in
theorem laidT_eq : (Rows.laid_keyhole_stream_turns : DataW Unit) = .agg (turnsL.map rowD) := by kernel_rfl
set_option maxRecDepth 100000 in
theorem turns_of_laid {W : World} (h : laidMetH Tryz.prog laidR W) : Turns W := by
  unfold laidR at h
  rw [MakeChecks.laidMetH_plain _ _ _ (by kernel_rfl)] at h
  obtain ⟨ps, ⟨g1, t1, cs1, f1, p1, q1, _, _, _, _, ⟨g2, t2, cs2, f2, p2, q2, _, _, _, _, ⟨g3, t3, cs3, f3, p3, q3, hg3, ht3, hv3, hd3, ⟨g, t, cs, fuel, p, q, hg, ht, hv, hd, _⟩, _⟩, _⟩, _⟩, _⟩ := h
  obtain rfl := Option.some.inj ((show Tryz.prog.globalNamed "keyhole/stream.turns" = some 0 by kernel_rfl).symm.trans hg)
  obtain rfl := Option.some.inj ((show (Tryz.prog.globals[0]?).map (·.type) = some 91 by kernel_rfl).symm.trans ht)
  obtain ⟨xs, m, _, ex, hcl, hl, hel⟩ := DataW.trod_array Tryz.underlying91 hd
  have c4 : Tryz.prog.cellsOf 90 = 4 := by kernel_rfl
  have c1 : Tryz.prog.cellsOf 3 = 1 := by kernel_rfl
  have e3 : (xs.map (·.1)) = turnsL.map rowD := by
    have := (Prod.mk.inj ex).1
    rw [laidT_eq] at this
    exact (DataW.agg.inj this).symm
  intro j v hj
  have hj32 : j < 32 := by have := (List.getElem?_eq_some_iff.1 hj).1; simpa [turnCells, turnsL] using this
  obtain ⟨a, b, hb, rfl⟩ : ∃ a b, b < 4 ∧ j = 4 * a + b := ⟨j / 4, j % 4, Nat.mod_lt _ (by decide), by omega⟩
  have ha : a < 8 := by omega
  have hA := hel a ha
  rw [c4, List.getElem?_eq_getElem (by omega : a < xs.length)] at hA
  obtain ⟨ys, m2, _, ey, _, hl2, hel2⟩ := DataW.trod_array Tryz.underlying90 hA
  have hB := hel2 b hb
  rw [c1, Nat.mul_one, List.getElem?_eq_getElem (by omega : b < ys.length)] at hB
  obtain ⟨z, e1, e2, _⟩ := DataW.trod_int Tryz.underlying3 hB
  have e4 : (xs.map (·.1))[a]? = (turnsL.map rowD)[a]? := by rw [e3]
  rw [List.getElem?_map, List.getElem?_map, List.getElem?_eq_getElem (by omega : a < xs.length), List.getElem?_eq_getElem (by exact ha : a < turnsL.length)] at e4
  have e5 : xs[a].1 = rowD turnsL[a] := by simpa using e4
  have e6 : (ys.map (·.1)) = [turnsL[a].1, turnsL[a].2.1, turnsL[a].2.2.1, turnsL[a].2.2.2].map fun x : Nat => (DataW.lit (.int .i64 (x : Int)) : DataW Unit) := by
    have := congrArg Prod.fst ey
    rw [e5] at this
    exact (DataW.agg.inj this).symm
  have e7 : (ys.map (·.1))[b]? = some ys[b].1 := by rw [List.getElem?_map, List.getElem?_eq_getElem (by omega : b < ys.length)]; rfl
  rw [e6, e2, List.getElem?_map] at e7
  have hcell : cs.toList[4 * a + b]? = some (.int .i64 z) := by
    have h0 : ((((cs.toList.drop (a * 4)).take 4).drop b).take 1)[0]? = some (.int .i64 z) := by rw [e1]; rfl
    rw [List.getElem?_take_of_lt (by decide), List.getElem?_drop, List.getElem?_take_of_lt (by omega), List.getElem?_drop] at h0
    rw [show 4 * a + b = a * 4 + (b + 0) by omega]
    exact h0
  have hv2 : v = .int .i64 z := by
    have h1 : ∀ i : Fin 8, ∀ k : Fin 4, ∀ x : Nat, [turnsL[i.1].1, turnsL[i.1].2.1, turnsL[i.1].2.2.1, turnsL[i.1].2.2.2][k.1]? = some x → turnCells[4 * i.1 + k.1]? = some (.int .i64 (x : Int)) := by
      intro i k x hx
      match i, k with
      | ⟨0, _⟩, ⟨0, _⟩ | ⟨0, _⟩, ⟨1, _⟩ | ⟨0, _⟩, ⟨2, _⟩ | ⟨0, _⟩, ⟨3, _⟩ | ⟨1, _⟩, ⟨0, _⟩ | ⟨1, _⟩, ⟨1, _⟩ | ⟨1, _⟩, ⟨2, _⟩ | ⟨1, _⟩, ⟨3, _⟩ | ⟨2, _⟩, ⟨0, _⟩ | ⟨2, _⟩, ⟨1, _⟩ | ⟨2, _⟩, ⟨2, _⟩ | ⟨2, _⟩, ⟨3, _⟩ | ⟨3, _⟩, ⟨0, _⟩ | ⟨3, _⟩, ⟨1, _⟩ | ⟨3, _⟩, ⟨2, _⟩ | ⟨3, _⟩, ⟨3, _⟩ | ⟨4, _⟩, ⟨0, _⟩ | ⟨4, _⟩, ⟨1, _⟩ | ⟨4, _⟩, ⟨2, _⟩ | ⟨4, _⟩, ⟨3, _⟩ | ⟨5, _⟩, ⟨0, _⟩ | ⟨5, _⟩, ⟨1, _⟩ | ⟨5, _⟩, ⟨2, _⟩ | ⟨5, _⟩, ⟨3, _⟩ | ⟨6, _⟩, ⟨0, _⟩ | ⟨6, _⟩, ⟨1, _⟩ | ⟨6, _⟩, ⟨2, _⟩ | ⟨6, _⟩, ⟨3, _⟩ | ⟨7, _⟩, ⟨0, _⟩ | ⟨7, _⟩, ⟨1, _⟩ | ⟨7, _⟩, ⟨2, _⟩ | ⟨7, _⟩, ⟨3, _⟩ =>
        injection hx with hx
        subst hx
        rfl
    obtain ⟨x, hx⟩ : ∃ x, [turnsL[a].1, turnsL[a].2.1, turnsL[a].2.2.1, turnsL[a].2.2.2][b]? = some x := ⟨_, List.getElem?_eq_getElem (show b < 4 from hb)⟩
    have h2 := h1 ⟨a, ha⟩ ⟨b, hb⟩ x hx
    rw [hx] at e7
    have hz : z = (x : Int) := by
      simp only [Option.map_some, Option.some.injEq, DataW.lit.injEq, Lit.int.injEq, true_and] at e7
      exact e7.symm
    rw [hj] at h2
    rw [hz]
    exact Option.some.inj h2
  show W.cell? ⟨0, 0 + (4 * a + b), none⟩ = some v
  rw [Nat.zero_add, World.var?_cell hg hv (4 * a + b), hv2]
  simpa using hcell
theorem iface_of {H : Type} {enc : TypeId × Value → H} {P : Program} {w : World} {base : Nat} {sp : Nat → Bool} {held : Bool} {fuel : Nat} {t : TypeId} {cs : List Value} {ms : Array (String × TypeId)} {nm : String} {x : DataW H} {p : List MemPlace} (ht : P.underlying t = some (.interface ms)) (h : DataW.trod enc P w base sp held fuel t cs = some (.iface nm x, p)) : ∃ u v, cs = [.iface u v] := by
  cases fuel with
  | zero => simp [DataW.trod] at h
  | succ n =>
    rw [DataW.trod_step] at h
    unfold DataW.trodStep at h
    rw [ht] at h
    split at h <;> simp_all
theorem errs_of_laid {W : World} (h : laidMetH Tryz.prog laidR W) : Errs W := by
  unfold laidR at h
  rw [MakeChecks.laidMetH_plain _ _ _ (by kernel_rfl)] at h
  obtain ⟨ps, ⟨g1, t1, cs1, f1, p1, q1, hg1, ht1, hv1, hd1, ⟨g2, t2, cs2, f2, p2, q2, hg2, ht2, hv2, hd2, ⟨g3, t3, cs3, f3, p3, q3, hg3, ht3, hv3, hd3, ⟨g4, t4, cs4, f4, p4, q4, hg4, ht4, hv4, hd4, ⟨g5, t5, cs5, f5, p5, q5, hg5, ht5, hv5, hd5, ⟨g6, t6, cs6, f6, p6, q6, hg6, ht6, hv6, hd6, _⟩, _⟩, _⟩, _⟩, _⟩, _⟩, _⟩ := h
  have one : ∀ (nm : String) (g0 g : Nat) (t : TypeId) (cs : Array Value) (f : Nat) (x : DataW Unit) (k : String) (p : List MemPlace), Tryz.prog.globalNamed nm = some g0 → (Tryz.prog.globals[g0]?).map (·.type) = some 44 → Tryz.prog.globalNamed nm = some g → (Tryz.prog.globals[g]?).map (·.type) = some t → W.var? Tryz.prog nm = some cs → DataW.trod (fun _ => ()) Tryz.prog W 0 (fun _ => true) false f t cs.toList = some (.iface k x, p) → ∃ u v, W.cell? ⟨g0, 0, none⟩ = some (.iface u v) := by
    intro nm g0 g t cs f x k p h1 h2 h3 h4 h5 h6
    obtain rfl := Option.some.inj (h1.symm.trans h3)
    obtain rfl := Option.some.inj (h2.symm.trans h4)
    obtain ⟨u, v, hc⟩ := iface_of Tryz.underlying44 h6
    refine ⟨u, v, ?_⟩
    rw [World.var?_cell h1 h5 0]
    have : cs = #[.iface u v] := by cases cs; simp_all
    rw [this]
    rfl
  exact ⟨one "strconv.ErrSyntax" 3 _ _ _ _ _ _ _ (by kernel_rfl) (by kernel_rfl) hg6 ht6 hv6 hd6, one "strconv.ErrRange" 4 _ _ _ _ _ _ _ (by kernel_rfl) (by kernel_rfl) hg5 ht5 hv5 hd5⟩
theorem door_met (os : Os) (args : Array Value) : laidMetH Tryz.prog laidR ((World.doorLaid Tryz.prog 400 os).forCall (fun _ _ => 0) ⟨#[], args, []⟩).memory :=
  laidMetH_of_parts3 (fuel := 8) (laidMet_of_run' 8 (by kernel_rfl) (by kernel_rfl)) (by kernel_rfl) (by kernel_rfl)
end Go.Proofs.YtbgohcedakpnbaaGreatDoor
