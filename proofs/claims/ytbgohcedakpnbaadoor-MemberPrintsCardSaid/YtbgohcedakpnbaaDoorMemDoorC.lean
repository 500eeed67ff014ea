/- What is listed lies there when MemberPrints begins. -/
import Derived.Test.YtbgohcedakpnbaaDoorMemU
import Derived.Test.YtbgohcedakpnbaaDoorDoorOpen
import Derived.Test.YtbgohcedakpnbaaDoorLaw
import Derived.Test.YtbgohcedakpnbaaDoorTie
import Derived.Test.YtbgohcedakpnbaaDoorCards
import Derived.Handed
import Derived.ProofKit
import Derived.LaidMore
import Derived.OpenShut
import Derived.Stop.Joined
import Derived.SevenTiedAt
import Derived.Lib.LaidTab
set_option linter.unusedVariables false
namespace Go.Proofs.YtbgohcedakpnbaaDoor
open Go.RowKit Go.ChangeShapes Go.WideShapes Go.ChangeAt Go.Deep
def laidR : List (String × DataW Unit) := [("math/bits.deBruijn32tab", Rows.laid_math_bits_deBruijn32tab), ("math/bits.deBruijn64tab", Rows.laid_math_bits_deBruijn64tab), ("internal/strconv.uint64pow10", Rows.laid_internal_strconv_uint64pow10), ("strconv.ErrRange", Rows.laid_strconv_ErrRange), ("strconv.ErrSyntax", Rows.laid_strconv_ErrSyntax)]
theorem laidPow_eq : (Rows.laid_internal_strconv_uint64pow10 : DataW Unit) = Lib.tabData .u64 Lib.pow10Tab := by kernel_rfl
theorem pows_of_laid {W : World} (h : laidMetH Tryd.prog laidR W) : Pows W := by
  unfold laidR at h
  rw [MakeChecks.laidMetH_plain _ _ _ (by kernel_rfl)] at h
  obtain ⟨ps, ⟨g1, t1, cs1, f1, p1, q1, _, _, _, _, ⟨g2, t2, cs2, f2, p2, q2, _, _, _, _, ⟨g, t, cs, fuel, p, q, hg, ht, hv, hd, _⟩, _⟩, _⟩, _⟩ := h
  obtain rfl := Option.some.inj ((show Tryd.prog.globalNamed "internal/strconv.uint64pow10" = some 2 by kernel_rfl).symm.trans hg)
  obtain rfl := Option.some.inj ((show (Tryd.prog.globals[2]?).map (·.type) = some 151 by kernel_rfl).symm.trans ht)
  have c1 : Tryd.prog.cellsOf 86 = 1 := by kernel_rfl
  have c20 : Tryd.prog.cellsOf 151 = 20 := by kernel_rfl
  unfold Pows Lib.TabIs
  rw [laidPow_eq] at hd
  rw [hv, ← Lib.cells_of_tab Tryd.underlying151 Tryd.underlying86 c1 c20 hd]
theorem iface_of {H : Type} {enc : TypeId × Value → H} {P : Program} {w : World} {base : Nat} {sp : Nat → Bool} {held : Bool} {fuel : Nat} {t : TypeId} {cs : List Value} {ms : Array (String × TypeId)} {nm : String} {x : DataW H} {p : List MemPlace} (ht : P.underlying t = some (.interface ms)) (h : DataW.trod enc P w base sp held fuel t cs = some (.iface nm x, p)) : ∃ u v, cs = [.iface u v] := by
  cases fuel with
  | zero => simp [DataW.trod] at h
  | succ n =>
    rw [DataW.trod_step] at h
    unfold DataW.trodStep at h
    rw [ht] at h
    split at h <;> simp_all
theorem errs_of_laid {W : World} (h : laidMetH Tryd.prog laidR W) : Errs W := by
  unfold laidR at h
  rw [MakeChecks.laidMetH_plain _ _ _ (by kernel_rfl)] at h
  obtain ⟨ps, ⟨g1, t1, cs1, f1, p1, q1, hg1, ht1, hv1, hd1, ⟨g2, t2, cs2, f2, p2, q2, hg2, ht2, hv2, hd2, ⟨g3, t3, cs3, f3, p3, q3, hg3, ht3, hv3, hd3, ⟨g4, t4, cs4, f4, p4, q4, hg4, ht4, hv4, hd4, ⟨g5, t5, cs5, f5, p5, q5, hg5, ht5, hv5, hd5, _⟩, _⟩, _⟩, _⟩, _⟩, _⟩ := h
  have one : ∀ (nm : String) (g0 g : Nat) (t : TypeId) (cs : Array Value) (f : Nat) (x : DataW Unit) (k : String) (p : List MemPlace), Tryd.prog.globalNamed nm = some g0 → (Tryd.prog.globals[g0]?).map (·.type) = some 61 → Tryd.prog.globalNamed nm = some g → (Tryd.prog.globals[g]?).map (·.type) = some t → W.var? Tryd.prog nm = some cs → DataW.trod (fun _ => ()) Tryd.prog W 0 (fun _ => true) false f t cs.toList = some (.iface k x, p) → ∃ u v, W.cell? ⟨g0, 0, none⟩ = some (.iface u v) := by
    intro nm g0 g t cs f x k p h1 h2 h3 h4 h5 h6
    obtain rfl := Option.some.inj (h1.symm.trans h3)
    obtain rfl := Option.some.inj (h2.symm.trans h4)
    obtain ⟨u, v, hc⟩ := iface_of Tryd.underlying61 h6
    refine ⟨u, v, ?_⟩
    rw [World.var?_cell h1 h5 0]
    have : cs = #[.iface u v] := by cases cs; simp_all
    rw [this]
    rfl
  exact ⟨one "strconv.ErrSyntax" 3 _ _ _ _ _ _ _ (by kernel_rfl) (by kernel_rfl) hg5 ht5 hv5 hd5, one "strconv.ErrRange" 4 _ _ _ _ _ _ _ (by kernel_rfl) (by kernel_rfl) hg4 ht4 hv4 hd4⟩
theorem door_met (os : Os) (args : Array Value) : laidMetH Tryd.prog laidR ((World.doorLaid Tryd.prog 400 os).forCall (fun _ _ => 0) ⟨#[], args, []⟩).memory :=
  laidMetH_of_parts3 (fuel := 8) (laidMet_of_run' 8 (by kernel_rfl) (by kernel_rfl)) (by kernel_rfl) (by kernel_rfl)
end Go.Proofs.YtbgohcedakpnbaaDoor
