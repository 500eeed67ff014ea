/- What is listed lies there when a law of seat top begins; reading a script. -/
import Derived.Test.YtpkomloblhbkiaaGreatDoorTopC
import Derived.Test.YtpkomloblhbkiaaGreatDoorVolA
import Derived.Test.YtpkomloblhbkiaaGreatDoorRowsOpen
import Derived.Test.YtpkomloblhbkiaaGreatDoorItoa
import Derived.Test.YtpkomloblhbkiaaGreatDoorTie
import Derived.Test.YtpkomloblhbkiaaGreatDoorCards
import Derived.Handed
import Derived.ProofKit
import Derived.LaidMore
import Derived.OpenShut
import Derived.Stop.Joined
import Derived.SevenTiedAt
import Derived.Lib.LaidTab
set_option linter.unusedVariables false
namespace Go.Proofs.YtpkomloblhbkiaaGreatDoor
open Go.RowKit Go.ChangeShapes Go.WideShapes Go.ChangeAt Go.Deep
def laidR : List (String × DataW Unit) := [("math/bits.deBruijn32tab", Rows.laid_math_bits_deBruijn32tab), ("math/bits.deBruijn64tab", Rows.laid_math_bits_deBruijn64tab), ("internal/strconv.uint64pow10", Rows.laid_internal_strconv_uint64pow10), ("keyhole/stream.turns", Rows.laid_keyhole_stream_turns), ("keyhole/digest.rounds", Rows.laid_keyhole_digest_rounds)]
theorem laidPow_eq : (Rows.laid_internal_strconv_uint64pow10 : DataW Unit) = Lib.tabData .u64 Lib.pow10Tab := by kernel_rfl
theorem pows_of_laid {W : World} (h : laidMetH Tryz.prog laidR W) : Pows W := by
  unfold laidR at h
  rw [MakeChecks.laidMetH_plain _ _ _ (by kernel_rfl)] at h
  obtain ⟨ps, ⟨g1, t1, cs1, f1, p1, q1, _, _, _, _, ⟨g2, t2, cs2, f2, p2, q2, _, _, _, _, ⟨g, t, cs, fuel, p, q, hg, ht, hv, hd, _⟩, _⟩, _⟩, _⟩ := h
  obtain rfl := Option.some.inj ((show Tryz.prog.globalNamed "internal/strconv.uint64pow10" = some 2 by kernel_rfl).symm.trans hg)
  obtain rfl := Option.some.inj ((show (Tryz.prog.globals[2]?).map (·.type) = some 221 by kernel_rfl).symm.trans ht)
  have c1 : Tryz.prog.cellsOf 213 = 1 := by kernel_rfl
  have c20 : Tryz.prog.cellsOf 221 = 20 := by kernel_rfl
  unfold Pows Lib.TabIs
  rw [laidPow_eq] at hd
  rw [hv, ← Lib.cells_of_tab Tryz.underlying221 Tryz.underlying213 c1 c20 hd]
def rowD (p : Nat × Nat × Nat × Nat) : DataW Unit := .agg ([p.1, p.2.1, p.2.2.1, p.2.2.2].map fun x : Nat => .lit (.int .i64 (x : Int)))
set_option maxRecDepth 100000 in
theorem laidT_eq : (Rows.laid_keyhole_stream_turns : DataW Unit) = .agg (turnsL.map rowD) := by kernel_rfl
set_option maxRecDepth 100000 in
theorem turns_of_laid {W : World} (h : laidMetH Tryz.prog laidR W) : Turns W := by
  unfold laidR at h
  rw [MakeChecks.laidMetH_plain _ _ _ (by kernel_rfl)] at h
  obtain ⟨ps, ⟨g1, t1, cs1, f1, p1, q1, _, _, _, _, ⟨g2, t2, cs2, f2, p2, q2, _, _, _, _, ⟨g3, t3, cs3, f3, p3, q3, _, _, _, _, ⟨g, t, cs, fuel, p, q, hg, ht, hv, hd, _⟩, _⟩, _⟩, _⟩, _⟩ := h
  obtain rfl := Option.some.inj ((show Tryz.prog.globalNamed "keyhole/stream.turns" = some 1 by kernel_rfl).symm.trans hg)
  obtain rfl := Option.some.inj ((show (Tryz.prog.globals[1]?).map (·.type) = some 189 by kernel_rfl).symm.trans ht)
  obtain ⟨xs, m, _, ex, hcl, hl, hel⟩ := DataW.trod_array Tryz.underlying189 hd
  have c4 : Tryz.prog.cellsOf 188 = 4 := by kernel_rfl
  have c1 : Tryz.prog.cellsOf 3 = 1 := by kernel_rfl
  have e3 : (xs.map (·.1)) = turnsL.map rowD := by
    have := (Prod.mk.inj ex).1
    rw [laidT_eq] at this
    exact (DataW.agg.inj this).symm
  intro j v hj
  have hj32 : j < 32 := by have := (List.getElem?_eq_some_iff.1 hj).1; simpa [turnCells, turnsL] using this
  obtain ⟨a, b, hb, rfl⟩ : ∃ a b, b < 4 ∧ j = 4 * a + b := ⟨j / 4, j % 4, Nat.mod_lt _ (by decide), by omega⟩
  have ha : a < 8 := by omega
  have hA := hel a ha
  rw [c4, List.getElem?_eq_getElem (by omega : a < xs.length)] at hA
  obtain ⟨ys, m2, _, ey, _, hl2, hel2⟩ := DataW.trod_array Tryz.underlying188 hA
  have hB := hel2 b hb
  rw [c1, Nat.mul_one, List.getElem?_eq_getElem (by omega : b < ys.length)] at hB
  obtain ⟨z, e1, e2, _⟩ := DataW.trod_int Tryz.underlying3 hB
  have e4 : (xs.map (·.1))[a]? = (turnsL.map rowD)[a]? := by rw [e3]
  rw [List.getElem?_map, List.getElem?_map, List.getElem?_eq_getElem (by omega : a < xs.length), List.getElem?_eq_getElem (by exact ha : a < turnsL.length)] at e4
  have e5 : xs[a].1 = rowD turnsL[a] := by simpa using e4
  have e6 : (ys.map (·.1)) = [turnsL[a].1, turnsL[a].2.1, turnsL[a].2.2.1, turnsL[a].2.2.2].map fun x : Nat => (DataW.lit (.int .i64 (x : Int)) : DataW Unit) := by
    have := congrArg Prod.fst ey
    rw [e5] at this
    exact (DataW.agg.inj this).symm
  have e7 : (ys.map (·.1))[b]? = some ys[b].1 := by rw [List.getElem?_map, List.getElem?_eq_getElem (by omega : b < ys.length)]; rfl
  rw [e6, e2, List.getElem?_map] at e7
  have hcell : cs.toList[4 * a + b]? = some (.int .i64 z) := by
    have h0 : ((((cs.toList.drop (a * 4)).take 4).drop b).take 1)[0]? = some (.int .i64 z) := by rw [e1]; rfl
    rw [List.getElem?_take_of_lt (by decide), List.getElem?_drop, List.getElem?_take_of_lt (by omega), List.getElem?_drop] at h0
    rw [show 4 * a + b = a * 4 + (b + 0) by omega]
    exact h0
  have hv2 : v = .int .i64 z := by
    have h1 : ∀ i : Fin 8, ∀ k : Fin 4, ∀ x : Nat, [turnsL[i.1].1, turnsL[i.1].2.1, turnsL[i.1].2.2.1, turnsL[i.1].2.2.2][k.1]? = some x → turnCells[4 * i.1 + k.1]? = some (.int .i64 (x : Int)) := by
      intro i k x hx
      match i, k with
      | ⟨0, _⟩, ⟨0, _⟩ | ⟨0, _⟩, ⟨1, _⟩ | ⟨0, _⟩, ⟨2, _⟩ | ⟨0, _⟩, ⟨3, _⟩ | ⟨1, _⟩, ⟨0, _⟩ | ⟨1, _⟩, ⟨1, _⟩ | ⟨1, _⟩, ⟨2, _⟩ | ⟨1, _⟩, ⟨3, _⟩ | ⟨2, _⟩, ⟨0, _⟩ | ⟨2, _⟩, ⟨1, _⟩ | ⟨2, _⟩, ⟨2, _⟩ | ⟨2, _⟩, ⟨3, _⟩ | ⟨3, _⟩, ⟨0, _⟩ | ⟨3, _⟩, ⟨1, _⟩ | ⟨3, _⟩, ⟨2, _⟩ | ⟨3, _⟩, ⟨3, _⟩ | ⟨4, _⟩, ⟨0, _⟩ | ⟨4, _⟩, ⟨1, _⟩ | ⟨4, _⟩, ⟨2, _⟩ | ⟨4, _⟩, ⟨3, _⟩ | ⟨5, _⟩, ⟨0, _⟩ | ⟨5, _⟩, ⟨1, _⟩ | ⟨5, _⟩, ⟨2, _⟩ | ⟨5, _⟩, ⟨3, _⟩ | ⟨6, _⟩, ⟨0, _⟩ | ⟨6, _⟩, ⟨1, _⟩ | ⟨6, _⟩, ⟨2, _⟩ | ⟨6, _⟩, ⟨3, _⟩ | ⟨7, _⟩, ⟨0, _⟩ | ⟨7, _⟩, ⟨1, _⟩ | ⟨7, _⟩, ⟨2, _⟩ | ⟨7, _⟩, ⟨3, _⟩ =>
        injection hx with hx
        subst hx
        rfl
    obtain ⟨x, hx⟩ : ∃ x, [turnsL[a].1, turnsL[a].2.1, turnsL[a].2.2.1, turnsL[a].2.2.2][b]? = some x := ⟨_, List.getElem?_eq_getElem (show b < 4 from hb)⟩
    have h2 := h1 ⟨a, ha⟩ ⟨b, hb⟩ x hx
    rw [hx] at e7
    have hz : z = (x : Int) := by
      simp only [Option.map_some, Option.some.injEq, DataW.lit.injEq, Lit.int.injEq, true_and] at e7
      exact e7.symm
    rw [hj] at h2
    rw [hz]
    exact Option.some.inj h2
  show W.cell? ⟨1, 0 + (4 * a + b), none⟩ = some v
  rw [Nat.zero_add, World.var?_cell hg hv (4 * a + b), hv2]
  simpa using hcell
set_option maxRecDepth 100000 in
theorem laidK_eq : (Rows.laid_keyhole_digest_rounds : DataW Unit) = .agg (K64.map fun x : Nat => .lit (.int .i64 (x : Int))) := by kernel_rfl
set_option maxRecDepth 100000 in
theorem rounds_of_laid {W : World} (h : laidMetH Tryz.prog laidR W) : Rounds W := by
  unfold laidR at h
  rw [MakeChecks.laidMetH_plain _ _ _ (by kernel_rfl)] at h
  obtain ⟨ps, ⟨g1, t1, cs1, f1, p1, q1, _, _, _, _, ⟨g2, t2, cs2, f2, p2, q2, _, _, _, _, ⟨g3, t3, cs3, f3, p3, q3, _, _, _, _, ⟨g4, t4, cs4, f4, p4, q4, _, _, _, _, ⟨g, t, cs, fuel, p, q, hg, ht, hv, hd, _⟩, _⟩, _⟩, _⟩, _⟩, _⟩ := h
  obtain rfl := Option.some.inj ((show Tryz.prog.globalNamed "keyhole/digest.rounds" = some 0 by kernel_rfl).symm.trans hg)
  obtain rfl := Option.some.inj ((show (Tryz.prog.globals[0]?).map (·.type) = some 142 by kernel_rfl).symm.trans ht)
  obtain ⟨xs, m, _, ex, _, hl, hel⟩ := DataW.trod_array Tryz.underlying142 hd
  have c5 : Tryz.prog.cellsOf 3 = 1 := by kernel_rfl
  intro r x hx
  have hr : r < 64 := by have := (List.getElem?_eq_some_iff.1 hx).1; rw [K64_len] at this; exact this
  have hE := hel r hr
  rw [c5, Nat.mul_one, List.getElem?_eq_getElem (by omega)] at hE
  obtain ⟨z, e1, e2, _⟩ := DataW.trod_int Tryz.underlying3 hE
  have e3 : (xs.map (·.1)) = K64.map fun x : Nat => .lit (.int .i64 (x : Int)) := by
    have := (Prod.mk.inj ex).1
    rw [laidK_eq] at this
    exact (DataW.agg.inj this).symm
  have e4 : (xs.map (·.1))[r]? = (K64.map fun x : Nat => (DataW.lit (.int .i64 (x : Int)) : DataW Unit))[r]? := by rw [e3]
  rw [List.getElem?_map, List.getElem?_map, List.getElem?_eq_getElem (by omega : r < xs.length), hx, e2] at e4
  have hz : z = (x : Int) := by
    simp only [Option.map_some, Option.some.injEq, DataW.lit.injEq, Lit.int.injEq, true_and] at e4
    exact e4
  rw [World.var?_cell hg hv r, ← hz]
  have : cs.toList[r]? = some (.int .i64 z) := by
    have h0 : ((cs.toList.drop r).take 1)[0]? = some (.int .i64 z) := by rw [e1]; rfl
    simpa using h0
  simpa using this
theorem env_of_laid {W : World} (h : laidMetH Tryz.prog laidR W) : Env W := ⟨rounds_of_laid h, pows_of_laid h, turns_of_laid h⟩
theorem door_met (os : Os) (args : Array Value) : laidMetH Tryz.prog laidR ((World.doorLaid Tryz.prog 400 os).forCall (fun _ _ => 0) ⟨#[], args, []⟩).memory :=
  laidMetH_of_parts3 (fuel := 8) (laidMet_of_run' 8 (by kernel_rfl) (by kernel_rfl)) (by kernel_rfl) (by kernel_rfl)
set_option maxRecDepth 100000 in
theorem cells_step : Tryz.prog.cellsOf 32 = 5 := by kernel_rfl
set_option maxRecDepth 100000 in
theorem cells_ints5 : Tryz.prog.cellsOf 29 = 1 := by kernel_rfl
set_option maxRecDepth 100000 in
theorem cells_strs5 : Tryz.prog.cellsOf 30 = 1 := by kernel_rfl
set_option maxRecDepth 100000 in
theorem bytes_step : Tryz.prog.bytesOf 32 = 104 := by kernel_rfl
section
variable {H : Type} {enc' : TypeId × Value → H} {w : World} {base b0 : Nat} {spare : Nat → Bool} {held : Bool} {r : Reach} {v : Value} {d : DataW H} {p : List MemPlace}
set_option maxRecDepth 100000 in
theorem trod_ints5 (n : Nat) (cs : List Value) (x : DataW H × List MemPlace) (h : DataW.trod enc' Tryz.prog w base spare held n 29 cs = some x) (hw : Light 29 x.1) : ∃ A k c L, cs = [.slice A k c] ∧ SlR encI 1 w w.heap.size A k L ∧ ∀ o ∈ L, WfI o := by
  obtain ⟨A', n', c', L, e, hS, hc, hm, ho, hby⟩ := open_row (enc := encI) (sz := 1) (Ok := WfI) Tryz.underlying29 cells_int (by omega) trod_i64 h hw
  exact ⟨A', n', c', L, e, hS, ho⟩
set_option maxRecDepth 100000 in
theorem trod_strs5 (n : Nat) (cs : List Value) (x : DataW H × List MemPlace) (h : DataW.trod enc' Tryz.prog w base spare held n 30 cs = some x) (hw : Light 30 x.1) : ∃ A k c L, cs = [.slice A k c] ∧ SlR encS 1 w w.heap.size A k L ∧ ∀ o ∈ L, StrOk o := by
  obtain ⟨A', n', c', L, e, hS, hc, hm, ho, hby⟩ := open_row (enc := encS) (sz := 1) (Ok := StrOk) Tryz.underlying30 cells_str (by omega) trod_str h hw
  exact ⟨A', n', c', L, e, hS, ho⟩
set_option maxRecDepth 100000 in
theorem trod_step5 (n : Nat) (cs : List Value) (x : DataW H × List MemPlace) (h : DataW.trod enc' Tryz.prog w base spare held n 32 cs = some x) (hw : Light 32 x.1) : ∃ l, cs = encT l ∧ TOk w l := by
  obtain ⟨xs, m, _, hx, hlen, hyl, hg⟩ := DataW.trod_struct Tryz.underlying32 h
  subst hx
  rw [cells_step] at hlen
  have hyl2 : xs.length = 5 := hyl
  match cs, hlen with
  | [c0, c1, c2, c3, c4], _ =>
    match xs, hyl2 with
    | [y0, y1, y2, y3, y4], _ =>
      have h0 : DataW.trod enc' Tryz.prog w base spare held m 29 [c0] = some y0 := by simpa [cells_int, cells_ints5, cells_strs5] using hg 0 _ rfl
      have h1 : DataW.trod enc' Tryz.prog w base spare held m 30 [c1] = some y1 := by simpa [cells_int, cells_ints5, cells_strs5] using hg 1 _ rfl
      have h2 : DataW.trod enc' Tryz.prog w base spare held m 3 [c2] = some y2 := by simpa [cells_int, cells_ints5, cells_strs5] using hg 2 _ rfl
      have h3 : DataW.trod enc' Tryz.prog w base spare held m 29 [c3] = some y3 := by simpa [cells_int, cells_ints5, cells_strs5] using hg 3 _ rfl
      have h4 : DataW.trod enc' Tryz.prog w base spare held m 29 [c4] = some y4 := by simpa [cells_int, cells_ints5, cells_strs5] using hg 4 _ rfl
      obtain ⟨A0, k0, d0, L0, e0, s0, b0⟩ := trod_ints5 _ _ _ h0 (light_struct Tryz.underlying32 hw (j := 0) rfl rfl)
      obtain ⟨A1, k1, d1, L1, e1, s1, b1⟩ := trod_strs5 _ _ _ h1 (light_struct Tryz.underlying32 hw (j := 1) rfl rfl)
      obtain ⟨i2, e2, _, _⟩ := DataW.trod_int Tryz.underlying3 h2
      obtain ⟨A3, k3, d3, L3, e3, s3, b3⟩ := trod_ints5 _ _ _ h3 (light_struct Tryz.underlying32 hw (j := 3) rfl rfl)
      obtain ⟨A4, k4, d4, L4, e4, s4, b4⟩ := trod_ints5 _ _ _ h4 (light_struct Tryz.underlying32 hw (j := 4) rfl rfl)
      simp only [List.cons.injEq, and_true] at e0 e1 e2 e3 e4
      subst e0 e1 e2 e3 e4
      exact ⟨⟨A0, k0, d0, L0, A1, k1, d1, L1, i2, A3, k3, d3, L3, A4, k4, d4, L4⟩, rfl, s0, s1, s3, s4, b1, fun i hi => (b3 i hi).2, fun i hi => (b4 i hi).2⟩
set_option maxRecDepth 100000 in
theorem open_steps (hv : Value.okWide Tryz.prog w r b0 22 v) (h : DataW.Trod enc' Tryz.prog w base spare held 22 v d p) (hw : Light 22 d) : ∃ A n c L, v = .slice A n c ∧ SlR encT 5 w w.heap.size A n L ∧ n ≤ 140737488351232 ∧ (∀ o ∈ L, TOk w o) := by
  obtain ⟨A, n, c, rfl⟩ := okWide_slice Tryz.underlying22 hv
  obtain ⟨fuel, hf⟩ := h
  obtain ⟨A', n', c', L, e, hS, hc, hm, ho, hby⟩ := open_row (enc := encT) (sz := 5) (Ok := TOk w) Tryz.underlying22 cells_step (by omega) trod_step5 hf hw
  simp only [Value.cells, List.cons.injEq, and_true, Value.slice.injEq] at e
  obtain ⟨rfl, rfl, rfl⟩ := e
  rw [bytes_step] at hby
  exact ⟨A, n, c, L, rfl, hS, by omega, ho⟩
end
end Go.Proofs.YtpkomloblhbkiaaGreatDoor
