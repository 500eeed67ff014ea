/- keyholeref18.Same; the document's record. -/
import Derived.Test.YtbgohcedakpnbaaDoorMemG
import Derived.Test.YtbgohcedakpnbaaDoorTexts
import Derived.Test.YtbgohcedakpnbaaDoorManyT
import Derived.Test.YtbgohcedakpnbaaDoorMemA
import Derived.Deep.QuietTactic
import Derived.BigQuiet
set_option linter.unusedVariables false
set_option linter.unusedSimpArgs false
namespace Go.Proofs.YtbgohcedakpnbaaDoor
open Go.RowKit Go.Shelf
def sameR (r q : Rec) : Bool := decide (r.epoch = q.epoch) && (decide (r.k = q.k) && (textsB r.names q.names && textsB r.pledges q.pledges))
set_option maxRecDepth 100000 in
set_option maxHeartbeats 2000000 in
theorem rsame_any (r q : Rec) (A A' : Option Addr) (n c m d : Nat) (B B' : Option Addr) (n2 c2 m2 d2 : Nat) (w : World) (hN : SlR encS 1 w w.heap.size A n r.names) (hP : SlR encS 1 w w.heap.size A' m r.pledges) (hN2 : SlR encS 1 w w.heap.size B n2 q.names) (hP2 : SlR encS 1 w w.heap.size B' m2 q.pledges) (hn1 : n ≤ 1000000) (hn2 : n2 ≤ 1000000) (hn3 : m ≤ 1000000) (hn4 : m2 ≤ 1000000) :
    Calls Tryd.prog 18 #[recV r A n c A' m d, recV q B n2 c2 B' m2 d2] w fun e w' => e = .returned (.bool (sameR r q)) ∧ Below w.heap.size w w' := by
  have hb0 : Below w.heap.size w ((w.alloc (.cells #[.int .i64 r.epoch, .int .i64 r.k, .slice A n c, .slice A' m d] 24)).alloc (.cells #[.int .i64 q.epoch, .int .i64 q.k, .slice B n2 c2, .slice B' m2 d2] 24)) := by go_grown
  have HB0 := Lib.hid hb0
  have h1 := texts_any r.names q.names A B n n2 c c2 _ ((hN.below hb0).more hb0.size) ((hN2.below hb0).more hb0.size) (by omega) (by omega)
  have HT1 := Lib.hid h1
  have HT2 := Lib.hid (fun W (hW : Below w.heap.size w W) => texts_any r.pledges q.pledges A' B' m m2 d d2 W ((hP.below hW).more hW.size) ((hP2.below hW).more hW.size) (by omega) (by omega))
  have HV : Hid (sameR r q = (decide (r.epoch = q.epoch) && (decide (r.k = q.k) && (textsB r.names q.names && textsB r.pledges q.pledges)))) := Lib.hid rfl
  obtain ⟨V, hV⟩ : ∃ V, sameR r q = V := ⟨_, rfl⟩
  rw [hV] at HV ⊢
  generalize textsB r.names q.names = s1 at *
  generalize textsB r.pledges q.pledges = s2 at *
  clear h1 hN hP hN2 hP2 hV hb0 hn1 hn2 hn3 hn4
  unfold recV
  obtain ⟨r1, r2, r3, r4⟩ := r
  obtain ⟨q1, q2, q3, q4⟩ := q
  dsimp only at *
  by_cases e1 : r1 = q1
  · subst e1
    by_cases e2 : r2 = q2
    · subst e2
      have HV2 : Hid (V = (s1 && s2)) := Lib.hid (by rw [HV.out]; simp)
      clear HV
      cases s1
      · go_enter Tryd.func18, Tryd.ntmps18
        go_wp2_with fail
        refine HT1.out.mono ?_
        rintro e' w1 ⟨rfl, hb1⟩
        go_wp2_with (with_reducible refine end_at ?_)
        refine end_ret (v := .bool false) (by simp [results, Tryd.results18]) rfl ⟨by rw [HV2.out]; rfl, HB0.out.trans (hb1.mono HB0.out.size)⟩
      · go_enter Tryd.func18, Tryd.ntmps18
        go_wp2_with fail
        refine HT1.out.mono ?_
        rintro e' w1 ⟨rfl, hb1⟩
        have hx := (Blk.new w 24 #[.int .i64 r1, .int .i64 r2, .slice A n c, .slice A' m d]).alloc (.cells #[.int .i64 r1, .int .i64 r2, .slice B n2 c2, .slice B' m2 d2] 24)
        have hy := Blk.new_at (g := w.heap.size + 1) (w := w.alloc (.cells #[.int .i64 r1, .int .i64 r2, .slice A n c, .slice A' m d] 24)) (by simp) 24 #[.int .i64 r1, .int .i64 r2, .slice B n2 c2, .slice B' m2 d2]
        have hx1 := hx.below hb1 hx.lt
        have hy1 := hy.below hb1 hy.lt
        have c3 := hx1.cells 3 _ rfl
        have d3 := hy1.cells 3 _ rfl
        simp only [List.getElem_toArray, List.getElem_cons_zero, List.getElem_cons_succ] at c3 d3
        have HB1 := Lib.hid (HB0.out.trans (hb1.mono HB0.out.size))
        clear hx hy hx1 hy1 hb1
        go_wp2_with fail
        refine (HT2.out _ HB1.out).mono ?_
        rintro e' w2 ⟨rfl, hb2⟩
        go_wp2_with (with_reducible refine end_at ?_)
        refine end_ret (v := .bool s2) (by simp [results, Tryd.results18]) rfl ⟨by rw [HV2.out]; simp, HB1.out.trans (hb2.mono HB1.out.size)⟩
    · have t2 : (r2 == q2) = false := by simpa using e2
      have HV2 : Hid (V = false) := Lib.hid (by rw [HV.out]; simp [e2])
      clear HV HT1 HT2
      go_enter Tryd.func18, Tryd.ntmps18
      go_wp2_with (with_reducible refine end_at ?_)
      refine end_ret (v := .bool false) (by simp [results, Tryd.results18]) rfl ⟨by rw [HV2.out], HB0.out⟩
  · have t1 : (r1 == q1) = false := by simpa using e1
    have HV2 : Hid (V = false) := Lib.hid (by rw [HV.out]; simp [e1])
    clear HV HT1 HT2
    go_enter Tryd.func18, Tryd.ntmps18
    go_wp2_with (with_reducible refine end_at ?_)
    refine end_ret (v := .bool false) (by simp [results, Tryd.results18]) rfl ⟨by rw [HV2.out], HB0.out⟩
/-- the document's record -/
def annT : ByteArray := ⟨#[97, 110, 110]⟩
def bobT : ByteArray := ⟨#[98, 111, 98]⟩
def twoR : Rec := ⟨3, 2, [annT, bobT], [tmanyB 255 32, tmanyB 1 32]⟩
set_option maxRecDepth 100000 in
set_option maxHeartbeats 2000000 in
theorem two_any (w : World) : Calls Tryd.prog 43 #[] w fun e w' => ∃ b b', e = .returned (recV twoR (some ⟨b, 0, none⟩) 2 2 (some ⟨b', 0, none⟩) 2 2) ∧ Hid (SlR encS 1 w' w'.heap.size (some ⟨b, 0, none⟩) 2 [annT, bobT]) ∧ Hid (SlR encS 1 w' w'.heap.size (some ⟨b', 0, none⟩) 2 [tmanyB 255 32, tmanyB 1 32]) ∧ Below w.heap.size w w' := by
  have HM1 := Lib.hid (fun W => tmany_any 255 32 W (by omega))
  have HM2 := Lib.hid (fun W => tmany_any 1 32 W (by omega))
  unfold recV twoR
  generalize tmanyB 255 32 = p1 at *
  generalize tmanyB 1 32 = p2 at *
  go_enter Tryd.func43, Tryd.ntmps43
  go_wp2_with fail
  refine (HM1.out _).mono ?_
  rintro e' w1 ⟨rfl, hb1⟩
  go_wp2_with fail
  refine (HM2.out _).mono ?_
  rintro e' w2 ⟨rfl, hb2⟩
  have hx0 := (Blk.new w 24 #[.int .i64 0, .int .i64 0, .slice none 0 0, .slice none 0 0]).alloc (.cells #[.string annT, .string bobT] 9)
  have hy0 : Blk ((w.alloc (.cells #[.int .i64 0, .int .i64 0, .slice none 0 0, .slice none 0 0] 24)).alloc (.cells #[.string annT, .string bobT] 9)) (w.heap.size + 1) 9 #[.string annT, .string bobT] := Blk.new_at (by simp) _ _
  have hx1 := (hx0.below hb1 (by simp; omega)).below hb2 (by have := hb1.size; simp at this; omega)
  have hy1 := (hy0.below hb1 (by simp)).below hb2 (by have := hb1.size; simp at this; omega)
  have hB2 : Below w.heap.size w w2 := Below.trans (by go_grown) ((hb1.mono (by simp; omega)).trans (hb2.mono (by have := hb1.size; simp at this; omega)))
  have hz2 : w.heap.size + 1 + 1 ≤ w2.heap.size := by have h1 := hb1.size; have h2 := hb2.size; simp at h1; omega
  have f0 := hx1.frozen
  have l0 := hx1.lt
  have d0 := hx1.cells 0 _ rfl
  have d1 := hx1.cells 1 _ rfl
  have d2 := hx1.cells 2 _ rfl
  have d3 := hx1.cells 3 _ rfl
  simp only [List.getElem_toArray, List.getElem_cons_zero, List.getElem_cons_succ] at d0 d1 d2 d3
  have HX := Lib.hid (And.intro hx1 (And.intro hy1 hB2))
  clear hx0 hy0 hx1 hy1 hB2 hb1 hb2
  go_wp2_with (with_reducible refine end_at ?_)
  obtain ⟨hx, hy, hB⟩ := HX.out
  have hs := (((((hx.set_ 0 (.int .i64 3)).set_ 1 (.int .i64 2)).set_ 2 (.slice (some ⟨w.heap.size + 1, 0, none⟩) 2 2)).set_ 3 (.slice (some ⟨w2.heap.size, 0, none⟩) 2 2))).alloc (.cells #[.string p1, .string p2] 9)
  simp only [List.setIfInBounds_toArray, List.set_cons_zero, List.set_cons_succ] at hs
  have hld := rec_load hs
  refine end_ret (v := .agg #[.int .i64 3, .int .i64 2, .slice (some ⟨w.heap.size + 1, 0, none⟩) 2 2, .slice (some ⟨w2.heap.size, 0, none⟩) 2 2]) (by simp [results, Tryd.results43, asAddr, hld]) rfl ⟨_, _, rfl, Lib.hid ?_, Lib.hid ?_, ?_⟩
  · exact slr_strs (ty := 9) [annT, bobT] ((((((show Blk w2 _ _ _ from hy).far (by show _ ≠ _; simp) _).far (by show _ ≠ _; simp) _).far (by show _ ≠ _; simp) _).far (by show _ ≠ _; simp) _).alloc _) (by simp; omega)
  · exact slr_strs (ty := 9) [p1, p2] (Blk.new_at (by simp) _ _) (by simp)
  · exact ((((hB.setCell (Nat.le_refl _) _).setCell (Nat.le_refl _) _).setCell (Nat.le_refl _) _).setCell (Nat.le_refl _) _).alloc (by simp; omega) _
end Go.Proofs.YtbgohcedakpnbaaDoor
/- keyholelaw18's rows of the document. -/
namespace Go.Proofs.YtbgohcedakpnbaaDoor
open Go.RowKit Go.Shelf
theorem yields_rowg {P : Program} {ops : Array Oper} {S : World → Prop} {o : Oper} {a : Act} (ty : TypeId) (x : Operand) (ho : o.op = .load ty x) (hgd : Region.wanted o (yielded ops a.tmps) = true) (g : Nat) (hx : a.eval x = .pointer (some ⟨g, 0, none⟩)) (t : TypeId) (cs : Array Value) (d : TypeDesc)
    (hu : P.underlying ty = some d) (hd : (match d with | .struct _ | .array _ _ => true | _ => false) = true) (hi : (P.info? ty).map (·.size) = some cs.size) (hS : ∀ w, S w → w.heap[g]? = some (.cells cs t (0, 0))) :
    YieldsIf P ops S o (.agg cs) a := by
  refine Or.inl ⟨hgd, fun w hw => ?_⟩
  unfold execOp
  simp only [ho, hx, Instr.loadAt, Instr.sureAddr, Sem.run_bind, Sem.run_pure, Result.andThen_ok, run_loadVar_row w g t ty cs (0, 0) d (hS w hw) hu hd hi]
def oddR : Rec := ⟨3, 3, [annT, bobT], [tmanyB 255 32, tmanyB 1 32]⟩
def twoS : ByteArray := printB twoR
theorem two_check : checkB twoR = true := by decide +kernel
theorem odd_check : checkB oddR = false := by decide +kernel
theorem two_place : placeF twoR bobT = (2, true) := by decide +kernel
theorem twoS_size : twoS.size = 148 := by decide +kernel
theorem twoS_head : twoS.extract 0 10 = ⟨#[101, 112, 111, 99, 104, 32, 51, 32, 50, 10]⟩ := by decide +kernel
theorem name_a1 : nameB ⟨#[97, 49]⟩ = true := by decide +kernel
theorem name_A : nameB ⟨#[65]⟩ = false := by decide +kernel
theorem two_small : (∀ s ∈ [annT, bobT], s.size ≤ 140737488351232) ∧ (∀ s ∈ [tmanyB 255 32, tmanyB 1 32], s.size ≤ 140737488351232) := by
  refine ⟨fun s hs => ?_, fun s hs => ?_⟩
  · simp only [List.mem_cons, List.mem_nil_iff, or_false] at hs
    rcases hs with rfl | rfl <;> decide +kernel
  · simp only [List.mem_cons, List.mem_nil_iff, or_false] at hs
    rcases hs with rfl | rfl <;> (rw [tmanyB_size]; omega)
set_option maxRecDepth 100000 in
set_option maxHeartbeats 4000000 in
theorem members_any (w : World) (hG : Pows w) : Calls Tryd.prog 23 #[] w fun e w' => e = .returned (.bool true) ∧ Below w.heap.size w w' := by
  have HG := Lib.hid hG
  clear hG
  go_enter Tryd.func23, Tryd.ntmps23
  go_wp2_with fail
  refine (two_any _).mono ?_
  rintro e' w1 ⟨b1, b1', rfl, hN1, hP1, hb1⟩
  have hpr := mprint_in 3 2 [annT, bobT] [tmanyB 255 32, tmanyB 1 32] b1 0 2 b1' 0 2 2 w1 two_check hN1.out hP1.out (HG.out.below hb1)
  have HPR := Lib.hid hpr
  have HB1 := Lib.hid hb1
  clear hpr hN1 hP1 hb1
  unfold recV twoR
  go_wp2_with fail
  refine HPR.out.mono ?_
  rintro e' w2 ⟨rfl, hb2⟩
  have hB2 := HB1.out.trans (hb2.mono HB1.out.size)
  have HPA := Lib.hid (mparse_good 3 2 [annT, bobT] [tmanyB 255 32, tmanyB 1 32] _ w2 two_check rfl (HG.out.below hB2))
  have HB2 := Lib.hid hB2
  clear hB2 hb2 HPR HB1
  obtain ⟨S, hS⟩ : ∃ S, printB ⟨((3 : Nat) : Int), ((2 : Nat) : Int), [annT, bobT], [tmanyB 255 32, tmanyB 1 32]⟩ = S := ⟨_, rfl⟩
  rw [hS] at HPA ⊢
  have HS : Hid (twoS = S) := Lib.hid hS
  clear hS
  go_wp2_with fail
  refine HPA.out.mono ?_
  rintro e' w3 ⟨A3, A3', c3, d3, rfl, hN3, hP3, hb3⟩
  have hB3 := HB2.out.trans (hb3.mono HB2.out.size)
  have hN3 : Hid (SlR encS 1 w3 w3.heap.size A3 2 [annT, bobT]) := Lib.hid (srow_slr hN3.out rfl)
  have hP3 : Hid (SlR encS 1 w3 w3.heap.size A3' 2 [tmanyB 255 32, tmanyB 1 32]) := Lib.hid (srow_slr hP3.out rfl)
  have HB3 := Lib.hid hB3
  clear hB3 hb3 HPA HB2
  simp only [List.length_cons, List.length_nil, Nat.reduceAdd]
  go_wp2_with fail
  refine (two_any _).mono ?_
  rintro e' w4 ⟨b4, b4', rfl, hN4, hP4, hb4⟩
  have hpl := mplace_any twoR bobT (some ⟨b4, 0, none⟩) (some ⟨b4', 0, none⟩) 2 2 2 2 w4 hN4.out hP4.out two_small.1 two_small.2
  rw [two_place] at hpl
  have HPL := Lib.hid hpl
  clear hpl
  unfold recV twoR at HPL ⊢
  go_wp2_with fail
  refine HPL.out.mono ?_
  rintro e' w5 ⟨rfl, hb5⟩
  have hx3 := Blk.new w3 24 #[.int .i64 3, .int .i64 2, .slice A3 2 c3, .slice A3' 2 d3]
  have hx4 := hx3.below hb4 hx3.lt
  have hx5 := hx4.below hb5 hx4.lt
  have hB35 : Below w3.heap.size w3 w5 := Below.trans (by go_grown) ((hb4.mono (by simp)).trans (hb5.mono (by have := hb4.size; simp at this; omega)))
  have HX5 := Lib.hid (And.intro hx5 hB35)
  clear hx3 hx4 hx5 hb4 hb5 hN4 hP4 HPL hB35
  go_wp2_with fail
  refine (two_any _).mono ?_
  rintro e' w6 ⟨b5, b5', rfl, hN6, hP6, hb6⟩
  have hx6 := HX5.out.1.below hb6 HX5.out.1.lt
  have hB36 := HX5.out.2.trans (hb6.mono HX5.out.2.size)
  unfold recV twoR
  have HX6 := Lib.hid (And.intro hx6 hB36)
  have hB7 : Below w6.heap.size w6 (w6.alloc (.cells #[.int .i64 3, .int .i64 3, .slice (some ⟨b5, 0, none⟩) 2 2, .slice (some ⟨b5', 0, none⟩) 2 2] 24)) := by go_grown
  have hN7 := (hN6.out.below hB7).more hB7.size
  have hP7 := (hP6.out.below hB7).more hB7.size
  have hno := mprint_no oddR (some ⟨b5, 0, none⟩) (some ⟨b5', 0, none⟩) 2 2 2 2 _ hN7 hP7 two_small.1 two_small.2 odd_check
  unfold recV oddR at hno
  have HNO := Lib.hid hno
  have HN7 := Lib.hid (And.intro hN7 hP7)
  have HB7 := Lib.hid hB7
  clear HX5 hx6 hB36 hb6 hno hN7 hP7 hB7 hN6 hP6
  go_wp2_with fail
  refine HNO.out.mono ?_
  rintro e' w7 ⟨rfl, hb7⟩
  have hN8 := (HN7.out.1.below hb7).more hb7.size
  have hP8 := (HN7.out.2.below hb7).more hb7.size
  have hx8 := (HX6.out.1.alloc (.cells #[.int .i64 3, .int .i64 3, .slice (some ⟨b5, 0, none⟩) 2 2, .slice (some ⟨b5', 0, none⟩) 2 2] 24)).below hb7 (by have := HX6.out.1.lt; simp; omega)
  have hy8 := (Blk.new w6 24 #[.int .i64 3, .int .i64 3, .slice (some ⟨b5, 0, none⟩) 2 2, .slice (some ⟨b5', 0, none⟩) 2 2]).below hb7 (by simp)
  have hB37 : Below w3.heap.size w3 w7 := HX6.out.2.trans ((HB7.out.mono HX6.out.2.size).trans (hb7.mono (by have := HX6.out.2.size; simp; omega)))
  have hN3' := (hN3.out.below hB37).more hB37.size
  have hP3' := (hP3.out.below hB37).more hB37.size
  have HSA : Hid (∀ (W : World) (b b' : Nat), Below w7.heap.size w7 W → SlR encS 1 W W.heap.size (some ⟨b, 0, none⟩) 2 [annT, bobT] → SlR encS 1 W W.heap.size (some ⟨b', 0, none⟩) 2 [tmanyB 255 32, tmanyB 1 32] →
      Calls Tryd.prog 18 #[.agg #[.int .i64 3, .int .i64 2, .slice A3 2 c3, .slice A3' 2 d3], .agg #[.int .i64 3, .int .i64 2, .slice (some ⟨b, 0, none⟩) 2 2, .slice (some ⟨b', 0, none⟩) 2 2]] W fun e w' => e = .returned (.bool true) ∧ Below W.heap.size W w') :=
    Lib.hid (fun W b b' hW h1 h2 => by
      have h := rsame_any twoR twoR A3 A3' 2 c3 2 d3 (some ⟨b, 0, none⟩) (some ⟨b', 0, none⟩) 2 2 2 2 W ((hN3'.below hW).more hW.size) ((hP3'.below hW).more hW.size) h1 h2 (by omega) (by omega) (by omega) (by omega)
      rw [show sameR twoR twoR = true by simp [sameR, textsB_self]] at h
      exact h)
  have HCK : Hid (∀ (W : World) (b b' : Nat), SlR encS 1 W W.heap.size (some ⟨b, 0, none⟩) 2 [annT, bobT] → SlR encS 1 W W.heap.size (some ⟨b', 0, none⟩) 2 [tmanyB 255 32, tmanyB 1 32] →
      Calls Tryd.prog 19 #[.agg #[.int .i64 3, .int .i64 2, .slice (some ⟨b, 0, none⟩) 2 2, .slice (some ⟨b', 0, none⟩) 2 2]] W fun e w' => e = .returned (.bool true) ∧ Below W.heap.size W w') :=
    Lib.hid (fun W b b' h1 h2 => by
      have h := mcheck_any twoR (some ⟨b, 0, none⟩) (some ⟨b', 0, none⟩) 2 2 2 2 W h1 h2 two_small.1 two_small.2
      rw [two_check] at h
      exact h)
  have HOC : Hid (∀ (W : World), Below w7.heap.size w7 W →
      Calls Tryd.prog 19 #[.agg #[.int .i64 3, .int .i64 3, .slice (some ⟨b5, 0, none⟩) 2 2, .slice (some ⟨b5', 0, none⟩) 2 2]] W fun e w' => e = .returned (.bool false) ∧ Below W.heap.size W w') :=
    Lib.hid (fun W hW => by
      have h := mcheck_any oddR (some ⟨b5, 0, none⟩) (some ⟨b5', 0, none⟩) 2 2 2 2 W ((hN8.below hW).more hW.size) ((hP8.below hW).more hW.size) two_small.1 two_small.2
      rw [odd_check] at h
      exact h)
  have HNA1 : Hid (∀ W : World, Calls Tryd.prog 21 #[.string ⟨#[97, 49]⟩] W fun e w' => e = .returned (.bool true) ∧ W = w') :=
    Lib.hid (fun W => by
      have h := name_any ⟨#[97, 49]⟩ W (by decide)
      rw [name_a1] at h
      exact h)
  have HNA : Hid (∀ W : World, Calls Tryd.prog 21 #[.string ⟨#[65]⟩] W fun e w' => e = .returned (.bool false) ∧ W = w') :=
    Lib.hid (fun W => by
      have h := name_any ⟨#[65]⟩ W (by decide)
      rw [name_A] at h
      exact h)
  have HX8 : Hid (Blk w7 w3.heap.size 24 #[.int .i64 3, .int .i64 2, .slice A3 2 c3, .slice A3' 2 d3] ∧ Blk w7 w6.heap.size 24 #[.int .i64 3, .int .i64 3, .slice (some ⟨b5, 0, none⟩) 2 2, .slice (some ⟨b5', 0, none⟩) 2 2]) := Lib.hid ⟨hx8, hy8⟩
  have HBE : Hid (Below w.heap.size w w7) := Lib.hid (HB3.out.trans (hB37.mono HB3.out.size))
  have s1 : S.size = 148 := by rw [← HS.out]; exact twoS_size
  have s2 : S.extract 0 10 = ⟨#[101, 112, 111, 99, 104, 32, 51, 32, 50, 10]⟩ := by rw [← HS.out]; exact twoS_head
  have s3 : ((10 : Nat) : Int) ≤ (S.size : Int) := by omega
  clear hN8 hP8 hx8 hy8 hB37 hN3' hP3' hb7 HN7 HB7 HX6 HNO HB3
  go_wp2_with fail
  refine wp_region_held_drew (S := fun W => Below w7.heap.size w7 W) (by kernel_rfl) (Still.below (Still.drew w7)) (fun hHeld => ?_)
  refine wpAnyH_take (i := 0) (v := ?v1) rfl (by kernel_rfl) (by kernel_rfl) (by kernel_rfl) (fun _ _ _ h => h) (Or.inl ⟨by rfl, ?hy1⟩) hHeld ?rest1
  case hy1 => (intro w hSw; (try dsimp only at hSw); go_simp; try with_reducible rfl)
  try simp only [Act.put, List.getElem_toArray, List.getElem_cons_succ, List.getElem_cons_zero, List.setIfInBounds_toArray, List.set_cons_zero, List.set_cons_succ]
  refine wpAnyH_take (i := 1) (v := ?v2) rfl (by kernel_rfl) (by kernel_rfl) (by kernel_rfl) (fun _ _ _ h => h) (Or.inl ⟨by rfl, ?hy2⟩) hHeld ?rest2
  case hy2 => (intro w hSw; (try dsimp only at hSw); go_simp; try with_reducible rfl)
  try simp only [Act.put, List.getElem_toArray, List.getElem_cons_succ, List.getElem_cons_zero, List.setIfInBounds_toArray, List.set_cons_zero, List.set_cons_succ]
  refine wpAnyH_take (i := 2) (v := ?v3) rfl (by kernel_rfl) (by kernel_rfl) (by kernel_rfl) (fun _ _ _ h => h) (Or.inl ⟨by rfl, ?hy3⟩) hHeld ?rest3
  case hy3 => (intro w hSw; (try dsimp only at hSw); go_simp; try with_reducible rfl)
  try simp only [Act.put, List.getElem_toArray, List.getElem_cons_succ, List.getElem_cons_zero, List.setIfInBounds_toArray, List.set_cons_zero, List.set_cons_succ]
  refine wpAnyH_take (i := 3) (v := ?v4) rfl (by kernel_rfl) (by kernel_rfl) (by kernel_rfl) (fun _ _ _ h => h) (Or.inl ⟨by rfl, ?hy4⟩) hHeld ?rest4
  case hy4 => (intro w hSw; (try dsimp only at hSw); go_simp; try with_reducible rfl)
  try simp only [Act.put, List.getElem_toArray, List.getElem_cons_succ, List.getElem_cons_zero, List.setIfInBounds_toArray, List.set_cons_zero, List.set_cons_succ]
  refine wpAnyH_take (i := 4) (v := ?v5) rfl (by kernel_rfl) (by kernel_rfl) (by kernel_rfl) (fun _ _ _ h => h) (Or.inl ⟨by rfl, ?hy5⟩) hHeld ?rest5
  case hy5 => (intro w hSw; (try dsimp only at hSw); go_simp; try with_reducible rfl)
  try simp only [Act.put, List.getElem_toArray, List.getElem_cons_succ, List.getElem_cons_zero, List.setIfInBounds_toArray, List.set_cons_zero, List.set_cons_succ]
  refine wpAnyH_take (i := 5) (v := ?v6) rfl (by kernel_rfl) (by kernel_rfl) (by kernel_rfl) (fun _ _ _ h => h) (Or.inl ⟨by rfl, ?hy6⟩) hHeld ?rest6
  case hy6 => (intro w hSw; (try dsimp only at hSw); go_simp; try with_reducible rfl)
  try simp only [Act.put, List.getElem_toArray, List.getElem_cons_succ, List.getElem_cons_zero, List.setIfInBounds_toArray, List.set_cons_zero, List.set_cons_succ]
  refine wpAnyH_take (i := 6) (v := ?v7) rfl (by kernel_rfl) (by kernel_rfl) (by kernel_rfl) (fun _ _ _ h => h) (Or.inl ⟨by rfl, ?hy7⟩) hHeld ?rest7
  case hy7 => (intro w hSw; (try dsimp only at hSw); go_simp; try with_reducible rfl)
  try simp only [Act.put, List.getElem_toArray, List.getElem_cons_succ, List.getElem_cons_zero, List.setIfInBounds_toArray, List.set_cons_zero, List.set_cons_succ]
  refine wpAnyH_take (i := 7) (v := ?v8) rfl (by kernel_rfl) (by kernel_rfl) (by kernel_rfl) (fun _ _ _ h => h) (Or.inl ⟨by rfl, ?hy8⟩) hHeld ?rest8
  case hy8 => (intro w hSw; (try dsimp only at hSw); go_simp; try with_reducible rfl)
  try simp only [Act.put, List.getElem_toArray, List.getElem_cons_succ, List.getElem_cons_zero, List.setIfInBounds_toArray, List.set_cons_zero, List.set_cons_succ]
  refine wpAnyH_take (i := 8) (v := ?v9) rfl (by kernel_rfl) (by kernel_rfl) (by kernel_rfl) (fun _ _ _ h => h) (Or.inl ⟨by rfl, ?hy9⟩) hHeld ?rest9
  case hy9 => (intro w hSw; (try dsimp only at hSw); go_simp; try with_reducible rfl)
  try simp only [Act.put, List.getElem_toArray, List.getElem_cons_succ, List.getElem_cons_zero, List.setIfInBounds_toArray, List.set_cons_zero, List.set_cons_succ]
  refine wpAnyH_take (i := 9) (v := ?v10) rfl (by kernel_rfl) (by kernel_rfl) (by kernel_rfl) (fun _ _ _ h => h) (Or.inl ⟨by rfl, ?hy10⟩) hHeld ?rest10
  case hy10 => (intro w hSw; (try dsimp only at hSw); go_simp; try with_reducible rfl)
  try simp only [Act.put, List.getElem_toArray, List.getElem_cons_succ, List.getElem_cons_zero, List.setIfInBounds_toArray, List.set_cons_zero, List.set_cons_succ]
  refine wpAnyH_take (i := 10) (v := ?v11) rfl (by kernel_rfl) (by kernel_rfl) (by kernel_rfl) (fun _ _ _ h => h) (Or.inl ⟨by rfl, ?hy11⟩) hHeld ?rest11
  case hy11 => (intro w hSw; (try dsimp only at hSw); go_simp; try with_reducible rfl)
  try simp only [Act.put, List.getElem_toArray, List.getElem_cons_succ, List.getElem_cons_zero, List.setIfInBounds_toArray, List.set_cons_zero, List.set_cons_succ]
  refine wpAnyH_take (i := 11) (v := ?v12) rfl (by kernel_rfl) (by kernel_rfl) (by kernel_rfl) (fun _ _ _ h => h) (Or.inl ⟨by rfl, ?hy12⟩) hHeld ?rest12
  case hy12 => (intro w hSw; (try dsimp only at hSw); go_simp; try with_reducible rfl)
  try simp only [Act.put, List.getElem_toArray, List.getElem_cons_succ, List.getElem_cons_zero, List.setIfInBounds_toArray, List.set_cons_zero, List.set_cons_succ]
  refine wpAnyH_take (i := 12) (v := ?v13) rfl (by kernel_rfl) (by kernel_rfl) (by kernel_rfl) (fun _ _ _ h => h) (Or.inl ⟨by rfl, ?hy13⟩) hHeld ?rest13
  case hy13 => (intro w hSw; (try dsimp only at hSw); go_simp; try with_reducible rfl)
  try simp only [Act.put, List.getElem_toArray, List.getElem_cons_succ, List.getElem_cons_zero, List.setIfInBounds_toArray, List.set_cons_zero, List.set_cons_succ]
  refine wpAnyH_take (i := 13) (v := ?v14) rfl (by kernel_rfl) (by kernel_rfl) (by kernel_rfl) (fun _ _ _ h => h) (Or.inl ⟨by rfl, ?hy14⟩) hHeld ?rest14
  case hy14 => (intro w hSw; (try dsimp only at hSw); go_simp; try with_reducible rfl)
  try simp only [Act.put, List.getElem_toArray, List.getElem_cons_succ, List.getElem_cons_zero, List.setIfInBounds_toArray, List.set_cons_zero, List.set_cons_succ]
  refine wpAnyH_take (i := 14) (v := ?v15) rfl (by kernel_rfl) (by kernel_rfl) (by kernel_rfl) (fun _ _ _ h => h) (Or.inl ⟨by rfl, ?hy15⟩) hHeld ?rest15
  case hy15 => (intro w hSw; (try dsimp only at hSw); go_simp; try with_reducible rfl)
  try simp only [Act.put, List.getElem_toArray, List.getElem_cons_succ, List.getElem_cons_zero, List.setIfInBounds_toArray, List.set_cons_zero, List.set_cons_succ]
  refine wpAnyH_take (i := 15) (v := ?v16) rfl (by kernel_rfl) (by kernel_rfl) (by kernel_rfl) (fun _ _ _ h => h) (Or.inl ⟨by rfl, ?hy16⟩) hHeld ?rest16
  case hy16 => (intro w hSw; (try dsimp only at hSw); go_simp; try with_reducible rfl)
  try simp only [Act.put, List.getElem_toArray, List.getElem_cons_succ, List.getElem_cons_zero, List.setIfInBounds_toArray, List.set_cons_zero, List.set_cons_succ]
  refine wpAnyH_take (i := 16) (v := ?v17) rfl (by kernel_rfl) (by kernel_rfl) (by kernel_rfl) (fun _ _ _ h => h) (Or.inl ⟨by rfl, ?hy17⟩) hHeld ?rest17
  case hy17 => (intro w hSw; (try dsimp only at hSw); go_simp; try with_reducible rfl)
  try simp only [Act.put, List.getElem_toArray, List.getElem_cons_succ, List.getElem_cons_zero, List.setIfInBounds_toArray, List.set_cons_zero, List.set_cons_succ]
  refine wpAnyH_take (i := 17) (v := (.agg #[.int .i64 3, .int .i64 2, .slice A3 2 c3, .slice A3' 2 d3])) rfl (by kernel_rfl) (by kernel_rfl) (by kernel_rfl) (fun _ _ _ h => h) (yields_rowg 24 (.tmp 3) rfl rfl _ rfl 24 #[.int .i64 3, .int .i64 2, .slice A3 2 c3, .slice A3' 2 d3] _ Tryd.underlying24 rfl (by kernel_rfl) (fun W hW => Blk.below (HX8.out.1) hW (HX8.out.1).lt)) hHeld ?rest18
  try simp only [Act.put, List.getElem_toArray, List.getElem_cons_succ, List.getElem_cons_zero, List.setIfInBounds_toArray, List.set_cons_zero, List.set_cons_succ]
  refine wpAnyH_ready (rs := [18]) (by kernel_rfl) (by simp) ?_
  refine AllReadyH.cons rfl (fun K hK => ?_) AllReadyH.nil
  have hPrev := Lib.hid hHeld
  clear hHeld
  go_simp
  refine (two_any _).mono ?_
  rintro e' w8 ⟨b8, b8', rfl, hN8, hP8, hb8⟩
  unfold recV twoR
  dsimp only
  go_simp
  refine hK.out _ _ (hPrev.out.trans (hb8.mono hPrev.out.size)) (fun hHeld => ?_)
  clear hK K hPrev
  try simp only [Act.put, List.getElem_toArray, List.getElem_cons_succ, List.getElem_cons_zero, List.setIfInBounds_toArray, List.set_cons_zero, List.set_cons_succ]
  refine wpAnyH_ready (rs := [19]) (by kernel_rfl) (by simp) ?_
  refine AllReadyH.cons rfl (fun K hK => ?_) AllReadyH.nil
  have hPrev := Lib.hid hHeld
  clear hHeld
  go_simp
  refine (HSA.out _ _ _ hPrev.out hN8.out hP8.out).mono ?_
  rintro e' w9 ⟨rfl, hb9⟩
  go_simp
  refine hK.out _ _ (hPrev.out.trans (hb9.mono hPrev.out.size)) (fun hHeld => ?_)
  clear hK K hPrev
  try simp only [Act.put, List.getElem_toArray, List.getElem_cons_succ, List.getElem_cons_zero, List.setIfInBounds_toArray, List.set_cons_zero, List.set_cons_succ]
  refine wpAnyH_take (i := 20) (v := ?v21) rfl (by kernel_rfl) (by kernel_rfl) (by kernel_rfl) (fun _ _ _ h => h) (Or.inl ⟨by rfl, ?hy21⟩) hHeld ?rest21
  case hy21 => (intro w hSw; (try dsimp only at hSw); go_simp; try with_reducible rfl)
  try simp only [Act.put, List.getElem_toArray, List.getElem_cons_succ, List.getElem_cons_zero, List.setIfInBounds_toArray, List.set_cons_zero, List.set_cons_succ]
  refine wpAnyH_take (i := 21) (v := ?v22) rfl (by kernel_rfl) (by kernel_rfl) (by kernel_rfl) (fun _ _ _ h => h) (Or.inl ⟨by rfl, ?hy22⟩) hHeld ?rest22
  case hy22 => (intro w hSw; (try dsimp only at hSw); go_simp; try with_reducible rfl)
  try simp only [Act.put, List.getElem_toArray, List.getElem_cons_succ, List.getElem_cons_zero, List.setIfInBounds_toArray, List.set_cons_zero, List.set_cons_succ]
  refine wpAnyH_take (i := 22) (v := ?v23) rfl (by kernel_rfl) (by kernel_rfl) (by kernel_rfl) (fun _ _ _ h => h) (Or.inl ⟨by rfl, ?hy23⟩) hHeld ?rest23
  case hy23 => (intro w hSw; (try dsimp only at hSw); go_simp; try with_reducible rfl)
  try simp only [Act.put, List.getElem_toArray, List.getElem_cons_succ, List.getElem_cons_zero, List.setIfInBounds_toArray, List.set_cons_zero, List.set_cons_succ]
  refine wpAnyH_take (i := 23) (v := ?v24) rfl (by kernel_rfl) (by kernel_rfl) (by kernel_rfl) (fun _ _ _ h => h) (Or.inl ⟨by rfl, ?hy24⟩) hHeld ?rest24
  case hy24 => (intro w hSw; (try dsimp only at hSw); go_simp; try with_reducible rfl)
  try simp only [Act.put, List.getElem_toArray, List.getElem_cons_succ, List.getElem_cons_zero, List.setIfInBounds_toArray, List.set_cons_zero, List.set_cons_succ]
  refine wpAnyH_take (i := 24) (v := ?v25) rfl (by kernel_rfl) (by kernel_rfl) (by kernel_rfl) (fun _ _ _ h => h) (Or.inl ⟨by rfl, ?hy25⟩) hHeld ?rest25
  case hy25 => (intro w hSw; (try dsimp only at hSw); go_simp; try with_reducible rfl)
  try simp only [Act.put, List.getElem_toArray, List.getElem_cons_succ, List.getElem_cons_zero, List.setIfInBounds_toArray, List.set_cons_zero, List.set_cons_succ]
  refine wpAnyH_take (i := 25) (v := ?v26) rfl (by kernel_rfl) (by kernel_rfl) (by kernel_rfl) (fun _ _ _ h => h) (Or.inl ⟨by rfl, ?hy26⟩) hHeld ?rest26
  case hy26 => (intro w hSw; (try dsimp only at hSw); go_simp; try with_reducible rfl)
  try simp only [Act.put, List.getElem_toArray, List.getElem_cons_succ, List.getElem_cons_zero, List.setIfInBounds_toArray, List.set_cons_zero, List.set_cons_succ]
  refine wpAnyH_take (i := 26) (v := ?v27) rfl (by kernel_rfl) (by kernel_rfl) (by kernel_rfl) (fun _ _ _ h => h) (Or.inl ⟨by rfl, ?hy27⟩) hHeld ?rest27
  case hy27 => (intro w hSw; (try dsimp only at hSw); go_simp; try with_reducible rfl)
  try simp only [Act.put, List.getElem_toArray, List.getElem_cons_succ, List.getElem_cons_zero, List.setIfInBounds_toArray, List.set_cons_zero, List.set_cons_succ]
  refine wpAnyH_take (i := 27) (v := ?v28) rfl (by kernel_rfl) (by kernel_rfl) (by kernel_rfl) (fun _ _ _ h => h) (Or.inl ⟨by rfl, ?hy28⟩) hHeld ?rest28
  case hy28 => (intro w hSw; (try dsimp only at hSw); go_simp; try with_reducible rfl)
  try simp only [Act.put, List.getElem_toArray, List.getElem_cons_succ, List.getElem_cons_zero, List.setIfInBounds_toArray, List.set_cons_zero, List.set_cons_succ]
  refine wpAnyH_take (i := 28) (v := ?v29) rfl (by kernel_rfl) (by kernel_rfl) (by kernel_rfl) (fun _ _ _ h => h) (Or.inl ⟨by rfl, ?hy29⟩) hHeld ?rest29
  case hy29 => (intro w hSw; (try dsimp only at hSw); go_simp; try with_reducible rfl)
  try simp only [Act.put, List.getElem_toArray, List.getElem_cons_succ, List.getElem_cons_zero, List.setIfInBounds_toArray, List.set_cons_zero, List.set_cons_succ]
  refine wpAnyH_take (i := 29) (v := ?v30) rfl (by kernel_rfl) (by kernel_rfl) (by kernel_rfl) (fun _ _ _ h => h) (Or.inl ⟨by rfl, ?hy30⟩) hHeld ?rest30
  case hy30 => (intro w hSw; (try dsimp only at hSw); go_simp; try with_reducible rfl)
  try simp only [Act.put, List.getElem_toArray, List.getElem_cons_succ, List.getElem_cons_zero, List.setIfInBounds_toArray, List.set_cons_zero, List.set_cons_succ]
  refine wpAnyH_take (i := 30) (v := ?v31) rfl (by kernel_rfl) (by kernel_rfl) (by kernel_rfl) (fun _ _ _ h => h) (Or.inl ⟨by rfl, ?hy31⟩) hHeld ?rest31
  case hy31 => (intro w hSw; (try dsimp only at hSw); go_simp; try with_reducible rfl)
  try simp only [Act.put, List.getElem_toArray, List.getElem_cons_succ, List.getElem_cons_zero, List.setIfInBounds_toArray, List.set_cons_zero, List.set_cons_succ]
  refine wpAnyH_take (i := 31) (v := ?v32) rfl (by kernel_rfl) (by kernel_rfl) (by kernel_rfl) (fun _ _ _ h => h) (Or.inl ⟨by rfl, ?hy32⟩) hHeld ?rest32
  case hy32 => (intro w hSw; (try dsimp only at hSw); go_simp; try with_reducible rfl)
  try simp only [Act.put, List.getElem_toArray, List.getElem_cons_succ, List.getElem_cons_zero, List.setIfInBounds_toArray, List.set_cons_zero, List.set_cons_succ]
  refine wpAnyH_take (i := 32) (v := ?v33) rfl (by kernel_rfl) (by kernel_rfl) (by kernel_rfl) (fun _ _ _ h => h) (Or.inl ⟨by rfl, ?hy33⟩) hHeld ?rest33
  case hy33 => (intro w hSw; (try dsimp only at hSw); go_simp; try with_reducible rfl)
  try simp only [Act.put, List.getElem_toArray, List.getElem_cons_succ, List.getElem_cons_zero, List.setIfInBounds_toArray, List.set_cons_zero, List.set_cons_succ]
  refine wpAnyH_ready (rs := [33]) (by kernel_rfl) (by simp) ?_
  refine AllReadyH.cons rfl (fun K hK => ?_) AllReadyH.nil
  have hPrev := Lib.hid hHeld
  clear hHeld
  go_simp
  refine (two_any _).mono ?_
  rintro e' w10 ⟨b10, b10', rfl, hN10, hP10, hb10⟩
  unfold recV twoR
  dsimp only
  go_simp
  refine hK.out _ _ (hPrev.out.trans (hb10.mono hPrev.out.size)) (fun hHeld => ?_)
  clear hK K hPrev
  try simp only [Act.put, List.getElem_toArray, List.getElem_cons_succ, List.getElem_cons_zero, List.setIfInBounds_toArray, List.set_cons_zero, List.set_cons_succ]
  refine wpAnyH_ready (rs := [34]) (by kernel_rfl) (by simp) ?_
  refine AllReadyH.cons rfl (fun K hK => ?_) AllReadyH.nil
  have hPrev := Lib.hid hHeld
  clear hHeld
  go_simp
  refine (HCK.out _ _ _ hN10.out hP10.out).mono ?_
  rintro e' w11 ⟨rfl, hb11⟩
  go_simp
  refine hK.out _ _ (hPrev.out.trans (hb11.mono hPrev.out.size)) (fun hHeld => ?_)
  clear hK K hPrev
  try simp only [Act.put, List.getElem_toArray, List.getElem_cons_succ, List.getElem_cons_zero, List.setIfInBounds_toArray, List.set_cons_zero, List.set_cons_succ]
  refine wpAnyH_take (i := 35) (v := ?v36) rfl (by kernel_rfl) (by kernel_rfl) (by kernel_rfl) (fun _ _ _ h => h) (Or.inl ⟨by rfl, ?hy36⟩) hHeld ?rest36
  case hy36 => (intro w hSw; (try dsimp only at hSw); go_simp; try with_reducible rfl)
  try simp only [Act.put, List.getElem_toArray, List.getElem_cons_succ, List.getElem_cons_zero, List.setIfInBounds_toArray, List.set_cons_zero, List.set_cons_succ]
  refine wpAnyH_take (i := 36) (v := ?v37) rfl (by kernel_rfl) (by kernel_rfl) (by kernel_rfl) (fun _ _ _ h => h) (Or.inl ⟨by rfl, ?hy37⟩) hHeld ?rest37
  case hy37 => (intro w hSw; (try dsimp only at hSw); go_simp; try with_reducible rfl)
  try simp only [Act.put, List.getElem_toArray, List.getElem_cons_succ, List.getElem_cons_zero, List.setIfInBounds_toArray, List.set_cons_zero, List.set_cons_succ]
  refine wpAnyH_take (i := 37) (v := (.agg #[.int .i64 3, .int .i64 3, .slice (some ⟨b5, 0, none⟩) 2 2, .slice (some ⟨b5', 0, none⟩) 2 2])) rfl (by kernel_rfl) (by kernel_rfl) (by kernel_rfl) (fun _ _ _ h => h) (yields_rowg 24 (.tmp 7) rfl rfl _ rfl 24 #[.int .i64 3, .int .i64 3, .slice (some ⟨b5, 0, none⟩) 2 2, .slice (some ⟨b5', 0, none⟩) 2 2] _ Tryd.underlying24 rfl (by kernel_rfl) (fun W hW => Blk.below (HX8.out.2) hW (HX8.out.2).lt)) hHeld ?rest38
  try simp only [Act.put, List.getElem_toArray, List.getElem_cons_succ, List.getElem_cons_zero, List.setIfInBounds_toArray, List.set_cons_zero, List.set_cons_succ]
  refine wpAnyH_ready (rs := [38]) (by kernel_rfl) (by simp) ?_
  refine AllReadyH.cons rfl (fun K hK => ?_) AllReadyH.nil
  have hPrev := Lib.hid hHeld
  clear hHeld
  go_simp
  refine (HOC.out _ hPrev.out).mono ?_
  rintro e' w12 ⟨rfl, hb12⟩
  go_simp
  refine hK.out _ _ (hPrev.out.trans (hb12.mono hPrev.out.size)) (fun hHeld => ?_)
  clear hK K hPrev
  try simp only [Act.put, List.getElem_toArray, List.getElem_cons_succ, List.getElem_cons_zero, List.setIfInBounds_toArray, List.set_cons_zero, List.set_cons_succ]
  refine wpAnyH_take (i := 39) (v := ?v40) rfl (by kernel_rfl) (by kernel_rfl) (by kernel_rfl) (fun _ _ _ h => h) (Or.inl ⟨by rfl, ?hy40⟩) hHeld ?rest40
  case hy40 => (intro w hSw; (try dsimp only at hSw); go_simp; try with_reducible rfl)
  try simp only [Act.put, List.getElem_toArray, List.getElem_cons_succ, List.getElem_cons_zero, List.setIfInBounds_toArray, List.set_cons_zero, List.set_cons_succ]
  refine wpAnyH_take (i := 40) (v := ?v41) rfl (by kernel_rfl) (by kernel_rfl) (by kernel_rfl) (fun _ _ _ h => h) (Or.inl ⟨by rfl, ?hy41⟩) hHeld ?rest41
  case hy41 => (intro w hSw; (try dsimp only at hSw); go_simp; try with_reducible rfl)
  try simp only [Act.put, List.getElem_toArray, List.getElem_cons_succ, List.getElem_cons_zero, List.setIfInBounds_toArray, List.set_cons_zero, List.set_cons_succ]
  refine wpAnyH_take (i := 41) (v := ?v42) rfl (by kernel_rfl) (by kernel_rfl) (by kernel_rfl) (fun _ _ _ h => h) (Or.inl ⟨by rfl, ?hy42⟩) hHeld ?rest42
  case hy42 => (intro w hSw; (try dsimp only at hSw); go_simp; try with_reducible rfl)
  try simp only [Act.put, List.getElem_toArray, List.getElem_cons_succ, List.getElem_cons_zero, List.setIfInBounds_toArray, List.set_cons_zero, List.set_cons_succ]
  refine wpAnyH_ready (rs := [42]) (by kernel_rfl) (by simp) ?_
  refine AllReadyH.cons rfl (fun K hK => ?_) AllReadyH.nil
  have hPrev := Lib.hid hHeld
  clear hHeld
  go_simp
  refine (HNA1.out _).mono ?_
  rintro e' w13 ⟨rfl, rfl⟩
  go_simp
  refine hK.out _ _ (hPrev.out) (fun hHeld => ?_)
  clear hK K hPrev
  try simp only [Act.put, List.getElem_toArray, List.getElem_cons_succ, List.getElem_cons_zero, List.setIfInBounds_toArray, List.set_cons_zero, List.set_cons_succ]
  refine wpAnyH_take (i := 43) (v := ?v44) rfl (by kernel_rfl) (by kernel_rfl) (by kernel_rfl) (fun _ _ _ h => h) (Or.inl ⟨by rfl, ?hy44⟩) hHeld ?rest44
  case hy44 => (intro w hSw; (try dsimp only at hSw); go_simp; try with_reducible rfl)
  try simp only [Act.put, List.getElem_toArray, List.getElem_cons_succ, List.getElem_cons_zero, List.setIfInBounds_toArray, List.set_cons_zero, List.set_cons_succ]
  refine wpAnyH_take (i := 44) (v := ?v45) rfl (by kernel_rfl) (by kernel_rfl) (by kernel_rfl) (fun _ _ _ h => h) (Or.inl ⟨by rfl, ?hy45⟩) hHeld ?rest45
  case hy45 => (intro w hSw; (try dsimp only at hSw); go_simp; try with_reducible rfl)
  try simp only [Act.put, List.getElem_toArray, List.getElem_cons_succ, List.getElem_cons_zero, List.setIfInBounds_toArray, List.set_cons_zero, List.set_cons_succ]
  refine wpAnyH_ready (rs := [45]) (by kernel_rfl) (by simp) ?_
  refine AllReadyH.cons rfl (fun K hK => ?_) AllReadyH.nil
  have hPrev := Lib.hid hHeld
  clear hHeld
  go_simp
  refine (HNA.out _).mono ?_
  rintro e' w14 ⟨rfl, rfl⟩
  go_simp
  refine hK.out _ _ (hPrev.out) (fun hHeld => ?_)
  clear hK K hPrev
  try simp only [Act.put, List.getElem_toArray, List.getElem_cons_succ, List.getElem_cons_zero, List.setIfInBounds_toArray, List.set_cons_zero, List.set_cons_succ]
  refine wpAnyH_take (i := 46) (v := ?v47) rfl (by kernel_rfl) (by kernel_rfl) (by kernel_rfl) (fun _ _ _ h => h) (Or.inl ⟨by rfl, ?hy47⟩) hHeld ?rest47
  case hy47 => (intro w hSw; (try dsimp only at hSw); go_simp; try with_reducible rfl)
  try simp only [Act.put, List.getElem_toArray, List.getElem_cons_succ, List.getElem_cons_zero, List.setIfInBounds_toArray, List.set_cons_zero, List.set_cons_succ]
  refine wpAnyH_take (i := 47) (v := ?v48) rfl (by kernel_rfl) (by kernel_rfl) (by kernel_rfl) (fun _ _ _ h => h) (Or.inl ⟨by rfl, ?hy48⟩) hHeld ?rest48
  case hy48 => (intro w hSw; (try dsimp only at hSw); go_simp; try with_reducible rfl)
  try simp only [Act.put, List.getElem_toArray, List.getElem_cons_succ, List.getElem_cons_zero, List.setIfInBounds_toArray, List.set_cons_zero, List.set_cons_succ]
  refine wpAnyH_take (i := 48) (v := ?v49) rfl (by kernel_rfl) (by kernel_rfl) (by kernel_rfl) (fun _ _ _ h => h) (Or.inl ⟨by rfl, ?hy49⟩) hHeld ?rest49
  case hy49 => (intro w hSw; (try dsimp only at hSw); go_simp; try with_reducible rfl)
  try simp only [Act.put, List.getElem_toArray, List.getElem_cons_succ, List.getElem_cons_zero, List.setIfInBounds_toArray, List.set_cons_zero, List.set_cons_succ]
  refine wpAnyH_done (by kernel_rfl) ?_ _
  go_wp2_with (with_reducible refine end_at ?_)
  have hLast : Below w7.heap.size w7 w12 := hHeld
  refine end_ret (v := .bool true) (by simp [results, Tryd.results23]) rfl ⟨rfl, HBE.out.trans (hLast.mono HBE.out.size)⟩
end Go.Proofs.YtbgohcedakpnbaaDoor
