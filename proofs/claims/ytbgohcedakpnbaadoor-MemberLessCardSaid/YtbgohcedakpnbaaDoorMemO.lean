/- member: Parse (where the text is a right record's). -/
import Derived.Test.YtbgohcedakpnbaaDoorMemL
import Derived.Test.YtbgohcedakpnbaaDoorMemG
import Derived.Defers
import Derived.Recover
import Derived.Laws.Pointers
set_option linter.unusedVariables false
set_option linter.unusedSimpArgs false
namespace Go.Proofs.YtbgohcedakpnbaaDoor
open Go.RowKit Go.Shelf
/-- the deferred closure of Parse, where nothing has panicked -/
theorem pcatch_idle (p q : Addr) (w : World) :
    CallsD Tryd.prog 36 #[.pointer (some p), .pointer (some q)] .returning w fun e u' w' => e = .returned (.tuple #[]) ∧ u' = .returning ∧ w' = w := by
  refine callsD_of_wpS Tryd.func36 rfl fun c₀ cs hu => ?_
  apply wpS_seq
  apply wpS_region
  simp [wpOpsS, go_sem, recoverD, hu, Tryd.ntmps36, Exit.thenS]
  refine wpS_cond (t := false) (by simp [Act.eval, Array.replicate]) ?_
  simp only [Bool.false_eq_true, if_false]
  refine wpS_of_wp (wp_skip ?_)
  cases c₀
  simp_all [bodyPostS, results, Tryd.results36]
set_option maxHeartbeats 4000000 in
set_option maxRecDepth 100000 in
theorem mparse_good (e k : Nat) (names pledges : List ByteArray) (s : ByteArray) (w : World) (hck : checkB ⟨(e : Int), (k : Int), names, pledges⟩ = true) (hs : printB ⟨e, k, names, pledges⟩ = s) (hG : Pows w) :
    Calls Tryd.prog 14 #[.string s] w fun e' w' => ∃ (A A' : Option Addr) (c d : Nat), e' = .returned (.tuple #[.agg #[.int .i64 e, .int .i64 k, .slice A names.length c, .slice A' names.length d], .int .i64 0]) ∧ Hid (SRow w' w.heap.size (.slice A names.length c) names) ∧ Hid (SRow w' w.heap.size (.slice A' names.length d) pledges) ∧ Below w.heap.size w w' := by
  have HR := Lib.hid (fun W => mread_good e k names pledges s W hck hs)
  have hmf : ∀ (fn : Fn) (first cap : Array Value) (w : World), (Instr.makeFunc fn first cap).run Tryd.prog w = .ok (.func fn first cap) w := fun _ _ _ _ => rfl
  have HCK := Lib.hid hck
  have HS := Lib.hid hs
  have HG := Lib.hid hG
  clear hck hs hG
  go_enter_defers Tryd.func14, Tryd.ntmps14
  go_wp2_with fail
  refine (HR.out _).mono ?_
  rintro e' w1 ⟨A, A', c, d, rfl, hn, hp, hb1⟩
  have hsz1 : w.heap.size + 1 + 1 ≤ w1.heap.size := by have := hb1.size; simpa using this
  have hb0 : Below w.heap.size w w1 := Below.trans (by go_grown) (hb1.mono (by simp; omega))
  have hx1 : Blk w1 w.heap.size 24 #[.int .i64 0, .int .i64 0, .slice none 0 0, .slice none 0 0] := ((Blk.new w _ _).alloc _).below hb1 (by simp; omega)
  have hy1 : Blk w1 (w.heap.size + 1) 27 #[.int .i64 0] := (Blk.new_at (g := w.heap.size + 1) (by simp) _ _).below hb1 (by simp; done)
  have hn1 : SRow w1 (w.heap.size + 1 + 1) (.slice A names.length c) names := by simpa using hn.out
  have hp1 : SRow w1 (w.heap.size + 1 + 1) (.slice A' names.length d) pledges := by simpa using hp.out
  have hs2 := ((((hx1.set_ 0 (.int .i64 e)).set_ 1 (.int .i64 k)).set_ 2 (.slice A names.length c)).set_ 3 (.slice A' names.length d))
  simp only [List.setIfInBounds_toArray, List.set_cons_zero, List.set_cons_succ] at hs2
  have hn2 := orow_far (orow_far (orow_far (orow_far hn1 hx1 (by decide) 0 (.int .i64 e)) (hx1.set_ 0 _) (by decide) 1 (.int .i64 k)) ((hx1.set_ 0 _).set_ 1 _) (by decide) 2 (.slice A names.length c)) (((hx1.set_ 0 _).set_ 1 _).set_ 2 _) (by decide) 3 (.slice A' names.length d)
  have hp2 := orow_far (orow_far (orow_far (orow_far hp1 hx1 (by decide) 0 (.int .i64 e)) (hx1.set_ 0 _) (by decide) 1 (.int .i64 k)) ((hx1.set_ 0 _).set_ 1 _) (by decide) 2 (.slice A names.length c)) (((hx1.set_ 0 _).set_ 1 _).set_ 2 _) (by decide) 3 (.slice A' names.length d)
  have hy2 : Blk ((((w1.setCell ⟨w.heap.size, 0, none⟩ (.int .i64 e)).setCell ⟨w.heap.size, 1, none⟩ (.int .i64 k)).setCell ⟨w.heap.size, 2, none⟩ (.slice A names.length c)).setCell ⟨w.heap.size, 3, none⟩ (.slice A' names.length d)) (w.heap.size + 1) 27 #[.int .i64 0] :=
    (((hy1.far (by show _ ≠ _; simp) _).far (by show _ ≠ _; simp) _).far (by show _ ≠ _; simp) _).far (by show _ ≠ _; simp) _
  have hB2 : Below w.heap.size w ((((w1.setCell ⟨w.heap.size, 0, none⟩ (.int .i64 e)).setCell ⟨w.heap.size, 1, none⟩ (.int .i64 k)).setCell ⟨w.heap.size, 2, none⟩ (.slice A names.length c)).setCell ⟨w.heap.size, 3, none⟩ (.slice A' names.length d)) :=
    (((hb0.setCell (Nat.le_refl _) _).setCell (Nat.le_refl _) _).setCell (Nat.le_refl _) _).setCell (Nat.le_refl _) _
  have hsz2 : w.heap.size + 1 + 1 ≤ ((((w1.setCell ⟨w.heap.size, 0, none⟩ (.int .i64 e)).setCell ⟨w.heap.size, 1, none⟩ (.int .i64 k)).setCell ⟨w.heap.size, 2, none⟩ (.slice A names.length c)).setCell ⟨w.heap.size, 3, none⟩ (.slice A' names.length d)).heap.size := by simpa using hsz1
  have f0 := hx1.frozen
  have d0 := hx1.cells 0 _ rfl
  have d1 := hx1.cells 1 _ rfl
  have d2 := hx1.cells 2 _ rfl
  have d3 := hx1.cells 3 _ rfl
  simp only [List.getElem_toArray, List.getElem_cons_zero, List.getElem_cons_succ] at d0 d1 d2 d3
  have hl1 := hx1.lt
  have HX := Lib.hid (And.intro hs2 (And.intro hn2 (And.intro hp2 (And.intro hy2 (And.intro hB2 hsz2)))))
  clear hn hp hb1 hb0 hx1 hy1 hn1 hp1 hs2 hn2 hp2 hy2 hB2 hsz2
  go_wp2_with fail
  obtain ⟨hs2, hn2, hp2, hy2, hB2, hsz2⟩ := HX.out
  generalize (((w1.setCell ⟨w.heap.size, 0, none⟩ (.int .i64 e)).setCell ⟨w.heap.size, 1, none⟩ (.int .i64 k)).setCell ⟨w.heap.size, 2, none⟩ (.slice A names.length c)).setCell ⟨w.heap.size, 3, none⟩ (.slice A' names.length d) = W2 at *
  have hsN := srow_slr hn2 rfl
  have hsP := srow_slr hp2 (show pledges.length = names.length from ?hlp)
  case hlp =>
    obtain ⟨⟨_, _, _, _, h, _, _⟩, _⟩ := (checkB_iff _).1 HCK.out
    exact h
  have hn1 : 1 ≤ names.length := by
    obtain ⟨⟨_, _, h, _⟩, _⟩ := (checkB_iff _).1 HCK.out
    exact h
  obtain ⟨b, off, _, hA, _, _⟩ := mrow_at hsN (show 0 < names.length by omega)
  obtain ⟨b', off', _, hA', _, _⟩ := mrow_at hsP (show 0 < names.length by omega)
  subst hA hA'
  have hpr := mprint_in e k names pledges b off c b' off' d names.length W2 HCK.out hsN hsP (HG.out.below hB2)
  rw [HS.out] at hpr
  refine hpr.mono ?_
  rintro e' w3 ⟨rfl, hb3⟩
  have hs3 := hs2.below hb3 (by omega)
  have hy3 := hy2.below hb3 (by omega)
  have hn3 := orow_below hn2 hb3 (Nat.le_refl _)
  have hp3 := orow_below hp2 hb3 (Nat.le_refl _)
  have hB3 := hB2.trans (hb3.mono (by omega))
  have f0 := hs3.frozen
  have f1 := hy3.frozen
  have d0 := hs3.cells 0 _ rfl
  have d1 := hs3.cells 1 _ rfl
  have d2 := hs3.cells 2 _ rfl
  have d3 := hs3.cells 3 _ rfl
  have d4 := hy3.cells 0 _ rfl
  simp only [List.getElem_toArray, List.getElem_cons_zero, List.getElem_cons_succ] at d0 d1 d2 d3 d4
  have hl3 := hs3.lt
  have hl4 := hy3.lt
  have HX3 := Lib.hid (And.intro hs3 (And.intro hn3 (And.intro hp3 (And.intro hy3 hB3))))
  clear HX hs2 hn2 hp2 hy2 hB2 hs3 hn3 hp3 hy3 hB3 hb3 hsN hsP hpr
  go_wp2_with fail
  refine (must_true _).mono ?_
  rintro e' w4 ⟨rfl, rfl⟩
  go_wp2_with fail
  obtain ⟨hs3, hn3, hp3, hy3, hB3⟩ := HX3.out
  have hs5 := (((((hs3.set_ 0 (.int .i64 e)).set_ 1 (.int .i64 k)).set_ 2 (.slice (some ⟨b, off, none⟩) names.length c)).set_ 3 (.slice (some ⟨b', off', none⟩) names.length d))).far (p := ⟨w.heap.size + 1, 0, none⟩) (by show _ ≠ _; simp) (.int .i64 0)
  have hn4 := orow_far (orow_far (orow_far (orow_far hn3 hs3 (by decide) 0 (.int .i64 e)) (hs3.set_ 0 _) (by decide) 1 (.int .i64 k)) ((hs3.set_ 0 _).set_ 1 _) (by decide) 2 (.slice (some ⟨b, off, none⟩) names.length c)) (((hs3.set_ 0 _).set_ 1 _).set_ 2 _) (by decide) 3 (.slice (some ⟨b', off', none⟩) names.length d)
  have hp4 := orow_far (orow_far (orow_far (orow_far hp3 hs3 (by decide) 0 (.int .i64 e)) (hs3.set_ 0 _) (by decide) 1 (.int .i64 k)) ((hs3.set_ 0 _).set_ 1 _) (by decide) 2 (.slice (some ⟨b, off, none⟩) names.length c)) (((hs3.set_ 0 _).set_ 1 _).set_ 2 _) (by decide) 3 (.slice (some ⟨b', off', none⟩) names.length d)
  have hy4 := ((((hy3.far (p := ⟨w.heap.size, 0, none⟩) (by show _ ≠ _; simp) (.int .i64 e)).far (p := ⟨w.heap.size, 1, none⟩) (by show _ ≠ _; simp) (.int .i64 k)).far (p := ⟨w.heap.size, 2, none⟩) (by show _ ≠ _; simp) (.slice (some ⟨b, off, none⟩) names.length c)).far (p := ⟨w.heap.size, 3, none⟩) (by show _ ≠ _; simp) (.slice (some ⟨b', off', none⟩) names.length d))
  have hn5 := orow_far hn4 hy4 (by decide) 0 (.int .i64 0)
  have hp5 := orow_far hp4 hy4 (by decide) 0 (.int .i64 0)
  have hy5 := hy4.set_ 0 (.int .i64 0)
  have hB5 := ((((hB3.setCell (p := ⟨w.heap.size, 0, none⟩) (Nat.le_refl _) (.int .i64 e)).setCell (p := ⟨w.heap.size, 1, none⟩) (Nat.le_refl _) (.int .i64 k)).setCell (p := ⟨w.heap.size, 2, none⟩) (Nat.le_refl _) (.slice (some ⟨b, off, none⟩) names.length c)).setCell (p := ⟨w.heap.size, 3, none⟩) (Nat.le_refl _) (.slice (some ⟨b', off', none⟩) names.length d)).setCell (p := ⟨w.heap.size + 1, 0, none⟩) (by simp) (.int .i64 0)
  simp only [List.setIfInBounds_toArray, List.set_cons_zero, List.set_cons_succ] at hs5 hy5
  generalize ((((w3.setCell ⟨w.heap.size, 0, none⟩ (.int .i64 e)).setCell ⟨w.heap.size, 1, none⟩ (.int .i64 k)).setCell ⟨w.heap.size, 2, none⟩ (.slice (some ⟨b, off, none⟩) names.length c)).setCell ⟨w.heap.size, 3, none⟩ (.slice (some ⟨b', off', none⟩) names.length d)).setCell ⟨w.heap.size + 1, 0, none⟩ (.int .i64 0) = W5 at *
  refine leaves_cons (f := 36) (args := #[.pointer (some ⟨w.heap.size, 0, none⟩), .pointer (some ⟨w.heap.size + 1, 0, none⟩)]) (by simp) (by simp [go_sem]) ?_
  refine (pcatch_idle ⟨w.heap.size, 0, none⟩ ⟨w.heap.size + 1, 0, none⟩ W5).mono ?_
  rintro e' u' w'' ⟨rfl, rfl, rfl⟩
  have e0 := hs5.cells 0 _ rfl
  have e1 := hs5.cells 1 _ rfl
  have e2 := hs5.cells 2 _ rfl
  have e3 := hs5.cells 3 _ rfl
  simp only [List.getElem_toArray, List.getElem_cons_zero, List.getElem_cons_succ] at e0 e1 e2 e3
  have c4 := hy5.cells 0 _ rfl
  simp only [List.getElem_toArray, List.getElem_cons_zero] at c4
  refine ⟨.tuple #[.agg #[.int .i64 e, .int .i64 k, .slice (some ⟨b, off, none⟩) names.length c, .slice (some ⟨b', off', none⟩) names.length d], .int .i64 0], by simp [results, Tryd.results14, asAddr, go_sem, e0, e1, e2, e3, c4], some ⟨b, off, none⟩, some ⟨b', off', none⟩, c, d, rfl, Lib.hid ?_, Lib.hid ?_, hB5⟩
  · exact orow_base hn5 (by omega)
  · exact orow_base hp5 (by omega)
end Go.Proofs.YtbgohcedakpnbaaDoor
