/- NetSteps: the law's walk for every input (large nets, letters and names are let go). -/
import Derived.Test.YtojabnaabgbclaaNetSteps
namespace Go.Proofs.Ytojabnaabgbclaa
open Go.RowKit
set_option linter.unusedVariables false
set_option linter.unusedSimpArgs false
set_option maxHeartbeats 2000000 in
set_option maxRecDepth 100000 in
theorem steps_big (N : Net) (l : Letter) (i : Int) (name : ByteArray) (A : Option Addr) (c : Nat) (w : World) (HSA : Hid (∀ W, Below w.heap.size w W → SlR encL 3 W w.heap.size A N.way.length N.way)) (HO : Hid (∀ l ∈ N.way, LetterOk l)) (hl : LetterOk l) (hnm : StrOk name)
    (h : bigB N = true ∨ (bigB N = false ∧ 300 < l.fr.size + l.to.size + name.size) ∨ (bigB N = false ∧ l.fr.size + l.to.size + name.size ≤ 300 ∧ 4100 < l.text.size)) :
    Calls Try.prog 5 #[.agg #[.slice A N.way.length c, .int .i64 N.sent, .int .i64 N.delivered, .int .i64 N.lost, .int .i64 N.doubled], .agg #[.string l.fr, .string l.to, .string l.text], .int .i64 i, .string name] w fun e w' => e = .returned (.bool true) ∧ Below w.heap.size w w' := by
  obtain ⟨hfr, hto, htx⟩ := hl
  simp only [StrOk] at hfr hto htx hnm
  rcases h with h | ⟨h, hx⟩ | ⟨h, hx1, hx2⟩
  all_goals
    go_enter Try.func5, Try.ntmps5
    go_wp2_with fail
    refine (big_any N A c _ ((HSA.out _ (by go_grown)).more (by simp; omega)) HO.out).mono ?_
    rintro e w1 ⟨rfl, hb1⟩
    rw [h]
    have HT5 : Hid (Blk w1 (w.heap.size + 1) 27 #[.string l.fr, .string l.to, .string l.text]) := Lib.hid ((Blk.new_at (by simp) _ _).below hb1 (by simp))
    have p0 := HT5.out.cells 0 _ rfl
    have p1 := HT5.out.cells 1 _ rfl
    have p2 := HT5.out.cells 2 _ rfl
    simp only [List.getElem_toArray, List.getElem_cons_zero, List.getElem_cons_succ] at p0 p1 p2
    go_wp2_with (with_reducible refine end_at ?_)
    refine end_ret (results_tmp rfl _ _ _) rfl ⟨rfl, Below.trans (by go_grown) (hb1.mono (by simp; omega))⟩
theorem steps_any (N : Net) (l : Letter) (i : Int) (name : ByteArray) (A : Option Addr) (c : Nat) (w : World) (hN : SlR encL 3 w w.heap.size A N.way.length N.way ∧ N.way.length ≤ 140737488351232 ∧ (∀ l ∈ N.way, LetterOk l) ∧ WfI N.sent ∧ WfI N.delivered ∧ WfI N.lost ∧ WfI N.doubled) (hl : LetterOk l) (_hi : WfI i) (hnm : StrOk name) :
    Calls Try.prog 5 #[.agg #[.slice A N.way.length c, .int .i64 N.sent, .int .i64 N.delivered, .int .i64 N.lost, .int .i64 N.doubled], .agg #[.string l.fr, .string l.to, .string l.text], .int .i64 i, .string name] w fun e w' => e = .returned (.bool true) ∧ Below w.heap.size w w' := by
  have HSA : Hid (∀ W, Below w.heap.size w W → SlR encL 3 W w.heap.size A N.way.length N.way) := Lib.hid (fun W hb => hN.1.below hb)
  have HO : Hid (∀ l ∈ N.way, LetterOk l) := Lib.hid hN.2.2.1
  by_cases h : bigB N = true
  · exact steps_big N l i name A c w HSA HO hl hnm (.inl h)
  · have h' : bigB N = false := by simpa using h
    by_cases h1 : 300 < l.fr.size + l.to.size + name.size
    · exact steps_big N l i name A c w HSA HO hl hnm (.inr (.inl ⟨h', h1⟩))
    · by_cases h2 : 4100 < l.text.size
      · exact steps_big N l i name A c w HSA HO hl hnm (.inr (.inr ⟨h', by omega, h2⟩))
      · have hn80 : N.way.length ≤ 80 := by
          unfold bigB at h'
          simp only [Bool.or_eq_false_iff, decide_eq_false_iff_not] at h'
          omega
        exact steps_main N l i name A c w hN.1 HO hl hnm h' hn80 (by omega) (by omega)
end Go.Proofs.Ytojabnaabgbclaa
