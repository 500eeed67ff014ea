/- NetBack: the walk. -/
import Derived.Test.YtojabnaabgbclaaNetBackP
import Derived.Deep.DeepCutAuto
import Derived.Deep.RegionHeld3
set_option linter.unusedVariables false
namespace Go.Proofs.Ytojabnaabgbclaa
open Go.RowKit
theorem run_neq_letter (y x : Letter) (w : World) : (binOp .neq 27 (.agg #[.string y.fr, .string y.to, .string y.text]) (.agg #[.string x.fr, .string x.to, .string x.text])).run Try.prog w = .ok (.bool (!leqB y x)) w := by
  go_simp
  unfold leqB
  by_cases h1 : y.fr.toList = x.fr.toList <;> by_cases h2 : y.to.toList = x.to.toList <;> by_cases h3 : y.text.toList = x.text.toList <;> simp [h1, h2, h3]
/-- the two arguments in their boxes -/
def Base (w wx : World) (N : Net) (l : Letter) (A : Option Addr) (c : Nat) : Prop := Below w.heap.size w wx ∧
  Blk wx w.heap.size 25 #[.slice A N.way.length c, .int .i64 N.sent, .int .i64 N.delivered, .int .i64 N.lost, .int .i64 N.doubled] ∧
  Blk wx (w.heap.size + 1) 27 #[.string l.fr, .string l.to, .string l.text]
theorem Base.below {w wx wy : World} {N : Net} {l : Letter} {A : Option Addr} {c : Nat} (h : Base w wx N l A c) (hb : Below wx.heap.size wx wy) : Base w wy N l A c :=
  ⟨h.1.trans (hb.mono h.1.size), h.2.1.below hb h.2.1.lt, h.2.2.below hb h.2.2.lt⟩
def AllNet (w : World) (N : Net) (A : Option Addr) : Prop := ∀ W, Below w.heap.size w W → w.heap.size ≤ W.heap.size → SlR encL 3 W W.heap.size A N.way.length N.way

set_option maxHeartbeats 1000000 in
set_option maxRecDepth 100000 in
theorem back_big (N : Net) (i : Int) (l : Letter) (A : Option Addr) (c : Nat) (w : World) (HS : Hid (AllNet w N A)) (HO : Hid (∀ l ∈ N.way, LetterOk l)) (hl : LetterOk l) (h : bigB N = true ∨ (bigB N = false ∧ bigL l = true)) :
    Calls Try.prog 4 #[.agg #[.slice A N.way.length c, .int .i64 N.sent, .int .i64 N.delivered, .int .i64 N.lost, .int .i64 N.doubled], .int .i64 i, .agg #[.string l.fr, .string l.to, .string l.text]] w fun e w' => e = .returned (.bool true) ∧ Below w.heap.size w w' := by
  obtain ⟨o1, o2, _⟩ := hl
  simp only [StrOk] at o1 o2
  rcases h with h | ⟨h, hl⟩
  · go_enter Try.func4, Try.ntmps4
    go_wp2_with fail
    refine (big_any N A c _ (HS.out _ (by go_grown) (by simp; omega)) HO.out).mono ?_
    rintro e w1 ⟨rfl, hb1⟩
    rw [h]
    go_wp2_with (with_reducible refine end_at ?_)
    refine end_ret (results_tmp rfl _ _ _) rfl ⟨rfl, Below.trans (by go_grown) (hb1.mono (by simp; omega))⟩
  · simp only [bigL, Bool.or_eq_true, decide_eq_true_eq] at hl
    rcases hl with hl | hl
    all_goals
      go_enter Try.func4, Try.ntmps4
      go_wp2_with fail
      refine (big_any N A c _ (HS.out _ (by go_grown) (by simp; omega)) HO.out).mono ?_
      rintro e w1 ⟨rfl, hb1⟩
      rw [h]
      have hr := (Blk.new_at (g := w.heap.size + 1) (by simp) _ _).below hb1 (by simp)
      have p0 := hr.cells 0 _ rfl
      have p1 := hr.cells 1 _ rfl
      have p2 := hr.cells 2 _ rfl
      simp only [List.getElem_toArray, List.getElem_cons_zero, List.getElem_cons_succ] at p0 p1 p2
      have hB : Below w.heap.size w w1 := Below.trans (by go_grown) (hb1.mono (by simp; omega))
      clear hr
      go_wp2_with (with_reducible refine end_at ?_)
      all_goals refine end_ret (results_tmp rfl _ _ _) rfl ⟨rfl, hB⟩

set_option maxHeartbeats 2000000 in
set_option maxRecDepth 100000 in
theorem back_main (N : Net) (i : Int) (l : Letter) (A : Option Addr) (c : Nat) (w : World) (HS : Hid (AllNet w N A)) (HO : Hid (∀ l ∈ N.way, LetterOk l)) (h : bigB N = false) (hl1 : l.fr.size + l.to.size ≤ 200) (hl2 : l.text.size ≤ 4100) :
    Calls Try.prog 4 #[.agg #[.slice A N.way.length c, .int .i64 N.sent, .int .i64 N.delivered, .int .i64 N.lost, .int .i64 N.doubled], .int .i64 i, .agg #[.string l.fr, .string l.to, .string l.text]] w fun e w' => e = .returned (.bool true) ∧ Below w.heap.size w w' := by
  obtain ⟨Na, ea, hra⟩ : ∃ Na ea, (stepF doubleF N i).2 = (Na, ea) := ⟨_, _, rfl⟩
  obtain ⟨Nc, eg, hrc⟩ : ∃ Nc eg, sendF N l = (Nc, eg) := ⟨_, _, rfl⟩
  have HRA := Lib.hid hra
  have HRC := Lib.hid hrc
  clear hra hrc
  go_enter Try.func4, Try.ntmps4
  go_wp2_with fail
  refine (big_any N A c _ (HS.out _ (by go_grown) (by simp; omega)) HO.out).mono ?_
  rintro e w1 ⟨rfl, hb1⟩
  rw [h]
  have HB1 : Hid (Base w w1 N l A c) := ⟨Below.trans (by go_grown) (hb1.mono (by simp; omega)), ((Blk.new w _ _).alloc _).below hb1 (by simp; omega), (Blk.new_at (g := w.heap.size + 1) (by simp) _ _).below hb1 (by simp)⟩
  have n0 := HB1.out.2.1.cells 0 _ rfl
  have n1 := HB1.out.2.1.cells 1 _ rfl
  have n2 := HB1.out.2.1.cells 2 _ rfl
  have n3 := HB1.out.2.1.cells 3 _ rfl
  have n4 := HB1.out.2.1.cells 4 _ rfl
  have p0 := HB1.out.2.2.cells 0 _ rfl
  have p1 := HB1.out.2.2.cells 1 _ rfl
  have p2 := HB1.out.2.2.cells 2 _ rfl
  simp only [List.getElem_toArray, List.getElem_cons_zero, List.getElem_cons_succ] at n0 n1 n2 n3 n4 p0 p1 p2
  clear hb1
  go_wp2_with fail
  refine (double_any N A _ c i _ (HS.out _ HB1.out.1 HB1.out.1.size)).mono ?_
  rintro e w2 ⟨v, rfl, ⟨A2, c2, rfl, hown2⟩, hb2⟩
  rw [HRA.out] at hown2 ⊢
  have hS2 : SlR encL 3 w2 w2.heap.size A2 Na.way.length Na.way := SlR.of_own encL_len hown2 rfl
  have HB2 : Hid (Base w w2 N l A c) := HB1.out.below hb2
  clear hb2 hown2 HB1 n0 n1 n2 n3 n4 p0 p1 p2
  go_upto_if 42 with (fail)
  go_cut [] (fun wx => Hid (Base w wx N l A c))
  case first =>
    have hB3 : Hid (Base w (w2.alloc (.cells #[.slice A2 Na.way.length c2, .int .i64 Na.sent, .int .i64 Na.delivered, .int .i64 Na.lost, .int .i64 Na.doubled] 25)) N l A c) := HB2.out.below ((Below.refl _ _).alloc (Nat.le_refl _) _)
    by_cases hea : ea = 0
    · have t0 : (ea == 0) = true := by simp [hea]
      have HRB := Lib.hid (back1 N Na i (by rw [HRA.out, hea]))
      clear hea
      have n0 := HB2.out.2.1.cells 0 _ rfl
      have hg := HB2.out.2.1.lt
      simp only [List.getElem_toArray, List.getElem_cons_zero] at n0
      go_wp2_with fail
      refine (lose_any Na A2 _ c2 N.way.length _ ((hS2.below ((Below.refl _ _).alloc (Nat.le_refl _) _)).more (by simp))).mono ?_
      rintro e w3 ⟨v, rfl, ⟨A3, c3, rfl, hown3⟩, hb3⟩
      have HB3 : Hid (Base w w3 N l A c) := hB3.out.below hb3
      have hg3 := HB3.out.2.1.lt
      have m0 := HB3.out.2.1.cells 0 _ rfl
      have m1 := HB3.out.2.1.cells 1 _ rfl
      have m2 := HB3.out.2.1.cells 2 _ rfl
      simp only [List.getElem_toArray, List.getElem_cons_zero, List.getElem_cons_succ] at m0 m1 m2
      obtain ⟨hn60, hB⟩ := HRB.out
      rcases hB with hB | ⟨R, hB, hR1, hR2, hR3⟩
      · rw [hB] at hown3 ⊢
        clear hB hown3 hb3 n0 hB3 hS2
        simp only [noNet, List.length_nil]
        go_wp2_with fail
        refine wp_loop_rounds 1 ?_
        rw [rounds_succ]
        go_wp2_with fail
        go_meet
        exact HB3.out.below (by go_grown)
      · obtain ⟨way, sent, deliv, lost, dbl⟩ := R
        simp only at hR1 hR2 hR3
        subst hR1 hR2 hR3
        rw [hB] at hown3 ⊢
        have hS3 : SlR encL 3 w3 w3.heap.size A3 N.way.length N.way := SlR.of_own encL_len hown3 rfl
        have HS3 := Lib.hid hS3
        have HNo := HS.out _ HB3.out.1 HB3.out.1.size
        have HSN := Lib.hid HNo
        clear hB hown3 hb3 n0 hB3 hS2 hS3 HNo
        simp only []
        go_wp2_with fail
        go_loopw [11] (fun i wr => ∃ k : Nat, k ≤ N.way.length ∧ i = .int .i64 k ∧ Hid (Below (w3.heap.size + 1) (w3.alloc (.cells #[.slice A3 N.way.length c3, .int .i64 N.sent, .int .i64 N.delivered, .int .i64 lost, .int .i64 dbl] 25)) wr)) (fun i _ => N.way.length - (intOf i).toNat)
        case atStart => exact ⟨0, Nat.zero_le _, rfl, Below.refl _ _⟩
        case round =>
          obtain ⟨k, hk, rfl, HBr⟩ := hrel
          have hbx := (Blk.new w3 _ _).below HBr.out (by simp)
          have b0 := hbx.cells 0 _ rfl
          have hB3r : Below w3.heap.size w3 wr := Below.trans (by go_grown) (HBr.out.mono (by omega))
          have m0r := (HB3.out.2.1.below hB3r hg3).cells 0 _ rfl
          simp only [List.getElem_toArray, List.getElem_cons_zero] at b0 m0r
          by_cases hlt : k < N.way.length
          · obtain ⟨x, hx⟩ : ∃ x, N.way[k]? = some x := ⟨N.way[k], List.getElem?_eq_getElem hlt⟩
            rcases HS3.out.2 with h0 | ⟨b3, off3, rfl, hb3, hC3⟩
            · omega
            rcases HSN.out.2 with h0 | ⟨b0, off0, rfl, hb0, hC0⟩
            · omega
            obtain ⟨d0, d1, d2⟩ := (hC3.below hB3r hb3).letter hx
            obtain ⟨f0, f1, f2⟩ := (hC0.below hB3r hb0).letter hx
            have he := run_neq_letter x x
            have hxx : leqB x x = true := (leqB_iff x x).2 rfl
            simp only [hxx, Bool.not_true] at he
            have i0 : (0 : Int) ≤ (k : Int) := by omega
            have i1 : (k : Int) < (N.way.length : Int) := by omega
            clear hx hC3 hC0 hxx hbx
            go_wp2_with fail
            go_region
            all_goals go_wp2_with fail
            all_goals
              go_roundw
              case rel => exact ⟨k + 1, by omega, by go_num, HBr.out.drew⟩
              case measure => simp [intOf]; omega
          · obtain rfl : k = N.way.length := by omega
            go_wp2_with fail
            go_meet
            exact HB3.out.below hB3r
    · have t0 : (ea == 0) = false := by simpa using hea
      clear hea
      go_wp2_with fail
      go_meet
      exact hB3.out
  case rest =>
    have HBx := Lib.hid hcut.out
    clear hcut
    have n0 := HBx.out.2.1.cells 0 _ rfl
    have n1 := HBx.out.2.1.cells 1 _ rfl
    have n2 := HBx.out.2.1.cells 2 _ rfl
    have n3 := HBx.out.2.1.cells 3 _ rfl
    have n4 := HBx.out.2.1.cells 4 _ rfl
    have p0 := HBx.out.2.2.cells 0 _ rfl
    have p1 := HBx.out.2.2.cells 1 _ rfl
    have p2 := HBx.out.2.2.cells 2 _ rfl
    simp only [List.getElem_toArray, List.getElem_cons_zero, List.getElem_cons_succ] at n0 n1 n2 n3 n4 p0 p1 p2
    go_wp2_with fail
    refine (send_any N l A _ c _ (HS.out _ HBx.out.1 HBx.out.1.size)).mono ?_
    rintro e w4 ⟨v, rfl, ⟨A4, c4, rfl, hown4⟩, hb4⟩
    rw [HRC.out] at hown4 ⊢
    have HB4 : Hid (Base w w4 N l A c) := HBx.out.below hb4
    have hg4 := HB4.out.2.1.lt
    clear hb4 HBx n0 n1 n2 n3 n4 p0 p1 p2
    by_cases heg : eg = 0
    · have t0 : (eg != 0) = false := by simp [heg]
      have HRD := Lib.hid (back3 N Nc l (by rw [HRC.out, heg]))
      have hS4 : SlR encL 3 w4 w4.heap.size A4 Nc.way.length Nc.way := SlR.of_own encL_len hown4 rfl
      have n0 := HB4.out.2.1.cells 0 _ rfl
      simp only [List.getElem_toArray, List.getElem_cons_zero] at n0
      clear heg hown4
      go_wp2_with fail
      refine (deliver_any Nc A4 _ c4 N.way.length _ ((hS4.below ((Below.refl _ _).alloc (Nat.le_refl _) _)).more (by simp))).mono ?_
      rintro e w5 ⟨v, rfl, ⟨A5, c5, rfl, hown5⟩, hb5⟩
      have HB5 : Hid (Base w w5 N l A c) := (HB4.out.below ((Below.refl _ _).alloc (Nat.le_refl _) _)).below hb5
      obtain ⟨hn60, hD⟩ := HRD.out
      clear n0 hS4 hb5
      rcases hD with hD | ⟨R, hD, hR⟩
      · rw [hD]
        simp only [lv]
        go_wp2_with fail
        refine (nets_any _).mono ?_
        rintro e w6 ⟨rfl, hb6⟩
        go_wp2_with (with_reducible refine end_at ?_)
        refine end_ret (results_tmp rfl _ _ _) rfl ⟨rfl, HB5.out.1.trans (Below.trans (by have := HB5.out.1.size; go_grown) (hb6.mono (by have := HB5.out.1.size; simp; omega)))⟩
      · rw [hD]
        obtain ⟨way, sent, deliv, lost, dbl⟩ := R
        simp only at hR
        subst hR
        simp only [lv]
        go_wp2_with fail
        refine (nets_any _).mono ?_
        rintro e w6 ⟨rfl, hb6⟩
        have hl6 := ((Blk.new w5 _ _).alloc _).below hb6 (by simp; omega)
        have hn6 := (Blk.new_at (g := w5.heap.size + 1) (by simp) _ _).below hb6 (by simp)
        have HB6 := ((HB5.out.below (((Below.refl _ _).alloc (Nat.le_refl _) _).alloc (by simp) _)).below hb6)
        have l0 := hl6.cells 0 _ rfl
        have l1 := hl6.cells 1 _ rfl
        have l2 := hl6.cells 2 _ rfl
        have m0 := hn6.cells 0 _ rfl
        have n0 := HB6.2.1.cells 0 _ rfl
        have p0 := HB6.2.2.cells 0 _ rfl
        have p1 := HB6.2.2.cells 1 _ rfl
        have p2 := HB6.2.2.cells 2 _ rfl
        simp only [List.getElem_toArray, List.getElem_cons_zero, List.getElem_cons_succ] at l0 l1 l2 m0 n0 p0 p1 p2
        have he := run_eql_letter l l
        have hxx : leqB l l = true := (leqB_iff l l).2 rfl
        simp only [hxx] at he
        have hB6 := HB6.1
        clear hl6 hn6 HB6 hb6 hown5 hxx
        go_wp2_with (with_reducible refine end_at ?_)
        refine end_ret (results_tmp rfl _ _ _) rfl ⟨rfl, hB6⟩
    · have t0 : (eg != 0) = true := by simpa using heg
      have hN := back2 N Nc l eg HRC.out heg
      subst hN
      clear heg hown4
      simp only [noNet, List.length_nil]
      go_wp2_with fail
      refine (nets_any _).mono ?_
      rintro e w5 ⟨rfl, hb5⟩
      have hr := (Blk.new w4 _ _).below hb5 (by simp)
      have q0 := hr.cells 0 _ rfl
      simp only [List.getElem_toArray, List.getElem_cons_zero] at q0
      have hB5 := ((HB4.out.below ((Below.refl _ _).alloc (Nat.le_refl _) _)).below hb5).1
      clear hr hb5
      go_wp2_with (with_reducible refine end_at ?_)
      refine end_ret (results_tmp rfl _ _ _) rfl ⟨rfl, hB5⟩

theorem back_any (N : Net) (i : Int) (l : Letter) (A : Option Addr) (c : Nat) (w : World) (hN : SlR encL 3 w w.heap.size A N.way.length N.way ∧ N.way.length ≤ 140737488351232 ∧ (∀ l ∈ N.way, LetterOk l) ∧ WfI N.sent ∧ WfI N.delivered ∧ WfI N.lost ∧ WfI N.doubled) (hl : LetterOk l) (hi : WfI i) :
    Calls Try.prog 4 #[.agg #[.slice A N.way.length c, .int .i64 N.sent, .int .i64 N.delivered, .int .i64 N.lost, .int .i64 N.doubled], .int .i64 i, .agg #[.string l.fr, .string l.to, .string l.text]] w fun e w' => e = .returned (.bool true) ∧ Below w.heap.size w w' := by
  have HS : Hid (AllNet w N A) := fun W hb hs => (hN.1.below hb).more hs
  have HO : Hid (∀ l ∈ N.way, LetterOk l) := hN.2.2.1
  by_cases h : bigB N = true
  · exact back_big N i l A c w HS HO hl (.inl h)
  · have h' : bigB N = false := by simpa using h
    by_cases h2 : bigL l = true
    · exact back_big N i l A c w HS HO hl (.inr ⟨h', h2⟩)
    · simp [bigL] at h2
      exact back_main N i l A c w HS HO h' (by omega) (by omega)
end Go.Proofs.Ytojabnaabgbclaa
