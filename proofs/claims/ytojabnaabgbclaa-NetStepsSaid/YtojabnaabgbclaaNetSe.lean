/- the references of chapter 19: Send. -/
import Derived.Test.YtojabnaabgbclaaNetSd
import Derived.Test.YtojabnaabgbclaaNetP
set_option linter.unusedVariables false
set_option linter.unusedSimpArgs false
namespace Go.Proofs.Ytojabnaabgbclaa
open Go.RowKit
/-- the argument's box, the letter's, and the result's -/
def SBox (w : World) (N : Net) (A : Option Addr) (c : Nat) (l : Letter) (wr : World) : Prop :=
  Below w.heap.size w wr ∧ Blk wr w.heap.size 25 #[.slice A N.way.length c, .int .i64 N.sent, .int .i64 N.delivered, .int .i64 N.lost, .int .i64 N.doubled] ∧
  Blk wr (w.heap.size + 1) 27 #[.string l.fr, .string l.to, .string l.text] ∧
  Blk wr (w.heap.size + 1 + 1) 25 #[.slice none 0 0, .int .i64 0, .int .i64 0, .int .i64 0, .int .i64 0]
theorem SBox.below {w wr wx : World} {N : Net} {A : Option Addr} {c : Nat} {l : Letter} (h : SBox w N A c l wr) (hb : Below wr.heap.size wr wx) : SBox w N A c l wx :=
  ⟨h.1.trans (hb.mono h.1.size), h.2.1.below hb h.2.1.lt, h.2.2.1.below hb h.2.2.1.lt, h.2.2.2.below hb h.2.2.2.lt⟩
theorem letterE_full {N : Net} {l : Letter} (hc : checkB N = true) (hl : letterE l ≠ 0) : sendF N l = (noNet, letterE l) := by
  unfold letterE at hl ⊢
  unfold sendF
  rw [if_pos hc]
  by_cases ha : addrB l = true
  · by_cases ht : l.text.size ≤ 4000
    · simp [ha, ht] at hl
    · simp [ha, ht]
  · simp [ha]
theorem letterE_yes {N : Net} {l : Letter} (hc : checkB N = true) (hl : letterE l = 0) : sendF N l = if N.way.length = 60 ∨ N.sent = 1000000000 then (noNet, 260) else ({ N with way := N.way ++ [l], sent := N.sent + 1 }, 0) := by
  unfold letterE at hl
  unfold sendF
  rw [if_pos hc]
  by_cases ha : addrB l = true
  · by_cases ht : l.text.size ≤ 4000
    · simp [ha, ht]
    · simp [ha, ht] at hl
  · simp [ha] at hl
theorem out2_no (w w' : World) (er : Int) (hb : Below w.heap.size w w') : Out2 w (noNet, er) (.returned (.tuple #[.agg #[.slice none 0 0, .int .i64 0, .int .i64 0, .int .i64 0, .int .i64 0], .int .i64 er])) w' := ⟨_, rfl, NetOut.none_ _ _, hb⟩
set_option maxHeartbeats 2000000 in
set_option maxRecDepth 100000 in
theorem rsend_any (N : Net) (l : Letter) (A : Option Addr) (c : Nat) (w : World) (hS : SlR encL 3 w w.heap.size A N.way.length N.way) (hn : N.way.length ≤ 80) (hok : ∀ l ∈ N.way, LetterOk l) (hl : LetterOk l) :
    Calls Try.prog 18 #[.agg #[.slice A N.way.length c, .int .i64 N.sent, .int .i64 N.delivered, .int .i64 N.lost, .int .i64 N.doubled], .agg #[.string l.fr, .string l.to, .string l.text]] w (Out2 w (sendF N l)) := by
  have HS : Hid (∀ W, Below w.heap.size w W → SlR encL 3 W W.heap.size A N.way.length N.way) := Lib.hid (fun W hb => (hS.below hb).more hb.size)
  have HOk := Lib.hid hok
  have HF := Lib.hid (fine_of N)
  clear hS hok
  go_enter Try.func18, Try.ntmps18
  go_wp2_with fail
  refine (rcheck_any N A c _ (HS.out _ (by go_grown)) hn HOk.out).mono ?_
  rintro e w1 ⟨rfl, hb1⟩
  have HB1 : Hid (SBox w N A c l w1) := Lib.hid ⟨Below.trans (by go_grown) (hb1.mono (by simp; omega)), (((Blk.new w _ _).alloc _).alloc _).below hb1 (by simp; omega), ((Blk.new_at (g := w.heap.size + 1) (by simp) _ _).alloc _).below hb1 (by simp), (Blk.new_at (g := w.heap.size + 1 + 1) (by simp) _ _).below hb1 (by simp)⟩
  clear hb1
  cases hc : checkB N with
  | false =>
    have hR : sendF N l = (noNet, 190) := by simp [sendF, hc]
    have s0 := HB1.out.2.2.2.cells 0 _ rfl
    have s1 := HB1.out.2.2.2.cells 1 _ rfl
    have s2 := HB1.out.2.2.2.cells 2 _ rfl
    have s3 := HB1.out.2.2.2.cells 3 _ rfl
    have s4 := HB1.out.2.2.2.cells 4 _ rfl
    have sf := HB1.out.2.2.2.frozen
    simp only [List.getElem_toArray, List.getElem_cons_zero, List.getElem_cons_succ] at s0 s1 s2 s3 s4
    go_wp2_with (with_reducible refine end_at ?_)
    have hB := HB1.out.1
    refine end_ret (v := .tuple #[.agg #[.slice none 0 0, .int .i64 0, .int .i64 0, .int .i64 0, .int .i64 0], .int .i64 190]) (by simp [results, Try.results18, go_sem, s0, s1, s2, s3, s4]; try rfl) rfl (by first | exact out2_no _ _ _ (by go_grown) | (rw [hR]; exact out2_no _ _ _ (by go_grown)))
  | true =>
    have m0 := HB1.out.2.2.1.cells 0 _ rfl
    have m1 := HB1.out.2.2.1.cells 1 _ rfl
    have m2 := HB1.out.2.2.1.cells 2 _ rfl
    simp only [List.getElem_toArray, List.getElem_cons_zero, List.getElem_cons_succ] at m0 m1 m2
    have HC := Lib.hid hc
    clear hc
    go_wp2_with fail
    refine (rletter_any l hl w1).mono ?_
    rintro e w2 ⟨rfl, hb2⟩
    have HB2 := Lib.hid (HB1.out.below hb2)
    clear m0 m1 m2 hb2 HB1
    by_cases hE : letterE l = 0
    · have HR := Lib.hid (letterE_yes HC.out hE)
      obtain ⟨f1, ⟨f2, f3⟩, _⟩ := HF.out HC.out
      rw [hE]
      have n0 := HB2.out.2.1.cells 0 _ rfl
      have n1 := HB2.out.2.1.cells 1 _ rfl
      have n2 := HB2.out.2.1.cells 2 _ rfl
      have n3 := HB2.out.2.1.cells 3 _ rfl
      have n4 := HB2.out.2.1.cells 4 _ rfl
      simp only [List.getElem_toArray, List.getElem_cons_zero, List.getElem_cons_succ] at n0 n1 n2 n3 n4
      clear hE
      by_cases hfull : N.way.length = 60 ∨ N.sent = 1000000000
      · have hR := HR.out
        rw [if_pos hfull] at hR
        clear HR
        have s0 := HB2.out.2.2.2.cells 0 _ rfl
        have s1 := HB2.out.2.2.2.cells 1 _ rfl
        have s2 := HB2.out.2.2.2.cells 2 _ rfl
        have s3 := HB2.out.2.2.2.cells 3 _ rfl
        have s4 := HB2.out.2.2.2.cells 4 _ rfl
        have sf := HB2.out.2.2.2.frozen
        simp only [List.getElem_toArray, List.getElem_cons_zero, List.getElem_cons_succ] at s0 s1 s2 s3 s4
        by_cases h60 : 60 ≤ N.way.length
        all_goals
          have hB := HB2.out.1
          go_wp2_with (with_reducible refine end_at ?_)
          refine end_ret (v := .tuple #[.agg #[.slice none 0 0, .int .i64 0, .int .i64 0, .int .i64 0, .int .i64 0], .int .i64 260]) (by simp [results, Try.results18, go_sem, s0, s1, s2, s3, s4]; try rfl) rfl (by first | exact out2_no _ _ _ (by go_grown) | (rw [hR]; exact out2_no _ _ _ (by go_grown)))
      · have hR := HR.out
        rw [if_neg hfull] at hR
        clear HR
        have h60 : N.way.length < 60 := by omega
        have hs9 : N.sent < 1000000000 := by omega
        clear hfull
        go_wp2_with fail
        refine (own_any N A c w2 (HS.out _ HB2.out.1) (by omega)).mono ?_
        rintro e w3 ⟨v, rfl, ⟨A3, c3, rfl, ho3⟩, hb3⟩
        have HB3 := Lib.hid (HB2.out.below hb3)
        have hsz : w.heap.size + 1 + 1 < w2.heap.size := HB2.out.2.2.2.lt
        have hz3 := hb3.size
        have hzA : w.heap.size + 1 < w3.heap.size := by omega
        have hzB : w.heap.size + 1 + 1 < w3.heap.size := by omega
        have HO3 : Hid (ORow 27 encL 3 w3 w2.heap.size (.slice A3 N.way.length c3) N.way) := Lib.hid ho3
        have HBB3 := Lib.hid hb3
        clear n0 n1 n2 n3 n4 hb3 ho3 HB2
        have m0 := HB3.out.2.2.1.cells 0 _ rfl
        have m1 := HB3.out.2.2.1.cells 1 _ rfl
        have m2 := HB3.out.2.2.1.cells 2 _ rfl
        simp only [List.getElem_toArray, List.getElem_cons_zero, List.getElem_cons_succ] at m0 m1 m2
        go_wp2_with (first | (at_builtin; refine wpList_append_let (v := .slice A3 N.way.length c3) rfl (.tmp 31) (.tmp 33) rfl rfl (orow_alloc (orow_alloc HO3.out _) _) (w3.heap.size + 1 + 1) (some ⟨w3.heap.size + 1, 0, none⟩) 1 1 [l] rfl (slr_one encL_len l (Blk.new_at (by simp) 27 #[.string l.fr, .string l.to, .string l.text]) (by omega)) (N.way.length + 1) (by simp) (by omega) (by simp; omega) ?_; intro A4 c4 w4 HR4 hg4 hb4 _ _; have hX := ((Blk.new w3 25 #[.slice A3 N.way.length c3, .int .i64 N.sent, .int .i64 N.delivered, .int .i64 N.lost, .int .i64 N.doubled]).alloc (.cells #[.string l.fr, .string l.to, .string l.text] 27)); have hO5 := orow_alloc (orow_alloc HO3.out (.cells #[.slice A3 N.way.length c3, .int .i64 N.sent, .int .i64 N.delivered, .int .i64 N.lost, .int .i64 N.doubled] 25)) (.cells #[.string l.fr, .string l.to, .string l.text] 27); have hs2 := Blk.grown hX hg4 (fun e => own_blk_ne hO5 hX (by decide) e.symm); have hr2 := Blk.below (B := w2.heap.size) ((HB3.out.2.2.2.alloc _).alloc _) hb4 (by omega); have s0 := hs2.cells 0 _ rfl; have s1 := hs2.cells 1 _ rfl; have s2 := hs2.cells 2 _ rfl; have s3 := hs2.cells 3 _ rfl; have s4 := hs2.cells 4 _ rfl; have sf := hs2.frozen; have hsl := hs2.lt; have q0 := hr2.cells 0 _ rfl; have q1 := hr2.cells 1 _ rfl; have q2 := hr2.cells 2 _ rfl; have q3 := hr2.cells 3 _ rfl; have q4 := hr2.cells 4 _ rfl; have qf := hr2.frozen; simp only [List.getElem_toArray, List.getElem_cons_zero, List.getElem_cons_succ] at s0 s1 s2 s3 s4 q0 q1 q2 q3 q4; have HB4 : Hid (Below w.heap.size w w4) := Lib.hid (Below.trans (by have := HB3.out.1; go_grown) (hb4.mono (by omega))); have HO : Hid (_ ∧ _ ∧ _) := Lib.hid (And.intro (show w4.ownsRow w2.heap.size 27 3 (.slice A4 (N.way.length + 1) c4) (N.way.length + 1) (flat encL (N.way ++ [l])) from (by have := HR4.out; unfold ORow at this; rwa [List.length_append] at this)) (And.intro (own_blk_ne HR4.out hr2 (by decide)) (own_blk_ne HR4.out hs2 (by decide)))); clear hg4 hb4 hs2 hr2 HR4 hX hO5 m0 m1 m2) | (with_reducible refine end_at ?_))
        obtain ⟨h1, n1, m1⟩ := HO.out
        refine end_ret (v := .tuple #[.agg #[.slice A4 (N.way.length + 1) c4, .int .i64 (N.sent + 1), .int .i64 N.delivered, .int .i64 N.lost, .int .i64 N.doubled], .int .i64 0]) (by simp [results, Try.results18, go_sem, q0, q1, q2, q3, q4]; try rfl) rfl ?_
        rw [hR]
        refine ⟨_, rfl, ⟨A4, c4, by simp, own_base (base := w2.heap.size) ?_ (by omega)⟩, ?_⟩
        · simp only [List.length_append, List.length_singleton]
          repeat' (first | (with_reducible exact h1) | (with_reducible refine own_far ?_ n1 _ _) | (with_reducible refine own_far ?_ m1 _ _))
        · have := HB4.out
          go_grown
    · have hR := letterE_full HC.out hE
      have t0 : (letterE l != 0) = true := by simpa using hE
      have s0 := HB2.out.2.2.2.cells 0 _ rfl
      have s1 := HB2.out.2.2.2.cells 1 _ rfl
      have s2 := HB2.out.2.2.2.cells 2 _ rfl
      have s3 := HB2.out.2.2.2.cells 3 _ rfl
      have s4 := HB2.out.2.2.2.cells 4 _ rfl
      have sf := HB2.out.2.2.2.frozen
      simp only [List.getElem_toArray, List.getElem_cons_zero, List.getElem_cons_succ] at s0 s1 s2 s3 s4
      clear hE
      have hB := HB2.out.1
      go_wp2_with (with_reducible refine end_at ?_)
      refine end_ret (v := .tuple #[.agg #[.slice none 0 0, .int .i64 0, .int .i64 0, .int .i64 0, .int .i64 0], .int .i64 (letterE l)]) (by simp [results, Try.results18, go_sem, s0, s1, s2, s3, s4]; try rfl) rfl (by first | exact out2_no _ _ _ (by go_grown) | (rw [hR]; exact out2_no _ _ _ (by go_grown)))
end Go.Proofs.Ytojabnaabgbclaa
