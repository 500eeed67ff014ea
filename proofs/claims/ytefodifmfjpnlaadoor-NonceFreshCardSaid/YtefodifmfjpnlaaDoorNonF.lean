/- nonce.copied, right, text. -/
import Derived.Test.YtefodifmfjpnlaaDoorNonD
import Derived.BigQuiet
set_option linter.unusedVariables false
namespace Go.Proofs.YtefodifmfjpnlaaDoor
open Go.RowKit

set_option maxRecDepth 100000 in
set_option maxHeartbeats 1000000 in
theorem ncopied_any (p : Plat) (A A' : Option Addr) (n m c d : Nat) (w : World) (hP : PlatAt w w.heap.size A n A' m p) (hn : n ≤ 1000) (hm : m ≤ 1000) :
    Calls Tryd.prog 26 #[.agg #[.slice A n c, .slice A' m d]] w fun e w' => ∃ v, e = .returned v ∧ PlatOut w' w.heap.size v p ∧ Below w.heap.size w w' := by
  obtain ⟨i0, hi0, hz0, hz1, hz2⟩ := info_parts str_info
  obtain ⟨i1, hj0, hy0, hy1, hy2⟩ := info_parts put_info
  have HP := hP.pre
  obtain ⟨L, M⟩ := p
  obtain ⟨h1, h2⟩ := hP
  simp only at h1 h2
  have HL := Lib.hid (And.intro h1.1 h2.1)
  clear h1 h2
  go_enter Tryd.func26, Tryd.ntmps26
  go_wp2_with fail
  have hk := (Blk.new w 25 #[.slice A n c, .slice A' m d]).alloc (.cells #[.slice none 0 0, .slice none 0 0] 25)
  have hr := Blk.new_at (w := w.alloc (.cells #[.slice A n c, .slice A' m d] 25)) (g := w.heap.size + 1) (by simp) 25 #[.slice none 0 0, .slice none 0 0]
  have hB0 : Below w.heap.size w ((w.alloc (.cells #[.slice A n c, .slice A' m d] 25)).alloc (.cells #[.slice none 0 0, .slice none 0 0] 25)) := by go_grown
  have hs0 : ((w.alloc (.cells #[.slice A n c, .slice A' m d] 25)).alloc (.cells #[.slice none 0 0, .slice none 0 0] 25)).heap.size = w.heap.size + 2 := by simp
  have HB0 := Lib.hid hB0
  generalize hg : w.heap.size = g at *
  generalize (w.alloc (.cells #[.slice A n c, .slice A' m d] 25)).alloc (.cells #[.slice none 0 0, .slice none 0 0] 25) = W0 at *
  have hP0 := HP.step (by rw [hg]; exact hB0)
  have HS : Hid (∀ W, Below W0.heap.size W0 W → Reads W W0.heap.size 1 A n (flat encS L)) := fun W hb => (hP0.1.below hb).reads encS_len
  have HC : Hid (∀ W, Below W0.heap.size W0 W → Reads W W0.heap.size 2 A' m (flat encP M)) := fun W hb => (hP0.2.below hb).reads encP_len
  have HG := Lib.hid hg
  clear hB0 hP0 HP hg
  obtain ⟨B, hBe⟩ : ∃ B, B = W0.heap.size := ⟨_, rfl⟩
  rw [← hBe] at HS HC
  have HBE := Lib.hid hBe
  have q0 := hk.cells 0 _ rfl
  have q1 := hk.cells 1 _ rfl
  have r0 := hr.cells 0 _ rfl
  have r1 := hr.cells 1 _ rfl
  have rf := hr.frozen
  simp only [List.getElem_toArray, List.getElem_cons_zero, List.getElem_cons_succ] at q0 q1 r0 r1
  subst hBe
  go_region_law (first
    | (refine step_append_any _ rfl (.const (.slice none 0 0)) (.tmp 4) _ rfl W0.heap.size _ i0 _ 1 16 Tryd.underlying22 hi0 hz0 hz1 hz2 rfl (by omega) (.slice none 0 0) 0 [] rfl (World.ownsRow_nil _ _ _ _) W0.heap.size A n c (flat encS L) (by simp [Act.eval]) (HS.out _ (by first | exact hB2.drew | exact hB2 | exact (Below.refl _ _).drew | exact Below.refl _ _)) (one_flatS L) (by simp only [maxLen]; omega) (by omega) (by first | exact hB2.size | exact Nat.le_refl _) ?_; intro v1 w1 hown1 hg1 hat1; obtain ⟨A1, c1, rfl, _, _, _⟩ := own_form hown1; have hk1 : Blk w1 g 25 #[.slice A n c, .slice A' m d] := Blk.grown (w := _) (by first | exact hk2 | exact hk) hg1 (by simp [Value.ownBlock]); have hr1 : Blk w1 (g + 1) 25 #[.slice none 0 0, .slice none 0 0] := Blk.grown (w := _) (by first | exact hr2 | exact hr) hg1 (by simp [Value.ownBlock]); have hB1 : Below W0.heap.size W0 w1 := Below.grown (by first | exact hB2.drew | exact hB2 | exact (Below.refl _ _).drew | exact Below.refl _ _) hg1 (by first | exact hB2.size | exact Nat.le_refl _) (by simp [Value.ownBlock]); have qa1 := hk1.cells 0 _ rfl; have qb1 := hk1.cells 1 _ rfl; have ra1 := hr1.cells 0 _ rfl; have rb1 := hr1.cells 1 _ rfl; have rf1 := hr1.frozen; simp only [List.getElem_toArray, List.getElem_cons_zero, List.getElem_cons_succ] at qa1 qb1 ra1 rb1)
    | (refine step_append_any _ rfl (.const (.slice none 0 0)) (.tmp 7) _ rfl W0.heap.size _ i1 _ 2 24 Tryd.underlying23 hj0 hy0 hy1 hy2 rfl (by omega) (.slice none 0 0) 0 [] rfl (World.ownsRow_nil _ _ _ _) W0.heap.size A' m d (flat encP M) (by simp [Act.eval]) (HC.out _ (by first | exact hB1.drew | exact hB1 | exact (Below.refl _ _).drew | exact Below.refl _ _)) (one_flatP M) (by simp only [maxLen]; omega) (by omega) (by first | exact hB1.size | exact Nat.le_refl _) ?_; intro v2 w2 hown2 hg2 hat2; obtain ⟨A2, c2, rfl, _, _, _⟩ := own_form hown2; have hk2 : Blk w2 g 25 #[.slice A n c, .slice A' m d] := Blk.grown (w := _) (by first | exact hk1 | exact hk) hg2 (by simp [Value.ownBlock]); have hr2 : Blk w2 (g + 1) 25 #[.slice none 0 0, .slice none 0 0] := Blk.grown (w := _) (by first | exact hr1 | exact hr) hg2 (by simp [Value.ownBlock]); have hB2 : Below W0.heap.size W0 w2 := Below.grown (by first | exact hB1.drew | exact hB1 | exact (Below.refl _ _).drew | exact Below.refl _ _) hg2 (by first | exact hB1.size | exact Nat.le_refl _) (by simp [Value.ownBlock]); have qa2 := hk2.cells 0 _ rfl; have qb2 := hk2.cells 1 _ rfl; have ra2 := hr2.cells 0 _ rfl; have rb2 := hr2.cells 1 _ rfl; have rf2 := hr2.frozen; simp only [List.getElem_toArray, List.getElem_cons_zero, List.getElem_cons_succ] at qa2 qb2 ra2 rb2))
  all_goals go_wp2_with (with_reducible refine end_at ?_)
  all_goals
    obtain ⟨rfl, rfl⟩ := HL.out
    have h1 := hown1
    have h2 := hown2
    simp only [Nat.zero_add, List.nil_append] at h1 h2
    first | (have h1 := own_below h1 (below_of_grown hg2) (Nat.le_refl _)) | (have h2 := own_below h2 (below_of_grown hg1) (Nat.le_refl _))
    first | (have n1 := own_blk_ne h1 hr2 (by decide); have n2 := own_blk_ne h2 hr2 (by decide)) | (have n1 := own_blk_ne h1 hr1 (by decide); have n2 := own_blk_ne h2 hr1 (by decide))
    have hg := HG.out
    refine end_ret (v := .agg #[.slice A1 L.length c1, .slice A2 M.length c2]) (by first | (simp [results, Tryd.results26, go_sem, ra2, rb2]; done) | (simp [results, Tryd.results26, go_sem, ra1, rb1]; done)) rfl ⟨_, rfl, ⟨A1, c1, A2, c2, rfl, own_base (base := W0.heap.size) ?_ (by omega), own_base (base := W0.heap.size) ?_ (by omega)⟩, ?_⟩
    · repeat' (first | (with_reducible exact h1) | (with_reducible refine World.ownsRow.drew ?_) | (with_reducible refine own_far ?_ n1 _ _))
    · repeat' (first | (with_reducible exact h2) | (with_reducible refine World.ownsRow.drew ?_) | (with_reducible refine own_far ?_ n2 _ _))
    · rw [hg]
      have hc2 := HB0.out.trans (hB2.mono (by omega))
      have hc1 := HB0.out.trans (hB1.mono (by omega))
      first | exact ((hc2.setCell (by simp) _).setCell (by simp) _) | exact ((hc1.setCell (by simp) _).setCell (by simp) _)

def rightB (b c : Int) : Bool := decide (0 ≤ b) && decide (b ≤ c) && decide (c ≤ 1000000000)
set_option maxRecDepth 100000 in
set_option maxHeartbeats 1000000 in
theorem right_any (g : Nat) (a b c : Int) (w : World) (hB : Blk w g 56 #[.int .i64 a, .int .i64 b, .int .i64 c]) :
    Calls Tryd.prog 25 #[.pointer (some ⟨g, 0, none⟩)] w fun e w' => e = .returned (.bool (rightB b c)) ∧ Below w.heap.size w w' := by
  have s1 := hB.cells 1 _ rfl
  have s2 := hB.cells 2 _ rfl
  simp only [List.getElem_toArray, List.getElem_cons_zero, List.getElem_cons_succ] at s1 s2
  have hlt := hB.lt
  obtain ⟨R, hR⟩ : ∃ R, rightB b c = R := ⟨_, rfl⟩
  rw [hR]
  have HR := Lib.hid hR
  clear hB hR
  by_cases h1 : 0 ≤ b
  · have t1 : decide (0 ≤ b) = true := by simp [h1]
    by_cases h2 : b ≤ c
    · have t2 : decide (b ≤ c) = true := by simp [h2]
      by_cases h3 : c ≤ 1000000000
      · have t3 : decide (c ≤ 1000000000) = true := by simp [h3]
        have HV : Hid (R = true) := Lib.hid (by rw [← HR.out, rightB, t1, t2, t3]; rfl)
        clear HR
        go_enter Tryd.func25, Tryd.ntmps25
        go_wp2_with fail
        go_big_quiet (fail)
        all_goals go_wp2_with fail
        all_goals go_ret
        all_goals exact ⟨by rw [HV.out]; rfl, below_drewN (Below.refl _ _) _⟩
      · have t3 : decide (c ≤ 1000000000) = false := by simp; omega
        have HV : Hid (R = false) := Lib.hid (by rw [← HR.out, rightB, t1, t2, t3]; rfl)
        clear HR
        go_enter Tryd.func25, Tryd.ntmps25
        go_wp2_with fail
        go_big_quiet (fail)
        all_goals go_wp2_with fail
        all_goals go_ret
        all_goals exact ⟨by rw [HV.out]; rfl, below_drewN (Below.refl _ _) _⟩
    · have t2 : decide (b ≤ c) = false := by simp; omega
      have HV : Hid (R = false) := Lib.hid (by rw [← HR.out, rightB, t1, t2]; rfl)
      clear HR
      go_enter Tryd.func25, Tryd.ntmps25
      go_wp2_with fail
      go_big_quiet (fail)
      all_goals go_wp2_with fail
      all_goals go_ret
      all_goals exact ⟨by rw [HV.out]; rfl, below_drewN (Below.refl _ _) _⟩
  · have t1 : decide (0 ≤ b) = false := by simp; omega
    have HV : Hid (R = false) := Lib.hid (by rw [← HR.out, rightB, t1]; rfl)
    clear HR
    go_enter Tryd.func25, Tryd.ntmps25
    go_wp2_with fail
    go_big_quiet (fail)
    all_goals go_wp2_with fail
    all_goals go_ret
    all_goals exact ⟨by rw [HV.out]; rfl, below_drewN (Below.refl _ _) _⟩
set_option maxRecDepth 100000 in
theorem ntext_any (g : Nat) (a b : Int) (c : Nat) (w : World) (hB : Blk w g 56 #[.int .i64 a, .int .i64 b, .int .i64 c]) (hc : c ≤ 1000000000) (hG : Pows w) :
    Calls Tryd.prog 28 #[.pointer (some ⟨g, 0, none⟩)] w fun e w' => e = .returned (.string (digB (c + 16))) ∧ Below w.heap.size w w' := by
  have s2 := hB.cells 2 _ rfl
  simp only [List.getElem_toArray, List.getElem_cons_zero, List.getElem_cons_succ] at s2
  obtain ⟨x, hx⟩ : ∃ x, c + 16 = x := ⟨_, rfl⟩
  rw [hx]
  have hxi : (c : Int) + 16 = (x : Int) := by omega
  have hx9 : x ≤ 2000000000 := by omega
  have HX := Lib.hid hx
  clear hx hB
  go_enter Tryd.func28, Tryd.ntmps28
  go_wp2_with fail
  refine (itoa_any x w (by omega) hG).mono ?_
  rintro e w1 ⟨rfl, hb1⟩
  go_wp2_with fail
  go_ret
  exact ⟨rfl, hb1⟩
end Go.Proofs.YtefodifmfjpnlaaDoor
