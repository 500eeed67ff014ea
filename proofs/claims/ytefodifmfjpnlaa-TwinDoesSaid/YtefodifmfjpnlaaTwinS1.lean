/- chapter 13's reference: Own, Check. -/
import Derived.Test.YtefodifmfjpnlaaTwinFar
set_option linter.unusedVariables false
namespace Go.Proofs.Ytefodifmfjpnlaa
open Go.RowKit
set_option maxHeartbeats 400000 in
theorem towns_any (L : List ByteArray) (A : Option Addr) (n c : Nat) (w : World) (hL : SlR encS 1 w w.heap.size A n L) (hn : n ≤ 1000) :
    Calls Try.prog 41 #[.slice A n c] w fun e w' => ∃ A' c', e = .returned (.slice A' n c') ∧ w'.ownsRow w.heap.size 9 1 (.slice A' n c') n (flat encS L) ∧ Below w.heap.size w w' := by
  obtain ⟨i0, hi0, hz0, hz1, hz2⟩ := info_parts str_info
  have HR := Lib.hid (hL.reads encS_len)
  clear hL
  go_enter Try.func41, Try.ntmps41
  go_wp2_with (at_builtin; refine wpList_append_any _ rfl (.tmp 4) (.tmp 5) _ rfl w.heap.size _ i0 _ 1 16 Try.underlying22 hi0 hz0 hz1 hz2 rfl (by omega) (.slice none 0 0) 0 [] rfl (World.ownsRow_nil _ _ _ _) w.heap.size A n c (flat encS L) rfl HR.out (one_flatS L) (by simp only [maxLen]; omega) (by omega) (Nat.le_refl _) ?_; intro v1 w1 hown1 hg1 hat1; obtain ⟨A1, c1, rfl, _, _, _⟩ := own_form hown1)
  simp only [Nat.zero_add, List.nil_append] at hown1 ⊢
  have HO := Lib.hid (And.intro hown1 (below_of_grown hg1))
  clear hown1 hg1 hat1
  go_ret
  exact ⟨A1, c1, rfl, HO.out.1, HO.out.2⟩
set_option maxHeartbeats 1000000 in
theorem own13_any (p : Plat) (A A' : Option Addr) (n m c d : Nat) (w : World) (hP : PlatAt w w.heap.size A n A' m p) (hn : n ≤ 1000) (hm : m ≤ 1000) :
    Calls Try.prog 23 #[.agg #[.slice A n c, .slice A' m d]] w fun e w' => ∃ v, e = .returned v ∧ PlatOut w' w.heap.size v p ∧ Below w.heap.size w w' := by
  obtain ⟨i1, hj0, hy0, hy1, hy2⟩ := info_parts put_info
  have HP := hP.pre
  clear hP
  have HL := Lib.hid (And.intro (HP.step (Below.refl _ _)).1.1 (HP.step (Below.refl _ _)).2.1)
  go_enter Try.func23, Try.ntmps23
  go_wp2_with fail
  refine (towns_any p.sectors A n c _ (HP.step (by go_grown)).1 hn).mono ?_
  rintro e w1 ⟨A1, c1, rfl, ho1, hb1⟩
  have hk := ((Blk.new w _ _).alloc _).below hb1 (by simp; omega)
  have hr := (Blk.new_at (g := w.heap.size + 1) (by simp) _ _).below hb1 (by simp)
  have hB1 : Below w.heap.size w w1 := Below.trans (by go_grown) (hb1.mono (by simp; omega))
  have k0 := hk.cells 0 _ rfl
  have k1 := hk.cells 1 _ rfl
  have hkl := hk.lt
  have r0 := hr.cells 0 _ rfl
  have r1 := hr.cells 1 _ rfl
  have rf := hr.frozen
  have hrl := hr.lt
  simp only [List.getElem_toArray, List.getElem_cons_zero, List.getElem_cons_succ] at k0 k1 r0 r1
  have HO1 := Lib.hid (own_base (base' := w.heap.size) ho1 (by simp; omega))
  have HRB := Lib.hid hr
  clear hk hb1 ho1 hr
  go_wp2_with (at_builtin; refine wpList_append_any _ rfl (.tmp 9) (.tmp 11) _ rfl w.heap.size _ i1 _ 2 24 Try.underlying23 hj0 hy0 hy1 hy2 rfl (by omega) (.slice none 0 0) 0 [] rfl (World.ownsRow_nil _ _ _ _) (w1.heap.size + 1) A' m d (flat encP p.cache) rfl (((HP.step (by go_grown)).2.reads encP_len).more (by simp)) (one_flatP p.cache) (by simp only [maxLen]; omega) (by omega) (by have := hB1.size; simp; omega) ?_; intro v2 w2 hown2 hg2 hat2; obtain ⟨A2, c2, rfl, _, _, _⟩ := own_form hown2; have hs2 := Blk.grown (Blk.new w1 25 #[.slice A1 n c1, .slice none 0 0]) hg2 (by simp [Value.ownBlock]); have hr2 := Blk.grown (HRB.out.alloc (.cells #[.slice A1 n c1, .slice none 0 0] 25)) hg2 (by simp [Value.ownBlock]); have s0 := hs2.cells 0 _ rfl; have s1 := hs2.cells 1 _ rfl; have sf := hs2.frozen; have hsl := hs2.lt; have q0 := hr2.cells 0 _ rfl; have q1 := hr2.cells 1 _ rfl; have qf := hr2.frozen; simp only [List.getElem_toArray, List.getElem_cons_zero, List.getElem_cons_succ] at s0 s1 q0 q1)
  have hB2 : Below w.heap.size w w2 := Below.grown (by have := hB1.size; go_grown) hg2 (by have := hB1.size; simp; omega) (by simp [Value.ownBlock])
  simp only [Nat.zero_add, List.nil_append] at hown2 ⊢
  have h1 := own_below (HO1.out.alloc (.cells #[.slice A1 n c1, .slice none 0 0] 25)) (below_of_grown hg2) (Nat.le_refl _)
  have n1 := own_blk_ne h1 hr2 (by decide)
  have n2 := own_blk_ne hown2 hr2 (by decide)
  have m1 := own_blk_ne h1 hs2 (by decide)
  have m2 := own_blk_ne hown2 hs2 (by decide)
  have HO := Lib.hid (And.intro (And.intro h1 hown2) (And.intro (And.intro n1 n2) (And.intro m1 m2)))
  have hz := hB1.size
  clear hown2 hg2 hat2 h1 n1 n2 m1 m2 hs2 hr2 k0 k1 r0 r1 rf
  go_wp2_with (with_reducible refine end_at ?_)
  obtain ⟨⟨h1, h2⟩, ⟨n1, n2⟩, m1, m2⟩ := HO.out
  obtain ⟨rfl, rfl⟩ := HL.out
  refine end_ret (v := .agg #[.slice A1 p.sectors.length c1, .slice A2 p.cache.length c2]) (by simp [results, Try.results23, go_sem, q0, q1]; try rfl) rfl ⟨_, rfl, ⟨A1, c1, A2, c2, rfl, ?_, ?_⟩, ?_⟩
  · repeat' (first | (with_reducible exact h1) | (with_reducible refine own_far ?_ n1 _ _) | (with_reducible refine own_far ?_ m1 _ _))
  · repeat' (first | (with_reducible exact h2) | (with_reducible refine own_far ?_ n2 _ _) | (with_reducible refine own_far ?_ m2 _ _))
  · go_grown
end Go.Proofs.Ytefodifmfjpnlaa
