/- chapter 13's reference: Write; a Crash of fates 1 alone, Sync. -/
import Derived.Test.YtefodifmfjpnlaaTwinS2
set_option linter.unusedVariables false
namespace Go.Proofs.Ytefodifmfjpnlaa
open Go.RowKit
theorem write_cases (p : Plat) (i : Int) (s : ByteArray) (n m : Nat) (hl : p.sectors.length = n) (hm : p.cache.length = m) :
    (checkP p = false ∧ writeF p i s = (noPlat, 1)) ∨ (checkP p = true ∧ (i < 0 ∨ (0 ≤ i ∧ (n : Int) ≤ i)) ∧ writeF p i s = (noPlat, 130)) ∨ (checkP p = true ∧ 0 ≤ i ∧ i < n ∧ 128 < s.size ∧ writeF p i s = (noPlat, 2)) ∨
      (checkP p = true ∧ 0 ≤ i ∧ i < n ∧ s.size ≤ 128 ∧ 100 ≤ m ∧ writeF p i s = (noPlat, 260)) ∨ (checkP p = true ∧ 0 ≤ i ∧ i < n ∧ s.size ≤ 128 ∧ m < 100 ∧ writeF p i s = (⟨p.sectors, p.cache ++ [⟨i, s⟩]⟩, 0)) := by
  subst hl; subst hm
  unfold writeF oneF
  by_cases hc : checkP p = true
  · by_cases hh : hasB p.sectors.length i = true
    · have hh' := (hasB_iff _ _).1 hh
      by_cases hs : s.size ≤ 128
      · by_cases h4 : 100 ≤ p.cache.length
        · exact .inr (.inr (.inr (.inl ⟨hc, hh'.1, hh'.2, hs, h4, by simp [hc, hh, hs, h4]⟩)))
        · exact .inr (.inr (.inr (.inr ⟨hc, hh'.1, hh'.2, hs, by omega, by simp [hc, hh, hs, h4]⟩)))
      · exact .inr (.inr (.inl ⟨hc, hh'.1, hh'.2, by omega, by simp [hc, hh, hs]⟩))
    · have := mt (hasB_iff p.sectors.length i).2 hh
      exact .inr (.inl ⟨hc, by omega, by simp [hc, hh]⟩)
  · exact .inl ⟨by simpa using hc, by simp [hc]⟩
theorem out2_no {w w' : World} {r : Plat × Int} {e : Ending} {er : Int} (h : r = (noPlat, er)) (he : e = .returned (.tuple #[.agg #[.slice none 0 0, .slice none 0 0], .int .i64 er])) (hb : Below w.heap.size w w') : Out2P w r e w' := by
  subst h
  exact ⟨_, he, ⟨none, 0, none, 0, rfl, World.ownsRow_nil _ _ _ _, World.ownsRow_nil _ _ _ _⟩, hb⟩
set_option maxHeartbeats 1000000 in
theorem refwrite_any (p : Plat) (i : Int) (s : ByteArray) (A A' : Option Addr) (n m c d : Nat) (w : World) (hP : PlatAt w w.heap.size A n A' m p) (hn9 : n ≤ 1000) (hm9 : m ≤ 1000) :
    Calls Try.prog 56 #[.agg #[.slice A n c, .slice A' m d], .int .i64 i, .string s] w (Out2P w (writeF p i s)) := by
  have HP := hP.pre
  have hcs := write_cases p i s n m hP.1.1 hP.2.1
  have HL := Lib.hid (And.intro hP.1.1 hP.2.1)
  clear hP
  generalize hg : writeF p i s = rr at hcs ⊢
  clear hg
  obtain ⟨i1, hj0, hy0, hy1, hy2⟩ := info_parts put_info
  have bad : ∀ (er : Int) (v : Bool), rr = (noPlat, er) → checkP p = v → ((v = false ∧ er = 1) ∨ (v = true ∧ (i < 0 ∨ (0 ≤ i ∧ (n : Int) ≤ i)) ∧ er = 130) ∨ (v = true ∧ 0 ≤ i ∧ i < n ∧ 128 < s.size ∧ er = 2) ∨ (v = true ∧ 0 ≤ i ∧ i < n ∧ s.size ≤ 128 ∧ 100 ≤ m ∧ er = 260)) →
      Calls Try.prog 56 #[.agg #[.slice A n c, .slice A' m d], .int .i64 i, .string s] w (Out2P w rr) := by
    intro er v h1 h2 h3
    have HR := Lib.hid h1
    have HC := Lib.hid h2
    clear h1 h2 hj0 hy0 hy1 hy2 hcs
    rcases h3 with ⟨rfl, rfl⟩ | ⟨rfl, h3 | ⟨h3, h4⟩, rfl⟩ | ⟨rfl, h3, h4, h5, rfl⟩ | ⟨rfl, h3, h4, h5, h6, rfl⟩
    all_goals
      go_enter Try.func56, Try.ntmps56
      go_wp2_with fail
      refine (refcheck_any p A A' n m c d _ (HP.step (by go_grown)) (by omega) (by omega)).mono ?_
      rintro e w1 ⟨rfl, hb1⟩
      rw [HC.out]
      have hX := ((Blk.new w _ _).alloc _).below hb1 (by simp; omega)
      have hY := (Blk.new_at (g := w.heap.size + 1) (by simp) _ _).below hb1 (by simp)
      have hB1 : Below w.heap.size w w1 := Below.trans (by go_grown) (hb1.mono (by simp; omega))
      have x0 := hX.cells 0 _ rfl
      have x1 := hX.cells 1 _ rfl
      have y0 := hY.cells 0 _ rfl
      have y1 := hY.cells 1 _ rfl
      have yf := hY.frozen
      have hyl := hY.lt
      simp only [List.getElem_toArray, List.getElem_cons_zero, List.getElem_cons_succ] at x0 x1 y0 y1
      clear hb1 hX hY
      go_wp2_with (with_reducible refine end_at ?_)
      refine end_ret (v := .tuple #[.agg #[.slice none 0 0, .slice none 0 0], .int .i64 _]) (by simp [results, Try.results56, go_sem, y0, y1]; try rfl) rfl (out2_no HR.out rfl (by go_grown))
  rcases hcs with ⟨h1, h2⟩ | ⟨h1, h2, h3⟩ | ⟨h1, h2, h3, h4, h5⟩ | ⟨h1, h2, h3, h4, h5, h6⟩ | ⟨h1, h2, h3, h4, h5, h6⟩
  · exact bad 1 false h2 h1 (.inl ⟨rfl, rfl⟩)
  · exact bad 130 true h3 h1 (.inr (.inl ⟨rfl, h2, rfl⟩))
  · exact bad 2 true h5 h1 (.inr (.inr (.inl ⟨rfl, h2, h3, h4, rfl⟩)))
  · exact bad 260 true h6 h1 (.inr (.inr (.inr ⟨rfl, h2, h3, h4, h5, rfl⟩)))
  · have HR := Lib.hid h6
    have HC := Lib.hid h1
    clear h6 h1 bad
    go_enter Try.func56, Try.ntmps56
    go_wp2_with fail
    refine (refcheck_any p A A' n m c d _ (HP.step (by go_grown)) (by omega) (by omega)).mono ?_
    rintro e w1 ⟨rfl, hb1⟩
    rw [HC.out]
    have hX := ((Blk.new w _ _).alloc _).below hb1 (by simp; omega)
    have hY := (Blk.new_at (g := w.heap.size + 1) (by simp) _ _).below hb1 (by simp)
    have hB1 : Below w.heap.size w w1 := Below.trans (by go_grown) (hb1.mono (by simp; omega))
    have x0 := hX.cells 0 _ rfl
    have x1 := hX.cells 1 _ rfl
    simp only [List.getElem_toArray, List.getElem_cons_zero, List.getElem_cons_succ] at x0 x1
    clear hb1
    go_wp2_with fail
    refine (own13_any p A A' n m c d _ (HP.step hB1) hn9 hm9).mono ?_
    rintro e w2 ⟨v, rfl, ⟨A2, c2, A2', c2', rfl, ho1, ho2⟩, hb2⟩
    have hY2 := hY.below hb2 hY.lt
    have hB2 := hB1.trans (hb2.mono hB1.size)
    have ho1 := own_base ho1 hB1.size
    have ho2 := own_base ho2 hB1.size
    have hz := hB2.size
    rw [HL.out.1] at ho1
    rw [HL.out.2] at ho2
    have HO := Lib.hid (And.intro ho1 ho2)
    have hbl : ∀ k, (Value.slice A2' m c2').ownBlock = some k → k < w2.heap.size := fun k h => (ho2.lt k h).2
    have HBL := Lib.hid (And.intro hbl (fun k h => (ho2.lt k h).1))
    have hoo := own_own_ne ho1 ho2 (by decide)
    have HOO := Lib.hid hoo
    simp only [HL.out.1, HL.out.2]
    have HYB := Lib.hid hY2
    have hyne := own_blk_ne ho2 hY2 (by decide)
    have HYN := Lib.hid hyne
    have HB2' := Lib.hid hB2
    have hyl := hY2.lt
    have e1 : ¬ (w2.heap.size = w.heap.size + 1) := by omega
    have e2 : ¬ (w.heap.size + 1 = w2.heap.size) := by omega
    clear hb2 hB1 hX hY x0 x1 ho1 ho2 hbl hoo hyne hY2 hB2
    go_wp2_with (at_builtin; refine wpList_append_any _ rfl (.tmp 35) (.tmp 39) _ rfl w.heap.size _ i1 _ 2 24 Try.underlying23 hj0 hy0 hy1 hy2 rfl (by omega) (.slice A2' m c2') m (flat encP p.cache) rfl ((HO.out.2.alloc _).alloc _) (w2.heap.size + 1 + 1) (some ⟨w2.heap.size + 1, 0, none⟩) 1 1 [.int .i64 i, .string s] rfl (Reads.new_at (by simp) 42 #[.int .i64 i, .string s] rfl) (one_flatP [⟨i, s⟩]) (by simp only [maxLen]; omega) (by omega) (by simp; omega) ?_; intro v1 w3 hown1 hg1 hat1; obtain ⟨A3, c3, rfl, _, _, _⟩ := own_form hown1; have hs3 := Blk.grown ((Blk.new w2 25 #[.slice A2 n c2, .slice A2' m c2']).alloc (.cells #[.int .i64 i, .string s] 42)) hg1 (fun h => by have := HBL.out.1 _ h.symm; omega); have hr3 := Blk.grown ((HYB.out.alloc (.cells #[.slice A2 n c2, .slice A2' m c2'] 25)).alloc (.cells #[.int .i64 i, .string s] 42)) hg1 (fun h => HYN.out h.symm); have s0 := hs3.cells 0 _ rfl; have s1 := hs3.cells 1 _ rfl; have sf := hs3.frozen; have hsl := hs3.lt; have q0 := hr3.cells 0 _ rfl; have q1 := hr3.cells 1 _ rfl; have qf := hr3.frozen; simp only [List.getElem_toArray, List.getElem_cons_zero, List.getElem_cons_succ] at s0 s1 q0 q1)
    have hB3 : Below w.heap.size w w3 := Below.grown (by have := HB2'.out; have := this.size; go_grown) hg1 (by have := HB2'.out.size; simp; omega) (fun k h => HBL.out.2 k h)
    have h1 := ((HO.out.1.alloc (.cells #[.slice A2 n c2, .slice A2' m c2'] 25)).alloc (.cells #[.int .i64 i, .string s] 42)).kept hg1 (by
      cases hb : (Value.slice A2 n c2).ownBlock with
      | none => exact .inl rfl
      | some b => exact .inr (fun e => HOO.out b hb e.symm))
    have n1 := own_blk_ne h1 hr3 (by decide)
    have n2 := own_blk_ne hown1 hr3 (by decide)
    have m1 := own_blk_ne h1 hs3 (by decide)
    have m2 := own_blk_ne hown1 hs3 (by decide)
    have HZ := Lib.hid (And.intro (And.intro h1 hown1) (And.intro (And.intro n1 n2) (And.intro m1 m2)))
    clear hown1 hg1 hat1 h1 n1 n2 m1 m2 hs3 hr3
    go_wp2_with (with_reducible refine end_at ?_)
    obtain ⟨⟨h1, h2⟩, ⟨n1, n2⟩, m1, m2⟩ := HZ.out
    obtain ⟨rfl, rfl⟩ := HL.out
    refine end_ret (v := .tuple #[.agg #[.slice A2 p.sectors.length c2, .slice A3 (p.cache.length + 1) c3], .int .i64 0]) (by simp [results, Try.results56, go_sem, q0, q1]; try rfl) rfl ?_
    rw [HR.out]
    refine ⟨_, rfl, ⟨A2, c2, A3, c3, by simp, ?_, ?_⟩, by go_grown⟩
    · repeat' (first | (with_reducible exact h1) | (with_reducible refine own_far ?_ n1 _ _) | (with_reducible refine own_far ?_ m1 _ _))
    · simp only [List.length_append, List.length_singleton, flat_snoc]
      repeat' (first | (with_reducible refine own_far ?_ n2 _ _) | (with_reducible refine own_far ?_ m2 _ _))
      exact h2
end Go.Proofs.Ytefodifmfjpnlaa
