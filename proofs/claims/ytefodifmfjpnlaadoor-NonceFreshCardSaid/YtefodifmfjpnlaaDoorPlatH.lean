/- platter.Write (by one), Sync, Crash. -/
import Derived.Test.YtefodifmfjpnlaaDoorPlatF
import Derived.Test.YtefodifmfjpnlaaDoorPlatG
set_option linter.unusedVariables false
namespace Go.Proofs.YtefodifmfjpnlaaDoor
open Go.RowKit
def oneF (p : Plat) (i : Int) (s : ByteArray) (full : Bool) : Plat × Int :=
  if checkP p = true then if hasB p.sectors.length i = true then if s.size ≤ 128 then if full = true then (noPlat, 260) else (⟨p.sectors, p.cache ++ [⟨i, s⟩]⟩, 0) else (noPlat, 2) else (noPlat, 130) else (noPlat, 1)
def writeF (p : Plat) (i : Int) (s : ByteArray) : Plat × Int := oneF p i s (decide (100 ≤ p.cache.length))
def PlatPre (w : World) (A : Option Addr) (n : Nat) (A' : Option Addr) (m : Nat) (p : Plat) : Prop := Hid (∀ W, Below w.heap.size w W → PlatAt W W.heap.size A n A' m p)
theorem PlatAt.pre {w : World} {A A' : Option Addr} {n m : Nat} {p : Plat} (h : PlatAt w w.heap.size A n A' m p) : PlatPre w A n A' m p := fun W hb => h.grow hb
theorem PlatPre.step {w w1 : World} {A A' : Option Addr} {n m : Nat} {p : Plat} (h : PlatPre w A n A' m p) (hb : Below w.heap.size w w1) : PlatAt w1 w1.heap.size A n A' m p := h.out w1 hb
def Out2P (w : World) (r : Plat × Int) (e : Ending) (w' : World) : Prop := ∃ v, e = .returned (.tuple #[v, .int .i64 r.2]) ∧ PlatOut w' w.heap.size v r.1 ∧ Below w.heap.size w w'
theorem PlatOut.none_ (w' : World) (B : Nat) : PlatOut w' B (.agg #[.slice none 0 0, .slice none 0 0]) noPlat := ⟨none, 0, none, 0, rfl, World.ownsRow_nil _ _ _ _, World.ownsRow_nil _ _ _ _⟩

set_option maxRecDepth 100000 in
theorem write1_any (g : Nat) (w : World) : Calls Tryd.prog 54 #[.pointer (some ⟨g, 0, none⟩)] w fun e w' => e = .returned (.func (.func 55) #[.pointer (some ⟨g, 0, none⟩)] #[]) ∧ w = w' := by
  go_enter Tryd.func54, Tryd.ntmps54
  go_wp2
  go_ret
  exact ⟨rfl, rfl⟩

set_option maxRecDepth 100000 in
set_option maxHeartbeats 1000000 in
theorem one_bad (p : Plat) (i er : Int) (s : ByteArray) (full : Bool) (A A' : Option Addr) (n m c d : Nat) (w : World) (HP : PlatPre w A n A' m p) (hn : p.sectors.length = n)
    (hr : (checkP p = false ∧ er = 1) ∨ (checkP p = true ∧ hasB n i = false ∧ er = 130) ∨ (checkP p = true ∧ hasB n i = true ∧ 128 < s.size ∧ er = 2) ∨ (checkP p = true ∧ hasB n i = true ∧ s.size ≤ 128 ∧ full = true ∧ er = 260)) :
    Calls Tryd.prog 53 #[.agg #[.slice A n c, .slice A' m d], .int .i64 i, .string s, .bool full, .func (.func 54) #[] #[]] w (Out2P w (noPlat, er)) := by
  have HN := Lib.hid hn
  clear hn
  rcases hr with ⟨hc, rfl⟩ | hr
  · go_enter Tryd.func53, Tryd.ntmps53
    go_wp2_with fail
    refine (checkP_any p A A' n m c d _ (HP.step (by go_grown))).mono ?_
    rintro e w1 ⟨rfl, hb1⟩
    rw [hc]
    have hB1 : Below w.heap.size w w1 := Below.trans (by go_grown) (hb1.mono (by simp; omega))
    have hr2 := (Blk.new_at (g := w.heap.size + 1) (by simp) _ _).below hb1 (by simp)
    have s0 := hr2.cells 0 _ rfl
    have s1 := hr2.cells 1 _ rfl
    have fs := hr2.frozen
    simp only [List.getElem_toArray, List.getElem_cons_zero, List.getElem_cons_succ] at s0 s1
    clear hr2 hb1
    go_wp2_with (with_reducible refine end_at ?_)
    refine end_ret (v := .tuple #[.agg #[.slice none 0 0, .slice none 0 0], .int .i64 1]) (by simp [results, Tryd.results53, go_sem, s0, s1]; try rfl) rfl ⟨_, rfl, PlatOut.none_ _ _, by go_grown⟩
  · have hc : checkP p = true := by rcases hr with h | h | h <;> exact h.1
    have hr' : (hasB n i = false ∧ er = 130) ∨ (hasB n i = true ∧ 128 < s.size ∧ er = 2) ∨ (hasB n i = true ∧ s.size ≤ 128 ∧ full = true ∧ er = 260) := by
      rcases hr with ⟨_, h, e⟩ | ⟨_, h, e⟩ | ⟨_, h, e⟩
      · exact .inl ⟨h, e⟩
      · exact .inr (.inl ⟨h, e⟩)
      · exact .inr (.inr ⟨h, e⟩)
    clear hr
    rcases hr' with ⟨hh, rfl⟩ | ⟨hh, hs, rfl⟩ | ⟨hh, hs, rfl, rfl⟩
    all_goals
      go_enter Tryd.func53, Tryd.ntmps53
      go_wp2_with fail
      refine (checkP_any p A A' n m c d _ (HP.step (by go_grown))).mono ?_
      rintro e w1 ⟨rfl, hb1⟩
      rw [hc]
      have hr1 := ((Blk.new w _ _).alloc _).below hb1 (by simp; omega)
      have q0 := hr1.cells 0 _ rfl
      have q1 := hr1.cells 1 _ rfl
      simp only [List.getElem_toArray, List.getElem_cons_zero, List.getElem_cons_succ] at q0 q1
      clear hr1
      go_wp2_with fail
      refine (has_any p n m A A' c d i _ HN.out).mono ?_
      rintro e w2 ⟨rfl, hb2⟩
      rw [HN.out, hh]
      have hb3 := hb1.trans (hb2.mono hb1.size)
      have hB3 : Below w.heap.size w w2 := Below.trans (by go_grown) (hb3.mono (by simp; omega))
      have hr2 := (Blk.new_at (g := w.heap.size + 1) (by simp) _ _).below hb3 (by simp)
      have s0 := hr2.cells 0 _ rfl
      have s1 := hr2.cells 1 _ rfl
      have fs := hr2.frozen
      simp only [List.getElem_toArray, List.getElem_cons_zero, List.getElem_cons_succ] at s0 s1
      clear hr2 hb1 hb2 hb3 q0 q1
      go_wp2_with (with_reducible refine end_at ?_)
      refine end_ret (v := .tuple #[.agg #[.slice none 0 0, .slice none 0 0], .int .i64 _]) (by simp [results, Tryd.results53, go_sem, s0, s1]; try rfl) rfl ⟨_, rfl, PlatOut.none_ _ _, by go_grown⟩

set_option maxRecDepth 100000 in
set_option maxHeartbeats 1000000 in
theorem one_ok (p : Plat) (i : Int) (s : ByteArray) (A A' : Option Addr) (n m c d : Nat) (w : World) (HP : PlatPre w A n A' m p) (hn : p.sectors.length = n) (hm : p.cache.length ≤ 100) (hmm : m ≤ 100) (hn2 : n ≤ 200)
    (hc : checkP p = true) (hh : hasB n i = true) (hs : s.size ≤ 128) :
    Calls Tryd.prog 53 #[.agg #[.slice A n c, .slice A' m d], .int .i64 i, .string s, .bool false, .func (.func 54) #[] #[]] w (Out2P w (⟨p.sectors, p.cache ++ [⟨i, s⟩]⟩, 0)) := by
  have HN := Lib.hid hn
  clear hn
  go_enter Tryd.func53, Tryd.ntmps53
  go_wp2_with fail
  refine (checkP_any p A A' n m c d _ (HP.step (by go_grown))).mono ?_
  rintro e w1 ⟨rfl, hb1⟩
  rw [hc]
  have hr1 := ((Blk.new w _ _).alloc _).below hb1 (by simp; omega)
  have q0 := hr1.cells 0 _ rfl
  have q1 := hr1.cells 1 _ rfl
  simp only [List.getElem_toArray, List.getElem_cons_zero, List.getElem_cons_succ] at q0 q1
  go_wp2_with fail
  refine (has_any p n m A A' c d i _ HN.out).mono ?_
  rintro e w2 ⟨rfl, hb2⟩
  rw [HN.out, hh]
  have hb3 := hb1.trans (hb2.mono hb1.size)
  have hB3 : Below w.heap.size w w2 := Below.trans (by go_grown) (hb3.mono (by simp; omega))
  have hz3 := hb3.size
  simp only [World.size_alloc] at hz3
  have hr2 := hr1.below hb2 hr1.lt
  clear q0 q1
  have q0 := hr2.cells 0 _ rfl
  have q1 := hr2.cells 1 _ rfl
  simp only [List.getElem_toArray, List.getElem_cons_zero, List.getElem_cons_succ] at q0 q1
  clear hr1 hr2 hb1 hb2
  go_wp2_with fail
  refine (dcopied_any p A A' n m c d w2 (HP.step hB3) (by omega) (by omega)).mono ?_
  rintro e w3 ⟨g, rfl, hD3, hb4⟩
  clear q0 q1
  go_wp2_with fail
  refine (write1_any g w3).mono ?_
  rintro e w' ⟨rfl, rfl⟩
  go_wp2_with fail
  refine (wait_any p i s w2.heap.size g w3 hD3 hb4.size (by omega)).mono ?_
  rintro e w4 ⟨rfl, hD4, hb5⟩
  have hz5 := hb4.size
  have hz6 := hb5.size
  go_wp2_with fail
  refine (plain_any _ w2.heap.size g w4 hD4 (by omega)).mono ?_
  rintro e w5 ⟨v, rfl, ⟨A1, c1, A2, c2, rfl, hown1, hown2⟩, hb6⟩
  have hb7 := hb3.trans ((hb4.trans (hb5.trans (hb6.mono (show w2.heap.size ≤ w4.heap.size by omega)))).mono (by simpa using hz3))
  have hB7 : Below w.heap.size w w5 := Below.trans (by go_grown) (hb7.mono (by simp; omega))
  have hr := (Blk.new_at (g := w.heap.size + 1) (by simp) _ _).below hb7 (by simp)
  have s0 := hr.cells 0 _ rfl
  have s1 := hr.cells 1 _ rfl
  have fs := hr.frozen
  simp only [List.getElem_toArray, List.getElem_cons_zero, List.getElem_cons_succ, List.length_append, List.length_singleton] at s0 s1 hown1 hown2 ⊢
  have HO := Lib.hid (And.intro hown1 hown2)
  have HZ := Lib.hid hz3
  clear hr hb3 hb4 hb5 hb6 hb7 hB3 hD3 hD4 hown1 hown2
  go_wp2_with (with_reducible refine end_at ?_)
  refine end_ret (v := .tuple #[.agg #[.slice A1 p.sectors.length c1, .slice A2 (p.cache.length + 1) c2], .int .i64 0]) (by simp [results, Tryd.results53, go_sem, s0, s1]; try rfl) rfl ⟨_, rfl, ⟨A1, c1, A2, c2, by simp, own_base (base := w2.heap.size) ?_ (by have := HZ.out; omega), own_base (base := w2.heap.size) ?_ (by have := HZ.out; omega)⟩, by go_grown⟩
  · have h1 := HO.out.1
    have hz := HZ.out
    repeat' (first | (with_reducible exact h1) | (with_reducible refine ownsRow_setCell_below ?_ (by first | (simp; done) | (simp; omega)) _))
  · have h1 := HO.out.2
    have hz := HZ.out
    simp only [List.length_append, List.length_singleton]
    repeat' (first | (with_reducible exact h1) | (with_reducible refine ownsRow_setCell_below ?_ (by first | (simp; done) | (simp; omega)) _))

theorem one_any (p : Plat) (i : Int) (s : ByteArray) (full : Bool) (A A' : Option Addr) (n m c d : Nat) (w : World) (hP : PlatAt w w.heap.size A n A' m p) :
    Calls Tryd.prog 53 #[.agg #[.slice A n c, .slice A' m d], .int .i64 i, .string s, .bool full, .func (.func 54) #[] #[]] w (Out2P w (oneF p i s full)) := by
  have hn := hP.1.1
  have hm := hP.2.1
  unfold oneF
  by_cases hc : checkP p = true
  · obtain ⟨_, h200, h100, _⟩ := (checkP_iff p).1 hc
    rw [if_pos hc, hn]
    by_cases hh : hasB n i = true
    · rw [if_pos hh]
      by_cases hs : s.size ≤ 128
      · rw [if_pos hs]
        cases full with
        | true => exact one_bad p i 260 s true A A' n m c d w hP.pre hn (.inr (.inr (.inr ⟨hc, hh, hs, rfl, rfl⟩)))
        | false => exact one_ok p i s A A' n m c d w hP.pre hn h100 (by omega) (by omega) hc hh hs
      · rw [if_neg hs]
        exact one_bad p i 2 s full A A' n m c d w hP.pre hn (.inr (.inr (.inl ⟨hc, hh, by omega, rfl⟩)))
    · rw [if_neg hh]
      exact one_bad p i 130 s full A A' n m c d w hP.pre hn (.inr (.inl ⟨hc, by simpa using hh, rfl⟩))
  · rw [if_neg hc]
    exact one_bad p i 1 s full A A' n m c d w hP.pre hn (.inl ⟨by simpa using hc, rfl⟩)

theorem settle_sync (p : Plat) (A A' : Option Addr) (n m c d : Nat) (w : World) (hP : PlatAt w w.heap.size A n A' m p) :
    Calls Tryd.prog 32 #[.agg #[.slice A n c, .slice A' m d], .func (.func 56) #[] #[]] w (Out2P w (settleF p fun _ => 1)) := by
  have hm := hP.2.1
  unfold settleF
  by_cases hc : checkP p = true
  · obtain ⟨_, h200, h100, _, hx⟩ := (checkP_iff p).1 hc
    rw [if_pos hc]
    subst hm
    exact settle_sync_ok p (fun _ => 1) A A' n _ c d w hP.pre hc rfl h100 (by have := hP.1.1; omega) (settleTo_keeps p _ hc) hx (fun _ => by omega) (fun W k _ => sync1_any k W)
  · rw [if_neg hc]
    exact settle_sync_bad p A A' n m c d w hP.pre (by simpa using hc)
theorem settle_crash (p : Plat) (F : List Int) (h : Nat) (AF : Option Addr) (nF cF : Nat) (A A' : Option Addr) (n m c d : Nat) (w : World) (hP : PlatAt w w.heap.size A n A' m p)
    (hb : w.cell? ⟨h, 0, none⟩ = some (.slice AF nF cF)) (hh : h < w.heap.size) (hS : SlR encI 1 w w.heap.size AF nF F) (hn : nF ≤ 140737488355328) (hF : ∀ x ∈ F, x ≤ 9223372036854775807) :
    Calls Tryd.prog 32 #[.agg #[.slice A n c, .slice A' m d], .func (.func 33) #[] #[.pointer (some ⟨h, 0, none⟩)]] w (Out2P w (settleF p fun k => F.getD k 0)) := by
  have hm := hP.2.1
  unfold settleF
  by_cases hc : checkP p = true
  · obtain ⟨_, h200, h100, _, hx⟩ := (checkP_iff p).1 hc
    rw [if_pos hc]
    subst hm
    refine settle_crash_ok p (fun k => F.getD k 0) A A' n _ c d h w hP.pre hc rfl h100 (by have := hP.1.1; omega) (settleTo_keeps p _ hc) hx (fun k => ?_) (fun W k hB => ?_)
    · rw [List.getD_eq_getElem?_getD]
      cases e : F[k]? with
      | none => simp
      | some y => exact hF y (List.mem_of_getElem? e)
    · exact crash1_any F k h AF nF cF W ((hB.cell (p := ⟨h, 0, none⟩) hh).trans hb) ((hS.below hB).more hB.size) hn
  · rw [if_neg hc]
    exact settle_crash_bad p A A' n m c d h w hP.pre (by simpa using hc)
end Go.Proofs.YtefodifmfjpnlaaDoor
