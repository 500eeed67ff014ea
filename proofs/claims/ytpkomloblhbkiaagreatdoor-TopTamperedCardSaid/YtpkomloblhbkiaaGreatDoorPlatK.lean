/- platter.Read whole; Write, Sync, Crash, New. -/
import Derived.Test.YtpkomloblhbkiaaGreatDoorPlatG
import Derived.Laws.MakeOwn
import Derived.Laws.OwnMore
set_option linter.unusedVariables false
/- platter.Write (by one), Sync, Crash. -/
namespace Go.Proofs.YtpkomloblhbkiaaGreatDoor
open Go.RowKit
def oneF (p : Plat) (i : Int) (s : ByteArray) (full : Bool) : Plat × Int :=
  if checkP p = true then if hasB p.sectors.length i = true then if s.size ≤ 128 then if full = true then (noPlat, 260) else (⟨p.sectors, p.cache ++ [⟨i, s⟩]⟩, 0) else (noPlat, 2) else (noPlat, 130) else (noPlat, 1)
def writeF (p : Plat) (i : Int) (s : ByteArray) : Plat × Int := oneF p i s (decide (100 ≤ p.cache.length))
def PlatPre (w : World) (A : Option Addr) (n : Nat) (A' : Option Addr) (m : Nat) (p : Plat) : Prop := Hid (∀ W, Below w.heap.size w W → PlatAt W W.heap.size A n A' m p)
theorem PlatAt.pre {w : World} {A A' : Option Addr} {n m : Nat} {p : Plat} (h : PlatAt w w.heap.size A n A' m p) : PlatPre w A n A' m p := fun W hb => h.grow hb
theorem PlatPre.step {w w1 : World} {A A' : Option Addr} {n m : Nat} {p : Plat} (h : PlatPre w A n A' m p) (hb : Below w.heap.size w w1) : PlatAt w1 w1.heap.size A n A' m p := h.out w1 hb
def Out2P (w : World) (r : Plat × Int) (e : Ending) (w' : World) : Prop := ∃ v, e = .returned (.tuple #[v, .int .i64 r.2]) ∧ PlatOut w' w.heap.size v r.1 ∧ Below w.heap.size w w'
theorem PlatOut.none_ (w' : World) (B : Nat) : PlatOut w' B (.agg #[.slice none 0 0, .slice none 0 0]) noPlat := ⟨none, 0, none, 0, rfl, World.ownsRow_nil _ _ _ _, World.ownsRow_nil _ _ _ _⟩
set_option maxRecDepth 100000 in
theorem write1_any (g : Nat) (w : World) : Calls Tryz.prog 111 #[.pointer (some ⟨g, 0, none⟩)] w fun e w' => e = .returned (.func (.func 112) #[.pointer (some ⟨g, 0, none⟩)] #[]) ∧ w = w' := by
  go_enter Tryz.func111, Tryz.ntmps111
  go_wp2
  go_ret
  exact ⟨rfl, rfl⟩
set_option maxRecDepth 100000 in
set_option maxHeartbeats 1000000 in
theorem one_bad (p : Plat) (i er : Int) (s : ByteArray) (full : Bool) (A A' : Option Addr) (n m c d : Nat) (w : World) (HP : PlatPre w A n A' m p) (hn : p.sectors.length = n)
    (hr : (checkP p = false ∧ er = 1) ∨ (checkP p = true ∧ hasB n i = false ∧ er = 130) ∨ (checkP p = true ∧ hasB n i = true ∧ 128 < s.size ∧ er = 2) ∨ (checkP p = true ∧ hasB n i = true ∧ s.size ≤ 128 ∧ full = true ∧ er = 260)) :
    Calls Tryz.prog 26 #[.agg #[.slice A n c, .slice A' m d], .int .i64 i, .string s, .bool full, .func (.func 111) #[] #[]] w (Out2P w (noPlat, er)) := by
  have HN := Lib.hid hn
  clear hn
  rcases hr with ⟨hc, rfl⟩ | hr
  · go_enter Tryz.func26, Tryz.ntmps26
    go_wp2_with fail
    refine (checkP_any p A A' n m c d _ (HP.step (by go_grown))).mono ?_
    rintro e w1 ⟨rfl, hb1⟩
    rw [hc]
    have hB1 : Below w.heap.size w w1 := Below.trans (by go_grown) (hb1.mono (by simp; omega))
    have hr2 := (Blk.new_at (g := w.heap.size + 1) (by simp) _ _).below hb1 (by simp)
    have s0 := hr2.cells 0 _ rfl
    have s1 := hr2.cells 1 _ rfl
    have fs := hr2.frozen
    simp only [List.getElem_toArray, List.getElem_cons_zero, List.getElem_cons_succ] at s0 s1
    clear hr2 hb1
    go_wp2_with (with_reducible refine end_at ?_)
    refine end_ret (v := .tuple #[.agg #[.slice none 0 0, .slice none 0 0], .int .i64 1]) (by simp [results, Tryz.results26, go_sem, s0, s1]; try rfl) rfl ⟨_, rfl, PlatOut.none_ _ _, by go_grown⟩
  · have hc : checkP p = true := by rcases hr with h | h | h <;> exact h.1
    have hr' : (hasB n i = false ∧ er = 130) ∨ (hasB n i = true ∧ 128 < s.size ∧ er = 2) ∨ (hasB n i = true ∧ s.size ≤ 128 ∧ full = true ∧ er = 260) := by
      rcases hr with ⟨_, h, e⟩ | ⟨_, h, e⟩ | ⟨_, h, e⟩
      · exact .inl ⟨h, e⟩
      · exact .inr (.inl ⟨h, e⟩)
      · exact .inr (.inr ⟨h, e⟩)
    clear hr
    rcases hr' with ⟨hh, rfl⟩ | ⟨hh, hs, rfl⟩ | ⟨hh, hs, rfl, rfl⟩
    all_goals
      go_enter Tryz.func26, Tryz.ntmps26
      go_wp2_with fail
      refine (checkP_any p A A' n m c d _ (HP.step (by go_grown))).mono ?_
      rintro e w1 ⟨rfl, hb1⟩
      rw [hc]
      have hr1 := ((Blk.new w _ _).alloc _).below hb1 (by simp; omega)
      have q0 := hr1.cells 0 _ rfl
      have q1 := hr1.cells 1 _ rfl
      simp only [List.getElem_toArray, List.getElem_cons_zero, List.getElem_cons_succ] at q0 q1
      clear hr1
      go_wp2_with fail
      refine (has_any p n m A A' c d i _ HN.out).mono ?_
      rintro e w2 ⟨rfl, hb2⟩
      rw [HN.out, hh]
      have hb3 := hb1.trans (hb2.mono hb1.size)
      have hB3 : Below w.heap.size w w2 := Below.trans (by go_grown) (hb3.mono (by simp; omega))
      have hr2 := (Blk.new_at (g := w.heap.size + 1) (by simp) _ _).below hb3 (by simp)
      have s0 := hr2.cells 0 _ rfl
      have s1 := hr2.cells 1 _ rfl
      have fs := hr2.frozen
      simp only [List.getElem_toArray, List.getElem_cons_zero, List.getElem_cons_succ] at s0 s1
      clear hr2 hb1 hb2 hb3 q0 q1
      go_wp2_with (with_reducible refine end_at ?_)
      refine end_ret (v := .tuple #[.agg #[.slice none 0 0, .slice none 0 0], .int .i64 _]) (by simp [results, Tryz.results26, go_sem, s0, s1]; try rfl) rfl ⟨_, rfl, PlatOut.none_ _ _, by go_grown⟩
set_option maxRecDepth 100000 in
set_option maxHeartbeats 1000000 in
theorem one_ok (p : Plat) (i : Int) (s : ByteArray) (A A' : Option Addr) (n m c d : Nat) (w : World) (HP : PlatPre w A n A' m p) (hn : p.sectors.length = n) (hm : p.cache.length ≤ 100) (hmm : m ≤ 100) (hn2 : n ≤ 200)
    (hc : checkP p = true) (hh : hasB n i = true) (hs : s.size ≤ 128) :
    Calls Tryz.prog 26 #[.agg #[.slice A n c, .slice A' m d], .int .i64 i, .string s, .bool false, .func (.func 111) #[] #[]] w (Out2P w (⟨p.sectors, p.cache ++ [⟨i, s⟩]⟩, 0)) := by
  have HN := Lib.hid hn
  clear hn
  go_enter Tryz.func26, Tryz.ntmps26
  go_wp2_with fail
  refine (checkP_any p A A' n m c d _ (HP.step (by go_grown))).mono ?_
  rintro e w1 ⟨rfl, hb1⟩
  rw [hc]
  have hr1 := ((Blk.new w _ _).alloc _).below hb1 (by simp; omega)
  have q0 := hr1.cells 0 _ rfl
  have q1 := hr1.cells 1 _ rfl
  simp only [List.getElem_toArray, List.getElem_cons_zero, List.getElem_cons_succ] at q0 q1
  go_wp2_with fail
  refine (has_any p n m A A' c d i _ HN.out).mono ?_
  rintro e w2 ⟨rfl, hb2⟩
  rw [HN.out, hh]
  have hb3 := hb1.trans (hb2.mono hb1.size)
  have hB3 : Below w.heap.size w w2 := Below.trans (by go_grown) (hb3.mono (by simp; omega))
  have hz3 := hb3.size
  simp only [World.size_alloc] at hz3
  have hr2 := hr1.below hb2 hr1.lt
  clear q0 q1
  have q0 := hr2.cells 0 _ rfl
  have q1 := hr2.cells 1 _ rfl
  simp only [List.getElem_toArray, List.getElem_cons_zero, List.getElem_cons_succ] at q0 q1
  clear hr1 hr2 hb1 hb2
  go_wp2_with fail
  refine (dcopied_any p A A' n m c d w2 (HP.step hB3) (by omega) (by omega)).mono ?_
  rintro e w3 ⟨g, rfl, hD3, hb4⟩
  clear q0 q1
  go_wp2_with fail
  refine (write1_any g w3).mono ?_
  rintro e w' ⟨rfl, rfl⟩
  go_wp2_with fail
  refine (wait_any p i s w2.heap.size g w3 hD3 hb4.size (by omega)).mono ?_
  rintro e w4 ⟨rfl, hD4, hb5⟩
  have hz5 := hb4.size
  have hz6 := hb5.size
  go_wp2_with fail
  refine (plain_any _ w2.heap.size g w4 hD4 (by omega)).mono ?_
  rintro e w5 ⟨v, rfl, ⟨A1, c1, A2, c2, rfl, hown1, hown2⟩, hb6⟩
  have hb7 := hb3.trans ((hb4.trans (hb5.trans (hb6.mono (show w2.heap.size ≤ w4.heap.size by omega)))).mono (by simpa using hz3))
  have hB7 : Below w.heap.size w w5 := Below.trans (by go_grown) (hb7.mono (by simp; omega))
  have hr := (Blk.new_at (g := w.heap.size + 1) (by simp) _ _).below hb7 (by simp)
  have s0 := hr.cells 0 _ rfl
  have s1 := hr.cells 1 _ rfl
  have fs := hr.frozen
  simp only [List.getElem_toArray, List.getElem_cons_zero, List.getElem_cons_succ, List.length_append, List.length_singleton] at s0 s1 hown1 hown2 ⊢
  have HO := Lib.hid (And.intro hown1 hown2)
  have HZ := Lib.hid hz3
  clear hr hb3 hb4 hb5 hb6 hb7 hB3 hD3 hD4 hown1 hown2
  go_wp2_with (with_reducible refine end_at ?_)
  refine end_ret (v := .tuple #[.agg #[.slice A1 p.sectors.length c1, .slice A2 (p.cache.length + 1) c2], .int .i64 0]) (by simp [results, Tryz.results26, go_sem, s0, s1]; try rfl) rfl ⟨_, rfl, ⟨A1, c1, A2, c2, by simp, own_base (base := w2.heap.size) ?_ (by have := HZ.out; omega), own_base (base := w2.heap.size) ?_ (by have := HZ.out; omega)⟩, by go_grown⟩
  · have h1 := HO.out.1
    have hz := HZ.out
    repeat' (first | (with_reducible exact h1) | (with_reducible refine ownsRow_setCell_below ?_ (by first | (simp; done) | (simp; omega)) _))
  · have h1 := HO.out.2
    have hz := HZ.out
    simp only [List.length_append, List.length_singleton]
    repeat' (first | (with_reducible exact h1) | (with_reducible refine ownsRow_setCell_below ?_ (by first | (simp; done) | (simp; omega)) _))
theorem one_any (p : Plat) (i : Int) (s : ByteArray) (full : Bool) (A A' : Option Addr) (n m c d : Nat) (w : World) (hP : PlatAt w w.heap.size A n A' m p) :
    Calls Tryz.prog 26 #[.agg #[.slice A n c, .slice A' m d], .int .i64 i, .string s, .bool full, .func (.func 111) #[] #[]] w (Out2P w (oneF p i s full)) := by
  have hn := hP.1.1
  have hm := hP.2.1
  unfold oneF
  by_cases hc : checkP p = true
  · obtain ⟨_, h200, h100, _⟩ := (checkP_iff p).1 hc
    rw [if_pos hc, hn]
    by_cases hh : hasB n i = true
    · rw [if_pos hh]
      by_cases hs : s.size ≤ 128
      · rw [if_pos hs]
        cases full with
        | true => exact one_bad p i 260 s true A A' n m c d w hP.pre hn (.inr (.inr (.inr ⟨hc, hh, hs, rfl, rfl⟩)))
        | false => exact one_ok p i s A A' n m c d w hP.pre hn h100 (by omega) (by omega) hc hh hs
      · rw [if_neg hs]
        exact one_bad p i 2 s full A A' n m c d w hP.pre hn (.inr (.inr (.inl ⟨hc, hh, by omega, rfl⟩)))
    · rw [if_neg hh]
      exact one_bad p i 130 s full A A' n m c d w hP.pre hn (.inr (.inl ⟨hc, by simpa using hh, rfl⟩))
  · rw [if_neg hc]
    exact one_bad p i 1 s full A A' n m c d w hP.pre hn (.inl ⟨by simpa using hc, rfl⟩)
theorem settle_sync (p : Plat) (A A' : Option Addr) (n m c d : Nat) (w : World) (hP : PlatAt w w.heap.size A n A' m p) :
    Calls Tryz.prog 55 #[.agg #[.slice A n c, .slice A' m d], .func (.func 113) #[] #[]] w (Out2P w (settleF p fun _ => 1)) := by
  have hm := hP.2.1
  unfold settleF
  by_cases hc : checkP p = true
  · obtain ⟨_, h200, h100, _, hx⟩ := (checkP_iff p).1 hc
    rw [if_pos hc]
    subst hm
    exact settle_sync_ok p (fun _ => 1) A A' n _ c d w hP.pre hc rfl h100 (by have := hP.1.1; omega) (settleTo_keeps p _ hc) hx (fun _ => by omega) (fun W k _ => sync1_any k W)
  · rw [if_neg hc]
    exact settle_sync_bad p A A' n m c d w hP.pre (by simpa using hc)
theorem settle_crash (p : Plat) (F : List Int) (h : Nat) (AF : Option Addr) (nF cF : Nat) (A A' : Option Addr) (n m c d : Nat) (w : World) (hP : PlatAt w w.heap.size A n A' m p)
    (hb : w.cell? ⟨h, 0, none⟩ = some (.slice AF nF cF)) (hh : h < w.heap.size) (hS : SlR encI 1 w w.heap.size AF nF F) (hn : nF ≤ 140737488355328) (hF : ∀ x ∈ F, x ≤ 9223372036854775807) :
    Calls Tryz.prog 55 #[.agg #[.slice A n c, .slice A' m d], .func (.func 56) #[] #[.pointer (some ⟨h, 0, none⟩)]] w (Out2P w (settleF p fun k => F.getD k 0)) := by
  have hm := hP.2.1
  unfold settleF
  by_cases hc : checkP p = true
  · obtain ⟨_, h200, h100, _, hx⟩ := (checkP_iff p).1 hc
    rw [if_pos hc]
    subst hm
    refine settle_crash_ok p (fun k => F.getD k 0) A A' n _ c d h w hP.pre hc rfl h100 (by have := hP.1.1; omega) (settleTo_keeps p _ hc) hx (fun k => ?_) (fun W k hB => ?_)
    · rw [List.getD_eq_getElem?_getD]
      cases e : F[k]? with
      | none => simp
      | some y => exact hF y (List.mem_of_getElem? e)
    · exact crash1_any F k h AF nF cF W ((hB.cell (p := ⟨h, 0, none⟩) hh).trans hb) ((hS.below hB).more hB.size) hn
  · rw [if_neg hc]
    exact settle_crash_bad p A A' n m c d h w hP.pre (by simpa using hc)
end Go.Proofs.YtpkomloblhbkiaaGreatDoor
/- platter.Read. -/
namespace Go.Proofs.YtpkomloblhbkiaaGreatDoor
open Go.RowKit Go.Shelf
attribute [local go_sem] Oper.semAt_some
def lastP (L : List PPut) (i : Int) : Option PPut := L.reverse.find? (fun x => decide (x.pos = i))
def readOf (p : Plat) (i : Nat) : ByteArray := match lastP p.cache i with | some x => x.text | none => p.sectors.getD i ByteArray.empty
def readF (p : Plat) (i : Int) : ByteArray × Int := if checkP p = true then if hasB p.sectors.length i = true then (readOf p i.toNat, 0) else (ByteArray.empty, 130) else (ByteArray.empty, 1)
def OutR (w : World) (r : ByteArray × Int) (e : Ending) (w' : World) : Prop := e = .returned (.tuple #[.string r.1, .int .i64 r.2]) ∧ Below w.heap.size w w'
/-- the four boxes of Read -/
def RB (w wX : World) (n : Nat) (A : Option Addr) (c : Nat) (A' : Option Addr) (m d i : Nat) (s : ByteArray) (er : Int) : Prop := Below w.heap.size w wX ∧
  Blk wX w.heap.size 42 #[.slice A n c, .slice A' m d] ∧ Blk wX (w.heap.size + 1) 3 #[.int .i64 i] ∧ Blk wX (w.heap.size + 1 + 1) 9 #[.string s] ∧ Blk wX (w.heap.size + 1 + 1 + 1) 37 #[.int .i64 er]
theorem RB.below {w wX wY : World} {n c m d i : Nat} {A A' : Option Addr} {s : ByteArray} {er : Int} (h : RB w wX n A c A' m d i s er) (hb : Below wX.heap.size wX wY) : RB w wY n A c A' m d i s er :=
  ⟨h.1.trans (hb.mono h.1.size), h.2.1.below hb h.2.1.lt, h.2.2.1.below hb h.2.2.1.lt, h.2.2.2.1.below hb h.2.2.2.1.lt, h.2.2.2.2.below hb h.2.2.2.2.lt⟩
theorem pblk_own {β : Type} (g : Nat) (t : TypeId) (cs : β → Array Value) : Own (fun (s : β) (W : World) => Blk W g t (cs s)) := by
  intro s W W' row h hg hr
  refine h.grown hg (fun e => ?_)
  obtain ⟨o, ho, hc⟩ := hr g e.symm
  unfold Blk at h
  rw [h] at ho
  injection ho with ho
  subst ho
  simp [Obj.isCells] at hc
theorem RB.store {w W : World} {n c m d i : Nat} {A A' : Option Addr} {s0 : ByteArray} {e0 : Int} (h : RB w W n A c A' m d i s0 e0) (s : ByteArray) (er : Int) :
    RB w ((W.setCell ⟨w.heap.size + 1 + 1, 0, none⟩ (.string s)).setCell ⟨w.heap.size + 1 + 1 + 1, 0, none⟩ (.int .i64 er)) n A c A' m d i s er := by
  obtain ⟨h1, h2, h3, h4, h5⟩ := h
  refine ⟨(h1.setCell (by simp; omega) _).setCell (by simp; omega) _, (h2.far (by simp; omega) _).far (by simp; omega) _, (h3.far (by simp) _).far (by first | (simp; done) | (simp; omega)) _, ?_, ?_⟩
  · have := (h4.set_ 0 (.string s)).far (p := ⟨w.heap.size + 1 + 1 + 1, 0, none⟩) (by simp) (.int .i64 er)
    simpa using this
  · have := (h5.far (p := ⟨w.heap.size + 1 + 1, 0, none⟩) (by simp) (.string s)).set_ 0 (.int .i64 er)
    simpa using this
theorem RB.own {w W W' : World} {row : Option Nat} {B n c m d i : Nat} {A A' : Option Addr} {s : ByteArray} {er : Int} (hB : w.heap.size ≤ B) (h : RB w W n A c A' m d i s er) (hg : W.grownBy W' row)
    (hr : ∀ r, row = some r → B ≤ r ∧ ∃ o : Obj, W.heap[r]? = some o ∧ o.isCells = false) : RB w W' n A c A' m d i s er := by
  obtain ⟨h1, h2, h3, h4, h5⟩ := h
  have hr' := fun r e => (hr r e).2
  exact ⟨h1.grown hg h1.size (fun k e => by have := (hr k e).1; omega), pblk_own _ _ (fun (_ : Unit) => _) () W W' row h2 hg hr', pblk_own _ _ (fun (_ : Unit) => _) () W W' row h3 hg hr', pblk_own _ _ (fun (_ : Unit) => _) () W W' row h4 hg hr', pblk_own _ _ (fun (_ : Unit) => _) () W W' row h5 hg hr'⟩
set_option maxHeartbeats 1000000 in
set_option maxRecDepth 100000 in
theorem read_ok (p : Plat) (i : Nat) (A A' : Option Addr) (n m c d : Nat) (w : World) (HP : PlatPre w A n A' m p) (hn : p.sectors.length = n) (hm : p.cache.length = m) (hmm : m ≤ 100) (hn2 : n ≤ 200)
    (hc : checkP p = true) (hi : i < n) :
    Calls Tryz.prog 59 #[.agg #[.slice A n c, .slice A' m d], .int .i64 i] w (OutR w (readOf p i, 0)) := by
  have HN := Lib.hid (And.intro hn hm)
  have hh : hasB n i = true := by simp [hasB, hi]
  clear hn hm
  refine (callsIn_wide (n := 10)).1 ?_
  refine callsIn_of_wp_marks Tryz.func59 rfl trivial ?_ rfl
  simp only [Tryz.ntmps59, List.size_toArray, List.length_cons, List.length_nil, Nat.reduceAdd, Nat.reduceSub, Array.replicate_succ, Array.replicate_zero, List.push_toArray, List.append_toArray, List.nil_append, List.cons_append]
  gi_wp2_with fail
  refine ⟨trivial, ?_⟩
  gi_at_call 61
  refine (callsIn_wide.2 (checkP_any p A A' n m c d _ (HP.step (by go_grown)))).mono ?_
  rintro e w1 ⟨rfl, hb1⟩
  rw [hc]
  have HR1 : Hid (RB w w1 p.sectors.length A c A' m d i ByteArray.empty 0) := by
    rw [HN.out.1]
    refine ⟨Below.trans (by go_grown) (hb1.mono (by simp; omega)), ((((Blk.new w _ _).alloc _).alloc _).alloc _).below hb1 (by simp; omega), (((Blk.new_at (g := w.heap.size + 1) (by simp) _ _).alloc _).alloc _).below hb1 (by simp; try omega), ((Blk.new_at (g := w.heap.size + 1 + 1) (by simp) _ _).alloc _).below hb1 (by simp), (Blk.new_at (g := w.heap.size + 1 + 1 + 1) (by simp) _ _).below hb1 (by simp)⟩
  rw [HN.out.1] at HR1
  have q0 := HR1.out.2.1.cells 0 _ rfl
  have q1 := HR1.out.2.1.cells 1 _ rfl
  have r0 := HR1.out.2.2.1.cells 0 _ rfl
  simp only [List.getElem_toArray, List.getElem_cons_zero, List.getElem_cons_succ] at q0 q1 r0
  clear hb1
  gi_wp2_with fail
  refine ⟨trivial, ?_⟩
  gi_at_call 62
  refine (callsIn_wide.2 (has_any p n m A A' c d i _ HN.out.1)).mono ?_
  rintro e w2 ⟨rfl, hb2⟩
  rw [HN.out.1, hh]
  have HR2 := HR1.out.below hb2
  clear q0 q1 r0 HR1 hb2
  have HR2 := Lib.hid HR2
  have q1 := HR2.out.2.1.cells 1 _ rfl
  simp only [List.getElem_toArray, List.getElem_cons_zero, List.getElem_cons_succ] at q1
  gi_wp2_with fail
  refine ⟨trivial, ?_⟩
  gi_at_call 100
  refine (backward_in Fence.wide _ trivial rfl A' m d w2).mono ?_
  rintro e w3 ⟨rfl, rfl⟩
  gi_wp2_with fail
  have hsz2 := HR2.out.2.2.2.2.lt
  have hP2 := HP.step HR2.out.1
  have hB0 : Below w2.heap.size w2 (w2.alloc (.cells #[.slice A' m d] 40)) := (Below.refl _ _).alloc (Nat.le_refl _) _
  have hbn := Blk.new w2 40 #[.slice A' m d]
  have hRW := HR2.out.below hB0
  have hLL : SlR encP 2 (w2.alloc (.cells #[.slice A' m d] 40)) (w2.heap.size + 1) A' m p.cache := (hP2.2.below hB0).more (by omega)
  have HPX : Hid (∀ W, Below w.heap.size w W → SlR encS 1 W W.heap.size A n p.sectors) := fun W hb => (HP.step hb).1
  clear q1
  generalize hW0 : w2.alloc (.cells #[.slice A' m d] 40) = W0 at hB0 hbn hRW hLL ⊢
  have hsz0 : W0.heap.size = w2.heap.size + 1 := by rw [← hW0]; simp
  clear hW0
  refine wpIn_rangeFunc_ownH rfl (by omega) (gf := 121) (lb := #[.pointer (some ⟨w2.heap.size, 0, none⟩)]) rfl trivial (enters_of Tryz.func121 (by kernel_rfl) rfl)
    (encs := fun x => #[pv x]) (Kp := Below (w2.heap.size + 1)) (S := fun xs => xs = p.cache.reverse) (Sp := fun pre => pre <+: p.cache.reverse) (N := p.cache.length) (w0 := W0)
    (fun l J Jx W hW hJ hJx hY h0 => backward1_in Fence.wide _ trivial rfl (by omega) l w2.heap.size (w2.heap.size + 1) p.cache A' m d J Jx hY W ((hW.cell (p := ⟨w2.heap.size, 0, none⟩) (by simp; omega)).trans (hbn.cells 0 _ rfl)) (by omega) ((hLL.below (hW.mono (by omega)))) (by omega) h0)
    belowK_t (belowK_b (by omega)) (Below.refl _ _) (fun _ => rfl)
    (fun pre W => RB w W n A c A' m d i ByteArray.empty 0 ∧ (∀ x ∈ pre, x.pos ≠ (i : Int)) ∧ w2.heap.size + 1 ≤ W.heap.size)
    (fun cd pre W => cd = .ret ∧ ∃ pre0 x, pre = pre0 ++ [x] ∧ (∀ y ∈ pre0, y.pos ≠ (i : Int)) ∧ x.pos = (i : Int) ∧ RB w W n A c A' m d i x.text 0)
    (fun s W W' row hs hg hr => ⟨RB.own (by omega) hs.1 hg hr, hs.2.1, Nat.le_trans hs.2.2 hg.size⟩)
    (fun cd s W W' row hs hg hr => by
      obtain ⟨h1, pre0, x, h2, h3, h4, h5⟩ := hs
      exact ⟨h1, pre0, x, h2, h3, h4, RB.own (by omega) h5 hg hr⟩)
    ⟨hRW, (fun x hx => by cases hx), by omega⟩
    (fun x a' W => ∃ Bx, w.heap.size + 4 ≤ Bx ∧ Blk W Bx 159 #[.int .i64 x.pos, .string x.text] ∧ a' = { tmps := #[.agg #[.slice A n c, .slice A' m d], .int .i64 i, .pointer (some ⟨w.heap.size, 0, none⟩), .pointer (some ⟨w.heap.size + 1, 0, none⟩), .pointer (some ⟨w.heap.size + 1 + 1, 0, none⟩), .pointer (some ⟨w.heap.size + 1 + 1 + 1, 0, none⟩), .pointer (some ⟨Bx, 0, none⟩), .agg #[.slice A n c, .slice A' m d], .bool true, .bool false, .agg #[.slice A n c, .slice A' m d], .int .i64 i, .bool true, .bool false, .pointer (some ⟨w.heap.size, 1, none⟩), .slice A' m d, .func (.func 121) #[] #[.pointer (some ⟨w2.heap.size, 0, none⟩)], pv x, undef, undef, undef, undef, undef, undef, undef, undef, undef, undef, undef], defers := [] })
    (fun x a' s W W' row hs hg hr => by
      obtain ⟨Bx, h1, h2, h3⟩ := hs
      exact ⟨Bx, h1, pblk_own Bx _ (fun (_ : Unit) => #[.int .i64 x.pos, .string x.text]) () W W' row h2 hg (fun r e => (hr r e).2), h3⟩)
    ?assign ?body ?done ?stop
  case assign =>
    rintro l pre x W K ⟨hR, hno, hzW⟩ hK
    have hz := hR.2.2.2.2.lt
    have hz' := hR.1.size
    simp only [pv]
    gi_wp2
    exact hK _ _ ((KeepsOthers.alloc _ _).from _) ((Below.refl _ W).alloc hzW _) ⟨hR.below (by go_grown), hno, by simp; omega⟩ ⟨W.heap.size, by omega, Blk.new W _ _, rfl⟩
  case body =>
    rintro l pre x a' W hl _ ⟨hR, hno, hzW⟩ ⟨Bx, hBx, hX, rfl⟩ hlt
    have x0 := hX.cells 0 _ rfl
    have x1 := hX.cells 1 _ rfl
    have i0 := hR.2.2.1.cells 0 _ rfl
    have s0 := hR.2.2.2.1.cells 0 _ rfl
    have e0 := hR.2.2.2.2.cells 0 _ rfl
    have fs := hR.2.2.2.1.frozen 0
    have fe := hR.2.2.2.2.frozen 0
    have hz := hR.2.2.2.2.lt
    simp only [List.getElem_toArray, List.getElem_cons_zero, List.getElem_cons_succ] at x0 x1 i0 s0 e0
    have HX := Lib.hid (And.intro hR (And.intro hno hX))
    clear hR hno hX
    by_cases hx : x.pos = (i : Int)
    · have t1 : (x.pos == (i : Int)) = true := by simp [hx]
      have HXe := Lib.hid hx
      clear hx
      gi_wp2
      exact ⟨((KeepsOthers.setCell _ _ _).trans (KeepsOthers.setCell _ _ _)).from _, rfl, pre, x, rfl, HX.out.2.1, HXe.out, HX.out.1.store _ _⟩
    · have t1 : (x.pos == (i : Int)) = false := by simpa using hx
      have HXe := Lib.hid hx
      clear hx
      gi_wp2
      exact ⟨KeepsFrom.refl _ _, Below.refl _ _, HX.out.1, fun y hy => by
        rcases List.mem_append.1 hy with hy | hy
        · exact HX.out.2.1 y hy
        · rw [List.mem_singleton.1 hy]; exact HXe.out, hzW⟩
  case done =>
    rintro D ys W hD rfl ⟨hR, hno, hzW⟩ hK
    have q0 := hR.2.1.cells 0 _ rfl
    have i0 := hR.2.2.1.cells 0 _ rfl
    have s0 := hR.2.2.2.1.cells 0 _ rfl
    have e0 := hR.2.2.2.2.cells 0 _ rfl
    have fs := hR.2.2.2.1.frozen 0
    have fe := hR.2.2.2.2.frozen 0
    have hz := hR.2.2.2.2.lt
    have hS := HPX.out W hR.1
    obtain ⟨s, hs⟩ : ∃ s, p.sectors[i]? = some s := ⟨p.sectors[i]'(by rw [HN.out.1]; exact hi), List.getElem?_eq_getElem (by rw [HN.out.1]; exact hi)⟩
    rcases hS.2 with h0 | ⟨b, off, rfl, hb, hC⟩
    · omega
    have c0 := hC.str hs
    simp only [List.getElem_toArray, List.getElem_cons_zero] at q0 i0 s0 e0
    have i1 : (0 : Int) ≤ (i : Int) := by omega
    have i2 : (i : Int) < (n : Int) := by omega
    have hval : readOf p i = s := by
      unfold readOf
      have : lastP p.cache i = none := by
        unfold lastP
        rw [List.find?_eq_none]
        intro x hx
        simpa using hno x hx
      rw [this]
      simp [List.getD, hs]
    have HF := Lib.hid (And.intro (hR.store s 0) (And.intro hval hK))
    clear hR hno hS hC hval hK hs
    gi_wp2
    have hK : ((W.setCell ⟨w.heap.size + 1 + 1, 0, none⟩ (.string s)).setCell ⟨w.heap.size + 1 + 1 + 1, 0, none⟩ (.int .i64 0)).heap[D]? = some (.deferred (some [])) := ((KeepsOthers.setCell _ _ _).trans (KeepsOthers.setCell _ _ _)).same D _ HF.out.2.2 rfl
    have hRF := RB.own (B := w.heap.size) (Nat.le_refl _) HF.out.1 (grownBy_putObj' _ D (.deferred none)) (fun r e => by cases e; exact ⟨by omega, _, hK, rfl⟩)
    have a0 := hRF.2.2.2.1.cells 0 _ rfl
    have a1 := hRF.2.2.2.2.cells 0 _ rfl
    simp only [List.getElem_toArray, List.getElem_cons_zero] at a0 a1
    refine ⟨by simp, .inl ⟨_, _, rfl, run_takeDeferred hK, ?_⟩⟩
    exact ⟨.tuple #[.string s, .int .i64 0], by simp [results, Tryz.results59, go_sem, a0, a1], by rw [HF.out.2.1], hRF.1⟩
  case stop =>
    rintro D cd pre W hD hpre ⟨rfl, pre0, x, rfl, hno, hxi, hR⟩ hK0
    have hval : readOf p i = x.text := by
      unfold readOf lastP
      obtain ⟨rest, hrest⟩ := hpre
      have h1 : (pre0 ++ [x] ++ rest).find? (fun x => decide (x.pos = (i : Int))) = some x := by
        rw [List.append_assoc, List.find?_append]
        have : pre0.find? (fun x => decide (x.pos = (i : Int))) = none := by
          rw [List.find?_eq_none]; intro y hy; simpa using hno y hy
        rw [this]; simp [hxi]
      rw [hrest] at h1
      rw [h1]
    have HF := Lib.hid (And.intro hR (And.intro hval hK0))
    clear hR hval hno hpre hK0 hxi
    gi_wp2
    have hK := HF.out.2.2
    have hRF := RB.own (B := w.heap.size) (Nat.le_refl _) HF.out.1 (grownBy_putObj' _ D (.deferred none)) (fun r e => by cases e; exact ⟨by omega, _, hK, rfl⟩)
    have a0 := hRF.2.2.2.1.cells 0 _ rfl
    have a1 := hRF.2.2.2.2.cells 0 _ rfl
    simp only [List.getElem_toArray, List.getElem_cons_zero] at a0 a1
    refine ⟨by simp, .inl ⟨_, _, rfl, run_takeDeferred hK, ?_⟩⟩
    exact ⟨.tuple #[.string x.text, .int .i64 0], by simp [results, Tryz.results59, go_sem, a0, a1], by rw [HF.out.2.1], hRF.1⟩
end Go.Proofs.YtpkomloblhbkiaaGreatDoor
namespace Go.Proofs.YtpkomloblhbkiaaGreatDoor
open Go.RowKit
set_option maxRecDepth 100000 in
set_option maxHeartbeats 1000000 in
theorem read_bad (p : Plat) (i : Int) (er : Int) (A A' : Option Addr) (n m c d : Nat) (w : World) (HP : PlatPre w A n A' m p) (hn : p.sectors.length = n)
    (hr : (checkP p = false ∧ er = 1) ∨ (checkP p = true ∧ hasB n i = false ∧ er = 130)) :
    Calls Tryz.prog 59 #[.agg #[.slice A n c, .slice A' m d], .int .i64 i] w (OutR w (ByteArray.empty, er)) := by
  have HN := Lib.hid hn
  clear hn
  rcases hr with ⟨hc, rfl⟩ | ⟨hc, hh, rfl⟩
  · go_enter Tryz.func59, Tryz.ntmps59
    go_wp2_with fail
    refine (checkP_any p A A' n m c d _ (HP.step (by go_grown))).mono ?_
    rintro e w1 ⟨rfl, hb1⟩
    rw [hc]
    have hB1 : Below w.heap.size w w1 := Below.trans (by go_grown) (hb1.mono (by simp; omega))
    have hr2 := ((Blk.new_at (g := w.heap.size + 1 + 1) (by simp) _ _).alloc _).below hb1 (by simp)
    have hr3 := (Blk.new_at (g := w.heap.size + 1 + 1 + 1) (by simp) _ _).below hb1 (by simp)
    have s0 := hr2.cells 0 _ rfl
    have s1 := hr3.cells 0 _ rfl
    have fs := hr2.frozen
    have ft := hr3.frozen
    simp only [List.getElem_toArray, List.getElem_cons_zero] at s0 s1
    clear hr2 hr3 hb1
    go_wp2_with (with_reducible refine end_at ?_)
    refine end_ret (v := .tuple #[.string ⟨#[]⟩, .int .i64 1]) (by simp [results, Tryz.results59, go_sem, s0, s1]; try rfl) rfl ⟨rfl, by go_grown⟩
  · go_enter Tryz.func59, Tryz.ntmps59
    go_wp2_with fail
    refine (checkP_any p A A' n m c d _ (HP.step (by go_grown))).mono ?_
    rintro e w1 ⟨rfl, hb1⟩
    rw [hc]
    have hr1 := ((((Blk.new w _ _).alloc _).alloc _).alloc _).below hb1 (by simp; omega)
    have hri := (((Blk.new_at (g := w.heap.size + 1) (by simp) _ _).alloc _).alloc _).below hb1 (by first | (simp; done) | (simp; omega))
    have q0 := hr1.cells 0 _ rfl
    have q1 := hr1.cells 1 _ rfl
    have r0 := hri.cells 0 _ rfl
    simp only [List.getElem_toArray, List.getElem_cons_zero, List.getElem_cons_succ] at q0 q1 r0
    clear hr1 hri
    go_wp2_with fail
    refine (has_any p n m A A' c d i _ HN.out).mono ?_
    rintro e w2 ⟨rfl, hb2⟩
    rw [HN.out, hh]
    have hb3 := hb1.trans (hb2.mono hb1.size)
    have hB3 : Below w.heap.size w w2 := Below.trans (by go_grown) (hb3.mono (by simp; omega))
    have hr2 := ((Blk.new_at (g := w.heap.size + 1 + 1) (by simp) _ _).alloc _).below hb3 (by simp)
    have hr3 := (Blk.new_at (g := w.heap.size + 1 + 1 + 1) (by simp) _ _).below hb3 (by simp)
    have s0 := hr2.cells 0 _ rfl
    have s1 := hr3.cells 0 _ rfl
    have fs := hr2.frozen
    have ft := hr3.frozen
    simp only [List.getElem_toArray, List.getElem_cons_zero] at s0 s1
    clear hr2 hr3 hb1 hb2 hb3 q0 q1 r0
    go_wp2_with (with_reducible refine end_at ?_)
    refine end_ret (v := .tuple #[.string ⟨#[]⟩, .int .i64 130]) (by simp [results, Tryz.results59, go_sem, s0, s1]; try rfl) rfl ⟨rfl, by go_grown⟩
theorem read_any (p : Plat) (i : Int) (A A' : Option Addr) (n m c d : Nat) (w : World) (hP : PlatAt w w.heap.size A n A' m p) :
    Calls Tryz.prog 59 #[.agg #[.slice A n c, .slice A' m d], .int .i64 i] w (OutR w (readF p i)) := by
  have hn := hP.1.1
  have hm := hP.2.1
  unfold readF
  by_cases hc : checkP p = true
  · obtain ⟨_, h200, h100, _⟩ := (checkP_iff p).1 hc
    rw [if_pos hc, hn]
    by_cases hh : hasB n i = true
    · rw [if_pos hh]
      simp [hasB] at hh
      obtain ⟨j, rfl⟩ := Int.eq_ofNat_of_zero_le hh.1
      rw [Int.toNat_natCast]
      exact read_ok p j A A' n m c d w hP.pre hn hm (by omega) (by omega) hc (by omega)
    · rw [if_neg hh]
      exact read_bad p i 130 A A' n m c d w hP.pre hn (.inr ⟨hc, by simpa using hh, rfl⟩)
  · rw [if_neg hc]
    exact read_bad p i 1 A A' n m c d w hP.pre hn (.inl ⟨by simpa using hc, rfl⟩)
set_option maxRecDepth 100000 in
set_option maxHeartbeats 1000000 in
theorem write_any (p : Plat) (i : Int) (s : ByteArray) (A A' : Option Addr) (n m c d : Nat) (w : World) (hP : PlatAt w w.heap.size A n A' m p) :
    Calls Tryz.prog 83 #[.agg #[.slice A n c, .slice A' m d], .int .i64 i, .string s] w (Out2P w (writeF p i s)) := by
  have HP := hP.pre
  have hm := hP.2.1
  have e0 : writeF p i s = oneF p i s (decide (100 ≤ (m : Int))) := by unfold writeF; rw [hm]; congr 1; simp; omega
  rw [e0]
  clear hP hm e0
  generalize hr : oneF p i s (decide (100 ≤ (m : Int))) = r
  have HR := Lib.hid hr
  clear hr
  obtain ⟨q, er⟩ := r
  go_enter Tryz.func83, Tryz.ntmps83
  go_wp2_with fail
  refine (one_any p i s (decide (100 ≤ (m : Int))) A A' n m c d _ (HP.step (by go_grown))).mono ?_
  rintro e w1 ⟨v, rfl, ⟨A1, c1, A2, c2, rfl, hown1, hown2⟩, hb1⟩
  rw [HR.out] at hown1 hown2 ⊢
  have hB1 : Below w.heap.size w w1 := Below.trans (by go_grown) (hb1.mono (by simp; omega))
  have hr2 := (Blk.new_at (g := w.heap.size + 1) (by simp) _ _).below hb1 (by simp)
  have s0 := hr2.cells 0 _ rfl
  have s1 := hr2.cells 1 _ rfl
  have fs := hr2.frozen
  simp only [List.getElem_toArray, List.getElem_cons_zero, List.getElem_cons_succ, World.size_alloc] at s0 s1 hown1 hown2
  have HO := Lib.hid (And.intro hown1 hown2)
  clear hr2 hb1 hown1 hown2
  go_wp2_with (with_reducible refine end_at ?_)
  refine end_ret (v := .tuple #[.agg #[.slice A1 q.sectors.length c1, .slice A2 q.cache.length c2], .int .i64 er]) (by simp [results, Tryz.results83, go_sem, s0, s1]; try rfl) rfl ⟨_, rfl, ⟨A1, c1, A2, c2, rfl, own_base (base := w.heap.size + 1 + 1) ?_ (by omega), own_base (base := w.heap.size + 1 + 1) ?_ (by omega)⟩, by go_grown⟩
  · have h1 := HO.out.1
    repeat' (first | (with_reducible exact h1) | (with_reducible refine ownsRow_setCell_below ?_ (by first | (simp; done) | (simp; omega)) _))
  · have h1 := HO.out.2
    repeat' (first | (with_reducible exact h1) | (with_reducible refine ownsRow_setCell_below ?_ (by first | (simp; done) | (simp; omega)) _))
def syncF (p : Plat) : Plat × Int := settleF p fun _ => 1
def crashF (p : Plat) (F : List Int) : Plat × Int := settleF p fun k => F.getD k 0
set_option maxRecDepth 100000 in
set_option maxHeartbeats 1000000 in
theorem sync_any (p : Plat) (A A' : Option Addr) (n m c d : Nat) (w : World) (hP : PlatAt w w.heap.size A n A' m p) :
    Calls Tryz.prog 86 #[.agg #[.slice A n c, .slice A' m d]] w (Out2P w (syncF p)) := by
  have HP := hP.pre
  clear hP
  generalize hr : syncF p = r
  have HR : Hid (settleF p (fun _ => 1) = r) := hr
  clear hr
  obtain ⟨q, er⟩ := r
  go_enter Tryz.func86, Tryz.ntmps86
  go_wp2_with fail
  refine (settle_sync p A A' n m c d _ (HP.step (by go_grown))).mono ?_
  rintro e w1 ⟨v, rfl, ⟨A1, c1, A2, c2, rfl, hown1, hown2⟩, hb1⟩
  rw [HR.out] at hown1 hown2 ⊢
  have hB1 : Below w.heap.size w w1 := Below.trans (by go_grown) (hb1.mono (by simp; omega))
  have hr2 := (Blk.new_at (g := w.heap.size + 1) (by simp) _ _).below hb1 (by simp)
  have s0 := hr2.cells 0 _ rfl
  have s1 := hr2.cells 1 _ rfl
  have fs := hr2.frozen
  simp only [List.getElem_toArray, List.getElem_cons_zero, List.getElem_cons_succ, World.size_alloc] at s0 s1 hown1 hown2
  have HO := Lib.hid (And.intro hown1 hown2)
  clear hr2 hb1 hown1 hown2
  go_wp2_with (with_reducible refine end_at ?_)
  refine end_ret (v := .tuple #[.agg #[.slice A1 q.sectors.length c1, .slice A2 q.cache.length c2], .int .i64 er]) (by simp [results, Tryz.results86, go_sem, s0, s1]; try rfl) rfl ⟨_, rfl, ⟨A1, c1, A2, c2, rfl, own_base (base := w.heap.size + 1 + 1) ?_ (by omega), own_base (base := w.heap.size + 1 + 1) ?_ (by omega)⟩, by go_grown⟩
  · have h1 := HO.out.1
    repeat' (first | (with_reducible exact h1) | (with_reducible refine ownsRow_setCell_below ?_ (by first | (simp; done) | (simp; omega)) _))
  · have h1 := HO.out.2
    repeat' (first | (with_reducible exact h1) | (with_reducible refine ownsRow_setCell_below ?_ (by first | (simp; done) | (simp; omega)) _))
set_option maxRecDepth 100000 in
set_option maxHeartbeats 1000000 in
theorem crash_any (p : Plat) (F : List Int) (AF : Option Addr) (nF cF : Nat) (A A' : Option Addr) (n m c d : Nat) (w : World) (hP : PlatAt w w.heap.size A n A' m p)
    (hS : SlR encI 1 w w.heap.size AF nF F) (hn : nF ≤ 140737488355328) (hF : ∀ x ∈ F, x ≤ 9223372036854775807) :
    Calls Tryz.prog 23 #[.agg #[.slice A n c, .slice A' m d], .slice AF nF cF] w (Out2P w (crashF p F)) := by
  have HP := hP.pre
  have HS : Hid (∀ W, Below w.heap.size w W → SlR encI 1 W W.heap.size AF nF F) := fun W hb => (hS.below hb).more hb.size
  have HF := Lib.hid hF
  clear hP hS hF
  generalize hr : crashF p F = r
  have HR : Hid (settleF p (fun k => F.getD k 0) = r) := hr
  clear hr
  obtain ⟨q, er⟩ := r
  go_enter Tryz.func23, Tryz.ntmps23
  go_wp2_with fail
  refine (settle_crash p F (w.heap.size + 1) AF nF cF A A' n m c d _ (HP.step (by go_grown)) (by simp [go_sem]) (by first | (simp; done) | (simp; omega)) (HS.out _ (by go_grown)) hn HF.out).mono ?_
  rintro e w1 ⟨v, rfl, ⟨A1, c1, A2, c2, rfl, hown1, hown2⟩, hb1⟩
  rw [HR.out] at hown1 hown2 ⊢
  have hB1 : Below w.heap.size w w1 := Below.trans (by go_grown) (hb1.mono (by simp; omega))
  have hr2 := (Blk.new_at (g := w.heap.size + 1 + 1) (by simp) _ _).below hb1 (by simp)
  have s0 := hr2.cells 0 _ rfl
  have s1 := hr2.cells 1 _ rfl
  have fs := hr2.frozen
  simp only [List.getElem_toArray, List.getElem_cons_zero, List.getElem_cons_succ, World.size_alloc] at s0 s1 hown1 hown2
  have HO := Lib.hid (And.intro hown1 hown2)
  clear hr2 hb1 hown1 hown2
  go_wp2_with (with_reducible refine end_at ?_)
  refine end_ret (v := .tuple #[.agg #[.slice A1 q.sectors.length c1, .slice A2 q.cache.length c2], .int .i64 er]) (by simp [results, Tryz.results23, go_sem, s0, s1]; try rfl) rfl ⟨_, rfl, ⟨A1, c1, A2, c2, rfl, own_base (base := w.heap.size + 1 + 1 + 1) ?_ (by omega), own_base (base := w.heap.size + 1 + 1 + 1) ?_ (by omega)⟩, by go_grown⟩
  · have h1 := HO.out.1
    repeat' (first | (with_reducible exact h1) | (with_reducible refine ownsRow_setCell_below ?_ (by first | (simp; done) | (simp; omega)) _))
  · have h1 := HO.out.2
    repeat' (first | (with_reducible exact h1) | (with_reducible refine ownsRow_setCell_below ?_ (by first | (simp; done) | (simp; omega)) _))
end Go.Proofs.YtpkomloblhbkiaaGreatDoor
/- platter.New, and the reference's. -/
namespace Go.Proofs.YtpkomloblhbkiaaGreatDoor
open Go.RowKit
theorem run_make_rowN {P : Program} (t e : TypeId) (i : TypeInfo) (z : Value) (ht : P.underlying t = some (.slice e)) (hi : P.info? e = some i) (hz : i.zero = some z)
    (kl kc : IntKind) (n c : Nat) (hnc : n ≤ c) (hbytes : i.bytes * c ≤ 281474976710656) (h63 : c ≤ 9223372036854775807) (w : World) :
    (Instr.makeSlice t (.int kl (n : Int)) (.int kc (c : Int))).run P w = .ok (.slice (some ⟨w.heap.size, 0, none⟩) n c) (w.alloc (.cells (madeCells z.cells (c * i.size)) e)) := by
  have hb : (i.bytes : Int) * (c : Int) ≤ 281474976710656 := by
    have h : ((i.bytes * c : Nat) : Int) ≤ 281474976710656 := by omega
    rwa [Int.natCast_mul] at h
  have hr := run_make (P := P) w t e i z ht hi hz kl kc n c (by omega) (by omega) hb (by omega)
  simp only [Int.toNat_natCast] at hr
  exact hr
theorem own_made {w : World} {B : Nat} (n : Nat) (hB : B ≤ w.heap.size) (hn : n ≤ maxLen) : (w.alloc (.cells (madeCells #[.string ByteArray.empty] n) 9)).ownsRow B 9 1 (.slice (some ⟨w.heap.size, 0, none⟩) n n) n (flat encS (List.replicate n ByteArray.empty)) := by
  have hf : flat encS (List.replicate n ByteArray.empty) = List.replicate n (.string ByteArray.empty) := by
    induction n with
    | zero => rfl
    | succ n ih => rw [List.replicate_succ, List.replicate_succ, ← ih (by omega)]; rfl
  refine ⟨by rw [hf]; simp, .inr ⟨w.heap.size, n, _, rfl, hB, heap_alloc_new w _, Nat.le_refl _, hn, by rw [size_madeCells]; omega, ?_⟩⟩
  rw [hf, toList_madeCells_one, Nat.mul_one, List.take_of_length_le (by simp)]
def newF (n : Int) : Plat × Int := if 1 ≤ n ∧ n ≤ 200 then (⟨List.replicate n.toNat ByteArray.empty, []⟩, 0) else (noPlat, 1)
set_option maxRecDepth 100000 in
set_option maxHeartbeats 400000 in
theorem new_any (n : Int) (w : World) : Calls Tryz.prog 16 #[.int .i64 n] w (Out2P w (newF n)) := by
  unfold newF
  by_cases h : 1 ≤ n ∧ n ≤ 200
  · rw [if_pos h]
    obtain ⟨h1, h2⟩ := h
    obtain ⟨k, rfl⟩ := Int.eq_ofNat_of_zero_le (show 0 ≤ n by omega)
    rw [Int.toNat_natCast]
    obtain ⟨i0, hi0, hz0, hz1, hz2⟩ := info_parts str_info
    have hmk := fun W => run_make_rowN (P := Tryz.prog) 30 9 i0 _ Tryz.underlying30 hi0 hz0 .i64 .i64 k k (Nat.le_refl _) (by rw [hz2]; omega) (by omega) W
    simp only [hz1, Nat.mul_one, Value.cells] at hmk
    have HO := Lib.hid (fun cs => own_made (w := w.alloc (.cells cs 42)) (B := w.heap.size) k (by simp) (by simp only [maxLen]; omega))
    generalize hmc : madeCells #[.string ByteArray.empty] k = mc at hmk HO
    clear hmc hz0 hz1 hz2 hi0
    go_enter Tryz.func16, Tryz.ntmps16
    go_wp2_with (with_reducible refine end_at ?_)
    refine end_ret (v := .tuple #[.agg #[.slice (some ⟨w.heap.size + 1, 0, none⟩) k k, .slice none 0 0], .int .i64 0]) (by simp [results, Tryz.results16, go_sem]; try rfl) rfl ⟨_, rfl, ⟨some ⟨w.heap.size + 1, 0, none⟩, k, none, 0, by simp, ?_, World.ownsRow_nil _ _ _ _⟩, by go_grown⟩
    have h1 := HO.out
    simp only [World.size_alloc] at h1
    simp only [List.length_replicate]
    exact h1 _
  · rw [if_neg h]
    by_cases h1 : n < 1
    · go_enter Tryz.func16, Tryz.ntmps16
      go_wp2_with (with_reducible refine end_at ?_)
      refine end_ret (v := .tuple #[.agg #[.slice none 0 0, .slice none 0 0], .int .i64 1]) (by simp [results, Tryz.results16, go_sem]; try rfl) rfl ⟨_, rfl, PlatOut.none_ _ _, by go_grown⟩
    · have h2 : 200 < n := by omega
      clear h
      go_enter Tryz.func16, Tryz.ntmps16
      go_wp2_with (with_reducible refine end_at ?_)
      refine end_ret (v := .tuple #[.agg #[.slice none 0 0, .slice none 0 0], .int .i64 1]) (by simp [results, Tryz.results16, go_sem]; try rfl) rfl ⟨_, rfl, PlatOut.none_ _ _, by go_grown⟩
end Go.Proofs.YtpkomloblhbkiaaGreatDoor
