/- platter.Read whole; Write, Sync, Crash, New. -/
import Derived.Test.YtefodifmfjpnlaaPlatJ
set_option linter.unusedVariables false
namespace Go.Proofs.Ytefodifmfjpnlaa
open Go.RowKit

set_option maxHeartbeats 1000000 in
theorem read_bad (p : Plat) (i : Int) (er : Int) (A A' : Option Addr) (n m c d : Nat) (w : World) (HP : PlatPre w A n A' m p) (hn : p.sectors.length = n)
    (hr : (checkP p = false ∧ er = 1) ∨ (checkP p = true ∧ hasB n i = false ∧ er = 130)) :
    Calls Try.prog 19 #[.agg #[.slice A n c, .slice A' m d], .int .i64 i] w (OutR w (ByteArray.empty, er)) := by
  have HN := Lib.hid hn
  clear hn
  rcases hr with ⟨hc, rfl⟩ | ⟨hc, hh, rfl⟩
  · go_enter Try.func19, Try.ntmps19
    go_wp2_with fail
    refine (checkP_any p A A' n m c d _ (HP.step (by go_grown))).mono ?_
    rintro e w1 ⟨rfl, hb1⟩
    rw [hc]
    have hB1 : Below w.heap.size w w1 := Below.trans (by go_grown) (hb1.mono (by simp; omega))
    have hr2 := ((Blk.new_at (g := w.heap.size + 1 + 1) (by simp) _ _).alloc _).below hb1 (by simp)
    have hr3 := (Blk.new_at (g := w.heap.size + 1 + 1 + 1) (by simp) _ _).below hb1 (by simp)
    have s0 := hr2.cells 0 _ rfl
    have s1 := hr3.cells 0 _ rfl
    have fs := hr2.frozen
    have ft := hr3.frozen
    simp only [List.getElem_toArray, List.getElem_cons_zero] at s0 s1
    clear hr2 hr3 hb1
    go_wp2_with (with_reducible refine end_at ?_)
    refine end_ret (v := .tuple #[.string ⟨#[]⟩, .int .i64 1]) (by simp [results, Try.results19, go_sem, s0, s1]; try rfl) rfl ⟨rfl, by go_grown⟩
  · go_enter Try.func19, Try.ntmps19
    go_wp2_with fail
    refine (checkP_any p A A' n m c d _ (HP.step (by go_grown))).mono ?_
    rintro e w1 ⟨rfl, hb1⟩
    rw [hc]
    have hr1 := ((((Blk.new w _ _).alloc _).alloc _).alloc _).below hb1 (by simp; omega)
    have hri := (((Blk.new_at (g := w.heap.size + 1) (by simp) _ _).alloc _).alloc _).below hb1 (by first | (simp; done) | (simp; omega))
    have q0 := hr1.cells 0 _ rfl
    have q1 := hr1.cells 1 _ rfl
    have r0 := hri.cells 0 _ rfl
    simp only [List.getElem_toArray, List.getElem_cons_zero, List.getElem_cons_succ] at q0 q1 r0
    clear hr1 hri
    go_wp2_with fail
    refine (has_any p n m A A' c d i _ HN.out).mono ?_
    rintro e w2 ⟨rfl, hb2⟩
    rw [HN.out, hh]
    have hb3 := hb1.trans (hb2.mono hb1.size)
    have hB3 : Below w.heap.size w w2 := Below.trans (by go_grown) (hb3.mono (by simp; omega))
    have hr2 := ((Blk.new_at (g := w.heap.size + 1 + 1) (by simp) _ _).alloc _).below hb3 (by simp)
    have hr3 := (Blk.new_at (g := w.heap.size + 1 + 1 + 1) (by simp) _ _).below hb3 (by simp)
    have s0 := hr2.cells 0 _ rfl
    have s1 := hr3.cells 0 _ rfl
    have fs := hr2.frozen
    have ft := hr3.frozen
    simp only [List.getElem_toArray, List.getElem_cons_zero] at s0 s1
    clear hr2 hr3 hb1 hb2 hb3 q0 q1 r0
    go_wp2_with (with_reducible refine end_at ?_)
    refine end_ret (v := .tuple #[.string ⟨#[]⟩, .int .i64 130]) (by simp [results, Try.results19, go_sem, s0, s1]; try rfl) rfl ⟨rfl, by go_grown⟩

theorem read_any (p : Plat) (i : Int) (A A' : Option Addr) (n m c d : Nat) (w : World) (hP : PlatAt w w.heap.size A n A' m p) :
    Calls Try.prog 19 #[.agg #[.slice A n c, .slice A' m d], .int .i64 i] w (OutR w (readF p i)) := by
  have hn := hP.1.1
  have hm := hP.2.1
  unfold readF
  by_cases hc : checkP p = true
  · obtain ⟨_, h200, h100, _⟩ := (checkP_iff p).1 hc
    rw [if_pos hc, hn]
    by_cases hh : hasB n i = true
    · rw [if_pos hh]
      simp [hasB] at hh
      obtain ⟨j, rfl⟩ := Int.eq_ofNat_of_zero_le hh.1
      rw [Int.toNat_natCast]
      exact read_ok p j A A' n m c d w hP.pre hn hm (by omega) (by omega) hc (by omega)
    · rw [if_neg hh]
      exact read_bad p i 130 A A' n m c d w hP.pre hn (.inr ⟨hc, by simpa using hh, rfl⟩)
  · rw [if_neg hc]
    exact read_bad p i 1 A A' n m c d w hP.pre hn (.inl ⟨by simpa using hc, rfl⟩)

set_option maxHeartbeats 1000000 in
theorem write_any (p : Plat) (i : Int) (s : ByteArray) (A A' : Option Addr) (n m c d : Nat) (w : World) (hP : PlatAt w w.heap.size A n A' m p) :
    Calls Try.prog 17 #[.agg #[.slice A n c, .slice A' m d], .int .i64 i, .string s] w (Out2P w (writeF p i s)) := by
  have HP := hP.pre
  have hm := hP.2.1
  have e0 : writeF p i s = oneF p i s (decide (100 ≤ (m : Int))) := by unfold writeF; rw [hm]; congr 1; simp; omega
  rw [e0]
  clear hP hm e0
  generalize hr : oneF p i s (decide (100 ≤ (m : Int))) = r
  have HR := Lib.hid hr
  clear hr
  obtain ⟨q, er⟩ := r
  go_enter Try.func17, Try.ntmps17
  go_wp2_with fail
  refine (one_any p i s (decide (100 ≤ (m : Int))) A A' n m c d _ (HP.step (by go_grown))).mono ?_
  rintro e w1 ⟨v, rfl, ⟨A1, c1, A2, c2, rfl, hown1, hown2⟩, hb1⟩
  rw [HR.out] at hown1 hown2 ⊢
  have hB1 : Below w.heap.size w w1 := Below.trans (by go_grown) (hb1.mono (by simp; omega))
  have hr2 := (Blk.new_at (g := w.heap.size + 1) (by simp) _ _).below hb1 (by simp)
  have s0 := hr2.cells 0 _ rfl
  have s1 := hr2.cells 1 _ rfl
  have fs := hr2.frozen
  simp only [List.getElem_toArray, List.getElem_cons_zero, List.getElem_cons_succ, World.size_alloc] at s0 s1 hown1 hown2
  have HO := Lib.hid (And.intro hown1 hown2)
  clear hr2 hb1 hown1 hown2
  go_wp2_with (with_reducible refine end_at ?_)
  refine end_ret (v := .tuple #[.agg #[.slice A1 q.sectors.length c1, .slice A2 q.cache.length c2], .int .i64 er]) (by simp [results, Try.results17, go_sem, s0, s1]; try rfl) rfl ⟨_, rfl, ⟨A1, c1, A2, c2, rfl, own_base (base := w.heap.size + 1 + 1) ?_ (by omega), own_base (base := w.heap.size + 1 + 1) ?_ (by omega)⟩, by go_grown⟩
  · have h1 := HO.out.1
    repeat' (first | (with_reducible exact h1) | (with_reducible refine ownsRow_setCell_below ?_ (by first | (simp; done) | (simp; omega)) _))
  · have h1 := HO.out.2
    repeat' (first | (with_reducible exact h1) | (with_reducible refine ownsRow_setCell_below ?_ (by first | (simp; done) | (simp; omega)) _))

def syncF (p : Plat) : Plat × Int := settleF p fun _ => 1
def crashF (p : Plat) (F : List Int) : Plat × Int := settleF p fun k => F.getD k 0

set_option maxHeartbeats 1000000 in
theorem sync_any (p : Plat) (A A' : Option Addr) (n m c d : Nat) (w : World) (hP : PlatAt w w.heap.size A n A' m p) :
    Calls Try.prog 18 #[.agg #[.slice A n c, .slice A' m d]] w (Out2P w (syncF p)) := by
  have HP := hP.pre
  clear hP
  generalize hr : syncF p = r
  have HR : Hid (settleF p (fun _ => 1) = r) := hr
  clear hr
  obtain ⟨q, er⟩ := r
  go_enter Try.func18, Try.ntmps18
  go_wp2_with fail
  refine (settle_sync p A A' n m c d _ (HP.step (by go_grown))).mono ?_
  rintro e w1 ⟨v, rfl, ⟨A1, c1, A2, c2, rfl, hown1, hown2⟩, hb1⟩
  rw [HR.out] at hown1 hown2 ⊢
  have hB1 : Below w.heap.size w w1 := Below.trans (by go_grown) (hb1.mono (by simp; omega))
  have hr2 := (Blk.new_at (g := w.heap.size + 1) (by simp) _ _).below hb1 (by simp)
  have s0 := hr2.cells 0 _ rfl
  have s1 := hr2.cells 1 _ rfl
  have fs := hr2.frozen
  simp only [List.getElem_toArray, List.getElem_cons_zero, List.getElem_cons_succ, World.size_alloc] at s0 s1 hown1 hown2
  have HO := Lib.hid (And.intro hown1 hown2)
  clear hr2 hb1 hown1 hown2
  go_wp2_with (with_reducible refine end_at ?_)
  refine end_ret (v := .tuple #[.agg #[.slice A1 q.sectors.length c1, .slice A2 q.cache.length c2], .int .i64 er]) (by simp [results, Try.results18, go_sem, s0, s1]; try rfl) rfl ⟨_, rfl, ⟨A1, c1, A2, c2, rfl, own_base (base := w.heap.size + 1 + 1) ?_ (by omega), own_base (base := w.heap.size + 1 + 1) ?_ (by omega)⟩, by go_grown⟩
  · have h1 := HO.out.1
    repeat' (first | (with_reducible exact h1) | (with_reducible refine ownsRow_setCell_below ?_ (by first | (simp; done) | (simp; omega)) _))
  · have h1 := HO.out.2
    repeat' (first | (with_reducible exact h1) | (with_reducible refine ownsRow_setCell_below ?_ (by first | (simp; done) | (simp; omega)) _))

set_option maxHeartbeats 1000000 in
theorem crash_any (p : Plat) (F : List Int) (AF : Option Addr) (nF cF : Nat) (A A' : Option Addr) (n m c d : Nat) (w : World) (hP : PlatAt w w.heap.size A n A' m p)
    (hS : SlR encI 1 w w.heap.size AF nF F) (hn : nF ≤ 140737488355328) (hF : ∀ x ∈ F, x ≤ 9223372036854775807) :
    Calls Try.prog 21 #[.agg #[.slice A n c, .slice A' m d], .slice AF nF cF] w (Out2P w (crashF p F)) := by
  have HP := hP.pre
  have HS : Hid (∀ W, Below w.heap.size w W → SlR encI 1 W W.heap.size AF nF F) := fun W hb => (hS.below hb).more hb.size
  have HF := Lib.hid hF
  clear hP hS hF
  generalize hr : crashF p F = r
  have HR : Hid (settleF p (fun k => F.getD k 0) = r) := hr
  clear hr
  obtain ⟨q, er⟩ := r
  go_enter Try.func21, Try.ntmps21
  go_wp2_with fail
  refine (settle_crash p F (w.heap.size + 1) AF nF cF A A' n m c d _ (HP.step (by go_grown)) (by simp [go_sem]) (by first | (simp; done) | (simp; omega)) (HS.out _ (by go_grown)) hn HF.out).mono ?_
  rintro e w1 ⟨v, rfl, ⟨A1, c1, A2, c2, rfl, hown1, hown2⟩, hb1⟩
  rw [HR.out] at hown1 hown2 ⊢
  have hB1 : Below w.heap.size w w1 := Below.trans (by go_grown) (hb1.mono (by simp; omega))
  have hr2 := (Blk.new_at (g := w.heap.size + 1 + 1) (by simp) _ _).below hb1 (by simp)
  have s0 := hr2.cells 0 _ rfl
  have s1 := hr2.cells 1 _ rfl
  have fs := hr2.frozen
  simp only [List.getElem_toArray, List.getElem_cons_zero, List.getElem_cons_succ, World.size_alloc] at s0 s1 hown1 hown2
  have HO := Lib.hid (And.intro hown1 hown2)
  clear hr2 hb1 hown1 hown2
  go_wp2_with (with_reducible refine end_at ?_)
  refine end_ret (v := .tuple #[.agg #[.slice A1 q.sectors.length c1, .slice A2 q.cache.length c2], .int .i64 er]) (by simp [results, Try.results21, go_sem, s0, s1]; try rfl) rfl ⟨_, rfl, ⟨A1, c1, A2, c2, rfl, own_base (base := w.heap.size + 1 + 1 + 1) ?_ (by omega), own_base (base := w.heap.size + 1 + 1 + 1) ?_ (by omega)⟩, by go_grown⟩
  · have h1 := HO.out.1
    repeat' (first | (with_reducible exact h1) | (with_reducible refine ownsRow_setCell_below ?_ (by first | (simp; done) | (simp; omega)) _))
  · have h1 := HO.out.2
    repeat' (first | (with_reducible exact h1) | (with_reducible refine ownsRow_setCell_below ?_ (by first | (simp; done) | (simp; omega)) _))
end Go.Proofs.Ytefodifmfjpnlaa
