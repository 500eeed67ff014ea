/- twin.Put, where its place is right. -/
import Derived.Test.YtefodifmfjpnlaaTwinF
set_option linter.unusedVariables false
namespace Go.Proofs.Ytefodifmfjpnlaa
open Go.RowKit

set_option maxHeartbeats 2000000 in
set_option maxRecDepth 100000 in
theorem put_ok0 (p : Plat) (i : Int) (s : ByteArray) (most : Int) (A A' : Option Addr) (n m c d : Nat) (w : World) (HP : PlatPre w A n A' m p) (hg : (getF p i).2.2 = 0) (hm : (readF p i).1.toList = [48]) :
    Calls Try.prog 26 #[.agg #[.slice A n c, .slice A' m d], .int .i64 i, .string s, .int .i64 most] w (OutDo w.heap.size w (putF p i s most)) := by
  have hrd := get_read hg
  obtain ⟨hcp, hi0, hin, hi2⟩ := read_pos hrd
  have hn := (HP.step (Below.refl _ _)).1.1
  have hmm := (HP.step (Below.refl _ _)).2.1
  have hm1 : m ≤ 100 := by have := ((checkP_iff p).1 hcp).2.2.1; omega
  have hn1 : n ≤ 200 := by omega
  have hi3 : i < 200 := by omega
  have HF : Hid (putF p i s most = doN p (i + 2) s i ⟨#[49]⟩ (mostN most)) := by
    unfold Hid putF; rw [if_pos hg]
    have : markF (readF p i).1 = ⟨#[49]⟩ := by unfold markF; rw [if_pos hm]
    rw [this]; rfl
  generalize hr : getF p i = r at *
  have HR := Lib.hid hr
  obtain ⟨t, ok, er⟩ := r
  dsimp only at hg
  subst hg
  generalize hr2 : readF p i = r2 at *
  have HR2 := Lib.hid hr2
  obtain ⟨old, er2⟩ := r2
  dsimp only at hrd hm
  subst hrd
  have hq : (old.toList == [48]) = true := by simpa using hm
  generalize hf : putF p i s most = rf at HF ⊢
  clear hr hr2 hcp hin hi2 hn hmm hf hm
  go_enter Try.func26, Try.ntmps26
  go_wp2_with fail
  refine (get_any p i A A' n m c d _ (HP.step (by go_grown))).mono ?_
  rintro e w1 ⟨rfl, hb1⟩
  rw [HR.out]
  have hX := ((Blk.new w _ _).alloc _).below hb1 (by simp; omega)
  have hY := (Blk.new_at (g := w.heap.size + 1) (by simp) _ _).below hb1 (by simp)
  have hB1 : Below w.heap.size w w1 := Below.trans (by go_grown) (hb1.mono (by simp; omega))
  have x0 := hX.cells 0 _ rfl
  have x1 := hX.cells 1 _ rfl
  simp only [List.getElem_toArray, List.getElem_cons_zero, List.getElem_cons_succ] at x0 x1
  clear hb1
  go_wp2_with fail
  refine (read_any p i A A' n m c d _ (HP.step hB1)).mono ?_
  rintro e w2 ⟨rfl, hb2⟩
  rw [HR2.out]
  have hX2 := hX.below hb2 hX.lt
  have hY2 := hY.below hb2 hY.lt
  have hB2 := hB1.trans (hb2.mono hB1.size)
  clear hb2 hB1 hX hY x0 x1
  go_wp2_with fail
  refine (body_any ⟨#[49]⟩ _ (by decide)).mono ?_
  rintro e w3 ⟨rfl, hb3⟩
  rw [show bodyF ⟨#[49]⟩ = (2, true) from by decide]
  have hX3 := hX2.below hb3 hX2.lt
  have hY3 := hY2.below hb3 hY2.lt
  have hB3 := hB2.trans (hb3.mono hB2.size)
  clear hb3 hB2 hX2 hY2
  have x0 := hX3.cells 0 _ rfl
  have x1 := hX3.cells 1 _ rfl
  simp only [List.getElem_toArray, List.getElem_cons_zero, List.getElem_cons_succ] at x0 x1
  go_wp2_with fail
  refine (tcopied_any p A A' n m c d _ (HP.step hB3) (by omega) (by omega)).mono ?_
  rintro e w4 ⟨v, rfl, hO, hb4⟩
  have hY4 := hY3.below hb4 hY3.lt
  have hB4 := hB3.trans (hb4.mono hB3.size)
  have HO := Lib.hid (hO.base hB3.size)
  clear hb4 hB3 hX3 hY3 x0 x1 hO
  go_wp2_with fail
  refine (put1_any (i + 2) s w4).mono ?_
  rintro e w5 ⟨rfl, rfl⟩
  go_wp2_with fail
  refine (put1_any i ⟨#[49]⟩ _).mono ?_
  rintro e w6 ⟨rfl, rfl⟩
  go_wp2_with fail
  refine (do_any p (i + 2) s i ⟨#[49]⟩ _ _ _ _ _ w.heap.size v most _ (by have := hB4.size; simp; omega) (HO.out.on (by go_grown))
    (WrOk.mk_ (((((Blk.new w4 _ _).alloc _).alloc _).alloc _).alloc _) ((((Blk.new_at (g := w4.heap.size + 1) (by simp) _ _).alloc _).alloc _).alloc _))
    (WrOk.mk_ (((Blk.new_at (g := w4.heap.size + 1 + 1) (by simp) _ _).alloc _).alloc _) ((Blk.new_at (g := w4.heap.size + 1 + 1 + 1) (by simp) _ _).alloc _))
    (Blk.new_at (g := w4.heap.size + 1 + 1 + 1 + 1) (by simp) _ _)).mono ?_
  rintro e w7 ⟨v7, rfl, hO7, hb7⟩
  rw [← HF.out] at hO7 ⊢
  obtain ⟨A7, c7, A7', c7', rfl, h1, h2⟩ := hO7
  have hb7' : Below w4.heap.size w4 w7 := Below.trans (by go_grown) (hb7.mono (by simp; omega))
  have hY7 := hY4.below hb7' hY4.lt
  have hB7 := hB4.trans (hb7'.mono hB4.size)
  have n1 := own_blk_ne h1 hY7 (by decide)
  have n2 := own_blk_ne h2 hY7 (by decide)
  have y0 := hY7.cells 0 _ rfl
  have y1 := hY7.cells 1 _ rfl
  have yf := hY7.frozen
  have hyl := hY7.lt
  simp only [List.getElem_toArray, List.getElem_cons_zero, List.getElem_cons_succ] at y0 y1
  have HO7 := Lib.hid (And.intro (And.intro h1 h2) (And.intro n1 n2))
  clear hb7 hb7' hY4 hB4 hY7 n1 n2 h1 h2 HO HF
  obtain ⟨q, done, eq⟩ := rf
  dsimp only at HO7 ⊢
  go_wp2_with (with_reducible refine end_at ?_)
  refine end_ret (v := .tuple #[.agg #[.slice A7 q.sectors.length c7, .slice A7' q.cache.length c7'], .bool done, .int .i64 eq]) (by simp [results, Try.results26, go_sem, y0, y1]; try rfl) rfl ?_
  obtain ⟨⟨h1, h2⟩, n1, n2⟩ := HO7.out
  exact ⟨_, rfl, ⟨A7, c7, A7', c7', rfl, own_far (own_far h1 n1 _ _) n1 _ _, own_far (own_far h2 n2 _ _) n2 _ _⟩, by go_grown⟩

set_option maxHeartbeats 2000000 in
set_option maxRecDepth 100000 in
theorem put_ok1 (p : Plat) (i : Int) (s : ByteArray) (most : Int) (A A' : Option Addr) (n m c d : Nat) (w : World) (HP : PlatPre w A n A' m p) (hg : (getF p i).2.2 = 0) (hm : (readF p i).1.toList ≠ [48]) :
    Calls Try.prog 26 #[.agg #[.slice A n c, .slice A' m d], .int .i64 i, .string s, .int .i64 most] w (OutDo w.heap.size w (putF p i s most)) := by
  have hrd := get_read hg
  obtain ⟨hcp, hi0, hin, hi2⟩ := read_pos hrd
  have hn := (HP.step (Below.refl _ _)).1.1
  have hmm := (HP.step (Below.refl _ _)).2.1
  have hm1 : m ≤ 100 := by have := ((checkP_iff p).1 hcp).2.2.1; omega
  have hn1 : n ≤ 200 := by omega
  have hi3 : i < 200 := by omega
  have HF : Hid (putF p i s most = doN p (i + 1) s i ⟨#[48]⟩ (mostN most)) := by
    unfold Hid putF; rw [if_pos hg]
    have : markF (readF p i).1 = ⟨#[48]⟩ := by unfold markF; rw [if_neg hm]
    rw [this]; rfl
  generalize hr : getF p i = r at *
  have HR := Lib.hid hr
  obtain ⟨t, ok, er⟩ := r
  dsimp only at hg
  subst hg
  generalize hr2 : readF p i = r2 at *
  have HR2 := Lib.hid hr2
  obtain ⟨old, er2⟩ := r2
  dsimp only at hrd hm
  subst hrd
  have hq : (old.toList == [48]) = false := by simpa using hm
  generalize hf : putF p i s most = rf at HF ⊢
  clear hr hr2 hcp hin hi2 hn hmm hf hm
  go_enter Try.func26, Try.ntmps26
  go_wp2_with fail
  refine (get_any p i A A' n m c d _ (HP.step (by go_grown))).mono ?_
  rintro e w1 ⟨rfl, hb1⟩
  rw [HR.out]
  have hX := ((Blk.new w _ _).alloc _).below hb1 (by simp; omega)
  have hY := (Blk.new_at (g := w.heap.size + 1) (by simp) _ _).below hb1 (by simp)
  have hB1 : Below w.heap.size w w1 := Below.trans (by go_grown) (hb1.mono (by simp; omega))
  have x0 := hX.cells 0 _ rfl
  have x1 := hX.cells 1 _ rfl
  simp only [List.getElem_toArray, List.getElem_cons_zero, List.getElem_cons_succ] at x0 x1
  clear hb1
  go_wp2_with fail
  refine (read_any p i A A' n m c d _ (HP.step hB1)).mono ?_
  rintro e w2 ⟨rfl, hb2⟩
  rw [HR2.out]
  have hX2 := hX.below hb2 hX.lt
  have hY2 := hY.below hb2 hY.lt
  have hB2 := hB1.trans (hb2.mono hB1.size)
  clear hb2 hB1 hX hY x0 x1
  go_wp2_with fail
  refine (body_any ⟨#[48]⟩ _ (by decide)).mono ?_
  rintro e w3 ⟨rfl, hb3⟩
  rw [show bodyF ⟨#[48]⟩ = (1, true) from by decide]
  have hX3 := hX2.below hb3 hX2.lt
  have hY3 := hY2.below hb3 hY2.lt
  have hB3 := hB2.trans (hb3.mono hB2.size)
  clear hb3 hB2 hX2 hY2
  have x0 := hX3.cells 0 _ rfl
  have x1 := hX3.cells 1 _ rfl
  simp only [List.getElem_toArray, List.getElem_cons_zero, List.getElem_cons_succ] at x0 x1
  go_wp2_with fail
  refine (tcopied_any p A A' n m c d _ (HP.step hB3) (by omega) (by omega)).mono ?_
  rintro e w4 ⟨v, rfl, hO, hb4⟩
  have hY4 := hY3.below hb4 hY3.lt
  have hB4 := hB3.trans (hb4.mono hB3.size)
  have HO := Lib.hid (hO.base hB3.size)
  clear hb4 hB3 hX3 hY3 x0 x1 hO
  go_wp2_with fail
  refine (put1_any (i + 1) s w4).mono ?_
  rintro e w5 ⟨rfl, rfl⟩
  go_wp2_with fail
  refine (put1_any i ⟨#[48]⟩ _).mono ?_
  rintro e w6 ⟨rfl, rfl⟩
  go_wp2_with fail
  refine (do_any p (i + 1) s i ⟨#[48]⟩ _ _ _ _ _ w.heap.size v most _ (by have := hB4.size; simp; omega) (HO.out.on (by go_grown))
    (WrOk.mk_ (((((Blk.new w4 _ _).alloc _).alloc _).alloc _).alloc _) ((((Blk.new_at (g := w4.heap.size + 1) (by simp) _ _).alloc _).alloc _).alloc _))
    (WrOk.mk_ (((Blk.new_at (g := w4.heap.size + 1 + 1) (by simp) _ _).alloc _).alloc _) ((Blk.new_at (g := w4.heap.size + 1 + 1 + 1) (by simp) _ _).alloc _))
    (Blk.new_at (g := w4.heap.size + 1 + 1 + 1 + 1) (by simp) _ _)).mono ?_
  rintro e w7 ⟨v7, rfl, hO7, hb7⟩
  rw [← HF.out] at hO7 ⊢
  obtain ⟨A7, c7, A7', c7', rfl, h1, h2⟩ := hO7
  have hb7' : Below w4.heap.size w4 w7 := Below.trans (by go_grown) (hb7.mono (by simp; omega))
  have hY7 := hY4.below hb7' hY4.lt
  have hB7 := hB4.trans (hb7'.mono hB4.size)
  have n1 := own_blk_ne h1 hY7 (by decide)
  have n2 := own_blk_ne h2 hY7 (by decide)
  have y0 := hY7.cells 0 _ rfl
  have y1 := hY7.cells 1 _ rfl
  have yf := hY7.frozen
  have hyl := hY7.lt
  simp only [List.getElem_toArray, List.getElem_cons_zero, List.getElem_cons_succ] at y0 y1
  have HO7 := Lib.hid (And.intro (And.intro h1 h2) (And.intro n1 n2))
  clear hb7 hb7' hY4 hB4 hY7 n1 n2 h1 h2 HO HF
  obtain ⟨q, done, eq⟩ := rf
  dsimp only at HO7 ⊢
  go_wp2_with (with_reducible refine end_at ?_)
  refine end_ret (v := .tuple #[.agg #[.slice A7 q.sectors.length c7, .slice A7' q.cache.length c7'], .bool done, .int .i64 eq]) (by simp [results, Try.results26, go_sem, y0, y1]; try rfl) rfl ?_
  obtain ⟨⟨h1, h2⟩, n1, n2⟩ := HO7.out
  exact ⟨_, rfl, ⟨A7, c7, A7', c7', rfl, own_far (own_far h1 n1 _ _) n1 _ _, own_far (own_far h2 n2 _ _) n2 _ _⟩, by go_grown⟩

theorem put_any (p : Plat) (i : Int) (s : ByteArray) (most : Int) (A A' : Option Addr) (n m c d : Nat) (w : World) (hP : PlatAt w w.heap.size A n A' m p) :
    Calls Try.prog 26 #[.agg #[.slice A n c, .slice A' m d], .int .i64 i, .string s, .int .i64 most] w (OutDo w.heap.size w (putF p i s most)) := by
  by_cases hg : (getF p i).2.2 = 0
  · by_cases hm : (readF p i).1.toList = [48]
    · exact put_ok0 p i s most A A' n m c d w hP.pre hg hm
    · exact put_ok1 p i s most A A' n m c d w hP.pre hg hm
  · exact put_bad p i s most A A' n m c d w hP.pre hg
end Go.Proofs.Ytefodifmfjpnlaa
