/- chapter 14's reference: Get, deed. -/
import Derived.Test.YtefodifmfjpnlaaTwinS5
import Derived.Test.YtefodifmfjpnlaaTwinR
set_option linter.unusedVariables false
namespace Go.Proofs.Ytefodifmfjpnlaa
open Go.RowKit
set_option maxHeartbeats 1000000 in
theorem refget_any (p : Plat) (i : Int) (A A' : Option Addr) (n m c d : Nat) (w : World) (hP : PlatAt w w.heap.size A n A' m p) (hn9 : n ≤ 1000) (hm9 : m ≤ 1000) :
    Calls Try.prog 25 #[.agg #[.slice A n c, .slice A' m d], .int .i64 i] w (OutG w (getF p i)) := by
  have HP := hP.pre
  clear hP
  have hsz := read_size p i
  by_cases hr : (readF p i).2 = 0
  · have hpos := read_pos hr
    by_cases ht : (readF p i).1.toList = []
    · have HG : Hid (getF p i = (⟨#[]⟩, false, 0)) := by unfold Hid getF; rw [if_pos hr, if_pos ht]
      generalize hR : readF p i = R at *
      have HR := Lib.hid hR
      obtain ⟨t, et⟩ := R
      dsimp only at hr ht hsz
      subst hr
      clear hR hpos hsz
      go_enter Try.func25, Try.ntmps25
      go_wp2_with fail
      refine (refread_any p i A A' n m c d _ (HP.step (by go_grown)) (by omega) (by omega)).mono ?_
      rintro e w1 ⟨rfl, hb1⟩
      rw [HR.out]
      have hB1 : Below w.heap.size w w1 := Below.trans (by go_grown) (hb1.mono (by simp))
      clear hb1
      go_wp2_with fail
      go_ret3
      exact outG HG.out rfl hB1
    · have HG : Hid (getF p i = if (bodyF (readF p i).1).2 = true then ((readF p (i + (bodyF (readF p i).1).1)).1, decide ((readF p (i + (bodyF (readF p i).1).1)).2 = 0), (readF p (i + (bodyF (readF p i).1).1)).2) else (⟨#[]⟩, false, 140)) := by
        unfold Hid getF; rw [if_pos hr, if_neg ht]
      generalize hR : readF p i = R at *
      have HR := Lib.hid hR
      obtain ⟨t, et⟩ := R
      dsimp only at hr ht hsz HG
      subst hr
      have ht' : t.toList.isEmpty = false := by cases h : t.toList with | nil => exact absurd h ht | cons a b => rfl
      clear hR ht
      obtain ⟨_, h0, hn, h2⟩ := hpos
      have hi : i < 200 := by omega
      have hbo := bodyF_cases t
      generalize hbt : bodyF t = B at *
      have HBT := Lib.hid hbt
      obtain ⟨far, ok⟩ := B
      dsimp only at HG
      have hfar : (ok = true ∧ 1 ≤ far ∧ far ≤ 2) ∨ (ok = false ∧ far = 0) := by
        rcases hbo with ⟨_, h⟩ | ⟨_, h⟩ | ⟨_, _, h⟩ <;> (injection h with h1 h2; subst h1; subst h2; simp)
      clear hbt hbo hn h2
      rcases hfar with ⟨rfl, hf1, hf2⟩ | ⟨rfl, rfl⟩
      · rw [if_pos rfl] at HG
        generalize hR2 : readF p (i + far) = R2 at HG
        have HR2 := Lib.hid hR2
        clear hR2
        obtain ⟨s, es⟩ := R2
        dsimp only at HG
        go_enter Try.func25, Try.ntmps25
        go_wp2_with fail
        refine (refread_any p i A A' n m c d _ (HP.step (by go_grown)) (by omega) (by omega)).mono ?_
        rintro e w1 ⟨rfl, hb1⟩
        rw [HR.out]
        have hX := (Blk.new w _ _).below hb1 (by simp)
        have hB1 : Below w.heap.size w w1 := Below.trans (by go_grown) (hb1.mono (by simp))
        clear hb1
        go_wp2_with fail
        refine (refbody_any t i _ h0 (by omega)).mono ?_
        rintro e w2 ⟨rfl, rfl⟩
        rw [show bodyAt t i = (i + far, true) from by unfold bodyAt; rw [HBT.out]; rfl]
        have hX2 := hX
        have hB2 := hB1
        have x0 := hX2.cells 0 _ rfl
        have x1 := hX2.cells 1 _ rfl
        simp only [List.getElem_toArray, List.getElem_cons_zero, List.getElem_cons_succ] at x0 x1
        clear hX hB1
        go_wp2_with fail
        refine (refread_any p (i + far) A A' n m c d _ (HP.step hB2) (by omega) (by omega)).mono ?_
        rintro e w3 ⟨rfl, hb3⟩
        rw [HR2.out]
        have hB3 := hB2.trans (hb3.mono hB2.size)
        clear hb3 hB2 x0 x1 hX2
        by_cases hes : es = 0
        · subst hes
          go_wp2_with fail
          go_ret3
          exact outG HG.out rfl hB3
        · have t1 : (es == 0) = false := by simpa using hes
          have HE := Lib.hid (show decide (es = 0) = false by simpa using hes)
          clear hes
          rw [HE.out] at HG
          go_wp2_with fail
          go_ret3
          exact outG HG.out rfl hB3
      · rw [if_neg (by decide)] at HG
        go_enter Try.func25, Try.ntmps25
        go_wp2_with fail
        refine (refread_any p i A A' n m c d _ (HP.step (by go_grown)) (by omega) (by omega)).mono ?_
        rintro e w1 ⟨rfl, hb1⟩
        rw [HR.out]
        have hB1 : Below w.heap.size w w1 := Below.trans (by go_grown) (hb1.mono (by simp))
        clear hb1
        go_wp2_with fail
        refine (refbody_any t i _ h0 (by omega)).mono ?_
        rintro e w2 ⟨rfl, rfl⟩
        rw [show bodyAt t i = (0, false) from by unfold bodyAt; rw [HBT.out]; rfl]
        have hB2 := hB1
        clear hB1
        go_wp2_with fail
        go_ret3
        exact outG HG.out rfl hB2
  · have HG : Hid (getF p i = (⟨#[]⟩, false, (readF p i).2)) := by unfold Hid getF; rw [if_neg hr]
    generalize hR : readF p i = R at *
    have HR := Lib.hid hR
    obtain ⟨t, et⟩ := R
    dsimp only at hr hsz HG
    have t1 : (et != 0) = true := by simpa using hr
    clear hR hsz hr
    go_enter Try.func25, Try.ntmps25
    go_wp2_with fail
    refine (refread_any p i A A' n m c d _ (HP.step (by go_grown)) (by omega) (by omega)).mono ?_
    rintro e w1 ⟨rfl, hb1⟩
    rw [HR.out]
    have hB1 : Below w.heap.size w w1 := Below.trans (by go_grown) (hb1.mono (by simp))
    clear hb1
    go_wp2_with fail
    go_ret3
    exact outG HG.out rfl hB1

set_option maxHeartbeats 400000 in
theorem refdeed0 (p : Plat) (i : Int) (M s : ByteArray) (far : Int) (A A' : Option Addr) (n m c d : Nat) (w : World) (hP : PlatAt w w.heap.size A n A' m p) (hn9 : n ≤ 1000) (hm9 : m ≤ 1000) (h0 : 0 ≤ i) (h1 : i < 1000) (hB : bodyAt M i = (i + far, true)) :
    Calls Try.prog 49 #[.agg #[.slice A n c, .slice A' m d], .int .i64 0, .int .i64 i, .string M, .string s] w (Out2P w (deedF (i + far) s i M 0 p)) := by
  have HP := hP.pre
  clear hP
  rw [show deedF (i + far) s i M 0 p = writeF p (i + far) s from rfl]
  generalize hg : writeF p (i + far) s = rr
  have HG := Lib.hid hg
  have HBD := Lib.hid hB
  clear hg hB
  go_enter Try.func49, Try.ntmps49
  go_wp2_with fail
  refine (refbody_any M i _ h0 h1).mono ?_
  rintro e w0 ⟨rfl, rfl⟩
  rw [HBD.out]
  go_wp2_with fail
  refine (refwrite_any p (i + far) s A A' n m c d _ (HP.step (by go_grown)) hn9 hm9).mono ?_
  rintro e w1 ⟨v, rfl, ⟨A1, c1, A2, c2, rfl, h1, h2⟩, hb1⟩
  rw [HG.out] at h1 h2 ⊢
  have hY1 := (Blk.new_at (g := w.heap.size + 1) (by simp) _ _).below hb1 (by simp)
  have hB1 : Below w.heap.size w w1 := Below.trans (by go_grown) (hb1.mono (by simp; omega))
  have y0 := hY1.cells 0 _ rfl
  have y1 := hY1.cells 1 _ rfl
  have yf := hY1.frozen
  have hyl := hY1.lt
  simp only [List.getElem_toArray, List.getElem_cons_zero, List.getElem_cons_succ] at y0 y1
  have n1 := own_blk_ne h1 hY1 (by decide)
  have n2 := own_blk_ne h2 hY1 (by decide)
  have HO := Lib.hid (And.intro (And.intro (own_base (base' := w.heap.size) h1 (by simp; omega)) (own_base (base' := w.heap.size) h2 (by simp; omega))) (And.intro n1 n2))
  obtain ⟨q, er⟩ := rr
  dsimp only at HO ⊢
  clear hb1 h1 h2 n1 n2 hY1
  go_wp2_with (with_reducible refine end_at ?_)
  refine end_ret (v := .tuple #[.agg #[.slice A1 q.sectors.length c1, .slice A2 q.cache.length c2], .int .i64 er]) (by simp [results, Try.results49, go_sem, y0, y1]; try rfl) rfl ?_
  obtain ⟨⟨h1, h2⟩, n1, n2⟩ := HO.out
  exact ⟨_, rfl, ⟨A1, c1, A2, c2, rfl, own_far (own_far h1 n1 _ _) n1 _ _, own_far (own_far h2 n2 _ _) n2 _ _⟩, by go_grown⟩

set_option maxHeartbeats 400000 in
theorem refdeed1 (p : Plat) (i : Int) (M s : ByteArray) (far : Int) (A A' : Option Addr) (n m c d : Nat) (w : World) (hP : PlatAt w w.heap.size A n A' m p) (hn9 : n ≤ 1000) (hm9 : m ≤ 1000) (h0 : 0 ≤ i) (h1 : i < 1000) (hB : bodyAt M i = (i + far, true)) :
    Calls Try.prog 49 #[.agg #[.slice A n c, .slice A' m d], .int .i64 1, .int .i64 i, .string M, .string s] w (Out2P w (deedF (i + far) s i M 1 p)) := by
  have HP := hP.pre
  clear hP
  rw [show deedF (i + far) s i M 1 p = syncF p from rfl]
  generalize hg : syncF p = rr
  have HG := Lib.hid hg
  have HBD := Lib.hid hB
  clear hg hB
  go_enter Try.func49, Try.ntmps49
  go_wp2_with fail
  refine (refsync_any p A A' n m c d _ (HP.step (by go_grown)) hn9 hm9).mono ?_
  rintro e w1 ⟨v, rfl, ⟨A1, c1, A2, c2, rfl, h1, h2⟩, hb1⟩
  rw [HG.out] at h1 h2 ⊢
  have hY1 := (Blk.new_at (g := w.heap.size + 1) (by simp) _ _).below hb1 (by simp)
  have hB1 : Below w.heap.size w w1 := Below.trans (by go_grown) (hb1.mono (by simp; omega))
  have y0 := hY1.cells 0 _ rfl
  have y1 := hY1.cells 1 _ rfl
  have yf := hY1.frozen
  have hyl := hY1.lt
  simp only [List.getElem_toArray, List.getElem_cons_zero, List.getElem_cons_succ] at y0 y1
  have n1 := own_blk_ne h1 hY1 (by decide)
  have n2 := own_blk_ne h2 hY1 (by decide)
  have HO := Lib.hid (And.intro (And.intro (own_base (base' := w.heap.size) h1 (by simp; omega)) (own_base (base' := w.heap.size) h2 (by simp; omega))) (And.intro n1 n2))
  obtain ⟨q, er⟩ := rr
  dsimp only at HO ⊢
  clear hb1 h1 h2 n1 n2 hY1
  go_wp2_with (with_reducible refine end_at ?_)
  refine end_ret (v := .tuple #[.agg #[.slice A1 q.sectors.length c1, .slice A2 q.cache.length c2], .int .i64 er]) (by simp [results, Try.results49, go_sem, y0, y1]; try rfl) rfl ?_
  obtain ⟨⟨h1, h2⟩, n1, n2⟩ := HO.out
  exact ⟨_, rfl, ⟨A1, c1, A2, c2, rfl, own_far (own_far h1 n1 _ _) n1 _ _, own_far (own_far h2 n2 _ _) n2 _ _⟩, by go_grown⟩

set_option maxHeartbeats 400000 in
theorem refdeed2 (p : Plat) (i : Int) (M s : ByteArray) (far : Int) (A A' : Option Addr) (n m c d : Nat) (w : World) (hP : PlatAt w w.heap.size A n A' m p) (hn9 : n ≤ 1000) (hm9 : m ≤ 1000) (h0 : 0 ≤ i) (h1 : i < 1000) (hB : bodyAt M i = (i + far, true)) :
    Calls Try.prog 49 #[.agg #[.slice A n c, .slice A' m d], .int .i64 2, .int .i64 i, .string M, .string s] w (Out2P w (deedF (i + far) s i M 2 p)) := by
  have HP := hP.pre
  clear hP
  rw [show deedF (i + far) s i M 2 p = writeF p i M from rfl]
  generalize hg : writeF p i M = rr
  have HG := Lib.hid hg
  have HBD := Lib.hid hB
  clear hg hB
  go_enter Try.func49, Try.ntmps49
  go_wp2_with fail
  refine (refwrite_any p i M A A' n m c d _ (HP.step (by go_grown)) hn9 hm9).mono ?_
  rintro e w1 ⟨v, rfl, ⟨A1, c1, A2, c2, rfl, h1, h2⟩, hb1⟩
  rw [HG.out] at h1 h2 ⊢
  have hY1 := (Blk.new_at (g := w.heap.size + 1) (by simp) _ _).below hb1 (by simp)
  have hB1 : Below w.heap.size w w1 := Below.trans (by go_grown) (hb1.mono (by simp; omega))
  have y0 := hY1.cells 0 _ rfl
  have y1 := hY1.cells 1 _ rfl
  have yf := hY1.frozen
  have hyl := hY1.lt
  simp only [List.getElem_toArray, List.getElem_cons_zero, List.getElem_cons_succ] at y0 y1
  have n1 := own_blk_ne h1 hY1 (by decide)
  have n2 := own_blk_ne h2 hY1 (by decide)
  have HO := Lib.hid (And.intro (And.intro (own_base (base' := w.heap.size) h1 (by simp; omega)) (own_base (base' := w.heap.size) h2 (by simp; omega))) (And.intro n1 n2))
  obtain ⟨q, er⟩ := rr
  dsimp only at HO ⊢
  clear hb1 h1 h2 n1 n2 hY1
  go_wp2_with (with_reducible refine end_at ?_)
  refine end_ret (v := .tuple #[.agg #[.slice A1 q.sectors.length c1, .slice A2 q.cache.length c2], .int .i64 er]) (by simp [results, Try.results49, go_sem, y0, y1]; try rfl) rfl ?_
  obtain ⟨⟨h1, h2⟩, n1, n2⟩ := HO.out
  exact ⟨_, rfl, ⟨A1, c1, A2, c2, rfl, own_far (own_far h1 n1 _ _) n1 _ _, own_far (own_far h2 n2 _ _) n2 _ _⟩, by go_grown⟩

set_option maxHeartbeats 400000 in
theorem refdeed3 (p : Plat) (i : Int) (M s : ByteArray) (far : Int) (A A' : Option Addr) (n m c d : Nat) (w : World) (hP : PlatAt w w.heap.size A n A' m p) (hn9 : n ≤ 1000) (hm9 : m ≤ 1000) (h0 : 0 ≤ i) (h1 : i < 1000) (hB : bodyAt M i = (i + far, true)) :
    Calls Try.prog 49 #[.agg #[.slice A n c, .slice A' m d], .int .i64 3, .int .i64 i, .string M, .string s] w (Out2P w (deedF (i + far) s i M 3 p)) := by
  have HP := hP.pre
  clear hP
  rw [show deedF (i + far) s i M 3 p = syncF p from rfl]
  generalize hg : syncF p = rr
  have HG := Lib.hid hg
  have HBD := Lib.hid hB
  clear hg hB
  go_enter Try.func49, Try.ntmps49
  go_wp2_with fail
  refine (refsync_any p A A' n m c d _ (HP.step (by go_grown)) hn9 hm9).mono ?_
  rintro e w1 ⟨v, rfl, ⟨A1, c1, A2, c2, rfl, h1, h2⟩, hb1⟩
  rw [HG.out] at h1 h2 ⊢
  have hY1 := (Blk.new_at (g := w.heap.size + 1) (by simp) _ _).below hb1 (by simp)
  have hB1 : Below w.heap.size w w1 := Below.trans (by go_grown) (hb1.mono (by simp; omega))
  have y0 := hY1.cells 0 _ rfl
  have y1 := hY1.cells 1 _ rfl
  have yf := hY1.frozen
  have hyl := hY1.lt
  simp only [List.getElem_toArray, List.getElem_cons_zero, List.getElem_cons_succ] at y0 y1
  have n1 := own_blk_ne h1 hY1 (by decide)
  have n2 := own_blk_ne h2 hY1 (by decide)
  have HO := Lib.hid (And.intro (And.intro (own_base (base' := w.heap.size) h1 (by simp; omega)) (own_base (base' := w.heap.size) h2 (by simp; omega))) (And.intro n1 n2))
  obtain ⟨q, er⟩ := rr
  dsimp only at HO ⊢
  clear hb1 h1 h2 n1 n2 hY1
  go_wp2_with (with_reducible refine end_at ?_)
  refine end_ret (v := .tuple #[.agg #[.slice A1 q.sectors.length c1, .slice A2 q.cache.length c2], .int .i64 er]) (by simp [results, Try.results49, go_sem, y0, y1]; try rfl) rfl ?_
  obtain ⟨⟨h1, h2⟩, n1, n2⟩ := HO.out
  exact ⟨_, rfl, ⟨A1, c1, A2, c2, rfl, own_far (own_far h1 n1 _ _) n1 _ _, own_far (own_far h2 n2 _ _) n2 _ _⟩, by go_grown⟩
end Go.Proofs.Ytefodifmfjpnlaa
