/- nonce: the document's Next. -/
import Derived.Test.YtefodifmfjpnlaaDoorNonH
import Derived.Test.YtefodifmfjpnlaaDoorTwinS7
set_option linter.unusedVariables false
namespace Go.Proofs.YtefodifmfjpnlaaDoor
open Go.RowKit
/-- its boxes -/
structure RNextAt (W : World) (g : Nat) (a b : Value) (ws : Src) : Prop where
  t3 : Blk W g 25 #[a, b]
  t4 : Blk W (g + 1) 28 #[.int .i64 ws.pos, .int .i64 ws.next, .int .i64 ws.limit]
  t7 : Blk W (g + 1 + 1) 28 #[.int .i64 0, .int .i64 0, .int .i64 0]
  t8 : Blk W (g + 1 + 1 + 1) 25 #[.slice none 0 0, .slice none 0 0]
theorem RNextAt.lt {W : World} {g : Nat} {a b : Value} {ws : Src} (h : RNextAt W g a b ws) : g + 1 + 1 + 1 < W.heap.size := h.t8.lt
theorem RNextAt.below {W W' : World} {g : Nat} {a b : Value} {ws : Src} (h : RNextAt W g a b ws) (hb : Below W.heap.size W W') : RNextAt W' g a b ws :=
  ⟨h.t3.below hb h.t3.lt, h.t4.below hb h.t4.lt, h.t7.below hb h.t7.lt, h.t8.below hb h.t8.lt⟩
def rstartW (w : World) (a b : Value) (s : Src) : World :=
  (((w.alloc (.cells #[a, b] 25)).alloc (.cells #[.int .i64 s.pos, .int .i64 s.next, .int .i64 s.limit] 28)).alloc (.cells #[.int .i64 0, .int .i64 0, .int .i64 0] 28)).alloc (.cells #[.slice none 0 0, .slice none 0 0] 25)
theorem rnext_start (w : World) (a b : Value) (s : Src) : RNextAt (rstartW w a b s) w.heap.size a b s := by
  unfold rstartW
  refine ⟨?_, ?_, ?_, ?_⟩
  · exact (((Blk.new w _ _).alloc _).alloc _).alloc _
  · exact ((Blk.new_at (by simp) _ _).alloc _).alloc _
  · exact (Blk.new_at (by simp) _ _).alloc _
  · exact Blk.new_at (by simp) _ _
theorem rstart_below (w : World) (a b : Value) (s : Src) : Below w.heap.size w (rstartW w a b s) := by unfold rstartW; go_grown
/-- the result's boxes, set, and what lies there -/
theorem rnext_end {W : World} {g B sz1 sz2 n1 n2 : Nat} {e1 e2 : TypeId} {a b x y : Value} {xs ys : List Value} {ws : Src} (h : RNextAt W g a b ws) (h1 : W.ownsRow B e1 sz1 x n1 xs) (h2 : W.ownsRow B e2 sz2 y n2 ys) (hB : g + 1 + 1 + 1 < B) (u0 u1 u2 : Int) (p0 p1 : Value) :
    let W' := ((((W.setCell ⟨g + 1 + 1, 0, none⟩ (.int .i64 u0)).setCell ⟨g + 1 + 1, 1, none⟩ (.int .i64 u1)).setCell ⟨g + 1 + 1, 2, none⟩ (.int .i64 u2)).setCell ⟨g + 1 + 1 + 1, 0, none⟩ p0).setCell ⟨g + 1 + 1 + 1, 1, none⟩ p1
    Blk W' (g + 1 + 1) 28 #[.int .i64 u0, .int .i64 u1, .int .i64 u2] ∧ Blk W' (g + 1 + 1 + 1) 25 #[p0, p1] ∧ W'.ownsRow B e1 sz1 x n1 xs ∧ W'.ownsRow B e2 sz2 y n2 ys := by
  intro W'
  refine ⟨((src_set h.t7 u0 u1 u2).far (by simp) _).far (by simp) _, plat_set (((h.t8.far (by simp) _).far (by simp) _).far (by simp) _) p0 p1, ?_, ?_⟩
  · exact own_set (own_set (own_set (own_set (own_set h1 (by omega) _ _) (by omega) _ _) (by omega) _ _) (by omega) _ _) (by omega) _ _
  · exact own_set (own_set (own_set (own_set (own_set h2 (by omega) _ _) (by omega) _ _) (by omega) _ _) (by omega) _ _) (by omega) _ _
set_option maxRecDepth 100000 in
set_option maxHeartbeats 4000000 in
theorem rnext_bad (p : Plat) (s : Src) (deeds : Int) (A A' : Option Addr) (n m c d : Nat) (w : World) (h : rightB s.next s.limit = false) :
    Calls Tryd.prog 16 #[.agg #[.slice A n c, .slice A' m d], .agg #[.int .i64 s.pos, .int .i64 s.next, .int .i64 s.limit], .int .i64 deeds] w fun e w' => NextOut w.heap.size (⟨#[]⟩, noSrc, noPlat, 1) w e w' := by
  have H3 : (s.next < 0) ∨ (¬ s.next < 0 ∧ s.limit < s.next) ∨ (¬ s.next < 0 ∧ ¬ s.limit < s.next ∧ 1000000000 < s.limit) := by
    have h' : ¬ (rightB s.next s.limit = true) := by rw [h]; decide
    rw [right_iff] at h'
    omega
  clear h
  go_enter Tryd.func16, Tryd.ntmps16
  go_upto_region 1 with (fail)
  have hN := rnext_start w (.slice A n c) (.slice A' m d) s
  have hB := rstart_below w (.slice A n c) (.slice A' m d) s
  unfold rstartW at hN hB
  have HN := Lib.hid hN
  have HB := Lib.hid hB
  have c1 := hN.t4.cells 1 _ rfl
  have c2 := hN.t4.cells 2 _ rfl
  have r0 := hN.t7.cells 0 _ rfl
  have r1 := hN.t7.cells 1 _ rfl
  have r2 := hN.t7.cells 2 _ rfl
  have rf := hN.t7.frozen
  have q0 := hN.t8.cells 0 _ rfl
  have q1 := hN.t8.cells 1 _ rfl
  have qf := hN.t8.frozen
  have hlt := hN.lt
  simp only [List.getElem_toArray, List.getElem_cons_zero, List.getElem_cons_succ] at c1 c2 r0 r1 r2 q0 q1
  clear hN hB
  generalize (((w.alloc (.cells #[.slice A n c, .slice A' m d] 25)).alloc (.cells #[.int .i64 s.pos, .int .i64 s.next, .int .i64 s.limit] 28)).alloc (.cells #[.int .i64 0, .int .i64 0, .int .i64 0] 28)).alloc (.cells #[.slice none 0 0, .slice none 0 0] 25) = w1 at *
  obtain ⟨e7, e8, _, _⟩ := rnext_end (e1 := 0) (e2 := 0) (sz1 := 1) (sz2 := 1) HN.out (World.ownsRow_nil w1 w1.heap.size _ _) (World.ownsRow_nil w1 w1.heap.size _ _) (by omega) 0 0 0 (.slice none 0 0) (.slice none 0 0)
  have l7 := src_load e7
  have l8 := plat_load e8
  have HE := Lib.hid (And.intro l7 l8)
  clear e7 e8 l7 l8
  have hbE : Hid (Below w.heap.size w (((((w1.setCell ⟨w.heap.size + 1 + 1, 0, none⟩ (.int .i64 0)).setCell ⟨w.heap.size + 1 + 1, 1, none⟩ (.int .i64 0)).setCell ⟨w.heap.size + 1 + 1, 2, none⟩ (.int .i64 0)).setCell ⟨w.heap.size + 1 + 1 + 1, 0, none⟩ (.slice none 0 0)).setCell ⟨w.heap.size + 1 + 1 + 1, 1, none⟩ (.slice none 0 0))) := Lib.hid (((((HB.out.setCell (by simp; omega) _).setCell (by simp; omega) _).setCell (by simp; omega) _).setCell (by simp; omega) _).setCell (by simp; omega) _)
  rcases H3 with h1 | ⟨h1, h2⟩ | ⟨h1, h2, h3⟩
  · have t1 : decide (s.next < 0) = true := by simp [h1]
    go_wp2_with (with_reducible refine end_at ?_)
    have l7 := HE.out.1
    have l8 := HE.out.2
    exact end_ret (v := .tuple #[.string ⟨#[]⟩, .agg #[.int .i64 0, .int .i64 0, .int .i64 0], .agg #[.slice none 0 0, .slice none 0 0], .int .i64 1]) (by simp [results, Tryd.results16, asAddr, l7, l8]) rfl ⟨_, rfl, PlatOut.none_ _ _, hbE.out⟩
  · have t1 : decide (s.next < 0) = false := by simp; omega
    have t2 : decide (s.limit < s.next) = true := by simp [h2]
    go_wp2_with (with_reducible refine end_at ?_)
    have l7 := HE.out.1
    have l8 := HE.out.2
    exact end_ret (v := .tuple #[.string ⟨#[]⟩, .agg #[.int .i64 0, .int .i64 0, .int .i64 0], .agg #[.slice none 0 0, .slice none 0 0], .int .i64 1]) (by simp [results, Tryd.results16, asAddr, l7, l8]) rfl ⟨_, rfl, PlatOut.none_ _ _, hbE.out⟩
  · have t1 : decide (s.next < 0) = false := by simp; omega
    have t2 : decide (s.limit < s.next) = false := by simp; omega
    have t3 : decide (1000000000 < s.limit) = true := by simp [h3]
    go_wp2_with (with_reducible refine end_at ?_)
    have l7 := HE.out.1
    have l8 := HE.out.2
    exact end_ret (v := .tuple #[.string ⟨#[]⟩, .agg #[.int .i64 0, .int .i64 0, .int .i64 0], .agg #[.slice none 0 0, .slice none 0 0], .int .i64 1]) (by simp [results, Tryd.results16, asAddr, l7, l8]) rfl ⟨_, rfl, PlatOut.none_ _ _, hbE.out⟩
theorem RNextAt.set4 {W : World} {g : Nat} {a b : Value} {ws : Src} (h : RNextAt W g a b ws) (x : Int) : RNextAt (W.setCell ⟨g + 1, 1, none⟩ (.int .i64 x)) g a b ⟨ws.pos, x, ws.limit⟩ :=
  ⟨h.t3.far (by first | (simp; done) | (simp; omega)) _, h.t4.set_ 1 _, h.t7.far (by first | (simp; done) | (simp; omega)) _, h.t8.far (by first | (simp; done) | (simp; omega)) _⟩
theorem RNextAt.set4b {W : World} {g : Nat} {a b : Value} {ws : Src} (h : RNextAt W g a b ws) (x : Int) : RNextAt (W.setCell ⟨g + 1, 2, none⟩ (.int .i64 x)) g a b ⟨ws.pos, ws.next, x⟩ :=
  ⟨h.t3.far (by first | (simp; done) | (simp; omega)) _, h.t4.set_ 2 _, h.t7.far (by first | (simp; done) | (simp; omega)) _, h.t8.far (by first | (simp; done) | (simp; omega)) _⟩
set_option maxRecDepth 100000 in
set_option maxHeartbeats 4000000 in
theorem rnext_full (p : Plat) (s : Src) (deeds : Int) (A A' : Option Addr) (n m c d : Nat) (w : World) (hP : PlatAt w w.heap.size A n A' m p) (hn : n ≤ 1000) (hm : m ≤ 1000) (h : rightB s.next s.limit = true) (hge : ¬ s.next < s.limit) (hfull : 1000000000 < s.limit + 16) :
    Calls Tryd.prog 16 #[.agg #[.slice A n c, .slice A' m d], .agg #[.int .i64 s.pos, .int .i64 s.next, .int .i64 s.limit], .int .i64 deeds] w fun e w' => NextOut w.heap.size (⟨#[]⟩, noSrc, noPlat, 150) w e w' := by
  obtain ⟨k0, k1, k2⟩ := (right_iff _ _).1 h
  have HP := hP.pre
  have t1 : decide (s.next < 0) = false := by simp; omega
  have t2 : decide (s.limit < s.next) = false := by simp; omega
  have t3 : decide (1000000000 < s.limit) = false := by simp; omega
  have t4 : (s.next == s.limit) = true := by simp; omega
  have t5 : decide (1000000000 < s.limit + 16) = true := by simp [hfull]
  clear h hP
  go_enter Tryd.func16, Tryd.ntmps16
  go_upto_region 1 with (fail)
  have hN := rnext_start w (.slice A n c) (.slice A' m d) s
  have hB := rstart_below w (.slice A n c) (.slice A' m d) s
  unfold rstartW at hN hB
  have HN := Lib.hid hN
  have HB := Lib.hid hB
  have b0 := hN.t3.cells 0 _ rfl
  have b1 := hN.t3.cells 1 _ rfl
  have c1 := hN.t4.cells 1 _ rfl
  have c2 := hN.t4.cells 2 _ rfl
  have hlt := hN.lt
  simp only [List.getElem_toArray, List.getElem_cons_zero, List.getElem_cons_succ] at b0 b1 c1 c2
  clear hN hB
  generalize (((w.alloc (.cells #[.slice A n c, .slice A' m d] 25)).alloc (.cells #[.int .i64 s.pos, .int .i64 s.next, .int .i64 s.limit] 28)).alloc (.cells #[.int .i64 0, .int .i64 0, .int .i64 0] 28)).alloc (.cells #[.slice none 0 0, .slice none 0 0] 25) = w1 at *
  go_wp2_with fail
  refine (own13_any p A A' n m c d w1 (HP.step HB.out) hn hm).mono ?_
  rintro e w2 ⟨v, rfl, hO, hb2⟩
  obtain ⟨Ac, cc, Ac', cc', rfl, ho1, ho2⟩ := hO
  have hN2 := HN.out.below hb2
  have hz2 := hb2.size
  have hB2 := HB.out.trans (hb2.mono HB.out.size)
  have hA2 : Below w2.heap.size w2 (w2.alloc (.cells #[.slice Ac p.sectors.length cc, .slice Ac' p.cache.length cc'] 25)) := by go_grown
  have HN3 := Lib.hid (hN2.below hA2)
  have HK3 := Lib.hid (Blk.new w2 25 #[.slice Ac p.sectors.length cc, .slice Ac' p.cache.length cc'])
  have HO3 := Lib.hid (And.intro (own_below ho1 hA2 (Nat.le_refl _)) (own_below ho2 hA2 (Nat.le_refl _)))
  have HB3 := Lib.hid (hB2.trans (hA2.mono hB2.size))
  clear HN HB b0 b1 c1 c2 ho1 ho2 hb2 hN2 hB2
  go_upto_region 4 with (fail)
  clear hA2
  have hz3 : w1.heap.size < (w2.alloc (.cells #[.slice Ac p.sectors.length cc, .slice Ac' p.cache.length cc'] 25)).heap.size := by simp; omega
  generalize w2.alloc (.cells #[.slice Ac p.sectors.length cc, .slice Ac' p.cache.length cc'] 25) = w3 at *
  obtain ⟨g10, hg10⟩ : ∃ x, w2.heap.size = x := ⟨_, rfl⟩
  rw [hg10] at HK3 hz2 ⊢
  clear hg10
  have c1 := HN3.out.t4.cells 1 _ rfl
  have c2 := HN3.out.t4.cells 2 _ rfl
  have r0 := HN3.out.t7.cells 0 _ rfl
  have r1 := HN3.out.t7.cells 1 _ rfl
  have r2 := HN3.out.t7.cells 2 _ rfl
  have rf := HN3.out.t7.frozen
  have q0 := HN3.out.t8.cells 0 _ rfl
  have q1 := HN3.out.t8.cells 1 _ rfl
  have qf := HN3.out.t8.frozen
  have hlt3 := HN3.out.lt
  simp only [List.getElem_toArray, List.getElem_cons_zero, List.getElem_cons_succ] at c1 c2 r0 r1 r2 q0 q1
  go_wp2_with (with_reducible refine end_at ?_)
  obtain ⟨e7, e8, _, _⟩ := rnext_end (e1 := 0) (e2 := 0) (sz1 := 1) (sz2 := 1) HN3.out (World.ownsRow_nil w3 w3.heap.size _ _) (World.ownsRow_nil w3 w3.heap.size _ _) (by omega) 0 0 0 (.slice none 0 0) (.slice none 0 0)
  have l7 := src_load e7
  have l8 := plat_load e8
  refine end_ret (v := .tuple #[.string ⟨#[]⟩, .agg #[.int .i64 0, .int .i64 0, .int .i64 0], .agg #[.slice none 0 0, .slice none 0 0], .int .i64 150]) (by simp [results, Tryd.results16, asAddr, l7, l8]) rfl ⟨_, rfl, PlatOut.none_ _ _, ?_⟩
  exact ((((HB3.out.setCell (by simp; omega) _).setCell (by simp; omega) _).setCell (by simp; omega) _).setCell (by simp; omega) _).setCell (by simp; omega) _
set_option maxRecDepth 100000 in
set_option maxHeartbeats 4000000 in
theorem rnext_in (p : Plat) (s : Src) (deeds : Int) (A A' : Option Addr) (n m c d : Nat) (w : World) (hP : PlatAt w w.heap.size A n A' m p) (hn : n ≤ 1000) (hm : m ≤ 1000) (h : rightB s.next s.limit = true) (hlt0 : s.next < s.limit) :
    Calls Tryd.prog 16 #[.agg #[.slice A n c, .slice A' m d], .agg #[.int .i64 s.pos, .int .i64 s.next, .int .i64 s.limit], .int .i64 deeds] w fun e w' => NextOut w.heap.size (nonB s.next.toNat, ⟨s.pos, s.next + 1, s.limit⟩, p, 0) w e w' := by
  obtain ⟨k0, k1, k2⟩ := (right_iff _ _).1 h
  have HP := hP.pre
  have t1 : decide (s.next < 0) = false := by simp; omega
  have t2 : decide (s.limit < s.next) = false := by simp; omega
  have t3 : decide (1000000000 < s.limit) = false := by simp; omega
  have t4 : (s.next == s.limit) = false := by simp; omega
  have HF := Lib.hid (nonF_in (n := s.next) k0 (by omega))
  clear h hP
  go_enter Tryd.func16, Tryd.ntmps16
  go_upto_region 1 with (fail)
  have hN := rnext_start w (.slice A n c) (.slice A' m d) s
  have hB := rstart_below w (.slice A n c) (.slice A' m d) s
  unfold rstartW at hN hB
  have HN := Lib.hid hN
  have HB := Lib.hid hB
  have b0 := hN.t3.cells 0 _ rfl
  have b1 := hN.t3.cells 1 _ rfl
  have c1 := hN.t4.cells 1 _ rfl
  have c2 := hN.t4.cells 2 _ rfl
  have hlt := hN.lt
  simp only [List.getElem_toArray, List.getElem_cons_zero, List.getElem_cons_succ] at b0 b1 c1 c2
  clear hN hB
  generalize (((w.alloc (.cells #[.slice A n c, .slice A' m d] 25)).alloc (.cells #[.int .i64 s.pos, .int .i64 s.next, .int .i64 s.limit] 28)).alloc (.cells #[.int .i64 0, .int .i64 0, .int .i64 0] 28)).alloc (.cells #[.slice none 0 0, .slice none 0 0] 25) = w1 at *
  go_wp2_with fail
  refine (own13_any p A A' n m c d w1 (HP.step HB.out) hn hm).mono ?_
  rintro e w2 ⟨v, rfl, hO, hb2⟩
  obtain ⟨Ac, cc, Ac', cc', rfl, ho1, ho2⟩ := hO
  have hN2 := HN.out.below hb2
  have hz2 := hb2.size
  have hB2 := HB.out.trans (hb2.mono HB.out.size)
  have hA2 : Below w2.heap.size w2 (w2.alloc (.cells #[.slice Ac p.sectors.length cc, .slice Ac' p.cache.length cc'] 25)) := by go_grown
  have HN3 := Lib.hid (hN2.below hA2)
  have HK3 := Lib.hid (Blk.new w2 25 #[.slice Ac p.sectors.length cc, .slice Ac' p.cache.length cc'])
  have HO3 := Lib.hid (And.intro (own_below ho1 hA2 (Nat.le_refl _)) (own_below ho2 hA2 (Nat.le_refl _)))
  have HB3 := Lib.hid (hB2.trans (hA2.mono hB2.size))
  clear HN HB b0 b1 c1 c2 ho1 ho2 hb2 hN2 hB2
  go_upto_region 4 with (fail)
  clear hA2
  have hz3 : w1.heap.size < (w2.alloc (.cells #[.slice Ac p.sectors.length cc, .slice Ac' p.cache.length cc'] 25)).heap.size := by simp; omega
  generalize w2.alloc (.cells #[.slice Ac p.sectors.length cc, .slice Ac' p.cache.length cc'] 25) = w3 at *
  obtain ⟨g10, hg10⟩ : ∃ x, w2.heap.size = x := ⟨_, rfl⟩
  rw [hg10] at HK3 hz2 ⊢
  clear hg10
  have c1 := HN3.out.t4.cells 1 _ rfl
  have c2 := HN3.out.t4.cells 2 _ rfl
  have hlt3 := HN3.out.lt
  simp only [List.getElem_toArray, List.getElem_cons_zero, List.getElem_cons_succ] at c1 c2
  go_wp2_with fail
  refine (rbytes_any s.next w3).mono ?_
  rintro e w4 ⟨rfl, hb4⟩
  rw [HF.out]
  dsimp only
  have hN4 := HN3.out.below hb4
  have HB4 := Lib.hid (HB3.out.trans (hb4.mono HB3.out.size))
  have HO4 := Lib.hid (And.intro (own_below HO3.out.1 hb4 (Nat.le_refl _)) (own_below HO3.out.2 hb4 (Nat.le_refl _)))
  have HK4 := Lib.hid (HK3.out.below hb4 HK3.out.lt)
  have c1 := hN4.t4.cells 1 _ rfl
  have cf := hN4.t4.frozen
  have hlt4 := hN4.lt
  have hz4 := hb4.size
  simp only [List.getElem_toArray, List.getElem_cons_zero, List.getElem_cons_succ] at c1
  have HN4 := Lib.hid hN4
  clear hN4 hb4 HN3 HB3 HO3 HK3 c2
  go_upto_region 16 with (fail)
  have hN5 := HN4.out.set4 (s.next + 1)
  have HO5 := Lib.hid (And.intro (own_set HO4.out.1 (g := w.heap.size + 1) (by omega) 1 (.int .i64 (s.next + 1))) (own_set HO4.out.2 (g := w.heap.size + 1) (by omega) 1 (.int .i64 (s.next + 1))))
  have HB5 := Lib.hid (HB4.out.setCell (p := ⟨w.heap.size + 1, 1, none⟩) (by simp) (.int .i64 (s.next + 1)))
  have hK5 := HK4.out.far (p := ⟨w.heap.size + 1, 1, none⟩) (by simp; omega) (.int .i64 (s.next + 1))
  generalize w4.setCell ⟨w.heap.size + 1, 1, none⟩ (.int .i64 (s.next + 1)) = w5 at hN5 HO5 HB5 hK5 ⊢
  have c0 := hN5.t4.cells 0 _ rfl
  have c1 := hN5.t4.cells 1 _ rfl
  have c2 := hN5.t4.cells 2 _ rfl
  have p0 := hK5.cells 0 _ rfl
  have p1 := hK5.cells 1 _ rfl
  have plt := hK5.lt
  have r0 := hN5.t7.cells 0 _ rfl
  have r1 := hN5.t7.cells 1 _ rfl
  have r2 := hN5.t7.cells 2 _ rfl
  have rf0 := hN5.t7.frozen 0
  have rf1 := hN5.t7.frozen 1
  have rf2 := hN5.t7.frozen 2
  have q0 := hN5.t8.cells 0 _ rfl
  have q1 := hN5.t8.cells 1 _ rfl
  have qf0 := hN5.t8.frozen 0
  have qf1 := hN5.t8.frozen 1
  have hlt5 := hN5.lt
  simp only [List.getElem_toArray, List.getElem_cons_zero, List.getElem_cons_succ] at c0 c1 c2 p0 p1 r0 r1 r2 q0 q1
  have HN5 := Lib.hid hN5
  clear hN5 HN4 HO4 HB4 HK4 hK5 cf
  go_region
  go_wp2_with (with_reducible refine end_at ?_)
  obtain ⟨e7, e8, o1, o2⟩ := rnext_end HN5.out HO5.out.1 HO5.out.2 (by omega) s.pos (s.next + 1) s.limit (.slice Ac p.sectors.length cc) (.slice Ac' p.cache.length cc')
  have l7 := src_load e7.drew
  have l8 := plat_load e8.drew
  have hbE : Below w.heap.size w (((((w5.setCell ⟨w.heap.size + 1 + 1, 0, none⟩ (.int .i64 s.pos)).setCell ⟨w.heap.size + 1 + 1, 1, none⟩ (.int .i64 (s.next + 1))).setCell ⟨w.heap.size + 1 + 1, 2, none⟩ (.int .i64 s.limit)).setCell ⟨w.heap.size + 1 + 1 + 1, 0, none⟩ (.slice Ac p.sectors.length cc)).setCell ⟨w.heap.size + 1 + 1 + 1, 1, none⟩ (.slice Ac' p.cache.length cc')) := ((((HB5.out.setCell (by simp; omega) _).setCell (by simp; omega) _).setCell (by simp; omega) _).setCell (by simp; omega) _).setCell (by simp; omega) _
  refine end_ret (v := .tuple #[.string (nonB s.next.toNat), .agg #[.int .i64 s.pos, .int .i64 (s.next + 1), .int .i64 s.limit], .agg #[.slice Ac p.sectors.length cc, .slice Ac' p.cache.length cc'], .int .i64 0]) (by simp [results, Tryd.results16, asAddr, l7, l8]) rfl ⟨_, rfl, ⟨Ac, cc, Ac', cc', rfl, (own_base o1 (by omega)).drew, (own_base o2 (by omega)).drew⟩, hbE.drew⟩
end Go.Proofs.YtefodifmfjpnlaaDoor
