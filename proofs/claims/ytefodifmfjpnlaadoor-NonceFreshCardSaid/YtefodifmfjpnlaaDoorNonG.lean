/- nonce: Next. -/
import Derived.Test.YtefodifmfjpnlaaDoorNonF
import Derived.Deep.DeepCutAuto
import Derived.BigRegion
set_option linter.unusedVariables false
namespace Go.Proofs.YtefodifmfjpnlaaDoor
open Go.RowKit
def nextN (p : Plat) (s : Src) (deeds : Int) : ByteArray × Src × Plat × Int :=
  if rightB s.next s.limit = false then (⟨#[]⟩, noSrc, noPlat, 1)
  else if s.next < s.limit then (nonB s.next.toNat, ⟨s.pos, s.next + 1, s.limit⟩, p, 0)
  else if 1000000000 < s.limit + 16 then (⟨#[]⟩, noSrc, noPlat, 150)
  else if (putF p s.pos (digB (s.limit.toNat + 16)) deeds).2.2 ≠ 0 then (⟨#[]⟩, noSrc, noPlat, (putF p s.pos (digB (s.limit.toNat + 16)) deeds).2.2)
  else if (putF p s.pos (digB (s.limit.toNat + 16)) deeds).2.1 = false then (⟨#[]⟩, s, (putF p s.pos (digB (s.limit.toNat + 16)) deeds).1, 0)
  else (nonB s.next.toNat, ⟨s.pos, s.next + 1, s.limit + 16⟩, (putF p s.pos (digB (s.limit.toNat + 16)) deeds).1, 0)
def srcC (s : Src) : Array Value := #[.int .i64 s.pos, .int .i64 s.next, .int .i64 s.limit]
/-- Next's boxes -/
structure NextAt (W : World) (g : Nat) (a b : Value) (s ws : Src) : Prop where
  t3 : Blk W g 25 #[a, b]
  t4 : Blk W (g + 1) 28 #[.int .i64 s.pos, .int .i64 s.next, .int .i64 s.limit]
  t7 : Blk W (g + 1 + 1) 28 #[.int .i64 0, .int .i64 0, .int .i64 0]
  t8 : Blk W (g + 1 + 1 + 1) 25 #[.slice none 0 0, .slice none 0 0]
  t10 : Blk W (g + 1 + 1 + 1 + 1) 56 #[.int .i64 ws.pos, .int .i64 ws.next, .int .i64 ws.limit]
theorem NextAt.lt {W : World} {g : Nat} {a b : Value} {s ws : Src} (h : NextAt W g a b s ws) : g + 1 + 1 + 1 + 1 < W.heap.size := h.t10.lt
theorem NextAt.below {W W' : World} {g : Nat} {a b : Value} {s ws : Src} (h : NextAt W g a b s ws) (hb : Below W.heap.size W W') : NextAt W' g a b s ws :=
  ⟨h.t3.below hb h.t3.lt, h.t4.below hb h.t4.lt, h.t7.below hb h.t7.lt, h.t8.below hb h.t8.lt, h.t10.below hb h.t10.lt⟩
theorem plat_load {W : World} {g : Nat} {a b : Value} (h : Blk W g 25 #[a, b]) : (loadVar 25 ⟨g, 0, none⟩).run Tryd.prog W = .ok (.agg #[a, b]) W :=
  run_loadVar_row (P := Tryd.prog) W g 25 25 #[a, b] (0, 0) _ h Tryd.underlying25 rfl (by kernel_rfl)
def NextOut (B : Nat) (r : ByteArray × Src × Plat × Int) (w : World) (e : Ending) (w' : World) : Prop :=
  ∃ v, e = .returned (.tuple #[.string r.1, srcV r.2.1, v, .int .i64 r.2.2.2]) ∧ PlatOut w' B v r.2.2.1 ∧ Below B w w'
def startW (w : World) (a b : Value) (s : Src) : World :=
  ((((w.alloc (.cells #[a, b] 25)).alloc (.cells #[.int .i64 s.pos, .int .i64 s.next, .int .i64 s.limit] 28)).alloc (.cells #[.int .i64 0, .int .i64 0, .int .i64 0] 28)).alloc (.cells #[.slice none 0 0, .slice none 0 0] 25)).alloc (.cells #[.int .i64 s.pos, .int .i64 s.next, .int .i64 s.limit] 56)
theorem next_start (w : World) (a b : Value) (s : Src) : NextAt (startW w a b s) w.heap.size a b s s := by
  unfold startW
  refine ⟨?_, ?_, ?_, ?_, ?_⟩
  · exact ((((Blk.new w _ _).alloc _).alloc _).alloc _).alloc _
  · exact (((Blk.new_at (by simp) _ _).alloc _).alloc _).alloc _
  · exact ((Blk.new_at (by simp) _ _).alloc _).alloc _
  · exact (Blk.new_at (by simp) _ _).alloc _
  · exact Blk.new_at (by simp) _ _
theorem start_below (w : World) (a b : Value) (s : Src) : Below w.heap.size w (startW w a b s) := by unfold startW; go_grown
/-- the result's boxes, set -/
theorem plat_set {W : World} {g : Nat} {x y : Value} (h : Blk W g 25 #[x, y]) (a b : Value) :
    Blk ((W.setCell ⟨g, 0, none⟩ a).setCell ⟨g, 1, none⟩ b) g 25 #[a, b] := (h.set_ 0 _).set_ 1 _
set_option maxRecDepth 100000 in
set_option maxHeartbeats 2000000 in
theorem next_bad (p : Plat) (s : Src) (deeds : Int) (A A' : Option Addr) (n m c d : Nat) (w : World) (h : rightB s.next s.limit = false) :
    Calls Tryd.prog 15 #[.agg #[.slice A n c, .slice A' m d], .agg #[.int .i64 s.pos, .int .i64 s.next, .int .i64 s.limit], .int .i64 deeds] w fun e w' => NextOut w.heap.size (⟨#[]⟩, noSrc, noPlat, 1) w e w' := by
  have HH := Lib.hid h
  clear h
  go_enter Tryd.func15, Tryd.ntmps15
  go_wp2_with fail
  have hN := next_start w (.slice A n c) (.slice A' m d) s
  have hB := start_below w (.slice A n c) (.slice A' m d) s
  unfold startW at hN hB
  refine (right_any (w.heap.size + 1 + 1 + 1 + 1) s.pos s.next s.limit _ hN.t10).mono ?_
  rintro e w1 ⟨rfl, hb1⟩
  have hN1 := hN.below hb1
  have hB1 := hB.trans (hb1.mono hB.size)
  rw [HH.out]
  clear hN hB hb1
  have r0 := hN1.t7.cells 0 _ rfl
  have r1 := hN1.t7.cells 1 _ rfl
  have r2 := hN1.t7.cells 2 _ rfl
  have rf := hN1.t7.frozen
  have q0 := hN1.t8.cells 0 _ rfl
  have q1 := hN1.t8.cells 1 _ rfl
  have qf := hN1.t8.frozen
  have hlt := hN1.lt
  simp only [List.getElem_toArray, List.getElem_cons_zero, List.getElem_cons_succ] at r0 r1 r2 q0 q1
  have HN1 := Lib.hid hN1
  clear hN1
  go_wp2_with (with_reducible refine end_at ?_)
  have e7 := src_set HN1.out.t7 0 0 0
  have e8 := plat_set ((((HN1.out.t8.far (p := ⟨w.heap.size + 1 + 1, 0, none⟩) (by simp) (.int .i64 0)).far (p := ⟨w.heap.size + 1 + 1, 1, none⟩) (by simp) (.int .i64 0)).far (p := ⟨w.heap.size + 1 + 1, 2, none⟩) (by simp) (.int .i64 0))) (.slice none 0 0) (.slice none 0 0)
  have e7' := (e7.far (p := ⟨w.heap.size + 1 + 1 + 1, 0, none⟩) (by simp) (.slice none 0 0)).far (p := ⟨w.heap.size + 1 + 1 + 1, 1, none⟩) (by simp) (.slice none 0 0)
  have l7 := src_load e7'
  have l8 := plat_load e8
  refine end_ret (v := .tuple #[.string ⟨#[]⟩, .agg #[.int .i64 0, .int .i64 0, .int .i64 0], .agg #[.slice none 0 0, .slice none 0 0], .int .i64 1]) (by simp [results, Tryd.results15, asAddr, l7, l8]) rfl ⟨_, rfl, PlatOut.none_ _ _, ?_⟩
  go_grown
theorem right_iff (b c : Int) : rightB b c = true ↔ 0 ≤ b ∧ b ≤ c ∧ c ≤ 1000000000 := by simp [rightB, and_assoc]
theorem nonF_in {n : Int} (h0 : 0 ≤ n) (h1 : n ≤ 1000000000) : nonF n = (nonB n.toNat, 0) := by unfold nonF; rw [if_pos ⟨h0, h1⟩]
theorem NextAt.set3 {W : World} {g : Nat} {a b : Value} {s ws : Src} (h : NextAt W g a b s ws) (a' b' : Value) : NextAt ((W.setCell ⟨g, 0, none⟩ a').setCell ⟨g, 1, none⟩ b') g a' b' s ws :=
  ⟨plat_set h.t3 a' b', (h.t4.far (by first | (simp; done) | (simp; omega)) _).far (by first | (simp; done) | (simp; omega)) _, (h.t7.far (by first | (simp; done) | (simp; omega)) _).far (by first | (simp; done) | (simp; omega)) _, (h.t8.far (by first | (simp; done) | (simp; omega)) _).far (by first | (simp; done) | (simp; omega)) _, (h.t10.far (by first | (simp; done) | (simp; omega)) _).far (by first | (simp; done) | (simp; omega)) _⟩
theorem NextAt.set10 {W : World} {g : Nat} {a b : Value} {s ws : Src} (h : NextAt W g a b s ws) (x : Int) : NextAt (W.setCell ⟨g + 1 + 1 + 1 + 1, 1, none⟩ (.int .i64 x)) g a b s ⟨ws.pos, x, ws.limit⟩ :=
  ⟨h.t3.far (by first | (simp; done) | (simp; omega)) _, h.t4.far (by first | (simp; done) | (simp; omega)) _, h.t7.far (by first | (simp; done) | (simp; omega)) _, h.t8.far (by first | (simp; done) | (simp; omega)) _, h.t10.set_ 1 _⟩
/-- the result's boxes, set, and what lies there -/
theorem next_end {W : World} {g B sz1 sz2 n1 n2 : Nat} {e1 e2 : TypeId} {a b x y : Value} {xs ys : List Value} {s ws : Src} (h : NextAt W g a b s ws) (h1 : W.ownsRow B e1 sz1 x n1 xs) (h2 : W.ownsRow B e2 sz2 y n2 ys) (hB : g + 1 + 1 + 1 + 1 < B) (u0 u1 u2 : Int) (p0 p1 : Value) :
    let W' := ((((W.setCell ⟨g + 1 + 1, 0, none⟩ (.int .i64 u0)).setCell ⟨g + 1 + 1, 1, none⟩ (.int .i64 u1)).setCell ⟨g + 1 + 1, 2, none⟩ (.int .i64 u2)).setCell ⟨g + 1 + 1 + 1, 0, none⟩ p0).setCell ⟨g + 1 + 1 + 1, 1, none⟩ p1
    Blk W' (g + 1 + 1) 28 #[.int .i64 u0, .int .i64 u1, .int .i64 u2] ∧ Blk W' (g + 1 + 1 + 1) 25 #[p0, p1] ∧ W'.ownsRow B e1 sz1 x n1 xs ∧ W'.ownsRow B e2 sz2 y n2 ys := by
  intro W'
  refine ⟨((src_set h.t7 u0 u1 u2).far (by simp) _).far (by simp) _, plat_set (((h.t8.far (by simp) _).far (by simp) _).far (by simp) _) p0 p1, ?_, ?_⟩
  · exact own_far (own_far (own_far (own_far (own_far h1 (fun e => absurd (World.ownsRow.lt h1 _ e).1 (by omega)) _ _) (fun e => absurd (World.ownsRow.lt h1 _ e).1 (by omega)) _ _) (fun e => absurd (World.ownsRow.lt h1 _ e).1 (by omega)) _ _) (fun e => absurd (World.ownsRow.lt h1 _ e).1 (by omega)) _ _) (fun e => absurd (World.ownsRow.lt h1 _ e).1 (by omega)) _ _
  · exact own_far (own_far (own_far (own_far (own_far h2 (fun e => absurd (World.ownsRow.lt h2 _ e).1 (by omega)) _ _) (fun e => absurd (World.ownsRow.lt h2 _ e).1 (by omega)) _ _) (fun e => absurd (World.ownsRow.lt h2 _ e).1 (by omega)) _ _) (fun e => absurd (World.ownsRow.lt h2 _ e).1 (by omega)) _ _) (fun e => absurd (World.ownsRow.lt h2 _ e).1 (by omega)) _ _
theorem own_set {w : World} {B g sz n : Nat} {e : TypeId} {v : Value} {xs : List Value} (h : w.ownsRow B e sz v n xs) (hg : g < B) (o : Nat) (u : Value) : (w.setCell ⟨g, o, none⟩ u).ownsRow B e sz v n xs :=
  own_far h (fun e => absurd (World.ownsRow.lt h g e).1 (by omega)) o u
set_option maxRecDepth 100000 in
set_option maxHeartbeats 4000000 in
theorem next_in (p : Plat) (s : Src) (deeds : Int) (A A' : Option Addr) (n m c d : Nat) (w : World) (hP : PlatAt w w.heap.size A n A' m p) (hn : n ≤ 1000) (hm : m ≤ 1000) (h : rightB s.next s.limit = true) (hlt : s.next < s.limit) :
    Calls Tryd.prog 15 #[.agg #[.slice A n c, .slice A' m d], .agg #[.int .i64 s.pos, .int .i64 s.next, .int .i64 s.limit], .int .i64 deeds] w fun e w' => NextOut w.heap.size (nonB s.next.toNat, ⟨s.pos, s.next + 1, s.limit⟩, p, 0) w e w' := by
  have HP := hP.pre
  obtain ⟨k0, k1, k2⟩ := (right_iff _ _).1 h
  have HH := Lib.hid h
  have HF := Lib.hid (nonF_in (n := s.next) k0 (by omega))
  have t1 : decide (s.next < s.limit) = true := by simp [hlt]
  clear h hP
  go_enter Tryd.func15, Tryd.ntmps15
  go_wp2_with fail
  have hN := next_start w (.slice A n c) (.slice A' m d) s
  have hB := start_below w (.slice A n c) (.slice A' m d) s
  unfold startW at hN hB
  refine (right_any (w.heap.size + 1 + 1 + 1 + 1) s.pos s.next s.limit _ hN.t10).mono ?_
  rintro e w1 ⟨rfl, hb1⟩
  have hN1 := hN.below hb1
  have hB1 := hB.trans (hb1.mono hB.size)
  rw [HH.out]
  clear hN hB hb1
  have s1 := hN1.t10.cells 1 _ rfl
  have s2 := hN1.t10.cells 2 _ rfl
  have p0 := hN1.t3.cells 0 _ rfl
  have p1 := hN1.t3.cells 1 _ rfl
  have hlt1 := hN1.lt
  simp only [List.getElem_toArray, List.getElem_cons_zero, List.getElem_cons_succ] at s1 s2 p0 p1
  have HN1 := Lib.hid hN1
  have HB1 := Lib.hid hB1
  clear hN1
  go_wp2_with fail
  refine (ncopied_any p A A' n m c d w1 (HP.step hB1) hn hm).mono ?_
  rintro e w2 ⟨v, rfl, hO, hb2⟩
  obtain ⟨Ac, cc, Ac', cc', rfl, ho1, ho2⟩ := hO
  have hN2 := HN1.out.below hb2
  have hB2 := hB1.trans (hb2.mono hB1.size)
  have HO := Lib.hid (And.intro ho1 ho2)
  have p0 := hN2.t3.cells 0 _ rfl
  have p1 := hN2.t3.cells 1 _ rfl
  have pf := hN2.t3.frozen
  have hlt2 := hN2.lt
  have hz2 := hb2.size
  simp only [List.getElem_toArray, List.getElem_cons_zero, List.getElem_cons_succ] at p0 p1
  have HN2 := Lib.hid hN2
  have HB2 := Lib.hid hB2
  clear hN2 hb2 ho1 ho2 s1 s2 HN1 hB2 hB1
  go_upto_region 15 with (fail)
  have HN3 := Lib.hid (HN2.out.set3 (.slice Ac p.sectors.length cc) (.slice Ac' p.cache.length cc'))
  have HO3 := Lib.hid (And.intro (own_set (own_set HO.out.1 (g := w.heap.size) (by omega) 0 (.slice Ac p.sectors.length cc)) (g := w.heap.size) (by omega) 1 (.slice Ac' p.cache.length cc')) (own_set (own_set HO.out.2 (g := w.heap.size) (by omega) 0 (.slice Ac p.sectors.length cc)) (g := w.heap.size) (by omega) 1 (.slice Ac' p.cache.length cc')))
  have HB3 := Lib.hid ((HB2.out.setCell (p := ⟨w.heap.size, 0, none⟩) (Nat.le_refl _) (.slice Ac p.sectors.length cc)).setCell (p := ⟨w.heap.size, 1, none⟩) (Nat.le_refl _) (.slice Ac' p.cache.length cc'))
  generalize (w2.setCell ⟨w.heap.size, 0, none⟩ (.slice Ac p.sectors.length cc)).setCell ⟨w.heap.size, 1, none⟩ (.slice Ac' p.cache.length cc') = w3 at HN3 HO3 HB3 ⊢
  clear HN2 HO HB2 p0 p1 pf
  have s1 := HN3.out.t10.cells 1 _ rfl
  have hlt3 := HN3.out.lt
  simp only [List.getElem_toArray, List.getElem_cons_zero, List.getElem_cons_succ] at s1
  go_wp2_with fail
  refine (bytes_any s.next w3).mono ?_
  rintro e w4 ⟨rfl, hb4⟩
  rw [HF.out]
  dsimp only
  have hN4 := HN3.out.below hb4
  have HB4 := Lib.hid (HB3.out.trans (hb4.mono HB3.out.size))
  have HO4 := Lib.hid (And.intro (own_below HO3.out.1 hb4 (Nat.le_refl _)) (own_below HO3.out.2 hb4 (Nat.le_refl _)))
  have s1 := hN4.t10.cells 1 _ rfl
  have sf := hN4.t10.frozen
  have hlt4 := hN4.lt
  have hz4 := hb4.size
  simp only [List.getElem_toArray, List.getElem_cons_zero, List.getElem_cons_succ] at s1
  have HN4 := Lib.hid hN4
  clear hN4 hb4 HN3 HB3 HO3
  go_upto_region 19 with (fail)
  have hN5 := HN4.out.set10 (s.next + 1)
  have HO5 := Lib.hid (And.intro (own_set HO4.out.1 (g := w.heap.size + 1 + 1 + 1 + 1) (by omega) 1 (.int .i64 (s.next + 1))) (own_set HO4.out.2 (g := w.heap.size + 1 + 1 + 1 + 1) (by omega) 1 (.int .i64 (s.next + 1))))
  have HB5 := Lib.hid (HB4.out.setCell (p := ⟨w.heap.size + 1 + 1 + 1 + 1, 1, none⟩) (by simp; omega) (.int .i64 (s.next + 1)))
  generalize w4.setCell ⟨w.heap.size + 1 + 1 + 1 + 1, 1, none⟩ (.int .i64 (s.next + 1)) = w5 at hN5 HO5 HB5 ⊢
  have c0 := hN5.t10.cells 0 _ rfl
  have c1 := hN5.t10.cells 1 _ rfl
  have c2 := hN5.t10.cells 2 _ rfl
  have p0 := hN5.t3.cells 0 _ rfl
  have p1 := hN5.t3.cells 1 _ rfl
  have r0 := hN5.t7.cells 0 _ rfl
  have r1 := hN5.t7.cells 1 _ rfl
  have r2 := hN5.t7.cells 2 _ rfl
  have rf0 := hN5.t7.frozen 0
  have rf1 := hN5.t7.frozen 1
  have rf2 := hN5.t7.frozen 2
  have q0 := hN5.t8.cells 0 _ rfl
  have q1 := hN5.t8.cells 1 _ rfl
  have qf0 := hN5.t8.frozen 0
  have qf1 := hN5.t8.frozen 1
  have hlt5 := hN5.lt
  simp only [List.getElem_toArray, List.getElem_cons_zero, List.getElem_cons_succ] at c0 c1 c2 p0 p1 r0 r1 r2 q0 q1
  have HN5 := Lib.hid hN5
  clear hN5 HN4 HO4 HB4 s1 sf
  go_region
  go_wp2_with (with_reducible refine end_at ?_)
  obtain ⟨e7, e8, o1, o2⟩ := next_end HN5.out HO5.out.1 HO5.out.2 (by omega) s.pos (s.next + 1) s.limit (.slice Ac p.sectors.length cc) (.slice Ac' p.cache.length cc')
  have l7 := src_load e7.drew
  have l8 := plat_load e8.drew
  have hbE : Below w.heap.size w (((((w5.setCell ⟨w.heap.size + 1 + 1, 0, none⟩ (.int .i64 s.pos)).setCell ⟨w.heap.size + 1 + 1, 1, none⟩ (.int .i64 (s.next + 1))).setCell ⟨w.heap.size + 1 + 1, 2, none⟩ (.int .i64 s.limit)).setCell ⟨w.heap.size + 1 + 1 + 1, 0, none⟩ (.slice Ac p.sectors.length cc)).setCell ⟨w.heap.size + 1 + 1 + 1, 1, none⟩ (.slice Ac' p.cache.length cc')) := ((((HB5.out.setCell (by simp; omega) _).setCell (by simp; omega) _).setCell (by simp; omega) _).setCell (by simp; omega) _).setCell (by simp; omega) _
  refine end_ret (v := .tuple #[.string (nonB s.next.toNat), .agg #[.int .i64 s.pos, .int .i64 (s.next + 1), .int .i64 s.limit], .agg #[.slice Ac p.sectors.length cc, .slice Ac' p.cache.length cc'], .int .i64 0]) (by simp [results, Tryd.results15, asAddr, l7, l8]) rfl ⟨_, rfl, ⟨Ac, cc, Ac', cc', rfl, (own_base o1 (by omega)).drew, (own_base o2 (by omega)).drew⟩, hbE.drew⟩
end Go.Proofs.YtefodifmfjpnlaaDoor
