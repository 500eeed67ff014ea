/- nonce: the document's Next that reserves. -/
import Derived.Test.YtefodifmfjpnlaaDoorNonI
import Derived.IntWalk
set_option linter.unusedVariables false
namespace Go.Proofs.YtefodifmfjpnlaaDoor
open Go.RowKit
theorem rdigits16 (L : Nat) (w : World) (h : L ≤ 1000000000) :
    Calls Tryd.prog 30 #[.int .i64 ((L : Int) + 16)] w fun e w' => e = .returned (.string (digB (L + 16))) ∧ Below w.heap.size w w' :=
  rdigits_any 10 (L + 16) w (by omega) (by omega)
/-- what a Put has left in a box of its own -/
def QDone (w1 : World) (gm : Nat) (q : Plat) (Aq Aq' : Option Addr) (cq cq' : Nat) (W : World) : Prop :=
  Blk W gm 25 #[.slice Aq q.sectors.length cq, .slice Aq' q.cache.length cq'] ∧ Below w1.heap.size w1 W ∧ w1.heap.size ≤ gm ∧
  W.ownsRow w1.heap.size 9 1 (.slice Aq q.sectors.length cq) q.sectors.length (flat encS q.sectors) ∧ W.ownsRow w1.heap.size 52 2 (.slice Aq' q.cache.length cq') q.cache.length (flat encP q.cache)
theorem qd_before {w1 W w3 : World} {gm : Nat} {z z' : Value} {q : Plat} {Aq Aq' : Option Addr} {cq cq' : Nat} (hb1 : Below w1.heap.size w1 W) (hZ : Blk w3 gm 25 #[z, z']) (hgm : w1.heap.size ≤ gm) (hgW : gm < W.heap.size) (hb3 : Below W.heap.size W w3)
    (h1 : w3.ownsRow W.heap.size 9 1 (.slice Aq q.sectors.length cq) q.sectors.length (flat encS q.sectors)) (h2 : w3.ownsRow W.heap.size 52 2 (.slice Aq' q.cache.length cq') q.cache.length (flat encP q.cache)) :
    QDone w1 gm q Aq Aq' cq cq' ((w3.setCell ⟨gm, 0, none⟩ (.slice Aq q.sectors.length cq)).setCell ⟨gm, 1, none⟩ (.slice Aq' q.cache.length cq')) :=
  ⟨plat_set hZ _ _, ((hb1.trans (hb3.mono hb1.size)).setCell (by simpa using hgm) _).setCell (by simpa using hgm) _, hgm, own_base (own_set (own_set h1 hgW _ _) hgW _ _) hb1.size, own_base (own_set (own_set h2 hgW _ _) hgW _ _) hb1.size⟩
theorem qd_after {w1 W w3 : World} {q : Plat} {Aq Aq' : Option Addr} {cq cq' : Nat} (hb1 : Below w1.heap.size w1 W) (hb3 : Below W.heap.size W w3)
    (h1 : w3.ownsRow W.heap.size 9 1 (.slice Aq q.sectors.length cq) q.sectors.length (flat encS q.sectors)) (h2 : w3.ownsRow W.heap.size 52 2 (.slice Aq' q.cache.length cq') q.cache.length (flat encP q.cache)) :
    QDone w1 w3.heap.size q Aq Aq' cq cq' (w3.alloc (.cells #[.slice Aq q.sectors.length cq, .slice Aq' q.cache.length cq'] 25)) := by
  have hb := hb1.trans (hb3.mono hb1.size)
  have hB : Below w1.heap.size w1 (w3.alloc (.cells #[.slice Aq q.sectors.length cq, .slice Aq' q.cache.length cq'] 25)) := by have := hb.size; go_grown
  have hB3 : Below w3.heap.size w3 (w3.alloc (.cells #[.slice Aq q.sectors.length cq, .slice Aq' q.cache.length cq'] 25)) := by go_grown
  exact ⟨Blk.new _ _ _, hB, hb.size, own_base (own_below h1 hB3 (Nat.le_refl _)) hb1.size, own_base (own_below h2 hB3 (Nat.le_refl _)) hb1.size⟩
theorem RNextAt.far2 {W : World} {g x : Nat} {a b : Value} {ws : Src} (h : RNextAt W g a b ws) (hx : g + 1 + 1 + 1 < x) (u v : Value) : RNextAt ((W.setCell ⟨x, 0, none⟩ u).setCell ⟨x, 1, none⟩ v) g a b ws :=
  ⟨(h.t3.far (by simp; omega) _).far (by simp; omega) _, (h.t4.far (by simp; omega) _).far (by simp; omega) _, (h.t7.far (by simp; omega) _).far (by simp; omega) _, (h.t8.far (by simp; omega) _).far (by simp; omega) _⟩
set_option maxRecDepth 100000 in
set_option maxHeartbeats 4000000 in
theorem rnext_put (p : Plat) (s : Src) (deeds : Int) (A A' : Option Addr) (n m c d : Nat) (w : World) (hP : PlatAt w w.heap.size A n A' m p) (hn : n ≤ 1000) (hm : m ≤ 1000) (h : rightB s.next s.limit = true) (hge : ¬ s.next < s.limit) (hfull : ¬ 1000000000 < s.limit + 16) :
    Calls Tryd.prog 16 #[.agg #[.slice A n c, .slice A' m d], .agg #[.int .i64 s.pos, .int .i64 s.next, .int .i64 s.limit], .int .i64 deeds] w fun e w' => NextOut w.heap.size (nextN p s deeds) w e w' := by
  obtain ⟨pos, nx, lim⟩ := s
  dsimp only at h hge hfull ⊢
  obtain ⟨k0, k1, k2⟩ := (right_iff _ _).1 h
  obtain ⟨L, rfl⟩ := Int.eq_ofNat_of_zero_le (show 0 ≤ lim by omega)
  have HP := hP.pre
  have t1 : decide (nx < 0) = false := by simp; omega
  have t2 : decide ((L : Int) < nx) = false := by simp; omega
  have t3 : decide (1000000000 < (L : Int)) = false := by simp; omega
  have t4 : (nx == (L : Int)) = true := by simp; omega
  have t5 : decide (1000000000 < (L : Int) + 16) = false := by simp; omega
  have HF := Lib.hid (nonF_in (n := nx) k0 (by omega))
  obtain ⟨X, hX⟩ : ∃ X, digB (L + 16) = X := ⟨_, rfl⟩
  obtain ⟨q, dn, er, hQ⟩ : ∃ a b c, putF p pos X deeds = (a, b, c) := ⟨_, _, _, rfl⟩
  obtain ⟨R, hR⟩ : ∃ R, nextN p ⟨pos, nx, L⟩ deeds = R := ⟨_, rfl⟩
  rw [hR]
  rw [nextN_put h hge hfull hX hQ] at hR
  have HX := Lib.hid hX
  have HQ := Lib.hid hQ
  have HR := Lib.hid hR
  have hL9 : L ≤ 1000000000 := by omega
  have hL16 : (L : Int) + 16 ≤ 1000000000 := by omega
  clear hR hQ hX
  clear h hP
  go_enter Tryd.func16, Tryd.ntmps16
  go_upto_region 1 with (fail)
  have hN := rnext_start w (.slice A n c) (.slice A' m d) ⟨pos, nx, L⟩
  have hB := rstart_below w (.slice A n c) (.slice A' m d) ⟨pos, nx, L⟩
  unfold rstartW at hN hB
  have HN := Lib.hid hN
  have HB := Lib.hid hB
  have b0 := hN.t3.cells 0 _ rfl
  have b1 := hN.t3.cells 1 _ rfl
  have c1 := hN.t4.cells 1 _ rfl
  have c2 := hN.t4.cells 2 _ rfl
  have hlt := hN.lt
  simp only [List.getElem_toArray, List.getElem_cons_zero, List.getElem_cons_succ] at b0 b1 c1 c2
  clear hN hB
  generalize (((w.alloc (.cells #[.slice A n c, .slice A' m d] 25)).alloc (.cells #[.int .i64 pos, .int .i64 nx, .int .i64 (L : Int)] 28)).alloc (.cells #[.int .i64 0, .int .i64 0, .int .i64 0] 28)).alloc (.cells #[.slice none 0 0, .slice none 0 0] 25) = w1 at *
  go_wp2_with fail
  refine (own13_any p A A' n m c d w1 (HP.step HB.out) hn hm).mono ?_
  rintro e w2 ⟨v, rfl, hO, hb2⟩
  obtain ⟨Ac, cc, Ac', cc', rfl, ho1, ho2⟩ := hO
  have hN2 := HN.out.below hb2
  have hz2 := hb2.size
  have hB2 := HB.out.trans (hb2.mono HB.out.size)
  have hA2 : Below w2.heap.size w2 (w2.alloc (.cells #[.slice Ac p.sectors.length cc, .slice Ac' p.cache.length cc'] 25)) := by go_grown
  have HN3 := Lib.hid (hN2.below hA2)
  have HK3 := Lib.hid (Blk.new w2 25 #[.slice Ac p.sectors.length cc, .slice Ac' p.cache.length cc'])
  have HO3 := Lib.hid (And.intro (own_below ho1 hA2 (Nat.le_refl _)) (own_below ho2 hA2 (Nat.le_refl _)))
  have HB3 := Lib.hid (hB2.trans (hA2.mono hB2.size))
  clear HN HB b0 b1 c1 c2 ho1 ho2 hb2 hN2 hB2
  go_upto_region 4 with (fail)
  clear hA2
  have hz3 : w1.heap.size < (w2.alloc (.cells #[.slice Ac p.sectors.length cc, .slice Ac' p.cache.length cc'] 25)).heap.size := by simp; omega
  generalize w2.alloc (.cells #[.slice Ac p.sectors.length cc, .slice Ac' p.cache.length cc'] 25) = w3 at *
  obtain ⟨g10, hg10⟩ : ∃ x, w2.heap.size = x := ⟨_, rfl⟩
  rw [hg10] at HK3 hz2 ⊢
  clear hg10
  have hg10 : g10 < w3.heap.size := HK3.out.lt
  have c2 := HN3.out.t4.cells 2 _ rfl
  have hlt3 := HN3.out.lt
  simp only [List.getElem_toArray, List.getElem_cons_zero, List.getElem_cons_succ] at c2
  have c1 := HN3.out.t4.cells 1 _ rfl
  simp only [List.getElem_toArray, List.getElem_cons_zero, List.getElem_cons_succ] at c1
  go_upto_region 7 with (fail)
  have HPP : Hid (∀ W, Below w3.heap.size w3 W → PlatAt W W.heap.size A n A' m p) := Lib.hid (fun W hb => HP.step (HB3.out.trans (hb.mono HB3.out.size)))
  have HS : Hid (∀ W, Below w3.heap.size w3 W → W.cell? ⟨w.heap.size, 0, none⟩ = some (.slice A n c) ∧ W.cell? ⟨w.heap.size, 1, none⟩ = some (.slice A' m d) ∧ W.cell? ⟨w.heap.size + 1, 0, none⟩ = some (.int .i64 pos) ∧ W.cell? ⟨w.heap.size + 1, 2, none⟩ = some (.int .i64 L)) := Lib.hid (fun W hb => by
    have hh := HN3.out.below hb
    exact ⟨hh.t3.cells 0 _ rfl, hh.t3.cells 1 _ rfl, hh.t4.cells 0 _ rfl, hh.t4.cells 2 _ rfl⟩)
  have hwr : IntKind.i64.wrap ((L : Int) + 16) = (L : Int) + 16 := IntWalk.i64_in _ (by omega)
  clear c1 c2
  go_cut [11, 12, 13] from 46 to 58 (fun s11 s12 s13 wx => ∃ (gm : Nat) (Aq Aq' : Option Addr) (cq cq' : Nat), s11 = .pointer (some ⟨gm, 0, none⟩) ∧ s12 = .bool dn ∧ s13 = .int .i64 er ∧ Hid (QDone w3 gm q Aq Aq' cq cq' wx))
  case first =>
    go_region_held3 (fun W => W.cell? ⟨w.heap.size, 0, none⟩ = some (.slice A n c) ∧ W.cell? ⟨w.heap.size, 1, none⟩ = some (.slice A' m d) ∧ W.cell? ⟨w.heap.size + 1, 0, none⟩ = some (.int .i64 pos) ∧ W.cell? ⟨w.heap.size + 1, 2, none⟩ = some (.int .i64 L))
      ((refine HS.out _ ?_; go_grown))
      (first
        | (go_at_call 30; (with_reducible refine Calls.mono (rdigits16 L w3.drew hL9) ?_); rintro e w4 ⟨rfl, hb4⟩; rw [HX.out]; have hB4 : Below w3.heap.size w3 w4 := Below.trans (by go_grown) (hb4.mono (by simp)); have hs4 := hB4.size)
        | (go_at_call 30; (with_reducible refine Calls.mono (rdigits16 L (w3.alloc (.cells #[.slice none 0 0, .slice none 0 0] 25)).drew hL9) ?_); rintro e w4 ⟨rfl, hb4⟩; rw [HX.out]; have hZ4 := (Blk.new w3 25 #[.slice none 0 0, .slice none 0 0]).drew.below hb4 (by simp); have hB4 : Below w3.heap.size w3 w4 := Below.trans (by go_grown) (hb4.mono (by simp)); have hs4 := hB4.size; have hz4 := hZ4.lt)
        | (go_at_call 29; (with_reducible refine Calls.mono (refput_any p pos X deeds A A' n m c d _ (HPP.out _ (by go_grown)) hn hm) ?_); intro e w5 h5; obtain ⟨v, he, hO5, hb5⟩ := h5; subst he; rw [HQ.out] at hO5 ⊢; dsimp only at hO5 ⊢; obtain ⟨Aq, cq, Aq', cq', hv, ho1, ho2⟩ := hO5; subst hv; have hB5 : Below w3.heap.size w3 w5 := Below.trans (by go_grown) (hb5.mono (by first | omega | (simp; omega))); have hs5 := hB5.size; (first | (have hZ3 := (Blk.new w4 25 #[.slice none 0 0, .slice none 0 0]).below hb5 (by simp); have k0 := hZ3.cells 0 _ rfl; have k1 := hZ3.cells 1 _ rfl; have kf := hZ3.frozen; have kl := hZ3.lt; simp only [List.getElem_toArray, List.getElem_cons_zero, List.getElem_cons_succ] at k0 k1) | (have hZ3 := hZ4.below hb5 hz4; have k0 := hZ3.cells 0 _ rfl; have k1 := hZ3.cells 1 _ rfl; have kf := hZ3.frozen; have kl := hZ3.lt; simp only [List.getElem_toArray, List.getElem_cons_zero, List.getElem_cons_succ] at k0 k1) | (have tokB : True := trivial))))
    all_goals go_wp2_with fail
    all_goals go_meet
    all_goals first
      | exact ⟨_, Aq, Aq', cq, cq', rfl, rfl, rfl, Lib.hid (qd_after hB4 hb5 ho1 ho2)⟩
      | exact ⟨_, Aq, Aq', cq, cq', rfl, rfl, rfl, Lib.hid (qd_before hB4 hZ3 (Nat.le_refl _) hz4 hb5 ho1 ho2)⟩
      | exact ⟨_, Aq, Aq', cq, cq', rfl, rfl, rfl, Lib.hid (qd_before (by go_grown) hZ3 hs4 (by simp) hb5 ho1 ho2)⟩
  case rest =>
    obtain ⟨gm, Aq, Aq', cq, cq', rfl, rfl, rfl, HPD⟩ := hcut
    have HNc := Lib.hid (HN3.out.below HPD.out.2.1)
    have HKc := Lib.hid HPD.out.1
    have HK10 := Lib.hid (HK3.out.below HPD.out.2.1 HK3.out.lt)
    have HBc := Lib.hid (HB3.out.trans (HPD.out.2.1.mono HB3.out.size))
    have HOc := Lib.hid HPD.out.2.2.2
    have hzc := HPD.out.2.1.size
    have hgm := HPD.out.2.2.1
    clear HPD HS HPP HB3 HN3 HK3 HO3 HX HQ HP hwr
    have r0 := HNc.out.t7.cells 0 _ rfl
    have r1 := HNc.out.t7.cells 1 _ rfl
    have r2 := HNc.out.t7.cells 2 _ rfl
    have rf := HNc.out.t7.frozen
    have q0 := HNc.out.t8.cells 0 _ rfl
    have q1 := HNc.out.t8.cells 1 _ rfl
    have qf := HNc.out.t8.frozen
    have k0c := HKc.out.cells 0 _ rfl
    have k1c := HKc.out.cells 1 _ rfl
    have klt := HKc.out.lt
    have hltc := HNc.out.lt
    simp only [List.getElem_toArray, List.getElem_cons_zero, List.getElem_cons_succ] at r0 r1 r2 q0 q1 k0c k1c
    by_cases he : er = 0
    · subst he
      cases dn
      · have hR2 : R = (⟨#[]⟩, ⟨pos, nx, L⟩, q, 0) := by rw [← HR.out]; rfl
        subst hR2
        clear HR rf qf
        have rf0 := HNc.out.t7.frozen 0
        have rf1 := HNc.out.t7.frozen 1
        have rf2 := HNc.out.t7.frozen 2
        have qf0 := HNc.out.t8.frozen 0
        have qf1 := HNc.out.t8.frozen 1
        have c0 := HNc.out.t4.cells 0 _ rfl
        have c1 := HNc.out.t4.cells 1 _ rfl
        have c2 := HNc.out.t4.cells 2 _ rfl
        simp only [List.getElem_toArray, List.getElem_cons_zero, List.getElem_cons_succ] at c0 c1 c2
        go_upto_region 11 with (fail)
        go_region
        go_wp2_with (with_reducible refine end_at ?_)
        obtain ⟨e7, e8, o1, o2⟩ := rnext_end HNc.out HOc.out.1 HOc.out.2 hlt3 pos nx L (.slice Aq q.sectors.length cq) (.slice Aq' q.cache.length cq')
        have l7 := src_load e7.drew
        have l8 := plat_load e8.drew
        have hbE : Below w.heap.size w (((((wc.setCell ⟨w.heap.size + 1 + 1, 0, none⟩ (.int .i64 pos)).setCell ⟨w.heap.size + 1 + 1, 1, none⟩ (.int .i64 nx)).setCell ⟨w.heap.size + 1 + 1, 2, none⟩ (.int .i64 L)).setCell ⟨w.heap.size + 1 + 1 + 1, 0, none⟩ (.slice Aq q.sectors.length cq)).setCell ⟨w.heap.size + 1 + 1 + 1, 1, none⟩ (.slice Aq' q.cache.length cq')) := ((((HBc.out.setCell (by simp; omega) _).setCell (by simp; omega) _).setCell (by simp; omega) _).setCell (by simp; omega) _).setCell (by simp; omega) _
        refine end_ret (v := .tuple #[.string ⟨#[]⟩, .agg #[.int .i64 pos, .int .i64 nx, .int .i64 L], .agg #[.slice Aq q.sectors.length cq, .slice Aq' q.cache.length cq'], .int .i64 0]) (by simp [results, Tryd.results16, asAddr, l7, l8]) rfl ⟨_, rfl, ⟨Aq, cq, Aq', cq', rfl, (own_base o1 (by omega)).drew, (own_base o2 (by omega)).drew⟩, hbE.drew⟩
      · have hR2 : R = (nonB nx.toNat, ⟨pos, nx + 1, (L : Int) + 16⟩, q, 0) := by rw [← HR.out]; rfl
        subst hR2
        clear HR rf qf r0 r1 r2 q0 q1
        have c2 := HNc.out.t4.cells 2 _ rfl
        have cf := HNc.out.t4.frozen
        simp only [List.getElem_toArray, List.getElem_cons_zero, List.getElem_cons_succ] at c2
        go_upto_region 13 with (fail)
        have HN2 := Lib.hid (HNc.out.set4b ((L : Int) + 16))
        have HO2 := Lib.hid (And.intro (own_set HOc.out.1 (g := w.heap.size + 1) (by omega) 2 (.int .i64 ((L : Int) + 16))) (own_set HOc.out.2 (g := w.heap.size + 1) (by omega) 2 (.int .i64 ((L : Int) + 16))))
        have HB2 := Lib.hid (HBc.out.setCell (p := ⟨w.heap.size + 1, 2, none⟩) (by simp) (.int .i64 ((L : Int) + 16)))
        have hK2 := HKc.out.far (p := ⟨w.heap.size + 1, 2, none⟩) (by simp; omega) (.int .i64 ((L : Int) + 16))
        have hT2 := HK10.out.far (p := ⟨w.heap.size + 1, 2, none⟩) (by simp; omega) (.int .i64 ((L : Int) + 16))
        have hz2 : w3.heap.size ≤ (wc.setCell ⟨w.heap.size + 1, 2, none⟩ (.int .i64 ((L : Int) + 16))).heap.size := by simpa using hzc
        generalize wc.setCell ⟨w.heap.size + 1, 2, none⟩ (.int .i64 ((L : Int) + 16)) = w4 at HN2 HO2 HB2 hK2 hT2 hz2 ⊢
        clear HNc HOc HBc HKc HK10 k0c k1c c2 cf hltc klt hzc
        have k0c := hK2.cells 0 _ rfl
        have k1c := hK2.cells 1 _ rfl
        have klt := hK2.lt
        have b0 := hT2.cells 0 _ rfl
        have b1 := hT2.cells 1 _ rfl
        have bf := hT2.frozen
        have blt := hT2.lt
        have hlt4 := HN2.out.lt
        simp only [List.getElem_toArray, List.getElem_cons_zero, List.getElem_cons_succ] at k0c k1c b0 b1
        have HT2 := Lib.hid hT2
        clear hK2 hT2
        go_upto_region 14 with (fail)
        have HN5 := Lib.hid (HN2.out.far2 (x := g10) (by omega) (.slice Aq q.sectors.length cq) (.slice Aq' q.cache.length cq'))
        have HO5 := Lib.hid (And.intro (own_set (own_set HO2.out.1 (g := g10) hg10 0 (.slice Aq q.sectors.length cq)) (g := g10) hg10 1 (.slice Aq' q.cache.length cq')) (own_set (own_set HO2.out.2 (g := g10) hg10 0 (.slice Aq q.sectors.length cq)) (g := g10) hg10 1 (.slice Aq' q.cache.length cq')))
        have HB5 := Lib.hid ((HB2.out.setCell (p := ⟨g10, 0, none⟩) (by simp; omega) (.slice Aq q.sectors.length cq)).setCell (p := ⟨g10, 1, none⟩) (by simp; omega) (.slice Aq' q.cache.length cq'))
        have HK5 := Lib.hid (plat_set HT2.out (.slice Aq q.sectors.length cq) (.slice Aq' q.cache.length cq'))
        have hz5 : w3.heap.size ≤ ((w4.setCell ⟨g10, 0, none⟩ (.slice Aq q.sectors.length cq)).setCell ⟨g10, 1, none⟩ (.slice Aq' q.cache.length cq')).heap.size := by simpa using hz2
        generalize (w4.setCell ⟨g10, 0, none⟩ (.slice Aq q.sectors.length cq)).setCell ⟨g10, 1, none⟩ (.slice Aq' q.cache.length cq') = w5 at HN5 HO5 HB5 HK5 hz5 ⊢
        clear HN2 HO2 HB2 HT2 k0c k1c klt b0 b1 bf blt hz2
        have c1 := HN5.out.t4.cells 1 _ rfl
        have hlt5 := HN5.out.lt
        simp only [List.getElem_toArray, List.getElem_cons_zero, List.getElem_cons_succ] at c1
        go_wp2_with fail
        refine (rbytes_any nx w5).mono ?_
        rintro e w6 ⟨rfl, hb6⟩
        rw [HF.out]
        dsimp only
        have hN6 := HN5.out.below hb6
        have HB6 := Lib.hid (HB5.out.trans (hb6.mono HB5.out.size))
        have HO6 := Lib.hid (And.intro (own_below HO5.out.1 hb6 (Nat.le_refl _)) (own_below HO5.out.2 hb6 (Nat.le_refl _)))
        have HK6 := Lib.hid (HK5.out.below hb6 HK5.out.lt)
        have c1 := hN6.t4.cells 1 _ rfl
        have cf := hN6.t4.frozen
        have hlt6 := hN6.lt
        have hz6 := hb6.size
        simp only [List.getElem_toArray, List.getElem_cons_zero, List.getElem_cons_succ] at c1
        have HN6 := Lib.hid hN6
        clear hN6 hb6 HN5 HB5 HO5 HK5
        go_upto_region 16 with (fail)
        have hN7 := HN6.out.set4 (nx + 1)
        have HO7 := Lib.hid (And.intro (own_set HO6.out.1 (g := w.heap.size + 1) (by omega) 1 (.int .i64 (nx + 1))) (own_set HO6.out.2 (g := w.heap.size + 1) (by omega) 1 (.int .i64 (nx + 1))))
        have HB7 := Lib.hid (HB6.out.setCell (p := ⟨w.heap.size + 1, 1, none⟩) (by simp) (.int .i64 (nx + 1)))
        have hK7 := HK6.out.far (p := ⟨w.heap.size + 1, 1, none⟩) (by simp; omega) (.int .i64 (nx + 1))
        generalize w6.setCell ⟨w.heap.size + 1, 1, none⟩ (.int .i64 (nx + 1)) = w7 at hN7 HO7 HB7 hK7 ⊢
        have c0 := hN7.t4.cells 0 _ rfl
        have c1 := hN7.t4.cells 1 _ rfl
        have c2 := hN7.t4.cells 2 _ rfl
        have p0 := hK7.cells 0 _ rfl
        have p1 := hK7.cells 1 _ rfl
        have plt := hK7.lt
        have r0 := hN7.t7.cells 0 _ rfl
        have r1 := hN7.t7.cells 1 _ rfl
        have r2 := hN7.t7.cells 2 _ rfl
        have rf0 := hN7.t7.frozen 0
        have rf1 := hN7.t7.frozen 1
        have rf2 := hN7.t7.frozen 2
        have q0 := hN7.t8.cells 0 _ rfl
        have q1 := hN7.t8.cells 1 _ rfl
        have qf0 := hN7.t8.frozen 0
        have qf1 := hN7.t8.frozen 1
        have hlt7 := hN7.lt
        simp only [List.getElem_toArray, List.getElem_cons_zero, List.getElem_cons_succ] at c0 c1 c2 p0 p1 r0 r1 r2 q0 q1
        have HN7 := Lib.hid hN7
        clear hN7 HN6 HO6 HB6 HK6 hK7 cf
        go_region
        go_wp2_with (with_reducible refine end_at ?_)
        obtain ⟨e7, e8, o1, o2⟩ := rnext_end HN7.out HO7.out.1 HO7.out.2 hlt3 pos (nx + 1) ((L : Int) + 16) (.slice Aq q.sectors.length cq) (.slice Aq' q.cache.length cq')
        have l7 := src_load e7.drew
        have l8 := plat_load e8.drew
        have hbE : Below w.heap.size w (((((w7.setCell ⟨w.heap.size + 1 + 1, 0, none⟩ (.int .i64 pos)).setCell ⟨w.heap.size + 1 + 1, 1, none⟩ (.int .i64 (nx + 1))).setCell ⟨w.heap.size + 1 + 1, 2, none⟩ (.int .i64 ((L : Int) + 16))).setCell ⟨w.heap.size + 1 + 1 + 1, 0, none⟩ (.slice Aq q.sectors.length cq)).setCell ⟨w.heap.size + 1 + 1 + 1, 1, none⟩ (.slice Aq' q.cache.length cq')) := ((((HB7.out.setCell (by simp; omega) _).setCell (by simp; omega) _).setCell (by simp; omega) _).setCell (by simp; omega) _).setCell (by simp; omega) _
        refine end_ret (v := .tuple #[.string (nonB nx.toNat), .agg #[.int .i64 pos, .int .i64 (nx + 1), .int .i64 ((L : Int) + 16)], .agg #[.slice Aq q.sectors.length cq, .slice Aq' q.cache.length cq'], .int .i64 0]) (by simp [results, Tryd.results16, asAddr, l7, l8]) rfl ⟨_, rfl, ⟨Aq, cq, Aq', cq', rfl, (own_base o1 (by omega)).drew, (own_base o2 (by omega)).drew⟩, hbE.drew⟩
    · have hR2 : R = (⟨#[]⟩, noSrc, noPlat, er) := by rw [← HR.out, if_pos he]
      subst hR2
      clear HR
      have n1 : (er != 0) = true := by simp [he]
      go_wp2_with (with_reducible refine end_at ?_)
      obtain ⟨e7, e8, _, _⟩ := rnext_end (e1 := 0) (e2 := 0) (sz1 := 1) (sz2 := 1) HNc.out (World.ownsRow_nil wc wc.heap.size _ _) (World.ownsRow_nil wc wc.heap.size _ _) (by omega) 0 0 0 (.slice none 0 0) (.slice none 0 0)
      have l7 := src_load e7
      have l8 := plat_load e8
      refine end_ret (v := .tuple #[.string ⟨#[]⟩, .agg #[.int .i64 0, .int .i64 0, .int .i64 0], .agg #[.slice none 0 0, .slice none 0 0], .int .i64 er]) (by simp [results, Tryd.results16, asAddr, l7, l8]) rfl ⟨_, rfl, PlatOut.none_ _ _, ?_⟩
      exact ((((HBc.out.setCell (by simp; omega) _).setCell (by simp; omega) _).setCell (by simp; omega) _).setCell (by simp; omega) _).setCell (by simp; omega) _
theorem rnext_any (p : Plat) (s : Src) (deeds : Int) (A A' : Option Addr) (n m c d : Nat) (w : World) (hP : PlatAt w w.heap.size A n A' m p) (hn : n ≤ 1000) (hm : m ≤ 1000) :
    Calls Tryd.prog 16 #[.agg #[.slice A n c, .slice A' m d], .agg #[.int .i64 s.pos, .int .i64 s.next, .int .i64 s.limit], .int .i64 deeds] w fun e w' => NextOut w.heap.size (nextN p s deeds) w e w' := by
  cases h : rightB s.next s.limit
  · have e : nextN p s deeds = (⟨#[]⟩, noSrc, noPlat, 1) := by unfold nextN; rw [if_pos h]
    rw [e]
    exact rnext_bad p s deeds A A' n m c d w h
  · by_cases h1 : s.next < s.limit
    · have e : nextN p s deeds = (nonB s.next.toNat, ⟨s.pos, s.next + 1, s.limit⟩, p, 0) := by unfold nextN; rw [if_neg (by rw [h]; decide), if_pos h1]
      rw [e]
      exact rnext_in p s deeds A A' n m c d w hP hn hm h h1
    · by_cases h2 : 1000000000 < s.limit + 16
      · have e : nextN p s deeds = (⟨#[]⟩, noSrc, noPlat, 150) := by unfold nextN; rw [if_neg (by rw [h]; decide), if_neg h1, if_pos h2]
        rw [e]
        exact rnext_full p s deeds A A' n m c d w hP hn hm h h1 h2
      · exact rnext_put p s deeds A A' n m c d w hP hn hm h h1 h2
end Go.Proofs.YtefodifmfjpnlaaDoor
