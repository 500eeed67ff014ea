/- nonce: Next that reserves. -/
import Derived.Test.YtefodifmfjpnlaaDoorNonG
import Derived.Deep.RegionHeld3
set_option linter.unusedVariables false
namespace Go.Proofs.YtefodifmfjpnlaaDoor
open Go.RowKit
set_option maxRecDepth 100000 in
set_option maxHeartbeats 4000000 in
theorem next_full (p : Plat) (s : Src) (deeds : Int) (A A' : Option Addr) (n m c d : Nat) (w : World) (h : rightB s.next s.limit = true) (hge : ¬ s.next < s.limit) (hfull : 1000000000 < s.limit + 16) :
    Calls Tryd.prog 15 #[.agg #[.slice A n c, .slice A' m d], .agg #[.int .i64 s.pos, .int .i64 s.next, .int .i64 s.limit], .int .i64 deeds] w fun e w' => NextOut w.heap.size (⟨#[]⟩, noSrc, noPlat, 150) w e w' := by
  obtain ⟨k0, k1, k2⟩ := (right_iff _ _).1 h
  have HH := Lib.hid h
  have t1 : decide (s.next < s.limit) = false := by simp; omega
  have t2 : decide (1000000000 < s.limit + 16) = true := by simp; omega
  clear h
  go_enter Tryd.func15, Tryd.ntmps15
  go_wp2_with fail
  have hN := next_start w (.slice A n c) (.slice A' m d) s
  have hB := start_below w (.slice A n c) (.slice A' m d) s
  unfold startW at hN hB
  refine (right_any (w.heap.size + 1 + 1 + 1 + 1) s.pos s.next s.limit _ hN.t10).mono ?_
  rintro e w1 ⟨rfl, hb1⟩
  have hN1 := hN.below hb1
  have hB1 := hB.trans (hb1.mono hB.size)
  rw [HH.out]
  clear hN hB hb1
  have s1 := hN1.t10.cells 1 _ rfl
  have s2 := hN1.t10.cells 2 _ rfl
  have r0 := hN1.t7.cells 0 _ rfl
  have r1 := hN1.t7.cells 1 _ rfl
  have r2 := hN1.t7.cells 2 _ rfl
  have rf := hN1.t7.frozen
  have q0 := hN1.t8.cells 0 _ rfl
  have q1 := hN1.t8.cells 1 _ rfl
  have qf := hN1.t8.frozen
  have hlt := hN1.lt
  simp only [List.getElem_toArray, List.getElem_cons_zero, List.getElem_cons_succ] at s1 s2 r0 r1 r2 q0 q1
  have HN1 := Lib.hid hN1
  clear hN1
  go_wp2_with (with_reducible refine end_at ?_)
  obtain ⟨e7, e8, _, _⟩ := next_end (e1 := 0) (e2 := 0) (sz1 := 1) (sz2 := 1) HN1.out (World.ownsRow_nil w1 w1.heap.size _ _) (World.ownsRow_nil w1 w1.heap.size _ _) (by omega) 0 0 0 (.slice none 0 0) (.slice none 0 0)
  have l7 := src_load e7
  have l8 := plat_load e8
  refine end_ret (v := .tuple #[.string ⟨#[]⟩, .agg #[.int .i64 0, .int .i64 0, .int .i64 0], .agg #[.slice none 0 0, .slice none 0 0], .int .i64 150]) (by simp [results, Tryd.results15, asAddr, l7, l8]) rfl ⟨_, rfl, PlatOut.none_ _ _, ?_⟩
  go_grown
theorem nbel_one {b d : World} (h : Below b.drew.heap.size b.drew d) : Below b.heap.size b d := ⟨h.os, h.tape, h.output, h.size, h.block⟩
/-- what a Put has left: its result in a box, beside Next's boxes -/
def NPutDone (w1 : World) (g : Nat) (a b : Value) (s ws : Src) (gm : Nat) (q : Plat) (Aq Aq' : Option Addr) (cq cq' : Nat) (W : World) : Prop :=
  NextAt W g a b s ws ∧ Blk W gm 25 #[.slice Aq q.sectors.length cq, .slice Aq' q.cache.length cq'] ∧ Below w1.heap.size w1 W ∧ w1.heap.size ≤ gm ∧
  W.ownsRow w1.heap.size 9 1 (.slice Aq q.sectors.length cq) q.sectors.length (flat encS q.sectors) ∧ W.ownsRow w1.heap.size 52 2 (.slice Aq' q.cache.length cq') q.cache.length (flat encP q.cache)
theorem npd_before {w1 W w3 : World} {g gm : Nat} {a b z z' : Value} {s ws : Src} {q : Plat} {Aq Aq' : Option Addr} {cq cq' : Nat} (hN : Hid (NextAt w1 g a b s ws)) (hb1 : Below w1.heap.size w1 W) (hZ : Blk w3 gm 25 #[z, z']) (hgm : w1.heap.size ≤ gm) (hgW : gm < W.heap.size) (hb3 : Below W.heap.size W w3)
    (h1 : w3.ownsRow W.heap.size 9 1 (.slice Aq q.sectors.length cq) q.sectors.length (flat encS q.sectors)) (h2 : w3.ownsRow W.heap.size 52 2 (.slice Aq' q.cache.length cq') q.cache.length (flat encP q.cache)) :
    NPutDone w1 g a b s ws gm q Aq Aq' cq cq' ((w3.setCell ⟨gm, 0, none⟩ (.slice Aq q.sectors.length cq)).setCell ⟨gm, 1, none⟩ (.slice Aq' q.cache.length cq')) := by
  have hB : Below w1.heap.size w1 ((w3.setCell ⟨gm, 0, none⟩ (.slice Aq q.sectors.length cq)).setCell ⟨gm, 1, none⟩ (.slice Aq' q.cache.length cq')) := ((hb1.trans (hb3.mono hb1.size)).setCell (by simpa using hgm) _).setCell (by simpa using hgm) _
  exact ⟨hN.out.below hB, plat_set hZ _ _, hB, hgm, own_base (own_set (own_set h1 hgW _ _) hgW _ _) hb1.size, own_base (own_set (own_set h2 hgW _ _) hgW _ _) hb1.size⟩
theorem npd_after {w1 W w3 : World} {g : Nat} {a b : Value} {s ws : Src} {q : Plat} {Aq Aq' : Option Addr} {cq cq' : Nat} (hN : Hid (NextAt w1 g a b s ws)) (hb1 : Below w1.heap.size w1 W) (hb3 : Below W.heap.size W w3)
    (h1 : w3.ownsRow W.heap.size 9 1 (.slice Aq q.sectors.length cq) q.sectors.length (flat encS q.sectors)) (h2 : w3.ownsRow W.heap.size 52 2 (.slice Aq' q.cache.length cq') q.cache.length (flat encP q.cache)) :
    NPutDone w1 g a b s ws w3.heap.size q Aq Aq' cq cq' (w3.alloc (.cells #[.slice Aq q.sectors.length cq, .slice Aq' q.cache.length cq'] 25)) := by
  have hb := hb1.trans (hb3.mono hb1.size)
  have hB : Below w1.heap.size w1 (w3.alloc (.cells #[.slice Aq q.sectors.length cq, .slice Aq' q.cache.length cq'] 25)) := by have := hb.size; go_grown
  have hB3 : Below w3.heap.size w3 (w3.alloc (.cells #[.slice Aq q.sectors.length cq, .slice Aq' q.cache.length cq'] 25)) := by go_grown
  exact ⟨hN.out.below hB, Blk.new _ _ _, hB, hb.size, own_base (own_below h1 hB3 (Nat.le_refl _)) hb1.size, own_base (own_below h2 hB3 (Nat.le_refl _)) hb1.size⟩
theorem nextN_put {p q : Plat} {pos nx deeds er : Int} {L : Nat} {X : ByteArray} {dn : Bool} (h : rightB nx (L : Int) = true) (hge : ¬ nx < (L : Int)) (hfull : ¬ 1000000000 < (L : Int) + 16) (hX : digB (L + 16) = X) (hQ : putF p pos X deeds = (q, dn, er)) :
    nextN p ⟨pos, nx, L⟩ deeds = if er ≠ 0 then (⟨#[]⟩, noSrc, noPlat, er) else if dn = false then (⟨#[]⟩, ⟨pos, nx, L⟩, q, 0) else (nonB nx.toNat, ⟨pos, nx + 1, (L : Int) + 16⟩, q, 0) := by
  unfold nextN
  dsimp only
  rw [if_neg (by rw [h]; decide), if_neg hge, if_neg hfull]
  simp only [Int.toNat_natCast, hX, hQ]
theorem NextAt.set10b {W : World} {g : Nat} {a b : Value} {s ws : Src} (h : NextAt W g a b s ws) (x : Int) : NextAt (W.setCell ⟨g + 1 + 1 + 1 + 1, 2, none⟩ (.int .i64 x)) g a b s ⟨ws.pos, ws.next, x⟩ :=
  ⟨h.t3.far (by first | (simp; done) | (simp; omega)) _, h.t4.far (by first | (simp; done) | (simp; omega)) _, h.t7.far (by first | (simp; done) | (simp; omega)) _, h.t8.far (by first | (simp; done) | (simp; omega)) _, h.t10.set_ 2 _⟩
set_option maxRecDepth 100000 in
set_option maxHeartbeats 4000000 in
theorem next_put (p : Plat) (s : Src) (deeds : Int) (A A' : Option Addr) (n m c d : Nat) (w : World) (hP : PlatAt w w.heap.size A n A' m p) (hG : Pows w) (h : rightB s.next s.limit = true) (hge : ¬ s.next < s.limit) (hfull : ¬ 1000000000 < s.limit + 16) :
    Calls Tryd.prog 15 #[.agg #[.slice A n c, .slice A' m d], .agg #[.int .i64 s.pos, .int .i64 s.next, .int .i64 s.limit], .int .i64 deeds] w fun e w' => NextOut w.heap.size (nextN p s deeds) w e w' := by
  obtain ⟨pos, nx, lim⟩ := s
  dsimp only at h hge hfull ⊢
  obtain ⟨k0, k1, k2⟩ := (right_iff _ _).1 h
  obtain ⟨L, rfl⟩ := Int.eq_ofNat_of_zero_le (show 0 ≤ lim by omega)
  have HP := hP.pre
  have HH := Lib.hid h
  have HF := Lib.hid (nonF_in (n := nx) k0 (by omega))
  have t1 : decide (nx < (L : Int)) = false := by simp; omega
  have t2 : decide (1000000000 < (L : Int) + 16) = false := by simp; omega
  obtain ⟨X, hX⟩ : ∃ X, digB (L + 16) = X := ⟨_, rfl⟩
  obtain ⟨q, dn, er, hQ⟩ : ∃ a b c, putF p pos X deeds = (a, b, c) := ⟨_, _, _, rfl⟩
  obtain ⟨R, hR⟩ : ∃ R, nextN p ⟨pos, nx, L⟩ deeds = R := ⟨_, rfl⟩
  rw [hR]
  rw [nextN_put h hge hfull hX hQ] at hR
  have hL9 : L ≤ 1000000000 := by omega
  have HX := Lib.hid hX
  have HQ := Lib.hid hQ
  have HR := Lib.hid hR
  have HG := Lib.hid hG
  have hL16 : (L : Int) + 16 ≤ 1000000000 := by omega
  clear h hP hX hQ hR hG
  go_enter Tryd.func15, Tryd.ntmps15
  go_wp2_with fail
  have hN := next_start w (.slice A n c) (.slice A' m d) ⟨pos, nx, L⟩
  have hB := start_below w (.slice A n c) (.slice A' m d) ⟨pos, nx, L⟩
  unfold startW at hN hB
  refine (right_any (w.heap.size + 1 + 1 + 1 + 1) pos nx (L : Int) _ hN.t10).mono ?_
  rintro e w1 ⟨rfl, hb1⟩
  have hN1 := hN.below hb1
  have hB1 := hB.trans (hb1.mono hB.size)
  rw [HH.out]
  clear hN hB hb1
  have s0 := hN1.t10.cells 0 _ rfl
  have s1 := hN1.t10.cells 1 _ rfl
  have s2 := hN1.t10.cells 2 _ rfl
  have p0 := hN1.t3.cells 0 _ rfl
  have p1 := hN1.t3.cells 1 _ rfl
  have hlt := hN1.lt
  simp only [List.getElem_toArray, List.getElem_cons_zero, List.getElem_cons_succ] at s0 s1 s2 p0 p1
  have HN1 := Lib.hid hN1
  have HB1 := Lib.hid hB1
  have ht10 := hN1.t10
  have HPW : Hid (∀ W, Below w1.heap.size w1 W → Pows W) := Lib.hid (fun W hb => HG.out.below (hB1.trans (hb.mono hB1.size)))
  have HT1 : Hid (Blk w1.drew (w.heap.size + 1 + 1 + 1 + 1) 56 #[.int .i64 pos, .int .i64 nx, .int .i64 L] ∧ Pows w1.drew) := Lib.hid ⟨ht10.drew, HPW.out _ (Below.refl _ _).drew⟩
  have HT2 : Hid (Blk (w1.alloc (.cells #[.slice none 0 0, .slice none 0 0] 25)).drew (w.heap.size + 1 + 1 + 1 + 1) 56 #[.int .i64 pos, .int .i64 nx, .int .i64 L] ∧ Pows (w1.alloc (.cells #[.slice none 0 0, .slice none 0 0] 25)).drew) := Lib.hid ⟨(ht10.alloc _).drew, HPW.out _ (by go_grown)⟩
  have HPP : Hid (∀ W, Below w1.heap.size w1 W → PlatAt W W.heap.size A n A' m p) := Lib.hid (fun W hb => HP.step (hB1.trans (hb.mono hB1.size)))
  have HS : Hid (∀ W, Below w1.heap.size w1 W → W.cell? ⟨w.heap.size, 0, none⟩ = some (.slice A n c) ∧ W.cell? ⟨w.heap.size, 1, none⟩ = some (.slice A' m d) ∧ W.cell? ⟨w.heap.size + 1 + 1 + 1 + 1, 0, none⟩ = some (.int .i64 pos)) := Lib.hid (fun W hb => by
    have hh := hN1.below hb
    exact ⟨hh.t3.cells 0 _ rfl, hh.t3.cells 1 _ rfl, hh.t10.cells 0 _ rfl⟩)
  clear hN1 hB1 ht10
  go_upto_region 8 with (fail)
  go_cut [11, 12, 13] from 39 to 48 (fun s11 s12 s13 wx => ∃ (gm : Nat) (Aq Aq' : Option Addr) (cq cq' : Nat), s11 = .pointer (some ⟨gm, 0, none⟩) ∧ s12 = .bool dn ∧ s13 = .int .i64 er ∧ Hid (NPutDone w1 w.heap.size (.slice A n c) (.slice A' m d) ⟨pos, nx, L⟩ ⟨pos, nx, L⟩ gm q Aq Aq' cq cq' wx))
  case first =>
    go_region_held3 (fun W => W.cell? ⟨w.heap.size, 0, none⟩ = some (.slice A n c) ∧ W.cell? ⟨w.heap.size, 1, none⟩ = some (.slice A' m d) ∧ W.cell? ⟨w.heap.size + 1 + 1 + 1 + 1, 0, none⟩ = some (.int .i64 pos))
      ((refine HS.out _ ?_; go_grown))
      (first
        | (go_at_call 28; (with_reducible refine Calls.mono (ntext_any (w.heap.size + 1 + 1 + 1 + 1) pos nx L _ HT1.out.1 hL9 HT1.out.2) ?_); rintro e w2 ⟨rfl, hb2⟩; rw [HX.out]; have hB2 : Below w1.heap.size w1 w2 := Below.trans (by go_grown) (hb2.mono (by simp)); have hs2 := hB2.size)
        | (go_at_call 28; (with_reducible refine Calls.mono (ntext_any (w.heap.size + 1 + 1 + 1 + 1) pos nx L _ HT2.out.1 hL9 HT2.out.2) ?_); rintro e w2 ⟨rfl, hb2⟩; rw [HX.out]; have hZ2 := (Blk.new w1 25 #[.slice none 0 0, .slice none 0 0]).drew.below hb2 (by simp); have hB2 : Below w1.heap.size w1 w2 := Below.trans (by go_grown) (hb2.mono (by simp)); have hs2 := hB2.size; have hz2 := hZ2.lt)
        | (go_at_call 27; (with_reducible refine Calls.mono (put_any p pos X deeds A A' n m c d _ (HPP.out _ (by go_grown))) ?_); intro e w3 h3; obtain ⟨v, he, hO3, hb3⟩ := h3; subst he; rw [HQ.out] at hO3 ⊢; dsimp only at hO3 ⊢; obtain ⟨Aq, cq, Aq', cq', hv, ho1, ho2⟩ := hO3; subst hv; have hB3 : Below w1.heap.size w1 w3 := Below.trans (by go_grown) (hb3.mono (by first | omega | (simp; omega))); have hs3 := hB3.size; (first | (have hZ3 := (Blk.new w2 25 #[.slice none 0 0, .slice none 0 0]).below hb3 (by simp); have k0 := hZ3.cells 0 _ rfl; have k1 := hZ3.cells 1 _ rfl; have kf := hZ3.frozen; have kl := hZ3.lt; simp only [List.getElem_toArray, List.getElem_cons_zero, List.getElem_cons_succ] at k0 k1) | (have hZ3 := hZ2.below hb3 hz2; have k0 := hZ3.cells 0 _ rfl; have k1 := hZ3.cells 1 _ rfl; have kf := hZ3.frozen; have kl := hZ3.lt; simp only [List.getElem_toArray, List.getElem_cons_zero, List.getElem_cons_succ] at k0 k1) | (have tokB : True := trivial))))
    all_goals go_wp2_with fail
    all_goals go_meet
    all_goals first
      | exact ⟨_, Aq, Aq', cq, cq', rfl, rfl, rfl, Lib.hid (npd_after HN1 hB2 hb3 ho1 ho2)⟩
      | exact ⟨_, Aq, Aq', cq, cq', rfl, rfl, rfl, Lib.hid (npd_before HN1 hB2 hZ3 (Nat.le_refl _) hz2 hb3 ho1 ho2)⟩
      | exact ⟨_, Aq, Aq', cq, cq', rfl, rfl, rfl, Lib.hid (npd_before HN1 (by go_grown) hZ3 hs2 (by simp) hb3 ho1 ho2)⟩
  case rest =>
    obtain ⟨gm, Aq, Aq', cq, cq', rfl, rfl, rfl, HPD⟩ := hcut
    have HNc := Lib.hid HPD.out.1
    have HKc := Lib.hid HPD.out.2.1
    have HBc := Lib.hid (HB1.out.trans (HPD.out.2.2.1.mono HB1.out.size))
    have HOc := Lib.hid HPD.out.2.2.2.2
    have hzc := HPD.out.2.2.1.size
    have hgm := HPD.out.2.2.2.1
    clear HPD HS HPP HT1 HT2 HPW HB1 HN1 s0 s1 s2 p0 p1 HG HX HQ HP
    have r0 := HNc.out.t7.cells 0 _ rfl
    have r1 := HNc.out.t7.cells 1 _ rfl
    have r2 := HNc.out.t7.cells 2 _ rfl
    have rf := HNc.out.t7.frozen
    have q0 := HNc.out.t8.cells 0 _ rfl
    have q1 := HNc.out.t8.cells 1 _ rfl
    have qf := HNc.out.t8.frozen
    have k0c := HKc.out.cells 0 _ rfl
    have k1c := HKc.out.cells 1 _ rfl
    have klt := HKc.out.lt
    have hltc := HNc.out.lt
    simp only [List.getElem_toArray, List.getElem_cons_zero, List.getElem_cons_succ] at r0 r1 r2 q0 q1 k0c k1c
    by_cases he : er = 0
    · subst he
      cases dn
      · have hR2 : R = (⟨#[]⟩, ⟨pos, nx, L⟩, q, 0) := by rw [← HR.out]; rfl
        subst hR2
        clear HR rf qf
        have rf0 := HNc.out.t7.frozen 0
        have rf1 := HNc.out.t7.frozen 1
        have rf2 := HNc.out.t7.frozen 2
        have qf0 := HNc.out.t8.frozen 0
        have qf1 := HNc.out.t8.frozen 1
        have c0 := HNc.out.t4.cells 0 _ rfl
        have c1 := HNc.out.t4.cells 1 _ rfl
        have c2 := HNc.out.t4.cells 2 _ rfl
        simp only [List.getElem_toArray, List.getElem_cons_zero, List.getElem_cons_succ] at c0 c1 c2
        go_upto_region 12 with (fail)
        go_region
        go_wp2_with (with_reducible refine end_at ?_)
        obtain ⟨e7, e8, o1, o2⟩ := next_end HNc.out HOc.out.1 HOc.out.2 hlt pos nx L (.slice Aq q.sectors.length cq) (.slice Aq' q.cache.length cq')
        have l7 := src_load e7.drew
        have l8 := plat_load e8.drew
        have hbE : Below w.heap.size w (((((wc.setCell ⟨w.heap.size + 1 + 1, 0, none⟩ (.int .i64 pos)).setCell ⟨w.heap.size + 1 + 1, 1, none⟩ (.int .i64 nx)).setCell ⟨w.heap.size + 1 + 1, 2, none⟩ (.int .i64 L)).setCell ⟨w.heap.size + 1 + 1 + 1, 0, none⟩ (.slice Aq q.sectors.length cq)).setCell ⟨w.heap.size + 1 + 1 + 1, 1, none⟩ (.slice Aq' q.cache.length cq')) := ((((HBc.out.setCell (by simp; omega) _).setCell (by simp; omega) _).setCell (by simp; omega) _).setCell (by simp; omega) _).setCell (by simp; omega) _
        refine end_ret (v := .tuple #[.string ⟨#[]⟩, .agg #[.int .i64 pos, .int .i64 nx, .int .i64 L], .agg #[.slice Aq q.sectors.length cq, .slice Aq' q.cache.length cq'], .int .i64 0]) (by simp [results, Tryd.results15, asAddr, l7, l8]) rfl ⟨_, rfl, ⟨Aq, cq, Aq', cq', rfl, (own_base o1 (by omega)).drew, (own_base o2 (by omega)).drew⟩, hbE.drew⟩
      · have hR2 : R = (nonB nx.toNat, ⟨pos, nx + 1, (L : Int) + 16⟩, q, 0) := by rw [← HR.out]; rfl
        subst hR2
        clear HR rf qf r0 r1 r2 q0 q1
        have b0 := HNc.out.t3.cells 0 _ rfl
        have b1 := HNc.out.t3.cells 1 _ rfl
        have bf := HNc.out.t3.frozen
        simp only [List.getElem_toArray, List.getElem_cons_zero, List.getElem_cons_succ] at b0 b1
        go_upto_region 14 with (fail)
        have HN2 := Lib.hid (HNc.out.set3 (.slice Aq q.sectors.length cq) (.slice Aq' q.cache.length cq'))
        have HO2 := Lib.hid (And.intro (own_set (own_set HOc.out.1 (g := w.heap.size) (by omega) 0 (.slice Aq q.sectors.length cq)) (g := w.heap.size) (by omega) 1 (.slice Aq' q.cache.length cq')) (own_set (own_set HOc.out.2 (g := w.heap.size) (by omega) 0 (.slice Aq q.sectors.length cq)) (g := w.heap.size) (by omega) 1 (.slice Aq' q.cache.length cq')))
        have HB2 := Lib.hid ((HBc.out.setCell (p := ⟨w.heap.size, 0, none⟩) (Nat.le_refl _) (.slice Aq q.sectors.length cq)).setCell (p := ⟨w.heap.size, 1, none⟩) (Nat.le_refl _) (.slice Aq' q.cache.length cq'))
        have hz2 : w1.heap.size ≤ ((wc.setCell ⟨w.heap.size, 0, none⟩ (.slice Aq q.sectors.length cq)).setCell ⟨w.heap.size, 1, none⟩ (.slice Aq' q.cache.length cq')).heap.size := by simpa using hzc
        generalize (wc.setCell ⟨w.heap.size, 0, none⟩ (.slice Aq q.sectors.length cq)).setCell ⟨w.heap.size, 1, none⟩ (.slice Aq' q.cache.length cq') = w2 at HN2 HO2 HB2 hz2 ⊢
        clear HNc HOc HBc HKc k0c k1c b0 b1 bf hltc klt hzc
        have s2 := HN2.out.t10.cells 2 _ rfl
        have sf := HN2.out.t10.frozen
        have hlt2 := HN2.out.lt
        simp only [List.getElem_toArray, List.getElem_cons_zero, List.getElem_cons_succ] at s2
        go_upto_region 15 with (fail)
        have HN3 := Lib.hid (HN2.out.set10b ((L : Int) + 16))
        have HO3 := Lib.hid (And.intro (own_set HO2.out.1 (g := w.heap.size + 1 + 1 + 1 + 1) (by omega) 2 (.int .i64 ((L : Int) + 16))) (own_set HO2.out.2 (g := w.heap.size + 1 + 1 + 1 + 1) (by omega) 2 (.int .i64 ((L : Int) + 16))))
        have HB3 := Lib.hid (HB2.out.setCell (p := ⟨w.heap.size + 1 + 1 + 1 + 1, 2, none⟩) (by simp; omega) (.int .i64 ((L : Int) + 16)))
        have hz3 : w1.heap.size ≤ (w2.setCell ⟨w.heap.size + 1 + 1 + 1 + 1, 2, none⟩ (.int .i64 ((L : Int) + 16))).heap.size := by simpa using hz2
        generalize w2.setCell ⟨w.heap.size + 1 + 1 + 1 + 1, 2, none⟩ (.int .i64 ((L : Int) + 16)) = w3 at HN3 HO3 HB3 hz3 ⊢
        clear HN2 HO2 HB2 s2 sf hlt2 hz2
        have s1 := HN3.out.t10.cells 1 _ rfl
        have hlt3 := HN3.out.lt
        simp only [List.getElem_toArray, List.getElem_cons_zero, List.getElem_cons_succ] at s1
        go_wp2_with fail
        refine (bytes_any nx w3).mono ?_
        rintro e w4 ⟨rfl, hb4⟩
        rw [HF.out]
        dsimp only
        have hN4 := HN3.out.below hb4
        have HB4 := Lib.hid (HB3.out.trans (hb4.mono HB3.out.size))
        have HO4 := Lib.hid (And.intro (own_below HO3.out.1 hb4 (Nat.le_refl _)) (own_below HO3.out.2 hb4 (Nat.le_refl _)))
        have s1 := hN4.t10.cells 1 _ rfl
        have sf := hN4.t10.frozen
        have hlt4 := hN4.lt
        have hz4 := hb4.size
        simp only [List.getElem_toArray, List.getElem_cons_zero, List.getElem_cons_succ] at s1
        have HN4 := Lib.hid hN4
        clear hN4 hb4 HN3 HB3 HO3
        go_upto_region 19 with (fail)
        have hN5 := HN4.out.set10 (nx + 1)
        have HO5 := Lib.hid (And.intro (own_set HO4.out.1 (g := w.heap.size + 1 + 1 + 1 + 1) (by omega) 1 (.int .i64 (nx + 1))) (own_set HO4.out.2 (g := w.heap.size + 1 + 1 + 1 + 1) (by omega) 1 (.int .i64 (nx + 1))))
        have HB5 := Lib.hid (HB4.out.setCell (p := ⟨w.heap.size + 1 + 1 + 1 + 1, 1, none⟩) (by simp; omega) (.int .i64 (nx + 1)))
        generalize w4.setCell ⟨w.heap.size + 1 + 1 + 1 + 1, 1, none⟩ (.int .i64 (nx + 1)) = w5 at hN5 HO5 HB5 ⊢
        have c0 := hN5.t10.cells 0 _ rfl
        have c1 := hN5.t10.cells 1 _ rfl
        have c2 := hN5.t10.cells 2 _ rfl
        have p0 := hN5.t3.cells 0 _ rfl
        have p1 := hN5.t3.cells 1 _ rfl
        have r0 := hN5.t7.cells 0 _ rfl
        have r1 := hN5.t7.cells 1 _ rfl
        have r2 := hN5.t7.cells 2 _ rfl
        have rf0 := hN5.t7.frozen 0
        have rf1 := hN5.t7.frozen 1
        have rf2 := hN5.t7.frozen 2
        have q0 := hN5.t8.cells 0 _ rfl
        have q1 := hN5.t8.cells 1 _ rfl
        have qf0 := hN5.t8.frozen 0
        have qf1 := hN5.t8.frozen 1
        have hlt5 := hN5.lt
        simp only [List.getElem_toArray, List.getElem_cons_zero, List.getElem_cons_succ] at c0 c1 c2 p0 p1 r0 r1 r2 q0 q1
        have HN5 := Lib.hid hN5
        clear hN5 HN4 HO4 HB4 s1 sf
        go_region
        go_wp2_with (with_reducible refine end_at ?_)
        obtain ⟨e7, e8, o1, o2⟩ := next_end HN5.out HO5.out.1 HO5.out.2 hlt pos (nx + 1) ((L : Int) + 16) (.slice Aq q.sectors.length cq) (.slice Aq' q.cache.length cq')
        have l7 := src_load e7.drew
        have l8 := plat_load e8.drew
        have hbE : Below w.heap.size w (((((w5.setCell ⟨w.heap.size + 1 + 1, 0, none⟩ (.int .i64 pos)).setCell ⟨w.heap.size + 1 + 1, 1, none⟩ (.int .i64 (nx + 1))).setCell ⟨w.heap.size + 1 + 1, 2, none⟩ (.int .i64 ((L : Int) + 16))).setCell ⟨w.heap.size + 1 + 1 + 1, 0, none⟩ (.slice Aq q.sectors.length cq)).setCell ⟨w.heap.size + 1 + 1 + 1, 1, none⟩ (.slice Aq' q.cache.length cq')) := ((((HB5.out.setCell (by simp; omega) _).setCell (by simp; omega) _).setCell (by simp; omega) _).setCell (by simp; omega) _).setCell (by simp; omega) _
        refine end_ret (v := .tuple #[.string (nonB nx.toNat), .agg #[.int .i64 pos, .int .i64 (nx + 1), .int .i64 ((L : Int) + 16)], .agg #[.slice Aq q.sectors.length cq, .slice Aq' q.cache.length cq'], .int .i64 0]) (by simp [results, Tryd.results15, asAddr, l7, l8]) rfl ⟨_, rfl, ⟨Aq, cq, Aq', cq', rfl, (own_base o1 (by omega)).drew, (own_base o2 (by omega)).drew⟩, hbE.drew⟩
    · have hR2 : R = (⟨#[]⟩, noSrc, noPlat, er) := by rw [← HR.out, if_pos he]
      subst hR2
      clear HR
      have n1 : (er != 0) = true := by simp [he]
      go_wp2_with (with_reducible refine end_at ?_)
      obtain ⟨e7, e8, _, _⟩ := next_end (e1 := 0) (e2 := 0) (sz1 := 1) (sz2 := 1) HNc.out (World.ownsRow_nil wc wc.heap.size _ _) (World.ownsRow_nil wc wc.heap.size _ _) (by omega) 0 0 0 (.slice none 0 0) (.slice none 0 0)
      have l7 := src_load e7
      have l8 := plat_load e8
      refine end_ret (v := .tuple #[.string ⟨#[]⟩, .agg #[.int .i64 0, .int .i64 0, .int .i64 0], .agg #[.slice none 0 0, .slice none 0 0], .int .i64 er]) (by simp [results, Tryd.results15, asAddr, l7, l8]) rfl ⟨_, rfl, PlatOut.none_ _ _, ?_⟩
      exact ((((HBc.out.setCell (by simp; omega) _).setCell (by simp; omega) _).setCell (by simp; omega) _).setCell (by simp; omega) _).setCell (by simp; omega) _
theorem next_any (p : Plat) (s : Src) (deeds : Int) (A A' : Option Addr) (n m c d : Nat) (w : World) (hP : PlatAt w w.heap.size A n A' m p) (hn : n ≤ 1000) (hm : m ≤ 1000) (hG : Pows w) :
    Calls Tryd.prog 15 #[.agg #[.slice A n c, .slice A' m d], .agg #[.int .i64 s.pos, .int .i64 s.next, .int .i64 s.limit], .int .i64 deeds] w fun e w' => NextOut w.heap.size (nextN p s deeds) w e w' := by
  cases h : rightB s.next s.limit
  · have e : nextN p s deeds = (⟨#[]⟩, noSrc, noPlat, 1) := by unfold nextN; rw [if_pos h]
    rw [e]
    exact next_bad p s deeds A A' n m c d w h
  · by_cases h1 : s.next < s.limit
    · have e : nextN p s deeds = (nonB s.next.toNat, ⟨s.pos, s.next + 1, s.limit⟩, p, 0) := by unfold nextN; rw [if_neg (by rw [h]; decide), if_pos h1]
      rw [e]
      exact next_in p s deeds A A' n m c d w hP hn hm h h1
    · by_cases h2 : 1000000000 < s.limit + 16
      · have e : nextN p s deeds = (⟨#[]⟩, noSrc, noPlat, 150) := by unfold nextN; rw [if_neg (by rw [h]; decide), if_neg h1, if_pos h2]
        rw [e]
        exact next_full p s deeds A A' n m c d w h h1 h2
      · exact next_put p s deeds A A' n m c d w hP hG h h1 h2
end Go.Proofs.YtefodifmfjpnlaaDoor
