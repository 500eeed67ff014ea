/- Rows of one's own that hold the elements of a list, each as the cells 'enc x': append from whatever source; rows of texts. -/
import Derived.Test.YtpkomloblhbkiaaGreatDoorNonG
import Derived.Deep.RegionHeld3
import Derived.Test.YtpkomloblhbkiaaGreatDoorTwinA
import Derived.Test.YtpkomloblhbkiaaGreatDoorNonB
import Derived.Test.YtpkomloblhbkiaaGreatDoorTwinF
import Derived.Deep.CutRange
import Derived.Test.YtpkomloblhbkiaaGreatDoorWordA
set_option linter.unusedVariables false
/- nonce: Next that reserves. -/
namespace Go.Proofs.YtpkomloblhbkiaaGreatDoor
open Go.RowKit
set_option maxRecDepth 100000 in
set_option maxHeartbeats 4000000 in
theorem next_full (p : Plat) (s : Src) (deeds : Int) (A A' : Option Addr) (n m c d : Nat) (w : World) (h : rightB s.next s.limit = true) (hge : ¬ s.next < s.limit) (hfull : 1000000000 < s.limit + 16) :
    Calls Tryz.prog 54 #[.agg #[.slice A n c, .slice A' m d], .agg #[.int .i64 s.pos, .int .i64 s.next, .int .i64 s.limit], .int .i64 deeds] w fun e w' => NextOut w.heap.size (⟨#[]⟩, noSrc, noPlat, 150) w e w' := by
  obtain ⟨k0, k1, k2⟩ := (right_iff _ _).1 h
  have HH := Lib.hid h
  have t1 : decide (s.next < s.limit) = false := by simp; omega
  have t2 : decide (1000000000 < s.limit + 16) = true := by simp; omega
  clear h
  go_enter Tryz.func54, Tryz.ntmps54
  go_wp2_with fail
  have hN := next_start w (.slice A n c) (.slice A' m d) s
  have hB := start_below w (.slice A n c) (.slice A' m d) s
  unfold startW at hN hB
  refine (right_any (w.heap.size + 1 + 1 + 1 + 1) s.pos s.next s.limit _ hN.t10).mono ?_
  rintro e w1 ⟨rfl, hb1⟩
  have hN1 := hN.below hb1
  have hB1 := hB.trans (hb1.mono hB.size)
  rw [HH.out]
  clear hN hB hb1
  have s1 := hN1.t10.cells 1 _ rfl
  have s2 := hN1.t10.cells 2 _ rfl
  have r0 := hN1.t7.cells 0 _ rfl
  have r1 := hN1.t7.cells 1 _ rfl
  have r2 := hN1.t7.cells 2 _ rfl
  have rf := hN1.t7.frozen
  have q0 := hN1.t8.cells 0 _ rfl
  have q1 := hN1.t8.cells 1 _ rfl
  have qf := hN1.t8.frozen
  have hlt := hN1.lt
  simp only [List.getElem_toArray, List.getElem_cons_zero, List.getElem_cons_succ] at s1 s2 r0 r1 r2 q0 q1
  have HN1 := Lib.hid hN1
  clear hN1
  go_wp2_with (with_reducible refine end_at ?_)
  obtain ⟨e7, e8, _, _⟩ := next_end (e1 := 0) (e2 := 0) (sz1 := 1) (sz2 := 1) HN1.out (World.ownsRow_nil w1 w1.heap.size _ _) (World.ownsRow_nil w1 w1.heap.size _ _) (by omega) 0 0 0 (.slice none 0 0) (.slice none 0 0)
  have l7 := src_load e7
  have l8 := plat_load e8
  refine end_ret (v := .tuple #[.string ⟨#[]⟩, .agg #[.int .i64 0, .int .i64 0, .int .i64 0], .agg #[.slice none 0 0, .slice none 0 0], .int .i64 150]) (by simp [results, Tryz.results54, asAddr, l7, l8]) rfl ⟨_, rfl, PlatOut.none_ _ _, ?_⟩
  go_grown
/-- what a Put has left: its result in a box, beside Next's boxes -/
def NPutDone (w1 : World) (g : Nat) (a b : Value) (s ws : Src) (gm : Nat) (q : Plat) (Aq Aq' : Option Addr) (cq cq' : Nat) (W : World) : Prop :=
  NextAt W g a b s ws ∧ Blk W gm 42 #[.slice Aq q.sectors.length cq, .slice Aq' q.cache.length cq'] ∧ Below w1.heap.size w1 W ∧ w1.heap.size ≤ gm ∧
  W.ownsRow w1.heap.size 9 1 (.slice Aq q.sectors.length cq) q.sectors.length (flat encS q.sectors) ∧ W.ownsRow w1.heap.size 159 2 (.slice Aq' q.cache.length cq') q.cache.length (flat encP q.cache)
theorem npd_before {w1 W w3 : World} {g gm : Nat} {a b z z' : Value} {s ws : Src} {q : Plat} {Aq Aq' : Option Addr} {cq cq' : Nat} (hN : Hid (NextAt w1 g a b s ws)) (hb1 : Below w1.heap.size w1 W) (hZ : Blk w3 gm 42 #[z, z']) (hgm : w1.heap.size ≤ gm) (hgW : gm < W.heap.size) (hb3 : Below W.heap.size W w3)
    (h1 : w3.ownsRow W.heap.size 9 1 (.slice Aq q.sectors.length cq) q.sectors.length (flat encS q.sectors)) (h2 : w3.ownsRow W.heap.size 159 2 (.slice Aq' q.cache.length cq') q.cache.length (flat encP q.cache)) :
    NPutDone w1 g a b s ws gm q Aq Aq' cq cq' ((w3.setCell ⟨gm, 0, none⟩ (.slice Aq q.sectors.length cq)).setCell ⟨gm, 1, none⟩ (.slice Aq' q.cache.length cq')) := by
  have hB : Below w1.heap.size w1 ((w3.setCell ⟨gm, 0, none⟩ (.slice Aq q.sectors.length cq)).setCell ⟨gm, 1, none⟩ (.slice Aq' q.cache.length cq')) := ((hb1.trans (hb3.mono hb1.size)).setCell (by simpa using hgm) _).setCell (by simpa using hgm) _
  exact ⟨hN.out.below hB, plat_set hZ _ _, hB, hgm, own_base (own_set (own_set h1 hgW _ _) hgW _ _) hb1.size, own_base (own_set (own_set h2 hgW _ _) hgW _ _) hb1.size⟩
theorem npd_after {w1 W w3 : World} {g : Nat} {a b : Value} {s ws : Src} {q : Plat} {Aq Aq' : Option Addr} {cq cq' : Nat} (hN : Hid (NextAt w1 g a b s ws)) (hb1 : Below w1.heap.size w1 W) (hb3 : Below W.heap.size W w3)
    (h1 : w3.ownsRow W.heap.size 9 1 (.slice Aq q.sectors.length cq) q.sectors.length (flat encS q.sectors)) (h2 : w3.ownsRow W.heap.size 159 2 (.slice Aq' q.cache.length cq') q.cache.length (flat encP q.cache)) :
    NPutDone w1 g a b s ws w3.heap.size q Aq Aq' cq cq' (w3.alloc (.cells #[.slice Aq q.sectors.length cq, .slice Aq' q.cache.length cq'] 42)) := by
  have hb := hb1.trans (hb3.mono hb1.size)
  have hB : Below w1.heap.size w1 (w3.alloc (.cells #[.slice Aq q.sectors.length cq, .slice Aq' q.cache.length cq'] 42)) := by have := hb.size; go_grown
  have hB3 : Below w3.heap.size w3 (w3.alloc (.cells #[.slice Aq q.sectors.length cq, .slice Aq' q.cache.length cq'] 42)) := by go_grown
  exact ⟨hN.out.below hB, Blk.new _ _ _, hB, hb.size, own_base (own_below h1 hB3 (Nat.le_refl _)) hb1.size, own_base (own_below h2 hB3 (Nat.le_refl _)) hb1.size⟩
theorem nextN_put {p q : Plat} {pos nx deeds er : Int} {L : Nat} {X : ByteArray} {dn : Bool} (h : rightB nx (L : Int) = true) (hge : ¬ nx < (L : Int)) (hfull : ¬ 1000000000 < (L : Int) + 16) (hX : digB (L + 16) = X) (hQ : putF p pos X deeds = (q, dn, er)) :
    nextN p ⟨pos, nx, L⟩ deeds = if er ≠ 0 then (⟨#[]⟩, noSrc, noPlat, er) else if dn = false then (⟨#[]⟩, ⟨pos, nx, L⟩, q, 0) else (nonB nx.toNat, ⟨pos, nx + 1, (L : Int) + 16⟩, q, 0) := by
  unfold nextN
  dsimp only
  rw [if_neg (by rw [h]; decide), if_neg hge, if_neg hfull]
  simp only [Int.toNat_natCast, hX, hQ]
theorem NextAt.set10b {W : World} {g : Nat} {a b : Value} {s ws : Src} (h : NextAt W g a b s ws) (x : Int) : NextAt (W.setCell ⟨g + 1 + 1 + 1 + 1, 2, none⟩ (.int .i64 x)) g a b s ⟨ws.pos, ws.next, x⟩ :=
  ⟨h.t3.far (by first | (simp; done) | (simp; omega)) _, h.t4.far (by first | (simp; done) | (simp; omega)) _, h.t7.far (by first | (simp; done) | (simp; omega)) _, h.t8.far (by first | (simp; done) | (simp; omega)) _, h.t10.set_ 2 _⟩
set_option maxRecDepth 100000 in
set_option maxHeartbeats 4000000 in
theorem next_put (p : Plat) (s : Src) (deeds : Int) (A A' : Option Addr) (n m c d : Nat) (w : World) (hP : PlatAt w w.heap.size A n A' m p) (hG : Pows w) (h : rightB s.next s.limit = true) (hge : ¬ s.next < s.limit) (hfull : ¬ 1000000000 < s.limit + 16) :
    Calls Tryz.prog 54 #[.agg #[.slice A n c, .slice A' m d], .agg #[.int .i64 s.pos, .int .i64 s.next, .int .i64 s.limit], .int .i64 deeds] w fun e w' => NextOut w.heap.size (nextN p s deeds) w e w' := by
  obtain ⟨pos, nx, lim⟩ := s
  dsimp only at h hge hfull ⊢
  obtain ⟨k0, k1, k2⟩ := (right_iff _ _).1 h
  obtain ⟨L, rfl⟩ := Int.eq_ofNat_of_zero_le (show 0 ≤ lim by omega)
  have HP := hP.pre
  have HH := Lib.hid h
  have HF := Lib.hid (nonF_in (n := nx) k0 (by omega))
  have t1 : decide (nx < (L : Int)) = false := by simp; omega
  have t2 : decide (1000000000 < (L : Int) + 16) = false := by simp; omega
  obtain ⟨X, hX⟩ : ∃ X, digB (L + 16) = X := ⟨_, rfl⟩
  obtain ⟨q, dn, er, hQ⟩ : ∃ a b c, putF p pos X deeds = (a, b, c) := ⟨_, _, _, rfl⟩
  obtain ⟨R, hR⟩ : ∃ R, nextN p ⟨pos, nx, L⟩ deeds = R := ⟨_, rfl⟩
  rw [hR]
  rw [nextN_put h hge hfull hX hQ] at hR
  have hL9 : L ≤ 1000000000 := by omega
  have HX := Lib.hid hX
  have HQ := Lib.hid hQ
  have HR := Lib.hid hR
  have HG := Lib.hid hG
  have hL16 : (L : Int) + 16 ≤ 1000000000 := by omega
  clear h hP hX hQ hR hG
  go_enter Tryz.func54, Tryz.ntmps54
  go_wp2_with fail
  have hN := next_start w (.slice A n c) (.slice A' m d) ⟨pos, nx, L⟩
  have hB := start_below w (.slice A n c) (.slice A' m d) ⟨pos, nx, L⟩
  unfold startW at hN hB
  refine (right_any (w.heap.size + 1 + 1 + 1 + 1) pos nx (L : Int) _ hN.t10).mono ?_
  rintro e w1 ⟨rfl, hb1⟩
  have hN1 := hN.below hb1
  have hB1 := hB.trans (hb1.mono hB.size)
  rw [HH.out]
  clear hN hB hb1
  have s0 := hN1.t10.cells 0 _ rfl
  have s1 := hN1.t10.cells 1 _ rfl
  have s2 := hN1.t10.cells 2 _ rfl
  have p0 := hN1.t3.cells 0 _ rfl
  have p1 := hN1.t3.cells 1 _ rfl
  have hlt := hN1.lt
  simp only [List.getElem_toArray, List.getElem_cons_zero, List.getElem_cons_succ] at s0 s1 s2 p0 p1
  have HN1 := Lib.hid hN1
  have HB1 := Lib.hid hB1
  have ht10 := hN1.t10
  have HPW : Hid (∀ W, Below w1.heap.size w1 W → Pows W) := Lib.hid (fun W hb => HG.out.below (hB1.trans (hb.mono hB1.size)))
  have HT1 : Hid (Blk w1.drew (w.heap.size + 1 + 1 + 1 + 1) 104 #[.int .i64 pos, .int .i64 nx, .int .i64 L] ∧ Pows w1.drew) := Lib.hid ⟨ht10.drew, HPW.out _ (Below.refl _ _).drew⟩
  have HT2 : Hid (Blk (w1.alloc (.cells #[.slice none 0 0, .slice none 0 0] 42)).drew (w.heap.size + 1 + 1 + 1 + 1) 104 #[.int .i64 pos, .int .i64 nx, .int .i64 L] ∧ Pows (w1.alloc (.cells #[.slice none 0 0, .slice none 0 0] 42)).drew) := Lib.hid ⟨(ht10.alloc _).drew, HPW.out _ (by go_grown)⟩
  have HPP : Hid (∀ W, Below w1.heap.size w1 W → PlatAt W W.heap.size A n A' m p) := Lib.hid (fun W hb => HP.step (hB1.trans (hb.mono hB1.size)))
  have HS : Hid (∀ W, Below w1.heap.size w1 W → W.cell? ⟨w.heap.size, 0, none⟩ = some (.slice A n c) ∧ W.cell? ⟨w.heap.size, 1, none⟩ = some (.slice A' m d) ∧ W.cell? ⟨w.heap.size + 1 + 1 + 1 + 1, 0, none⟩ = some (.int .i64 pos)) := Lib.hid (fun W hb => by
    have hh := hN1.below hb
    exact ⟨hh.t3.cells 0 _ rfl, hh.t3.cells 1 _ rfl, hh.t10.cells 0 _ rfl⟩)
  clear hN1 hB1 ht10
  go_upto_region 8 with (fail)
  go_cut [11, 12, 13] from 39 to 48 (fun s11 s12 s13 wx => ∃ (gm : Nat) (Aq Aq' : Option Addr) (cq cq' : Nat), s11 = .pointer (some ⟨gm, 0, none⟩) ∧ s12 = .bool dn ∧ s13 = .int .i64 er ∧ Hid (NPutDone w1 w.heap.size (.slice A n c) (.slice A' m d) ⟨pos, nx, L⟩ ⟨pos, nx, L⟩ gm q Aq Aq' cq cq' wx))
  case first =>
    go_region_held3 (fun W => W.cell? ⟨w.heap.size, 0, none⟩ = some (.slice A n c) ∧ W.cell? ⟨w.heap.size, 1, none⟩ = some (.slice A' m d) ∧ W.cell? ⟨w.heap.size + 1 + 1 + 1 + 1, 0, none⟩ = some (.int .i64 pos))
      ((refine HS.out _ ?_; go_grown))
      (first
        | (go_at_call 96; (with_reducible refine Calls.mono (ntext_any (w.heap.size + 1 + 1 + 1 + 1) pos nx L _ HT1.out.1 hL9 HT1.out.2) ?_); rintro e w2 ⟨rfl, hb2⟩; rw [HX.out]; have hB2 : Below w1.heap.size w1 w2 := Below.trans (by go_grown) (hb2.mono (by simp)); have hs2 := hB2.size)
        | (go_at_call 96; (with_reducible refine Calls.mono (ntext_any (w.heap.size + 1 + 1 + 1 + 1) pos nx L _ HT2.out.1 hL9 HT2.out.2) ?_); rintro e w2 ⟨rfl, hb2⟩; rw [HX.out]; have hZ2 := (Blk.new w1 42 #[.slice none 0 0, .slice none 0 0]).drew.below hb2 (by simp); have hB2 : Below w1.heap.size w1 w2 := Below.trans (by go_grown) (hb2.mono (by simp)); have hs2 := hB2.size; have hz2 := hZ2.lt)
        | (go_at_call 41; (with_reducible refine Calls.mono (put_any p pos X deeds A A' n m c d _ (HPP.out _ (by go_grown))) ?_); intro e w3 h3; obtain ⟨v, he, hO3, hb3⟩ := h3; subst he; rw [HQ.out] at hO3 ⊢; dsimp only at hO3 ⊢; obtain ⟨Aq, cq, Aq', cq', hv, ho1, ho2⟩ := hO3; subst hv; have hB3 : Below w1.heap.size w1 w3 := Below.trans (by go_grown) (hb3.mono (by first | omega | (simp; omega))); have hs3 := hB3.size; (first | (have hZ3 := (Blk.new w2 42 #[.slice none 0 0, .slice none 0 0]).below hb3 (by simp); have k0 := hZ3.cells 0 _ rfl; have k1 := hZ3.cells 1 _ rfl; have kf := hZ3.frozen; have kl := hZ3.lt; simp only [List.getElem_toArray, List.getElem_cons_zero, List.getElem_cons_succ] at k0 k1) | (have hZ3 := hZ2.below hb3 hz2; have k0 := hZ3.cells 0 _ rfl; have k1 := hZ3.cells 1 _ rfl; have kf := hZ3.frozen; have kl := hZ3.lt; simp only [List.getElem_toArray, List.getElem_cons_zero, List.getElem_cons_succ] at k0 k1) | (have tokB : True := trivial))))
    all_goals go_wp2_with fail
    all_goals go_meet
    all_goals first
      | exact ⟨_, Aq, Aq', cq, cq', rfl, rfl, rfl, Lib.hid (npd_after HN1 hB2 hb3 ho1 ho2)⟩
      | exact ⟨_, Aq, Aq', cq, cq', rfl, rfl, rfl, Lib.hid (npd_before HN1 hB2 hZ3 (Nat.le_refl _) hz2 hb3 ho1 ho2)⟩
      | exact ⟨_, Aq, Aq', cq, cq', rfl, rfl, rfl, Lib.hid (npd_before HN1 (by go_grown) hZ3 hs2 (by simp) hb3 ho1 ho2)⟩
  case rest =>
    obtain ⟨gm, Aq, Aq', cq, cq', rfl, rfl, rfl, HPD⟩ := hcut
    have HNc := Lib.hid HPD.out.1
    have HKc := Lib.hid HPD.out.2.1
    have HBc := Lib.hid (HB1.out.trans (HPD.out.2.2.1.mono HB1.out.size))
    have HOc := Lib.hid HPD.out.2.2.2.2
    have hzc := HPD.out.2.2.1.size
    have hgm := HPD.out.2.2.2.1
    clear HPD HS HPP HT1 HT2 HPW HB1 HN1 s0 s1 s2 p0 p1 HG HX HQ HP
    have r0 := HNc.out.t7.cells 0 _ rfl
    have r1 := HNc.out.t7.cells 1 _ rfl
    have r2 := HNc.out.t7.cells 2 _ rfl
    have rf := HNc.out.t7.frozen
    have q0 := HNc.out.t8.cells 0 _ rfl
    have q1 := HNc.out.t8.cells 1 _ rfl
    have qf := HNc.out.t8.frozen
    have k0c := HKc.out.cells 0 _ rfl
    have k1c := HKc.out.cells 1 _ rfl
    have klt := HKc.out.lt
    have hltc := HNc.out.lt
    simp only [List.getElem_toArray, List.getElem_cons_zero, List.getElem_cons_succ] at r0 r1 r2 q0 q1 k0c k1c
    by_cases he : er = 0
    · subst he
      cases dn
      · have hR2 : R = (⟨#[]⟩, ⟨pos, nx, L⟩, q, 0) := by rw [← HR.out]; rfl
        subst hR2
        clear HR rf qf
        have rf0 := HNc.out.t7.frozen 0
        have rf1 := HNc.out.t7.frozen 1
        have rf2 := HNc.out.t7.frozen 2
        have qf0 := HNc.out.t8.frozen 0
        have qf1 := HNc.out.t8.frozen 1
        have c0 := HNc.out.t4.cells 0 _ rfl
        have c1 := HNc.out.t4.cells 1 _ rfl
        have c2 := HNc.out.t4.cells 2 _ rfl
        simp only [List.getElem_toArray, List.getElem_cons_zero, List.getElem_cons_succ] at c0 c1 c2
        go_upto_region 12 with (fail)
        go_region
        go_wp2_with (with_reducible refine end_at ?_)
        obtain ⟨e7, e8, o1, o2⟩ := next_end HNc.out HOc.out.1 HOc.out.2 hlt pos nx L (.slice Aq q.sectors.length cq) (.slice Aq' q.cache.length cq')
        have l7 := src_load e7.drew
        have l8 := plat_load e8.drew
        have hbE : Below w.heap.size w (((((wc.setCell ⟨w.heap.size + 1 + 1, 0, none⟩ (.int .i64 pos)).setCell ⟨w.heap.size + 1 + 1, 1, none⟩ (.int .i64 nx)).setCell ⟨w.heap.size + 1 + 1, 2, none⟩ (.int .i64 L)).setCell ⟨w.heap.size + 1 + 1 + 1, 0, none⟩ (.slice Aq q.sectors.length cq)).setCell ⟨w.heap.size + 1 + 1 + 1, 1, none⟩ (.slice Aq' q.cache.length cq')) := ((((HBc.out.setCell (by simp; omega) _).setCell (by simp; omega) _).setCell (by simp; omega) _).setCell (by simp; omega) _).setCell (by simp; omega) _
        refine end_ret (v := .tuple #[.string ⟨#[]⟩, .agg #[.int .i64 pos, .int .i64 nx, .int .i64 L], .agg #[.slice Aq q.sectors.length cq, .slice Aq' q.cache.length cq'], .int .i64 0]) (by simp [results, Tryz.results54, asAddr, l7, l8]) rfl ⟨_, rfl, ⟨Aq, cq, Aq', cq', rfl, (own_base o1 (by omega)).drew, (own_base o2 (by omega)).drew⟩, hbE.drew⟩
      · have hR2 : R = (nonB nx.toNat, ⟨pos, nx + 1, (L : Int) + 16⟩, q, 0) := by rw [← HR.out]; rfl
        subst hR2
        clear HR rf qf r0 r1 r2 q0 q1
        have b0 := HNc.out.t3.cells 0 _ rfl
        have b1 := HNc.out.t3.cells 1 _ rfl
        have bf := HNc.out.t3.frozen
        simp only [List.getElem_toArray, List.getElem_cons_zero, List.getElem_cons_succ] at b0 b1
        go_upto_region 14 with (fail)
        have HN2 := Lib.hid (HNc.out.set3 (.slice Aq q.sectors.length cq) (.slice Aq' q.cache.length cq'))
        have HO2 := Lib.hid (And.intro (own_set (own_set HOc.out.1 (g := w.heap.size) (by omega) 0 (.slice Aq q.sectors.length cq)) (g := w.heap.size) (by omega) 1 (.slice Aq' q.cache.length cq')) (own_set (own_set HOc.out.2 (g := w.heap.size) (by omega) 0 (.slice Aq q.sectors.length cq)) (g := w.heap.size) (by omega) 1 (.slice Aq' q.cache.length cq')))
        have HB2 := Lib.hid ((HBc.out.setCell (p := ⟨w.heap.size, 0, none⟩) (Nat.le_refl _) (.slice Aq q.sectors.length cq)).setCell (p := ⟨w.heap.size, 1, none⟩) (Nat.le_refl _) (.slice Aq' q.cache.length cq'))
        have hz2 : w1.heap.size ≤ ((wc.setCell ⟨w.heap.size, 0, none⟩ (.slice Aq q.sectors.length cq)).setCell ⟨w.heap.size, 1, none⟩ (.slice Aq' q.cache.length cq')).heap.size := by simpa using hzc
        generalize (wc.setCell ⟨w.heap.size, 0, none⟩ (.slice Aq q.sectors.length cq)).setCell ⟨w.heap.size, 1, none⟩ (.slice Aq' q.cache.length cq') = w2 at HN2 HO2 HB2 hz2 ⊢
        clear HNc HOc HBc HKc k0c k1c b0 b1 bf hltc klt hzc
        have s2 := HN2.out.t10.cells 2 _ rfl
        have sf := HN2.out.t10.frozen
        have hlt2 := HN2.out.lt
        simp only [List.getElem_toArray, List.getElem_cons_zero, List.getElem_cons_succ] at s2
        go_upto_region 15 with (fail)
        have HN3 := Lib.hid (HN2.out.set10b ((L : Int) + 16))
        have HO3 := Lib.hid (And.intro (own_set HO2.out.1 (g := w.heap.size + 1 + 1 + 1 + 1) (by omega) 2 (.int .i64 ((L : Int) + 16))) (own_set HO2.out.2 (g := w.heap.size + 1 + 1 + 1 + 1) (by omega) 2 (.int .i64 ((L : Int) + 16))))
        have HB3 := Lib.hid (HB2.out.setCell (p := ⟨w.heap.size + 1 + 1 + 1 + 1, 2, none⟩) (by simp; omega) (.int .i64 ((L : Int) + 16)))
        have hz3 : w1.heap.size ≤ (w2.setCell ⟨w.heap.size + 1 + 1 + 1 + 1, 2, none⟩ (.int .i64 ((L : Int) + 16))).heap.size := by simpa using hz2
        generalize w2.setCell ⟨w.heap.size + 1 + 1 + 1 + 1, 2, none⟩ (.int .i64 ((L : Int) + 16)) = w3 at HN3 HO3 HB3 hz3 ⊢
        clear HN2 HO2 HB2 s2 sf hlt2 hz2
        have s1 := HN3.out.t10.cells 1 _ rfl
        have hlt3 := HN3.out.lt
        simp only [List.getElem_toArray, List.getElem_cons_zero, List.getElem_cons_succ] at s1
        go_wp2_with fail
        refine (bytes_any nx w3).mono ?_
        rintro e w4 ⟨rfl, hb4⟩
        rw [HF.out]
        dsimp only
        have hN4 := HN3.out.below hb4
        have HB4 := Lib.hid (HB3.out.trans (hb4.mono HB3.out.size))
        have HO4 := Lib.hid (And.intro (own_below HO3.out.1 hb4 (Nat.le_refl _)) (own_below HO3.out.2 hb4 (Nat.le_refl _)))
        have s1 := hN4.t10.cells 1 _ rfl
        have sf := hN4.t10.frozen
        have hlt4 := hN4.lt
        have hz4 := hb4.size
        simp only [List.getElem_toArray, List.getElem_cons_zero, List.getElem_cons_succ] at s1
        have HN4 := Lib.hid hN4
        clear hN4 hb4 HN3 HB3 HO3
        go_upto_region 19 with (fail)
        have hN5 := HN4.out.set10 (nx + 1)
        have HO5 := Lib.hid (And.intro (own_set HO4.out.1 (g := w.heap.size + 1 + 1 + 1 + 1) (by omega) 1 (.int .i64 (nx + 1))) (own_set HO4.out.2 (g := w.heap.size + 1 + 1 + 1 + 1) (by omega) 1 (.int .i64 (nx + 1))))
        have HB5 := Lib.hid (HB4.out.setCell (p := ⟨w.heap.size + 1 + 1 + 1 + 1, 1, none⟩) (by simp; omega) (.int .i64 (nx + 1)))
        generalize w4.setCell ⟨w.heap.size + 1 + 1 + 1 + 1, 1, none⟩ (.int .i64 (nx + 1)) = w5 at hN5 HO5 HB5 ⊢
        have c0 := hN5.t10.cells 0 _ rfl
        have c1 := hN5.t10.cells 1 _ rfl
        have c2 := hN5.t10.cells 2 _ rfl
        have p0 := hN5.t3.cells 0 _ rfl
        have p1 := hN5.t3.cells 1 _ rfl
        have r0 := hN5.t7.cells 0 _ rfl
        have r1 := hN5.t7.cells 1 _ rfl
        have r2 := hN5.t7.cells 2 _ rfl
        have rf0 := hN5.t7.frozen 0
        have rf1 := hN5.t7.frozen 1
        have rf2 := hN5.t7.frozen 2
        have q0 := hN5.t8.cells 0 _ rfl
        have q1 := hN5.t8.cells 1 _ rfl
        have qf0 := hN5.t8.frozen 0
        have qf1 := hN5.t8.frozen 1
        have hlt5 := hN5.lt
        simp only [List.getElem_toArray, List.getElem_cons_zero, List.getElem_cons_succ] at c0 c1 c2 p0 p1 r0 r1 r2 q0 q1
        have HN5 := Lib.hid hN5
        clear hN5 HN4 HO4 HB4 s1 sf
        go_region
        go_wp2_with (with_reducible refine end_at ?_)
        obtain ⟨e7, e8, o1, o2⟩ := next_end HN5.out HO5.out.1 HO5.out.2 hlt pos (nx + 1) ((L : Int) + 16) (.slice Aq q.sectors.length cq) (.slice Aq' q.cache.length cq')
        have l7 := src_load e7.drew
        have l8 := plat_load e8.drew
        have hbE : Below w.heap.size w (((((w5.setCell ⟨w.heap.size + 1 + 1, 0, none⟩ (.int .i64 pos)).setCell ⟨w.heap.size + 1 + 1, 1, none⟩ (.int .i64 (nx + 1))).setCell ⟨w.heap.size + 1 + 1, 2, none⟩ (.int .i64 ((L : Int) + 16))).setCell ⟨w.heap.size + 1 + 1 + 1, 0, none⟩ (.slice Aq q.sectors.length cq)).setCell ⟨w.heap.size + 1 + 1 + 1, 1, none⟩ (.slice Aq' q.cache.length cq')) := ((((HB5.out.setCell (by simp; omega) _).setCell (by simp; omega) _).setCell (by simp; omega) _).setCell (by simp; omega) _).setCell (by simp; omega) _
        refine end_ret (v := .tuple #[.string (nonB nx.toNat), .agg #[.int .i64 pos, .int .i64 (nx + 1), .int .i64 ((L : Int) + 16)], .agg #[.slice Aq q.sectors.length cq, .slice Aq' q.cache.length cq'], .int .i64 0]) (by simp [results, Tryz.results54, asAddr, l7, l8]) rfl ⟨_, rfl, ⟨Aq, cq, Aq', cq', rfl, (own_base o1 (by omega)).drew, (own_base o2 (by omega)).drew⟩, hbE.drew⟩
    · have hR2 : R = (⟨#[]⟩, noSrc, noPlat, er) := by rw [← HR.out, if_pos he]
      subst hR2
      clear HR
      have n1 : (er != 0) = true := by simp [he]
      go_wp2_with (with_reducible refine end_at ?_)
      obtain ⟨e7, e8, _, _⟩ := next_end (e1 := 0) (e2 := 0) (sz1 := 1) (sz2 := 1) HNc.out (World.ownsRow_nil wc wc.heap.size _ _) (World.ownsRow_nil wc wc.heap.size _ _) (by omega) 0 0 0 (.slice none 0 0) (.slice none 0 0)
      have l7 := src_load e7
      have l8 := plat_load e8
      refine end_ret (v := .tuple #[.string ⟨#[]⟩, .agg #[.int .i64 0, .int .i64 0, .int .i64 0], .agg #[.slice none 0 0, .slice none 0 0], .int .i64 er]) (by simp [results, Tryz.results54, asAddr, l7, l8]) rfl ⟨_, rfl, PlatOut.none_ _ _, ?_⟩
      exact ((((HBc.out.setCell (by simp; omega) _).setCell (by simp; omega) _).setCell (by simp; omega) _).setCell (by simp; omega) _).setCell (by simp; omega) _
theorem next_any (p : Plat) (s : Src) (deeds : Int) (A A' : Option Addr) (n m c d : Nat) (w : World) (hP : PlatAt w w.heap.size A n A' m p) (hn : n ≤ 1000) (hm : m ≤ 1000) (hG : Pows w) :
    Calls Tryz.prog 54 #[.agg #[.slice A n c, .slice A' m d], .agg #[.int .i64 s.pos, .int .i64 s.next, .int .i64 s.limit], .int .i64 deeds] w fun e w' => NextOut w.heap.size (nextN p s deeds) w e w' := by
  cases h : rightB s.next s.limit
  · have e : nextN p s deeds = (⟨#[]⟩, noSrc, noPlat, 1) := by unfold nextN; rw [if_pos h]
    rw [e]
    exact next_bad p s deeds A A' n m c d w h
  · by_cases h1 : s.next < s.limit
    · have e : nextN p s deeds = (nonB s.next.toNat, ⟨s.pos, s.next + 1, s.limit⟩, p, 0) := by unfold nextN; rw [if_neg (by rw [h]; decide), if_pos h1]
      rw [e]
      exact next_in p s deeds A A' n m c d w hP hn hm h h1
    · by_cases h2 : 1000000000 < s.limit + 16
      · have e : nextN p s deeds = (⟨#[]⟩, noSrc, noPlat, 150) := by unfold nextN; rw [if_neg (by rw [h]; decide), if_neg h1, if_pos h2]
        rw [e]
        exact next_full p s deeds A A' n m c d w h h1 h2
      · exact next_put p s deeds A A' n m c d w hP hG h h1 h2
end Go.Proofs.YtpkomloblhbkiaaGreatDoor
/- nonce: told. -/
namespace Go.Proofs.YtpkomloblhbkiaaGreatDoor
open Go.RowKit
def HPows (w : World) : Prop := Hid (Pows w)
theorem HPows.on {w w1 : World} (h : HPows w) (hb : Below w.heap.size w w1) : HPows w1 := Lib.hid (h.out.below hb)
theorem HPows.step {w w1 : World} (h : HPows w) (hb : Below w.heap.size w w1) : Pows w1 := h.out.below hb
end Go.Proofs.YtpkomloblhbkiaaGreatDoor
/- nonce: whatever stops the disk (plain). -/
namespace Go.Proofs.YtpkomloblhbkiaaGreatDoor
open Go.RowKit
theorem dig_all : ((List.range 104).all fun r => decide (numF (digB (16 * r)) = some (16 * r)) && decide ((digB (16 * r)).size ≤ 10)) = true := by kernel_rfl
theorem dig_16 {r : Nat} (h : r < 104) : numF (digB (16 * r)) = some (16 * r) ∧ (digB (16 * r)).size ≤ 10 := by
  have := (List.all_eq_true.1 dig_all) r (List.mem_range.2 h)
  simpa using this
/-- a Put that was done whole leaves a clean disk -/
theorem put_clean {p a : Plat} {i : Int} {s : ByteArray} {most : Int} (h : putF p i s most = (a, true, 0)) : a.cache = [] ∧ a.sectors.length = p.sectors.length ∧ getF a i = (s, true, 0) := by
  have hz : (putF p i s most).2.2 = 0 := by rw [h]
  have hg := put_get hz
  have h9 := h
  rw [putF_do hg] at h
  have hN : mostN most = 4 := by
    unfold doN at h
    split at h
    · have := congrArg (fun x => x.2.1) h
      simpa using this
    · have := congrArg (fun x => x.2.1) h
      simp at this
  have e4 : putF p i s most = putF p i s 4 := by rw [putF_do hg, putF_do hg, hN]; rfl
  rw [e4] at hz h9
  obtain ⟨_, k2, _⟩ := put_back hz
  rw [h9] at k2
  refine ⟨?_, ?_, k2⟩
  all_goals
    obtain ⟨⟨m, hm⟩, _⟩ := get_ok hg
    rw [hN] at h
    have hd : (doTo p (i + (bodyF (markF (readF p i).1)).1) s i (markF (readF p i).1) 4).2 = 0 := by
      unfold doN at h
      split at h
      · assumption
      · have := congrArg (fun x => x.2.1) h
        simp at this
    have h1 := doTo_w1 (by omega) hd
    have h2 := doTo_w2 (by omega) hd
    rw [doN_ok (doTo_ok4 h1 h2)] at h
    have ha := congrArg (fun x => x.1) h
    dsimp only at ha
    rw [← ha]
    obtain ⟨_, s2, s3, _, _⟩ := sync_ok (write_check h2)
    obtain ⟨_, _, s5, _, _⟩ := sync_ok (write_check h1)
    first
      | exact s2
      | rw [s3, write_len h2, s5, write_len h1]
end Go.Proofs.YtpkomloblhbkiaaGreatDoor
namespace Go.Proofs.YtpkomloblhbkiaaGreatDoor
open Go.RowKit
/-- v is a row of one's own, from block base on, that holds the elements of L -/
def ORow {α : Type} (e : TypeId) (enc : α → List Value) (sz : Nat) (w : World) (base : Nat) (v : Value) (L : List α) : Prop := w.ownsRow base e sz v L.length (flat enc L)
section
variable {α : Type} {e : TypeId} {enc : α → List Value} {sz : Nat} {w w' : World} {base : Nat} {v : Value} {L : List α}
theorem orow_nil (w : World) (base : Nat) : ORow e enc sz w base (.slice none 0 0) [] := World.ownsRow_nil _ _ _ _
theorem orow_alloc (h : ORow e enc sz w base v L) (o : Obj) : ORow e enc sz (w.alloc o) base v L := World.ownsRow.alloc h o
theorem orow_drew (h : ORow e enc sz w base v L) : ORow e enc sz w.drew base v L := World.ownsRow.drew h
theorem orow_below {B : Nat} (h : ORow e enc sz w base v L) (hb : Below B w w') (hB : w.heap.size ≤ B) : ORow e enc sz w' base v L := own_below h hb hB
theorem orow_base {base' : Nat} (h : ORow e enc sz w base v L) (hb : base' ≤ base) : ORow e enc sz w base' v L := own_base h hb
theorem orow_form (h : ORow e enc sz w base v L) : ∃ A c, v = .slice A L.length c ∧ L.length ≤ c ∧ c ≤ maxLen := by
  obtain ⟨A, c, hv, h1, h2, _⟩ := own_form h
  exact ⟨A, c, hv, h1, h2⟩
theorem orow_join {m : Nat} {xs : List Value} (h : w.ownsRow base e sz v m xs) (M : List α) (hm : m = M.length) (hx : xs = flat enc M) : ORow e enc sz w base v M := by subst hm hx; exact h
theorem orow_slr (he : ∀ x, (enc x).length = sz) {A : Option Addr} {n c : Nat} (h : ORow e enc sz w base (.slice A n c) L) (hn : L.length = n) : SlR enc sz w w.heap.size A n L := by
  subst hn
  exact SlR.of_own (base := base) (e := e) (c := c) he h rfl
theorem orow_lt (h : ORow e enc sz w base v L) {g : Nat} (hg : v.ownBlock = some g) : base ≤ g ∧ g < w.heap.size := World.ownsRow.lt h g hg
theorem slr_one (he : ∀ x, (enc x).length = sz) {g B : Nat} {t : TypeId} (x : α) (h : Blk w g t (enc x).toArray) (hB : g < B) : SlR enc sz w B (some ⟨g, 0, none⟩) 1 [x] := by
  refine SlR.ofC rfl hB ?_
  intro k y hy j u hu
  have hk : k = 0 := by
    have := (List.getElem?_eq_some_iff.1 hy).1
    simp at this; omega
  subst hk
  simp only [List.getElem?_cons_zero, Option.some.injEq] at hy
  subst hy
  simp only [Nat.zero_mul, Nat.zero_add]
  rw [h.cell]
  simpa using hu
theorem wpList_append_row {P : Program} {ops : Array Oper} {rest : List Oper} {o : Oper} {a : Act} {Q : Exit → Act → World → Prop} (he : ∀ x, (enc x).length = sz) (h1 : ∀ x, ∀ u ∈ enc x, u.oneCell' = true) (hgd : o.guard = none) (s x : Operand) (t : TypeId)
    (ho : o.op = .call { callee := .builtin .append, args := #[s, x], argTypes := #[t, t] })
    (z : Value) (bytes : Nat) (ht : P.underlying t = some (.slice e)) (hinfo : (P.info? e).map (fun i => (i.zero, i.size, i.bytes)) = some (some z, sz, bytes)) (hzs : z.cells.size = sz) (hsz : 0 < sz)
    (hs : a.eval s = v) (hown : ORow e enc sz w base v L) (B : Nat) (A : Option Addr) (m c : Nat) (M : List α) (hx : a.eval x = .slice A m c) (hr : SlR enc sz w B A m M) (n : Nat) (hl : (L ++ M).length = n) (hn : n ≤ maxLen) (hby : n * bytes ≤ 140737488355328) (hbase : base ≤ w.heap.size)
    (h : ∀ A c w', Hid (ORow e enc sz w' base (.slice A n c) (L ++ M)) → w.grownBy w' v.ownBlock → Below base w w' → n ≤ c → c ≤ maxLen → wpList P ops Q rest (a.put o.dst (.slice A n c)) w') : wpList P ops Q (o :: rest) a w := by
  have hmm : M.length = m := hr.1
  have hlm : L.length + m = n := by rw [← hl, List.length_append, hmm]
  obtain ⟨i0, hi0, hz0, hz1, hz2⟩ := info_parts hinfo
  refine wpList_append_any _ hgd s x _ ho base _ i0 _ sz bytes ht hi0 hz0 hz1 hz2 hzs hsz v L.length (flat enc L) hs hown B A m c (flat enc M) hx (hr.reads he) ?_ (by omega) (by rw [hlm]; exact hby) hbase ?_
  · intro u hu
    obtain ⟨y, _, hy⟩ := List.mem_flatMap.1 hu
    exact h1 y u hy
  · intro v' w' h2 h3 _
    have h1' : ORow e enc sz w' base v' (L ++ M) := orow_join h2 _ (by simp [hmm]) (by rw [flat_append])
    obtain ⟨A, c, rfl, hc1, hc2⟩ := orow_form h1'
    rw [hl] at h1' hc1 ⊢
    exact h A c w' (Lib.hid h1') h3 ((Below.refl base w).grown h3 hbase (fun k e => (World.ownsRow.lt hown k e).1)) hc1 hc2
/-- make([]T, 0, n) -/
theorem run_mkcap {P : Program} (t : TypeId) (z : Value) (bytes : Nat) (ht : P.underlying t = some (.slice e)) (hinfo : (P.info? e).map (fun i => (i.zero, i.size, i.bytes)) = some (some z, sz, bytes))
    (c : Nat) (hbytes : bytes * c ≤ 281474976710656) (h63 : c ≤ 9223372036854775807) (w : World) :
    (Instr.makeSlice t (.int .i64 0) (.int .i64 (c : Int))).run P w = .ok (.slice (some ⟨w.heap.size, 0, none⟩) 0 c) (w.alloc (.cells (madeCells z.cells (c * sz)) e)) := by
  obtain ⟨i0, hi0, hz0, hz1, hz2⟩ := info_parts hinfo
  have hb : (i0.bytes : Int) * (c : Int) ≤ 281474976710656 := by
    rw [hz2]
    have h : ((bytes * c : Nat) : Int) ≤ 281474976710656 := by omega
    rwa [Int.natCast_mul] at h
  have hr := run_make (P := P) w t e i0 z ht hi0 hz0 .i64 .i64 0 c (by omega) (by omega) hb (by omega)
  rw [hz1] at hr
  simpa using hr
theorem orow_made (w : World) {base : Nat} (z : Array Value) (c : Nat) (hb : base ≤ w.heap.size) (hc : c ≤ maxLen) : ORow e enc sz (w.alloc (.cells (madeCells z (c * sz)) e)) base (.slice (some ⟨w.heap.size, 0, none⟩) 0 c) [] :=
  World.ownsRow_made w _ c hb hc (size_madeCells _ _)
end
end Go.Proofs.YtpkomloblhbkiaaGreatDoor
