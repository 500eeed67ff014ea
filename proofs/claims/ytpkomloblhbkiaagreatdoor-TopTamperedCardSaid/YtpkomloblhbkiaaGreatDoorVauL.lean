/- vault.Store, in good states. -/
import Derived.Test.YtpkomloblhbkiaaGreatDoorTexts
import Derived.BigRegion
import Derived.Sort.CutIn
set_option linter.unusedVariables false
set_option linter.unusedSimpArgs false
namespace Go.Proofs.YtpkomloblhbkiaaGreatDoor
open Go.RowKit Go.Shelf
attribute [local go_sem] Oper.semAt_some
set_option maxRecDepth 100000 in
set_option maxHeartbeats 4000000 in
theorem store_any (p : Plat) (v : Vol) (n a g : Nat) (u : Vol) (D : Int) (A A' B : Option Addr) (nS cS dS cB : Nat) (w : World) (hP : PlatAt w w.heap.size A nS A' 0 p) (hS : nS ≤ 1000) (hV : SlR encS 1 w w.heap.size B n v.blocks) (hO : openP p = (⟨n, a, g, u⟩, 0)) (hv : volB v = true) (hrt : rootedB v = true) (hg : g < 1000000000) (ha : a ≤ 1) (hok : DeedsOk p n (1 - a) v.blocks) (hE : Env w) :
    Calls Tryz.prog 20 #[.agg #[.slice A nS cS, .slice A' 0 dS], .agg #[.slice B n cB, .string v.root], .int .i64 D] w (OutDo w.heap.size w (storeF p n (1 - a) (g + 1) v (normD n D))) := by
  have HP := hP.pre
  have HLN := Lib.hid (And.intro hP.1.1 hP.2.1)
  have hl := hV.1
  have hall := ((volB_iff v).1 hv).2.2
  have hr32 := ((volB_iff v).1 hv).2.1
  have hcn := ((volB_iff v).1 hv).1
  rw [hl] at hcn
  obtain ⟨_, hn1, hn64⟩ := count_may hcn
  have HOP := Lib.hid (fun W (hW : Below w.heap.size w W) => open_any' p A A' nS 0 cS dS W (HP.step hW) (by omega) (hE.below hW))
  rw [hO] at HOP
  have HVC := Lib.hid (fun W (hW : Below w.heap.size w W) => vcheck_any v B n cB W ((hV.below hW).more hW.size) (fun s hs => by have := hall s hs; omega) (by omega))
  rw [hv] at HVC
  have HVR := Lib.hid (fun W (hW : Below w.heap.size w W) => vrooted_any v B n cB W ((hV.below hW).more hW.size) (by omega) (fun s hs => by have := hall s hs; omega) (hE.below hW))
  rw [hrt] at HVR
  obtain ⟨R, hR⟩ : ∃ R, storeF p n (1 - a) (g + 1) v (normD n D) = R := ⟨_, rfl⟩
  rw [hR]
  have HR := Lib.hid hR
  have HV := Lib.hid hV
  have HOK := Lib.hid hok
  obtain ⟨L, root⟩ := v
  dsimp only at *
  have HL := Lib.hid hl
  have HAL := Lib.hid hall
  have HEN := Lib.hid hE
  have HB0 : Hid (Below w.heap.size w ((((((w.alloc (.cells #[.slice A nS cS, .slice A' 0 dS] 42)).alloc (.cells #[.slice B n cB, .string root] 36)).alloc (.cells #[.int .i64 D] 3)).alloc (.cells #[.slice none 0 0, .slice none 0 0] 42)).alloc (.cells #[.bool false] 4)).alloc (.cells #[.int .i64 0] 37))) := Lib.hid (by go_grown)
  clear hP hV hO hv hrt hok hE hR hl hall hcn
  refine (callsIn_wide (n := 10)).1 ?_
  refine callsIn_of_wp_marks Tryz.func20 rfl trivial ?_ rfl
  simp only [Tryz.ntmps20, List.size_toArray, List.length_cons, List.length_nil, Nat.reduceAdd, Nat.reduceSub, Array.replicate_succ, Array.replicate_zero, List.push_toArray, List.append_toArray, List.nil_append, List.cons_append]
  gi_wp2_with fail
  refine ⟨trivial, ?_⟩
  gi_at_call 25
  refine (callsIn_wide.2 (HOP.out _ HB0.out)).mono ?_
  rintro e w1 ⟨vv, rfl, ⟨A1, c1, rfl, _⟩, hb1⟩
  have hX0 : Blk ((((((w.alloc (.cells #[.slice A nS cS, .slice A' 0 dS] 42)).alloc (.cells #[.slice B n cB, .string root] 36)).alloc (.cells #[.int .i64 D] 3)).alloc (.cells #[.slice none 0 0, .slice none 0 0] 42)).alloc (.cells #[.bool false] 4)).alloc (.cells #[.int .i64 0] 37)) w.heap.size 42 #[.slice A nS cS, .slice A' 0 dS] ∧ Blk ((((((w.alloc (.cells #[.slice A nS cS, .slice A' 0 dS] 42)).alloc (.cells #[.slice B n cB, .string root] 36)).alloc (.cells #[.int .i64 D] 3)).alloc (.cells #[.slice none 0 0, .slice none 0 0] 42)).alloc (.cells #[.bool false] 4)).alloc (.cells #[.int .i64 0] 37)) (w.heap.size + 1) 36 #[.slice B n cB, .string root] ∧ Blk ((((((w.alloc (.cells #[.slice A nS cS, .slice A' 0 dS] 42)).alloc (.cells #[.slice B n cB, .string root] 36)).alloc (.cells #[.int .i64 D] 3)).alloc (.cells #[.slice none 0 0, .slice none 0 0] 42)).alloc (.cells #[.bool false] 4)).alloc (.cells #[.int .i64 0] 37)) (w.heap.size + 1 + 1) 3 #[.int .i64 D] ∧ Blk ((((((w.alloc (.cells #[.slice A nS cS, .slice A' 0 dS] 42)).alloc (.cells #[.slice B n cB, .string root] 36)).alloc (.cells #[.int .i64 D] 3)).alloc (.cells #[.slice none 0 0, .slice none 0 0] 42)).alloc (.cells #[.bool false] 4)).alloc (.cells #[.int .i64 0] 37)) (w.heap.size + 1 + 1 + 1) 42 #[.slice none 0 0, .slice none 0 0] ∧ Blk ((((((w.alloc (.cells #[.slice A nS cS, .slice A' 0 dS] 42)).alloc (.cells #[.slice B n cB, .string root] 36)).alloc (.cells #[.int .i64 D] 3)).alloc (.cells #[.slice none 0 0, .slice none 0 0] 42)).alloc (.cells #[.bool false] 4)).alloc (.cells #[.int .i64 0] 37)) (w.heap.size + 1 + 1 + 1 + 1) 4 #[.bool false] ∧ Blk ((((((w.alloc (.cells #[.slice A nS cS, .slice A' 0 dS] 42)).alloc (.cells #[.slice B n cB, .string root] 36)).alloc (.cells #[.int .i64 D] 3)).alloc (.cells #[.slice none 0 0, .slice none 0 0] 42)).alloc (.cells #[.bool false] 4)).alloc (.cells #[.int .i64 0] 37)) (w.heap.size + 1 + 1 + 1 + 1 + 1) 37 #[.int .i64 0] :=
    ⟨(((((Blk.new w _ _).alloc _).alloc _).alloc _).alloc _).alloc _, ((((Blk.new_at (by simp) _ _).alloc _).alloc _).alloc _).alloc _, (((Blk.new_at (by simp) _ _).alloc _).alloc _).alloc _, ((Blk.new_at (by simp) _ _).alloc _).alloc _, (Blk.new_at (by simp) _ _).alloc _, Blk.new_at (by simp) _ _⟩
  generalize ((((((w.alloc (.cells #[.slice A nS cS, .slice A' 0 dS] 42)).alloc (.cells #[.slice B n cB, .string root] 36)).alloc (.cells #[.int .i64 D] 3)).alloc (.cells #[.slice none 0 0, .slice none 0 0] 42)).alloc (.cells #[.bool false] 4)).alloc (.cells #[.int .i64 0] 37)) = w0 at *
  unfold chestW
  have HX1 := Lib.hid (And.intro (hX0.1.below hb1 hX0.1.lt) (And.intro (hX0.2.1.below hb1 hX0.2.1.lt) (And.intro (hX0.2.2.1.below hb1 hX0.2.2.1.lt) (And.intro (hX0.2.2.2.1.below hb1 hX0.2.2.2.1.lt) (And.intro (hX0.2.2.2.2.1.below hb1 hX0.2.2.2.2.1.lt) (hX0.2.2.2.2.2.below hb1 hX0.2.2.2.2.2.lt))))))
  have HB1 := Lib.hid (HB0.out.trans (hb1.mono HB0.out.size))
  clear hX0 hb1 HB0 HOP
  gi_upto_region 2 with fail
  have hS2 : StoB w.heap.size w1.heap.size #[.slice A nS cS, .slice A' 0 dS] #[.slice B n cB, .string root] D #[.slice none 0 0, .slice none 0 0] #[.int .i64 n, .int .i64 a, .int .i64 g, .slice A1 u.blocks.length c1, .string u.root] 0 0 ((w1.alloc (.cells #[.int .i64 n, .int .i64 a, .int .i64 g, .slice A1 u.blocks.length c1, .string u.root] 71)).alloc (.cells #[.int .i64 0] 37)) :=
    ⟨(HX1.out.1.alloc _).alloc _, (HX1.out.2.1.alloc _).alloc _, (HX1.out.2.2.1.alloc _).alloc _, (HX1.out.2.2.2.1.alloc _).alloc _, (HX1.out.2.2.2.2.1.alloc _).alloc _, (HX1.out.2.2.2.2.2.alloc _).alloc _, (Blk.new w1 _ _).alloc _, Blk.new_at (by simp) _ _⟩
  have HB2 : Hid (Below w.heap.size w ((w1.alloc (.cells #[.int .i64 n, .int .i64 a, .int .i64 g, .slice A1 u.blocks.length c1, .string u.root] 71)).alloc (.cells #[.int .i64 0] 37))) := Lib.hid ((HB1.out.alloc HB1.out.size _).alloc (by have := HB1.out.size; simp; omega) _)
  have hx1 : w.heap.size + 1 + 1 + 1 + 1 + 1 < w1.heap.size := HX1.out.2.2.2.2.2.lt
  generalize ((w1.alloc (.cells #[.int .i64 n, .int .i64 a, .int .i64 g, .slice A1 u.blocks.length c1, .string u.root] 71)).alloc (.cells #[.int .i64 0] 37)) = w2 at *
  obtain ⟨x1, hx1e⟩ : ∃ x1, w1.heap.size = x1 := ⟨_, rfl⟩
  rw [hx1e] at hS2 hx1 ⊢
  have HS2 := Lib.hid hS2
  have HX1 := Lib.hid hx1
  clear hx1e hx1 hS2 HB1
  have e0 := HS2.out.e.cells 0 _ rfl
  have v0 := HS2.out.v.cells 0 _ rfl
  have v1 := HS2.out.v.cells 1 _ rfl
  simp only [List.getElem_toArray, List.getElem_cons_zero, List.getElem_cons_succ] at e0 v0 v1
  have i1 : IntKind.i64.wrap ((n : Int) + 1) = (n : Int) + 1 := IntWalk.i64_in _ (by omega)
  have i2 : IntKind.i64.wrap ((n : Int) + 1 + 4) = (n : Int) + 1 + 4 := IntWalk.i64_in _ (by omega)
  have i3 : ((g : Int) == 1000000000) = false := beq_eq_false_iff_ne.2 (by omega)
  gi_wp2_with fail
  refine ⟨trivial, ?_⟩
  gi_at_call 50
  refine (callsIn_wide.2 (HVC.out _ HB2.out)).mono ?_
  rintro e w3 ⟨rfl, hb3⟩
  have HS3 := Lib.hid (HS2.out.on_ hb3)
  have HB3 := Lib.hid (HB2.out.trans (hb3.mono HB2.out.size))
  clear hb3 HS2 HB2 HVC e0 v0 v1
  have v0 := HS3.out.v.cells 0 _ rfl
  have v1 := HS3.out.v.cells 1 _ rfl
  have c0 := HS3.out.c.cells 0 _ rfl
  simp only [List.getElem_toArray, List.getElem_cons_zero, List.getElem_cons_succ] at v0 v1 c0
  gi_wp2_with fail
  refine ⟨trivial, ?_⟩
  gi_at_call 51
  refine (callsIn_wide.2 (HVR.out _ HB3.out)).mono ?_
  rintro e w4 ⟨rfl, hb4⟩
  have HS4 := Lib.hid (HS3.out.on_ hb4)
  have HB4 := Lib.hid (HB3.out.trans (hb4.mono HB3.out.size))
  clear hb4 HS3 HB3 HVR v0 v1 c0
  have c0 := HS4.out.c.cells 0 _ rfl
  have c2 := HS4.out.c.cells 2 _ rfl
  have d0 := HS4.out.d.cells 0 _ rfl
  simp only [List.getElem_toArray, List.getElem_cons_zero, List.getElem_cons_succ] at c0 c2 d0
  have HND : Hid (∃ b : Bool, (b = true ∧ ((n : Int) + 1 + 4 = ((normD n D : Nat) : Int)) ∧ (D < 0 ∨ (n : Int) + 1 + 4 < D)) ∨ (b = false ∧ D = ((normD n D : Nat) : Int) ∧ ¬ (D < 0 ∨ (n : Int) + 1 + 4 < D))) := by
    show ∃ b : Bool, _ ∨ _
    unfold normD
    by_cases h : D < 0 ∨ ((n + 5 : Nat) : Int) < D
    · rw [if_pos h]; exact ⟨true, .inl ⟨rfl, by omega, by omega⟩⟩
    · rw [if_neg h]; exact ⟨false, .inr ⟨rfl, by omega, by omega⟩⟩
  obtain ⟨b, HNB⟩ := HND.out
  replace HNB := Lib.hid HNB
  clear HND
  gi_upto_region 11 with fail
  gi_cut [58] from 52 (fun v wx => v = .bool b ∧ wx = w4)
  case first =>
    by_cases h1 : D < 0
    · obtain rfl : b = true := by rcases HNB.out with ⟨h, _⟩ | ⟨_, _, h⟩; exact h; exact absurd (Or.inl h1) h
      gi_wp2_with fail
      gi_meet
      exact ⟨rfl, rfl⟩
    · by_cases h2 : (n : Int) + 1 + 4 < D
      · obtain rfl : b = true := by rcases HNB.out with ⟨h, _⟩ | ⟨_, _, h⟩; exact h; exact absurd (Or.inr h2) h
        gi_wp2_with fail
        gi_meet
        exact ⟨rfl, rfl⟩
      · obtain rfl : b = false := by
          rcases HNB.out with ⟨_, _, h⟩ | ⟨h, _⟩
          · omega
          · exact h
        gi_wp2_with fail
        gi_meet
        exact ⟨rfl, rfl⟩
  case rest =>
    obtain ⟨rfl, rfl⟩ := hcut
    gi_upto_if 58 with fail
    gi_cut [] from 52 (fun wx => Hid (StoB w.heap.size x1 #[.slice A nS cS, .slice A' 0 dS] #[.slice B n cB, .string root] ((normD n D : Nat) : Int) #[.slice none 0 0, .slice none 0 0] #[.int .i64 n, .int .i64 a, .int .i64 g, .slice A1 u.blocks.length c1, .string u.root] 0 0 wx) ∧ Hid (Below w.heap.size w wx))
    case first =>
      have hdf := HS4.out.d.frozen
      have hdl := HS4.out.d.lt
      cases b
      · gi_wp2_with fail
        gi_meet
        have hs := HS4.out
        rcases HNB.out with ⟨h, _⟩ | ⟨_, h, _⟩
        · cases h
        · rw [h] at hs
          exact ⟨Lib.hid hs, HB4⟩
      · gi_wp2_with fail
        gi_meet
        rcases HNB.out with ⟨_, h, _⟩ | ⟨h, _⟩
        · rw [h]
          exact ⟨Lib.hid (HS4.out.set_d HX1.out _), Lib.hid (HB4.out.setCell (p := ⟨w.heap.size + 1 + 1, 0, none⟩) (by show w.heap.size ≤ w.heap.size + 1 + 1; omega) _)⟩
        · cases h
    case rest =>
      obtain ⟨HS5, HB5⟩ := hcut
      clear HS4 HB4 c0 c2 d0
      gi_upto_region 13 with fail
      generalize wc = w5 at *
      have p0 := HS5.out.p.cells 0 _ rfl
      have p1 := HS5.out.p.cells 1 _ rfl
      simp only [List.getElem_toArray, List.getElem_cons_zero, List.getElem_cons_succ] at p0 p1
      obtain ⟨j0, hj0, hz0, hz1, hz2⟩ := info_parts str_info
      obtain ⟨j1, hk0, hy0, hy1, hy2⟩ := info_parts put_info
      have HSR : Hid (∀ W, Below w5.heap.size w5 W → Reads W W.heap.size 1 A nS (flat encS p.sectors)) := Lib.hid (fun W hb => (HP.step (HB5.out.trans (hb.mono HB5.out.size))).1.reads encS_len)
      refine wpIn_wide_T [7] (fun W => Below w5.heap.size w5 W ∧ W.cell? ⟨w.heap.size, 0, none⟩ = some (.slice A nS cS) ∧ W.cell? ⟨w.heap.size, 1, none⟩ = some (.slice A' 0 dS)) (by kernel_rfl) (by kernel_rfl) ?_
      have hHeld : (fun W => Below w5.heap.size w5 W ∧ W.cell? ⟨w.heap.size, 0, none⟩ = some (.slice A nS cS) ∧ W.cell? ⟨w.heap.size, 1, none⟩ = some (.slice A' 0 dS)) _ := ⟨(Below.refl _ _).drew, p0, p1⟩
      refine wpAnyT_take (i := 0) (v := ?tv1) _ _ _ _ rfl (by kernel_rfl) (by kernel_rfl) (by kernel_rfl) (fun _ _ _ h => nomatch h.1) (by kernel_rfl) (by kernel_rfl) (by kernel_rfl) (Or.inl ⟨by rfl, ?th1⟩) hHeld ?tr1
      case th1 => (intro w hSw; (try dsimp only at hSw); go_simp; try with_reducible rfl)
      try simp only [Act.put, lst]
      refine wpAnyT_take (i := 1) (v := ?tv2) _ _ _ _ rfl (by kernel_rfl) (by kernel_rfl) (by kernel_rfl) (fun _ _ _ h => nomatch h.1) (by kernel_rfl) (by kernel_rfl) (by kernel_rfl) (Or.inl ⟨by rfl, ?th2⟩) hHeld ?tr2
      case th2 => (intro w hSw; (try dsimp only at hSw); go_simp; try with_reducible rfl)
      try simp only [Act.put, lst]
      refine wpAnyT_take (i := 3) (v := ?tv3) _ _ _ _ rfl (by kernel_rfl) (by kernel_rfl) (by kernel_rfl) (fun _ _ _ h => nomatch h.1) (by kernel_rfl) (by kernel_rfl) (by kernel_rfl) (Or.inl ⟨by rfl, ?th3⟩) hHeld ?tr3
      case th3 => (intro w hSw; (try dsimp only at hSw); go_simp; try with_reducible rfl)
      try simp only [Act.put, lst]
      refine wpAnyT_take (i := 4) (v := ?tv4) _ _ _ _ rfl (by kernel_rfl) (by kernel_rfl) (by kernel_rfl) (fun _ _ _ h => nomatch h.1) (by kernel_rfl) (by kernel_rfl) (by kernel_rfl) (Or.inl ⟨by rfl, ?th4⟩) hHeld ?tr4
      case th4 => (intro w hSw; (try dsimp only at hSw); go_simp; try with_reducible rfl)
      try simp only [Act.put, lst]
      refine wpAnyT_ready (rs := [2]) (by kernel_rfl) (by simp) ?_
      refine AllReadyT.cons rfl (fun K hK => ?_) AllReadyT.nil
      rw [if_pos (by rfl)]
      simp only [lst]
      have hPrev := Lib.hid hHeld
      clear hHeld
      refine wp_append_any _ (.const (.slice none 0 0)) (.tmp 61) _ rfl w5.heap.size _ j0 _ 1 16 Tryz.underlying30 hj0 hz0 hz1 hz2 rfl (by omega) (.slice none 0 0) 0 [] rfl (World.ownsRow_nil _ _ _ _) _ A nS cS (flat encS p.sectors) (by simp [Act.eval]) (HSR.out _ hPrev.out.1) (one_flatS p.sectors) (by simp only [maxLen]; omega) (by omega) hPrev.out.1.size ?_
      intro v1 w6 hown1 hg1 hat1
      obtain ⟨A6, c6, rfl, _, _, _⟩ := own_form hown1
      have hb6 := below_of_grown hg1
      simp only [Nat.zero_add, List.nil_append] at hown1 ⊢
      have HOW := Lib.hid hown1
      clear hown1 hg1 hat1
      refine hK.out _ _ (⟨hPrev.out.1.trans (hb6.mono hPrev.out.1.size), (hb6.cell (World.block_lt_of_cell? _ _ hPrev.out.2.1)).trans hPrev.out.2.1, (hb6.cell (World.block_lt_of_cell? _ _ hPrev.out.2.2)).trans hPrev.out.2.2⟩) (fun hHeld => ?_)
      clear hK K hPrev
      try simp only [Act.put, lst]
      refine wpAnyT_take (i := 5) (v := (.slice none 0 0)) _ _ _ _ rfl (by kernel_rfl) (by kernel_rfl) (by kernel_rfl) (fun _ _ _ h => nomatch h.1) (by kernel_rfl) (by kernel_rfl) (by kernel_rfl) (yields_append_none (.const (.slice none 0 0)) (.tmp 64) _ _ _ A' dS rfl (by rfl) rfl rfl Tryz.underlying40 hk0) hHeld ?tr5
      try simp only [Act.put, lst]
      refine wpAnyT_pure (i := 6) (v := ?tv6) _ _ _ _ rfl (by kernel_rfl) (by kernel_rfl) (fun _ _ _ h => nomatch h.1) (by kernel_rfl) (by kernel_rfl) (by kernel_rfl) (Or.inl ⟨by rfl, ?th6⟩) hHeld ?tr6
      case th6 => (intro w hSw; clear hSw; go_simp; try with_reducible rfl)
      try simp only [Act.put, lst]
      refine wpAnyT_ready (rs := [7]) (by kernel_rfl) (by simp) ?_
      refine AllReadyT.late rfl (by kernel_rfl) (fun K hK => ?_) AllReadyT.nil
      rw [if_pos (by rfl)]
      simp only [lst]
      have hs6 := HS5.out.on_ hHeld.1
      have zf := hs6.p.frozen
      have zl := hs6.p.lt
      have z0 := hs6.p.cells 0 _ rfl
      have z1 := hs6.p.cells 1 _ rfl
      simp only [List.getElem_toArray, List.getElem_cons_zero, List.getElem_cons_succ] at z0 z1
      have HS6 := Lib.hid (hs6.set_p HX1.out (.slice A6 nS c6) (.slice none 0 0))
      have HB6 := Lib.hid (((HB5.out.trans (hHeld.1.mono HB5.out.size)).setCell (p := ⟨w.heap.size, 0, none⟩) (Nat.le_refl _) (.slice A6 nS c6)).setCell (p := ⟨w.heap.size, 1, none⟩) (Nat.le_refl _) (.slice none 0 0))
      have HO6 := Lib.hid (own_far (own_far HOW.out (own_blk_ne HOW.out hs6.p (by decide)) 0 (.slice A6 nS c6)) (own_blk_ne HOW.out hs6.p (by decide)) 1 (.slice none 0 0))
      clear hs6 HOW hHeld
      go_simp
      refine hK.out _ _ ?_
      clear hK K
      try simp only [Act.put, lst]
      refine wpAnyT_done (by kernel_rfl) ⟨rfl, ?_⟩
      generalize (w6.setCell ⟨w.heap.size, 0, none⟩ (.slice A6 nS c6)).setCell ⟨w.heap.size, 1, none⟩ (.slice none 0 0) = w7 at *
      have HO7 := Lib.hid (plat_own_bare HLN.out.1 HLN.out.2 HO6.out HB5.out.size)
      have v0 := HS6.out.v.cells 0 _ rfl
      have v1 := HS6.out.v.cells 1 _ rfl
      have ch0 := HS6.out.c.cells 0 _ rfl
      have ch1 := HS6.out.c.cells 1 _ rfl
      have ch2 := HS6.out.c.cells 2 _ rfl
      have ch3 := HS6.out.c.cells 3 _ rfl
      have ch4 := HS6.out.c.cells 4 _ rfl
      simp only [List.getElem_toArray, List.getElem_cons_zero, List.getElem_cons_succ] at v0 v1 ch0 ch1 ch2 ch3 ch4
      clear p0 p1 HO6 HS5 HB5 HSR zf zl z0 z1
      gi_wp2_with fail
      refine ⟨trivial, ?_⟩
      gi_at_call 52
      refine (deeds_in Fence.wide _ trivial rfl n a g A1 u.blocks.length c1 u.root B n cB root w7).mono ?_
      rintro e w8 ⟨rfl, rfl⟩
      gi_wp2_with fail
      have hcb0 : Blk ((w7.alloc (.cells #[.int .i64 n, .int .i64 a, .int .i64 g, .slice A1 u.blocks.length c1, .string u.root] 71)).alloc (.cells #[.slice B n cB, .string root] 36)) w7.heap.size 71 #[.int .i64 n, .int .i64 a, .int .i64 g, .slice A1 u.blocks.length c1, .string u.root] := (Blk.new _ _ _).alloc _
      have hvb0 : Blk ((w7.alloc (.cells #[.int .i64 n, .int .i64 a, .int .i64 g, .slice A1 u.blocks.length c1, .string u.root] 71)).alloc (.cells #[.slice B n cB, .string root] 36)) (w7.heap.size + 1) 36 #[.slice B n cB, .string root] := Blk.new_at (by simp) _ _
      have hb80 : Below w7.heap.size w7 ((w7.alloc (.cells #[.int .i64 n, .int .i64 a, .int .i64 g, .slice A1 u.blocks.length c1, .string u.root] 71)).alloc (.cells #[.slice B n cB, .string root] 36)) := ((Below.refl _ _).alloc (Nat.le_refl _) _).alloc (by simp) _
      have HS8 := Lib.hid (HS6.out.on_ hb80)
      have HO8 := Lib.hid (HO7.out.on_ hb80)
      have HB8 := Lib.hid (HB6.out.trans (hb80.mono HB6.out.size))
      have hx7 : x1 + 1 < w7.heap.size := HS6.out.e.lt
      clear v0 v1 ch0 ch1 ch2 ch3 ch4 hb80 HS6 HO7 HB6
      generalize ((w7.alloc (.cells #[.int .i64 n, .int .i64 a, .int .i64 g, .slice A1 u.blocks.length c1, .string u.root] 71)).alloc (.cells #[.slice B n cB, .string root] 36)) = w8 at *
      obtain ⟨cb, hcb⟩ : ∃ cb, w7.heap.size = cb := ⟨_, rfl⟩
      rw [hcb] at hcb0 hvb0 hx7 ⊢
      have HX7 := Lib.hid hx7
      clear hcb hx7
      have HCB := Lib.hid hcb0
      have HVB := Lib.hid hvb0
      clear hcb0 hvb0
      obtain ⟨N, hN⟩ : ∃ N, normD n D = N := ⟨_, rfl⟩
      rw [hN] at HS8 HR HNB
      clear HNB i1 i2 i3
      have HNS : Hid (N ≤ 1000000) := by show _ ≤ _; rw [← hN]; unfold normD; split <;> omega
      clear hN
      have hZ : w.heap.size ≤ w8.heap.size := HB8.out.size
      have HJ0 : Hid (StoJ w x1 w8.heap.size #[.slice B n cB, .string root] #[.int .i64 n, .int .i64 a, .int .i64 g, .slice A1 u.blocks.length c1, .string u.root] p n (1 - a) L N [] w8) := Lib.hid ⟨Nat.zero_le _, Nat.zero_le _, _, HO8.out, HS8.out, HB8.out, Nat.le_refl _⟩
      have hx : w.heap.size < cb := by have h1 := HX1.out; have h2 := HX7.out; omega
      have HSEQ := Lib.hid (deeds_seq (S := fun k => k < w.heap.size ∨ k = cb ∨ k = cb + 1) (cb := cb) (10 - 1) (by omega) HVB.out (.inr (.inr rfl)) (fun k hk => .inl hk) HV.out HB8.out hn1 hn64)
      clear HS8 HO8 HP HLN
      refine' wpIn_rangeFunc_stopN rfl (by omega) (gf := 91) (lb := #[.pointer (some ⟨cb + 1, 0, none⟩), .pointer (some ⟨cb, 0, none⟩)]) rfl trivial (enters_of Tryz.func91 (by kernel_rfl) rfl)
        (encs := fun x => #[deedX cb x]) (S := fun ys => ys.length = n + 1) (Nx := deedNx L w8.heap.size) (Kp := KeptAt (fun k => k < w.heap.size ∨ k = cb ∨ k = cb + 1)) HSEQ.out (fun _ => rfl)
        KeptAt.trans (fun W l o' hl => KeptAt.put (by have := HVB.out.lt; have := HCB.out.lt; omega) o' W)
        (fun pre W => StoJ w x1 w8.heap.size #[.slice B n cB, .string root] #[.int .i64 n, .int .i64 a, .int .i64 g, .slice A1 u.blocks.length c1, .string u.root] p n (1 - a) L N pre W ∧ Blk W cb 71 #[.int .i64 n, .int .i64 a, .int .i64 g, .slice A1 u.blocks.length c1, .string u.root])
        (fun _ => StoY w x1 w8.heap.size #[.slice B n cB, .string root] #[.int .i64 n, .int .i64 a, .int .i64 g, .slice A1 u.blocks.length c1, .string u.root] p n (1 - a) L N)
        ((StoJ.from_ hZ).and (fun s W W' row hs hg hr => blk_keep hs hg fun r e => (hr r e).2)) (StoY.from_ hZ) (fun pre x => deedNx_from _ _ _ pre x) (fun s A B h hb => ⟨⟨h.1.1, h.1.2.1, h.1.2.2.on_ hb⟩, h.2.below hb h.2.lt⟩) (fun s A B h hb => ⟨h.1, h.2.on_ hb⟩) ⟨HJ0.out, HCB.out⟩ _ ?assign ?body ?done ?stop
      case assign =>
        intro l x W K hK
        gi_wp2
        exact hK
      case body =>
        rintro l pre x W hl hlo ⟨⟨hp1, hp2, P, hO, hS, hB, hz⟩, hcbW⟩ hnx
        have HCW := Lib.hid hcbW
        have HS := Lib.hid hS
        have HB := Lib.hid hB
        have HNX := Lib.hid hnx
        have hpl : pre.length ≤ n := by
          cases x with
          | none => have : pre.length = L.length := hnx; rw [HL.out] at this; omega
          | some q => obtain ⟨ib, sb⟩ := q; obtain ⟨s, h1, _⟩ := hnx; have := (List.getElem?_eq_some_iff.1 h1).1; rw [HL.out] at this; omega
        have HLO := Lib.hid hlo
        obtain ⟨Ap, cp, Ap', cp', np, mp, hPe, hnp, hmp, hat, hO⟩ := hO.slices
        injection hPe with hPe
        subst hPe
        have HO := Lib.hid hO
        have HAT := Lib.hid hat
        have HLN := Lib.hid (And.intro hnp hmp)
        clear hS hB hO hat hnp hmp hnx hlo hcbW
        have p0 := HS.out.p.cells 0 _ rfl
        have p1 := HS.out.p.cells 1 _ rfl
        have d0 := HS.out.d.cells 0 _ rfl
        simp only [List.getElem_toArray, List.getElem_cons_zero, List.getElem_cons_succ] at p0 p1 d0
        by_cases hd : pre.length = N
        · have hd0 : ((N - pre.length : Nat) : Int) = 0 := by omega
          rw [hd0] at d0
          clear hd0
          have ra0 := HS.out.r0.cells 0 _ rfl
          have ra1 := HS.out.r0.cells 1 _ rfl
          have raf := HS.out.r0.frozen
          have ral := HS.out.r0.lt
          have rb0 := HS.out.r1.cells 0 _ rfl
          have rbf := HS.out.r1.frozen
          have rbl := HS.out.r1.lt
          have rc0 := HS.out.r2.cells 0 _ rfl
          have rcf := HS.out.r2.frozen
          have rcl := HS.out.r2.lt
          simp only [List.getElem_toArray, List.getElem_cons_zero, List.getElem_cons_succ] at ra0 ra1 rb0 rc0
          gi_wp2_with fail
          obtain ⟨hs, ho, hb⟩ := sto_exit HS.out HX1.out HO.out HB.out
          exact ⟨((KeepsOthers.setCell _ _ _).trans ((KeepsOthers.setCell _ _ _).trans ((KeepsOthers.setCell _ _ _).trans (KeepsOthers.setCell _ _ _)))).from _, by omega, _, _, by rw [← hd]; exact ho, hs, hb, by simpa using hz⟩
        · have hd1 : (((N - pre.length : Nat) : Int) == 0) = false := beq_eq_false_iff_ne.2 (by omega)
          have i4 : IntKind.i64.wrap (((N - pre.length : Nat) : Int) - 1) = ((N - (pre.length + 1) : Nat) : Int) := by
            rw [IntWalk.i64_in _ (by have : N ≤ 1000000 := HNS.out; omega)]
            omega
          have HND := Lib.hid hd
          clear hd
          obtain ⟨d1, hd1e⟩ : ∃ d1 : Int, ((N - pre.length : Nat) : Int) = d1 := ⟨_, rfl⟩
          rw [hd1e] at hd1 i4 d0 HS
          clear hd1e
          cases x with
          | some q =>
            obtain ⟨ib, sb⟩ := q
            dsimp only [deedX]
            obtain ⟨s, hs1, hs2, hs3, hs4, hs5⟩ := HNX.out
            have hk : pre.length < n := by have := (List.getElem?_eq_some_iff.1 hs1).1; rw [HL.out] at this; exact this
            have HDK : DeedOk W cb ib sb n a pre.length (.int .i64 g) (.slice A1 u.blocks.length c1) (.string u.root) s := fun W' hb => ⟨HCW.out.below hb HCW.out.lt, hs4.below hb hs4.lt, hs5.below hb hs5.lt⟩
            have HDD := Lib.hid (deed_any _ cb ib sb n a pre.length _ _ _ s Ap Ap' np mp cp cp' W HAT.out HDK hn64 ha (by omega))
            have hq2 := deeds_write HOK.out hk hs1
            have hq1 := deedTo_some (p := p) (b := 1 - a) hk hs1
            obtain ⟨⟨Q, qe⟩, hQ⟩ : ∃ V, writeF (deedTo p n (1 - a) L pre.length) (sectorN n (1 - a) pre.length : Nat) s = V := ⟨_, rfl⟩
            rw [hQ] at HDD hq1 hq2
            dsimp only at hq1 hq2
            subst hq2
            have HQ1 := Lib.hid hq1
            unfold Out2P at HDD
            dsimp only at HDD
            clear hs1 hs2 hs3 hs4 hs5 hQ hq1 HDK
            gi_wp2_with fail
            refine ⟨trivial, ?_⟩
            gi_at_call 92
            refine (CallsIn.inRound l (callsIn_wide.2 HDD.out)).mono ?_
            rintro e w9 ⟨v9, rfl, hO9, hb9⟩
            obtain ⟨A9, c9, A9', c9', n9, m9, rfl, _, _, hat9, hO9⟩ := (hO9.base (B' := w.heap.size) HB.out.size).slices
            have HO9 := Lib.hid hO9
            have HS9 := Lib.hid (HS.out.on_ hb9)
            have HB9 := Lib.hid hb9
            clear hO9 hb9 hat9 p0 p1 d0
            have hn1 : ¬ x1 = w.heap.size + 1 := by have := HX1.out; omega
            have hn2 : ¬ w.heap.size + 1 = x1 := by have := HX1.out; omega
            have hn3 : ¬ x1 + 1 = w.heap.size := by have := HX1.out; omega
            have hn4 : ¬ w.heap.size = x1 + 1 := by have := HX1.out; omega
            have p0 := HS9.out.p.cells 0 _ rfl
            have p1 := HS9.out.p.cells 1 _ rfl
            have pf := HS9.out.p.frozen
            have pl := HS9.out.p.lt
            have e0 := HS9.out.e.cells 0 _ rfl
            have ef := HS9.out.e.frozen
            have el := HS9.out.e.lt
            have d0 := HS9.out.d.cells 0 _ rfl
            have df := HS9.out.d.frozen
            have dl := HS9.out.d.lt
            simp only [List.getElem_toArray, List.getElem_cons_zero, List.getElem_cons_succ] at p0 p1 e0 d0
            gi_wp2_with fail
            obtain ⟨hs, ho, hb⟩ := sto_turn HS9.out HX1.out HO9.out (HB.out.trans (HB9.out.mono HB.out.size)) ((N - (pre.length + 1) : Nat) : Int)
            have hc9 := HCW.out.below HB9.out HCW.out.lt
            have hx1 := HX1.out
            have hx7 := HX7.out
            refine ⟨((keepsOthers_below HB9.out).trans ((KeepsOthers.setCell _ _ _).trans ((KeepsOthers.setCell _ _ _).trans ((KeepsOthers.setCell _ _ _).trans (KeepsOthers.setCell _ _ _))))).from _, ?_, ⟨?_, ?_, ?_⟩, ?_⟩
            · exact ((((KeptAt.of_below HB9.out).set (by omega) 0 _).set (by omega) 1 _).set (by omega) 0 _).set (by omega) 0 _
            · rw [List.length_append]; simp; omega
            · rw [List.length_append]; have := HND.out; simp; omega
            · rw [show (pre ++ [(some (ib, sb) : Option (Nat × Nat))]).length = pre.length + 1 from by simp, HQ1.out]
              exact ⟨_, ho, hs, hb, by have := HB9.out.size; simp; omega⟩
            · exact (((hc9.far (p := ⟨w.heap.size, 0, none⟩) (by show cb ≠ w.heap.size; omega) _).far (p := ⟨w.heap.size, 1, none⟩) (by show cb ≠ w.heap.size; omega) _).far (p := ⟨x1 + 1, 0, none⟩) (by show cb ≠ x1 + 1; omega) _).far (p := ⟨w.heap.size + 1 + 1, 0, none⟩) (by show cb ≠ w.heap.size + 1 + 1; omega) _
          | none =>
            dsimp only [deedX]
            have hk : pre.length = n := (show pre.length = L.length from HNX.out).trans HL.out
            have HDD := Lib.hid (sync_any _ Ap Ap' np mp cp cp' W HAT.out)
            have hq2 := deeds_sync HOK.out
            have hq1 : deedTo p n (1 - a) L (pre.length + 1) = (syncF (deedTo p n (1 - a) L pre.length)).1 := by rw [hk]; exact deedTo_sync
            rw [← hk] at hq2
            obtain ⟨⟨Q, qe⟩, hQ⟩ : ∃ V, syncF (deedTo p n (1 - a) L pre.length) = V := ⟨_, rfl⟩
            rw [hk] at hq2 hQ
            rw [hk] at HDD hq1
            rw [hQ] at HDD hq1 hq2
            dsimp only at hq1 hq2
            subst hq2
            have HQ1 := Lib.hid (show deedTo p n (1 - a) L (pre.length + 1) = Q by rw [hk]; exact hq1)
            have HK := Lib.hid hk
            unfold Out2P at HDD
            dsimp only at HDD
            clear hQ hq1 hk
            gi_wp2_with fail
            refine ⟨trivial, ?_⟩
            gi_at_call 86
            refine (CallsIn.inRound l (callsIn_wide.2 HDD.out)).mono ?_
            rintro e w9 ⟨v9, rfl, hO9, hb9⟩
            obtain ⟨A9, c9, A9', c9', n9, m9, rfl, _, _, hat9, hO9⟩ := (hO9.base (B' := w.heap.size) HB.out.size).slices
            have HO9 := Lib.hid hO9
            have HS9 := Lib.hid (HS.out.on_ hb9)
            have HB9 := Lib.hid hb9
            clear hO9 hb9 hat9 p0 p1 d0
            have hn1 : ¬ x1 = w.heap.size + 1 := by have := HX1.out; omega
            have hn2 : ¬ w.heap.size + 1 = x1 := by have := HX1.out; omega
            have hn3 : ¬ x1 + 1 = w.heap.size := by have := HX1.out; omega
            have hn4 : ¬ w.heap.size = x1 + 1 := by have := HX1.out; omega
            have p0 := HS9.out.p.cells 0 _ rfl
            have p1 := HS9.out.p.cells 1 _ rfl
            have pf := HS9.out.p.frozen
            have pl := HS9.out.p.lt
            have e0 := HS9.out.e.cells 0 _ rfl
            have ef := HS9.out.e.frozen
            have el := HS9.out.e.lt
            have d0 := HS9.out.d.cells 0 _ rfl
            have df := HS9.out.d.frozen
            have dl := HS9.out.d.lt
            simp only [List.getElem_toArray, List.getElem_cons_zero, List.getElem_cons_succ] at p0 p1 e0 d0
            gi_wp2_with fail
            obtain ⟨hs, ho, hb⟩ := sto_turn HS9.out HX1.out HO9.out (HB.out.trans (HB9.out.mono HB.out.size)) ((N - (pre.length + 1) : Nat) : Int)
            have hc9 := HCW.out.below HB9.out HCW.out.lt
            have hx1 := HX1.out
            have hx7 := HX7.out
            refine ⟨((keepsOthers_below HB9.out).trans ((KeepsOthers.setCell _ _ _).trans ((KeepsOthers.setCell _ _ _).trans ((KeepsOthers.setCell _ _ _).trans (KeepsOthers.setCell _ _ _))))).from _, ?_, ⟨?_, ?_, ?_⟩, ?_⟩
            · exact ((((KeptAt.of_below HB9.out).set (by omega) 0 _).set (by omega) 1 _).set (by omega) 0 _).set (by omega) 0 _
            · rw [List.length_append]; simp; omega
            · rw [List.length_append]; have := HND.out; simp; omega
            · rw [show (pre ++ [(none : Option (Nat × Nat))]).length = pre.length + 1 from by simp, HQ1.out]
              exact ⟨_, ho, hs, hb, by have := HB9.out.size; simp; omega⟩
            · exact (((hc9.far (p := ⟨w.heap.size, 0, none⟩) (by show cb ≠ w.heap.size; omega) _).far (p := ⟨w.heap.size, 1, none⟩) (by show cb ≠ w.heap.size; omega) _).far (p := ⟨x1 + 1, 0, none⟩) (by show cb ≠ x1 + 1; omega) _).far (p := ⟨w.heap.size + 1 + 1, 0, none⟩) (by show cb ≠ w.heap.size + 1 + 1; omega) _
      case done =>
        rintro Dd ys W hD hys ⟨⟨hp1, hp2, P, hO, hS, hB, hz⟩, hcbW⟩ hK
        rw [hys] at hO hS hp2
        have HE : Hid (R = putF (deedTo p n (1 - a) L (n + 1)) 0 (vheadB (g + 1) (1 - a) root) ((N - (n + 1) : Nat) : Int)) := by
          have h := HR.out
          unfold storeF at h
          rw [if_neg (by omega)] at h
          exact Lib.hid h.symm
        generalize deedTo p n (1 - a) L (n + 1) = Q at *
        obtain ⟨Ap, cp, Ap', cp', np, mp, hPe, hnp, hmp, hat, hO⟩ := hO.slices
        injection hPe with hPe
        subst hPe
        obtain ⟨d1, hd1e⟩ : ∃ d1 : Int, ((N - (n + 1) : Nat) : Int) = d1 := ⟨_, rfl⟩
        rw [hd1e] at HE hS
        have HHD := Lib.hid (fun W => head_any (g + 1) (1 - a) root W (by omega) (by omega) hr32)
        obtain ⟨Hd, hHd⟩ : ∃ h, vheadB (g + 1) (1 - a) root = h := ⟨_, rfl⟩
        rw [hHd] at HHD HE
        have HAT := Lib.hid (fun W' (hW : Below W.heap.size W W') => put_any Q 0 Hd d1 Ap Ap' np mp cp cp' W' (hat.grow hW))
        obtain ⟨⟨Q2, dn, qe⟩, hQ⟩ : ∃ V, putF Q 0 Hd d1 = V := ⟨_, rfl⟩
        rw [hQ] at HAT HE
        unfold OutDo at HAT
        dsimp only at HAT
        have i1 : IntKind.i64.wrap ((g : Int) + 1) = ((g + 1 : Nat) : Int) := by rw [IntWalk.i64_in _ (by omega)]; omega
        have i2 : IntKind.i64.wrap (1 - (a : Int)) = ((1 - a : Nat) : Int) := by rw [IntWalk.i64_in _ (by omega)]; omega
        obtain ⟨b1, hb1⟩ : ∃ b1 : Int, ((1 - a : Nat) : Int) = b1 := ⟨_, rfl⟩
        obtain ⟨g1, hg1⟩ : ∃ g1 : Int, ((g + 1 : Nat) : Int) = g1 := ⟨_, rfl⟩
        rw [hb1] at HHD i2
        rw [hg1] at HHD i1
        have HS := Lib.hid hS
        have HB := Lib.hid hB
        have HK := Lib.hid hK
        have p0 := hS.p.cells 0 _ rfl
        have p1 := hS.p.cells 1 _ rfl
        have d0 := hS.d.cells 0 _ rfl
        have k1 := hS.c.cells 1 _ rfl
        have k2 := hS.c.cells 2 _ rfl
        have v1 := hS.v.cells 1 _ rfl
        simp only [List.getElem_toArray, List.getElem_cons_zero, List.getElem_cons_succ] at p0 p1 d0 k1 k2 v1
        clear hS hO hB hK hat hnp hmp hcbW hQ hHd hd1e hb1 hg1 hys
        gi_upto_region 22 with fail
        refine wpIn_wide_T [16, 17, 18] (fun W' => Below W.heap.size W W' ∧ W'.cell? ⟨w.heap.size, 0, none⟩ = some (.slice Ap np cp) ∧ W'.cell? ⟨w.heap.size, 1, none⟩ = some (.slice Ap' mp cp') ∧ W'.cell? ⟨w.heap.size + 1 + 1, 0, none⟩ = some (.int .i64 d1) ∧ W'.cell? ⟨x1, 1, none⟩ = some (.int .i64 a) ∧ W'.cell? ⟨x1, 2, none⟩ = some (.int .i64 g) ∧ W'.cell? ⟨w.heap.size + 1, 1, none⟩ = some (.string root)) (by kernel_rfl) (by kernel_rfl) ?_
        have hHeld : (fun W' => Below W.heap.size W W' ∧ W'.cell? ⟨w.heap.size, 0, none⟩ = some (.slice Ap np cp) ∧ W'.cell? ⟨w.heap.size, 1, none⟩ = some (.slice Ap' mp cp') ∧ W'.cell? ⟨w.heap.size + 1 + 1, 0, none⟩ = some (.int .i64 d1) ∧ W'.cell? ⟨x1, 1, none⟩ = some (.int .i64 a) ∧ W'.cell? ⟨x1, 2, none⟩ = some (.int .i64 g) ∧ W'.cell? ⟨w.heap.size + 1, 1, none⟩ = some (.string root)) _ := ⟨(Below.refl _ _).drew, p0, p1, d0, k1, k2, v1⟩
        refine wpAnyT_take (i := 0) (v := ?tv7) _ _ _ _ rfl (by kernel_rfl) (by kernel_rfl) (by kernel_rfl) (fun _ _ _ h => nomatch h.1) (by kernel_rfl) (by kernel_rfl) (by kernel_rfl) (Or.inl ⟨by rfl, ?th7⟩) hHeld ?tr7
        case th7 => (intro w hSw; (try dsimp only at hSw); go_simp; try with_reducible rfl)
        try simp only [Act.put, lst]
        refine wpAnyT_take (i := 1) (v := ?tv8) _ _ _ _ rfl (by kernel_rfl) (by kernel_rfl) (by kernel_rfl) (fun _ _ _ h => nomatch h.1) (by kernel_rfl) (by kernel_rfl) (by kernel_rfl) (Or.inl ⟨by rfl, ?th8⟩) hHeld ?tr8
        case th8 => (intro w hSw; (try dsimp only at hSw); go_simp; try with_reducible rfl)
        try simp only [Act.put, lst]
        refine wpAnyT_take (i := 2) (v := ?tv9) _ _ _ _ rfl (by kernel_rfl) (by kernel_rfl) (by kernel_rfl) (fun _ _ _ h => nomatch h.1) (by kernel_rfl) (by kernel_rfl) (by kernel_rfl) (Or.inl ⟨by rfl, ?th9⟩) hHeld ?tr9
        case th9 => (intro w hSw; (try dsimp only at hSw); go_simp; try with_reducible rfl)
        try simp only [Act.put, lst]
        refine wpAnyT_take (i := 3) (v := ?tv10) _ _ _ _ rfl (by kernel_rfl) (by kernel_rfl) (by kernel_rfl) (fun _ _ _ h => nomatch h.1) (by kernel_rfl) (by kernel_rfl) (by kernel_rfl) (Or.inl ⟨by rfl, ?th10⟩) hHeld ?tr10
        case th10 => (intro w hSw; (try dsimp only at hSw); go_simp; try with_reducible rfl)
        try simp only [Act.put, lst]
        refine wpAnyT_take (i := 4) (v := ?tv11) _ _ _ _ rfl (by kernel_rfl) (by kernel_rfl) (by kernel_rfl) (fun _ _ _ h => nomatch h.1) (by kernel_rfl) (by kernel_rfl) (by kernel_rfl) (Or.inl ⟨by rfl, ?th11⟩) hHeld ?tr11
        case th11 => (intro w hSw; (try dsimp only at hSw); go_simp; try with_reducible rfl)
        try simp only [Act.put, lst]
        refine wpAnyT_take (i := 5) (v := ?tv12) _ _ _ _ rfl (by kernel_rfl) (by kernel_rfl) (by kernel_rfl) (fun _ _ _ h => nomatch h.1) (by kernel_rfl) (by kernel_rfl) (by kernel_rfl) (Or.inl ⟨by rfl, ?th12⟩) hHeld ?tr12
        case th12 => (intro w hSw; (try dsimp only at hSw); go_simp; try with_reducible rfl)
        try simp only [Act.put, lst]
        refine wpAnyT_take (i := 6) (v := ?tv13) _ _ _ _ rfl (by kernel_rfl) (by kernel_rfl) (by kernel_rfl) (fun _ _ _ h => nomatch h.1) (by kernel_rfl) (by kernel_rfl) (by kernel_rfl) (Or.inl ⟨by rfl, ?th13⟩) hHeld ?tr13
        case th13 => (intro w hSw; (try dsimp only at hSw); go_simp; try with_reducible rfl)
        try simp only [Act.put, lst]
        refine wpAnyT_take (i := 7) (v := ?tv14) _ _ _ _ rfl (by kernel_rfl) (by kernel_rfl) (by kernel_rfl) (fun _ _ _ h => nomatch h.1) (by kernel_rfl) (by kernel_rfl) (by kernel_rfl) (Or.inl ⟨by rfl, ?th14⟩) hHeld ?tr14
        case th14 => (intro w hSw; (try dsimp only at hSw); go_simp; try with_reducible rfl)
        try simp only [Act.put, lst]
        refine wpAnyT_take (i := 8) (v := ?tv15) _ _ _ _ rfl (by kernel_rfl) (by kernel_rfl) (by kernel_rfl) (fun _ _ _ h => nomatch h.1) (by kernel_rfl) (by kernel_rfl) (by kernel_rfl) (Or.inl ⟨by rfl, ?th15⟩) hHeld ?tr15
        case th15 => (intro w hSw; (try dsimp only at hSw); go_simp; try with_reducible rfl)
        try simp only [Act.put, lst]
        refine wpAnyT_take (i := 9) (v := ?tv16) _ _ _ _ rfl (by kernel_rfl) (by kernel_rfl) (by kernel_rfl) (fun _ _ _ h => nomatch h.1) (by kernel_rfl) (by kernel_rfl) (by kernel_rfl) (Or.inl ⟨by rfl, ?th16⟩) hHeld ?tr16
        case th16 => (intro w hSw; (try dsimp only at hSw); go_simp; try with_reducible rfl)
        try simp only [Act.put, lst]
        refine wpAnyT_take (i := 11) (v := ?tv17) _ _ _ _ rfl (by kernel_rfl) (by kernel_rfl) (by kernel_rfl) (fun _ _ _ h => nomatch h.1) (by kernel_rfl) (by kernel_rfl) (by kernel_rfl) (Or.inl ⟨by rfl, ?th17⟩) hHeld ?tr17
        case th17 => (intro w hSw; (try dsimp only at hSw); go_simp; try with_reducible rfl)
        try simp only [Act.put, lst]
        refine wpAnyT_ready (rs := [10]) (by kernel_rfl) (by simp) ?_
        refine AllReadyT.cons rfl (fun K hK => ?_) AllReadyT.nil
        rw [if_pos (by rfl)]
        simp only [lst]
        have hPrev := Lib.hid hHeld
        clear hHeld
        go_simp
        refine (HHD.out _).mono ?_
        rintro e' wa ⟨rfl, hba⟩
        go_simp
        refine hK.out _ _ (⟨hPrev.out.1.trans (hba.mono hPrev.out.1.size), kpc hba hPrev.out.2.1, kpc hba hPrev.out.2.2.1, kpc hba hPrev.out.2.2.2.1, kpc hba hPrev.out.2.2.2.2.1, kpc hba hPrev.out.2.2.2.2.2.1, kpc hba hPrev.out.2.2.2.2.2.2⟩) (fun hHeld => ?_)
        clear hK K hPrev
        try simp only [Act.put, lst]
        refine wpAnyT_ready (rs := [12]) (by kernel_rfl) (by simp) ?_
        refine AllReadyT.cons rfl (fun K hK => ?_) AllReadyT.nil
        rw [if_pos (by rfl)]
        simp only [lst]
        have hPrev := Lib.hid hHeld
        clear hHeld
        go_simp
        refine (HAT.out _ hPrev.out.1).mono ?_
        rintro e' wb ⟨v, rfl, hO5, hbb⟩
        have hO5 := hO5.base (Nat.le_trans HB.out.size hPrev.out.1.size)
        obtain ⟨A5, c5, A5', c5', n5, m5, rfl, hn5, hm5, hat5, hO5⟩ := hO5.slices
        have HO5 := Lib.hid hO5
        clear hO5 hat5
        go_simp
        refine hK.out _ _ (⟨hPrev.out.1.trans (hbb.mono hPrev.out.1.size), (hbb.cell (World.block_lt_of_cell? _ _ hPrev.out.2.1)).trans hPrev.out.2.1, (hbb.cell (World.block_lt_of_cell? _ _ hPrev.out.2.2.1)).trans hPrev.out.2.2.1, (hbb.cell (World.block_lt_of_cell? _ _ hPrev.out.2.2.2.1)).trans hPrev.out.2.2.2.1, (hbb.cell (World.block_lt_of_cell? _ _ hPrev.out.2.2.2.2.1)).trans hPrev.out.2.2.2.2.1, (hbb.cell (World.block_lt_of_cell? _ _ hPrev.out.2.2.2.2.2.1)).trans hPrev.out.2.2.2.2.2.1, (hbb.cell (World.block_lt_of_cell? _ _ hPrev.out.2.2.2.2.2.2)).trans hPrev.out.2.2.2.2.2.2⟩) (fun hHeld => ?_)
        clear hK K hPrev
        try simp only [Act.put, lst]
        refine wpAnyT_pure (i := 13) (v := ?tv18) _ _ _ _ rfl (by kernel_rfl) (by kernel_rfl) (fun _ _ _ h => nomatch h.1) (by kernel_rfl) (by kernel_rfl) (by kernel_rfl) (Or.inl ⟨by rfl, ?th18⟩) hHeld ?tr18
        case th18 => (intro w hSw; clear hSw; go_simp; try with_reducible rfl)
        try simp only [Act.put, lst]
        refine wpAnyT_pure (i := 14) (v := ?tv19) _ _ _ _ rfl (by kernel_rfl) (by kernel_rfl) (fun _ _ _ h => nomatch h.1) (by kernel_rfl) (by kernel_rfl) (by kernel_rfl) (Or.inl ⟨by rfl, ?th19⟩) hHeld ?tr19
        case th19 => (intro w hSw; clear hSw; go_simp; try with_reducible rfl)
        try simp only [Act.put, lst]
        refine wpAnyT_pure (i := 15) (v := ?tv20) _ _ _ _ rfl (by kernel_rfl) (by kernel_rfl) (fun _ _ _ h => nomatch h.1) (by kernel_rfl) (by kernel_rfl) (by kernel_rfl) (Or.inl ⟨by rfl, ?th20⟩) hHeld ?tr20
        case th20 => (intro w hSw; clear hSw; go_simp; try with_reducible rfl)
        try simp only [Act.put, lst]
        refine wpAnyT_ready (rs := [16]) (by kernel_rfl) (by simp) ?_
        refine AllReadyT.late rfl (by kernel_rfl) (fun K hK => ?_) AllReadyT.nil
        rw [if_pos (by rfl)]
        simp only [lst]
        have hb22 := hHeld.1
        have hs22 := HS.out.on_ hb22
        have hB22 := HB.out.trans (hb22.mono HB.out.size)
        have ra0 := hs22.r0.cells 0 _ rfl
        have ra1 := hs22.r0.cells 1 _ rfl
        have raf := hs22.r0.frozen
        have ral := hs22.r0.lt
        have rb0 := hs22.r1.cells 0 _ rfl
        have rbf := hs22.r1.frozen
        have rbl := hs22.r1.lt
        have rc0 := hs22.r2.cells 0 _ rfl
        have rcf := hs22.r2.frozen
        have rcl := hs22.r2.lt
        simp only [List.getElem_toArray, List.getElem_cons_zero, List.getElem_cons_succ] at ra0 ra1 rb0 rc0
        have H22 := Lib.hid (sto_end hs22 HO5.out hB22 dn qe)
        have hK22 := (hb22.block Dd (Array.getElem?_eq_some_iff.1 HK.out).1).trans HK.out
        have HK22 := Lib.hid (((((KeepsOthers.setCell _ ⟨w.heap.size + 1 + 1 + 1, 0, none⟩ (.slice A5 n5 c5)).trans (KeepsOthers.setCell _ ⟨w.heap.size + 1 + 1 + 1, 1, none⟩ (.slice A5' m5 c5'))).trans (KeepsOthers.setCell _ ⟨w.heap.size + 1 + 1 + 1 + 1, 0, none⟩ (.bool dn))).trans (KeepsOthers.setCell _ ⟨w.heap.size + 1 + 1 + 1 + 1 + 1, 0, none⟩ (.int .i64 qe))).same Dd _ hK22 rfl)
        clear hb22 hs22 hB22 hK22 hHeld
        go_simp
        refine hK.out _ _ ?_
        clear hK K
        try simp only [Act.put, lst]
        refine wpAnyT_ready (rs := [17]) (by kernel_rfl) (by simp) ?_
        refine AllReadyT.late rfl (by kernel_rfl) (fun K hK => ?_) AllReadyT.nil
        rw [if_pos (by rfl)]
        simp only [lst]
        go_simp
        refine hK.out _ _ ?_
        clear hK K
        try simp only [Act.put, lst]
        refine wpAnyT_ready (rs := [18]) (by kernel_rfl) (by simp) ?_
        refine AllReadyT.late rfl (by kernel_rfl) (fun K hK => ?_) AllReadyT.nil
        rw [if_pos (by rfl)]
        simp only [lst]
        go_simp
        refine hK.out _ _ ?_
        clear hK K
        try simp only [Act.put, lst]
        refine wpAnyT_done (by kernel_rfl) ⟨rfl, ?_⟩
        clear p0 p1 d0 k1 k2 v1 ra0 ra1 raf ral rb0 rbf rbl rc0 rcf rcl
        generalize (((wb.setCell ⟨w.heap.size + 1 + 1 + 1, 0, none⟩ (.slice A5 n5 c5)).setCell ⟨w.heap.size + 1 + 1 + 1, 1, none⟩ (.slice A5' m5 c5')).setCell ⟨w.heap.size + 1 + 1 + 1 + 1, 0, none⟩ (.bool dn)).setCell ⟨w.heap.size + 1 + 1 + 1 + 1 + 1, 0, none⟩ (.int .i64 qe) = w22 at *
        gi_wp2_with fail
        refine ⟨by simp, .inl ⟨_, _, rfl, run_takeDeferred HK22.out, ?_⟩⟩
        obtain ⟨⟨e0, e1, e2⟩, ho, hb⟩ := H22.out
        have hgr := grownBy_putObj' w22 Dd (.deferred none)
        have hcell : ∀ r, some Dd = some r → ∃ o : Obj, w22.heap[r]? = some o ∧ o.isCells = false := fun r e => by cases e; exact ⟨_, HK22.out, rfl⟩
        have f0 := blk_keep e0 hgr hcell
        have f1 := blk_keep e1 hgr hcell
        have f2 := blk_keep e2 hgr hcell
        have ho9 := ho.keep hgr hcell
        have hb9 := hb.grown hgr hb.size (fun k e => by cases e; omega)
        generalize w22.putObj Dd (.deferred none) = W9 at *
        have q3 := f0.cells 0 _ rfl
        have q4 := f0.cells 1 _ rfl
        have q1 := f1.cells 0 _ rfl
        have q2 := f2.cells 0 _ rfl
        simp only [List.getElem_toArray, List.getElem_cons_zero, List.getElem_cons_succ] at q1 q2 q3 q4
        exact ⟨.tuple #[.agg #[.slice A5 n5 c5, .slice A5' m5 c5'], .bool dn, .int .i64 qe], by simp [results, Tryz.results20, asAddr, go_sem, q1, q2, q3, q4], by rw [HE.out]; exact ⟨_, rfl, ho9, hb9⟩⟩
      case stop =>
        rintro Dd pre W hD ⟨hNn, P, d, hO, hS, hB, hz⟩ hK
        have HE : Hid (R = (deedTo p n (1 - a) L N, false, 0)) := by
          have h := HR.out
          unfold storeF at h
          rw [if_pos hNn] at h
          exact Lib.hid h.symm
        obtain ⟨Ap, cp, Ap', cp', np, mp, hPe, hnp, hmp, hat, hO⟩ := hO.slices
        injection hPe with hPe
        subst hPe
        have HS := Lib.hid hS
        have HO := Lib.hid hO
        have HB := Lib.hid hB
        have HK := Lib.hid hK
        clear hS hO hB hK hat hnp hmp
        gi_wp2_with fail
        refine ⟨by simp, .inl ⟨_, _, rfl, run_takeDeferred HK.out, ?_⟩⟩
        have hgr := grownBy_putObj' W Dd (.deferred none)
        have hcell : ∀ r, some Dd = some r → ∃ o : Obj, W.heap[r]? = some o ∧ o.isCells = false := fun r e => by cases e; exact ⟨_, HK.out, rfl⟩
        have hs9 := HS.out.keep hgr hcell
        have ho9 := HO.out.keep hgr hcell
        have hb9 := HB.out.grown hgr HB.out.size (fun k e => by cases e; omega)
        generalize W.putObj Dd (.deferred none) = W9 at *
        have q3 := hs9.r0.cells 0 _ rfl
        have q4 := hs9.r0.cells 1 _ rfl
        have q1 := hs9.r1.cells 0 _ rfl
        have q2 := hs9.r2.cells 0 _ rfl
        simp only [List.getElem_toArray, List.getElem_cons_zero, List.getElem_cons_succ] at q1 q2 q3 q4
        exact ⟨.tuple #[.agg #[.slice Ap np cp, .slice Ap' mp cp'], .bool false, .int .i64 0], by simp [results, Tryz.results20, asAddr, go_sem, q1, q2, q3, q4], by rw [HE.out]; exact ⟨_, rfl, ho9, hb9⟩⟩
end Go.Proofs.YtpkomloblhbkiaaGreatDoor
