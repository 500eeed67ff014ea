/- top26: kept. -/
import Derived.Test.YtpkomloblhbkiaaGreatDoorTopE
import Derived.BigRegion
import Derived.Deep.DeepCutAuto
set_option linter.unusedVariables false
set_option linter.unusedSimpArgs false
namespace Go.Proofs.YtpkomloblhbkiaaGreatDoor
open Go.RowKit
theorem VolOut.slices {w : World} {B : Nat} {v : Value} {x : Vol} (h : VolOut w B v x) : ∃ A c n, v = .agg #[.slice A n c, .string x.root] ∧ x.blocks.length = n ∧ SRow w B (.slice A n c) x.blocks := by
  obtain ⟨A, c, e, h1⟩ := h
  exact ⟨A, c, _, e, rfl, h1.out⟩
theorem Whole.sizes {v : Vol} {n : Nat} (h : Whole v n) : (∀ s ∈ v.blocks, s.size ≤ 140737488351232) ∧ v.root.size ≤ 140737488351232 := by
  have hv := (volB_iff v).1 h.vol
  exact ⟨fun s hs => by have := hv.2.2 s hs; omega, by have := hv.2.1; omega⟩
theorem lies_len {q : Plat} (h : (openP q).2 = 0) : q.sectors.length ≤ 200 := by
  unfold openP at h
  split at h
  · simp at h
  · split at h
    · rename_i h1; exact absurd h h1
    · rename_i h1
      have hg : (getF q 0).2.2 = 0 := Decidable.byContradiction fun e => h1 e
      exact (read_pos (get_read hg)).2.2.2
/-- a volume in a box, its blocks as a row of one's own -/
structure VolAt (W : World) (B g : Nat) (A : Option Addr) (n c : Nat) (v : Vol) : Prop where
  b : Blk W g 36 #[.slice A n c, .string v.root]
  r : SRow W B (.slice A n c) v.blocks
  l : v.blocks.length = n
theorem VolAt.on_ {W W' : World} {B g n c : Nat} {A : Option Addr} {v : Vol} (h : VolAt W B g A n c v) (hb : Below W.heap.size W W') : VolAt W' B g A n c v := ⟨h.b.below hb h.b.lt, orow_below h.r hb (Nat.le_refl _), h.l⟩
theorem VolAt.slr {W : World} {B g n c : Nat} {A : Option Addr} {v : Vol} (h : VolAt W B g A n c v) : SlR encS 1 W W.heap.size A n v.blocks := srow_slr h.r h.l
theorem VolAt.far {W : World} {B g n c b : Nat} {A : Option Addr} {v : Vol} {t : TypeId} {cs : Array Value} (h : VolAt W B g A n c v) (hb : Blk W b t cs) (ht : 9 ≠ t) (hg : g ≠ b) (o : Nat) (u : Value) : VolAt (W.setCell ⟨b, o, none⟩ u) B g A n c v :=
  ⟨h.b.far (p := ⟨b, o, none⟩) hg u, orow_far h.r hb ht o u, h.l⟩
/-- a platter in a box, its rows of one's own -/
structure PlatIn (W : World) (B g : Nat) (A : Option Addr) (n c : Nat) (A' : Option Addr) (m c' : Nat) (p : Plat) : Prop where
  b : Blk W g 42 #[.slice A n c, .slice A' m c']
  o : PlatOut W B (.agg #[.slice A n c, .slice A' m c']) p
theorem PlatOut.met_ {W : World} {B n c m c' : Nat} {A A' : Option Addr} {p : Plat} (h : PlatOut W B (.agg #[.slice A n c, .slice A' m c']) p) : PlatAt W W.heap.size A n A' m p ∧ p.sectors.length = n ∧ p.cache.length = m := by
  obtain ⟨A1, c1, A2, c2, n1, m1, e, h1, h2, h3, _⟩ := h.slices
  simp only [Value.agg.injEq, Array.mk.injEq, List.cons.injEq, Value.slice.injEq, and_true] at e
  obtain ⟨⟨rfl, rfl, rfl⟩, rfl, rfl, rfl⟩ := e
  exact ⟨h3, h1, h2⟩
theorem PlatIn.on_ {W W' : World} {B g n c m c' : Nat} {A A' : Option Addr} {p : Plat} (h : PlatIn W B g A n c A' m c' p) (hb : Below W.heap.size W W') : PlatIn W' B g A n c A' m c' p := ⟨h.b.below hb h.b.lt, h.o.on_ hb⟩
theorem PlatIn.far {W : World} {B g n c m c' b : Nat} {A A' : Option Addr} {p : Plat} {t : TypeId} {cs : Array Value} (h : PlatIn W B g A n c A' m c' p) (hb : Blk W b t cs) (h1 : 9 ≠ t) (h2 : 159 ≠ t) (hg : g ≠ b) (o : Nat) (u : Value) : PlatIn (W.setCell ⟨b, o, none⟩ u) B g A n c A' m c' p :=
  ⟨h.b.far (p := ⟨b, o, none⟩) hg u, h.o.far hb h1 h2 o u⟩
set_option maxRecDepth 100000 in
set_option maxHeartbeats 4000000 in
theorem tkept_any (w : World) (hE : Env w) : Calls Tryz.prog 7 #[] w fun e w' => e = .returned (.bool true) ∧ Below w.heap.size w w' := by
  obtain ⟨p0, q, v0, u, hf, hl0, hw, hL0, hW0, hWu, hst, hdk, hlq, hrd⟩ := kept_plain
  have HF := Lib.hid (fun W (hW : Below w.heap.size w W) => vaform_any 2 W (hE.below hW))
  rw [hf] at HF
  unfold Out2P at HF
  dsimp only at HF
  have HEN := Lib.hid hE
  have HP := Lib.hid (And.intro hl0 (And.intro hw (And.intro hL0 (And.intro hW0 (And.intro hWu (And.intro hst (And.intro hdk (And.intro hlq hrd))))))))
  clear hE hf hl0 hw hL0 hW0 hWu hst hdk hlq hrd
  go_enter Tryz.func7, Tryz.ntmps7
  go_wp2_with fail
  refine (HF.out _ (Below.refl _ _)).mono ?_
  rintro e w1 ⟨v1, rfl, hO1, hb1⟩
  obtain ⟨A1, c1, A1', c1', n1, m1, rfl, hn1, hm1, hat1, hO1⟩ := hO1.slices
  have HI1 : Hid (PlatIn (w1.alloc (.cells #[.slice A1 n1 c1, .slice A1' m1 c1'] 42)) w.heap.size w1.heap.size A1 n1 c1 A1' m1 c1' p0) := Lib.hid ⟨Blk.new _ _ _, hO1.on_ ((Below.refl _ _).alloc (Nat.le_refl _) _)⟩
  have HB1 : Hid (Below w.heap.size w (w1.alloc (.cells #[.slice A1 n1 c1, .slice A1' m1 c1'] 42))) := Lib.hid (hb1.alloc hb1.size _)
  have hlen : p0.sectors.length = 7 ∧ p0.cache.length = 0 := ⟨HP.out.2.2.1.len, by rw [HP.out.2.2.1.bare]; rfl⟩
  rw [hn1, hm1] at hlen
  obtain ⟨rfl, rfl⟩ := hlen
  clear hO1 hb1 hat1 hn1 hm1 HF
  go_upto_region 2 with fail
  generalize w1.alloc (.cells #[.slice A1 7 c1, .slice A1' 0 c1'] 42) = w2 at *
  obtain ⟨x1, hx1⟩ : ∃ x1, w1.heap.size = x1 := ⟨_, rfl⟩
  rw [hx1] at HI1 ⊢
  clear hx1
  have y0 := HI1.out.b.cells 0 _ rfl
  have y1 := HI1.out.b.cells 1 _ rfl
  simp only [List.getElem_toArray, List.getElem_cons_zero, List.getElem_cons_succ] at y0 y1
  have HLO := Lib.hid (load_any p0 A1 A1' 7 0 c1 c1' w2 HI1.out.o.met_.1 (by omega) (HEN.out.below HB1.out))
  rw [HP.out.1] at HLO
  dsimp only at HLO
  go_wp2_with fail
  refine HLO.out.mono ?_
  rintro e w3 ⟨v3, rfl, hV3, hb3⟩
  obtain ⟨A3, c3, n3, rfl, hn3, hs3⟩ := hV3.slices
  obtain rfl : n3 = 2 := hn3.symm.trans HP.out.2.2.2.1.len
  have hb4 : Below w2.heap.size w2 (w3.alloc (.cells #[.slice A3 2 c3, .string v0.root] 36)) := hb3.alloc hb3.size _
  have HI4 := Lib.hid (HI1.out.on_ hb4)
  have HV4 : Hid (VolAt (w3.alloc (.cells #[.slice A3 2 c3, .string v0.root] 36)) w.heap.size w3.heap.size A3 2 c3 v0) := Lib.hid ⟨Blk.new _ _ _, orow_alloc (orow_base hs3 HB1.out.size) _, hn3⟩
  have HB4 := Lib.hid (HB1.out.trans (hb4.mono HB1.out.size))
  clear hb3 hb4 hV3 hs3 HLO y0 y1 HI1 HB1
  go_upto_region 3 with fail
  generalize w3.alloc (.cells #[.slice A3 2 c3, .string v0.root] 36) = w4 at *
  obtain ⟨x3, hx3⟩ : ∃ x3, w3.heap.size = x3 := ⟨_, rfl⟩
  rw [hx3] at HV4 ⊢
  clear hx3
  have y0 := HV4.out.b.cells 0 _ rfl
  have y1 := HV4.out.b.cells 1 _ rfl
  simp only [List.getElem_toArray, List.getElem_cons_zero, List.getElem_cons_succ] at y0 y1
  have HM1 := Lib.hid (fun W => topmany_any 1 32 W (by omega))
  have HM2 := Lib.hid (fun W => topmany_any 2 12 W (by omega))
  have HWR := Lib.hid (fun W (hW : Below w4.heap.size w4 W) => vwrite_any v0 (tmanyB 1 32) (tmanyB 2 12) 1 abcB A3 2 c3 W ((HV4.out.slr.below hW).more hW.size) HP.out.2.2.2.1.sizes.1 HP.out.2.2.2.1.sizes.2 (by decide) (HEN.out.below (HB4.out.trans (hW.mono HB4.out.size))))
  rw [HP.out.2.1] at HWR
  dsimp only at HWR
  go_cut [6, 7] (fun a b wx => b = .int .i64 0 ∧ ∃ (g c6 : Nat) (A6 : Option Addr), a = .pointer (some ⟨g, 0, none⟩) ∧ Hid (VolAt wx w.heap.size g A6 2 c6 u) ∧ Hid (PlatIn wx w.heap.size x1 A1 7 c1 A1' 0 c1' p0) ∧ Hid (Below w.heap.size w wx))
  case first =>
    refine wp_region_T [8, 9] (fun W => Below w4.heap.size w4 W ∧ W.cell? ⟨x3, 0, none⟩ = some (.slice A3 2 c3) ∧ W.cell? ⟨x3, 1, none⟩ = some (.string v0.root)) (by kernel_rfl) ?_
    have hHeld : (fun W => Below w4.heap.size w4 W ∧ W.cell? ⟨x3, 0, none⟩ = some (.slice A3 2 c3) ∧ W.cell? ⟨x3, 1, none⟩ = some (.string v0.root)) _ := ⟨(Below.refl _ _).drew, y0, y1⟩
    have hba : Below w4.heap.size w4 w4.drew := (Below.refl _ _).drew
    replace HI4 := Lib.hid (HI4.out.on_ hba)
    replace HB4 := Lib.hid (HB4.out.trans (hba.mono HB4.out.size))
    clear hba
    generalize w4.drew = wrd at *
    refine wT (i := 0) (v := ?tv1) rfl (Or.inl ⟨by rfl, ?th1⟩) hHeld ?tr1
    case th1 => (intro w hSw; (try dsimp only at hSw); go_simp; try with_reducible rfl)
    try simp only [Act.put, lst]
    refine wpAnyT_ready (rs := [1, 7]) (by kernel_rfl) (by simp) ?_
    refine AllReadyT.cons rfl (fun K hK => ?_) ?_
    · rw [if_pos (by rfl)]
      simp only [lst]
      have hPrev := Lib.hid hHeld
      clear hHeld
      go_simp
      refine (HM1.out _).mono ?_
      rintro e' wr1 ⟨rfl, hba⟩
      go_simp
      replace HI4 := Lib.hid (HI4.out.on_ hba)
      replace HB4 := Lib.hid (HB4.out.trans (hba.mono HB4.out.size))
      refine hK.out _ _ (⟨hPrev.out.1.trans (hba.mono hPrev.out.1.size), kpc hba hPrev.out.2.1, kpc hba hPrev.out.2.2⟩) (fun hHeld => ?_)
      clear hK K hPrev
      try simp only [Act.put, lst]
      clear hba
      refine wpAnyT_ready (rs := [2, 7]) (by kernel_rfl) (by simp) ?_
      refine AllReadyT.cons rfl (fun K hK => ?_) ?_
      · rw [if_pos (by rfl)]
        simp only [lst]
        have hPrev := Lib.hid hHeld
        clear hHeld
        go_simp
        refine (HM2.out _).mono ?_
        rintro e' wr2 ⟨rfl, hba⟩
        go_simp
        replace HI4 := Lib.hid (HI4.out.on_ hba)
        replace HB4 := Lib.hid (HB4.out.trans (hba.mono HB4.out.size))
        refine hK.out _ _ (⟨hPrev.out.1.trans (hba.mono hPrev.out.1.size), kpc hba hPrev.out.2.1, kpc hba hPrev.out.2.2⟩) (fun hHeld => ?_)
        clear hK K hPrev
        try simp only [Act.put, lst]
        clear hba
        refine wpAnyT_ready (rs := [3, 7]) (by kernel_rfl) (by simp) ?_
        refine AllReadyT.cons rfl (fun K hK => ?_) ?_
        · rw [if_pos (by rfl)]
          simp only [lst]
          have hPrev := Lib.hid hHeld
          clear hHeld
          go_simp
          refine (HWR.out _ hPrev.out.1).mono ?_
          rintro e' wr3 ⟨v6, rfl, hV6, hba⟩
          obtain ⟨A6, c6, n6, rfl, hn6, hs6⟩ := hV6.slices
          obtain rfl : n6 = 2 := hn6.symm.trans HP.out.2.2.2.2.1.len
          have HS6 := Lib.hid (orow_base (base' := w.heap.size) hs6 HB4.out.size)
          clear hV6 hs6
          go_simp
          replace HI4 := Lib.hid (HI4.out.on_ hba)
          replace HB4 := Lib.hid (HB4.out.trans (hba.mono HB4.out.size))
          refine hK.out _ _ (⟨hPrev.out.1.trans (hba.mono hPrev.out.1.size), kpc hba hPrev.out.2.1, kpc hba hPrev.out.2.2⟩) (fun hHeld => ?_)
          clear hK K hPrev
          try simp only [Act.put, lst]
          clear hba
          refine wP (i := 4) (v := ?tv2) rfl (Or.inl ⟨by rfl, ?th2⟩) hHeld ?tr2
          case th2 => (intro w hSw; clear hSw; go_simp; try with_reducible rfl)
          try simp only [Act.put, lst]
          refine wP (i := 5) (v := ?tv3) rfl (Or.inl ⟨by rfl, ?th3⟩) hHeld ?tr3
          case th3 => (intro w hSw; clear hSw; go_simp; try with_reducible rfl)
          try simp only [Act.put, lst]
          refine wP (i := 6) (v := ?tv4) rfl (Or.inl ⟨by rfl, ?th4⟩) hHeld ?tr4
          case th4 => (intro w hSw; clear hSw; go_simp; try with_reducible rfl)
          try simp only [Act.put, lst]
          refine wpAnyT_ready (rs := [7]) (by kernel_rfl) (by simp) ?_
          refine AllReadyT.cons rfl (fun K hK => ?_) ?_
          · rw [if_pos (by rfl)]
            simp only [lst]
            have hPrev := Lib.hid hHeld
            clear hHeld
            go_simp
            have HLA := Lib.hid HB4.out.size
            have hba : Below wr3.heap.size wr3 (wr3.alloc (.cells #[.slice none 0 0, .string ⟨#[]⟩] 36)) := (Below.refl _ _).alloc (Nat.le_refl _) _
            have HA := Lib.hid (Blk.new wr3 36 #[.slice none 0 0, .string ⟨#[]⟩])
            replace HI4 := Lib.hid (HI4.out.on_ hba)
            replace HB4 := Lib.hid (HB4.out.trans (hba.mono HB4.out.size))
            replace HS6 := Lib.hid (orow_below HS6.out hba (Nat.le_refl _))
            refine hK.out _ _ (⟨hPrev.out.1.trans (hba.mono hPrev.out.1.size), kpc hba hPrev.out.2.1, kpc hba hPrev.out.2.2⟩) (fun hHeld => ?_)
            clear hK K hPrev
            try simp only [Act.put, lst]
            clear hba
            generalize wr3.alloc (.cells #[.slice none 0 0, .string ⟨#[]⟩] 36) = wr4 at *
            refine wpAnyT_ready (rs := [8]) (by kernel_rfl) (by simp) ?_
            refine AllReadyT.late rfl (by kernel_rfl) (fun K hK => ?_) AllReadyT.nil
            rw [if_pos (by rfl)]
            simp only [lst]
            have ha0 := HA.out.cells 0 _ rfl
            have ha1 := HA.out.cells 1 _ rfl
            have haf := HA.out.frozen
            have hal := HA.out.lt
            simp only [List.getElem_toArray, List.getElem_cons_zero, List.getElem_cons_succ] at ha0 ha1
            go_simp
            refine hK.out _ _ ?_
            clear hK K
            try simp only [Act.put, lst]
            refine wpAnyT_ready (rs := [9]) (by kernel_rfl) (by simp) ?_
            refine AllReadyT.late rfl (by kernel_rfl) (fun K hK => ?_) AllReadyT.nil
            rw [if_pos (by rfl)]
            simp only [lst]
            go_simp
            refine hK.out _ _ ?_
            clear hK K
            try simp only [Act.put, lst]
            refine wpAnyT_done (by kernel_rfl) ?_
            go_step
            go_step
            go_meet
            have hy := (HA.out.set_ 0 (.slice A6 2 c6)).set_ 1 (.string u.root)
            have hs := orow_far (orow_far HS6.out HA.out (by decide) 0 (.slice A6 2 c6)) (HA.out.set_ 0 _) (by decide) 1 (.string u.root)
            have hi := (HI4.out.far HA.out (by decide) (by decide) (Blk.ne_ HI4.out.b HA.out (by decide)) 0 (.slice A6 2 c6)).far (HA.out.set_ 0 _) (by decide) (by decide) (Blk.ne_ HI4.out.b HA.out (by decide)) 1 (.string u.root)
            exact ⟨rfl, _, c6, A6, rfl, Lib.hid ⟨hy, hs, HP.out.2.2.2.2.1.len⟩, Lib.hid hi, Lib.hid ((HB4.out.setCell (p := ⟨_, 0, none⟩) HLA.out _).setCell (p := ⟨_, 1, none⟩) HLA.out _)⟩
          exact AllReadyT.nil
        refine AllReadyT.cons rfl (fun K hK => ?_) ?_
        · rw [if_pos (by rfl)]
          simp only [lst]
          have hPrev := Lib.hid hHeld
          clear hHeld
          go_simp
          have HLA := Lib.hid HB4.out.size
          have hba : Below wr2.heap.size wr2 (wr2.alloc (.cells #[.slice none 0 0, .string ⟨#[]⟩] 36)) := (Below.refl _ _).alloc (Nat.le_refl _) _
          have HA := Lib.hid (Blk.new wr2 36 #[.slice none 0 0, .string ⟨#[]⟩])
          replace HI4 := Lib.hid (HI4.out.on_ hba)
          replace HB4 := Lib.hid (HB4.out.trans (hba.mono HB4.out.size))
          refine hK.out _ _ (⟨hPrev.out.1.trans (hba.mono hPrev.out.1.size), kpc hba hPrev.out.2.1, kpc hba hPrev.out.2.2⟩) (fun hHeld => ?_)
          clear hK K hPrev
          try simp only [Act.put, lst]
          clear hba
          generalize wr2.alloc (.cells #[.slice none 0 0, .string ⟨#[]⟩] 36) = wr5 at *
          refine wpAnyT_ready (rs := [3]) (by kernel_rfl) (by simp) ?_
          refine AllReadyT.cons rfl (fun K hK => ?_) ?_
          · rw [if_pos (by rfl)]
            simp only [lst]
            have hPrev := Lib.hid hHeld
            clear hHeld
            go_simp
            refine (HWR.out _ hPrev.out.1).mono ?_
            rintro e' wr6 ⟨v6, rfl, hV6, hba⟩
            obtain ⟨A6, c6, n6, rfl, hn6, hs6⟩ := hV6.slices
            obtain rfl : n6 = 2 := hn6.symm.trans HP.out.2.2.2.2.1.len
            have HS6 := Lib.hid (orow_base (base' := w.heap.size) hs6 HB4.out.size)
            clear hV6 hs6
            go_simp
            replace HI4 := Lib.hid (HI4.out.on_ hba)
            replace HB4 := Lib.hid (HB4.out.trans (hba.mono HB4.out.size))
            replace HA := Lib.hid (HA.out.below hba HA.out.lt)
            refine hK.out _ _ (⟨hPrev.out.1.trans (hba.mono hPrev.out.1.size), kpc hba hPrev.out.2.1, kpc hba hPrev.out.2.2⟩) (fun hHeld => ?_)
            clear hK K hPrev
            try simp only [Act.put, lst]
            clear hba
            refine wP (i := 4) (v := ?tv5) rfl (Or.inl ⟨by rfl, ?th5⟩) hHeld ?tr5
            case th5 => (intro w hSw; clear hSw; go_simp; try with_reducible rfl)
            try simp only [Act.put, lst]
            refine wP (i := 5) (v := ?tv6) rfl (Or.inl ⟨by rfl, ?th6⟩) hHeld ?tr6
            case th6 => (intro w hSw; clear hSw; go_simp; try with_reducible rfl)
            try simp only [Act.put, lst]
            refine wP (i := 6) (v := ?tv7) rfl (Or.inl ⟨by rfl, ?th7⟩) hHeld ?tr7
            case th7 => (intro w hSw; clear hSw; go_simp; try with_reducible rfl)
            try simp only [Act.put, lst]
            refine wpAnyT_ready (rs := [8]) (by kernel_rfl) (by simp) ?_
            refine AllReadyT.late rfl (by kernel_rfl) (fun K hK => ?_) AllReadyT.nil
            rw [if_pos (by rfl)]
            simp only [lst]
            have ha0 := HA.out.cells 0 _ rfl
            have ha1 := HA.out.cells 1 _ rfl
            have haf := HA.out.frozen
            have hal := HA.out.lt
            simp only [List.getElem_toArray, List.getElem_cons_zero, List.getElem_cons_succ] at ha0 ha1
            go_simp
            refine hK.out _ _ ?_
            clear hK K
            try simp only [Act.put, lst]
            refine wpAnyT_ready (rs := [9]) (by kernel_rfl) (by simp) ?_
            refine AllReadyT.late rfl (by kernel_rfl) (fun K hK => ?_) AllReadyT.nil
            rw [if_pos (by rfl)]
            simp only [lst]
            go_simp
            refine hK.out _ _ ?_
            clear hK K
            try simp only [Act.put, lst]
            refine wpAnyT_done (by kernel_rfl) ?_
            go_step
            go_step
            go_meet
            have hy := (HA.out.set_ 0 (.slice A6 2 c6)).set_ 1 (.string u.root)
            have hs := orow_far (orow_far HS6.out HA.out (by decide) 0 (.slice A6 2 c6)) (HA.out.set_ 0 _) (by decide) 1 (.string u.root)
            have hi := (HI4.out.far HA.out (by decide) (by decide) (Blk.ne_ HI4.out.b HA.out (by decide)) 0 (.slice A6 2 c6)).far (HA.out.set_ 0 _) (by decide) (by decide) (Blk.ne_ HI4.out.b HA.out (by decide)) 1 (.string u.root)
            exact ⟨rfl, _, c6, A6, rfl, Lib.hid ⟨hy, hs, HP.out.2.2.2.2.1.len⟩, Lib.hid hi, Lib.hid ((HB4.out.setCell (p := ⟨_, 0, none⟩) HLA.out _).setCell (p := ⟨_, 1, none⟩) HLA.out _)⟩
          exact AllReadyT.nil
        exact AllReadyT.nil
      refine AllReadyT.cons rfl (fun K hK => ?_) ?_
      · rw [if_pos (by rfl)]
        simp only [lst]
        have hPrev := Lib.hid hHeld
        clear hHeld
        go_simp
        have HLA := Lib.hid HB4.out.size
        have hba : Below wr1.heap.size wr1 (wr1.alloc (.cells #[.slice none 0 0, .string ⟨#[]⟩] 36)) := (Below.refl _ _).alloc (Nat.le_refl _) _
        have HA := Lib.hid (Blk.new wr1 36 #[.slice none 0 0, .string ⟨#[]⟩])
        replace HI4 := Lib.hid (HI4.out.on_ hba)
        replace HB4 := Lib.hid (HB4.out.trans (hba.mono HB4.out.size))
        refine hK.out _ _ (⟨hPrev.out.1.trans (hba.mono hPrev.out.1.size), kpc hba hPrev.out.2.1, kpc hba hPrev.out.2.2⟩) (fun hHeld => ?_)
        clear hK K hPrev
        try simp only [Act.put, lst]
        clear hba
        generalize wr1.alloc (.cells #[.slice none 0 0, .string ⟨#[]⟩] 36) = wr7 at *
        refine wpAnyT_ready (rs := [2]) (by kernel_rfl) (by simp) ?_
        refine AllReadyT.cons rfl (fun K hK => ?_) ?_
        · rw [if_pos (by rfl)]
          simp only [lst]
          have hPrev := Lib.hid hHeld
          clear hHeld
          go_simp
          refine (HM2.out _).mono ?_
          rintro e' wr8 ⟨rfl, hba⟩
          go_simp
          replace HI4 := Lib.hid (HI4.out.on_ hba)
          replace HB4 := Lib.hid (HB4.out.trans (hba.mono HB4.out.size))
          replace HA := Lib.hid (HA.out.below hba HA.out.lt)
          refine hK.out _ _ (⟨hPrev.out.1.trans (hba.mono hPrev.out.1.size), kpc hba hPrev.out.2.1, kpc hba hPrev.out.2.2⟩) (fun hHeld => ?_)
          clear hK K hPrev
          try simp only [Act.put, lst]
          clear hba
          refine wpAnyT_ready (rs := [3]) (by kernel_rfl) (by simp) ?_
          refine AllReadyT.cons rfl (fun K hK => ?_) ?_
          · rw [if_pos (by rfl)]
            simp only [lst]
            have hPrev := Lib.hid hHeld
            clear hHeld
            go_simp
            refine (HWR.out _ hPrev.out.1).mono ?_
            rintro e' wr9 ⟨v6, rfl, hV6, hba⟩
            obtain ⟨A6, c6, n6, rfl, hn6, hs6⟩ := hV6.slices
            obtain rfl : n6 = 2 := hn6.symm.trans HP.out.2.2.2.2.1.len
            have HS6 := Lib.hid (orow_base (base' := w.heap.size) hs6 HB4.out.size)
            clear hV6 hs6
            go_simp
            replace HI4 := Lib.hid (HI4.out.on_ hba)
            replace HB4 := Lib.hid (HB4.out.trans (hba.mono HB4.out.size))
            replace HA := Lib.hid (HA.out.below hba HA.out.lt)
            refine hK.out _ _ (⟨hPrev.out.1.trans (hba.mono hPrev.out.1.size), kpc hba hPrev.out.2.1, kpc hba hPrev.out.2.2⟩) (fun hHeld => ?_)
            clear hK K hPrev
            try simp only [Act.put, lst]
            clear hba
            refine wP (i := 4) (v := ?tv8) rfl (Or.inl ⟨by rfl, ?th8⟩) hHeld ?tr8
            case th8 => (intro w hSw; clear hSw; go_simp; try with_reducible rfl)
            try simp only [Act.put, lst]
            refine wP (i := 5) (v := ?tv9) rfl (Or.inl ⟨by rfl, ?th9⟩) hHeld ?tr9
            case th9 => (intro w hSw; clear hSw; go_simp; try with_reducible rfl)
            try simp only [Act.put, lst]
            refine wP (i := 6) (v := ?tv10) rfl (Or.inl ⟨by rfl, ?th10⟩) hHeld ?tr10
            case th10 => (intro w hSw; clear hSw; go_simp; try with_reducible rfl)
            try simp only [Act.put, lst]
            refine wpAnyT_ready (rs := [8]) (by kernel_rfl) (by simp) ?_
            refine AllReadyT.late rfl (by kernel_rfl) (fun K hK => ?_) AllReadyT.nil
            rw [if_pos (by rfl)]
            simp only [lst]
            have ha0 := HA.out.cells 0 _ rfl
            have ha1 := HA.out.cells 1 _ rfl
            have haf := HA.out.frozen
            have hal := HA.out.lt
            simp only [List.getElem_toArray, List.getElem_cons_zero, List.getElem_cons_succ] at ha0 ha1
            go_simp
            refine hK.out _ _ ?_
            clear hK K
            try simp only [Act.put, lst]
            refine wpAnyT_ready (rs := [9]) (by kernel_rfl) (by simp) ?_
            refine AllReadyT.late rfl (by kernel_rfl) (fun K hK => ?_) AllReadyT.nil
            rw [if_pos (by rfl)]
            simp only [lst]
            go_simp
            refine hK.out _ _ ?_
            clear hK K
            try simp only [Act.put, lst]
            refine wpAnyT_done (by kernel_rfl) ?_
            go_step
            go_step
            go_meet
            have hy := (HA.out.set_ 0 (.slice A6 2 c6)).set_ 1 (.string u.root)
            have hs := orow_far (orow_far HS6.out HA.out (by decide) 0 (.slice A6 2 c6)) (HA.out.set_ 0 _) (by decide) 1 (.string u.root)
            have hi := (HI4.out.far HA.out (by decide) (by decide) (Blk.ne_ HI4.out.b HA.out (by decide)) 0 (.slice A6 2 c6)).far (HA.out.set_ 0 _) (by decide) (by decide) (Blk.ne_ HI4.out.b HA.out (by decide)) 1 (.string u.root)
            exact ⟨rfl, _, c6, A6, rfl, Lib.hid ⟨hy, hs, HP.out.2.2.2.2.1.len⟩, Lib.hid hi, Lib.hid ((HB4.out.setCell (p := ⟨_, 0, none⟩) HLA.out _).setCell (p := ⟨_, 1, none⟩) HLA.out _)⟩
          exact AllReadyT.nil
        exact AllReadyT.nil
      exact AllReadyT.nil
    refine AllReadyT.cons rfl (fun K hK => ?_) ?_
    · rw [if_pos (by rfl)]
      simp only [lst]
      have hPrev := Lib.hid hHeld
      clear hHeld
      go_simp
      have HLA := Lib.hid HB4.out.size
      have hba : Below wrd.heap.size wrd (wrd.alloc (.cells #[.slice none 0 0, .string ⟨#[]⟩] 36)) := (Below.refl _ _).alloc (Nat.le_refl _) _
      have HA := Lib.hid (Blk.new wrd 36 #[.slice none 0 0, .string ⟨#[]⟩])
      replace HI4 := Lib.hid (HI4.out.on_ hba)
      replace HB4 := Lib.hid (HB4.out.trans (hba.mono HB4.out.size))
      refine hK.out _ _ (⟨hPrev.out.1.trans (hba.mono hPrev.out.1.size), kpc hba hPrev.out.2.1, kpc hba hPrev.out.2.2⟩) (fun hHeld => ?_)
      clear hK K hPrev
      try simp only [Act.put, lst]
      clear hba
      generalize wrd.alloc (.cells #[.slice none 0 0, .string ⟨#[]⟩] 36) = wr10 at *
      refine wpAnyT_ready (rs := [1]) (by kernel_rfl) (by simp) ?_
      refine AllReadyT.cons rfl (fun K hK => ?_) ?_
      · rw [if_pos (by rfl)]
        simp only [lst]
        have hPrev := Lib.hid hHeld
        clear hHeld
        go_simp
        refine (HM1.out _).mono ?_
        rintro e' wr11 ⟨rfl, hba⟩
        go_simp
        replace HI4 := Lib.hid (HI4.out.on_ hba)
        replace HB4 := Lib.hid (HB4.out.trans (hba.mono HB4.out.size))
        replace HA := Lib.hid (HA.out.below hba HA.out.lt)
        refine hK.out _ _ (⟨hPrev.out.1.trans (hba.mono hPrev.out.1.size), kpc hba hPrev.out.2.1, kpc hba hPrev.out.2.2⟩) (fun hHeld => ?_)
        clear hK K hPrev
        try simp only [Act.put, lst]
        clear hba
        refine wpAnyT_ready (rs := [2]) (by kernel_rfl) (by simp) ?_
        refine AllReadyT.cons rfl (fun K hK => ?_) ?_
        · rw [if_pos (by rfl)]
          simp only [lst]
          have hPrev := Lib.hid hHeld
          clear hHeld
          go_simp
          refine (HM2.out _).mono ?_
          rintro e' wr12 ⟨rfl, hba⟩
          go_simp
          replace HI4 := Lib.hid (HI4.out.on_ hba)
          replace HB4 := Lib.hid (HB4.out.trans (hba.mono HB4.out.size))
          replace HA := Lib.hid (HA.out.below hba HA.out.lt)
          refine hK.out _ _ (⟨hPrev.out.1.trans (hba.mono hPrev.out.1.size), kpc hba hPrev.out.2.1, kpc hba hPrev.out.2.2⟩) (fun hHeld => ?_)
          clear hK K hPrev
          try simp only [Act.put, lst]
          clear hba
          refine wpAnyT_ready (rs := [3]) (by kernel_rfl) (by simp) ?_
          refine AllReadyT.cons rfl (fun K hK => ?_) ?_
          · rw [if_pos (by rfl)]
            simp only [lst]
            have hPrev := Lib.hid hHeld
            clear hHeld
            go_simp
            refine (HWR.out _ hPrev.out.1).mono ?_
            rintro e' wr13 ⟨v6, rfl, hV6, hba⟩
            obtain ⟨A6, c6, n6, rfl, hn6, hs6⟩ := hV6.slices
            obtain rfl : n6 = 2 := hn6.symm.trans HP.out.2.2.2.2.1.len
            have HS6 := Lib.hid (orow_base (base' := w.heap.size) hs6 HB4.out.size)
            clear hV6 hs6
            go_simp
            replace HI4 := Lib.hid (HI4.out.on_ hba)
            replace HB4 := Lib.hid (HB4.out.trans (hba.mono HB4.out.size))
            replace HA := Lib.hid (HA.out.below hba HA.out.lt)
            refine hK.out _ _ (⟨hPrev.out.1.trans (hba.mono hPrev.out.1.size), kpc hba hPrev.out.2.1, kpc hba hPrev.out.2.2⟩) (fun hHeld => ?_)
            clear hK K hPrev
            try simp only [Act.put, lst]
            clear hba
            refine wP (i := 4) (v := ?tv11) rfl (Or.inl ⟨by rfl, ?th11⟩) hHeld ?tr11
            case th11 => (intro w hSw; clear hSw; go_simp; try with_reducible rfl)
            try simp only [Act.put, lst]
            refine wP (i := 5) (v := ?tv12) rfl (Or.inl ⟨by rfl, ?th12⟩) hHeld ?tr12
            case th12 => (intro w hSw; clear hSw; go_simp; try with_reducible rfl)
            try simp only [Act.put, lst]
            refine wP (i := 6) (v := ?tv13) rfl (Or.inl ⟨by rfl, ?th13⟩) hHeld ?tr13
            case th13 => (intro w hSw; clear hSw; go_simp; try with_reducible rfl)
            try simp only [Act.put, lst]
            refine wpAnyT_ready (rs := [8]) (by kernel_rfl) (by simp) ?_
            refine AllReadyT.late rfl (by kernel_rfl) (fun K hK => ?_) AllReadyT.nil
            rw [if_pos (by rfl)]
            simp only [lst]
            have ha0 := HA.out.cells 0 _ rfl
            have ha1 := HA.out.cells 1 _ rfl
            have haf := HA.out.frozen
            have hal := HA.out.lt
            simp only [List.getElem_toArray, List.getElem_cons_zero, List.getElem_cons_succ] at ha0 ha1
            go_simp
            refine hK.out _ _ ?_
            clear hK K
            try simp only [Act.put, lst]
            refine wpAnyT_ready (rs := [9]) (by kernel_rfl) (by simp) ?_
            refine AllReadyT.late rfl (by kernel_rfl) (fun K hK => ?_) AllReadyT.nil
            rw [if_pos (by rfl)]
            simp only [lst]
            go_simp
            refine hK.out _ _ ?_
            clear hK K
            try simp only [Act.put, lst]
            refine wpAnyT_done (by kernel_rfl) ?_
            go_step
            go_step
            go_meet
            have hy := (HA.out.set_ 0 (.slice A6 2 c6)).set_ 1 (.string u.root)
            have hs := orow_far (orow_far HS6.out HA.out (by decide) 0 (.slice A6 2 c6)) (HA.out.set_ 0 _) (by decide) 1 (.string u.root)
            have hi := (HI4.out.far HA.out (by decide) (by decide) (Blk.ne_ HI4.out.b HA.out (by decide)) 0 (.slice A6 2 c6)).far (HA.out.set_ 0 _) (by decide) (by decide) (Blk.ne_ HI4.out.b HA.out (by decide)) 1 (.string u.root)
            exact ⟨rfl, _, c6, A6, rfl, Lib.hid ⟨hy, hs, HP.out.2.2.2.2.1.len⟩, Lib.hid hi, Lib.hid ((HB4.out.setCell (p := ⟨_, 0, none⟩) HLA.out _).setCell (p := ⟨_, 1, none⟩) HLA.out _)⟩
          exact AllReadyT.nil
        exact AllReadyT.nil
      exact AllReadyT.nil
    exact AllReadyT.nil
  case rest =>
    obtain ⟨rfl, g6, c6, A6, rfl, HV5, HI5, HB5⟩ := hcut
    clear HWR HM2 HV4 HI4 HB4 y0 y1
    generalize wc = w5 at *
    have y0 := HI5.out.b.cells 0 _ rfl
    have y1 := HI5.out.b.cells 1 _ rfl
    have z0 := HV5.out.b.cells 0 _ rfl
    have z1 := HV5.out.b.cells 1 _ rfl
    simp only [List.getElem_toArray, List.getElem_cons_zero, List.getElem_cons_succ] at y0 y1 z0 z1
    have HSO := Lib.hid (store_any p0 u 2 0 0 v0 (-1) A1 A1' A6 7 c1 c1' c6 w5 HI5.out.o.met_.1 (by omega) HV5.out.slr (openP_lies HP.out.2.2.1) HP.out.2.2.2.2.1.vol HP.out.2.2.2.2.1.rt (by omega) (by omega) HP.out.2.2.2.2.2.2.1 (HEN.out.below HB5.out))
    rw [HP.out.2.2.2.2.2.1] at HSO
    unfold OutDo at HSO
    dsimp only at HSO
    go_wp2_with fail
    refine HSO.out.mono ?_
    rintro e w7 ⟨v7, rfl, hO7, hb7⟩
    obtain ⟨A7, c7, A7', c7', n7, m7, rfl, hn7, hm7, hat7, hO7⟩ := hO7.slices
    have HI7 : Hid (PlatIn (w7.alloc (.cells #[.slice A7 n7 c7, .slice A7' m7 c7'] 42)) w.heap.size w7.heap.size A7 n7 c7 A7' m7 c7' q) := Lib.hid ⟨Blk.new _ _ _, (hO7.base HB5.out.size).on_ ((Below.refl _ _).alloc (Nat.le_refl _) _)⟩
    have HB7 : Hid (Below w.heap.size w (w7.alloc (.cells #[.slice A7 n7 c7, .slice A7' m7 c7'] 42))) := Lib.hid ((HB5.out.trans (hb7.mono HB5.out.size)).alloc (Nat.le_trans HB5.out.size hb7.size) _)
    have hql : loadP q = (u, 1, 0) := HP.out.2.2.2.2.2.2.2.1
    clear hO7 hb7 hat7 hm7 HSO y0 y1 z0 z1 HI5 HV5 HB5
    go_upto_region 5 with fail
    generalize w7.alloc (.cells #[.slice A7 n7 c7, .slice A7' m7 c7'] 42) = w8 at *
    obtain ⟨x7, hx7⟩ : ∃ x7, w7.heap.size = x7 := ⟨_, rfl⟩
    rw [hx7] at HI7 ⊢
    clear hx7
    have y0 := HI7.out.b.cells 0 _ rfl
    have y1 := HI7.out.b.cells 1 _ rfl
    simp only [List.getElem_toArray, List.getElem_cons_zero, List.getElem_cons_succ] at y0 y1
    have hn7s : n7 ≤ 1000000 := by
      have h := hql
      unfold loadP at h
      have hok : (openP q).2 = 0 := by
        by_cases h0 : (openP q).2 = 0
        · exact h0
        · rw [if_neg h0] at h; exact absurd (congrArg (fun x => x.2.2) h) h0
      have := lies_len hok
      omega
    have HLO := Lib.hid (load_any q A7 A7' n7 m7 c7 c7' w8 HI7.out.o.met_.1 hn7s (HEN.out.below HB7.out))
    rw [hql] at HLO
    dsimp only at HLO
    clear hql hn7 hn7s
    go_wp2_with fail
    refine HLO.out.mono ?_
    rintro e w9 ⟨v9, rfl, hV9, hb9⟩
    obtain ⟨A9, c9, n9, rfl, hn9, hs9⟩ := hV9.slices
    obtain rfl : n9 = 2 := hn9.symm.trans HP.out.2.2.2.2.1.len
    have HV9 : Hid (VolAt (w9.alloc (.cells #[.slice A9 2 c9, .string u.root] 36)) w.heap.size w9.heap.size A9 2 c9 u) := Lib.hid ⟨Blk.new _ _ _, orow_alloc (orow_base hs9 HB7.out.size) _, hn9⟩
    have HB9 : Hid (Below w.heap.size w (w9.alloc (.cells #[.slice A9 2 c9, .string u.root] 36))) := Lib.hid ((HB7.out.trans (hb9.mono HB7.out.size)).alloc (Nat.le_trans HB7.out.size hb9.size) _)
    clear hb9 hV9 hs9 HLO y0 y1 HI7 HB7
    go_upto_region 6 with fail
    generalize w9.alloc (.cells #[.slice A9 2 c9, .string u.root] 36) = w10 at *
    obtain ⟨x9, hx9⟩ : ∃ x9, w9.heap.size = x9 := ⟨_, rfl⟩
    rw [hx9] at HV9 ⊢
    clear hx9
    have y0 := HV9.out.b.cells 0 _ rfl
    have y1 := HV9.out.b.cells 1 _ rfl
    simp only [List.getElem_toArray, List.getElem_cons_zero, List.getElem_cons_succ] at y0 y1
    have HRD := Lib.hid (fun W (hW : Below w10.heap.size w10 W) => vread_any u (tmanyB 1 32) 1 A9 2 c9 W ((HV9.out.slr.below hW).more hW.size) HP.out.2.2.2.2.1.sizes.1 HP.out.2.2.2.2.1.sizes.2 (HEN.out.below (HB9.out.trans (hW.mono HB9.out.size))))
    rw [HP.out.2.2.2.2.2.2.2.2] at HRD
    dsimp only at HRD
    have habc : (abcB.toList == [97, 98, 99]) = true := by rw [ByteArray.toList_eq]; rfl
    refine wp_region_T [6, 7] (fun W => Below w10.heap.size w10 W ∧ W.cell? ⟨x9, 0, none⟩ = some (.slice A9 2 c9) ∧ W.cell? ⟨x9, 1, none⟩ = some (.string u.root)) (by kernel_rfl) ?_
    have hHeld : (fun W => Below w10.heap.size w10 W ∧ W.cell? ⟨x9, 0, none⟩ = some (.slice A9 2 c9) ∧ W.cell? ⟨x9, 1, none⟩ = some (.string u.root)) _ := ⟨(Below.refl _ _).drew, y0, y1⟩
    have hba : Below w10.heap.size w10 w10.drew := (Below.refl _ _).drew
    replace HB9 := Lib.hid (HB9.out.trans (hba.mono HB9.out.size))
    clear hba
    generalize w10.drew = wsd at *
    refine wT (i := 0) (v := ?tv14) rfl (Or.inl ⟨by rfl, ?th14⟩) hHeld ?tr14
    case th14 => (intro w hSw; (try dsimp only at hSw); go_simp; try with_reducible rfl)
    try simp only [Act.put, lst]
    refine wpAnyT_ready (rs := [1]) (by kernel_rfl) (by simp) ?_
    refine AllReadyT.cons rfl (fun K hK => ?_) ?_
    · rw [if_pos (by rfl)]
      simp only [lst]
      have hPrev := Lib.hid hHeld
      clear hHeld
      go_simp
      refine (HM1.out _).mono ?_
      rintro e' ws1 ⟨rfl, hba⟩
      go_simp
      replace HB9 := Lib.hid (HB9.out.trans (hba.mono HB9.out.size))
      refine hK.out _ _ (⟨hPrev.out.1.trans (hba.mono hPrev.out.1.size), kpc hba hPrev.out.2.1, kpc hba hPrev.out.2.2⟩) (fun hHeld => ?_)
      clear hK K hPrev
      try simp only [Act.put, lst]
      clear hba
      refine wpAnyT_ready (rs := [2]) (by kernel_rfl) (by simp) ?_
      refine AllReadyT.cons rfl (fun K hK => ?_) ?_
      · rw [if_pos (by rfl)]
        simp only [lst]
        have hPrev := Lib.hid hHeld
        clear hHeld
        go_simp
        refine (HRD.out _ hPrev.out.1).mono ?_
        rintro e' ws2 ⟨rfl, hba⟩
        go_simp
        replace HB9 := Lib.hid (HB9.out.trans (hba.mono HB9.out.size))
        refine hK.out _ _ (⟨hPrev.out.1.trans (hba.mono hPrev.out.1.size), kpc hba hPrev.out.2.1, kpc hba hPrev.out.2.2⟩) (fun hHeld => ?_)
        clear hK K hPrev
        try simp only [Act.put, lst]
        clear hba
        refine wP (i := 3) (v := ?tv15) rfl (Or.inl ⟨by rfl, ?th15⟩) hHeld ?tr15
        case th15 => (intro w hSw; clear hSw; go_simp; try with_reducible rfl)
        try simp only [Act.put, lst]
        refine wP (i := 4) (v := ?tv16) rfl (Or.inl ⟨by rfl, ?th16⟩) hHeld ?tr16
        case th16 => (intro w hSw; clear hSw; go_simp; try with_reducible rfl)
        try simp only [Act.put, lst]
        refine wP (i := 5) (v := ?tv17) rfl (Or.inl ⟨by rfl, ?th17⟩) hHeld ?tr17
        case th17 => (intro w hSw; clear hSw; go_simp; try with_reducible rfl)
        try simp only [Act.put, lst]
        refine wpAnyT_ready (rs := [6]) (by kernel_rfl) (by simp) ?_
        refine AllReadyT.late rfl (by kernel_rfl) (fun K hK => ?_) AllReadyT.nil
        rw [if_pos (by rfl)]
        simp only [lst]
        go_simp
        refine hK.out _ _ ?_
        clear hK K
        try simp only [Act.put, lst]
        refine wpAnyT_ready (rs := [7]) (by kernel_rfl) (by simp) ?_
        refine AllReadyT.late rfl (by kernel_rfl) (fun K hK => ?_) AllReadyT.nil
        rw [if_pos (by rfl)]
        simp only [lst]
        go_simp
        refine hK.out _ _ ?_
        clear hK K
        try simp only [Act.put, lst]
        refine wpAnyT_done (by kernel_rfl) ?_
        go_wp2_with fail
        go_ret
        exact ⟨rfl, HB9.out⟩
      exact AllReadyT.nil
    exact AllReadyT.nil
end Go.Proofs.YtpkomloblhbkiaaGreatDoor
