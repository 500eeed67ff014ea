/- MemberLess: the walk. -/
import Derived.Test.YtbgohcedakpnbaaDoorMemQ
import Derived.Test.YtbgohcedakpnbaaDoorMemLessP
set_option linter.unusedVariables false
set_option linter.unusedSimpArgs false
namespace Go.Proofs.YtbgohcedakpnbaaDoor
open Go.RowKit Go.Shelf
/-- the box that is built, and its rows -/
def LSt (w2 : World) (ep kk : Int) (L L' : List ByteArray) (j j2 : Nat) (A1 A2 : Option Addr) (c1 c2 : Nat) (W : World) : Prop :=
  Below w2.heap.size w2 W ∧ w2.heap.size + 1 ≤ W.heap.size ∧ Blk W w2.heap.size 24 #[.int .i64 ep, .int .i64 kk, .slice A1 j c1, .slice A2 j2 c2] ∧ L.length = j ∧ L'.length = j2 ∧
  SRow W (w2.heap.size + 1) (.slice A1 j c1) L ∧ SRow W (w2.heap.size + 1) (.slice A2 j2 c2) L' ∧ (∀ g, (Value.slice A1 j c1).ownBlock = some g → (Value.slice A2 j2 c2).ownBlock ≠ some g)
section
variable {w2 W w7 : World} {ep kk : Int} {L L' : List ByteArray} {j j2 : Nat} {A1 A2 A7 : Option Addr} {c1 c2 c7 : Nat}
theorem LSt.held (h : LSt w2 ep kk L L' j j2 A1 A2 c1 c2 W) (x : ByteArray) {row : Option Nat} (hg7 : (W.drew.alloc (.cells #[.string x] 9)).grownBy w7 row) (hrow : row = (Value.slice A1 j c1).ownBlock ∨ row = (Value.slice A2 j2 c2).ownBlock) :
    Blk w7 w2.heap.size 24 #[.int .i64 ep, .int .i64 kk, .slice A1 j c1, .slice A2 j2 c2] ∧ Below w2.heap.size w2 w7 := by
  obtain ⟨hB, hz, hK, hl, hl2, hr, hr2, hd⟩ := h
  have hn : ∀ k, row = some k → w2.heap.size + 1 ≤ k := fun k e => by
    rcases hrow with h1 | h1
    · exact (orow_lt hr (h1.symm.trans e)).1
    · exact (orow_lt hr2 (h1.symm.trans e)).1
  exact ⟨(Blk.alloc (w := W.drew) hK _).grown hg7 (fun e => by have := hn _ e.symm; omega), ((Below.drew hB).alloc (by simp; omega) _).grown hg7 (by simp; omega) (fun k e => by have := hn k e; omega)⟩
theorem LSt.names (h : LSt w2 ep kk L L' j j2 A1 A2 c1 c2 W) (x : ByteArray) (HR7 : SRow w7 (w2.heap.size + 1) (.slice A7 (j + 1) c7) (L ++ [x])) (hg7 : (W.drew.alloc (.cells #[.string x] 9)).grownBy w7 (Value.slice A1 j c1).ownBlock)
    (hne7 : (Value.slice A7 (j + 1) c7).ownBlock = (Value.slice A1 j c1).ownBlock ∨ (Value.slice A7 (j + 1) c7).ownBlock = some (W.drew.alloc (.cells #[.string x] 9)).heap.size) :
    LSt w2 ep kk (L ++ [x]) L' (j + 1) j2 A7 A2 c7 c2 (w7.setCell ⟨w2.heap.size, 2, none⟩ (.slice A7 (j + 1) c7)) := by
  obtain ⟨p1, p2⟩ := h.held x hg7 (.inl rfl)
  obtain ⟨hB, hz, hK, hl, hl2, hr, hr2, hd⟩ := h
  have hsz := hg7.size
  refine ⟨p2.setCell (Nat.le_refl _) _, by simp at hsz ⊢; omega, by have := p1.set_ 2 (.slice A7 (j + 1) c7); simpa using this, by simp [hl], hl2, orow_far HR7 p1 (by decide) 2 _, orow_far (srow_kept (orow_alloc (orow_drew hr2) _) hg7 ?_) p1 (by decide) 2 _, ?_⟩
  · cases hv : Value.ownBlock (.slice A2 j2 c2) with
    | none => exact .inl rfl
    | some g => exact .inr (fun e => hd g e.symm hv)
  · intro g hg hg'
    rcases hne7 with e | e
    · exact hd g (e.symm.trans hg) hg'
    · rw [hg] at e
      injection e with e
      have h1 := (orow_lt hr2 hg').2
      simp at e
      omega
theorem LSt.pledges (h : LSt w2 ep kk L L' j j2 A1 A2 c1 c2 W) (x : ByteArray) (HR7 : SRow w7 (w2.heap.size + 1) (.slice A7 (j2 + 1) c7) (L' ++ [x])) (hg7 : (W.drew.alloc (.cells #[.string x] 9)).grownBy w7 (Value.slice A2 j2 c2).ownBlock)
    (hne7 : (Value.slice A7 (j2 + 1) c7).ownBlock = (Value.slice A2 j2 c2).ownBlock ∨ (Value.slice A7 (j2 + 1) c7).ownBlock = some (W.drew.alloc (.cells #[.string x] 9)).heap.size) :
    LSt w2 ep kk L (L' ++ [x]) j (j2 + 1) A1 A7 c1 c7 (w7.setCell ⟨w2.heap.size, 3, none⟩ (.slice A7 (j2 + 1) c7)) := by
  obtain ⟨p1, p2⟩ := h.held x hg7 (.inr rfl)
  obtain ⟨hB, hz, hK, hl, hl2, hr, hr2, hd⟩ := h
  have hsz := hg7.size
  refine ⟨p2.setCell (Nat.le_refl _) _, by simp at hsz ⊢; omega, by have := p1.set_ 3 (.slice A7 (j2 + 1) c7); simpa using this, hl, by simp [hl2], orow_far (srow_kept (orow_alloc (orow_drew hr) _) hg7 ?_) p1 (by decide) 3 _, orow_far HR7 p1 (by decide) 3 _, ?_⟩
  · cases hv : Value.ownBlock (.slice A1 j c1) with
    | none => exact .inl rfl
    | some g => exact .inr (fun e => hd g hv e.symm)
  · intro g hg hg'
    rcases hne7 with e | e
    · exact hd g hg (e.symm.trans hg')
    · rw [hg'] at e
      injection e with e
      have h1 := (orow_lt hr hg).2
      simp at e
      omega
end
set_option maxRecDepth 100000 in
set_option maxHeartbeats 8000000 in
theorem less_any (r : Rec) (a : Int) (A A' : Option Addr) (n c m d : Nat) (w : World) (hN : SlR encS 1 w w.heap.size A n r.names) (hP : SlR encS 1 w w.heap.size A' m r.pledges) (hsn : ∀ s ∈ r.names, s.size ≤ 140737488351232) (hsp : ∀ s ∈ r.pledges, s.size ≤ 140737488351232) (hG : Pows w) :
    Calls Tryd.prog 5 #[recV r A n c A' m d, .int .i64 a] w fun e w' => e = .returned (.bool true) ∧ Below w.heap.size w w' := by
  have HBI := Lib.hid (fun W (hW : Below w.heap.size w W) => mbig_any r A A' n c m d W ((hN.below hW).more hW.size) ((hP.below hW).more hW.size) hsn hsp)
  have HCK := Lib.hid (fun W (hW : Below w.heap.size w W) => mcheck_any r A A' n c m d W ((hN.below hW).more hW.size) ((hP.below hW).more hW.size) hsn hsp)
  have HME := Lib.hid (fun W (hW : Below w.heap.size w W) => members_any W (hG.below hW))
  have hln := hN.1
  have hlp := hP.1
  cases hbig : bigR r
  · cases hck : checkB r
    · clear hN hP hsn hsp hG hln hlp
      rw [hbig] at HBI
      rw [hck] at HCK
      unfold recV at HBI HCK ⊢
      obtain ⟨ep, kk, nm, pl⟩ := r
      dsimp only at *
      clear hbig hck
      go_enter Tryd.func5, Tryd.ntmps5
      go_wp2_with fail
      refine (HBI.out _ (by go_grown)).mono ?_
      rintro e' w1 ⟨rfl, hb1⟩
      have hx1 : Blk w1 w.heap.size 24 #[.int .i64 ep, .int .i64 kk, .slice A n c, .slice A' m d] := (Blk.new w _ _).below hb1 (by simp)
      have hB1 : Below w.heap.size w w1 := Below.trans (by go_grown) (hb1.mono (by simp))
      have q0 := hx1.cells 0 _ rfl
      have q1 := hx1.cells 1 _ rfl
      have q2 := hx1.cells 2 _ rfl
      have q3 := hx1.cells 3 _ rfl
      simp only [List.getElem_toArray, List.getElem_cons_zero, List.getElem_cons_succ] at q0 q1 q2 q3
      have HB1 := Lib.hid hB1
      clear hx1 hB1 hb1
      go_wp2_with fail
      refine (HCK.out _ HB1.out).mono ?_
      rintro e' w2 ⟨rfl, hb2⟩
      have HB2 := Lib.hid (HB1.out.trans (hb2.mono HB1.out.size))
      clear hb2 q0 q1 q2 q3 HB1
      go_wp2_with fail
      refine (HME.out _ HB2.out).mono ?_
      rintro e' w3 ⟨rfl, hb3⟩
      go_wp2_with (with_reducible refine end_at ?_)
      refine end_ret (v := .bool true) (by simp [results, Tryd.results5]) rfl ⟨rfl, HB2.out.trans (hb3.mono HB2.out.size)⟩
    · obtain ⟨⟨_, _, hn1, hn16, hmn, hk1, hkn⟩, _⟩ := (checkB_iff r).1 hck
      rw [hln] at hn1 hn16 hmn hkn
      rw [hlp] at hmn
      have hnm : n = m := hmn.symm
      subst hnm
      clear hmn
      obtain ⟨b, off, _, rfl, _, hcn⟩ := mrow_at hN (show 0 < n by omega)
      obtain ⟨b', off', _, rfl, _, hcp⟩ := mrow_at hP (show 0 < n by omega)
      have HCN := Lib.hid hcn
      have HCP := Lib.hid hcp
      have HLN := Lib.hid (And.intro hln hlp)
      have HSZ := Lib.hid (And.intro hsn hsp)
      have HKR := Lib.hid hck
      clear hN hP hsn hsp hG hcn hcp hlp hln
      rw [hbig] at HBI
      rw [hck] at HCK
      unfold recV at HBI HCK ⊢
      obtain ⟨ep, kk, nm, pl⟩ := r
      dsimp only at *
      clear hbig hck
      have HB0 : Hid (Below w.heap.size w (w.alloc (.cells #[.int .i64 ep, .int .i64 kk, .slice (some ⟨b, off, none⟩) n c, .slice (some ⟨b', off', none⟩) n d] 24))) := Lib.hid (by go_grown)
      go_enter Tryd.func5, Tryd.ntmps5
      go_wp2_with fail
      refine (HBI.out _ HB0.out).mono ?_
      rintro e' w1 ⟨rfl, hb1⟩
      have hx1 : Blk w1 w.heap.size 24 #[.int .i64 ep, .int .i64 kk, .slice (some ⟨b, off, none⟩) n c, .slice (some ⟨b', off', none⟩) n d] := (Blk.new w _ _).below hb1 (by simp)
      have hB1 : Below w.heap.size w w1 := Below.trans (by go_grown) (hb1.mono (by simp))
      have q0 := hx1.cells 0 _ rfl
      have q1 := hx1.cells 1 _ rfl
      have q2 := hx1.cells 2 _ rfl
      have q3 := hx1.cells 3 _ rfl
      simp only [List.getElem_toArray, List.getElem_cons_zero, List.getElem_cons_succ] at q0 q1 q2 q3
      have HB1 := Lib.hid hB1
      have HX1 := Lib.hid hx1
      clear hx1 hB1 hb1
      go_wp2_with fail
      refine (HCK.out _ HB1.out).mono ?_
      rintro e' w2 ⟨rfl, hb2⟩
      have HB2 := Lib.hid (HB1.out.trans (hb2.mono HB1.out.size))
      have HX2 := Lib.hid (HX1.out.below hb2 HX1.out.lt)
      clear hb2 q0 q1 q2 q3 HB1 HX1
      have q0 := HX2.out.cells 0 _ rfl
      have q1 := HX2.out.cells 1 _ rfl
      have q2 := HX2.out.cells 2 _ rfl
      simp only [List.getElem_toArray, List.getElem_cons_zero, List.getElem_cons_succ] at q0 q1 q2
      by_cases hbad : a < 0 ∨ (n : Int) ≤ a ∨ (n : Int) ≤ kk
      · have hway : a < 0 ∨ (¬ a < 0 ∧ (n : Int) ≤ a) ∨ (¬ a < 0 ∧ ¬ (n : Int) ≤ a ∧ (n : Int) ≤ kk) := by omega
        clear hbad
        rcases hway with h1 | ⟨h1, h2⟩ | ⟨h1, h2, h3⟩
        all_goals
          go_wp2_with fail
          refine (HME.out _ HB2.out).mono ?_
          rintro e' w3 ⟨rfl, hb3⟩
          go_wp2_with (with_reducible refine end_at ?_)
          refine end_ret (v := .bool true) (by simp [results, Tryd.results5]) rfl ⟨rfl, HB2.out.trans (hb3.mono HB2.out.size)⟩
      · obtain ⟨t, rfl⟩ : ∃ t : Nat, a = t := ⟨a.toNat, by omega⟩
        have ht : t < n := by omega
        have hkk : kk < n := by omega
        have HLC := Lib.hid (less_check (at_ := t) HKR.out (by show t < nm.length; rw [HLN.out.1]; exact ht) (by show kk < (nm.length : Int); rw [HLN.out.1]; exact hkk))
        have HLP := Lib.hid (fun (i : Nat) (x : ByteArray) (hx : nm[i]? = some x) => less_place (at_ := t) (i := i) (x := x) HKR.out (by show t < nm.length; rw [HLN.out.1]; exact ht) (by show kk < (nm.length : Int); rw [HLN.out.1]; exact hkk) hx)
        have t1 : ¬ (t : Int) < 0 := by omega
        have t2 : ¬ (n : Int) ≤ (t : Int) := by omega
        have t3 : ¬ (n : Int) ≤ kk := by omega
        have b1 : decide ((t : Int) < 0) = false := by simp
        have b2 : decide ((n : Int) ≤ (t : Int)) = false := by simp; omega
        have b3 : decide (n ≤ t) = false := by simp; omega
        have b4 : decide ((n : Int) ≤ kk) = false := by simp; omega
        have t4 : ¬ n ≤ t := by omega
        clear hbad
        have HBXw : Hid (∀ W, Below w2.heap.size w2 W → Blk W w.heap.size 24 #[.int .i64 ep, .int .i64 kk, .slice (some ⟨b, off, none⟩) n c, .slice (some ⟨b', off', none⟩) n d]) := Lib.hid (fun W hW => HX2.out.below hW HX2.out.lt)
        have hS0 : LSt w2 ep kk ((nm.take 0).eraseIdx t) ((pl.take 0).eraseIdx t) 0 0 none none 0 0 (w2.alloc (.cells #[.int .i64 ep, .int .i64 kk, .slice none 0 0, .slice none 0 0] 24)) :=
          ⟨by go_grown, by simp, Blk.new w2 _ _, by simp, by simp, srow_nil _ _, srow_nil _ _, fun g hg => by cases hg⟩
        have HS0 := Lib.hid hS0
        clear hS0
        go_wp2_with fail
        go_loopw [6] (fun iv wr => ∃ (i j : Nat) (A1 A2 : Option Addr) (c1 c2 : Nat), i ≤ n ∧ j ≤ i ∧ iv = .int .i64 i ∧ Hid (LSt w2 ep kk ((nm.take i).eraseIdx t) ((pl.take i).eraseIdx t) j j A1 A2 c1 c2 wr)) (fun iv _ => n - (intOf iv).toNat)
        case atStart => exact ⟨0, 0, none, none, 0, 0, by omega, by omega, rfl, HS0⟩
        case round =>
          clear HS0 q0 q1 q2
          obtain ⟨i, j, A1, A2, c1, c2, hi, hji, rfl, HS⟩ := hrel
          have hBXr := HBXw.out wr HS.out.1
          have qb2 := hBXr.cells 2 _ rfl
          simp only [List.getElem_toArray, List.getElem_cons_zero, List.getElem_cons_succ] at qb2
          by_cases hlt : i < n
          · obtain ⟨x, hx⟩ : ∃ x, nm[i]? = some x := ⟨_, List.getElem?_eq_getElem (by rw [HLN.out.1]; exact hlt)⟩
            obtain ⟨y, hy⟩ : ∃ y, pl[i]? = some y := ⟨_, List.getElem?_eq_getElem (by rw [HLN.out.2]; exact hlt)⟩
            have i0 : (0 : Int) ≤ (i : Int) := by omega
            have i1 : (i : Int) < (n : Int) := by omega
            by_cases hit : i = t
            · subst hit
              have HS2 : Hid (LSt w2 ep kk ((nm.take (i + 1)).eraseIdx i) ((pl.take (i + 1)).eraseIdx i) j j A1 A2 c1 c2 wr) := Lib.hid (by
                rw [less_eq hx, less_eq hy]
                exact HS.out)
              clear hx hy hBXr HS
              go_wp2_with fail
              go_roundw
              case rel => exact ⟨i + 1, j, A1, A2, c1, c2, by omega, by omega, by go_num, HS2⟩
              case measure => simp [intOf]; omega
            · have HXx := Lib.hid hx
              have HXy := Lib.hid hy
              have e1 := less_ne hit hx
              have e2 := less_ne hit hy
              have E1 := Lib.hid e1
              have E2 := Lib.hid e2
              have qaN := HS.out.2.2.1.cells 2 _ rfl
              have qbN := qb2
              have qcN := HCN.out wr (HB2.out.trans (HS.out.1.mono HB2.out.size)) i x hx
              have hj1000 : j ≤ 1000 := by omega
              simp only [List.getElem_toArray, List.getElem_cons_zero, List.getElem_cons_succ] at qaN
              have hne : ¬ ((i : Int) = (t : Int)) := by omega
              clear hx hy e1 e2 hBXr qb2
              go_wp2_with fail
              refine wp_region_Z 10 (fun W => W.cell? ⟨w2.heap.size, 2, none⟩ = some (.slice A1 j c1) ∧ W.cell? ⟨w.heap.size, 2, none⟩ = some (.slice (some ⟨b, off, none⟩) n c) ∧ W.cell? ⟨b, off + i, none⟩ = some (.string x)) (by kernel_rfl) ?_
              have hHeld : (fun W : World => W.cell? ⟨w2.heap.size, 2, none⟩ = some (.slice A1 j c1) ∧ W.cell? ⟨w.heap.size, 2, none⟩ = some (.slice (some ⟨b, off, none⟩) n c) ∧ W.cell? ⟨b, off + i, none⟩ = some (.string x)) wr.drew := ⟨qaN, qbN, qcN⟩
              refine wpAnyZ_take (i := 0) (v := ?zv1) _ rfl (by kernel_rfl) (by kernel_rfl) (fun _ _ _ h => h) _ _ _ (by kernel_rfl) (by kernel_rfl) (Or.inl ⟨by rfl, ?zh1⟩) (by assumption) ?zr1
              case zh1 => (intro w hSw; (try dsimp only at hSw); go_simp; try with_reducible rfl)
              try simp only [Act.put, List.setIfInBounds_toArray, List.set_cons_zero, List.set_cons_succ]
              refine wpAnyZ_take (i := 1) (v := ?zv2) _ rfl (by kernel_rfl) (by kernel_rfl) (fun _ _ _ h => h) _ _ _ (by kernel_rfl) (by kernel_rfl) (Or.inl ⟨by rfl, ?zh2⟩) (by assumption) ?zr2
              case zh2 => (intro w hSw; (try dsimp only at hSw); go_simp; try with_reducible rfl)
              try simp only [Act.put, List.setIfInBounds_toArray, List.set_cons_zero, List.set_cons_succ]
              refine wpAnyZ_take (i := 2) (v := ?zv3) _ rfl (by kernel_rfl) (by kernel_rfl) (fun _ _ _ h => h) _ _ _ (by kernel_rfl) (by kernel_rfl) (Or.inl ⟨by rfl, ?zh3⟩) (by assumption) ?zr3
              case zh3 => (intro w hSw; (try dsimp only at hSw); go_simp; try with_reducible rfl)
              try simp only [Act.put, List.setIfInBounds_toArray, List.set_cons_zero, List.set_cons_succ]
              refine wpAnyZ_take (i := 3) (v := ?zv4) _ rfl (by kernel_rfl) (by kernel_rfl) (fun _ _ _ h => h) _ _ _ (by kernel_rfl) (by kernel_rfl) (Or.inl ⟨by rfl, ?zh4⟩) (by assumption) ?zr4
              case zh4 => (intro w hSw; (try dsimp only at hSw); go_simp; try with_reducible rfl)
              try simp only [Act.put, List.setIfInBounds_toArray, List.set_cons_zero, List.set_cons_succ]
              refine wpAnyZ_take (i := 4) (v := ?zv5) _ rfl (by kernel_rfl) (by kernel_rfl) (fun _ _ _ h => h) _ _ _ (by kernel_rfl) (by kernel_rfl) (Or.inl ⟨by rfl, ?zh5⟩) (by assumption) ?zr5
              case zh5 => (intro w hSw; (try dsimp only at hSw); go_simp; try with_reducible rfl)
              try simp only [Act.put, List.setIfInBounds_toArray, List.set_cons_zero, List.set_cons_succ]
              refine wpAnyZ_take (i := 5) (v := ?zv6) _ rfl (by kernel_rfl) (by kernel_rfl) (fun _ _ _ h => h) _ _ _ (by kernel_rfl) (by kernel_rfl) (Or.inl ⟨by rfl, ?zh6⟩) (by assumption) ?zr6
              case zh6 => (intro w hSw; (try dsimp only at hSw); go_simp; try with_reducible rfl)
              try simp only [Act.put, List.setIfInBounds_toArray, List.set_cons_zero, List.set_cons_succ]
              refine wpAnyZ_take (i := 6) (v := ?zv7) _ rfl (by kernel_rfl) (by kernel_rfl) (fun _ _ _ h => h) _ _ _ (by kernel_rfl) (by kernel_rfl) (Or.inl ⟨by rfl, ?zh7⟩) (by assumption) ?zr7
              case zh7 => (intro w hSw; (try dsimp only at hSw); go_simp; try with_reducible rfl)
              try simp only [Act.put, List.setIfInBounds_toArray, List.set_cons_zero, List.set_cons_succ]
              refine wpAnyZ_ready (rs := [7]) (by kernel_rfl) (by simp) ?_
              refine AllReadyZ.cons rfl (by decide) (fun K hK => ?_) AllReadyZ.nil
              rw [if_pos (by rfl)]
              simp only [List.getElem_toArray, List.getElem_cons_zero, List.getElem_cons_succ]
              go_simp
              have hKaN : ∀ p : Addr, wr.cell? p ≠ none → (wr.drew.alloc (.cells #[.string x] 9)).cell? p = wr.cell? p := fun p hp => Below.cell (Below.alloc (Below.drew (Below.refl _ _)) (Nat.le_refl _) _) (by
                cases h : wr.cell? p with
                | none => exact absurd h hp
                | some v => exact World.block_lt_of_cell? _ _ h)
              refine hK.out _ _ ⟨(hKaN _ (by rw [qaN]; simp)).trans qaN, (hKaN _ (by rw [qbN]; simp)).trans qbN, (hKaN _ (by rw [qcN]; simp)).trans qcN⟩ (fun hHeld => ?_)
              clear hK K
              try simp only [Act.put, List.setIfInBounds_toArray, List.set_cons_zero, List.set_cons_succ]
              have hcpN : (wr.drew.alloc (.cells #[.string x] 9)).cell? ⟨wr.heap.size, 0, none⟩ = some (.string x) := by
                have := (Blk.new wr.drew 9 #[.string x]).cells 0 _ rfl
                simpa using this
              refine wpAnyZ_ready (rs := [8]) (by kernel_rfl) (by simp) ?_
              refine AllReadyZ.cons rfl (by decide) (fun K hK => ?_) AllReadyZ.nil
              rw [if_pos (by rfl)]
              simp only [List.getElem_toArray, List.getElem_cons_zero, List.getElem_cons_succ]
              refine wp_append_sv (.tmp 53) (.tmp 59) rfl rfl (orow_alloc (orow_drew HS.out.2.2.2.2.2.1) _) HS.out.2.2.2.1 wr.heap.size x rfl hcpN (by omega) (by have := HS.out.2.1; simp; omega) ?_
              intro A9 c9 w7 HR7 hg7 hne7
              have hl7 := HS.out.names x HR7.out hg7 hne7
              have hpk := HS.out.held x hg7 (.inl rfl)
              refine hK.out _ _ ⟨?_, ?_, ?_⟩ (fun hHeld => ?_)
              · have := hpk.1.cells 2 _ rfl; simpa using this
              · have := (HBXw.out _ hpk.2).cells 2 _ rfl; simpa using this
              · exact HCN.out _ (HB2.out.trans (hpk.2.mono HB2.out.size)) i x HXx.out
              clear hK K
              try simp only [Act.put, List.setIfInBounds_toArray, List.set_cons_zero, List.set_cons_succ]
              refine wpAnyZ_take (i := 9) (v := ?zv8) _ rfl (by kernel_rfl) (by kernel_rfl) (fun _ _ _ h => h) _ _ _ (by kernel_rfl) (by kernel_rfl) (Or.inl ⟨by rfl, ?zh8⟩) (by assumption) ?zr8
              case zh8 => (intro w hSw; (try dsimp only at hSw); go_simp; try with_reducible rfl)
              try simp only [Act.put, List.setIfInBounds_toArray, List.set_cons_zero, List.set_cons_succ]
              have qsN := hpk.1.cells 2 _ rfl
              have fsN := hpk.1.frozen
              have lsN := hpk.1.lt
              simp only [List.getElem_toArray, List.getElem_cons_zero, List.getElem_cons_succ] at qsN
              refine wpAnyZ_last (by kernel_rfl) rfl (by kernel_rfl) ?_
              rw [if_pos (by rfl)]
              simp only [List.getElem_toArray, List.getElem_cons_zero, List.getElem_cons_succ]
              have HLN2 := Lib.hid hl7
              clear hHeld hpk hl7 HR7 hg7 hne7 hcpN hKaN
              go_simp
              have qaP := HLN2.out.2.2.1.cells 3 _ rfl
              have qbP := (HBXw.out _ HLN2.out.1).cells 3 _ rfl
              have qcP := HCP.out _ (HB2.out.trans (HLN2.out.1.mono HB2.out.size)) i y HXy.out
              simp only [List.getElem_toArray, List.getElem_cons_zero, List.getElem_cons_succ] at qaP qbP
              clear qaN qbN qcN qsN fsN lsN HS
              generalize w7.setCell ⟨w2.heap.size, 2, none⟩ (.slice A9 (j + 1) c9) = w8 at *
              clear w7
              go_wp2_with fail
              refine wp_region_Z 10 (fun W => W.cell? ⟨w2.heap.size, 3, none⟩ = some (.slice A2 j c2) ∧ W.cell? ⟨w.heap.size, 3, none⟩ = some (.slice (some ⟨b', off', none⟩) n d) ∧ W.cell? ⟨b', off' + i, none⟩ = some (.string y)) (by kernel_rfl) ?_
              have hHeld : (fun W : World => W.cell? ⟨w2.heap.size, 3, none⟩ = some (.slice A2 j c2) ∧ W.cell? ⟨w.heap.size, 3, none⟩ = some (.slice (some ⟨b', off', none⟩) n d) ∧ W.cell? ⟨b', off' + i, none⟩ = some (.string y)) w8.drew := ⟨qaP, qbP, qcP⟩
              refine wpAnyZ_take (i := 0) (v := ?zv9) _ rfl (by kernel_rfl) (by kernel_rfl) (fun _ _ _ h => h) _ _ _ (by kernel_rfl) (by kernel_rfl) (Or.inl ⟨by rfl, ?zh9⟩) (by assumption) ?zr9
              case zh9 => (intro w hSw; (try dsimp only at hSw); go_simp; try with_reducible rfl)
              try simp only [Act.put, List.setIfInBounds_toArray, List.set_cons_zero, List.set_cons_succ]
              refine wpAnyZ_take (i := 1) (v := ?zv10) _ rfl (by kernel_rfl) (by kernel_rfl) (fun _ _ _ h => h) _ _ _ (by kernel_rfl) (by kernel_rfl) (Or.inl ⟨by rfl, ?zh10⟩) (by assumption) ?zr10
              case zh10 => (intro w hSw; (try dsimp only at hSw); go_simp; try with_reducible rfl)
              try simp only [Act.put, List.setIfInBounds_toArray, List.set_cons_zero, List.set_cons_succ]
              refine wpAnyZ_take (i := 2) (v := ?zv11) _ rfl (by kernel_rfl) (by kernel_rfl) (fun _ _ _ h => h) _ _ _ (by kernel_rfl) (by kernel_rfl) (Or.inl ⟨by rfl, ?zh11⟩) (by assumption) ?zr11
              case zh11 => (intro w hSw; (try dsimp only at hSw); go_simp; try with_reducible rfl)
              try simp only [Act.put, List.setIfInBounds_toArray, List.set_cons_zero, List.set_cons_succ]
              refine wpAnyZ_take (i := 3) (v := ?zv12) _ rfl (by kernel_rfl) (by kernel_rfl) (fun _ _ _ h => h) _ _ _ (by kernel_rfl) (by kernel_rfl) (Or.inl ⟨by rfl, ?zh12⟩) (by assumption) ?zr12
              case zh12 => (intro w hSw; (try dsimp only at hSw); go_simp; try with_reducible rfl)
              try simp only [Act.put, List.setIfInBounds_toArray, List.set_cons_zero, List.set_cons_succ]
              refine wpAnyZ_take (i := 4) (v := ?zv13) _ rfl (by kernel_rfl) (by kernel_rfl) (fun _ _ _ h => h) _ _ _ (by kernel_rfl) (by kernel_rfl) (Or.inl ⟨by rfl, ?zh13⟩) (by assumption) ?zr13
              case zh13 => (intro w hSw; (try dsimp only at hSw); go_simp; try with_reducible rfl)
              try simp only [Act.put, List.setIfInBounds_toArray, List.set_cons_zero, List.set_cons_succ]
              refine wpAnyZ_take (i := 5) (v := ?zv14) _ rfl (by kernel_rfl) (by kernel_rfl) (fun _ _ _ h => h) _ _ _ (by kernel_rfl) (by kernel_rfl) (Or.inl ⟨by rfl, ?zh14⟩) (by assumption) ?zr14
              case zh14 => (intro w hSw; (try dsimp only at hSw); go_simp; try with_reducible rfl)
              try simp only [Act.put, List.setIfInBounds_toArray, List.set_cons_zero, List.set_cons_succ]
              refine wpAnyZ_take (i := 6) (v := ?zv15) _ rfl (by kernel_rfl) (by kernel_rfl) (fun _ _ _ h => h) _ _ _ (by kernel_rfl) (by kernel_rfl) (Or.inl ⟨by rfl, ?zh15⟩) (by assumption) ?zr15
              case zh15 => (intro w hSw; (try dsimp only at hSw); go_simp; try with_reducible rfl)
              try simp only [Act.put, List.setIfInBounds_toArray, List.set_cons_zero, List.set_cons_succ]
              refine wpAnyZ_ready (rs := [7]) (by kernel_rfl) (by simp) ?_
              refine AllReadyZ.cons rfl (by decide) (fun K hK => ?_) AllReadyZ.nil
              rw [if_pos (by rfl)]
              simp only [List.getElem_toArray, List.getElem_cons_zero, List.getElem_cons_succ]
              go_simp
              have hKaP : ∀ p : Addr, w8.cell? p ≠ none → (w8.drew.alloc (.cells #[.string y] 9)).cell? p = w8.cell? p := fun p hp => Below.cell (Below.alloc (Below.drew (Below.refl _ _)) (Nat.le_refl _) _) (by
                cases h : w8.cell? p with
                | none => exact absurd h hp
                | some v => exact World.block_lt_of_cell? _ _ h)
              refine hK.out _ _ ⟨(hKaP _ (by rw [qaP]; simp)).trans qaP, (hKaP _ (by rw [qbP]; simp)).trans qbP, (hKaP _ (by rw [qcP]; simp)).trans qcP⟩ (fun hHeld => ?_)
              clear hK K
              try simp only [Act.put, List.setIfInBounds_toArray, List.set_cons_zero, List.set_cons_succ]
              have hcpP : (w8.drew.alloc (.cells #[.string y] 9)).cell? ⟨w8.heap.size, 0, none⟩ = some (.string y) := by
                have := (Blk.new w8.drew 9 #[.string y]).cells 0 _ rfl
                simpa using this
              refine wpAnyZ_ready (rs := [8]) (by kernel_rfl) (by simp) ?_
              refine AllReadyZ.cons rfl (by decide) (fun K hK => ?_) AllReadyZ.nil
              rw [if_pos (by rfl)]
              simp only [List.getElem_toArray, List.getElem_cons_zero, List.getElem_cons_succ]
              refine wp_append_sv (.tmp 63) (.tmp 69) rfl rfl (orow_alloc (orow_drew HLN2.out.2.2.2.2.2.2.1) _) HLN2.out.2.2.2.2.1 w8.heap.size y rfl hcpP (by omega) (by have := HLN2.out.2.1; simp; omega) ?_
              intro A7 c7 w7 HR7 hg7 hne7
              have hl7 := HLN2.out.pledges y HR7.out hg7 hne7
              have hpk := HLN2.out.held y hg7 (.inr rfl)
              refine hK.out _ _ ⟨?_, ?_, ?_⟩ (fun hHeld => ?_)
              · have := hpk.1.cells 3 _ rfl; simpa using this
              · have := (HBXw.out _ hpk.2).cells 3 _ rfl; simpa using this
              · exact HCP.out _ (HB2.out.trans (hpk.2.mono HB2.out.size)) i y HXy.out
              clear hK K
              try simp only [Act.put, List.setIfInBounds_toArray, List.set_cons_zero, List.set_cons_succ]
              refine wpAnyZ_take (i := 9) (v := ?zv16) _ rfl (by kernel_rfl) (by kernel_rfl) (fun _ _ _ h => h) _ _ _ (by kernel_rfl) (by kernel_rfl) (Or.inl ⟨by rfl, ?zh16⟩) (by assumption) ?zr16
              case zh16 => (intro w hSw; (try dsimp only at hSw); go_simp; try with_reducible rfl)
              try simp only [Act.put, List.setIfInBounds_toArray, List.set_cons_zero, List.set_cons_succ]
              have qsP := hpk.1.cells 3 _ rfl
              have fsP := hpk.1.frozen
              have lsP := hpk.1.lt
              simp only [List.getElem_toArray, List.getElem_cons_zero, List.getElem_cons_succ] at qsP
              refine wpAnyZ_last (by kernel_rfl) rfl (by kernel_rfl) ?_
              rw [if_pos (by rfl)]
              simp only [List.getElem_toArray, List.getElem_cons_zero, List.getElem_cons_succ]
              have HLP2 := Lib.hid hl7
              clear hHeld hpk hl7 HR7 hg7 hne7 hcpP hKaP
              go_simp
              have HS2 : Hid (LSt w2 ep kk ((nm.take (i + 1)).eraseIdx t) ((pl.take (i + 1)).eraseIdx t) (j + 1) (j + 1) A9 A7 c9 c7 (w7.setCell ⟨w2.heap.size, 3, none⟩ (.slice A7 (j + 1) c7))) := Lib.hid (by
                rw [E1.out, E2.out]
                exact HLP2.out)
              clear qaP qbP qcP qsP fsP lsP HLP2 HLN2
              generalize w7.setCell ⟨w2.heap.size, 3, none⟩ (.slice A7 (j + 1) c7) = w9 at *
              go_wp2_with fail
              go_roundw
              case rel => first | exact ⟨i + 1, j + 1, A9, A7, c9, c7, by omega, by omega, by go_num, HS2⟩ | exact ⟨i + 1, by omega, j + 1, by omega, by simp, A9, A7, c9, c7, HS2⟩
              case measure => simp [intOf]; omega
          · obtain rfl : i = n := by omega
            have hS3 := HS.out
            rw [show nm.take i = nm by rw [← HLN.out.1]; exact List.take_length .., show pl.take i = pl by rw [← HLN.out.2]; exact List.take_length ..] at hS3
            have hB3 := HB2.out.trans (hS3.1.mono HB2.out.size)
            have hsN := srow_slr hS3.2.2.2.2.2.1 hS3.2.2.2.1
            have hsP := srow_slr hS3.2.2.2.2.2.2.1 hS3.2.2.2.2.1
            have hz1 : ∀ s ∈ (lessR ⟨ep, kk, nm, pl⟩ t).names, s.size ≤ 140737488351232 := fun s hs => HSZ.out.1 s (List.mem_of_mem_eraseIdx hs)
            have hz2 : ∀ s ∈ (lessR ⟨ep, kk, nm, pl⟩ t).pledges, s.size ≤ 140737488351232 := fun s hs => HSZ.out.2 s (List.mem_of_mem_eraseIdx hs)
            have HPL0 := Lib.hid (fun s W (hW : Below wr.heap.size wr W) => mplace_any (lessR ⟨ep, kk, nm, pl⟩ t) s A1 A2 j c1 j c2 W ((hsN.below hW).more hW.size) ((hsP.below hW).more hW.size) hz1 hz2)
            have HCK2 := Lib.hid (fun W (hW : Below wr.heap.size wr W) => mcheck_any (lessR ⟨ep, kk, nm, pl⟩ t) A1 A2 j c1 j c2 W ((hsN.below hW).more hW.size) ((hsP.below hW).more hW.size) hz1 hz2)
            rw [HLC.out] at HCK2
            unfold recV lessR at HCK2 HPL0
            dsimp only at HCK2 HPL0
            have HB3 := Lib.hid hB3
            have HBL := Lib.hid hS3.2.2.1
            have HBR := Lib.hid hBXr
            have hgl := hS3.2.2.1.lt
            clear hS3 hB3 hsN hsP hz1 hz2 HS hBXr HCK HBI HB2 HX2 HBXw HCP
            go_wp2_with fail
            clear qb2
            generalize wr = wz at *
            go_loopw [7] (fun iv wq => ∃ k : Nat, k ≤ i ∧ iv = .int .i64 k ∧ Hid (Below wz.heap.size wz wq)) (fun iv _ => i - (intOf iv).toNat)
            case atStart => exact ⟨0, by omega, rfl, Lib.hid (Below.refl _ _)⟩
            case round =>
              obtain ⟨k, hk, rfl, HW⟩ := hrel
              have HBw := HW
              have HBX := Lib.hid (HBL.out.below HW.out hgl)
              have hBR := HBR.out.below HW.out HBR.out.lt
              have q2 := hBR.cells 2 _ rfl
              simp only [List.getElem_toArray, List.getElem_cons_zero, List.getElem_cons_succ] at q2
              clear hBR
              by_cases hlt2 : k < i
              · obtain ⟨x, hx⟩ : ∃ x, nm[k]? = some x := ⟨_, List.getElem?_eq_getElem (by rw [HLN.out.1]; exact hlt2)⟩
                have cx := HCN.out wr (HB3.out.trans (HW.out.mono HB3.out.size)) k x hx
                have k0 : (0 : Int) ≤ (k : Int) := by omega
                have k1 : (k : Int) < (i : Int) := by omega
                have HXX := Lib.hid hx
                clear hx
                by_cases hkt : k = t
                · subst hkt
                  have e5 : ((k : Int) == (k : Int)) = true := by simp
                  have e6 : ((k : Int) != (k : Int)) = false := by simp
                  have HPL : Hid (∀ W, Below wz.heap.size wz W → Calls Tryd.prog 16 #[.agg #[.int .i64 ep, .int .i64 kk, .slice A1 j c1, .slice A2 j c2], .string x] W fun e w' => e = .returned (.tuple #[.int .i64 0, .bool false]) ∧ Below W.heap.size W w') := Lib.hid (fun W hW => by
                    have h := HPL0.out x W hW
                    have h2 := HLP.out k x HXX.out
                    unfold lessR at h2
                    dsimp only at h2
                    rw [h2, if_pos rfl] at h
                    exact h)
                  go_wp2_with fail
                  refine wp_region_held_drew (S := fun W => Below wr.heap.size wr W ∧ W.cell? ⟨w.heap.size, 2, none⟩ = some (.slice (some ⟨b, off, none⟩) i c) ∧ W.cell? ⟨b, off + k, none⟩ = some (.string x)) (by kernel_rfl) (⟨Still.below (Still.drew wr), q2, cx⟩) (fun hHeld => ?_)
                  refine wpAnyH_take (i := 0) (v := (.agg #[.int .i64 ep, .int .i64 kk, .slice A1 j c1, .slice A2 j c2])) rfl (by kernel_rfl) (by kernel_rfl) (by kernel_rfl) (fun _ _ _ h => h) (yields_rowg 24 (.tmp 5) rfl rfl _ rfl 24 #[.int .i64 ep, .int .i64 kk, .slice A1 j c1, .slice A2 j c2] _ Tryd.underlying24 rfl (by kernel_rfl) (fun W hW => Blk.below HBX.out hW.1 HBX.out.lt)) hHeld ?restu1
                  try simp only [Act.put, List.getElem_toArray, List.getElem_cons_succ, List.getElem_cons_zero, List.setIfInBounds_toArray, List.set_cons_zero, List.set_cons_succ]
                  refine wpAnyH_take (i := 1) (v := ?vu2) rfl (by kernel_rfl) (by kernel_rfl) (by kernel_rfl) (fun _ _ _ h => h) (Or.inl ⟨by rfl, ?hyu2⟩) hHeld ?restu2
                  case hyu2 => (intro w hSw; (try dsimp only at hSw); go_simp; try with_reducible rfl)
                  try simp only [Act.put, List.getElem_toArray, List.getElem_cons_succ, List.getElem_cons_zero, List.setIfInBounds_toArray, List.set_cons_zero, List.set_cons_succ]
                  refine wpAnyH_take (i := 2) (v := ?vu3) rfl (by kernel_rfl) (by kernel_rfl) (by kernel_rfl) (fun _ _ _ h => h) (Or.inl ⟨by rfl, ?hyu3⟩) hHeld ?restu3
                  case hyu3 => (intro w hSw; (try dsimp only at hSw); go_simp; try with_reducible rfl)
                  try simp only [Act.put, List.getElem_toArray, List.getElem_cons_succ, List.getElem_cons_zero, List.setIfInBounds_toArray, List.set_cons_zero, List.set_cons_succ]
                  refine wpAnyH_take (i := 3) (v := ?vu4) rfl (by kernel_rfl) (by kernel_rfl) (by kernel_rfl) (fun _ _ _ h => h) (Or.inl ⟨by rfl, ?hyu4⟩) hHeld ?restu4
                  case hyu4 => (intro w hSw; (try dsimp only at hSw); go_simp; try with_reducible rfl)
                  try simp only [Act.put, List.getElem_toArray, List.getElem_cons_succ, List.getElem_cons_zero, List.setIfInBounds_toArray, List.set_cons_zero, List.set_cons_succ]
                  refine wpAnyH_take (i := 4) (v := ?vu5) rfl (by kernel_rfl) (by kernel_rfl) (by kernel_rfl) (fun _ _ _ h => h) (Or.inl ⟨by rfl, ?hyu5⟩) hHeld ?restu5
                  case hyu5 => (intro w hSw; (try dsimp only at hSw); go_simp; try with_reducible rfl)
                  try simp only [Act.put, List.getElem_toArray, List.getElem_cons_succ, List.getElem_cons_zero, List.setIfInBounds_toArray, List.set_cons_zero, List.set_cons_succ]
                  refine wpAnyH_take (i := 5) (v := ?vu6) rfl (by kernel_rfl) (by kernel_rfl) (by kernel_rfl) (fun _ _ _ h => h) (Or.inl ⟨by rfl, ?hyu6⟩) hHeld ?restu6
                  case hyu6 => (intro w hSw; (try dsimp only at hSw); go_simp; try with_reducible rfl)
                  try simp only [Act.put, List.getElem_toArray, List.getElem_cons_succ, List.getElem_cons_zero, List.setIfInBounds_toArray, List.set_cons_zero, List.set_cons_succ]
                  refine wpAnyH_ready (rs := [6]) (by kernel_rfl) (by simp) ?_
                  refine AllReadyH.cons rfl (fun K hK => ?_) AllReadyH.nil
                  have hPrev := Lib.hid hHeld
                  clear hHeld
                  go_simp
                  refine (HPL.out _ (HBw.out.trans (hPrev.out.1.mono HBw.out.size))).mono ?_
                  rintro e' w5 ⟨rfl, hb5⟩
                  go_simp
                  refine hK.out _ _ (⟨hPrev.out.1.trans (hb5.mono hPrev.out.1.size), (hb5.cell (World.block_lt_of_cell? _ _ hPrev.out.2.1)).trans hPrev.out.2.1, (hb5.cell (World.block_lt_of_cell? _ _ hPrev.out.2.2)).trans hPrev.out.2.2⟩) (fun hHeld => ?_)
                  clear hK K hPrev
                  try simp only [Act.put, List.getElem_toArray, List.getElem_cons_succ, List.getElem_cons_zero, List.setIfInBounds_toArray, List.set_cons_zero, List.set_cons_succ]
                  refine wpAnyH_take (i := 7) (v := ?vu8) rfl (by kernel_rfl) (by kernel_rfl) (by kernel_rfl) (fun _ _ _ h => h) (Or.inl ⟨by rfl, ?hyu8⟩) hHeld ?restu8
                  case hyu8 => (intro w hSw; (try dsimp only at hSw); go_simp; try with_reducible rfl)
                  try simp only [Act.put, List.getElem_toArray, List.getElem_cons_succ, List.getElem_cons_zero, List.setIfInBounds_toArray, List.set_cons_zero, List.set_cons_succ]
                  refine wpAnyH_take (i := 8) (v := ?vu9) rfl (by kernel_rfl) (by kernel_rfl) (by kernel_rfl) (fun _ _ _ h => h) (Or.inl ⟨by rfl, ?hyu9⟩) hHeld ?restu9
                  case hyu9 => (intro w hSw; (try dsimp only at hSw); go_simp; try with_reducible rfl)
                  try simp only [Act.put, List.getElem_toArray, List.getElem_cons_succ, List.getElem_cons_zero, List.setIfInBounds_toArray, List.set_cons_zero, List.set_cons_succ]
                  refine wpAnyH_take (i := 9) (v := ?vu10) rfl (by kernel_rfl) (by kernel_rfl) (by kernel_rfl) (fun _ _ _ h => h) (Or.inl ⟨by rfl, ?hyu10⟩) hHeld ?restu10
                  case hyu10 => (intro w hSw; (try dsimp only at hSw); go_simp; try with_reducible rfl)
                  try simp only [Act.put, List.getElem_toArray, List.getElem_cons_succ, List.getElem_cons_zero, List.setIfInBounds_toArray, List.set_cons_zero, List.set_cons_succ]
                  refine wpAnyH_take (i := 10) (v := ?vu11) rfl (by kernel_rfl) (by kernel_rfl) (by kernel_rfl) (fun _ _ _ h => h) (Or.inl ⟨by rfl, ?hyu11⟩) hHeld ?restu11
                  case hyu11 => (intro w hSw; (try dsimp only at hSw); go_simp; try with_reducible rfl)
                  try simp only [Act.put, List.getElem_toArray, List.getElem_cons_succ, List.getElem_cons_zero, List.setIfInBounds_toArray, List.set_cons_zero, List.set_cons_succ]
                  refine wpAnyH_take (i := 11) (v := ?vu12) rfl (by kernel_rfl) (by kernel_rfl) (by kernel_rfl) (fun _ _ _ h => h) (Or.inl ⟨by rfl, ?hyu12⟩) hHeld ?restu12
                  case hyu12 => (intro w hSw; (try dsimp only at hSw); go_simp; try with_reducible rfl)
                  try simp only [Act.put, List.getElem_toArray, List.getElem_cons_succ, List.getElem_cons_zero, List.setIfInBounds_toArray, List.set_cons_zero, List.set_cons_succ]
                  refine wpAnyH_done (by kernel_rfl) ?_ _
                  have HW5 := Lib.hid (show Below wr.heap.size wr w5 from hHeld.1)
                  clear hHeld
                  go_wp2_with fail
                  go_roundw
                  case rel => exact ⟨k + 1, by omega, by go_num, Lib.hid (HW.out.trans (HW5.out.mono HW.out.size))⟩
                  case measure => simp [intOf]; omega
                · by_cases hkl : k < t
                  · have e4 : ((k : Int) == (t : Int)) = false := by simp; omega
                    have e5 : ((k : Int) != (t : Int)) = true := by simp; omega
                    have e6 : decide ((k : Int) < (t : Int)) = true := by simp; omega
                    have e7 : decide (k < t) = true := by simp; omega
                    have e8 : decide ((t : Int) < (k : Int)) = false := by simp; omega
                    have e9 : decide (t < k) = false := by simp; omega
                    have HPL : Hid (∀ W, Below wz.heap.size wz W → Calls Tryd.prog 16 #[.agg #[.int .i64 ep, .int .i64 kk, .slice A1 j c1, .slice A2 j c2], .string x] W fun e w' => e = .returned (.tuple #[.int .i64 ((k : Int) + 1), .bool true]) ∧ Below W.heap.size W w') := Lib.hid (fun W hW => by
                      have h := HPL0.out x W hW
                      have h2 := HLP.out k x HXX.out
                      unfold lessR at h2
                      dsimp only at h2
                      rw [h2, if_neg hkt, if_pos hkl] at h
                      exact h)
                    go_wp2_with fail
                    refine wp_region_held_drew (S := fun W => Below wr.heap.size wr W ∧ W.cell? ⟨w.heap.size, 2, none⟩ = some (.slice (some ⟨b, off, none⟩) i c) ∧ W.cell? ⟨b, off + k, none⟩ = some (.string x)) (by kernel_rfl) (⟨Still.below (Still.drew wr), q2, cx⟩) (fun hHeld => ?_)
                    refine wpAnyH_take (i := 0) (v := (.agg #[.int .i64 ep, .int .i64 kk, .slice A1 j c1, .slice A2 j c2])) rfl (by kernel_rfl) (by kernel_rfl) (by kernel_rfl) (fun _ _ _ h => h) (yields_rowg 24 (.tmp 5) rfl rfl _ rfl 24 #[.int .i64 ep, .int .i64 kk, .slice A1 j c1, .slice A2 j c2] _ Tryd.underlying24 rfl (by kernel_rfl) (fun W hW => Blk.below HBX.out hW.1 HBX.out.lt)) hHeld ?restv13
                    try simp only [Act.put, List.getElem_toArray, List.getElem_cons_succ, List.getElem_cons_zero, List.setIfInBounds_toArray, List.set_cons_zero, List.set_cons_succ]
                    refine wpAnyH_take (i := 1) (v := ?vv14) rfl (by kernel_rfl) (by kernel_rfl) (by kernel_rfl) (fun _ _ _ h => h) (Or.inl ⟨by rfl, ?hyv14⟩) hHeld ?restv14
                    case hyv14 => (intro w hSw; (try dsimp only at hSw); go_simp; try with_reducible rfl)
                    try simp only [Act.put, List.getElem_toArray, List.getElem_cons_succ, List.getElem_cons_zero, List.setIfInBounds_toArray, List.set_cons_zero, List.set_cons_succ]
                    refine wpAnyH_take (i := 2) (v := ?vv15) rfl (by kernel_rfl) (by kernel_rfl) (by kernel_rfl) (fun _ _ _ h => h) (Or.inl ⟨by rfl, ?hyv15⟩) hHeld ?restv15
                    case hyv15 => (intro w hSw; (try dsimp only at hSw); go_simp; try with_reducible rfl)
                    try simp only [Act.put, List.getElem_toArray, List.getElem_cons_succ, List.getElem_cons_zero, List.setIfInBounds_toArray, List.set_cons_zero, List.set_cons_succ]
                    refine wpAnyH_take (i := 3) (v := ?vv16) rfl (by kernel_rfl) (by kernel_rfl) (by kernel_rfl) (fun _ _ _ h => h) (Or.inl ⟨by rfl, ?hyv16⟩) hHeld ?restv16
                    case hyv16 => (intro w hSw; (try dsimp only at hSw); go_simp; try with_reducible rfl)
                    try simp only [Act.put, List.getElem_toArray, List.getElem_cons_succ, List.getElem_cons_zero, List.setIfInBounds_toArray, List.set_cons_zero, List.set_cons_succ]
                    refine wpAnyH_take (i := 4) (v := ?vv17) rfl (by kernel_rfl) (by kernel_rfl) (by kernel_rfl) (fun _ _ _ h => h) (Or.inl ⟨by rfl, ?hyv17⟩) hHeld ?restv17
                    case hyv17 => (intro w hSw; (try dsimp only at hSw); go_simp; try with_reducible rfl)
                    try simp only [Act.put, List.getElem_toArray, List.getElem_cons_succ, List.getElem_cons_zero, List.setIfInBounds_toArray, List.set_cons_zero, List.set_cons_succ]
                    refine wpAnyH_take (i := 5) (v := ?vv18) rfl (by kernel_rfl) (by kernel_rfl) (by kernel_rfl) (fun _ _ _ h => h) (Or.inl ⟨by rfl, ?hyv18⟩) hHeld ?restv18
                    case hyv18 => (intro w hSw; (try dsimp only at hSw); go_simp; try with_reducible rfl)
                    try simp only [Act.put, List.getElem_toArray, List.getElem_cons_succ, List.getElem_cons_zero, List.setIfInBounds_toArray, List.set_cons_zero, List.set_cons_succ]
                    refine wpAnyH_ready (rs := [6]) (by kernel_rfl) (by simp) ?_
                    refine AllReadyH.cons rfl (fun K hK => ?_) AllReadyH.nil
                    have hPrev := Lib.hid hHeld
                    clear hHeld
                    go_simp
                    refine (HPL.out _ (HBw.out.trans (hPrev.out.1.mono HBw.out.size))).mono ?_
                    rintro e' w5 ⟨rfl, hb5⟩
                    go_simp
                    refine hK.out _ _ (⟨hPrev.out.1.trans (hb5.mono hPrev.out.1.size), (hb5.cell (World.block_lt_of_cell? _ _ hPrev.out.2.1)).trans hPrev.out.2.1, (hb5.cell (World.block_lt_of_cell? _ _ hPrev.out.2.2)).trans hPrev.out.2.2⟩) (fun hHeld => ?_)
                    clear hK K hPrev
                    try simp only [Act.put, List.getElem_toArray, List.getElem_cons_succ, List.getElem_cons_zero, List.setIfInBounds_toArray, List.set_cons_zero, List.set_cons_succ]
                    refine wpAnyH_take (i := 7) (v := ?vv20) rfl (by kernel_rfl) (by kernel_rfl) (by kernel_rfl) (fun _ _ _ h => h) (Or.inl ⟨by rfl, ?hyv20⟩) hHeld ?restv20
                    case hyv20 => (intro w hSw; (try dsimp only at hSw); go_simp; try with_reducible rfl)
                    try simp only [Act.put, List.getElem_toArray, List.getElem_cons_succ, List.getElem_cons_zero, List.setIfInBounds_toArray, List.set_cons_zero, List.set_cons_succ]
                    refine wpAnyH_take (i := 8) (v := ?vv21) rfl (by kernel_rfl) (by kernel_rfl) (by kernel_rfl) (fun _ _ _ h => h) (Or.inl ⟨by rfl, ?hyv21⟩) hHeld ?restv21
                    case hyv21 => (intro w hSw; (try dsimp only at hSw); go_simp; try with_reducible rfl)
                    try simp only [Act.put, List.getElem_toArray, List.getElem_cons_succ, List.getElem_cons_zero, List.setIfInBounds_toArray, List.set_cons_zero, List.set_cons_succ]
                    refine wpAnyH_take (i := 9) (v := ?vv22) rfl (by kernel_rfl) (by kernel_rfl) (by kernel_rfl) (fun _ _ _ h => h) (Or.inl ⟨by rfl, ?hyv22⟩) hHeld ?restv22
                    case hyv22 => (intro w hSw; (try dsimp only at hSw); go_simp; try with_reducible rfl)
                    try simp only [Act.put, List.getElem_toArray, List.getElem_cons_succ, List.getElem_cons_zero, List.setIfInBounds_toArray, List.set_cons_zero, List.set_cons_succ]
                    refine wpAnyH_take (i := 10) (v := ?vv23) rfl (by kernel_rfl) (by kernel_rfl) (by kernel_rfl) (fun _ _ _ h => h) (Or.inl ⟨by rfl, ?hyv23⟩) hHeld ?restv23
                    case hyv23 => (intro w hSw; (try dsimp only at hSw); go_simp; try with_reducible rfl)
                    try simp only [Act.put, List.getElem_toArray, List.getElem_cons_succ, List.getElem_cons_zero, List.setIfInBounds_toArray, List.set_cons_zero, List.set_cons_succ]
                    refine wpAnyH_take (i := 11) (v := ?vv24) rfl (by kernel_rfl) (by kernel_rfl) (by kernel_rfl) (fun _ _ _ h => h) (Or.inl ⟨by rfl, ?hyv24⟩) hHeld ?restv24
                    case hyv24 => (intro w hSw; (try dsimp only at hSw); go_simp; try with_reducible rfl)
                    try simp only [Act.put, List.getElem_toArray, List.getElem_cons_succ, List.getElem_cons_zero, List.setIfInBounds_toArray, List.set_cons_zero, List.set_cons_succ]
                    refine wpAnyH_done (by kernel_rfl) ?_ _
                    have HW5 := Lib.hid (show Below wr.heap.size wr w5 from hHeld.1)
                    clear hHeld
                    go_wp2_with fail
                    go_roundw
                    case rel => exact ⟨k + 1, by omega, by go_num, Lib.hid (HW.out.trans (HW5.out.mono HW.out.size))⟩
                    case measure => simp [intOf]; omega
                  · have e4 : ((k : Int) == (t : Int)) = false := by simp; omega
                    have e5 : ((k : Int) != (t : Int)) = true := by simp; omega
                    have e6 : decide ((k : Int) < (t : Int)) = false := by simp; omega
                    have e7 : decide (k < t) = false := by simp; omega
                    have e8 : decide ((t : Int) < (k : Int)) = true := by simp; omega
                    have e9 : decide (t < k) = true := by simp; omega
                    have HPL : Hid (∀ W, Below wz.heap.size wz W → Calls Tryd.prog 16 #[.agg #[.int .i64 ep, .int .i64 kk, .slice A1 j c1, .slice A2 j c2], .string x] W fun e w' => e = .returned (.tuple #[.int .i64 (k : Int), .bool true]) ∧ Below W.heap.size W w') := Lib.hid (fun W hW => by
                      have h := HPL0.out x W hW
                      have h2 := HLP.out k x HXX.out
                      unfold lessR at h2
                      dsimp only at h2
                      rw [h2, if_neg hkt, if_neg hkl] at h
                      exact h)
                    go_wp2_with fail
                    refine wp_region_held_drew (S := fun W => Below wr.heap.size wr W ∧ W.cell? ⟨w.heap.size, 2, none⟩ = some (.slice (some ⟨b, off, none⟩) i c) ∧ W.cell? ⟨b, off + k, none⟩ = some (.string x)) (by kernel_rfl) (⟨Still.below (Still.drew wr), q2, cx⟩) (fun hHeld => ?_)
                    refine wpAnyH_take (i := 0) (v := (.agg #[.int .i64 ep, .int .i64 kk, .slice A1 j c1, .slice A2 j c2])) rfl (by kernel_rfl) (by kernel_rfl) (by kernel_rfl) (fun _ _ _ h => h) (yields_rowg 24 (.tmp 5) rfl rfl _ rfl 24 #[.int .i64 ep, .int .i64 kk, .slice A1 j c1, .slice A2 j c2] _ Tryd.underlying24 rfl (by kernel_rfl) (fun W hW => Blk.below HBX.out hW.1 HBX.out.lt)) hHeld ?restx25
                    try simp only [Act.put, List.getElem_toArray, List.getElem_cons_succ, List.getElem_cons_zero, List.setIfInBounds_toArray, List.set_cons_zero, List.set_cons_succ]
                    refine wpAnyH_take (i := 1) (v := ?vx26) rfl (by kernel_rfl) (by kernel_rfl) (by kernel_rfl) (fun _ _ _ h => h) (Or.inl ⟨by rfl, ?hyx26⟩) hHeld ?restx26
                    case hyx26 => (intro w hSw; (try dsimp only at hSw); go_simp; try with_reducible rfl)
                    try simp only [Act.put, List.getElem_toArray, List.getElem_cons_succ, List.getElem_cons_zero, List.setIfInBounds_toArray, List.set_cons_zero, List.set_cons_succ]
                    refine wpAnyH_take (i := 2) (v := ?vx27) rfl (by kernel_rfl) (by kernel_rfl) (by kernel_rfl) (fun _ _ _ h => h) (Or.inl ⟨by rfl, ?hyx27⟩) hHeld ?restx27
                    case hyx27 => (intro w hSw; (try dsimp only at hSw); go_simp; try with_reducible rfl)
                    try simp only [Act.put, List.getElem_toArray, List.getElem_cons_succ, List.getElem_cons_zero, List.setIfInBounds_toArray, List.set_cons_zero, List.set_cons_succ]
                    refine wpAnyH_take (i := 3) (v := ?vx28) rfl (by kernel_rfl) (by kernel_rfl) (by kernel_rfl) (fun _ _ _ h => h) (Or.inl ⟨by rfl, ?hyx28⟩) hHeld ?restx28
                    case hyx28 => (intro w hSw; (try dsimp only at hSw); go_simp; try with_reducible rfl)
                    try simp only [Act.put, List.getElem_toArray, List.getElem_cons_succ, List.getElem_cons_zero, List.setIfInBounds_toArray, List.set_cons_zero, List.set_cons_succ]
                    refine wpAnyH_take (i := 4) (v := ?vx29) rfl (by kernel_rfl) (by kernel_rfl) (by kernel_rfl) (fun _ _ _ h => h) (Or.inl ⟨by rfl, ?hyx29⟩) hHeld ?restx29
                    case hyx29 => (intro w hSw; (try dsimp only at hSw); go_simp; try with_reducible rfl)
                    try simp only [Act.put, List.getElem_toArray, List.getElem_cons_succ, List.getElem_cons_zero, List.setIfInBounds_toArray, List.set_cons_zero, List.set_cons_succ]
                    refine wpAnyH_take (i := 5) (v := ?vx30) rfl (by kernel_rfl) (by kernel_rfl) (by kernel_rfl) (fun _ _ _ h => h) (Or.inl ⟨by rfl, ?hyx30⟩) hHeld ?restx30
                    case hyx30 => (intro w hSw; (try dsimp only at hSw); go_simp; try with_reducible rfl)
                    try simp only [Act.put, List.getElem_toArray, List.getElem_cons_succ, List.getElem_cons_zero, List.setIfInBounds_toArray, List.set_cons_zero, List.set_cons_succ]
                    refine wpAnyH_ready (rs := [6]) (by kernel_rfl) (by simp) ?_
                    refine AllReadyH.cons rfl (fun K hK => ?_) AllReadyH.nil
                    have hPrev := Lib.hid hHeld
                    clear hHeld
                    go_simp
                    refine (HPL.out _ (HBw.out.trans (hPrev.out.1.mono HBw.out.size))).mono ?_
                    rintro e' w5 ⟨rfl, hb5⟩
                    go_simp
                    refine hK.out _ _ (⟨hPrev.out.1.trans (hb5.mono hPrev.out.1.size), (hb5.cell (World.block_lt_of_cell? _ _ hPrev.out.2.1)).trans hPrev.out.2.1, (hb5.cell (World.block_lt_of_cell? _ _ hPrev.out.2.2)).trans hPrev.out.2.2⟩) (fun hHeld => ?_)
                    clear hK K hPrev
                    try simp only [Act.put, List.getElem_toArray, List.getElem_cons_succ, List.getElem_cons_zero, List.setIfInBounds_toArray, List.set_cons_zero, List.set_cons_succ]
                    refine wpAnyH_take (i := 7) (v := ?vx32) rfl (by kernel_rfl) (by kernel_rfl) (by kernel_rfl) (fun _ _ _ h => h) (Or.inl ⟨by rfl, ?hyx32⟩) hHeld ?restx32
                    case hyx32 => (intro w hSw; (try dsimp only at hSw); go_simp; try with_reducible rfl)
                    try simp only [Act.put, List.getElem_toArray, List.getElem_cons_succ, List.getElem_cons_zero, List.setIfInBounds_toArray, List.set_cons_zero, List.set_cons_succ]
                    refine wpAnyH_take (i := 8) (v := ?vx33) rfl (by kernel_rfl) (by kernel_rfl) (by kernel_rfl) (fun _ _ _ h => h) (Or.inl ⟨by rfl, ?hyx33⟩) hHeld ?restx33
                    case hyx33 => (intro w hSw; (try dsimp only at hSw); go_simp; try with_reducible rfl)
                    try simp only [Act.put, List.getElem_toArray, List.getElem_cons_succ, List.getElem_cons_zero, List.setIfInBounds_toArray, List.set_cons_zero, List.set_cons_succ]
                    refine wpAnyH_take (i := 9) (v := ?vx34) rfl (by kernel_rfl) (by kernel_rfl) (by kernel_rfl) (fun _ _ _ h => h) (Or.inl ⟨by rfl, ?hyx34⟩) hHeld ?restx34
                    case hyx34 => (intro w hSw; (try dsimp only at hSw); go_simp; try with_reducible rfl)
                    try simp only [Act.put, List.getElem_toArray, List.getElem_cons_succ, List.getElem_cons_zero, List.setIfInBounds_toArray, List.set_cons_zero, List.set_cons_succ]
                    refine wpAnyH_take (i := 10) (v := ?vx35) rfl (by kernel_rfl) (by kernel_rfl) (by kernel_rfl) (fun _ _ _ h => h) (Or.inl ⟨by rfl, ?hyx35⟩) hHeld ?restx35
                    case hyx35 => (intro w hSw; (try dsimp only at hSw); go_simp; try with_reducible rfl)
                    try simp only [Act.put, List.getElem_toArray, List.getElem_cons_succ, List.getElem_cons_zero, List.setIfInBounds_toArray, List.set_cons_zero, List.set_cons_succ]
                    refine wpAnyH_take (i := 11) (v := ?vx36) rfl (by kernel_rfl) (by kernel_rfl) (by kernel_rfl) (fun _ _ _ h => h) (Or.inl ⟨by rfl, ?hyx36⟩) hHeld ?restx36
                    case hyx36 => (intro w hSw; (try dsimp only at hSw); go_simp; try with_reducible rfl)
                    try simp only [Act.put, List.getElem_toArray, List.getElem_cons_succ, List.getElem_cons_zero, List.setIfInBounds_toArray, List.set_cons_zero, List.set_cons_succ]
                    refine wpAnyH_done (by kernel_rfl) ?_ _
                    have HW5 := Lib.hid (show Below wr.heap.size wr w5 from hHeld.1)
                    clear hHeld
                    go_wp2_with fail
                    go_roundw
                    case rel => exact ⟨k + 1, by omega, by go_num, Lib.hid (HW.out.trans (HW5.out.mono HW.out.size))⟩
                    case measure => simp [intOf]; omega
              · obtain rfl : k = i := by omega
                have HX5 := HBX
                go_wp2_with fail
                refine (HME.out _ (HB3.out.trans (HW.out.mono HB3.out.size))).mono ?_
                rintro e' w6 ⟨rfl, hb6⟩
                have hx6 := HBX.out.below hb6 HBX.out.lt
                have p0 := hx6.cells 0 _ rfl
                have p1 := hx6.cells 1 _ rfl
                have p2 := hx6.cells 2 _ rfl
                have p3 := hx6.cells 3 _ rfl
                simp only [List.getElem_toArray, List.getElem_cons_zero, List.getElem_cons_succ] at p0 p1 p2 p3
                have HB6 := Lib.hid (HW.out.trans (hb6.mono HW.out.size))
                clear hb6 hx6 q2
                go_wp2_with fail
                refine (HCK2.out _ HB6.out).mono ?_
                rintro e' w7 ⟨rfl, hb7⟩
                go_wp2_with (with_reducible refine end_at ?_)
                refine end_ret (v := .bool true) (by simp [results, Tryd.results5]) rfl ⟨rfl, HB3.out.trans ((HB6.out.trans (hb7.mono HB6.out.size)).mono HB3.out.size)⟩
  · clear hN hP hsn hsp hG hln hlp HCK
    rw [hbig] at HBI
    unfold recV at HBI ⊢
    clear hbig
    go_enter Tryd.func5, Tryd.ntmps5
    go_wp2_with fail
    refine (HBI.out _ (by go_grown)).mono ?_
    rintro e' w1 ⟨rfl, hb1⟩
    have HB1 : Hid (Below w.heap.size w w1) := Lib.hid (Below.trans (by go_grown) (hb1.mono (by simp)))
    clear hb1
    go_wp2_with fail
    refine (HME.out _ HB1.out).mono ?_
    rintro e' w3 ⟨rfl, hb3⟩
    go_wp2_with (with_reducible refine end_at ?_)
    refine end_ret (v := .bool true) (by simp [results, Tryd.results5]) rfl ⟨rfl, HB1.out.trans (hb3.mono HB1.out.size)⟩
end Go.Proofs.YtbgohcedakpnbaaDoor
