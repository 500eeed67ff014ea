/- MemberPlaces: the walk. -/
import Derived.Test.YtbgohcedakpnbaaDoorMemQ
import Derived.Test.YtbgohcedakpnbaaDoorMemP
set_option linter.unusedVariables false
set_option linter.unusedSimpArgs false
namespace Go.Proofs.YtbgohcedakpnbaaDoor
open Go.RowKit Go.Shelf
set_option maxRecDepth 100000 in
set_option maxHeartbeats 8000000 in
theorem places_any (r : Rec) (A A' : Option Addr) (n c m d : Nat) (w : World) (hN : SlR encS 1 w w.heap.size A n r.names) (hP : SlR encS 1 w w.heap.size A' m r.pledges) (hsn : ∀ s ∈ r.names, s.size ≤ 140737488351232) (hsp : ∀ s ∈ r.pledges, s.size ≤ 140737488351232) (hG : Pows w) :
    Calls Tryd.prog 4 #[recV r A n c A' m d] w fun e w' => e = .returned (.bool true) ∧ Below w.heap.size w w' := by
  have HBI := Lib.hid (fun W (hW : Below w.heap.size w W) => mbig_any r A A' n c m d W ((hN.below hW).more hW.size) ((hP.below hW).more hW.size) hsn hsp)
  have HCK := Lib.hid (fun W (hW : Below w.heap.size w W) => mcheck_any r A A' n c m d W ((hN.below hW).more hW.size) ((hP.below hW).more hW.size) hsn hsp)
  have HPL0 := Lib.hid (fun s W (hW : Below w.heap.size w W) => mplace_any r s A A' n c m d W ((hN.below hW).more hW.size) ((hP.below hW).more hW.size) hsn hsp)
  have HME := Lib.hid (fun W (hW : Below w.heap.size w W) => members_any W (hG.below hW))
  have hln := hN.1
  have hlp := hP.1
  have HN := Lib.hid hN
  cases hbig : bigR r
  · cases hck : checkB r
    · clear hN hP hsn hsp hG HPL0 HN hln hlp
      rw [hbig] at HBI
      rw [hck] at HCK
      unfold recV at HBI HCK ⊢
      obtain ⟨ep, kk, nm, pl⟩ := r
      dsimp only at *
      clear hbig hck
      go_enter Tryd.func4, Tryd.ntmps4
      go_wp2_with fail
      refine (HBI.out _ (by go_grown)).mono ?_
      rintro e' w1 ⟨rfl, hb1⟩
      have hx1 : Blk w1 w.heap.size 24 #[.int .i64 ep, .int .i64 kk, .slice A n c, .slice A' m d] := (Blk.new w _ _).below hb1 (by simp)
      have hB1 : Below w.heap.size w w1 := Below.trans (by go_grown) (hb1.mono (by simp))
      have q0 := hx1.cells 0 _ rfl
      have q1 := hx1.cells 1 _ rfl
      have q2 := hx1.cells 2 _ rfl
      have q3 := hx1.cells 3 _ rfl
      simp only [List.getElem_toArray, List.getElem_cons_zero, List.getElem_cons_succ] at q0 q1 q2 q3
      have HB1 := Lib.hid hB1
      clear hx1 hB1 hb1
      go_wp2_with fail
      refine (HCK.out _ HB1.out).mono ?_
      rintro e' w2 ⟨rfl, hb2⟩
      have HB2 := Lib.hid (HB1.out.trans (hb2.mono HB1.out.size))
      clear hb2 q0 q1 q2 q3 HB1
      go_wp2_with fail
      refine (HME.out _ HB2.out).mono ?_
      rintro e' w3 ⟨rfl, hb3⟩
      go_wp2_with (with_reducible refine end_at ?_)
      refine end_ret (v := .bool true) (by simp [results, Tryd.results4]) rfl ⟨rfl, HB2.out.trans (hb3.mono HB2.out.size)⟩
    · obtain ⟨⟨_, _, hn1, hn16, hmn, hk1, hkn⟩, _⟩ := (checkB_iff r).1 hck
      have HAT := Lib.hid (fun (i : Nat) (x : ByteArray) (hx : r.names[i]? = some x) => place_at hck hx)
      have HEM := Lib.hid (place_empty hck)
      have HRI := Lib.hid (check_rises hck)
      rw [hln] at hn1 hn16 hmn hkn
      rw [hlp] at hmn
      have hnm : n = m := hmn.symm
      subst hnm
      clear hmn
      obtain ⟨b, off, _, rfl, _, hcn⟩ := mrow_at hN (show 0 < n by omega)
      have HCN := Lib.hid hcn
      have HLN := Lib.hid hln
      clear hN hP hsn hsp hG hlp hcn HN hln
      rw [hbig] at HBI
      rw [hck] at HCK
      unfold recV at HBI HCK HPL0 ⊢
      obtain ⟨ep, kk, nm, pl⟩ := r
      dsimp only at *
      clear hbig hck
      have HB0 : Hid (Below w.heap.size w (w.alloc (.cells #[.int .i64 ep, .int .i64 kk, .slice (some ⟨b, off, none⟩) n c, .slice A' n d] 24))) := Lib.hid (by go_grown)
      go_enter Tryd.func4, Tryd.ntmps4
      go_wp2_with fail
      refine (HBI.out _ HB0.out).mono ?_
      rintro e' w1 ⟨rfl, hb1⟩
      have hx1 : Blk w1 w.heap.size 24 #[.int .i64 ep, .int .i64 kk, .slice (some ⟨b, off, none⟩) n c, .slice A' n d] := (Blk.new w _ _).below hb1 (by simp)
      have hB1 : Below w.heap.size w w1 := Below.trans (by go_grown) (hb1.mono (by simp))
      have q0 := hx1.cells 0 _ rfl
      have q1 := hx1.cells 1 _ rfl
      have q2 := hx1.cells 2 _ rfl
      have q3 := hx1.cells 3 _ rfl
      simp only [List.getElem_toArray, List.getElem_cons_zero, List.getElem_cons_succ] at q0 q1 q2 q3
      have HB1 := Lib.hid hB1
      have HX1 := Lib.hid hx1
      clear hx1 hB1 hb1
      go_wp2_with fail
      refine (HCK.out _ HB1.out).mono ?_
      rintro e' w2 ⟨rfl, hb2⟩
      have HB2 := Lib.hid (HB1.out.trans (hb2.mono HB1.out.size))
      have HX2 := Lib.hid (HX1.out.below hb2 HX1.out.lt)
      clear hb2 q0 q1 q2 q3 HB1 HX1
      go_wp2_with fail
      go_loopw [3] (fun iv wr => ∃ i : Nat, i ≤ n ∧ iv = .int .i64 i ∧ Hid (Below w2.heap.size w2 wr)) (fun iv _ => n - (intOf iv).toNat)
      case atStart => exact ⟨0, by omega, rfl, Lib.hid (Below.refl _ _)⟩
      case round =>
        obtain ⟨i, hi, rfl, HW⟩ := hrel
        have HBw := Lib.hid (HB2.out.trans (HW.out.mono HB2.out.size))
        have HBX := Lib.hid (HX2.out.below HW.out HX2.out.lt)
        have q0 := HBX.out.cells 0 _ rfl
        have q1 := HBX.out.cells 1 _ rfl
        have q2 := HBX.out.cells 2 _ rfl
        have q3 := HBX.out.cells 3 _ rfl
        simp only [List.getElem_toArray, List.getElem_cons_zero, List.getElem_cons_succ] at q0 q1 q2 q3
        by_cases hlt : i < n
        · obtain ⟨x, hx⟩ : ∃ x, nm[i]? = some x := ⟨_, List.getElem?_eq_getElem (by rw [HLN.out]; exact hlt)⟩
          have cx := HCN.out wr HBw.out i x hx
          have i0 : (0 : Int) ≤ (i : Int) := by omega
          have i1 : (i : Int) < (n : Int) := by omega
          have HPL : Hid (∀ W, Below w.heap.size w W → Calls Tryd.prog 16 #[.agg #[.int .i64 ep, .int .i64 kk, .slice (some ⟨b, off, none⟩) n c, .slice A' n d], .string x] W fun e w' => e = .returned (.tuple #[.int .i64 ((i : Int) + 1), .bool true]) ∧ Below W.heap.size W w') := Lib.hid (fun W hW => by
            have h := HPL0.out x W hW
            rw [HAT.out i x hx] at h
            exact h)
          have HXX := Lib.hid hx
          clear hx
          go_wp2_with fail
          refine wp_region_held_drew (S := fun W => Below wr.heap.size wr W ∧ W.cell? ⟨w.heap.size, 2, none⟩ = some (.slice (some ⟨b, off, none⟩) n c) ∧ W.cell? ⟨b, off + i, none⟩ = some (.string x)) (by kernel_rfl) (⟨Still.below (Still.drew wr), q2, cx⟩) (fun hHeld => ?_)
          refine wpAnyH_take (i := 0) (v := (.agg #[.int .i64 ep, .int .i64 kk, .slice (some ⟨b, off, none⟩) n c, .slice A' n d])) rfl (by kernel_rfl) (by kernel_rfl) (by kernel_rfl) (fun _ _ _ h => h) (yields_rowg 24 (.tmp 1) rfl rfl _ rfl 24 #[.int .i64 ep, .int .i64 kk, .slice (some ⟨b, off, none⟩) n c, .slice A' n d] _ Tryd.underlying24 rfl (by kernel_rfl) (fun W hW => Blk.below HBX.out hW.1 HBX.out.lt)) hHeld ?rest1
          try simp only [Act.put, List.getElem_toArray, List.getElem_cons_succ, List.getElem_cons_zero, List.setIfInBounds_toArray, List.set_cons_zero, List.set_cons_succ]
          refine wpAnyH_take (i := 1) (v := ?v2) rfl (by kernel_rfl) (by kernel_rfl) (by kernel_rfl) (fun _ _ _ h => h) (Or.inl ⟨by rfl, ?hy2⟩) hHeld ?rest2
          case hy2 => (intro w hSw; (try dsimp only at hSw); go_simp; try with_reducible rfl)
          try simp only [Act.put, List.getElem_toArray, List.getElem_cons_succ, List.getElem_cons_zero, List.setIfInBounds_toArray, List.set_cons_zero, List.set_cons_succ]
          refine wpAnyH_take (i := 2) (v := ?v3) rfl (by kernel_rfl) (by kernel_rfl) (by kernel_rfl) (fun _ _ _ h => h) (Or.inl ⟨by rfl, ?hy3⟩) hHeld ?rest3
          case hy3 => (intro w hSw; (try dsimp only at hSw); go_simp; try with_reducible rfl)
          try simp only [Act.put, List.getElem_toArray, List.getElem_cons_succ, List.getElem_cons_zero, List.setIfInBounds_toArray, List.set_cons_zero, List.set_cons_succ]
          refine wpAnyH_take (i := 3) (v := ?v4) rfl (by kernel_rfl) (by kernel_rfl) (by kernel_rfl) (fun _ _ _ h => h) (Or.inl ⟨by rfl, ?hy4⟩) hHeld ?rest4
          case hy4 => (intro w hSw; (try dsimp only at hSw); go_simp; try with_reducible rfl)
          try simp only [Act.put, List.getElem_toArray, List.getElem_cons_succ, List.getElem_cons_zero, List.setIfInBounds_toArray, List.set_cons_zero, List.set_cons_succ]
          refine wpAnyH_take (i := 4) (v := ?v5) rfl (by kernel_rfl) (by kernel_rfl) (by kernel_rfl) (fun _ _ _ h => h) (Or.inl ⟨by rfl, ?hy5⟩) hHeld ?rest5
          case hy5 => (intro w hSw; (try dsimp only at hSw); go_simp; try with_reducible rfl)
          try simp only [Act.put, List.getElem_toArray, List.getElem_cons_succ, List.getElem_cons_zero, List.setIfInBounds_toArray, List.set_cons_zero, List.set_cons_succ]
          refine wpAnyH_take (i := 5) (v := ?v6) rfl (by kernel_rfl) (by kernel_rfl) (by kernel_rfl) (fun _ _ _ h => h) (Or.inl ⟨by rfl, ?hy6⟩) hHeld ?rest6
          case hy6 => (intro w hSw; (try dsimp only at hSw); go_simp; try with_reducible rfl)
          try simp only [Act.put, List.getElem_toArray, List.getElem_cons_succ, List.getElem_cons_zero, List.setIfInBounds_toArray, List.set_cons_zero, List.set_cons_succ]
          refine wpAnyH_ready (rs := [6]) (by kernel_rfl) (by simp) ?_
          refine AllReadyH.cons rfl (fun K hK => ?_) AllReadyH.nil
          have hPrev := Lib.hid hHeld
          clear hHeld
          go_simp
          refine (HPL.out _ (HBw.out.trans (hPrev.out.1.mono HBw.out.size))).mono ?_
          rintro e' w5 ⟨rfl, hb5⟩
          go_simp
          refine hK.out _ _ (⟨hPrev.out.1.trans (hb5.mono hPrev.out.1.size), (hb5.cell (World.block_lt_of_cell? _ _ hPrev.out.2.1)).trans hPrev.out.2.1, (hb5.cell (World.block_lt_of_cell? _ _ hPrev.out.2.2)).trans hPrev.out.2.2⟩) (fun hHeld => ?_)
          clear hK K hPrev
          try simp only [Act.put, List.getElem_toArray, List.getElem_cons_succ, List.getElem_cons_zero, List.setIfInBounds_toArray, List.set_cons_zero, List.set_cons_succ]
          refine wpAnyH_take (i := 7) (v := ?v8) rfl (by kernel_rfl) (by kernel_rfl) (by kernel_rfl) (fun _ _ _ h => h) (Or.inl ⟨by rfl, ?hy8⟩) hHeld ?rest8
          case hy8 => (intro w hSw; (try dsimp only at hSw); go_simp; try with_reducible rfl)
          try simp only [Act.put, List.getElem_toArray, List.getElem_cons_succ, List.getElem_cons_zero, List.setIfInBounds_toArray, List.set_cons_zero, List.set_cons_succ]
          refine wpAnyH_take (i := 8) (v := ?v9) rfl (by kernel_rfl) (by kernel_rfl) (by kernel_rfl) (fun _ _ _ h => h) (Or.inl ⟨by rfl, ?hy9⟩) hHeld ?rest9
          case hy9 => (intro w hSw; (try dsimp only at hSw); go_simp; try with_reducible rfl)
          try simp only [Act.put, List.getElem_toArray, List.getElem_cons_succ, List.getElem_cons_zero, List.setIfInBounds_toArray, List.set_cons_zero, List.set_cons_succ]
          refine wpAnyH_take (i := 9) (v := ?v10) rfl (by kernel_rfl) (by kernel_rfl) (by kernel_rfl) (fun _ _ _ h => h) (Or.inl ⟨by rfl, ?hy10⟩) hHeld ?rest10
          case hy10 => (intro w hSw; (try dsimp only at hSw); go_simp; try with_reducible rfl)
          try simp only [Act.put, List.getElem_toArray, List.getElem_cons_succ, List.getElem_cons_zero, List.setIfInBounds_toArray, List.set_cons_zero, List.set_cons_succ]
          refine wpAnyH_take (i := 10) (v := ?v11) rfl (by kernel_rfl) (by kernel_rfl) (by kernel_rfl) (fun _ _ _ h => h) (Or.inl ⟨by rfl, ?hy11⟩) hHeld ?rest11
          case hy11 => (intro w hSw; (try dsimp only at hSw); go_simp; try with_reducible rfl)
          try simp only [Act.put, List.getElem_toArray, List.getElem_cons_succ, List.getElem_cons_zero, List.setIfInBounds_toArray, List.set_cons_zero, List.set_cons_succ]
          refine wpAnyH_take (i := 11) (v := ?v12) rfl (by kernel_rfl) (by kernel_rfl) (by kernel_rfl) (fun _ _ _ h => h) (Or.inl ⟨by rfl, ?hy12⟩) hHeld ?rest12
          case hy12 => (intro w hSw; (try dsimp only at hSw); go_simp; try with_reducible rfl)
          try simp only [Act.put, List.getElem_toArray, List.getElem_cons_succ, List.getElem_cons_zero, List.setIfInBounds_toArray, List.set_cons_zero, List.set_cons_succ]
          refine wpAnyH_done (by kernel_rfl) ?_ _
          have HW5 := Lib.hid (show Below wr.heap.size wr w5 from hHeld.1)
          have q2 := hHeld.2.1
          have cx := hHeld.2.2
          clear hHeld
          by_cases h0 : i = 0
          · subst h0
            go_wp2_with fail
            go_big_quiet (fail)
            have hBn := HW.out.trans (HW5.out.mono HW.out.size)
            have HBn : Hid (Below w2.heap.size w2 (w5.drewN nq)) := Lib.hid ⟨hBn.os, hBn.tape, hBn.output, hBn.size, hBn.block⟩
            generalize w5.drewN nq = w6 at *
            clear hBn
            go_wp2_with fail
            go_roundw
            case rel => exact ⟨0 + 1, by omega, by go_num, HBn⟩
            case measure => simp [intOf]; omega
          · obtain ⟨p, hp⟩ : ∃ p, p + 1 = i := ⟨i - 1, by omega⟩
            have p0 : (i : Int) - 1 = (p : Int) := by omega
            have p1 : decide ((0 : Int) < (i : Int)) = true := by simp; omega
            have p2 : decide (0 < i) = true := by simp; omega
            have p3 : (0 : Int) ≤ (p : Int) := by omega
            have p4 : (p : Int) < (n : Int) := by omega
            obtain ⟨z, hz⟩ : ∃ z, nm[p]? = some z := ⟨_, List.getElem?_eq_getElem (by rw [HLN.out]; omega)⟩
            have cz := HCN.out w5 (HBw.out.trans (HW5.out.mono HBw.out.size)) p z hz
            have hless : Op.bytesLess z.toList x.toList = true := HRI.out p i z x (by omega) hz HXX.out
            clear hz
            go_wp2_with fail
            go_big_quiet (fail)
            have hBn := HW.out.trans (HW5.out.mono HW.out.size)
            have HBn : Hid (Below w2.heap.size w2 (w5.drewN nq)) := Lib.hid ⟨hBn.os, hBn.tape, hBn.output, hBn.size, hBn.block⟩
            generalize w5.drewN nq = w6 at *
            clear hBn
            go_wp2_with fail
            go_roundw
            case rel => exact ⟨i + 1, by omega, by go_num, HBn⟩
            case measure => simp [intOf]; omega
        · obtain rfl : i = n := by omega
          have HPE : Hid (Calls Tryd.prog 16 #[.agg #[.int .i64 ep, .int .i64 kk, .slice (some ⟨b, off, none⟩) i c, .slice A' i d], .string ⟨#[]⟩] wr fun e w' => e = .returned (.tuple #[.int .i64 0, .bool false]) ∧ Below wr.heap.size wr w') := Lib.hid (by
            have h := HPL0.out ⟨#[]⟩ wr HBw.out
            rw [HEM.out] at h
            exact h)
          go_wp2_with fail
          refine HPE.out.mono ?_
          rintro e' w5 ⟨rfl, hb5⟩
          have HB5 := Lib.hid (HBw.out.trans (hb5.mono HBw.out.size))
          have HX5 := Lib.hid (HBX.out.below hb5 HBX.out.lt)
          clear hb5 q0 q1 q2 q3 HPE
          go_wp2_with fail
          refine (HME.out _ HB5.out).mono ?_
          rintro e' w6 ⟨rfl, hb6⟩
          have hx6 := HX5.out.below hb6 HX5.out.lt
          have q1 := hx6.cells 1 _ rfl
          have q2 := hx6.cells 2 _ rfl
          have q3 := hx6.cells 3 _ rfl
          simp only [List.getElem_toArray, List.getElem_cons_zero, List.getElem_cons_succ] at q1 q2 q3
          have HB6 := Lib.hid (HB5.out.trans (hb6.mono HB5.out.size))
          have e1 : decide (1 ≤ kk) = true := by simpa using hk1
          have e2 : decide (kk ≤ (i : Int)) = true := by simpa using hkn
          clear hb6 hx6
          go_wp2_with (with_reducible refine end_at ?_)
          refine end_ret (v := .bool true) (by simp [results, Tryd.results4]) rfl ⟨rfl, HB6.out⟩
  · clear hN hP hsn hsp hG HPL0 HN hln hlp HCK
    rw [hbig] at HBI
    unfold recV at HBI ⊢
    clear hbig
    go_enter Tryd.func4, Tryd.ntmps4
    go_wp2_with fail
    refine (HBI.out _ (by go_grown)).mono ?_
    rintro e' w1 ⟨rfl, hb1⟩
    have HB1 : Hid (Below w.heap.size w w1) := Lib.hid (Below.trans (by go_grown) (hb1.mono (by simp)))
    clear hb1
    go_wp2_with fail
    refine (HME.out _ HB1.out).mono ?_
    rintro e' w3 ⟨rfl, hb3⟩
    go_wp2_with (with_reducible refine end_at ?_)
    refine end_ret (v := .bool true) (by simp [results, Tryd.results4]) rfl ⟨rfl, HB1.out.trans (hb3.mono HB1.out.size)⟩
end Go.Proofs.YtbgohcedakpnbaaDoor
