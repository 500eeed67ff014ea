/- Witness. -/
import Derived.Test.YtkaaicmadknjcaaDoorPldF
set_option linter.unusedVariables false
set_option linter.unusedSimpArgs false
namespace Go.Proofs.YtkaaicmadknjcaaDoor
open Go.RowKit
theorem keep6 {w w' : World} {g g' : Nat} {t : TypeId} {x y : Int} {s b s2 b2 : ByteArray} (hX : Blk w g t #[.string s, .int .i64 x, .string b]) (hY : Blk w g' t #[.string s2, .int .i64 y, .string b2]) (hb : Below w.heap.size w w') :
    (w'.cell? ⟨g, 0, none⟩ = some (.string s) ∧ w'.cell? ⟨g, 1, none⟩ = some (.int .i64 x) ∧ w'.cell? ⟨g, 2, none⟩ = some (.string b)) ∧ w'.cell? ⟨g', 0, none⟩ = some (.string s2) ∧ w'.cell? ⟨g', 1, none⟩ = some (.int .i64 y) ∧ w'.cell? ⟨g', 2, none⟩ = some (.string b2) := by
  have h := hX.below hb hX.lt
  have h' := hY.below hb hY.lt
  exact ⟨⟨h.cells 0 _ rfl, h.cells 1 _ rfl, h.cells 2 _ rfl⟩, h'.cells 0 _ rfl, h'.cells 1 _ rfl, h'.cells 2 _ rfl⟩
theorem struct_ne {A B C : Prop} [Decidable A] [Decidable B] [Decidable C] {α : Type} (h : ¬(A ∧ B ∧ C)) (u v : α) : (if A then if B then if C then u else v else v else v) = v := by
  by_cases h1 : A
  · by_cases h2 : B
    · rw [if_pos h1, if_pos h2, if_neg (fun h3 => h ⟨h1, h2, h3⟩)]
    · rw [if_pos h1, if_neg h2]
  · rw [if_neg h1]
theorem str_inj {a b : ByteArray} (h : a.toList = b.toList) : a = b := by
  rw [ByteArray.toList_eq, ByteArray.toList_eq] at h
  exact ByteArray.ext (Array.ext' h)
theorem text_inj {s b s2 b2 : ByteArray} {x y : Int} (h1 : RightP s x b) (h2 : RightP s2 y b2) (h : (textB s x b).toList = (textB s2 y b2).toList) : s = s2 ∧ x = y ∧ b = b2 := by
  have l1 : s.data.toList.length = 16 := by simpa using h1.1
  have l2 : s2.data.toList.length = 16 := by simpa using h2.1
  rw [ByteArray.toList_eq, ByteArray.toList_eq] at h
  unfold textB at h
  simp only [ByteArray.data_append, Array.toList_append, List.append_assoc] at h
  have h := List.append_cancel_left h
  obtain ⟨e1, e2⟩ := List.append_inj h (by rw [l1, l2])
  obtain ⟨e3, e4⟩ := List.append_inj e2 rfl
  refine ⟨ByteArray.ext (Array.ext' e1), ?_, ByteArray.ext (Array.ext' e4)⟩
  have e5 : UInt8.ofNat x.toNat = UInt8.ofNat y.toNat := by simpa using e3
  have e6 := congrArg UInt8.toNat e5
  simp at e6
  have := h1.2; have := h2.2
  omega
set_option maxRecDepth 100000 in
set_option maxHeartbeats 4000000 in
theorem pwit_any (s b s2 b2 : ByteArray) (x y : Int) (w : World) (hG : Rounds w) (hs : s.size ≤ 140737488351232) (hb : b.size ≤ 140737488351232) (hs2 : s2.size ≤ 140737488351232) (hb2 : b2.size ≤ 140737488351232) :
    Calls Tryd.prog 56 #[.string s, shV x b, .string s2, shV y b2] w fun e w' => e = .returned (witV (textB s x b) (textB s2 y b2) (witB s x b s2 y b2)) ∧ Below w.heap.size w w' := by
  have HG := Lib.hid hG
  obtain ⟨q, hq⟩ : ∃ q, witB s x b s2 y b2 = q := ⟨_, rfl⟩
  rw [hq]
  obtain ⟨r1, h1⟩ : ∃ r, rightB s x b = r := ⟨_, rfl⟩
  obtain ⟨r2, h2⟩ : ∃ r, rightB s2 y b2 = r := ⟨_, rfl⟩
  have hR1 := fun W : World => right_any s b x W hs hb
  have hR2 := fun W : World => right_any s2 b2 y W hs2 hb2
  simp only [h1] at hR1
  simp only [h2] at hR2
  unfold bdV at hR1 hR2
  have HR1 := Lib.hid hR1
  have HR2 := Lib.hid hR2
  have H1 := Lib.hid h1
  have H2 := Lib.hid h2
  have HQ := Lib.hid hq
  clear hG hR1 hR2 h1 h2 hq
  unfold shV
  go_enter Tryd.func56, Tryd.ntmps56
  go_upto_region 1 with fail
  go_cut [11, 12] from 13 to 18 (fun p q wx => ∃ g g', p = .pointer (some ⟨g, 0, none⟩) ∧ q = .pointer (some ⟨g', 0, none⟩) ∧ Hid (Blk wx g 104 #[.string s, .int .i64 x, .string b]) ∧ Hid (Blk wx g' 104 #[.string s2, .int .i64 y, .string b2]) ∧ Hid (Below w.heap.size w wx) ∧ w.heap.size ≤ g ∧ w.heap.size ≤ g')
  case first =>
    go_region
    all_goals
      go_wp2_with fail
      go_meet
      refine ⟨_, _, rfl, rfl, Lib.hid ?_, Lib.hid ?_, Lib.hid (by go_grown), by omega, by omega⟩
      all_goals first | exact Blk.new_at (by simp) _ _ | exact (Blk.new_at (by simp) _ _).alloc _
  case rest =>
    obtain ⟨g, g', rfl, rfl, HX, HY, HB, hg, hg'⟩ := hcut
    have HGC := Lib.hid (rounds_of HG.out HB.out)
    have hsc := HB.out.size
    have hxc := HX.out.lt
    have hyc := HY.out.lt
    cases r1
    · obtain rfl : q = false := by
        have h := HQ.out
        rw [← h]; simp [witB, H1.out]
      go_wp2_with fail
      -- region r1
      refine wp_region_held_drew (S := fun w' => (w'.cell? ⟨g, 0, none⟩ = some (.string s) ∧ w'.cell? ⟨g, 1, none⟩ = some (.int .i64 x) ∧ w'.cell? ⟨g, 2, none⟩ = some (.string b)) ∧ w'.cell? ⟨g', 0, none⟩ = some (.string s2) ∧ w'.cell? ⟨g', 1, none⟩ = some (.int .i64 y) ∧ w'.cell? ⟨g', 2, none⟩ = some (.string b2)) (by kernel_rfl) (keep6 HX.out HY.out (by go_grown)) (fun hHeld => ?_)
      refine wpAnyH_take (i := 0) (v := ?vr11) rfl (by kernel_rfl) (by kernel_rfl) (by kernel_rfl) (fun _ _ _ h => h) (Or.inl ⟨by rfl, ?hyr11⟩) hHeld ?restr11
      case hyr11 => (intro w hSw; (try dsimp only at hSw); go_simp; try with_reducible rfl)
      try simp only [Act.put, List.getElem_toArray, List.getElem_cons_succ, List.getElem_cons_zero, List.setIfInBounds_toArray, List.set_cons_zero, List.set_cons_succ]
      refine wpAnyH_ready (rs := [1]) (by kernel_rfl) (by simp) ?_
      refine AllReadyH.cons rfl (fun K hK => ?_) AllReadyH.nil
      clear hHeld
      go_simp
      refine (HR1.out _).mono ?_
      rintro r w1 ⟨rfl, hb1⟩
      have hB1 : Below wc.heap.size wc w1 := Below.trans (by go_grown) (hb1.mono (by first | (simp; done) | omega | (simp; omega)))
      clear hb1
      have hs1 := hB1.size
      go_simp
      refine hK.out _ _ (keep6 HX.out HY.out hB1) (fun hHeld => ?_)
      clear hK K
      try simp only [Act.put, List.getElem_toArray, List.getElem_cons_succ, List.getElem_cons_zero, List.setIfInBounds_toArray, List.set_cons_zero, List.set_cons_succ]
      refine wpAnyH_take (i := 2) (v := ?vr13) rfl (by kernel_rfl) (by kernel_rfl) (by kernel_rfl) (fun _ _ _ h => h) (Or.inl ⟨by rfl, ?hyr13⟩) hHeld ?restr13
      case hyr13 => (intro w hSw; (try dsimp only at hSw); go_simp; try with_reducible rfl)
      try simp only [Act.put, List.getElem_toArray, List.getElem_cons_succ, List.getElem_cons_zero, List.setIfInBounds_toArray, List.set_cons_zero, List.set_cons_succ]
      refine wpAnyH_take (i := 3) (v := ?vr14) rfl (by kernel_rfl) (by kernel_rfl) (by kernel_rfl) (fun _ _ _ h => h) (Or.inl ⟨by rfl, ?hyr14⟩) hHeld ?restr14
      case hyr14 => (intro w hSw; (try dsimp only at hSw); go_simp; try with_reducible rfl)
      try simp only [Act.put, List.getElem_toArray, List.getElem_cons_succ, List.getElem_cons_zero, List.setIfInBounds_toArray, List.set_cons_zero, List.set_cons_succ]
      refine wpAnyH_take (i := 4) (v := undef) rfl (by kernel_rfl) (by kernel_rfl) (by kernel_rfl) (fun _ _ _ h => h) (Or.inr ⟨by rfl, rfl⟩) hHeld ?restr15
      try simp only [Act.put, List.getElem_toArray, List.getElem_cons_succ, List.getElem_cons_zero, List.setIfInBounds_toArray, List.set_cons_zero, List.set_cons_succ]
      refine wpAnyH_take (i := 5) (v := undef) rfl (by kernel_rfl) (by kernel_rfl) (by kernel_rfl) (fun _ _ _ h => h) (Or.inr ⟨by rfl, rfl⟩) hHeld ?restr16
      try simp only [Act.put, List.getElem_toArray, List.getElem_cons_succ, List.getElem_cons_zero, List.setIfInBounds_toArray, List.set_cons_zero, List.set_cons_succ]
      refine wpAnyH_take (i := 6) (v := undef) rfl (by kernel_rfl) (by kernel_rfl) (by kernel_rfl) (fun _ _ _ h => h) (Or.inr ⟨by rfl, rfl⟩) hHeld ?restr17
      try simp only [Act.put, List.getElem_toArray, List.getElem_cons_succ, List.getElem_cons_zero, List.setIfInBounds_toArray, List.set_cons_zero, List.set_cons_succ]
      refine wpAnyH_take (i := 7) (v := ?vr18) rfl (by kernel_rfl) (by kernel_rfl) (by kernel_rfl) (fun _ _ _ h => h) (Or.inl ⟨by rfl, ?hyr18⟩) hHeld ?restr18
      case hyr18 => (intro w hSw; (try dsimp only at hSw); go_simp; try with_reducible rfl)
      try simp only [Act.put, List.getElem_toArray, List.getElem_cons_succ, List.getElem_cons_zero, List.setIfInBounds_toArray, List.set_cons_zero, List.set_cons_succ]
      refine wpAnyH_take (i := 8) (v := ?vr19) rfl (by kernel_rfl) (by kernel_rfl) (by kernel_rfl) (fun _ _ _ h => h) (Or.inl ⟨by rfl, ?hyr19⟩) hHeld ?restr19
      case hyr19 => (intro w hSw; (try dsimp only at hSw); go_simp; try with_reducible rfl)
      try simp only [Act.put, List.getElem_toArray, List.getElem_cons_succ, List.getElem_cons_zero, List.setIfInBounds_toArray, List.set_cons_zero, List.set_cons_succ]
      refine wpAnyH_take (i := 9) (v := undef) rfl (by kernel_rfl) (by kernel_rfl) (by kernel_rfl) (fun _ _ _ h => h) (Or.inr ⟨by rfl, rfl⟩) hHeld ?restr110
      try simp only [Act.put, List.getElem_toArray, List.getElem_cons_succ, List.getElem_cons_zero, List.setIfInBounds_toArray, List.set_cons_zero, List.set_cons_succ]
      refine wpAnyH_take (i := 10) (v := undef) rfl (by kernel_rfl) (by kernel_rfl) (by kernel_rfl) (fun _ _ _ h => h) (Or.inr ⟨by rfl, rfl⟩) hHeld ?restr111
      try simp only [Act.put, List.getElem_toArray, List.getElem_cons_succ, List.getElem_cons_zero, List.setIfInBounds_toArray, List.set_cons_zero, List.set_cons_succ]
      refine wpAnyH_take (i := 11) (v := undef) rfl (by kernel_rfl) (by kernel_rfl) (by kernel_rfl) (fun _ _ _ h => h) (Or.inr ⟨by rfl, rfl⟩) hHeld ?restr112
      try simp only [Act.put, List.getElem_toArray, List.getElem_cons_succ, List.getElem_cons_zero, List.setIfInBounds_toArray, List.set_cons_zero, List.set_cons_succ]
      refine wpAnyH_take (i := 12) (v := ?vr113) rfl (by kernel_rfl) (by kernel_rfl) (by kernel_rfl) (fun _ _ _ h => h) (Or.inl ⟨by rfl, ?hyr113⟩) hHeld ?restr113
      case hyr113 => (intro w hSw; (try dsimp only at hSw); go_simp; try with_reducible rfl)
      try simp only [Act.put, List.getElem_toArray, List.getElem_cons_succ, List.getElem_cons_zero, List.setIfInBounds_toArray, List.set_cons_zero, List.set_cons_succ]
      refine wpAnyH_take (i := 13) (v := ?vr114) rfl (by kernel_rfl) (by kernel_rfl) (by kernel_rfl) (fun _ _ _ h => h) (Or.inl ⟨by rfl, ?hyr114⟩) hHeld ?restr114
      case hyr114 => (intro w hSw; (try dsimp only at hSw); go_simp; try with_reducible rfl)
      try simp only [Act.put, List.getElem_toArray, List.getElem_cons_succ, List.getElem_cons_zero, List.setIfInBounds_toArray, List.set_cons_zero, List.set_cons_succ]
      refine wpAnyH_take (i := 14) (v := undef) rfl (by kernel_rfl) (by kernel_rfl) (by kernel_rfl) (fun _ _ _ h => h) (Or.inr ⟨by rfl, rfl⟩) hHeld ?restr115
      try simp only [Act.put, List.getElem_toArray, List.getElem_cons_succ, List.getElem_cons_zero, List.setIfInBounds_toArray, List.set_cons_zero, List.set_cons_succ]
      refine wpAnyH_take (i := 15) (v := undef) rfl (by kernel_rfl) (by kernel_rfl) (by kernel_rfl) (fun _ _ _ h => h) (Or.inr ⟨by rfl, rfl⟩) hHeld ?restr116
      try simp only [Act.put, List.getElem_toArray, List.getElem_cons_succ, List.getElem_cons_zero, List.setIfInBounds_toArray, List.set_cons_zero, List.set_cons_succ]
      refine wpAnyH_take (i := 16) (v := undef) rfl (by kernel_rfl) (by kernel_rfl) (by kernel_rfl) (fun _ _ _ h => h) (Or.inr ⟨by rfl, rfl⟩) hHeld ?restr117
      try simp only [Act.put, List.getElem_toArray, List.getElem_cons_succ, List.getElem_cons_zero, List.setIfInBounds_toArray, List.set_cons_zero, List.set_cons_succ]
      refine wpAnyH_take (i := 17) (v := undef) rfl (by kernel_rfl) (by kernel_rfl) (by kernel_rfl) (fun _ _ _ h => h) (Or.inr ⟨by rfl, rfl⟩) hHeld ?restr118
      try simp only [Act.put, List.getElem_toArray, List.getElem_cons_succ, List.getElem_cons_zero, List.setIfInBounds_toArray, List.set_cons_zero, List.set_cons_succ]
      refine wpAnyH_take (i := 18) (v := undef) rfl (by kernel_rfl) (by kernel_rfl) (by kernel_rfl) (fun _ _ _ h => h) (Or.inr ⟨by rfl, rfl⟩) hHeld ?restr119
      try simp only [Act.put, List.getElem_toArray, List.getElem_cons_succ, List.getElem_cons_zero, List.setIfInBounds_toArray, List.set_cons_zero, List.set_cons_succ]
      refine wpAnyH_take (i := 19) (v := undef) rfl (by kernel_rfl) (by kernel_rfl) (by kernel_rfl) (fun _ _ _ h => h) (Or.inr ⟨by rfl, rfl⟩) hHeld ?restr120
      try simp only [Act.put, List.getElem_toArray, List.getElem_cons_succ, List.getElem_cons_zero, List.setIfInBounds_toArray, List.set_cons_zero, List.set_cons_succ]
      refine wpAnyH_take (i := 20) (v := undef) rfl (by kernel_rfl) (by kernel_rfl) (by kernel_rfl) (fun _ _ _ h => h) (Or.inr ⟨by rfl, rfl⟩) hHeld ?restr121
      try simp only [Act.put, List.getElem_toArray, List.getElem_cons_succ, List.getElem_cons_zero, List.setIfInBounds_toArray, List.set_cons_zero, List.set_cons_succ]
      refine wpAnyH_take (i := 21) (v := ?vr122) rfl (by kernel_rfl) (by kernel_rfl) (by kernel_rfl) (fun _ _ _ h => h) (Or.inl ⟨by rfl, ?hyr122⟩) hHeld ?restr122
      case hyr122 => (intro w hSw; (try dsimp only at hSw); go_simp; try with_reducible rfl)
      try simp only [Act.put, List.getElem_toArray, List.getElem_cons_succ, List.getElem_cons_zero, List.setIfInBounds_toArray, List.set_cons_zero, List.set_cons_succ]
      refine wpAnyH_done (by kernel_rfl) ?_ _
      -- region r1 ends
      all_goals
        go_wp2_with fail
        refine bodyPost_ret (results_tmp3 rfl _ _ _) rfl ?_
        exact ⟨rfl, HB.out.trans (hB1.mono hsc)⟩
    · cases r2
      · obtain rfl : q = false := by
          have h := HQ.out
          rw [← h]; simp [witB, H2.out]
        go_wp2_with fail
        -- region r2
        refine wp_region_held_drew (S := fun w' => (w'.cell? ⟨g, 0, none⟩ = some (.string s) ∧ w'.cell? ⟨g, 1, none⟩ = some (.int .i64 x) ∧ w'.cell? ⟨g, 2, none⟩ = some (.string b)) ∧ w'.cell? ⟨g', 0, none⟩ = some (.string s2) ∧ w'.cell? ⟨g', 1, none⟩ = some (.int .i64 y) ∧ w'.cell? ⟨g', 2, none⟩ = some (.string b2)) (by kernel_rfl) (keep6 HX.out HY.out (by go_grown)) (fun hHeld => ?_)
        refine wpAnyH_take (i := 0) (v := ?vr223) rfl (by kernel_rfl) (by kernel_rfl) (by kernel_rfl) (fun _ _ _ h => h) (Or.inl ⟨by rfl, ?hyr223⟩) hHeld ?restr223
        case hyr223 => (intro w hSw; (try dsimp only at hSw); go_simp; try with_reducible rfl)
        try simp only [Act.put, List.getElem_toArray, List.getElem_cons_succ, List.getElem_cons_zero, List.setIfInBounds_toArray, List.set_cons_zero, List.set_cons_succ]
        refine wpAnyH_ready (rs := [1]) (by kernel_rfl) (by simp) ?_
        refine AllReadyH.cons rfl (fun K hK => ?_) AllReadyH.nil
        clear hHeld
        go_simp
        refine (HR1.out _).mono ?_
        rintro r w1 ⟨rfl, hb1⟩
        have hB1 : Below wc.heap.size wc w1 := Below.trans (by go_grown) (hb1.mono (by first | (simp; done) | omega | (simp; omega)))
        clear hb1
        have hs1 := hB1.size
        go_simp
        refine hK.out _ _ (keep6 HX.out HY.out hB1) (fun hHeld => ?_)
        clear hK K
        try simp only [Act.put, List.getElem_toArray, List.getElem_cons_succ, List.getElem_cons_zero, List.setIfInBounds_toArray, List.set_cons_zero, List.set_cons_succ]
        refine wpAnyH_take (i := 2) (v := ?vr225) rfl (by kernel_rfl) (by kernel_rfl) (by kernel_rfl) (fun _ _ _ h => h) (Or.inl ⟨by rfl, ?hyr225⟩) hHeld ?restr225
        case hyr225 => (intro w hSw; (try dsimp only at hSw); go_simp; try with_reducible rfl)
        try simp only [Act.put, List.getElem_toArray, List.getElem_cons_succ, List.getElem_cons_zero, List.setIfInBounds_toArray, List.set_cons_zero, List.set_cons_succ]
        refine wpAnyH_take (i := 3) (v := ?vr226) rfl (by kernel_rfl) (by kernel_rfl) (by kernel_rfl) (fun _ _ _ h => h) (Or.inl ⟨by rfl, ?hyr226⟩) hHeld ?restr226
        case hyr226 => (intro w hSw; (try dsimp only at hSw); go_simp; try with_reducible rfl)
        try simp only [Act.put, List.getElem_toArray, List.getElem_cons_succ, List.getElem_cons_zero, List.setIfInBounds_toArray, List.set_cons_zero, List.set_cons_succ]
        refine wpAnyH_take (i := 4) (v := ?vr227) rfl (by kernel_rfl) (by kernel_rfl) (by kernel_rfl) (fun _ _ _ h => h) (Or.inl ⟨by rfl, ?hyr227⟩) hHeld ?restr227
        case hyr227 => (intro w hSw; (try dsimp only at hSw); go_simp; try with_reducible rfl)
        try simp only [Act.put, List.getElem_toArray, List.getElem_cons_succ, List.getElem_cons_zero, List.setIfInBounds_toArray, List.set_cons_zero, List.set_cons_succ]
        refine wpAnyH_ready (rs := [5]) (by kernel_rfl) (by simp) ?_
        refine AllReadyH.cons rfl (fun K hK => ?_) AllReadyH.nil
        clear hHeld
        go_simp
        refine (HR2.out _).mono ?_
        rintro r w2 ⟨rfl, hb2⟩
        have hB2 : Below wc.heap.size wc w2 := Below.trans (by go_grown) (hb2.mono (by first | (simp; done) | omega | (simp; omega)))
        clear hb2
        have hs2 := hB2.size
        go_simp
        refine hK.out _ _ (keep6 HX.out HY.out hB2) (fun hHeld => ?_)
        clear hK K
        try simp only [Act.put, List.getElem_toArray, List.getElem_cons_succ, List.getElem_cons_zero, List.setIfInBounds_toArray, List.set_cons_zero, List.set_cons_succ]
        refine wpAnyH_take (i := 6) (v := ?vr229) rfl (by kernel_rfl) (by kernel_rfl) (by kernel_rfl) (fun _ _ _ h => h) (Or.inl ⟨by rfl, ?hyr229⟩) hHeld ?restr229
        case hyr229 => (intro w hSw; (try dsimp only at hSw); go_simp; try with_reducible rfl)
        try simp only [Act.put, List.getElem_toArray, List.getElem_cons_succ, List.getElem_cons_zero, List.setIfInBounds_toArray, List.set_cons_zero, List.set_cons_succ]
        refine wpAnyH_take (i := 7) (v := ?vr230) rfl (by kernel_rfl) (by kernel_rfl) (by kernel_rfl) (fun _ _ _ h => h) (Or.inl ⟨by rfl, ?hyr230⟩) hHeld ?restr230
        case hyr230 => (intro w hSw; (try dsimp only at hSw); go_simp; try with_reducible rfl)
        try simp only [Act.put, List.getElem_toArray, List.getElem_cons_succ, List.getElem_cons_zero, List.setIfInBounds_toArray, List.set_cons_zero, List.set_cons_succ]
        refine wpAnyH_take (i := 8) (v := ?vr231) rfl (by kernel_rfl) (by kernel_rfl) (by kernel_rfl) (fun _ _ _ h => h) (Or.inl ⟨by rfl, ?hyr231⟩) hHeld ?restr231
        case hyr231 => (intro w hSw; (try dsimp only at hSw); go_simp; try with_reducible rfl)
        try simp only [Act.put, List.getElem_toArray, List.getElem_cons_succ, List.getElem_cons_zero, List.setIfInBounds_toArray, List.set_cons_zero, List.set_cons_succ]
        refine wpAnyH_take (i := 9) (v := undef) rfl (by kernel_rfl) (by kernel_rfl) (by kernel_rfl) (fun _ _ _ h => h) (Or.inr ⟨by rfl, rfl⟩) hHeld ?restr232
        try simp only [Act.put, List.getElem_toArray, List.getElem_cons_succ, List.getElem_cons_zero, List.setIfInBounds_toArray, List.set_cons_zero, List.set_cons_succ]
        refine wpAnyH_take (i := 10) (v := undef) rfl (by kernel_rfl) (by kernel_rfl) (by kernel_rfl) (fun _ _ _ h => h) (Or.inr ⟨by rfl, rfl⟩) hHeld ?restr233
        try simp only [Act.put, List.getElem_toArray, List.getElem_cons_succ, List.getElem_cons_zero, List.setIfInBounds_toArray, List.set_cons_zero, List.set_cons_succ]
        refine wpAnyH_take (i := 11) (v := undef) rfl (by kernel_rfl) (by kernel_rfl) (by kernel_rfl) (fun _ _ _ h => h) (Or.inr ⟨by rfl, rfl⟩) hHeld ?restr234
        try simp only [Act.put, List.getElem_toArray, List.getElem_cons_succ, List.getElem_cons_zero, List.setIfInBounds_toArray, List.set_cons_zero, List.set_cons_succ]
        refine wpAnyH_take (i := 12) (v := ?vr235) rfl (by kernel_rfl) (by kernel_rfl) (by kernel_rfl) (fun _ _ _ h => h) (Or.inl ⟨by rfl, ?hyr235⟩) hHeld ?restr235
        case hyr235 => (intro w hSw; (try dsimp only at hSw); go_simp; try with_reducible rfl)
        try simp only [Act.put, List.getElem_toArray, List.getElem_cons_succ, List.getElem_cons_zero, List.setIfInBounds_toArray, List.set_cons_zero, List.set_cons_succ]
        refine wpAnyH_take (i := 13) (v := ?vr236) rfl (by kernel_rfl) (by kernel_rfl) (by kernel_rfl) (fun _ _ _ h => h) (Or.inl ⟨by rfl, ?hyr236⟩) hHeld ?restr236
        case hyr236 => (intro w hSw; (try dsimp only at hSw); go_simp; try with_reducible rfl)
        try simp only [Act.put, List.getElem_toArray, List.getElem_cons_succ, List.getElem_cons_zero, List.setIfInBounds_toArray, List.set_cons_zero, List.set_cons_succ]
        refine wpAnyH_take (i := 14) (v := undef) rfl (by kernel_rfl) (by kernel_rfl) (by kernel_rfl) (fun _ _ _ h => h) (Or.inr ⟨by rfl, rfl⟩) hHeld ?restr237
        try simp only [Act.put, List.getElem_toArray, List.getElem_cons_succ, List.getElem_cons_zero, List.setIfInBounds_toArray, List.set_cons_zero, List.set_cons_succ]
        refine wpAnyH_take (i := 15) (v := undef) rfl (by kernel_rfl) (by kernel_rfl) (by kernel_rfl) (fun _ _ _ h => h) (Or.inr ⟨by rfl, rfl⟩) hHeld ?restr238
        try simp only [Act.put, List.getElem_toArray, List.getElem_cons_succ, List.getElem_cons_zero, List.setIfInBounds_toArray, List.set_cons_zero, List.set_cons_succ]
        refine wpAnyH_take (i := 16) (v := undef) rfl (by kernel_rfl) (by kernel_rfl) (by kernel_rfl) (fun _ _ _ h => h) (Or.inr ⟨by rfl, rfl⟩) hHeld ?restr239
        try simp only [Act.put, List.getElem_toArray, List.getElem_cons_succ, List.getElem_cons_zero, List.setIfInBounds_toArray, List.set_cons_zero, List.set_cons_succ]
        refine wpAnyH_take (i := 17) (v := undef) rfl (by kernel_rfl) (by kernel_rfl) (by kernel_rfl) (fun _ _ _ h => h) (Or.inr ⟨by rfl, rfl⟩) hHeld ?restr240
        try simp only [Act.put, List.getElem_toArray, List.getElem_cons_succ, List.getElem_cons_zero, List.setIfInBounds_toArray, List.set_cons_zero, List.set_cons_succ]
        refine wpAnyH_take (i := 18) (v := undef) rfl (by kernel_rfl) (by kernel_rfl) (by kernel_rfl) (fun _ _ _ h => h) (Or.inr ⟨by rfl, rfl⟩) hHeld ?restr241
        try simp only [Act.put, List.getElem_toArray, List.getElem_cons_succ, List.getElem_cons_zero, List.setIfInBounds_toArray, List.set_cons_zero, List.set_cons_succ]
        refine wpAnyH_take (i := 19) (v := undef) rfl (by kernel_rfl) (by kernel_rfl) (by kernel_rfl) (fun _ _ _ h => h) (Or.inr ⟨by rfl, rfl⟩) hHeld ?restr242
        try simp only [Act.put, List.getElem_toArray, List.getElem_cons_succ, List.getElem_cons_zero, List.setIfInBounds_toArray, List.set_cons_zero, List.set_cons_succ]
        refine wpAnyH_take (i := 20) (v := undef) rfl (by kernel_rfl) (by kernel_rfl) (by kernel_rfl) (fun _ _ _ h => h) (Or.inr ⟨by rfl, rfl⟩) hHeld ?restr243
        try simp only [Act.put, List.getElem_toArray, List.getElem_cons_succ, List.getElem_cons_zero, List.setIfInBounds_toArray, List.set_cons_zero, List.set_cons_succ]
        refine wpAnyH_take (i := 21) (v := ?vr244) rfl (by kernel_rfl) (by kernel_rfl) (by kernel_rfl) (fun _ _ _ h => h) (Or.inl ⟨by rfl, ?hyr244⟩) hHeld ?restr244
        case hyr244 => (intro w hSw; (try dsimp only at hSw); go_simp; try with_reducible rfl)
        try simp only [Act.put, List.getElem_toArray, List.getElem_cons_succ, List.getElem_cons_zero, List.setIfInBounds_toArray, List.set_cons_zero, List.set_cons_succ]
        refine wpAnyH_done (by kernel_rfl) ?_ _
        -- region r2 ends
        all_goals
          go_wp2_with fail
          refine bodyPost_ret (results_tmp3 rfl _ _ _) rfl ?_
          exact ⟨rfl, HB.out.trans (hB2.mono hsc)⟩
      · by_cases hsame : s = s2 ∧ x = y ∧ b = b2
        · obtain ⟨rfl, rfl, rfl⟩ := hsame
          obtain rfl : q = false := by
            have h := HQ.out
            rw [← h]; simp [witB]
          go_wp2_with fail
          -- region same
          refine wp_region_held_drew (S := fun w' => (w'.cell? ⟨g, 0, none⟩ = some (.string s) ∧ w'.cell? ⟨g, 1, none⟩ = some (.int .i64 x) ∧ w'.cell? ⟨g, 2, none⟩ = some (.string b)) ∧ w'.cell? ⟨g', 0, none⟩ = some (.string s) ∧ w'.cell? ⟨g', 1, none⟩ = some (.int .i64 x) ∧ w'.cell? ⟨g', 2, none⟩ = some (.string b)) (by kernel_rfl) (keep6 HX.out HY.out (by go_grown)) (fun hHeld => ?_)
          refine wpAnyH_take (i := 0) (v := ?vsame45) rfl (by kernel_rfl) (by kernel_rfl) (by kernel_rfl) (fun _ _ _ h => h) (Or.inl ⟨by rfl, ?hysame45⟩) hHeld ?restsame45
          case hysame45 => (intro w hSw; (try dsimp only at hSw); go_simp; try with_reducible rfl)
          try simp only [Act.put, List.getElem_toArray, List.getElem_cons_succ, List.getElem_cons_zero, List.setIfInBounds_toArray, List.set_cons_zero, List.set_cons_succ]
          refine wpAnyH_ready (rs := [1]) (by kernel_rfl) (by simp) ?_
          refine AllReadyH.cons rfl (fun K hK => ?_) AllReadyH.nil
          clear hHeld
          go_simp
          refine (HR1.out _).mono ?_
          rintro r w1 ⟨rfl, hb1⟩
          have hB1 : Below wc.heap.size wc w1 := Below.trans (by go_grown) (hb1.mono (by first | (simp; done) | omega | (simp; omega)))
          clear hb1
          have hs1 := hB1.size
          go_simp
          refine hK.out _ _ (keep6 HX.out HY.out hB1) (fun hHeld => ?_)
          clear hK K
          try simp only [Act.put, List.getElem_toArray, List.getElem_cons_succ, List.getElem_cons_zero, List.setIfInBounds_toArray, List.set_cons_zero, List.set_cons_succ]
          refine wpAnyH_take (i := 2) (v := ?vsame47) rfl (by kernel_rfl) (by kernel_rfl) (by kernel_rfl) (fun _ _ _ h => h) (Or.inl ⟨by rfl, ?hysame47⟩) hHeld ?restsame47
          case hysame47 => (intro w hSw; (try dsimp only at hSw); go_simp; try with_reducible rfl)
          try simp only [Act.put, List.getElem_toArray, List.getElem_cons_succ, List.getElem_cons_zero, List.setIfInBounds_toArray, List.set_cons_zero, List.set_cons_succ]
          refine wpAnyH_take (i := 3) (v := ?vsame48) rfl (by kernel_rfl) (by kernel_rfl) (by kernel_rfl) (fun _ _ _ h => h) (Or.inl ⟨by rfl, ?hysame48⟩) hHeld ?restsame48
          case hysame48 => (intro w hSw; (try dsimp only at hSw); go_simp; try with_reducible rfl)
          try simp only [Act.put, List.getElem_toArray, List.getElem_cons_succ, List.getElem_cons_zero, List.setIfInBounds_toArray, List.set_cons_zero, List.set_cons_succ]
          refine wpAnyH_take (i := 4) (v := ?vsame49) rfl (by kernel_rfl) (by kernel_rfl) (by kernel_rfl) (fun _ _ _ h => h) (Or.inl ⟨by rfl, ?hysame49⟩) hHeld ?restsame49
          case hysame49 => (intro w hSw; (try dsimp only at hSw); go_simp; try with_reducible rfl)
          try simp only [Act.put, List.getElem_toArray, List.getElem_cons_succ, List.getElem_cons_zero, List.setIfInBounds_toArray, List.set_cons_zero, List.set_cons_succ]
          refine wpAnyH_ready (rs := [5]) (by kernel_rfl) (by simp) ?_
          refine AllReadyH.cons rfl (fun K hK => ?_) AllReadyH.nil
          clear hHeld
          go_simp
          refine (HR2.out _).mono ?_
          rintro r w2 ⟨rfl, hb2⟩
          have hB2 : Below wc.heap.size wc w2 := Below.trans (by go_grown) (hb2.mono (by first | (simp; done) | omega | (simp; omega)))
          clear hb2
          have hs2 := hB2.size
          go_simp
          refine hK.out _ _ (keep6 HX.out HY.out hB2) (fun hHeld => ?_)
          clear hK K
          try simp only [Act.put, List.getElem_toArray, List.getElem_cons_succ, List.getElem_cons_zero, List.setIfInBounds_toArray, List.set_cons_zero, List.set_cons_succ]
          refine wpAnyH_take (i := 6) (v := ?vsame51) rfl (by kernel_rfl) (by kernel_rfl) (by kernel_rfl) (fun _ _ _ h => h) (Or.inl ⟨by rfl, ?hysame51⟩) hHeld ?restsame51
          case hysame51 => (intro w hSw; (try dsimp only at hSw); go_simp; try with_reducible rfl)
          try simp only [Act.put, List.getElem_toArray, List.getElem_cons_succ, List.getElem_cons_zero, List.setIfInBounds_toArray, List.set_cons_zero, List.set_cons_succ]
          refine wpAnyH_take (i := 7) (v := ?vsame52) rfl (by kernel_rfl) (by kernel_rfl) (by kernel_rfl) (fun _ _ _ h => h) (Or.inl ⟨by rfl, ?hysame52⟩) hHeld ?restsame52
          case hysame52 => (intro w hSw; (try dsimp only at hSw); go_simp; try with_reducible rfl)
          try simp only [Act.put, List.getElem_toArray, List.getElem_cons_succ, List.getElem_cons_zero, List.setIfInBounds_toArray, List.set_cons_zero, List.set_cons_succ]
          refine wpAnyH_take (i := 8) (v := ?vsame53) rfl (by kernel_rfl) (by kernel_rfl) (by kernel_rfl) (fun _ _ _ h => h) (Or.inl ⟨by rfl, ?hysame53⟩) hHeld ?restsame53
          case hysame53 => (intro w hSw; (try dsimp only at hSw); go_simp; try with_reducible rfl)
          try simp only [Act.put, List.getElem_toArray, List.getElem_cons_succ, List.getElem_cons_zero, List.setIfInBounds_toArray, List.set_cons_zero, List.set_cons_succ]
          refine wpAnyH_take (i := 9) (v := ?vsame54) rfl (by kernel_rfl) (by kernel_rfl) (by kernel_rfl) (fun _ _ _ h => h) (Or.inl ⟨by rfl, ?hysame54⟩) hHeld ?restsame54
          case hysame54 => (intro w hSw; (try dsimp only at hSw); go_simp; try with_reducible rfl)
          try simp only [Act.put, List.getElem_toArray, List.getElem_cons_succ, List.getElem_cons_zero, List.setIfInBounds_toArray, List.set_cons_zero, List.set_cons_succ]
          refine wpAnyH_take (i := 10) (v := ?vsame55) rfl (by kernel_rfl) (by kernel_rfl) (by kernel_rfl) (fun _ _ _ h => h) (Or.inl ⟨by rfl, ?hysame55⟩) hHeld ?restsame55
          case hysame55 => (intro w hSw; (try dsimp only at hSw); go_simp; try with_reducible rfl)
          try simp only [Act.put, List.getElem_toArray, List.getElem_cons_succ, List.getElem_cons_zero, List.setIfInBounds_toArray, List.set_cons_zero, List.set_cons_succ]
          refine wpAnyH_take (i := 11) (v := ?vsame56) rfl (by kernel_rfl) (by kernel_rfl) (by kernel_rfl) (fun _ _ _ h => h) (Or.inl ⟨by rfl, ?hysame56⟩) hHeld ?restsame56
          case hysame56 => (intro w hSw; (try dsimp only at hSw); go_simp; try with_reducible rfl)
          try simp only [Act.put, List.getElem_toArray, List.getElem_cons_succ, List.getElem_cons_zero, List.setIfInBounds_toArray, List.set_cons_zero, List.set_cons_succ]
          refine wpAnyH_take (i := 12) (v := ?vsame57) rfl (by kernel_rfl) (by kernel_rfl) (by kernel_rfl) (fun _ _ _ h => h) (Or.inl ⟨by rfl, ?hysame57⟩) hHeld ?restsame57
          case hysame57 => (intro w hSw; (try dsimp only at hSw); go_simp; try with_reducible rfl)
          try simp only [Act.put, List.getElem_toArray, List.getElem_cons_succ, List.getElem_cons_zero, List.setIfInBounds_toArray, List.set_cons_zero, List.set_cons_succ]
          refine wpAnyH_take (i := 13) (v := ?vsame58) rfl (by kernel_rfl) (by kernel_rfl) (by kernel_rfl) (fun _ _ _ h => h) (Or.inl ⟨by rfl, ?hysame58⟩) hHeld ?restsame58
          case hysame58 => (intro w hSw; (try dsimp only at hSw); go_simp; try with_reducible rfl)
          try simp only [Act.put, List.getElem_toArray, List.getElem_cons_succ, List.getElem_cons_zero, List.setIfInBounds_toArray, List.set_cons_zero, List.set_cons_succ]
          refine wpAnyH_take (i := 14) (v := undef) rfl (by kernel_rfl) (by kernel_rfl) (by kernel_rfl) (fun _ _ _ h => h) (Or.inr ⟨by rfl, rfl⟩) hHeld ?restsame59
          try simp only [Act.put, List.getElem_toArray, List.getElem_cons_succ, List.getElem_cons_zero, List.setIfInBounds_toArray, List.set_cons_zero, List.set_cons_succ]
          refine wpAnyH_take (i := 15) (v := undef) rfl (by kernel_rfl) (by kernel_rfl) (by kernel_rfl) (fun _ _ _ h => h) (Or.inr ⟨by rfl, rfl⟩) hHeld ?restsame60
          try simp only [Act.put, List.getElem_toArray, List.getElem_cons_succ, List.getElem_cons_zero, List.setIfInBounds_toArray, List.set_cons_zero, List.set_cons_succ]
          refine wpAnyH_take (i := 16) (v := undef) rfl (by kernel_rfl) (by kernel_rfl) (by kernel_rfl) (fun _ _ _ h => h) (Or.inr ⟨by rfl, rfl⟩) hHeld ?restsame61
          try simp only [Act.put, List.getElem_toArray, List.getElem_cons_succ, List.getElem_cons_zero, List.setIfInBounds_toArray, List.set_cons_zero, List.set_cons_succ]
          refine wpAnyH_take (i := 17) (v := undef) rfl (by kernel_rfl) (by kernel_rfl) (by kernel_rfl) (fun _ _ _ h => h) (Or.inr ⟨by rfl, rfl⟩) hHeld ?restsame62
          try simp only [Act.put, List.getElem_toArray, List.getElem_cons_succ, List.getElem_cons_zero, List.setIfInBounds_toArray, List.set_cons_zero, List.set_cons_succ]
          refine wpAnyH_take (i := 18) (v := undef) rfl (by kernel_rfl) (by kernel_rfl) (by kernel_rfl) (fun _ _ _ h => h) (Or.inr ⟨by rfl, rfl⟩) hHeld ?restsame63
          try simp only [Act.put, List.getElem_toArray, List.getElem_cons_succ, List.getElem_cons_zero, List.setIfInBounds_toArray, List.set_cons_zero, List.set_cons_succ]
          refine wpAnyH_take (i := 19) (v := undef) rfl (by kernel_rfl) (by kernel_rfl) (by kernel_rfl) (fun _ _ _ h => h) (Or.inr ⟨by rfl, rfl⟩) hHeld ?restsame64
          try simp only [Act.put, List.getElem_toArray, List.getElem_cons_succ, List.getElem_cons_zero, List.setIfInBounds_toArray, List.set_cons_zero, List.set_cons_succ]
          refine wpAnyH_take (i := 20) (v := undef) rfl (by kernel_rfl) (by kernel_rfl) (by kernel_rfl) (fun _ _ _ h => h) (Or.inr ⟨by rfl, rfl⟩) hHeld ?restsame65
          try simp only [Act.put, List.getElem_toArray, List.getElem_cons_succ, List.getElem_cons_zero, List.setIfInBounds_toArray, List.set_cons_zero, List.set_cons_succ]
          refine wpAnyH_take (i := 21) (v := ?vsame66) rfl (by kernel_rfl) (by kernel_rfl) (by kernel_rfl) (fun _ _ _ h => h) (Or.inl ⟨by rfl, ?hysame66⟩) hHeld ?restsame66
          case hysame66 => (intro w hSw; (try dsimp only at hSw); go_simp; try with_reducible rfl)
          try simp only [Act.put, List.getElem_toArray, List.getElem_cons_succ, List.getElem_cons_zero, List.setIfInBounds_toArray, List.set_cons_zero, List.set_cons_succ]
          refine wpAnyH_done (by kernel_rfl) ?_ _
          -- region same ends
          all_goals
            go_wp2_with fail
            refine bodyPost_ret (results_tmp3 rfl _ _ _) rfl ?_
            exact ⟨rfl, HB.out.trans (hB2.mono hsc)⟩
        · have P1 := rightB_iff.1 H1.out
          have P2 := rightB_iff.1 H2.out
          have hS1 : ∀ W, Rounds W → Calls Tryd.prog 103 #[.func (.func 104) #[bdV s x b] #[]] W fun e w' => e = .returned (.string (sumS (textB s x b))) ∧ Below W.heap.size W w' := by
            intro W hW
            obtain ⟨n, rfl⟩ : ∃ n : Nat, x = n := ⟨x.toNat, by have := P1.2.1; omega⟩
            exact psum_any s b n W hW P1
          have hS2 : ∀ W, Rounds W → Calls Tryd.prog 103 #[.func (.func 104) #[bdV s2 y b2] #[]] W fun e w' => e = .returned (.string (sumS (textB s2 y b2))) ∧ Below W.heap.size W w' := by
            intro W hW
            obtain ⟨n, rfl⟩ : ∃ n : Nat, y = n := ⟨y.toNat, by have := P2.2.1; omega⟩
            exact psum_any s2 b2 n W hW P2
          unfold bdV at hS1 hS2
          generalize hM : sumS (textB s x b) = M at hS1
          generalize hN : sumS (textB s2 y b2) = N at hS2
          have HM := Lib.hid hM
          have HN := Lib.hid hN
          have HS1 := Lib.hid hS1
          have HS2 := Lib.hid hS2
          have HP1 := Lib.hid P1
          have HP2 := Lib.hid P2
          have HSame : Hid (¬(s.toList = s2.toList ∧ x = y ∧ b.toList = b2.toList)) := Lib.hid (fun h => hsame ⟨str_inj h.1, h.2.1, str_inj h.2.2⟩)
          have HTne : Hid (((textB s x b).toList == (textB s2 y b2).toList) = false) := Lib.hid (by
            rw [beq_eq_false_iff_ne]
            exact fun h => hsame (text_inj P1 P2 h))
          have hT1 : ∀ W, Calls Tryd.prog 104 #[bdV s x b] W fun e w' => e = .returned (.string (textB s x b)) ∧ Below W.heap.size W w' := by
            intro W
            obtain ⟨n, rfl⟩ : ∃ n : Nat, x = n := ⟨x.toNat, by have := P1.2.1; omega⟩
            exact text_any s b n W P1
          have hT2 : ∀ W, Calls Tryd.prog 104 #[bdV s2 y b2] W fun e w' => e = .returned (.string (textB s2 y b2)) ∧ Below W.heap.size W w' := by
            intro W
            obtain ⟨n, rfl⟩ : ∃ n : Nat, y = n := ⟨y.toNat, by have := P2.2.1; omega⟩
            exact text_any s2 b2 n W P2
          unfold bdV at hT1 hT2
          have HT1 := Lib.hid hT1
          have HT2 := Lib.hid hT2
          clear P1 P2 hS1 hS2 hT1 hT2 hM hN hsame
          have HBB := HB.out
          go_wp2_with fail
          -- region all
          refine wp_region_held_drew (S := fun w' => (w'.cell? ⟨g, 0, none⟩ = some (.string s) ∧ w'.cell? ⟨g, 1, none⟩ = some (.int .i64 x) ∧ w'.cell? ⟨g, 2, none⟩ = some (.string b)) ∧ w'.cell? ⟨g', 0, none⟩ = some (.string s2) ∧ w'.cell? ⟨g', 1, none⟩ = some (.int .i64 y) ∧ w'.cell? ⟨g', 2, none⟩ = some (.string b2)) (by kernel_rfl) (keep6 HX.out HY.out (by go_grown)) (fun hHeld => ?_)
          refine wpAnyH_take (i := 0) (v := ?vall67) rfl (by kernel_rfl) (by kernel_rfl) (by kernel_rfl) (fun _ _ _ h => h) (Or.inl ⟨by rfl, ?hyall67⟩) hHeld ?restall67
          case hyall67 => (intro w hSw; (try dsimp only at hSw); go_simp; try with_reducible rfl)
          try simp only [Act.put, List.getElem_toArray, List.getElem_cons_succ, List.getElem_cons_zero, List.setIfInBounds_toArray, List.set_cons_zero, List.set_cons_succ]
          refine wpAnyH_ready (rs := [1]) (by kernel_rfl) (by simp) ?_
          refine AllReadyH.cons rfl (fun K hK => ?_) AllReadyH.nil
          clear hHeld
          go_simp
          refine (HR1.out _).mono ?_
          rintro r w1 ⟨rfl, hb1⟩
          have hB1 : Below wc.heap.size wc w1 := Below.trans (by go_grown) (hb1.mono (by first | (simp; done) | omega | (simp; omega)))
          clear hb1
          have hs1 := hB1.size
          go_simp
          refine hK.out _ _ (keep6 HX.out HY.out hB1) (fun hHeld => ?_)
          clear hK K
          try simp only [Act.put, List.getElem_toArray, List.getElem_cons_succ, List.getElem_cons_zero, List.setIfInBounds_toArray, List.set_cons_zero, List.set_cons_succ]
          refine wpAnyH_take (i := 2) (v := ?vall69) rfl (by kernel_rfl) (by kernel_rfl) (by kernel_rfl) (fun _ _ _ h => h) (Or.inl ⟨by rfl, ?hyall69⟩) hHeld ?restall69
          case hyall69 => (intro w hSw; (try dsimp only at hSw); go_simp; try with_reducible rfl)
          try simp only [Act.put, List.getElem_toArray, List.getElem_cons_succ, List.getElem_cons_zero, List.setIfInBounds_toArray, List.set_cons_zero, List.set_cons_succ]
          refine wpAnyH_take (i := 3) (v := ?vall70) rfl (by kernel_rfl) (by kernel_rfl) (by kernel_rfl) (fun _ _ _ h => h) (Or.inl ⟨by rfl, ?hyall70⟩) hHeld ?restall70
          case hyall70 => (intro w hSw; (try dsimp only at hSw); go_simp; try with_reducible rfl)
          try simp only [Act.put, List.getElem_toArray, List.getElem_cons_succ, List.getElem_cons_zero, List.setIfInBounds_toArray, List.set_cons_zero, List.set_cons_succ]
          refine wpAnyH_take (i := 4) (v := ?vall71) rfl (by kernel_rfl) (by kernel_rfl) (by kernel_rfl) (fun _ _ _ h => h) (Or.inl ⟨by rfl, ?hyall71⟩) hHeld ?restall71
          case hyall71 => (intro w hSw; (try dsimp only at hSw); go_simp; try with_reducible rfl)
          try simp only [Act.put, List.getElem_toArray, List.getElem_cons_succ, List.getElem_cons_zero, List.setIfInBounds_toArray, List.set_cons_zero, List.set_cons_succ]
          refine wpAnyH_ready (rs := [5]) (by kernel_rfl) (by simp) ?_
          refine AllReadyH.cons rfl (fun K hK => ?_) AllReadyH.nil
          clear hHeld
          go_simp
          refine (HR2.out _).mono ?_
          rintro r w2 ⟨rfl, hb2⟩
          have hB2 : Below wc.heap.size wc w2 := Below.trans (by go_grown) (hb2.mono (by first | (simp; done) | omega | (simp; omega)))
          clear hb2
          have hs2 := hB2.size
          go_simp
          refine hK.out _ _ (keep6 HX.out HY.out hB2) (fun hHeld => ?_)
          clear hK K
          try simp only [Act.put, List.getElem_toArray, List.getElem_cons_succ, List.getElem_cons_zero, List.setIfInBounds_toArray, List.set_cons_zero, List.set_cons_succ]
          refine wpAnyH_take (i := 6) (v := ?vall73) rfl (by kernel_rfl) (by kernel_rfl) (by kernel_rfl) (fun _ _ _ h => h) (Or.inl ⟨by rfl, ?hyall73⟩) hHeld ?restall73
          case hyall73 => (intro w hSw; (try dsimp only at hSw); go_simp; try with_reducible rfl)
          try simp only [Act.put, List.getElem_toArray, List.getElem_cons_succ, List.getElem_cons_zero, List.setIfInBounds_toArray, List.set_cons_zero, List.set_cons_succ]
          refine wpAnyH_take (i := 7) (v := ?vall74) rfl (by kernel_rfl) (by kernel_rfl) (by kernel_rfl) (fun _ _ _ h => h) (Or.inl ⟨by rfl, ?hyall74⟩) hHeld ?restall74
          case hyall74 => (intro w hSw; (try dsimp only at hSw); go_simp; try with_reducible rfl)
          try simp only [Act.put, List.getElem_toArray, List.getElem_cons_succ, List.getElem_cons_zero, List.setIfInBounds_toArray, List.set_cons_zero, List.set_cons_succ]
          refine wpAnyH_take (i := 8) (v := ?vall75) rfl (by kernel_rfl) (by kernel_rfl) (by kernel_rfl) (fun _ _ _ h => h) (Or.inl ⟨by rfl, ?hyall75⟩) hHeld ?restall75
          case hyall75 => (intro w hSw; (try dsimp only at hSw); go_simp; try with_reducible rfl)
          try simp only [Act.put, List.getElem_toArray, List.getElem_cons_succ, List.getElem_cons_zero, List.setIfInBounds_toArray, List.set_cons_zero, List.set_cons_succ]
          refine wpAnyH_take (i := 9) (v := ?vall76) rfl (by kernel_rfl) (by kernel_rfl) (by kernel_rfl) (fun _ _ _ h => h) (Or.inl ⟨by rfl, ?hyall76⟩) hHeld ?restall76
          case hyall76 => (intro w hSw; (try dsimp only at hSw); go_simp; try with_reducible rfl)
          try simp only [Act.put, List.getElem_toArray, List.getElem_cons_succ, List.getElem_cons_zero, List.setIfInBounds_toArray, List.set_cons_zero, List.set_cons_succ]
          refine wpAnyH_take (i := 10) (v := ?vall77) rfl (by kernel_rfl) (by kernel_rfl) (by kernel_rfl) (fun _ _ _ h => h) (Or.inl ⟨by rfl, ?hyall77⟩) hHeld ?restall77
          case hyall77 => (intro w hSw; (try dsimp only at hSw); go_simp; try with_reducible rfl)
          try simp only [Act.put, List.getElem_toArray, List.getElem_cons_succ, List.getElem_cons_zero, List.setIfInBounds_toArray, List.set_cons_zero, List.set_cons_succ]
          refine wpAnyH_take (i := 11) (v := .bool false) rfl (by kernel_rfl) (by kernel_rfl) (by kernel_rfl) (fun _ _ _ h => h) (Or.inl ⟨by rfl, ?hyall78⟩) hHeld ?restall78
          case hyall78 => (intro w hSw; (try dsimp only at hSw); go_simp; exact fun a b c => HSame.out ⟨a, b, c⟩)
          try simp only [Act.put, List.getElem_toArray, List.getElem_cons_succ, List.getElem_cons_zero, List.setIfInBounds_toArray, List.set_cons_zero, List.set_cons_succ]
          refine wpAnyH_take (i := 12) (v := ?vall79) rfl (by kernel_rfl) (by kernel_rfl) (by kernel_rfl) (fun _ _ _ h => h) (Or.inl ⟨by rfl, ?hyall79⟩) hHeld ?restall79
          case hyall79 => (intro w hSw; (try dsimp only at hSw); go_simp; try with_reducible rfl)
          try simp only [Act.put, List.getElem_toArray, List.getElem_cons_succ, List.getElem_cons_zero, List.setIfInBounds_toArray, List.set_cons_zero, List.set_cons_succ]
          refine wpAnyH_take (i := 13) (v := ?vall80) rfl (by kernel_rfl) (by kernel_rfl) (by kernel_rfl) (fun _ _ _ h => h) (Or.inl ⟨by rfl, ?hyall80⟩) hHeld ?restall80
          case hyall80 => (intro w hSw; (try dsimp only at hSw); go_simp; try with_reducible rfl)
          try simp only [Act.put, List.getElem_toArray, List.getElem_cons_succ, List.getElem_cons_zero, List.setIfInBounds_toArray, List.set_cons_zero, List.set_cons_succ]
          refine wpAnyH_take (i := 14) (v := ?vall81) rfl (by kernel_rfl) (by kernel_rfl) (by kernel_rfl) (fun _ _ _ h => h) (Or.inl ⟨by rfl, ?hyall81⟩) hHeld ?restall81
          case hyall81 => (intro w hSw; (try dsimp only at hSw); go_simp; try with_reducible rfl)
          try simp only [Act.put, List.getElem_toArray, List.getElem_cons_succ, List.getElem_cons_zero, List.setIfInBounds_toArray, List.set_cons_zero, List.set_cons_succ]
          refine wpAnyH_take (i := 15) (v := ?vall82) rfl (by kernel_rfl) (by kernel_rfl) (by kernel_rfl) (fun _ _ _ h => h) (Or.inl ⟨by rfl, ?hyall82⟩) hHeld ?restall82
          case hyall82 => (intro w hSw; (try dsimp only at hSw); go_simp; try with_reducible rfl)
          try simp only [Act.put, List.getElem_toArray, List.getElem_cons_succ, List.getElem_cons_zero, List.setIfInBounds_toArray, List.set_cons_zero, List.set_cons_succ]
          refine wpAnyH_take (i := 17) (v := ?vall83) rfl (by kernel_rfl) (by kernel_rfl) (by kernel_rfl) (fun _ _ _ h => h) (Or.inl ⟨by rfl, ?hyall83⟩) hHeld ?restall83
          case hyall83 => (intro w hSw; (try dsimp only at hSw); go_simp; try with_reducible rfl)
          try simp only [Act.put, List.getElem_toArray, List.getElem_cons_succ, List.getElem_cons_zero, List.setIfInBounds_toArray, List.set_cons_zero, List.set_cons_succ]
          refine wpAnyH_take (i := 18) (v := ?vall84) rfl (by kernel_rfl) (by kernel_rfl) (by kernel_rfl) (fun _ _ _ h => h) (Or.inl ⟨by rfl, ?hyall84⟩) hHeld ?restall84
          case hyall84 => (intro w hSw; (try dsimp only at hSw); go_simp; try with_reducible rfl)
          try simp only [Act.put, List.getElem_toArray, List.getElem_cons_succ, List.getElem_cons_zero, List.setIfInBounds_toArray, List.set_cons_zero, List.set_cons_succ]
          refine wpAnyH_ready (rs := [16]) (by kernel_rfl) (by simp) ?_
          refine AllReadyH.cons rfl (fun K hK => ?_) AllReadyH.nil
          clear hHeld
          go_simp
          refine (HS1.out _ (rounds_of HGC.out hB2)).mono ?_
          rintro r w3 ⟨rfl, hb3⟩
          have hB3 : Below wc.heap.size wc w3 := Below.trans (by go_grown) (hb3.mono (by first | (simp; done) | omega | (simp; omega)))
          clear hb3
          have hs3 := hB3.size
          go_simp
          refine hK.out _ _ (keep6 HX.out HY.out hB3) (fun hHeld => ?_)
          clear hK K
          try simp only [Act.put, List.getElem_toArray, List.getElem_cons_succ, List.getElem_cons_zero, List.setIfInBounds_toArray, List.set_cons_zero, List.set_cons_succ]
          refine wpAnyH_ready (rs := [19]) (by kernel_rfl) (by simp) ?_
          refine AllReadyH.cons rfl (fun K hK => ?_) AllReadyH.nil
          clear hHeld
          go_simp
          refine (HS2.out _ (rounds_of HGC.out hB3)).mono ?_
          rintro r w4 ⟨rfl, hb4⟩
          have hB4 : Below wc.heap.size wc w4 := Below.trans (by go_grown) (hb4.mono (by first | (simp; done) | omega | (simp; omega)))
          clear hb4
          have hs4 := hB4.size
          go_simp
          refine hK.out _ _ (keep6 HX.out HY.out hB4) (fun hHeld => ?_)
          clear hK K
          try simp only [Act.put, List.getElem_toArray, List.getElem_cons_succ, List.getElem_cons_zero, List.setIfInBounds_toArray, List.set_cons_zero, List.set_cons_succ]
          refine wpAnyH_take (i := 20) (v := ?vall87) rfl (by kernel_rfl) (by kernel_rfl) (by kernel_rfl) (fun _ _ _ h => h) (Or.inl ⟨by rfl, ?hyall87⟩) hHeld ?restall87
          case hyall87 => (intro w hSw; (try dsimp only at hSw); go_simp; try with_reducible rfl)
          try simp only [Act.put, List.getElem_toArray, List.getElem_cons_succ, List.getElem_cons_zero, List.setIfInBounds_toArray, List.set_cons_zero, List.set_cons_succ]
          refine wpAnyH_take (i := 21) (v := ?vall88) rfl (by kernel_rfl) (by kernel_rfl) (by kernel_rfl) (fun _ _ _ h => h) (Or.inl ⟨by rfl, ?hyall88⟩) hHeld ?restall88
          case hyall88 => (intro w hSw; (try dsimp only at hSw); go_simp; try with_reducible rfl)
          try simp only [Act.put, List.getElem_toArray, List.getElem_cons_succ, List.getElem_cons_zero, List.setIfInBounds_toArray, List.set_cons_zero, List.set_cons_succ]
          refine wpAnyH_done (by kernel_rfl) ?_ _
          -- region all ends
          by_cases e2 : M.toList = N.toList
          · obtain rfl : q = true := by
              have h := HQ.out
              rw [← h]; simp [witB, H1.out, H2.out, HTne.out, HM.out, HN.out, e2]
            have t2 : (M.toList == N.toList) = true := by simpa using e2
            have t3 : (!M.toList == N.toList) = false := by rw [t2]; rfl
            go_wp2_with fail
            · rename_i h
              cases h.symm.trans t3
            · skip
              -- region text
              refine wp_region_held_drew (S := fun w' => (w'.cell? ⟨g, 0, none⟩ = some (.string s) ∧ w'.cell? ⟨g, 1, none⟩ = some (.int .i64 x) ∧ w'.cell? ⟨g, 2, none⟩ = some (.string b)) ∧ w'.cell? ⟨g', 0, none⟩ = some (.string s2) ∧ w'.cell? ⟨g', 1, none⟩ = some (.int .i64 y) ∧ w'.cell? ⟨g', 2, none⟩ = some (.string b2)) (by kernel_rfl) (keep6 (w' := w4.drew) HX.out HY.out (by go_grown)) (fun hHeld => ?_)
              refine wpAnyH_take (i := 0) (v := ?vtext89) rfl (by kernel_rfl) (by kernel_rfl) (by kernel_rfl) (fun _ _ _ h => h) (Or.inl ⟨by rfl, ?hytext89⟩) hHeld ?resttext89
              case hytext89 => (intro w hSw; (try dsimp only at hSw); go_simp; try with_reducible rfl)
              try simp only [Act.put, List.getElem_toArray, List.getElem_cons_succ, List.getElem_cons_zero, List.setIfInBounds_toArray, List.set_cons_zero, List.set_cons_succ]
              refine wpAnyH_take (i := 2) (v := ?vtext90) rfl (by kernel_rfl) (by kernel_rfl) (by kernel_rfl) (fun _ _ _ h => h) (Or.inl ⟨by rfl, ?hytext90⟩) hHeld ?resttext90
              case hytext90 => (intro w hSw; (try dsimp only at hSw); go_simp; try with_reducible rfl)
              try simp only [Act.put, List.getElem_toArray, List.getElem_cons_succ, List.getElem_cons_zero, List.setIfInBounds_toArray, List.set_cons_zero, List.set_cons_succ]
              refine wpAnyH_ready (rs := [1]) (by kernel_rfl) (by simp) ?_
              refine AllReadyH.cons rfl (fun K hK => ?_) AllReadyH.nil
              clear hHeld
              go_simp
              refine (HT1.out _).mono ?_
              rintro r w5 ⟨rfl, hb5⟩
              have hB5 : Below wc.heap.size wc w5 := Below.trans (by go_grown) (hb5.mono (by first | (simp; done) | omega | (simp; omega)))
              clear hb5
              have hs5 := hB5.size
              go_simp
              refine hK.out _ _ (keep6 HX.out HY.out hB5) (fun hHeld => ?_)
              clear hK K
              try simp only [Act.put, List.getElem_toArray, List.getElem_cons_succ, List.getElem_cons_zero, List.setIfInBounds_toArray, List.set_cons_zero, List.set_cons_succ]
              refine wpAnyH_ready (rs := [3]) (by kernel_rfl) (by simp) ?_
              refine AllReadyH.cons rfl (fun K hK => ?_) AllReadyH.nil
              clear hHeld
              go_simp
              refine (HT2.out _).mono ?_
              rintro r w6 ⟨rfl, hb6⟩
              have hB6 : Below wc.heap.size wc w6 := Below.trans (by go_grown) (hb6.mono (by first | (simp; done) | omega | (simp; omega)))
              clear hb6
              have hs6 := hB6.size
              go_simp
              refine hK.out _ _ (keep6 HX.out HY.out hB6) (fun hHeld => ?_)
              clear hK K
              try simp only [Act.put, List.getElem_toArray, List.getElem_cons_succ, List.getElem_cons_zero, List.setIfInBounds_toArray, List.set_cons_zero, List.set_cons_succ]
              refine wpAnyH_take (i := 4) (v := ?vtext93) rfl (by kernel_rfl) (by kernel_rfl) (by kernel_rfl) (fun _ _ _ h => h) (Or.inl ⟨by rfl, ?hytext93⟩) hHeld ?resttext93
              case hytext93 => (intro w hSw; (try dsimp only at hSw); go_simp; try with_reducible rfl)
              try simp only [Act.put, List.getElem_toArray, List.getElem_cons_succ, List.getElem_cons_zero, List.setIfInBounds_toArray, List.set_cons_zero, List.set_cons_succ]
              refine wpAnyH_take (i := 5) (v := ?vtext94) rfl (by kernel_rfl) (by kernel_rfl) (by kernel_rfl) (fun _ _ _ h => h) (Or.inl ⟨by rfl, ?hytext94⟩) hHeld ?resttext94
              case hytext94 => (intro w hSw; (try dsimp only at hSw); go_simp; try with_reducible rfl)
              try simp only [Act.put, List.getElem_toArray, List.getElem_cons_succ, List.getElem_cons_zero, List.setIfInBounds_toArray, List.set_cons_zero, List.set_cons_succ]
              refine wpAnyH_take (i := 6) (v := ?vtext95) rfl (by kernel_rfl) (by kernel_rfl) (by kernel_rfl) (fun _ _ _ h => h) (Or.inl ⟨by rfl, ?hytext95⟩) hHeld ?resttext95
              case hytext95 => (intro w hSw; (try dsimp only at hSw); go_simp; try with_reducible rfl)
              try simp only [Act.put, List.getElem_toArray, List.getElem_cons_succ, List.getElem_cons_zero, List.setIfInBounds_toArray, List.set_cons_zero, List.set_cons_succ]
              refine wpAnyH_done (by kernel_rfl) ?_ _
              -- region text ends
              all_goals
                go_wp2_with fail
                refine bodyPost_ret (results_tmp3 rfl _ _ _) rfl ?_
                exact ⟨rfl, HB.out.trans (hB6.mono hsc)⟩
          · obtain rfl : q = false := by
              have h := HQ.out
              rw [← h]; simp [witB, HM.out, HN.out, e2]
            have t2 : (M.toList == N.toList) = false := by simpa using e2
            have t3 : (!M.toList == N.toList) = true := by rw [t2]; rfl
            go_wp2_with fail
            · refine bodyPost_ret (results_tmp3 rfl _ _ _) rfl ?_
              exact ⟨rfl, HB.out.trans (hB4.mono hsc)⟩
            · have hc : (!M.toList == N.toList) = false := by assumption
              rw [t3] at hc
              cases hc
end Go.Proofs.YtkaaicmadknjcaaDoor
