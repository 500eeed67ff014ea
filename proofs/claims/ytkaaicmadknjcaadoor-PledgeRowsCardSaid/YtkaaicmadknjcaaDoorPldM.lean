/- the walk of PledgeRows. -/
import Derived.Test.YtkaaicmadknjcaaDoorPldL
import Derived.Test.YtkaaicmadknjcaaDoorOrows
set_option linter.unusedVariables false
set_option linter.unusedSimpArgs false
namespace Go.Proofs.YtkaaicmadknjcaaDoor
open Go.RowKit
theorem allE_zero {S : List ByteArray} {L : List Sh} : allE S L = 0 ↔ S.length = L.length ∧ rightAll S L = true := by
  unfold allE
  split
  · rename_i h
    cases hr : rightAll S L <;> simp [h]
  · rename_i h
    simp [h]
theorem rightAll_app {S T : List ByteArray} {L M : List Sh} (h : S.length = L.length) : rightAll (S ++ T) (L ++ M) = (rightAll S L && rightAll T M) := by
  unfold rightAll
  rw [List.zipWith_append h, List.all_append]
theorem plgs_app {S T : List ByteArray} {L M : List Sh} (h : S.length = L.length) : plgs (S ++ T) (L ++ M) = plgs S L ++ plgs T M := by
  unfold plgs
  rw [List.zipWith_append h]
theorem all_app_ok {S T : List ByteArray} {L M : List Sh} (h1 : allE S L = 0) (h2 : allE T M = 0) : allE (S ++ T) (L ++ M) = 0 ∧ allL (S ++ T) (L ++ M) = allL S L ++ allL T M := by
  obtain ⟨a1, b1⟩ := allE_zero.1 h1
  obtain ⟨a2, b2⟩ := allE_zero.1 h2
  have hl : (S ++ T).length = (L ++ M).length := by simp [a1, a2]
  have hr : rightAll (S ++ T) (L ++ M) = true := by rw [rightAll_app a1, b1, b2]; rfl
  refine ⟨allE_zero.2 ⟨hl, hr⟩, ?_⟩
  unfold allL
  rw [if_pos hl, if_pos hr, if_pos a1, if_pos b1, if_pos a2, if_pos b2, plgs_app a1]
theorem all_app_no {S T : List ByteArray} {L M : List Sh} (hn : S.length = L.length) (h : allE (S ++ T) (L ++ M) = 0) : allE S L = 0 ∧ allE T M = 0 := by
  obtain ⟨a, b⟩ := allE_zero.1 h
  rw [rightAll_app hn, Bool.and_eq_true] at b
  simp only [List.length_append] at a
  exact ⟨allE_zero.2 ⟨hn, b.1⟩, allE_zero.2 ⟨by omega, b.2⟩⟩
theorem allL_len {S : List ByteArray} {L : List Sh} {m : Nat} (h : L.length = m) : (allL S L).length ≤ m := by
  unfold allL
  split
  · rename_i h'
    split
    · rw [plgs_len h']; omega
    · simp
  · simp
set_option maxRecDepth 100000 in
set_option maxHeartbeats 2000000 in
theorem prows_in (S T : List ByteArray) (L M : List Sh) (A1 A2 A3 A4 : Option Addr) (n1 c1 n2 c2 m1 d1 m2 d2 : Nat) (w : World) (hG : Rounds w)
    (hS : SlR encS 1 w w.heap.size A1 n1 S) (hT : SlR encS 1 w w.heap.size A2 n2 T) (hL : SlR encSh 2 w w.heap.size A3 m1 L) (hM : SlR encSh 2 w w.heap.size A4 m2 M)
    (hn1 : n1 ≤ 1000) (hn2 : n2 ≤ 1000) (hm1 : m1 ≤ 1000) (hm2 : m2 ≤ 1000)
    (hs : ∀ s ∈ S, s.size ≤ 140737488351232) (ht : ∀ s ∈ T, s.size ≤ 140737488351232) (hl : ∀ x ∈ L, x.b.size ≤ 140737488351232) (hm : ∀ x ∈ M, x.b.size ≤ 140737488351232)
    (hf : farB S = false) (hf2 : farB T = false) (hb : bigS L = false) (hb2 : bigS M = false) :
    Calls Tryd.prog 15 #[.slice A1 n1 c1, .slice A2 n2 c2, .slice A3 m1 d1, .slice A4 m2 d2] w fun e w' => e = .returned (.bool true) ∧ Below w.heap.size w w' := by
  have HF := Lib.hid hf
  have HF2 := Lib.hid hf2
  have HB := Lib.hid hb
  have HB2 := Lib.hid hb2
  have HS := Lib.hid hS
  have HT := Lib.hid hT
  have HL := Lib.hid hL
  have HM := Lib.hid hM
  have HG := Lib.hid hG
  have Hs := Lib.hid hs
  have Ht := Lib.hid ht
  have Hl := Lib.hid hl
  have Hm := Lib.hid hm
  have Hst : Hid (∀ s ∈ S ++ T, s.size ≤ 140737488351232) := Lib.hid (fun s h => (List.mem_append.1 h).elim (hs s) (ht s))
  have Hlm : Hid (∀ x ∈ L ++ M, x.b.size ≤ 140737488351232) := Lib.hid (fun s h => (List.mem_append.1 h).elim (hl s) (hm s))
  have HST : Hid ((S ++ T).length = n1 + n2) := Lib.hid (by rw [List.length_append, hS.1, hT.1])
  have HLM : Hid ((L ++ M).length = m1 + m2) := Lib.hid (by rw [List.length_append, hL.1, hM.1])
  have HS0 : Hid (([] ++ S).length = n1) := Lib.hid hS.1
  have HL0 : Hid (([] ++ L).length = m1) := Lib.hid hL.1
  clear hf hf2 hb hb2 hS hT hL hM hG hs ht hl hm
  go_enter Tryd.func15, Tryd.ntmps15
  go_wp2_with fail
  refine (far_any S A1 n1 c1 _ HS.out (by omega)).mono ?_
  rintro e w1 ⟨rfl, rfl⟩
  rw [HF.out]
  go_wp2_with fail
  refine (far_any T A2 n2 c2 _ HT.out (by omega)).mono ?_
  rintro e w1 ⟨rfl, rfl⟩
  rw [HF2.out]
  go_wp2_with fail
  refine (bigs_any L A3 m1 d1 _ HL.out (by omega)).mono ?_
  rintro e w1 ⟨rfl, rfl⟩
  rw [HB.out]
  go_wp2_with fail
  refine (bigs_any M A4 m2 d2 _ HM.out (by omega)).mono ?_
  rintro e w1 ⟨rfl, rfl⟩
  rw [HB2.out]
  clear HF HF2 HB HB2
  go_wp2_with (first
    | (at_builtin; refine wpList_append_strs rfl (.tmp 32) (.tmp 33) rfl rfl (srow_nil w w.heap.size) w.heap.size A1 n1 c1 S rfl HS.out n1 HS0.out (by omega) (Nat.le_refl _) ?_; intro A5 c5 w1 HR1 hg1 hb1 hc11 hc12; have HT1 := Lib.hid (HT.out.below hb1); change Hid (SRow w1 w.heap.size (.slice A5 n1 c5) S) at HR1; clear hg1 hc11 hc12)
    | (at_builtin; refine wpList_append_strs rfl (.tmp 35) (.tmp 36) rfl rfl HR1.out w.heap.size A2 n2 c2 T rfl HT1.out (n1 + n2) HST.out (by omega) hb1.size ?_; intro A6 c6 w2 HR2 hg2 hb2 hc21 hc22; have hB2 := hb1.trans hb2; have HL2 := Lib.hid (HL.out.below hB2); have hz2 := hB2.size; clear hg2 hc21 hc22 HT1 HR1 hb1 hb2)
    | (at_builtin; refine wpList_append_shs rfl (.tmp 38) (.tmp 39) rfl rfl (shrow_nil w2 w.heap.size) w.heap.size A3 m1 d1 L rfl HL2.out m1 HL0.out (by omega) hz2 ?_; intro A7 c7 w3 HR3 hg3 hb3 hc31 hc32; have hB3 := hB2.trans hb3; have HM3 := Lib.hid (HM.out.below hB3); change Hid (ShRow w3 w.heap.size (.slice A7 m1 c7) L) at HR3; have hz3 := hB3.size; have HR23 : Hid (SRow w3 w.heap.size (.slice A6 (n1 + n2) c6) (S ++ T)) := Lib.hid (orow_grown HR2.out hg3 (fun g _ h => by cases h)); clear hg3 hc31 hc32 HL2 HR2 hb3 hB2 hz2)
    | (at_builtin; refine wpList_append_shs rfl (.tmp 41) (.tmp 42) rfl rfl HR3.out w.heap.size A4 m2 d2 M rfl HM3.out (m1 + m2) HLM.out (by omega) hz3 ?_; intro A8 c8 w4 HR4 hg4 hb4 hc41 hc42))
  have hB4 := hB3.trans hb4
  have hz4 := hB4.size
  have HR24 : Hid (SRow w4 w.heap.size (.slice A6 (n1 + n2) c6) (S ++ T)) := Lib.hid (orow_grown HR23.out hg4 (orow_ne HR23.out HR3.out (by decide)))
  have HX4 := Lib.hid (srow_slr HR24.out HST.out)
  have HY4 := Lib.hid (shrow_slr HR4.out HLM.out)
  have HS4 := Lib.hid ((HS.out.below hB4).more hz4)
  have HT4 := Lib.hid ((HT.out.below hB4).more hz4)
  have HL4 := Lib.hid ((HL.out.below hB4).more hz4)
  have HM4 := Lib.hid ((HM.out.below hB4).more hz4)
  clear hg4 hc41 hc42 HM3 HR3 hb4 hB3 hz3 HR23 HR24 HR4 HS HT HL HM
  -- the three rows of pledges
  obtain ⟨E1, hE1⟩ : ∃ E, allE S L = E := ⟨_, rfl⟩
  obtain ⟨E2, hE2⟩ : ∃ E, allE T M = E := ⟨_, rfl⟩
  obtain ⟨E3, hE3⟩ : ∃ E, allE (S ++ T) (L ++ M) = E := ⟨_, rfl⟩
  obtain ⟨R1, hR1⟩ : ∃ E, allL S L = E := ⟨_, rfl⟩
  obtain ⟨R2, hR2⟩ : ∃ E, allL T M = E := ⟨_, rfl⟩
  obtain ⟨R3, hR3⟩ : ∃ E, allL (S ++ T) (L ++ M) = E := ⟨_, rfl⟩
  have HP1 : Hid (∀ w e w', AllPost S L w e w' → Below w.heap.size w w' ∧ ∃ A c, e = .returned (.tuple #[.slice A R1.length c, .int .i64 E1]) ∧ Hid (SRow w' w.heap.size (.slice A R1.length c) R1)) := Lib.hid (fun w e w' h => by unfold AllPost at h; rwa [hE1, hR1] at h)
  have HP2 : Hid (∀ w e w', AllPost T M w e w' → Below w.heap.size w w' ∧ ∃ A c, e = .returned (.tuple #[.slice A R2.length c, .int .i64 E2]) ∧ Hid (SRow w' w.heap.size (.slice A R2.length c) R2)) := Lib.hid (fun w e w' h => by unfold AllPost at h; rwa [hE2, hR2] at h)
  have HP3 : Hid (∀ w e w', AllPost (S ++ T) (L ++ M) w e w' → Below w.heap.size w w' ∧ ∃ A c, e = .returned (.tuple #[.slice A R3.length c, .int .i64 E3]) ∧ Hid (SRow w' w.heap.size (.slice A R3.length c) R3)) := Lib.hid (fun w e w' h => by unfold AllPost at h; rwa [hE3, hR3] at h)
  have HCase : Hid ((E1 = 0 ∧ E2 = 0 ∧ E3 = 0 ∧ R3 = R1 ++ R2) ∨ (E1 ≠ 0 ∧ E3 ≠ 0) ∨ (E1 ≠ 0 ∧ E3 = 0 ∧ n1 ≠ m1) ∨ (E1 = 0 ∧ E2 ≠ 0 ∧ E3 ≠ 0)) := Lib.hid (by
    subst hE1 hE2 hE3 hR1 hR2 hR3
    by_cases h1 : allE S L = 0
    · by_cases h2 : allE T M = 0
      · have := all_app_ok h1 h2
        exact .inl ⟨h1, h2, this.1, this.2⟩
      · refine .inr (.inr (.inr ⟨h1, h2, fun h3 => h2 (all_app_no (allE_zero.1 h1).1 h3).2⟩))
    · by_cases h3 : allE (S ++ T) (L ++ M) = 0
      · refine .inr (.inr (.inl ⟨h1, h3, fun hnm => h1 (all_app_no ?_ h3).1⟩))
        rw [HS4.out.1, HL4.out.1]; exact hnm
      · exact .inr (.inl ⟨h1, h3⟩))
  have HRl1 : Hid (R1.length ≤ 1000) := Lib.hid (by rw [← hR1]; exact Nat.le_trans (allL_len HL4.out.1) hm1)
  have HRl2 : Hid (R2.length ≤ 1000) := Lib.hid (by rw [← hR2]; exact Nat.le_trans (allL_len HM4.out.1) hm2)
  have HRl3 : Hid (R3.length ≤ 2000) := Lib.hid (by rw [← hR3]; exact Nat.le_trans (allL_len HLM.out) (by omega))
  clear hE1 hE2 hE3 hR1 hR2 hR3
  go_wp2_with fail
  refine (pall_any S L A1 A3 n1 m1 c1 d1 _ (rounds_of HG.out hB4) HS4.out HL4.out (by omega) (by omega) Hs.out Hl.out).mono ?_
  rintro e w5 hpost
  obtain ⟨hb5, B1, e1, rfl, HQ1⟩ := HP1.out _ _ _ hpost
  have hB5 := hB4.trans (hb5.mono hz4)
  have hz5 := hB5.size
  have HX5 := Lib.hid ((HX4.out.below hb5).more hb5.size)
  have HY5 := Lib.hid ((HY4.out.below hb5).more hb5.size)
  have HT5 := Lib.hid ((HT4.out.below hb5).more hb5.size)
  have HM5 := Lib.hid ((HM4.out.below hb5).more hb5.size)
  have HQ1s := Lib.hid (srow_slr HQ1.out rfl)
  clear hpost hb5 HX4 HY4 HT4 HM4 HQ1 hB4 hz4 HS4 HL4
  go_wp2_with fail
  refine (pall_any T M A2 A4 n2 m2 c2 d2 _ (rounds_of HG.out hB5) HT5.out HM5.out (by omega) (by omega) Ht.out Hm.out).mono ?_
  rintro e w6 hpost
  obtain ⟨hb6, B2, e2, rfl, HQ2⟩ := HP2.out _ _ _ hpost
  have hB6 := hB5.trans (hb6.mono hz5)
  have hz6 := hB6.size
  have HX6 := Lib.hid ((HX5.out.below hb6).more hb6.size)
  have HY6 := Lib.hid ((HY5.out.below hb6).more hb6.size)
  have HQ1t := Lib.hid ((HQ1s.out.below hb6).more hb6.size)
  have HQ2s := Lib.hid (srow_slr HQ2.out rfl)
  clear hpost hb6 HX5 HY5 HT5 HM5 HQ1s HQ2 hB5 hz5
  go_wp2_with fail
  refine (pall_any (S ++ T) (L ++ M) A6 A8 (n1 + n2) (m1 + m2) c6 c8 _ (rounds_of HG.out hB6) HX6.out HY6.out (by omega) (by omega) Hst.out Hlm.out).mono ?_
  rintro e w7 hpost
  obtain ⟨hb7, B3, e3, rfl, HQ3⟩ := HP3.out _ _ _ hpost
  have hB7 := hB6.trans (hb7.mono hz6)
  have hz7 := hB7.size
  have HQ1u := Lib.hid ((HQ1t.out.below hb7).more hb7.size)
  have HQ2u := Lib.hid ((HQ2s.out.below hb7).more hb7.size)
  have HQ3s := Lib.hid (srow_slr HQ3.out rfl)
  clear hpost hb7 HX6 HY6 HQ1t HQ2s HQ3 hB6 hz6 HP1 HP2 HP3
  rcases HCase.out with ⟨k1, k2, k3, k4⟩ | hno
  · subst k1 k2 k3 k4
    clear HCase
    have HRl12 : Hid (R1.length + R2.length ≤ 140737488351232) := Lib.hid (by have := HRl1.out; have := HRl2.out; omega)
    have Hl1 : Hid (([] ++ R1).length = R1.length) := Lib.hid rfl
    have Hl2 : Hid ((R1 ++ R2).length = R1.length + R2.length) := Lib.hid (List.length_append)
    have HQ3l : Hid (SlR encS 1 w7 w7.heap.size B3 (R1.length + R2.length) (R1 ++ R2)) := Lib.hid (by rw [← List.length_append]; exact HQ3s.out)
    clear HQ3s
    go_wp2_with (first
      | (at_builtin; refine wpList_append_strs rfl (.tmp 80) (.tmp 81) rfl rfl (srow_nil w7 w7.heap.size) w7.heap.size B1 R1.length e1 R1 rfl HQ1u.out R1.length Hl1.out (by have := HRl1.out; omega) (Nat.le_refl _) ?_; intro A9 c9 w8 HR8 hg8 hb8 hc81 hc82; have HQ2v := Lib.hid ((HQ2u.out.below hb8).more hb8.size); change Hid (SRow w8 w7.heap.size (.slice A9 R1.length c9) R1) at HR8; have hz8 := hb8.size; clear hg8 hc81 hc82)
      | (at_builtin; refine wpList_append_strs rfl (.tmp 83) (.tmp 84) rfl rfl HR8.out w8.heap.size B2 R2.length e2 R2 rfl HQ2v.out (R1.length + R2.length) Hl2.out (by have := HRl1.out; have := HRl2.out; omega) hz8 ?_; intro A10 c10 w9 HR9 hg9 hb9 hc91 hc92))
    have hb79 := hb8.trans hb9
    have hB9 := hB7.trans (hb79.mono hz7)
    have HQ9 := Lib.hid (srow_slr HR9.out Hl2.out)
    have HQ39 := Lib.hid ((HQ3l.out.below hb79).more hb79.size)
    clear hg9 hc91 hc92 hb8 hb9 HQ2v HR8 HR9 hz8
    go_wp2_with fail
    refine (pledges_any _ (rounds_of HG.out hB9)).mono ?_
    rintro e w10 ⟨rfl, hb10⟩
    have hB10 := hB9.trans (hb10.mono hB9.size)
    have HQ10 := Lib.hid ((HQ9.out.below hb10).more hb10.size)
    have HQ310 := Lib.hid ((HQ39.out.below hb10).more hb10.size)
    clear hb10 HQ9 HQ39
    go_wp2_with fail
    with_reducible refine (texts_any (R1 ++ R2) (R1 ++ R2) B3 A10 (R1.length + R2.length) (R1.length + R2.length) e3 c10 _ HQ310.out HQ10.out HRl12.out HRl12.out).mono ?_
    rintro e w11 ⟨rfl, hb11⟩
    rw [textsB_self]
    go_wp2_with fail
    go_ret
    exact ⟨rfl, hB10.trans (hb11.mono hB10.size)⟩
  · clear HCase
    have hno2 : ((E1 != 0) = true ∧ (E3 != 0) = true) ∨ ((E1 != 0) = true ∧ (E3 != 0) = false ∧ ((n1 : Int) != (m1 : Int)) = true) ∨ ((E1 != 0) = false ∧ (E2 != 0) = true ∧ (E3 != 0) = true) := by
      rcases hno with ⟨a, b⟩ | ⟨a, b, d⟩ | ⟨a, b, d⟩
      · exact .inl ⟨by simpa using a, by simpa using b⟩
      · exact .inr (.inl ⟨by simpa using a, by simpa using b, by simp; omega⟩)
      · exact .inr (.inr ⟨by simpa using a, by simpa using b, by simpa using d⟩)
    clear hno
    rcases hno2 with ⟨t1, t3⟩ | ⟨t1, t3, t4⟩ | ⟨t1, t2, t3⟩
    all_goals
      go_wp2_with fail
      refine (pledges_any _ (rounds_of HG.out hB7)).mono ?_
      rintro e w8 ⟨rfl, hb8⟩
      go_wp2_with fail
      go_ret
      exact ⟨rfl, hB7.trans (hb8.mono hz7)⟩
theorem prows_early (S T : List ByteArray) (L M : List Sh) (A1 A2 A3 A4 : Option Addr) (n1 c1 n2 c2 m1 d1 m2 d2 : Nat) (w : World)
    (hS : SlR encS 1 w w.heap.size A1 n1 S) (hT : SlR encS 1 w w.heap.size A2 n2 T) (hL : SlR encSh 2 w w.heap.size A3 m1 L) (hM : SlR encSh 2 w w.heap.size A4 m2 M)
    (hn1 : n1 ≤ 140737488351232) (hn2 : n2 ≤ 140737488351232) (hm1 : m1 ≤ 140737488351232) (hm2 : m2 ≤ 140737488351232) (h : (farB S || (farB T || (bigS L || bigS M))) = true) :
    Calls Tryd.prog 15 #[.slice A1 n1 c1, .slice A2 n2 c2, .slice A3 m1 d1, .slice A4 m2 d2] w fun e w' => e = .returned (.bool true) ∧ Below w.heap.size w w' := by
  have HS := Lib.hid hS
  have HT := Lib.hid hT
  have HL := Lib.hid hL
  have HM := Lib.hid hM
  have H := Lib.hid h
  clear hS hT hL hM h
  go_enter Tryd.func15, Tryd.ntmps15
  go_wp2_with fail
  refine (far_any S A1 n1 c1 _ HS.out hn1).mono ?_
  rintro e w1 ⟨rfl, rfl⟩
  cases q1 : farB S
  · have Q1 := Lib.hid q1
    clear q1
    go_wp2_with fail
    refine (far_any T A2 n2 c2 _ HT.out hn2).mono ?_
    rintro e w1 ⟨rfl, rfl⟩
    cases q2 : farB T
    · have Q2 := Lib.hid q2
      clear q2
      go_wp2_with fail
      refine (bigs_any L A3 m1 d1 _ HL.out hm1).mono ?_
      rintro e w1 ⟨rfl, rfl⟩
      cases q3 : bigS L
      · have q4 : bigS M = true := by have := H.out; rw [Q1.out, Q2.out, q3] at this; exact this
        have Q4 := Lib.hid q4
        clear q3 q4
        go_wp2_with fail
        refine (bigs_any M A4 m2 d2 _ HM.out hm2).mono ?_
        rintro e w1 ⟨rfl, rfl⟩
        rw [Q4.out]
        go_wp2_with fail
        go_ret
        exact ⟨rfl, Below.refl _ _⟩
      · clear q3
        go_wp2_with fail
        go_ret
        exact ⟨rfl, Below.refl _ _⟩
    · clear q2
      go_wp2_with fail
      go_ret
      exact ⟨rfl, Below.refl _ _⟩
  · clear q1
    go_wp2_with fail
    go_ret
    exact ⟨rfl, Below.refl _ _⟩
theorem pledgerows_all (S T : List ByteArray) (L M : List Sh) (A1 A2 A3 A4 : Option Addr) (n1 c1 n2 c2 m1 d1 m2 d2 : Nat) (w : World) (hG : Rounds w)
    (hS : SlR encS 1 w w.heap.size A1 n1 S) (hT : SlR encS 1 w w.heap.size A2 n2 T) (hL : SlR encSh 2 w w.heap.size A3 m1 L) (hM : SlR encSh 2 w w.heap.size A4 m2 M)
    (hn1 : n1 ≤ 140737488351232) (hn2 : n2 ≤ 140737488351232) (hm1 : m1 ≤ 140737488351232) (hm2 : m2 ≤ 140737488351232)
    (hs : ∀ s ∈ S, s.size ≤ 140737488351232) (ht : ∀ s ∈ T, s.size ≤ 140737488351232) (hl : ∀ x ∈ L, x.b.size ≤ 140737488351232) (hm : ∀ x ∈ M, x.b.size ≤ 140737488351232) :
    Calls Tryd.prog 15 #[.slice A1 n1 c1, .slice A2 n2 c2, .slice A3 m1 d1, .slice A4 m2 d2] w fun e w' => e = .returned (.bool true) ∧ Below w.heap.size w w' := by
  cases h : (farB S || (farB T || (bigS L || bigS M)))
  · simp only [Bool.or_eq_false_iff] at h
    obtain ⟨h1, h2, h3, h4⟩ := h
    have e1 := farB_no h1
    have e2 := farB_no h2
    have e3 := (bigS_no h3).1
    have e4 := (bigS_no h4).1
    rw [hS.1] at e1
    rw [hT.1] at e2
    rw [hL.1] at e3
    rw [hM.1] at e4
    exact prows_in S T L M A1 A2 A3 A4 n1 c1 n2 c2 m1 d1 m2 d2 w hG hS hT hL hM (by omega) (by omega) (by omega) (by omega) hs ht hl hm h1 h2 h3 h4
  · exact prows_early S T L M A1 A2 A3 A4 n1 c1 n2 c2 m1 d1 m2 d2 w hS hT hL hM hn1 hn2 hm1 hm2 h
end Go.Proofs.YtkaaicmadknjcaaDoor
