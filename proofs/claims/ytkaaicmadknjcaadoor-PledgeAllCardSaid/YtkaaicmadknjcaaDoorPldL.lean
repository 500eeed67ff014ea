/- the walks of PledgeAll and PledgeRows. -/
import Derived.Test.YtkaaicmadknjcaaDoorShs
set_option linter.unusedVariables false
set_option linter.unusedSimpArgs false
namespace Go.Proofs.YtkaaicmadknjcaaDoor
open Go.RowKit
theorem farB_no {L : List ByteArray} (h : farB L = false) : L.length ≤ 20 := by
  simp only [farB, Bool.or_eq_false_iff] at h
  simpa using h.2
theorem pall_far (S : List ByteArray) (A A' : Option Addr) (n c m c' : Nat) (w : World) (hS : SlR encS 1 w w.heap.size A n S) (hn : n ≤ 140737488351232) (hf : farB S = true) :
    Calls Tryd.prog 14 #[.slice A n c, .slice A' m c'] w fun e w' => e = .returned (.bool true) ∧ Below w.heap.size w w' := by
  have HF := Lib.hid hf
  have HS := Lib.hid hS
  clear hf hS
  go_enter Tryd.func14, Tryd.ntmps14
  go_wp2_with fail
  refine (far_any S A n c _ HS.out hn).mono ?_
  rintro e w1 ⟨rfl, rfl⟩
  rw [HF.out]
  go_wp2_with fail
  go_ret
  exact ⟨rfl, Below.refl _ _⟩
theorem pall_big (S : List ByteArray) (L : List Sh) (A A' : Option Addr) (n c m c' : Nat) (w : World) (hS : SlR encS 1 w w.heap.size A n S) (hL : SlR encSh 2 w w.heap.size A' m L) (hn : n ≤ 140737488351232) (hm : m ≤ 140737488351232) (hf : farB S = false) (hb : bigS L = true) :
    Calls Tryd.prog 14 #[.slice A n c, .slice A' m c'] w fun e w' => e = .returned (.bool true) ∧ Below w.heap.size w w' := by
  have HF := Lib.hid hf
  have HB := Lib.hid hb
  have HS := Lib.hid hS
  have HL := Lib.hid hL
  clear hf hS hb hL
  go_enter Tryd.func14, Tryd.ntmps14
  go_wp2_with fail
  refine (far_any S A n c _ HS.out hn).mono ?_
  rintro e w1 ⟨rfl, rfl⟩
  rw [HF.out]
  go_wp2_with fail
  refine (bigs_any L A' m c' _ HL.out hm).mono ?_
  rintro e w1 ⟨rfl, rfl⟩
  rw [HB.out]
  go_wp2_with fail
  go_ret
  exact ⟨rfl, Below.refl _ _⟩
set_option maxRecDepth 100000 in
set_option maxHeartbeats 1000000 in
theorem pall_in (S : List ByteArray) (L : List Sh) (A A' : Option Addr) (n c m c' : Nat) (w : World) (hG : Rounds w) (hS : SlR encS 1 w w.heap.size A n S) (hL : SlR encSh 2 w w.heap.size A' m L) (hn : n ≤ 1000) (hm : m ≤ 1000)
    (hs : ∀ s ∈ S, s.size ≤ 140737488351232) (hl : ∀ x ∈ L, x.b.size ≤ 140737488351232) (hf : farB S = false) (hb : bigS L = false) :
    Calls Tryd.prog 14 #[.slice A n c, .slice A' m c'] w fun e w' => e = .returned (.bool true) ∧ Below w.heap.size w w' := by
  have HF := Lib.hid hf
  have HB := Lib.hid hb
  have HS := Lib.hid hS
  have HL := Lib.hid hL
  have HG := Lib.hid hG
  have Hs := Lib.hid hs
  have Hl := Lib.hid hl
  obtain ⟨E, hE⟩ : ∃ E, allE S L = E := ⟨_, rfl⟩
  obtain ⟨R, hR⟩ : ∃ R, allL S L = R := ⟨_, rfl⟩
  have HAP : Hid (∀ w e w', AllPost S L w e w' → Below w.heap.size w w' ∧ ∃ A c, e = .returned (.tuple #[.slice A R.length c, .int .i64 E]) ∧ Hid (SRow w' w.heap.size (.slice A R.length c) R)) := Lib.hid (fun w e w' h => by
    unfold AllPost at h
    rwa [hE, hR] at h)
  have HRl : Hid (R.length ≤ 1000) := Lib.hid (by
    rw [← hR]
    unfold allL
    split
    · rename_i h
      split
      · rw [plgs_len h, hL.1]; exact hm
      · simp
    · simp)
  have t1 : (E == E) = true := by simp
  have HE := Lib.hid hE
  have HR := Lib.hid hR
  clear hf hS hb hL hG hs hl hE hR
  go_enter Tryd.func14, Tryd.ntmps14
  go_wp2_with fail
  refine (far_any S A n c _ HS.out (by omega)).mono ?_
  rintro e w1 ⟨rfl, rfl⟩
  rw [HF.out]
  go_wp2_with fail
  refine (bigs_any L A' m c' _ HL.out (by omega)).mono ?_
  rintro e w1 ⟨rfl, rfl⟩
  rw [HB.out]
  go_wp2_with fail
  refine (ownsh_any L A' m c' _ HL.out (by omega)).mono ?_
  rintro e w1 ⟨hB1, A1, c1, rfl, HO⟩
  have HL1 := Lib.hid (shrow_slr HO.out HL.out.1)
  have HLb := Lib.hid ((HL.out.below hB1).more hB1.size)
  have HS1 := Lib.hid ((HS.out.below hB1).more hB1.size)
  go_wp2_with fail
  refine (pall_any S L A A' n m c c' _ (rounds_of HG.out hB1) HS1.out HLb.out (by omega) (by omega) Hs.out Hl.out).mono ?_
  rintro e w2 hpost
  obtain ⟨hb2, A2, c2, rfl, HR2⟩ := HAP.out _ _ _ hpost
  have hB2 := hB1.trans (hb2.mono hB1.size)
  have HL2 := Lib.hid ((HL1.out.below hb2).more hb2.size)
  have HLb2 := Lib.hid ((HLb.out.below hb2).more hb2.size)
  have HS2 := Lib.hid ((HS1.out.below hb2).more hb2.size)
  clear hpost HL1 HLb HS1 HO hb2 hB1
  have HR2s := Lib.hid (srow_slr HR2.out rfl)
  clear HR2
  go_wp2_with fail
  refine (rall17_any S L A A1 n m c c1 _ HS2.out HL2.out (by omega) (by omega) Hs.out Hl.out).mono ?_
  rintro e w3 hpost
  obtain ⟨hb3, A3, c3, rfl, HR3⟩ := HAP.out _ _ _ hpost
  have hB3 := hB2.trans (hb3.mono hB2.size)
  have HR2t := Lib.hid ((HR2s.out.below hb3).more hb3.size)
  have HR3s := Lib.hid (srow_slr HR3.out rfl)
  have HL3 := Lib.hid ((HL2.out.below hb3).more hb3.size)
  have HLb3 := Lib.hid ((HLb2.out.below hb3).more hb3.size)
  clear hpost HL2 HLb2 HS2 HR2s HR3 hb3 hB2
  go_wp2_with fail
  refine (pledges_any _ (rounds_of HG.out hB3)).mono ?_
  rintro e w4 ⟨rfl, hb4⟩
  have hB4 := hB3.trans (hb4.mono hB3.size)
  have HR2u := Lib.hid ((HR2t.out.below hb4).more hb4.size)
  have HR3u := Lib.hid ((HR3s.out.below hb4).more hb4.size)
  have HL4 := Lib.hid ((HL3.out.below hb4).more hb4.size)
  have HLb4 := Lib.hid ((HLb3.out.below hb4).more hb4.size)
  clear HR2t HR3s HL3 HLb3 hb4 hB3
  go_wp2_with fail
  refine (texts_any R R A2 A3 R.length R.length c2 c3 _ HR2u.out HR3u.out (by have := HRl.out; omega) (by have := HRl.out; omega)).mono ?_
  rintro e w5 ⟨rfl, hb5⟩
  rw [textsB_self]
  have hB5 := hB4.trans (hb5.mono hB4.size)
  have HL5 := Lib.hid ((HL4.out.below hb5).more hb5.size)
  have HLb5 := Lib.hid ((HLb4.out.below hb5).more hb5.size)
  clear HL4 HLb4 hb5 hB4 HR2u HR3u
  go_wp2_with fail
  refine (sames_any L A' A1 m c' c1 _ HLb5.out HL5.out (by omega)).mono ?_
  rintro e w6 ⟨rfl, hb6⟩
  go_wp2_with fail
  go_ret
  exact ⟨rfl, hB5.trans (hb6.mono hB5.size)⟩
theorem pledgeall_all (S : List ByteArray) (L : List Sh) (A A' : Option Addr) (n c m c' : Nat) (w : World) (hG : Rounds w) (hS : SlR encS 1 w w.heap.size A n S) (hL : SlR encSh 2 w w.heap.size A' m L) (hn : n ≤ 140737488351232) (hm : m ≤ 140737488351232)
    (hs : ∀ s ∈ S, s.size ≤ 140737488351232) (hl : ∀ x ∈ L, x.b.size ≤ 140737488351232) :
    Calls Tryd.prog 14 #[.slice A n c, .slice A' m c'] w fun e w' => e = .returned (.bool true) ∧ Below w.heap.size w w' := by
  cases hf : farB S
  · cases hb : bigS L
    · have h1 := farB_no hf
      have h2 := (bigS_no hb).1
      rw [hS.1] at h1
      rw [hL.1] at h2
      exact pall_in S L A A' n c m c' w hG hS hL (by omega) (by omega) hs hl hf hb
    · exact pall_big S L A A' n c m c' w hS hL hn hm hf hb
  · exact pall_far S A A' n c m c' w hS hn hf
end Go.Proofs.YtkaaicmadknjcaaDoor
