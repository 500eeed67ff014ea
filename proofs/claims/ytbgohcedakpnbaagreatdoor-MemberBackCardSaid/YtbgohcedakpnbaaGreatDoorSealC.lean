/- seal: Seal, Open. -/
import Derived.Test.YtbgohcedakpnbaaGreatDoorSealA
import Derived.Test.YtbgohcedakpnbaaGreatDoorManyT
set_option linter.unusedVariables false
namespace Go.Proofs.YtbgohcedakpnbaaGreatDoor
open Go.RowKit
theorem tagB_size (key s : ByteArray) : (tagB key s).size = 16 := by
  show (tagL _ _ 16).toArray.size = 16
  rw [List.size_toArray, tagL_len]
/-- a text, and whether it is there -/
def sealF (key nonce beside s : ByteArray) : ByteArray × Int :=
  if key.size ≠ 32 ∨ nonce.size ≠ 12 then (⟨#[]⟩, 1)
  else if 4000 < beside.size ∨ 4000 < s.size then (⟨#[]⟩, 2)
  else (hideB key nonce 1 s ++ tagB (onceB key nonce) (stoldB beside (hideB key nonce 1 s)), 0)
def headB (s : ByteArray) : ByteArray := s.extract 0 (s.size - 16)
def tailB (s : ByteArray) : ByteArray := s.extract (s.size - 16) s.size
def fitsB (key nonce beside s : ByteArray) : Bool := (tagB (onceB key nonce) (stoldB beside (headB s))).toList == (tailB s).toList
def openF (key nonce beside s : ByteArray) : ByteArray × Int :=
  if key.size ≠ 32 ∨ nonce.size ≠ 12 then (⟨#[]⟩, 1)
  else if 4000 < beside.size ∨ 4016 < s.size then (⟨#[]⟩, 2)
  else if s.size < 16 ∨ fitsB key nonce beside s = false then (⟨#[]⟩, 60)
  else (hideB key nonce 1 (headB s), 0)
theorem same_dig (a b : ByteArray) (w : World) : Calls Tryz.prog 55 #[.string a, .string b] w fun e w' => e = .returned (.bool (a.toList == b.toList)) ∧ w = w' := by
  go_enter Tryz.func55, Tryz.ntmps55
  go_wp2
  go_ret
  exact ⟨rfl, rfl⟩
set_option maxRecDepth 100000 in
theorem seal_any (key nonce beside s : ByteArray) (w : World) (hG : Turns w) (hb : beside.size ≤ 140737488351232) (hs : s.size ≤ 140737488351232) :
    Calls Tryz.prog 20 #[.string key, .string nonce, .string beside, .string s] w fun e w' => e = .returned (.tuple #[.string (sealF key nonce beside s).1, .int .i64 (sealF key nonce beside s).2]) ∧ Below w.heap.size w w' := by
  by_cases h : key.size ≠ 32 ∨ nonce.size ≠ 12
  · rw [sealF, if_pos h]
    have HH := Lib.hid h
    clear h
    go_enter Tryz.func20, Tryz.ntmps20
    go_wp2_with fail
    refine (once_bad key nonce w HH.out).mono ?_
    rintro e w1 ⟨rfl, hb1⟩
    go_wp2_with fail
    all_goals go_ret2
    all_goals exact ⟨rfl, hb1⟩
  · have hkn : key.size = 32 ∧ nonce.size = 12 := by omega
    rw [sealF, if_neg h]
    have HK := Lib.hid hkn
    clear h hkn
    by_cases hl : 4000 < beside.size ∨ 4000 < s.size
    · rw [if_pos hl]
      by_cases hl1 : 4000 < beside.size
      · have t1 : decide (4000 < (beside.size : Int)) = true := by simp; omega
        clear hl
        go_enter Tryz.func20, Tryz.ntmps20
        go_wp2_with fail
        refine (once_good key nonce w HK.out.1 HK.out.2 hG).mono ?_
        rintro e w1 ⟨rfl, hb1⟩
        go_wp2_with fail
        all_goals go_ret2
        all_goals exact ⟨rfl, hb1⟩
      · have t1 : decide (4000 < (beside.size : Int)) = false := by simp; omega
        have t2 : decide (4000 < (s.size : Int)) = true := by simp; omega
        clear hl hl1
        go_enter Tryz.func20, Tryz.ntmps20
        go_wp2_with fail
        refine (once_good key nonce w HK.out.1 HK.out.2 hG).mono ?_
        rintro e w1 ⟨rfl, hb1⟩
        go_wp2_with fail
        all_goals go_ret2
        all_goals exact ⟨rfl, hb1⟩
    · rw [if_neg hl]
      have t1 : decide (4000 < (beside.size : Int)) = false := by simp; omega
      have t2 : decide (4000 < (s.size : Int)) = false := by simp; omega
      have hl1 : beside.size ≤ 4000 := by omega
      have hl2 : s.size ≤ 4000 := by omega
      clear hl
      obtain ⟨o, ho⟩ : ∃ o, onceB key nonce = o := ⟨_, rfl⟩
      have hos : o.size = 32 := by rw [← ho]; exact onceB_size HK.out.1 HK.out.2
      obtain ⟨hd, hhd⟩ : ∃ x, hideB key nonce 1 s = x := ⟨_, rfl⟩
      have hhs : hd.size ≤ 4000 := by rw [← hhd, hideB_size]; exact hl2
      obtain ⟨td, htd⟩ : ∃ x, stoldB beside hd = x := ⟨_, rfl⟩
      have hts : td.size ≤ 8200 := by rw [← htd]; have := stold_len beside hd 4000 hl1 hhs; omega
      obtain ⟨tg, htg⟩ : ∃ x, tagB o td = x := ⟨_, rfl⟩
      have HO := Lib.hid (And.intro ho hos)
      have HD := Lib.hid (And.intro hhd hhs)
      have HT := Lib.hid (And.intro htd hts)
      have htgs : tg.size ≤ 16 := by rw [← htg, tagB_size]; exact Nat.le_refl _
      have HTG := Lib.hid (And.intro htg htgs)
      rw [ho, hhd, htd, htg]
      have HG := Lib.hid hG
      clear ho hos hhd hhs htd hts htg hG htgs
      go_enter Tryz.func20, Tryz.ntmps20
      go_wp2_with fail
      refine (once_good key nonce w HK.out.1 HK.out.2 HG.out).mono ?_
      rintro e w1 ⟨rfl, hb1⟩
      rw [HO.out.1]
      go_wp2_with fail
      refine (crypt_any key nonce s 1 w1 HK.out.1 HK.out.2 hl2 (by omega) (HG.out.below hb1 HG.out.pos)).mono ?_
      rintro e w2 ⟨rfl, hb2⟩
      rw [HD.out.1]
      have hB2 := hb1.trans (hb2.mono hb1.size)
      clear hb1 hb2
      go_wp2_with fail
      refine (stold_any beside hd w2 (by omega) (by have := HD.out.2; omega)).mono ?_
      rintro e w3 ⟨rfl, hb3⟩
      rw [HT.out.1]
      have hB3 := hB2.trans (hb3.mono hB2.size)
      clear hb3 hB2
      go_wp2_with fail
      refine (tag_any o td w3 HO.out.2 HT.out.2).mono ?_
      rintro e w4 ⟨rfl, hb4⟩
      rw [HTG.out.1]
      have hB4 := hB3.trans (hb4.mono hB3.size)
      clear hb4 hB3
      have hq1 := HD.out.2
      have hq2 := HTG.out.2
      go_wp2_with fail
      all_goals go_ret2
      all_goals exact ⟨rfl, hB4⟩
set_option maxRecDepth 100000 in
theorem fits_any (o beside s : ByteArray) (w : World) (ho : o.size = 32) (hb : beside.size ≤ 4000) (hs : s.size ≤ 4016) (h16 : 16 ≤ s.size) :
    Calls Tryz.prog 38 #[.string o, .string beside, .string s] w fun e w' => e = .returned (.bool ((tagB o (stoldB beside (headB s))).toList == (tailB s).toList)) ∧ Below w.heap.size w w' := by
  obtain ⟨at_, hat⟩ : ∃ a, s.size - 16 = a := ⟨_, rfl⟩
  have hai : (s.size : Int) - 16 = (at_ : Int) := by omega
  have ha2 : at_ ≤ s.size := by omega
  have ha3 : (at_ : Int) ≤ (s.size : Int) := by omega
  have ha0 : (0 : Int) ≤ (at_ : Int) := by omega
  obtain ⟨hd, hhd⟩ : ∃ x, s.extract 0 at_ = x := ⟨_, rfl⟩
  obtain ⟨tl, htl⟩ : ∃ x, s.extract at_ s.size = x := ⟨_, rfl⟩
  have hhs : hd.size ≤ 4000 := by rw [← hhd]; simp; omega
  obtain ⟨td, htd⟩ : ∃ x, stoldB beside hd = x := ⟨_, rfl⟩
  have hts : td.size ≤ 8200 := by rw [← htd]; have := stold_len beside hd 4000 hb hhs; omega
  obtain ⟨tg, htg⟩ : ∃ x, tagB o td = x := ⟨_, rfl⟩
  have hr : ((tagB o (stoldB beside (headB s))).toList == (tailB s).toList) = (tg.toList == tl.toList) := by rw [headB, tailB, hat, hhd, htl, htd, htg]
  rw [hr]
  have HD := Lib.hid (And.intro hhd hhs)
  have HTL := Lib.hid (And.intro htl hat)
  have HT := Lib.hid (And.intro htd hts)
  have HTG := Lib.hid (And.intro htg hr)
  clear hhd hhs htl hat htd hts htg hr
  go_enter Tryz.func38, Tryz.ntmps38
  go_wp2_with fail
  rw [HD.out.1]
  refine (stold_any beside hd w (by omega) (by have := HD.out.2; omega)).mono ?_
  rintro e w3 ⟨rfl, hb3⟩
  rw [HT.out.1]
  go_wp2_with fail
  refine (tag_any o td w3 ho HT.out.2).mono ?_
  rintro e w4 ⟨rfl, hb4⟩
  rw [HTG.out.1]
  have hB4 := hb3.trans (hb4.mono hb3.size)
  clear hb4 hb3
  go_wp2_with fail
  rw [HTL.out.1]
  refine (same_dig tg tl w4).mono ?_
  rintro e w5 ⟨rfl, rfl⟩
  go_wp2_with fail
  go_ret
  exact ⟨rfl, hB4⟩
set_option maxRecDepth 100000 in
theorem open_any (key nonce beside s : ByteArray) (w : World) (hG : Turns w) (hb : beside.size ≤ 140737488351232) (hs : s.size ≤ 140737488351232) :
    Calls Tryz.prog 21 #[.string key, .string nonce, .string beside, .string s] w fun e w' => e = .returned (.tuple #[.string (openF key nonce beside s).1, .int .i64 (openF key nonce beside s).2]) ∧ Below w.heap.size w w' := by
  by_cases h : key.size ≠ 32 ∨ nonce.size ≠ 12
  · rw [openF, if_pos h]
    have HH := Lib.hid h
    clear h
    go_enter Tryz.func21, Tryz.ntmps21
    go_wp2_with fail
    refine (once_bad key nonce w HH.out).mono ?_
    rintro e w1 ⟨rfl, hb1⟩
    go_wp2_with fail
    all_goals go_ret2
    all_goals exact ⟨rfl, hb1⟩
  · have hkn : key.size = 32 ∧ nonce.size = 12 := by omega
    rw [openF, if_neg h]
    have HK := Lib.hid hkn
    have HG := Lib.hid hG
    clear h hkn hG
    by_cases hl : 4000 < beside.size ∨ 4016 < s.size
    · rw [if_pos hl]
      by_cases hl1 : 4000 < beside.size
      · have t1 : decide (4000 < (beside.size : Int)) = true := by simp; omega
        clear hl
        go_enter Tryz.func21, Tryz.ntmps21
        go_wp2_with fail
        refine (once_good key nonce w HK.out.1 HK.out.2 HG.out).mono ?_
        rintro e w1 ⟨rfl, hb1⟩
        go_wp2_with fail
        all_goals go_ret2
        all_goals exact ⟨rfl, hb1⟩
      · have t1 : decide (4000 < (beside.size : Int)) = false := by simp; omega
        have t2 : decide (4016 < (s.size : Int)) = true := by simp; omega
        clear hl hl1
        go_enter Tryz.func21, Tryz.ntmps21
        go_wp2_with fail
        refine (once_good key nonce w HK.out.1 HK.out.2 HG.out).mono ?_
        rintro e w1 ⟨rfl, hb1⟩
        go_wp2_with fail
        all_goals go_ret2
        all_goals exact ⟨rfl, hb1⟩
    · rw [if_neg hl]
      have t1 : decide (4000 < (beside.size : Int)) = false := by simp; omega
      have t2 : decide (4016 < (s.size : Int)) = false := by simp; omega
      have hl1 : beside.size ≤ 4000 := by omega
      have hl2 : s.size ≤ 4016 := by omega
      clear hl
      by_cases h16 : s.size < 16
      · rw [if_pos (.inl h16)]
        have t3 : decide ((s.size : Int) < 16) = true := by simp; omega
        go_enter Tryz.func21, Tryz.ntmps21
        go_wp2_with fail
        refine (once_good key nonce w HK.out.1 HK.out.2 HG.out).mono ?_
        rintro e w1 ⟨rfl, hb1⟩
        go_wp2_with fail
        all_goals go_ret2
        all_goals exact ⟨rfl, hb1⟩
      · have t3 : decide ((s.size : Int) < 16) = false := by simp; omega
        obtain ⟨o, ho⟩ : ∃ o, onceB key nonce = o := ⟨_, rfl⟩
        have hos : o.size = 32 := by rw [← ho]; exact onceB_size HK.out.1 HK.out.2
        obtain ⟨F, hF⟩ : ∃ F, fitsB key nonce beside s = F := ⟨_, rfl⟩
        have hF2 : ((tagB o (stoldB beside (headB s))).toList == (tailB s).toList) = F := by rw [← hF, fitsB, ho]
        have HO := Lib.hid (And.intro ho (And.intro hos hF2))
        rw [hF]
        have h16' : 16 ≤ s.size := by omega
        clear ho hos hF hF2
        cases F with
        | false =>
          rw [if_pos (.inr rfl)]
          go_enter Tryz.func21, Tryz.ntmps21
          go_wp2_with fail
          refine (once_good key nonce w HK.out.1 HK.out.2 HG.out).mono ?_
          rintro e w1 ⟨rfl, hb1⟩
          rw [HO.out.1]
          go_wp2_with fail
          refine (fits_any o beside s w1 HO.out.2.1 hl1 hl2 h16').mono ?_
          rintro e w2 ⟨rfl, hb2⟩
          rw [HO.out.2.2]
          have hB2 := hb1.trans (hb2.mono hb1.size)
          go_wp2_with fail
          all_goals go_ret2
          all_goals exact ⟨rfl, hB2⟩
        | true =>
          rw [if_neg (by simp; omega)]
          obtain ⟨at_, hat⟩ : ∃ a, s.size - 16 = a := ⟨_, rfl⟩
          have hai : (s.size : Int) - 16 = (at_ : Int) := by omega
          have ha3 : (at_ : Int) ≤ (s.size : Int) := by omega
          have ha0 : (0 : Int) ≤ (at_ : Int) := by omega
          obtain ⟨hd, hhd⟩ : ∃ x, headB s = x := ⟨_, rfl⟩
          have hhd2 : s.extract 0 at_ = hd := by rw [← hhd, headB, hat]
          have hhs : hd.size ≤ 4000 := by rw [← hhd2]; simp; omega
          have HD := Lib.hid (And.intro hhd2 hhs)
          rw [hhd]
          clear hat hhd hhd2 hhs
          go_enter Tryz.func21, Tryz.ntmps21
          go_wp2_with fail
          refine (once_good key nonce w HK.out.1 HK.out.2 HG.out).mono ?_
          rintro e w1 ⟨rfl, hb1⟩
          rw [HO.out.1]
          go_wp2_with fail
          refine (fits_any o beside s w1 HO.out.2.1 hl1 hl2 h16').mono ?_
          rintro e w2 ⟨rfl, hb2⟩
          rw [HO.out.2.2]
          have hB2 := hb1.trans (hb2.mono hb1.size)
          clear hb1 hb2
          go_wp2_with fail
          rw [HD.out.1]
          refine (crypt_any key nonce hd 1 w2 HK.out.1 HK.out.2 HD.out.2 (by omega) (HG.out.below hB2 HG.out.pos)).mono ?_
          rintro e w3 ⟨rfl, hb3⟩
          have hB3 := hB2.trans (hb3.mono hB2.size)
          go_wp2_with fail
          all_goals go_ret2
          all_goals exact ⟨rfl, hB3⟩
end Go.Proofs.YtbgohcedakpnbaaGreatDoor
/- Chapter 6: what is sealed is opened (plain); the chapter's rows. -/
namespace Go.Proofs.YtbgohcedakpnbaaGreatDoor
open Go.RowKit
theorem ba_eq {a b : ByteArray} (h : a.data = b.data) : a = b := by cases a; cases b; simp_all
theorem front_append (a b : ByteArray) : (a ++ b).extract 0 a.size = a := ba_eq (by
  rw [ByteArray.data_extract, ByteArray.data_append]
  show (a.data ++ b.data).extract 0 a.data.size = a.data
  simp)
theorem back_append (a b : ByteArray) : (a ++ b).extract a.size (a ++ b).size = b := ba_eq (by
  have h : (a ++ b).size = (a.data ++ b.data).size := by rw [← ByteArray.data_append]; rfl
  rw [h, ByteArray.data_extract, ByteArray.data_append]
  show (a.data ++ b.data).extract a.data.size (a.data ++ b.data).size = b.data
  rw [Array.extract_append, Array.extract_empty_of_size_le_start (Nat.le_refl _)]
  simp)
theorem two_parts (s : ByteArray) (k : Nat) (h : k ≤ s.size) : s.extract 0 k ++ s.extract k s.size = s := ba_eq (by
  rw [ByteArray.data_append, ByteArray.data_extract, ByteArray.data_extract]
  show s.data.extract 0 k ++ s.data.extract k s.data.size = s.data
  simp
  exact .inr (by omega))
theorem seal_ok {key nonce beside s a : ByteArray} (h : sealF key nonce beside s = (a, 0)) : key.size = 32 ∧ nonce.size = 12 ∧ beside.size ≤ 4000 ∧ s.size ≤ 4000 ∧ a = hideB key nonce 1 s ++ tagB (onceB key nonce) (stoldB beside (hideB key nonce 1 s)) := by
  unfold sealF at h
  by_cases h1 : key.size ≠ 32 ∨ nonce.size ≠ 12
  · rw [if_pos h1] at h; exact absurd (Prod.mk.inj h).2 (by decide)
  · rw [if_neg h1] at h
    by_cases h2 : 4000 < beside.size ∨ 4000 < s.size
    · rw [if_pos h2] at h; exact absurd (Prod.mk.inj h).2 (by decide)
    · rw [if_neg h2] at h
      exact ⟨by omega, by omega, by omega, by omega, ((Prod.mk.inj h).1).symm⟩
theorem seal_no {key nonce beside s a : ByteArray} {e : Int} (h : sealF key nonce beside s = (a, e)) (he : e ≠ 0) : a = ⟨#[]⟩ := by
  unfold sealF at h
  split at h
  · exact ((Prod.mk.inj h).1).symm
  · split at h
    · exact ((Prod.mk.inj h).1).symm
    · exact absurd ((Prod.mk.inj h).2).symm he
theorem open_no {key nonce beside s a : ByteArray} {e : Int} (h : openF key nonce beside s = (a, e)) (he : e ≠ 0) : a = ⟨#[]⟩ := by
  unfold openF at h
  split at h
  · exact ((Prod.mk.inj h).1).symm
  · split at h
    · exact ((Prod.mk.inj h).1).symm
    · split at h
      · exact ((Prod.mk.inj h).1).symm
      · exact absurd ((Prod.mk.inj h).2).symm he
theorem open_ok {key nonce beside s a : ByteArray} (h : openF key nonce beside s = (a, 0)) : key.size = 32 ∧ nonce.size = 12 ∧ beside.size ≤ 4000 ∧ s.size ≤ 4016 ∧ 16 ≤ s.size ∧ fitsB key nonce beside s = true ∧ a = hideB key nonce 1 (headB s) := by
  unfold openF at h
  by_cases h1 : key.size ≠ 32 ∨ nonce.size ≠ 12
  · rw [if_pos h1] at h; exact absurd (Prod.mk.inj h).2 (by decide)
  · rw [if_neg h1] at h
    by_cases h2 : 4000 < beside.size ∨ 4016 < s.size
    · rw [if_pos h2] at h; exact absurd (Prod.mk.inj h).2 (by decide)
    · rw [if_neg h2] at h
      by_cases h3 : s.size < 16 ∨ fitsB key nonce beside s = false
      · rw [if_pos h3] at h; exact absurd (Prod.mk.inj h).2 (by decide)
      · rw [if_neg h3] at h
        refine ⟨by omega, by omega, by omega, by omega, by omega, ?_, ((Prod.mk.inj h).1).symm⟩
        cases hf : fitsB key nonce beside s with
        | true => rfl
        | false => exact absurd (.inr hf) h3
theorem sealed_parts (h t : ByteArray) (ht : t.size = 16) : headB (h ++ t) = h ∧ tailB (h ++ t) = t ∧ (h ++ t).size = h.size + 16 := by
  have hs : (h ++ t).size = h.size + 16 := by rw [ByteArray.size_append, ht]
  have h1 : (h ++ t).size - 16 = h.size := by omega
  exact ⟨by rw [headB, h1]; exact front_append h t, by rw [tailB, h1]; exact back_append h t, hs⟩
theorem seal_size {key nonce beside s a : ByteArray} (h : sealF key nonce beside s = (a, 0)) : a.size = s.size + 16 := by
  obtain ⟨_, _, _, _, rfl⟩ := seal_ok h
  rw [(sealed_parts _ _ (tagB_size _ _)).2.2, hideB_size]
/-- what is sealed is opened as it was -/
theorem seal_open {key nonce beside s a : ByteArray} (h : sealF key nonce beside s = (a, 0)) : openF key nonce beside a = (s, 0) := by
  have hs := seal_size h
  obtain ⟨hk, hn, hb, hl, rfl⟩ := seal_ok h
  obtain ⟨p1, p2, p3⟩ := sealed_parts (hideB key nonce 1 s) (tagB (onceB key nonce) (stoldB beside (hideB key nonce 1 s))) (tagB_size _ _)
  unfold openF
  rw [if_neg (by omega), if_neg (by omega), if_neg]
  · rw [p1, hide_hide]
  · rintro (h | h)
    · omega
    · rw [fitsB, p1, p2] at h
      simp at h
/-- what is opened is sealed as the same bytes -/
theorem open_seal {key nonce beside x c : ByteArray} (h : openF key nonce beside x = (c, 0)) : sealF key nonce beside c = (x, 0) := by
  obtain ⟨hk, hn, hb, hl, h16, hf, rfl⟩ := open_ok h
  have hh : (headB x).size = x.size - 16 := by simp [headB]
  unfold sealF
  rw [if_neg (by omega), if_neg (by rw [hideB_size]; omega), hide_hide]
  have ht : tagB (onceB key nonce) (stoldB beside (headB x)) = tailB x := bytes_ext (by unfold fitsB at hf; exact eq_of_beq hf)
  rw [ht]
  have := two_parts x (x.size - 16) (by omega)
  rw [headB, tailB, this]
theorem open_short {key nonce beside x : ByteArray} (hk : key.size = 32) (hn : nonce.size = 12) (hb : beside.size ≤ 4000) (hx : x.size < 16) : openF key nonce beside x = (⟨#[]⟩, 60) := by
  unfold openF
  rw [if_neg (by omega), if_neg (by omega), if_pos (.inl hx)]
def kX : ByteArray := tmanyB 1 32
def nX : ByteArray := tmanyB 2 12
theorem far_open : (openF kX nX ⟨#[121]⟩ (sealF kX nX ⟨#[120]⟩ ⟨#[97, 98, 99]⟩).1).2 = 60 := by decide +kernel
theorem stold_x : (stoldB ⟨#[97]⟩ ⟨#[]⟩).size = 32 := by decide +kernel
end Go.Proofs.YtbgohcedakpnbaaGreatDoor
