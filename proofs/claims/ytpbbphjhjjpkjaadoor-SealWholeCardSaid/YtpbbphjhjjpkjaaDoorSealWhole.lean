/- SealWhole, for every input: the walk. -/
import Derived.Test.YtpbbphjhjjpkjaaDoorSealD
set_option linter.unusedVariables false
namespace Go.Proofs.YtpbbphjhjjpkjaaDoor
open Go.RowKit
set_option maxRecDepth 100000 in
set_option maxHeartbeats 2000000 in
theorem swhole_far (key nonce beside s : ByteArray) (w : World) (h1 : key.size ≤ 140737488351232) (h2 : nonce.size ≤ 140737488351232) (h3 : beside.size ≤ 140737488351232) (h4 : s.size ≤ 140737488351232)
    (h : 100 < key.size ∨ 100 < nonce.size ∨ 5000 < beside.size + s.size) :
    Calls Tryd.prog 5 #[.string key, .string nonce, .string beside, .string s] w fun e w' => e = .returned (.bool true) ∧ Below w.heap.size w w' := by
  by_cases c1 : 100 < key.size
  · have t1 : decide (100 < (key.size : Int)) = true := by simp; omega
    clear h
    go_enter Tryd.func5, Tryd.ntmps5
    go_wp2_with fail
    go_ret
    exact ⟨rfl, Below.refl _ _⟩
  · have t1 : decide (100 < (key.size : Int)) = false := by simp; omega
    by_cases c2 : 100 < nonce.size
    · have t2 : decide (100 < (nonce.size : Int)) = true := by simp; omega
      clear h
      go_enter Tryd.func5, Tryd.ntmps5
      go_wp2_with fail
      go_ret
      exact ⟨rfl, Below.refl _ _⟩
    · have t2 : decide (100 < (nonce.size : Int)) = false := by simp; omega
      have t3 : decide (5000 < (beside.size : Int) + (s.size : Int)) = true := by simp; omega
      clear h
      go_enter Tryd.func5, Tryd.ntmps5
      go_wp2_with fail
      go_ret
      exact ⟨rfl, Below.refl _ _⟩
theorem eq_list2 (a : ByteArray) : (a.toList == a.toList) = true := by simp
set_option maxRecDepth 100000 in
set_option maxHeartbeats 2000000 in
theorem swhole_main (key nonce beside s : ByteArray) (w : World) (hG : Turns w) (h1 : key.size ≤ 100) (h2 : nonce.size ≤ 100) (h3 : beside.size + s.size ≤ 5000) :
    Calls Tryd.prog 5 #[.string key, .string nonce, .string beside, .string s] w fun e w' => e = .returned (.bool true) ∧ Below w.heap.size w w' := by
  obtain ⟨a, e, hA⟩ : ∃ a e, sealF key nonce beside s = (a, e) := ⟨_, _, rfl⟩
  have t1 : decide (100 < (key.size : Int)) = false := by simp; omega
  have t2 : decide (100 < (nonce.size : Int)) = false := by simp; omega
  have t3 : decide (5000 < (beside.size : Int) + (s.size : Int)) = false := by simp; omega
  have HA := Lib.hid hA
  have HG := Lib.hid hG
  have hl3 : beside.size ≤ 5000 := by omega
  have hl4 : s.size ≤ 5000 := by omega
  clear hA hG
  go_enter Tryd.func5, Tryd.ntmps5
  go_wp2_with fail
  refine (seal_any key nonce beside s w HG.out (by omega) (by omega)).mono ?_
  rintro r w1 ⟨rfl, hb1⟩
  rw [HA.out]
  dsimp only
  by_cases he : e = 0
  · subst he
    obtain ⟨hk, hn, hb, hs, ha⟩ := seal_ok HA.out
    obtain ⟨o, ho⟩ : ∃ o, onceB key nonce = o := ⟨_, rfl⟩
    have hos : o.size = 32 := by rw [← ho]; exact onceB_size hk hn
    obtain ⟨hd, hhd⟩ : ∃ x, hideB key nonce 1 s = x := ⟨_, rfl⟩
    have hhs : hd.size ≤ 4000 := by rw [← hhd, hideB_size]; exact hs
    obtain ⟨td, htd⟩ : ∃ x, toldB beside hd = x := ⟨_, rfl⟩
    have hts : td.size ≤ 8200 := by rw [← htd]; have := toldB_len beside hd 4000 hb hhs; omega
    obtain ⟨tg, htg⟩ : ∃ x, tagB o td = x := ⟨_, rfl⟩
    have htgs : tg.size ≤ 16 := by rw [← htg, tagB_size]; exact Nat.le_refl _
    rw [ho, hhd, htd, htg] at ha
    have HK := Lib.hid (And.intro hk hn)
    have HO := Lib.hid (And.intro ho hos)
    have HD := Lib.hid (And.intro hhd hhs)
    have HT := Lib.hid (And.intro htd hts)
    have HTG := Lib.hid (And.intro htg htgs)
    rw [ha]
    have te := eq_list2 (hd ++ tg)
    clear hk hn ha ho hos hhd hhs htd hts htg htgs HA
    go_wp2_with fail
    refine (crypt_any key nonce s 1 w1 HK.out.1 HK.out.2 hs (by omega) (HG.out.below hb1 HG.out.pos)).mono ?_
    rintro r w2 ⟨rfl, hb2⟩
    rw [HD.out.1]
    have hB2 := hb1.trans (hb2.mono hb1.size)
    clear hb1 hb2
    go_wp2_with fail
    refine (once_good key nonce w2 HK.out.1 HK.out.2 (HG.out.below hB2 HG.out.pos)).mono ?_
    rintro r w3 ⟨rfl, hb3⟩
    rw [HO.out.1]
    have hB3 := hB2.trans (hb3.mono hB2.size)
    clear hB2 hb3
    go_wp2_with fail
    refine (told_any beside hd w3 (by omega) (by have := HD.out.2; omega)).mono ?_
    rintro r w4 ⟨rfl, hb4⟩
    rw [HT.out.1]
    have hB4 := hB3.trans (hb4.mono hB3.size)
    clear hb4 hB3
    go_wp2_with fail
    refine (tag_any o td w4 HO.out.2 HT.out.2).mono ?_
    rintro r w5 ⟨rfl, hb5⟩
    rw [HTG.out.1]
    have hB5 := hB4.trans (hb5.mono hB4.size)
    clear hb5 hB4
    go_wp2_with fail
    refine (seals_any w5 (HG.out.below hB5 HG.out.pos)).mono ?_
    rintro r w6 ⟨rfl, hb6⟩
    have hB6 := hB5.trans (hb6.mono hB5.size)
    have hq1 := HD.out.2
    have hq2 := HTG.out.2
    go_wp2_with fail
    go_ret
    exact ⟨rfl, hB6⟩
  · have te : (e != 0) = true := by simp [he]
    rw [seal_no HA.out he]
    go_wp2_with fail
    refine (seals_any w1 (HG.out.below hb1 HG.out.pos)).mono ?_
    rintro r w5 ⟨rfl, hb5⟩
    have hB5 := hb1.trans (hb5.mono hb1.size)
    have te := eq_list2 ⟨#[]⟩
    go_wp2_with fail
    go_ret
    exact ⟨rfl, hB5⟩
theorem swhole_any (key nonce beside s : ByteArray) (w : World) (hG : Turns w) (h1 : key.size ≤ 140737488351232) (h2 : nonce.size ≤ 140737488351232) (h3 : beside.size ≤ 140737488351232) (h4 : s.size ≤ 140737488351232) :
    Calls Tryd.prog 5 #[.string key, .string nonce, .string beside, .string s] w fun e w' => e = .returned (.bool true) ∧ Below w.heap.size w w' := by
  by_cases h : 100 < key.size ∨ 100 < nonce.size ∨ 5000 < beside.size + s.size
  · exact swhole_far key nonce beside s w h1 h2 h3 h4 h
  · exact swhole_main key nonce beside s w hG (by omega) (by omega) (by omega)
end Go.Proofs.YtpbbphjhjjpkjaaDoor
