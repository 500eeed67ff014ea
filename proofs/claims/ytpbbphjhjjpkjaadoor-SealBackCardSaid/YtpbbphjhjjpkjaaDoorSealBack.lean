/- SealBack, for every input: the walk. -/
import Derived.Test.YtpbbphjhjjpkjaaDoorSealD
set_option linter.unusedVariables false
namespace Go.Proofs.YtpbbphjhjjpkjaaDoor
open Go.RowKit
theorem eq_list (a : ByteArray) : (a.toList == a.toList) = true := by simp
set_option maxRecDepth 100000 in
set_option maxHeartbeats 2000000 in
theorem sback_far (key nonce beside s x : ByteArray) (w : World) (h1 : key.size ≤ 140737488351232) (h2 : nonce.size ≤ 140737488351232) (h3 : beside.size ≤ 140737488351232) (h4 : s.size ≤ 140737488351232) (h5 : x.size ≤ 140737488351232)
    (h : 100 < key.size ∨ 100 < nonce.size ∨ 9000 < beside.size + s.size + x.size) :
    Calls Tryd.prog 3 #[.string key, .string nonce, .string beside, .string s, .string x] w fun e w' => e = .returned (.bool true) ∧ Below w.heap.size w w' := by
  by_cases c1 : 100 < key.size
  · have t1 : decide (100 < (key.size : Int)) = true := by simp; omega
    clear h
    go_enter Tryd.func3, Tryd.ntmps3
    go_wp2_with fail
    go_ret
    exact ⟨rfl, Below.refl _ _⟩
  · have t1 : decide (100 < (key.size : Int)) = false := by simp; omega
    by_cases c2 : 100 < nonce.size
    · have t2 : decide (100 < (nonce.size : Int)) = true := by simp; omega
      clear h
      go_enter Tryd.func3, Tryd.ntmps3
      go_wp2_with fail
      go_ret
      exact ⟨rfl, Below.refl _ _⟩
    · have t2 : decide (100 < (nonce.size : Int)) = false := by simp; omega
      have t3 : decide (9000 < (beside.size : Int) + (s.size : Int) + (x.size : Int)) = true := by simp; omega
      clear h
      go_enter Tryd.func3, Tryd.ntmps3
      go_wp2_with fail
      go_ret
      exact ⟨rfl, Below.refl _ _⟩
set_option maxRecDepth 100000 in
set_option maxHeartbeats 2000000 in
theorem sback_main (key nonce beside s x : ByteArray) (w : World) (hG : Turns w) (h1 : key.size ≤ 100) (h2 : nonce.size ≤ 100) (h3 : beside.size + s.size + x.size ≤ 9000) :
    Calls Tryd.prog 3 #[.string key, .string nonce, .string beside, .string s, .string x] w fun e w' => e = .returned (.bool true) ∧ Below w.heap.size w w' := by
  obtain ⟨a, e, hA⟩ : ∃ a e, sealF key nonce beside s = (a, e) := ⟨_, _, rfl⟩
  obtain ⟨b, f, hB⟩ : ∃ b f, openF key nonce beside a = (b, f) := ⟨_, _, rfl⟩
  obtain ⟨c, g, hC⟩ : ∃ c g, openF key nonce beside x = (c, g) := ⟨_, _, rfl⟩
  obtain ⟨d, k, hD⟩ : ∃ d k, sealF key nonce beside c = (d, k) := ⟨_, _, rfl⟩
  have hal : a.size ≤ 20000 := by
    by_cases he : e = 0
    · subst he; rw [seal_size hA]; omega
    · rw [seal_no hA he]; decide
  have hcl : c.size ≤ 20000 := by
    by_cases hg : g = 0
    · subst hg
      obtain ⟨_, _, _, h, h', _, rfl⟩ := open_ok hC
      rw [hideB_size]; simp [headB]; omega
    · rw [open_no hC hg]; decide
  have hgood : e = 0 → f = 0 ∧ b = s ∧ a.size = s.size + 16 := by
    intro he
    subst he
    have := seal_open hA
    rw [hB] at this
    exact ⟨(Prod.mk.inj this).2, (Prod.mk.inj this).1, seal_size hA⟩
  have hback : g = 0 → k = 0 ∧ d = x := by
    intro hg
    subst hg
    have := open_seal hC
    rw [hD] at this
    exact ⟨(Prod.mk.inj this).2, (Prod.mk.inj this).1⟩
  have hnone : g ≠ 0 → c = ⟨#[]⟩ := open_no hC
  have t1 : decide (100 < (key.size : Int)) = false := by simp; omega
  have t2 : decide (100 < (nonce.size : Int)) = false := by simp; omega
  have t3 : decide (9000 < (beside.size : Int) + (s.size : Int) + (x.size : Int)) = false := by simp; omega
  have HA := Lib.hid hA
  have HB := Lib.hid hB
  have HC := Lib.hid hC
  have HD := Lib.hid hD
  have HG := Lib.hid hG
  have HN := Lib.hid hnone
  have HK := Lib.hid hback
  have hl3 : beside.size ≤ 9000 := by omega
  have hl4 : s.size ≤ 9000 := by omega
  have hl5 : x.size ≤ 9000 := by omega
  have HGo := Lib.hid hgood
  clear hA hB hC hD hG hnone hback hgood
  go_enter Tryd.func3, Tryd.ntmps3
  go_wp2_with fail
  refine (seal_any key nonce beside s w HG.out (by omega) (by omega)).mono ?_
  rintro r w1 ⟨rfl, hb1⟩
  rw [HA.out]
  dsimp only
  go_wp2_with fail
  refine (open_any key nonce beside a w1 (HG.out.below hb1 HG.out.pos) (by omega) (by omega)).mono ?_
  rintro r w2 ⟨rfl, hb2⟩
  rw [HB.out]
  have hB2 := hb1.trans (hb2.mono hb1.size)
  clear hb1 hb2
  dsimp only
  have hcase : ((e == 0) = true ∧ (f != 0) = false ∧ (b.toList == s.toList) = true ∧ ((a.size : Int) != (s.size : Int) + 16) = false) ∨ ((e == 0) = false ∧ True ∧ True ∧ True) := by
    by_cases he : e = 0
    · obtain ⟨rfl, rfl, has⟩ := HGo.out he
      exact .inl ⟨by simp [he], rfl, eq_list _, by simp; omega⟩
    · exact .inr ⟨by simp [he], trivial, trivial, trivial⟩
  clear HGo
  rcases hcase with ⟨te, tf, tb, ta⟩ | ⟨te, tf, tb, ta⟩
  all_goals
    go_wp2_with fail
    refine (open_any key nonce beside x w2 (HG.out.below hB2 HG.out.pos) (by omega) (by omega)).mono ?_
    rintro r w3 ⟨rfl, hb3⟩
    rw [HC.out]
    have hB3 := hB2.trans (hb3.mono hB2.size)
    dsimp only
    by_cases hg : g = 0
    · have tg : (g != 0) = false := by simp [hg]
      obtain ⟨hk0, hdx⟩ := HK.out hg
      go_wp2_with fail
      refine (seal_any key nonce beside c w3 (HG.out.below hB3 HG.out.pos) (by omega) (by omega)).mono ?_
      rintro r w4 ⟨rfl, hb4⟩
      rw [HD.out]
      have hB4 := hB3.trans (hb4.mono hB3.size)
      dsimp only
      rw [hk0, hdx]
      have tx := eq_list x
      clear hk0 hdx
      go_wp2_with fail
      refine (seals_any w4 (HG.out.below hB4 HG.out.pos)).mono ?_
      rintro r w5 ⟨rfl, hb5⟩
      have hB5 := hB4.trans (hb5.mono hB4.size)
      go_wp2_with fail
      go_ret
      exact ⟨rfl, hB5⟩
    · have tg : (g != 0) = true := by simp [hg]
      rw [HN.out hg]
      go_wp2_with fail
      refine (seals_any w3 (HG.out.below hB3 HG.out.pos)).mono ?_
      rintro r w5 ⟨rfl, hb5⟩
      have hB5 := hB3.trans (hb5.mono hB3.size)
      have te := eq_list ⟨#[]⟩
      go_wp2_with fail
      go_ret
      exact ⟨rfl, hB5⟩
theorem sback_any (key nonce beside s x : ByteArray) (w : World) (hG : Turns w) (h1 : key.size ≤ 140737488351232) (h2 : nonce.size ≤ 140737488351232) (h3 : beside.size ≤ 140737488351232) (h4 : s.size ≤ 140737488351232) (h5 : x.size ≤ 140737488351232) :
    Calls Tryd.prog 3 #[.string key, .string nonce, .string beside, .string s, .string x] w fun e w' => e = .returned (.bool true) ∧ Below w.heap.size w w' := by
  by_cases h : 100 < key.size ∨ 100 < nonce.size ∨ 9000 < beside.size + s.size + x.size
  · exact sback_far key nonce beside s x w h1 h2 h3 h4 h5 h
  · exact sback_main key nonce beside s x w hG (by omega) (by omega) (by omega)
end Go.Proofs.YtpbbphjhjjpkjaaDoor
