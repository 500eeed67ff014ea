/- the walk of TreeTold. -/
import Derived.Test.YtkaaicmadknjcaaDoorTreY
import Derived.Test.YtkaaicmadknjcaaDoorTreR
import Derived.Test.YtkaaicmadknjcaaDoorTreU
set_option linter.unusedVariables false
set_option linter.unusedSimpArgs false
namespace Go.Proofs.YtkaaicmadknjcaaDoor
open Go.RowKit
theorem pathE_cases (l : List ByteArray) (i : Int) (h : mayB l.length = true) : (pathE l i = 0 ∧ ∃ k : Nat, i = k ∧ k < l.length ∧ pathV l i = pathB l k (hgt l.length)) ∨ pathE l i = 1 := by
  cases hk : pathOk l i
  · exact .inr (by simp [pathE, hk])
  · obtain ⟨_, k, rfl, h2⟩ := path_yes hk
    exact .inl ⟨by simp [pathE, hk], k, rfl, h2, by simp [pathV, hk]⟩
set_option maxRecDepth 100000 in
set_option maxHeartbeats 4000000 in
theorem ttold_in (l : List ByteArray) (i : Int) (s : ByteArray) (path : List ByteArray) (A A' : Option Addr) (n c m c' : Nat) (w : World) (hG : Rounds w) (hL : SlR encS 1 w w.heap.size A n l) (hP : SlR encS 1 w w.heap.size A' m path)
    (hn : n ≤ 64) (hm : m ≤ 1100) (hls : ∀ x ∈ l, x.size ≤ 140737488351232) (hs : s.size ≤ 300) (hp : ∀ p ∈ path, p.size ≤ 200) (hbp : bigT path = false) (hbl : bigT l = false ∨ (bigT l = true ∧ 16 < n)) :
    Calls Tryd.prog 20 #[.slice A n c, .int .i64 i, .string s, .slice A' m c'] w fun e w' => e = .returned (.bool true) ∧ Below w.heap.size w w' := by
  have HL := Lib.hid hL
  have HP := Lib.hid hP
  have HG := Lib.hid hG
  have HBl := Lib.hid (bigt_any l A n c w hL (by omega))
  have HBp := Lib.hid (bigt_any path A' m c' w hP (by omega))
  rw [hbp] at HBp
  obtain ⟨V, hV⟩ : ∃ v, rootV l = v := ⟨_, rfl⟩
  obtain ⟨E, hE⟩ : ∃ v, rootE l = v := ⟨_, rfl⟩
  obtain ⟨P, hPv⟩ : ∃ v, pathV l i = v := ⟨_, rfl⟩
  obtain ⟨F, hF⟩ : ∃ v, pathE l i = v := ⟨_, rfl⟩
  have hPl : P.length ≤ 10 := by rw [← hPv]; exact pathV_len l i
  have HPP : Hid (∀ w e w', PathPost l i w e w' → Below w.heap.size w w' ∧ ∃ A c, e = .returned (.tuple #[.slice A P.length c, .int .i64 F])) := Lib.hid (fun w e w' h => by
    unfold PathPost at h
    rw [hPv, hF] at h
    obtain ⟨h1, A, c, h2, _⟩ := h
    exact ⟨h1, A, c, h2⟩)
  have HR : Hid (∀ (W : World), Rounds W → SlR encS 1 W W.heap.size A n l → Calls Tryd.prog 60 #[.slice A n c] W fun e w' => e = .returned (.tuple #[.string V, .int .i64 E]) ∧ Below W.heap.size W w') := Lib.hid (fun W h1 h2 => by rw [← hV, ← hE]; exact troot_any l A n c W h1 h2 (by omega) hls)
  have HPa := Lib.hid (fun W (h1 : Rounds W) (h2 : SlR encS 1 W W.heap.size A n l) => tpath_any l A n c i W h1 h2 (by omega) hls)
  have HTr := Lib.hid (fun W (h1 : Rounds W) (h2 : SlR encS 1 W W.heap.size A n l) (h3 : SlR encS 1 W W.heap.size A' m path) => ttrace_any l i s path A A' n c m c' W h1 h2 h3 (by omega) (by omega) hls (by omega) hp)
  obtain ⟨K, hK⟩ : ∃ v, checkV V i s path = v := ⟨_, rfl⟩
  have HCk : Hid (∀ (W : World), Rounds W → SlR encS 1 W W.heap.size A' m path → Calls Tryd.prog 71 #[.string V, .int .i64 i, .string s, .slice A' m c'] W fun e w' => e = .returned (.bool K) ∧ Below W.heap.size W w') := Lib.hid (fun W h1 h2 => by rw [← hK]; exact tcheck_any V i s path A' m c' W h1 h2 (by omega) (by omega))
  have HE : Hid ((E = 0 ∧ mayB n = true) ∨ E = 1) := Lib.hid (by
    rw [← hE]
    unfold rootE
    rw [hL.1]
    split
    · rename_i h; exact .inl ⟨rfl, h⟩
    · exact .inr rfl)
  have HF : Hid (mayB n = true → (F = 0 ∧ ∃ k : Nat, i = k ∧ k < n ∧ P.length = hgt n) ∨ F = 1) := Lib.hid (fun h => by
    rw [← hF, ← hPv]
    have hl := hL.1
    rcases pathE_cases l i (by rw [hl]; exact h) with ⟨h1, k, h2, h3, h4⟩ | h1
    · exact .inl ⟨h1, k, h2, by omega, by rw [h4, pathB_len, hl]⟩
    · exact .inr h1)
  have HT : Hid (mayB n = true → (∃ k : Nat, i = k ∧ k < n) → m = hgt n → K = true → s ≠ atB l i.toNat → ∃ a b, traceF l i s path = ⟨a, b, true⟩ ∧ a ≠ b ∧ sumF a = sumF b ∧ a.size ≤ maxLen ∧ b.size ≤ maxLen) := Lib.hid (fun h1 ⟨k, hk, hkn⟩ h3 h4 h5 => by
    have hl := hL.1
    obtain ⟨q1, q2⟩ := hgt_may h1
    have hv : V = rootB l := by rw [← hV, rootV, hl, if_pos h1]
    have hok : traceOk l i s path = true := by
      have q3 : decide (m ≤ 10) = true := by rw [decide_eq_true_eq]; omega
      have q4 : decide (2 ^ m = n) = true := by rw [decide_eq_true_eq, h3]; exact q1.symm
      have q5 : hasI n i = true := by unfold hasI; rw [hk]; simp; omega
      have q6 : checkV (rootB l) i s path = true := by rw [← hv, hK]; exact h4
      unfold traceOk
      rw [hl, hP.1, h1, q3, q4, q5, q6]
      simp [h5]
    obtain ⟨j, r1, r2, r3⟩ := trace_found hok (by omega)
    refine ⟨_, _, r1, r2, r3, ?_, ?_⟩
    · have := toldT_size hls j (i.toNat / 2 ^ j)
      simp only [maxLen]; omega
    · have := wayB_size i.toNat s path hp j
      simp only [maxLen]; omega)
  have HC0 : Hid (∀ W, Below w.heap.size w W → ∀ k x, l[k]? = some x → ∃ b off, A = some ⟨b, off, none⟩ ∧ W.cell? ⟨b, off + k, none⟩ = some (.string x)) := Lib.hid (fun W hb => strs_at (hL.below hb))
  have HLn := Lib.hid hL.1
  have HTF : Hid (∀ t, traceF l i s path = t → ∀ (w : World) (e : Ending) (w' : World), TwoPost (traceF l i s path) w e w' → e = .returned (twoV t) ∧ Below w.heap.size w w') := Lib.hid (fun t ht w e w' h => by
    unfold TwoPost at h
    rw [ht] at h
    exact h)
  clear hV hE hPv hF hK hL hP hG hls hp hbp
  rcases hbl with hbl | ⟨hbl, h16⟩
  all_goals
    rw [hbl] at HBl
    clear hbl
    go_enter Tryd.func20, Tryd.ntmps20
    go_wp2_with fail
    refine HBl.out.mono ?_
    rintro e w0 ⟨rfl, rfl⟩
    go_wp2_with fail
    refine HBp.out.mono ?_
    rintro e w0 ⟨rfl, rfl⟩
    clear HBl HBp
    go_wp2_with fail
    refine (HR.out _ HG.out HL.out).mono ?_
    rintro e w1 ⟨rfl, hB1⟩
    have HL1 := Lib.hid ((HL.out.below hB1).more hB1.size)
    have HP1 := Lib.hid ((HP.out.below hB1).more hB1.size)
    clear HR HL HP
    go_wp2_with fail
    refine (HPa.out _ (rounds_of HG.out hB1) HL1.out).mono ?_
    rintro e w2 hpost
    obtain ⟨hb2, A2, c2, rfl⟩ := HPP.out _ _ _ hpost
    have hB2 := hB1.trans (hb2.mono hB1.size)
    have HL2 := Lib.hid ((HL1.out.below hb2).more hb2.size)
    have HP2 := Lib.hid ((HP1.out.below hb2).more hb2.size)
    clear hpost HL1 HP1 hb2 hB1 HPa HPP
    have HRo := Lib.hid (roots_any w2 (rounds_of HG.out hB2))
    rcases HE.out with ⟨rfl, hmay⟩ | rfl
    · rcases HF.out hmay with ⟨rfl, k, rfl, hkn, hPk⟩ | rfl
      · by_cases hpm : P.length = m
        · have HM := Lib.hid hmay
          have HHg : Hid (m = hgt n) := Lib.hid (by rw [← hpm]; exact hPk)
          rw [hpm] at *
          have t1 : ((m : Int) == (m : Int)) = true := by simp
          clear hmay hPk hpm HF HE HRo
          go_wp2_with fail
          refine (HCk.out _ (rounds_of HG.out hB2) HP2.out).mono ?_
          rintro e w3 ⟨rfl, hb3⟩
          have hB3 := hB2.trans (hb3.mono hB2.size)
          have HL3 := Lib.hid ((HL2.out.below hb3).more hb3.size)
          have HP3 := Lib.hid ((HP2.out.below hb3).more hb3.size)
          clear HL2 HP2 hb3 hB2 HCk
          have HRo := Lib.hid (roots_any w3 (rounds_of HG.out hB3))
          cases K
          · clear HT HTF
            go_wp2_with fail
            refine HRo.out.mono ?_
            rintro e wz ⟨rfl, hbz⟩
            go_wp2_with fail
            go_ret
            exact ⟨rfl, hB3.trans (hbz.mono hB3.size)⟩
          · obtain ⟨x, hx⟩ : ∃ x, l[k]? = some x := ⟨l[k]'(by rw [HLn.out]; exact hkn), List.getElem?_eq_getElem _⟩
            obtain ⟨b0, off0, rfl, c0⟩ := HC0.out w3 hB3 k x hx
            have HXa : Hid (atB l (k : Int).toNat = x) := Lib.hid (by rw [Int.toNat_natCast]; exact atB_of hx)
            clear hx
            by_cases hsx : s = x
            · have e1 : (s.toList == x.toList) = true := by rw [hsx]; simp
              clear hsx HT HTF HXa
              go_wp2_with fail
              refine HRo.out.mono ?_
              rintro e wz ⟨rfl, hbz⟩
              go_wp2_with fail
              go_ret
              exact ⟨rfl, hB3.trans (hbz.mono hB3.size)⟩
            · have e1 : (s.toList == x.toList) = false := by
                simp only [beq_eq_false_iff_ne, ne_eq]
                exact fun h => hsx (bytes_ext h)
              obtain ⟨a, b, r1, r2, r3, r4, r5⟩ := HT.out HM.out ⟨k, rfl, hkn⟩ HHg.out rfl (by rw [HXa.out]; exact hsx)
              have HQ := Lib.hid (HTF.out _ r1)
              have HS := Lib.hid r3
              have e2 : (a.toList == b.toList) = false := by
                simp only [beq_eq_false_iff_ne, ne_eq]
                exact fun h => r2 (bytes_ext h)
              have e3 : (a.toList != b.toList) = true := by
                simp only [bne_iff_ne, ne_eq]
                exact fun h => r2 (bytes_ext h)
              clear hsx HT HTF HXa r1 r2 r3 HRo
              go_wp2_with fail
              refine (HTr.out _ (rounds_of HG.out hB3) HL3.out HP3.out).mono ?_
              rintro e w4 hpost
              obtain ⟨rfl, hb4⟩ := HQ.out _ _ _ hpost
              have hB4 := hB3.trans (hb4.mono hB3.size)
              unfold twoV
              clear hpost hb4 HL3 HP3 HTr HQ c0 hB3
              go_wp2_with fail
              refine (roots_any _ (rounds_of HG.out hB4)).mono ?_
              rintro e w5 ⟨rfl, hb5⟩
              have hB5 := hB4.trans (hb5.mono hB4.size)
              clear hb5 hB4
              go_wp2_with fail
              refine (sumF_any a _ (rounds_of HG.out hB5) r4).mono ?_
              rintro e w6 ⟨rfl, hb6⟩
              have hB6 := hB5.trans (hb6.mono hB5.size)
              clear hb6 hB5
              go_wp2_with fail
              refine (sumF_any b _ (rounds_of HG.out hB6) r5).mono ?_
              rintro e w7 ⟨rfl, hb7⟩
              have hB7 := hB6.trans (hb7.mono hB6.size)
              rw [HS.out]
              clear hb7 hB6
              go_wp2_with fail
              go_ret
              exact ⟨rfl, hB7⟩
        · have t1 : ((P.length : Int) == (m : Int)) = false := by simp; omega
          have t2 : ((P.length : Int) != (m : Int)) = true := by simp; omega
          clear hmay hPk hpm HF HE HT HTF
          go_wp2_with fail
          refine HRo.out.mono ?_
          rintro e wz ⟨rfl, hbz⟩
          go_wp2_with fail
          go_ret
          exact ⟨rfl, hB2.trans (hbz.mono hB2.size)⟩
      · clear hmay HF HE HT HTF
        go_wp2_with fail
        refine HRo.out.mono ?_
        rintro e wz ⟨rfl, hbz⟩
        go_wp2_with fail
        go_ret
        exact ⟨rfl, hB2.trans (hbz.mono hB2.size)⟩
    · clear HF HE HT HTF
      go_wp2_with fail
      refine HRo.out.mono ?_
      rintro e wz ⟨rfl, hbz⟩
      go_wp2_with fail
      go_ret
      exact ⟨rfl, hB2.trans (hbz.mono hB2.size)⟩
theorem ttold_all (l : List ByteArray) (i : Int) (s : ByteArray) (path : List ByteArray) (A A' : Option Addr) (n c m c' : Nat) (w : World) (hG : Rounds w) (hL : SlR encS 1 w w.heap.size A n l) (hP : SlR encS 1 w w.heap.size A' m path)
    (hn : n ≤ 140737488351232) (hm : m ≤ 140737488351232) (hls : ∀ x ∈ l, x.size ≤ 140737488351232) (hs : s.size ≤ 140737488351232) :
    Calls Tryd.prog 20 #[.slice A n c, .int .i64 i, .string s, .slice A' m c'] w fun e w' => e = .returned (.bool true) ∧ Below w.heap.size w w' := by
  have HBl := Lib.hid (bigt_any l A n c w hL hn)
  have HBp := Lib.hid (bigt_any path A' m c' w hP hm)
  have HRo := Lib.hid (roots_any w hG)
  by_cases h64 : 64 < n
  · clear hL hP hG hls HBl HBp
    go_enter Tryd.func20, Tryd.ntmps20
    go_wp2_with fail
    refine HRo.out.mono ?_
    rintro e wz ⟨rfl, hbz⟩
    go_wp2_with fail
    go_ret
    exact ⟨rfl, hbz⟩
  · by_cases hb : bigT l = true ∧ n ≤ 16
    · obtain ⟨hb1, hb2⟩ := hb
      rw [hb1] at HBl
      clear hL hP hG hls HBp hb1
      go_enter Tryd.func20, Tryd.ntmps20
      go_wp2_with fail
      refine HBl.out.mono ?_
      rintro e w0 ⟨rfl, rfl⟩
      go_wp2_with fail
      refine HRo.out.mono ?_
      rintro e wz ⟨rfl, hbz⟩
      go_wp2_with fail
      go_ret
      exact ⟨rfl, hbz⟩
    · have hbl : bigT l = false ∨ (bigT l = true ∧ 16 < n) := by
        cases h : bigT l
        · exact .inl rfl
        · exact .inr ⟨rfl, by
            rcases Nat.lt_or_ge 16 n with a | a
            · exact a
            · exact absurd ⟨h, a⟩ hb⟩
      cases hbp : bigT path
      · by_cases h3 : 300 < s.size
        · rw [hbp] at HBp
          clear hL hP hG hls hb hbp
          rcases hbl with hbl | ⟨hbl, h16⟩
          all_goals
            rw [hbl] at HBl
            clear hbl
            go_enter Tryd.func20, Tryd.ntmps20
            go_wp2_with fail
            refine HBl.out.mono ?_
            rintro e w0 ⟨rfl, rfl⟩
            go_wp2_with fail
            refine HBp.out.mono ?_
            rintro e w0 ⟨rfl, rfl⟩
            go_wp2_with fail
            refine HRo.out.mono ?_
            rintro e wz ⟨rfl, hbz⟩
            go_wp2_with fail
            go_ret
            exact ⟨rfl, hbz⟩
        · obtain ⟨q1, q2, q3⟩ := bigT_no hbp
          exact ttold_in l i s path A A' n c m c' w hG hL hP (by omega) (by rw [← hP.1]; exact q2) hls (by omega) q3 hbp hbl
      · rw [hbp] at HBp
        clear hL hP hG hls hb hbp
        rcases hbl with hbl | ⟨hbl, h16⟩
        all_goals
          rw [hbl] at HBl
          clear hbl
          go_enter Tryd.func20, Tryd.ntmps20
          go_wp2_with fail
          refine HBl.out.mono ?_
          rintro e w0 ⟨rfl, rfl⟩
          go_wp2_with fail
          refine HBp.out.mono ?_
          rintro e w0 ⟨rfl, rfl⟩
          go_wp2_with fail
          refine HRo.out.mono ?_
          rintro e wz ⟨rfl, hbz⟩
          go_wp2_with fail
          go_ret
          exact ⟨rfl, hbz⟩
end Go.Proofs.YtkaaicmadknjcaaDoor
