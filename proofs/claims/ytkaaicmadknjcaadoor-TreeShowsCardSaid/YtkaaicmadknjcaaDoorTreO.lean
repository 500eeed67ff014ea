/- the walk of TreeShows. -/
import Derived.Test.YtkaaicmadknjcaaDoorTreW
import Derived.Test.YtkaaicmadknjcaaDoorTreU
import Derived.Test.YtkaaicmadknjcaaDoorTreS
import Derived.Test.YtkaaicmadknjcaaDoorTreI
set_option linter.unusedVariables false
set_option linter.unusedSimpArgs false
/- chapter 11's reference: below, Collide. -/
namespace Go.Proofs.YtkaaicmadknjcaaDoor
open Go.RowKit
theorem rbelow_any (w : World) (H k j : Nat) (At A : Option Addr) (nt ct c : Nat) (l : List ByteArray) (hL : SlR encS 1 w w.heap.size At nt l) (hr : RRows w w.heap.size A (H + 1) (levs l H)) (hl : l.length = 2 ^ H) (hh : H ≤ 10) (hk : k ≤ H) (hj : j < 2 ^ (H - k)) (hs : ∀ s ∈ l, s.size ≤ 140737488351232) :
    Calls Tryd.prog 122 #[.slice At nt ct, .slice A (H + 1) c, .int .i64 k, .int .i64 j] w fun e w' => e = .returned (.string (toldT l k j)) ∧ Below w.heap.size w w' := by
  have h24 : 2 ^ (H - k) ≤ 1024 := Nat.le_trans (pow_le_two (by omega : H - k ≤ 10)) (by decide)
  cases k with
  | zero =>
    rw [Nat.sub_zero] at hj h24
    obtain ⟨b, off, rfl, hb, hC⟩ := hL.2.resolve_left (by have := hL.1; omega)
    have hn : nt = 2 ^ H := by rw [← hL.1, hl]
    have hg := at_of_lt (L := l) (k := j) (by omega)
    have c0 := hC.str hg
    have HE : Hid (toldT l 0 j = leafT (atB l j)) := Lib.hid rfl
    have hsz := hs _ (List.mem_of_getElem? hg)
    rw [← hn] at hj h24
    have HLf := Lib.hid (rofleaf_any (atB l j) w hsz)
    rw [HE.out]
    generalize atB l j = x at c0 hsz HLf HE ⊢
    have i0 : (0 : Int) ≤ (j : Int) := by omega
    have i1 : (j : Int) < (nt : Int) := by omega
    clear hr hC hL hs hl hn hg HE
    go_enter Tryd.func122, Tryd.ntmps122
    go_wp2_with fail
    refine HLf.out.mono ?_
    rintro e w1 ⟨rfl, rfl⟩
    go_wp2_with fail
    go_ret
    exact ⟨rfl, Below.refl _ _⟩
  | succ k =>
    have hp : 2 ^ (H - k) = 2 ^ (H - (k + 1)) * 2 := by rw [← Nat.pow_succ]; congr 1; omega
    obtain ⟨b, off, s, rfl, hb, hc, hq⟩ := hr.at_ (levs_at l (by omega : k ≤ H))
    obtain ⟨sA, sn, sc⟩ := s
    simp only at hc hq
    have hq1 : (lev l k).length = sn := hq.1
    have hn : sn = 2 ^ (H - k) := by rw [← hq1, lev_pow hl (by omega)]
    obtain ⟨b2, off2, rfl, hb2, hC⟩ := hq.2.resolve_left (by omega)
    have g0 := at_of_lt (L := lev l k) (k := 2 * j) (by omega)
    have g1 := at_of_lt (L := lev l k) (k := 2 * j + 1) (by omega)
    have c0 := hC.str g0
    have c1 := hC.str g1
    have s0 := lev_small _ (List.mem_of_getElem? g0)
    have s1 := lev_small _ (List.mem_of_getElem? g1)
    have HE : Hid (toldT l (k + 1) j = nodeT (atB (lev l k) (2 * j)) (atB (lev l k) (2 * j + 1))) := Lib.hid rfl
    rw [HE.out]
    generalize atB (lev l k) (2 * j) = x at c0 s0 HE ⊢
    generalize atB (lev l k) (2 * j + 1) = y at c1 s1 HE ⊢
    have i0 : (0 : Int) ≤ 2 * (j : Int) := by omega
    have i1 : 2 * (j : Int) < (sn : Int) := by omega
    have i2 : (0 : Int) ≤ 2 * (j : Int) + 1 := by omega
    have i3 : 2 * (j : Int) + 1 < (sn : Int) := by omega
    have e1 : IntKind.i64.wrap (2 * (j : Int)) = 2 * (j : Int) := IntWalk.i64_in _ (by omega)
    have e2 : IntKind.i64.wrap (2 * (j : Int) + 1) = 2 * (j : Int) + 1 := IntWalk.i64_in _ (by omega)
    have e3 : IntKind.i64.wrap (((k + 1 : Nat) : Int) - 1) = (k : Int) := by rw [show ((k + 1 : Nat) : Int) - 1 = (k : Int) by omega]; exact wrap_i64_nat k (by omega)
    have e4 : ((k + 1 : Nat) : Int) - 1 = (k : Int) := by omega
    have e5 : (2 * (j : Int)).toNat = 2 * j := by omega
    have e6 : (2 * (j : Int) + 1).toNat = 2 * j + 1 := by omega
    have k00 : (0 : Int) ≤ (k : Int) := by omega
    have k01 : (k : Int) < ((H + 1 : Nat) : Int) := by omega
    have t0 : (((k + 1 : Nat) : Int) == 0) = false := by simp; omega
    clear hr hC hL hs hl hn g0 g1 HE hq hq1
    go_enter Tryd.func122, Tryd.ntmps122
    go_wp2
    go_quiet (exact Calls.quiet_of_same ((rofnode_any x y _ (by omega) (by omega)).mono fun e w' h => ⟨h.1, h.2.symm⟩))
    go_wp2
    go_ret
    exact ⟨rfl, below_drewN (Below.refl _ _) _⟩
theorem find_dn_none {h k : Nat} {l m : List ByteArray} (hk : h + 1 ≤ k) (hkk : k = h + 1) (hno : ∀ p ∈ dn h k, unlike l m p = false) : findTwo l m (downL h) = noTwo := by
  subst hkk
  unfold findTwo
  have : (downL h).find? (unlike l m) = none := by
    rw [List.find?_eq_none]
    intro p hp
    simp [hno p hp]
  rw [this]
theorem find_dn_some {h k j : Nat} {l m : List ByteArray} (hk : k ≤ h) (hj : j < 2 ^ k) (hno : ∀ p ∈ dnAt h k j, unlike l m p = false) (hx : unlike l m (h - k, j) = true) : findTwo l m (downL h) = ⟨toldT l (h - k) j, toldT m (h - k) j, true⟩ := by
  obtain ⟨rest, hrest⟩ := dnAt_prefix h hk (by omega : j + 1 ≤ 2 ^ k)
  unfold findTwo
  have : (downL h).find? (unlike l m) = some (h - k, j) := by
    rw [← hrest, ← dnAt_succ, List.append_assoc, List.find?_append]
    have h1 : (dnAt h k j).find? (unlike l m) = none := by
      rw [List.find?_eq_none]
      intro p hp
      simp [hno p hp]
    rw [h1]
    simp [hx]
  rw [this]
theorem rcoll_out (l m : List ByteArray) (A A' : Option Addr) (n c k c' : Nat) (w : World) (hL : SlR encS 1 w w.heap.size A n l) (hM : SlR encS 1 w w.heap.size A' k m) (hn : n ≤ 2000) (hk : k ≤ 2000)
    (h : (decide (n = k) && (mayB n && decide (l ≠ m))) = false) :
    Calls Tryd.prog 75 #[.slice A n c, .slice A' k c'] w (TwoPost noTwo w) := by
  by_cases hnk : n = k
  · subst hnk
    have HM := Lib.hid (may_any n c A w hn)
    have t0 : ((n : Int) == (n : Int)) = true := by simp
    have t0b : ((n : Int) != (n : Int)) = false := by simp
    have HE := Lib.hid (texts_any l m A A' n n c c' w hL hM (by omega) (by omega))
    cases hmay : mayB n
    · rw [hmay] at HM
      clear h hmay hL hM
      go_enter Tryd.func75, Tryd.ntmps75
      go_wp2_with fail
      refine HM.out.mono ?_
      rintro e w1 ⟨rfl, rfl⟩
      go_wp2_with fail
      refine bodyPost_ret (results_tmp3 rfl _ _ _) rfl ?_
      exact two_no (Below.refl _ _)
    · have hlm : textsB l m = true := by
        rw [hmay] at h
        simpa [textsB] using h
      rw [hmay] at HM
      rw [hlm] at HE
      clear h hmay hL hM hlm
      go_enter Tryd.func75, Tryd.ntmps75
      go_wp2_with fail
      refine HM.out.mono ?_
      rintro e w1 ⟨rfl, rfl⟩
      go_wp2_with fail
      refine HE.out.mono ?_
      rintro e w1 ⟨rfl, hb1⟩
      go_wp2_with fail
      refine bodyPost_ret (results_tmp3 rfl _ _ _) rfl ?_
      exact two_no hb1
  · have t0 : ((n : Int) == (k : Int)) = false := by simp; omega
    have t1 : ((n : Int) != (k : Int)) = true := by simp; omega
    clear h hL hM
    go_enter Tryd.func75, Tryd.ntmps75
    go_wp2_with fail
    refine bodyPost_ret (results_tmp3 rfl _ _ _) rfl ?_
    exact two_no (Below.refl _ _)
set_option maxRecDepth 100000 in
set_option maxHeartbeats 2000000 in
theorem rcoll_in (l m : List ByteArray) (A A' : Option Addr) (n c c' H : Nat) (w : World) (hL : SlR encS 1 w w.heap.size A n l) (hM : SlR encS 1 w w.heap.size A' n m)
    (hmay : mayB n = true) (hn : n = 2 ^ H) (hH : H ≤ 10) (hne : textsB l m = false) (hls : ∀ x ∈ l, x.size ≤ 900000) (hms : ∀ x ∈ m, x.size ≤ 900000) :
    Calls Tryd.prog 75 #[.slice A n c, .slice A' n c'] w (TwoPost (if atB (lev l H) 0 = atB (lev m H) 0 then findTwo l m (downL H) else noTwo) w) := by
  have hn2 : n ≤ 1024 := by rw [hn]; exact Nat.le_trans (pow_le_two hH) (by decide)
  have hMy := may_any n c A w (by omega)
  rw [hmay] at hMy
  have HMy := Lib.hid hMy
  have hE := texts_any l m A A' n n c c' w hL hM (by omega) (by omega)
  rw [hne] at hE
  have HE := Lib.hid hE
  have HLl : Hid (l.length = 2 ^ H) := Lib.hid (by rw [hL.1, hn])
  have HLm : Hid (m.length = 2 ^ H) := Lib.hid (by rw [hM.1, hn])
  have HL := Lib.hid hL
  have HM := Lib.hid hM
  have HRl := Lib.hid (fun W (h2 : SlR encS 1 W W.heap.size A n l) => rrows_any l A n c H W h2 hn hH hls)
  have HRm := Lib.hid (fun W (h2 : SlR encS 1 W W.heap.size A' n m) => rrows_any m A' n c' H W h2 hn hH hms)
  have Hls : Hid (∀ x ∈ l, x.size ≤ 140737488351232) := Lib.hid (fun x h => by have := hls x h; omega)
  have Hms : Hid (∀ x ∈ m, x.size ≤ 140737488351232) := Lib.hid (fun x h => by have := hms x h; omega)
  obtain ⟨r1, hr1⟩ : ∃ r, atB (lev l H) 0 = r := ⟨_, rfl⟩
  obtain ⟨r2, hr2⟩ : ∃ r, atB (lev m H) 0 = r := ⟨_, rfl⟩
  rw [hr1, hr2]
  have HR1 := Lib.hid hr1
  have HR2 := Lib.hid hr2
  have t0 : ((n : Int) == (n : Int)) = true := by simp
  have t0b : ((n : Int) != (n : Int)) = false := by simp
  have e1 : ((H + 1 : Nat) : Int) - 1 = (H : Int) := by omega
  have e2 : IntKind.i64.wrap (H : Int) = (H : Int) := wrap_i64_nat H (by omega)
  have i0 : (0 : Int) ≤ (H : Int) := by omega
  have i1 : (H : Int) < ((H + 1 : Nat) : Int) := by omega
  have i2 : (H : Int) < (H : Int) + 1 := by omega
  clear hMy hE hL hM hmay hn hne hls hms hr1 hr2
  obtain ⟨Z, hZ⟩ : ∃ Z, (if r1 = r2 then findTwo l m (downL H) else noTwo) = Z := ⟨_, rfl⟩
  rw [hZ]
  have HZ := Lib.hid hZ
  clear hZ
  go_enter Tryd.func75, Tryd.ntmps75
  go_wp2_with fail
  refine HMy.out.mono ?_
  rintro e w1 ⟨rfl, rfl⟩
  go_wp2_with fail
  refine HE.out.mono ?_
  rintro e w1 ⟨rfl, hB1⟩
  have HL1 := Lib.hid ((HL.out.below hB1).more hB1.size)
  have HM1 := Lib.hid ((HM.out.below hB1).more hB1.size)
  clear HMy HE HL HM
  go_wp2_with fail
  refine (HRl.out _ HL1.out).mono ?_
  rintro e w2 ⟨hb2, A2, c2, rfl, HRo2⟩
  have hB2 := hB1.trans (hb2.mono hB1.size)
  have HL2 := Lib.hid ((HL1.out.below hb2).more hb2.size)
  have HM2 := Lib.hid ((HM1.out.below hb2).more hb2.size)
  clear HL1 HM1 hB1 hb2 HRl
  go_wp2_with fail
  refine (HRm.out _ HM2.out).mono ?_
  rintro e wx ⟨hb3, A3, c3, rfl, HRo3⟩
  have hB3 := hB2.trans (hb3.mono hB2.size)
  have HL3 := Lib.hid ((HL2.out.below hb3).more hb3.size)
  have HM3 := Lib.hid ((HM2.out.below hb3).more hb3.size)
  have HRa := Lib.hid ((HRo2.out.below hb3).more hb3.size)
  clear HL2 HM2 hB2 hb3 HRm HRo2
  -- the two roots
  obtain ⟨b, off, s, rfl, hb, q0, hq⟩ := HRa.out.at_ (levs_at l (Nat.le_refl H))
  obtain ⟨sA, sn, sc⟩ := s
  simp only at q0 hq
  have hsn : sn = 1 := by rw [← hq.1, lev_pow HLl.out (Nat.le_refl H)]; simp
  subst hsn
  obtain ⟨b2, off2, rfl, hb2', hC⟩ := hq.2.resolve_left (by omega)
  have q1 := hC.str (at_of_lt (L := lev l H) (k := 0) (by rw [hq.1]; omega))
  rw [Nat.add_zero, HR1.out] at q1
  obtain ⟨b3, off3, s3, rfl, hb3, q2, hq3⟩ := HRo3.out.at_ (levs_at m (Nat.le_refl H))
  obtain ⟨sA3, sn3, sc3⟩ := s3
  simp only at q2 hq3
  have hsn : sn3 = 1 := by rw [← hq3.1, lev_pow HLm.out (Nat.le_refl H)]; simp
  subst hsn
  obtain ⟨b4, off4, rfl, hb4', hC3⟩ := hq3.2.resolve_left (by omega)
  have q3 := hC3.str (at_of_lt (L := lev m H) (k := 0) (by rw [hq3.1]; omega))
  rw [Nat.add_zero, HR2.out] at q3
  clear hC hC3 hq hq3 hb hb2' hb3 hb4'
  by_cases hr : r1 = r2
  · have t1 : (r1.toList == r2.toList) = true := by rw [hr]; simp
    have t2 : (r1.toList != r2.toList) = false := by rw [hr]; simp
    have HZ2 : Hid (Z = findTwo l m (downL H)) := Lib.hid (by rw [← HZ.out, if_pos hr])
    have HRow : Hid (∀ W', Below wx.heap.size wx W' → ∀ k, k ≤ H → ∃ (sA : Option Addr) (sc : Nat), W'.cell? ⟨b, off + k, none⟩ = some (.slice sA (2 ^ (H - k)) sc)) := Lib.hid (fun W' hB k hkH => by
      obtain ⟨b', off', s, e, hb, hc, hq⟩ := (HRa.out.below hB).at_ (levs_at l hkH)
      injection e with e
      injection e with e1 e2
      subst e1 e2
      have hs : s.n = 2 ^ (H - k) := by rw [← hq.1, lev_pow HLl.out hkH]
      rw [hs] at hc
      exact ⟨s.A, s.c, hc⟩)
    clear hr HZ
    go_wp2_with fail
    go_quiet (fail)
    go_wp2_with fail
    clear q0 q1 q2 q3
    go_loopw [10] (fun v wr => ∃ k : Nat, k ≤ H + 1 ∧ v = .int .i64 ((H : Int) - (k : Int)) ∧ Hid (∀ p ∈ dn H k, unlike l m p = false) ∧ Below wx.heap.size wx wr) (fun v _ => (intOf v + 1).toNat)
    case atStart => exact ⟨0, Nat.zero_le _, by simp, Lib.hid (fun p hp => by cases hp), below_drewN (Below.refl _ _) _⟩
    case round =>
      obtain ⟨k, hk, rfl, HU, hB⟩ := hrel
      by_cases hkH : k ≤ H
      · obtain ⟨r, hr⟩ : ∃ r, r = H - k := ⟨_, rfl⟩
        have e0 : (H : Int) - (k : Int) = (r : Int) := by omega
        rw [e0]
        have HJ0 : Hid (∀ p ∈ dnAt H k 0, unlike l m p = false) := Lib.hid (by rw [dnAt_zero]; exact HU.out)
        have HFull : Hid (dnAt H k (2 ^ k) = dn H (k + 1)) := Lib.hid (dnAt_full H k)
        have HStep : Hid (∀ j, dnAt H k j ++ [(r, j)] = dnAt H k (j + 1)) := Lib.hid (fun j => by rw [hr]; exact dnAt_succ H k j)
        have HFnd : Hid (∀ j, j < 2 ^ k → (∀ p ∈ dnAt H k j, unlike l m p = false) → unlike l m (r, j) = true → Z = ⟨toldT l r j, toldT m r j, true⟩) := Lib.hid (fun j hj h1 h2 => by
          rw [HZ2.out]
          rw [hr] at h2 ⊢
          exact find_dn_some hkH hj h1 h2)
        have hrH : r ≤ H := by omega
        have HBd : Hid (∀ j, j < 2 ^ k → j < 2 ^ (H - r)) := Lib.hid (fun j h => by rw [show H - r = k by omega]; exact h)
        have HRw : Hid (∀ W', Below wx.heap.size wx W' → ∃ (sA : Option Addr) (sc : Nat), W'.cell? ⟨b, off + r, none⟩ = some (.slice sA (2 ^ k) sc)) := Lib.hid (fun W' hB => by
          have := HRow.out W' hB r hrH
          rwa [show H - r = k by omega] at this)
        have hq : 2 ^ k ≤ 1024 := Nat.le_trans (pow_le_two (by omega : k ≤ 10)) (by decide)
        have i3 : (0 : Int) ≤ (r : Int) := by omega
        have i4 : (r : Int) < ((H + 1 : Nat) : Int) := by omega
        have i5 : (r : Int) < (H : Int) + 1 := by omega
        have HE3 : Hid ((H : Int) - ((k + 1 : Nat) : Int) = (r : Int) - 1) := Lib.hid (by omega)
        have hr10 : r ≤ 10 := by omega
        have tge : decide ((0 : Int) ≤ (r : Int)) = true := by simp
        clear e0 HU
        generalize 2 ^ k = q at *
        clear hr
        go_wp2_with fail
        go_loopw [11] (fun v wy => ∃ j : Nat, j ≤ q ∧ v = .int .i64 j ∧ Hid (∀ p ∈ dnAt H k j, unlike l m p = false) ∧ Below wx.heap.size wx wy) (fun v _ => q - (intOf v).toNat)
        case atStart => exact ⟨0, Nat.zero_le _, rfl, HJ0, hB⟩
        case round =>
          clear hB HJ0
          obtain ⟨j, hj, rfl, HU, hB⟩ := hrel
          obtain ⟨sA, sc', c0⟩ := HRw.out wr hB
          by_cases hlt2 : j < q
          · obtain ⟨T1, hT1⟩ : ∃ T, toldT l r j = T := ⟨_, rfl⟩
            obtain ⟨T2, hT2⟩ : ∃ T, toldT m r j = T := ⟨_, rfl⟩
            have HT1 := rbelow_any wr H r j A _ n c c2 l ((HL3.out.below hB).more hB.size) ((HRa.out.below hB).more hB.size) HLl.out hH hrH (HBd.out j hlt2) Hls.out
            rw [hT1] at HT1
            have HT1 := Lib.hid HT1
            have HTn := Lib.hid (And.intro hT1 hT2)
            clear hT1 hT2
            go_wp2_with fail
            refine HT1.out.mono ?_
            rintro e w7 ⟨rfl, hb7⟩
            have hB7 := hB.trans (hb7.mono hB.size)
            have HT2 := rbelow_any w7 H r j A' _ n c' c3 m ((HM3.out.below hB7).more hB7.size) ((HRo3.out.below hB7).more hB7.size) HLm.out hH hrH (HBd.out j hlt2) Hms.out
            rw [HTn.out.2] at HT2
            have HT2 := Lib.hid HT2
            clear HT1 hb7 hB c0
            go_wp2_with fail
            refine HT2.out.mono ?_
            rintro e w8 ⟨rfl, hb8⟩
            have hB8 := hB7.trans (hb8.mono hB7.size)
            clear HT2 hb8 hB7
            by_cases hT : T1 = T2
            · have u1 : (T1.toList == T2.toList) = true := by rw [hT]; simp
              have u2 : (T1.toList != T2.toList) = false := by rw [hT]; simp
              have HU2 : Hid (∀ p ∈ dnAt H k (j + 1), unlike l m p = false) := Lib.hid (fun p hp => by
                rw [← HStep.out] at hp
                rcases List.mem_append.1 hp with hp | hp
                · exact HU.out p hp
                · rw [List.mem_singleton.1 hp]
                  unfold unlike
                  rw [HTn.out.1, HTn.out.2]
                  simp [hT])
              clear hT
              go_wp2_with fail
              go_roundw
              case rel => exact ⟨j + 1, by omega, by go_num, HU2, hB8⟩
              case measure => simp [intOf]; omega
            · have u1 : (T1.toList == T2.toList) = false := by
                simp only [beq_eq_false_iff_ne, ne_eq]
                exact fun h => hT (bytes_ext h)
              have u2 : (T1.toList != T2.toList) = true := by
                simp only [bne_iff_ne, ne_eq]
                exact fun h => hT (bytes_ext h)
              have hz : Z = ⟨T1, T2, true⟩ := by
                rw [HFnd.out j hlt2 HU.out (by unfold unlike; rw [HTn.out.1, HTn.out.2]; simp [hT]), HTn.out.1, HTn.out.2]
              subst hz
              have HBx := Lib.hid (hB3.trans (hB8.mono hB3.size))
              clear hT HFnd HZ2
              go_wp2_with fail
              refine bodyPost_ret (results_tmp3 rfl _ _ _) rfl ?_
              exact ⟨rfl, HBx.out⟩
          · obtain rfl : j = q := by omega
            have HJ4 : Hid (∀ p ∈ dn H (k + 1), unlike l m p = false) := Lib.hid (by rw [← HFull.out]; exact HU.out)
            go_wp2_with fail
            go_roundw
            case rel => exact ⟨k + 1, by omega, by rw [HE3.out], HJ4, hB⟩
            case measure => simp [intOf]
      · obtain rfl : k = H + 1 := by omega
        have e0 : (H : Int) - ((H + 1 : Nat) : Int) = -1 := by omega
        rw [e0]
        have hz : Z = noTwo := by rw [HZ2.out]; exact find_dn_none (Nat.le_refl _) rfl HU.out
        subst hz
        have HBx := Lib.hid (hB3.trans (hB.mono hB3.size))
        clear e0 HU hB HZ2
        go_wp2_with fail
        refine bodyPost_ret (results_tmp3 rfl _ _ _) rfl ?_
        exact two_no HBx.out
  · have t1 : (r1.toList == r2.toList) = false := by
      simp only [beq_eq_false_iff_ne, ne_eq]
      exact fun h => hr (bytes_ext h)
    have t2 : (r1.toList != r2.toList) = true := by
      simp only [bne_iff_ne, ne_eq]
      exact fun h => hr (bytes_ext h)
    have hz : Z = noTwo := by rw [← HZ.out, if_neg hr]
    subst hz
    clear hr HZ
    go_wp2_with fail
    go_quiet (fail)
    go_wp2_with fail
    refine bodyPost_ret (results_tmp3 rfl _ _ _) rfl ?_
    exact two_no (below_drewN hB3 _)
theorem rcoll_any (l m : List ByteArray) (A A' : Option Addr) (n c k c' : Nat) (w : World) (hL : SlR encS 1 w w.heap.size A n l) (hM : SlR encS 1 w w.heap.size A' k m) (hn : n ≤ 2000) (hk : k ≤ 2000)
    (hls : ∀ x ∈ l, x.size ≤ 900000) (hms : ∀ x ∈ m, x.size ≤ 900000) :
    Calls Tryd.prog 75 #[.slice A n c, .slice A' k c'] w (TwoPost (collF l m) w) := by
  cases h : (decide (n = k) && (mayB n && decide (l ≠ m)))
  · have : collF l m = noTwo := by
      have hc : collOk l m = false := by
        unfold collOk
        rw [hL.1, hM.1]
        cases h1 : decide (n = k) <;> cases h2 : mayB n <;> cases h3 : decide (l ≠ m) <;> simp_all
      simp [collF, hc]
    rw [this]
    exact rcoll_out l m A A' n c k c' w hL hM hn hk h
  · simp only [Bool.and_eq_true, decide_eq_true_eq] at h
    obtain ⟨rfl, hmay, hne⟩ := h
    obtain ⟨hp, hH⟩ := hgt_may hmay
    have hlm : textsB l m = false := by simp [textsB, hne]
    have hr1 : rootB l = atB (lev l (hgt n)) 0 := by rw [rootB, hL.1]
    have hr2 : rootB m = atB (lev m (hgt n)) 0 := by rw [rootB, hM.1]
    have hz := rcoll_in l m A A' n c c' (hgt n) w hL hM hmay hp hH hlm hls hms
    by_cases hr : atB (lev l (hgt n)) 0 = atB (lev m (hgt n)) 0
    · have : collF l m = findTwo l m (downL (hgt n)) := by
        have hc : collOk l m = true := by
          unfold collOk
          rw [hL.1, hM.1, hmay, hr1, hr2]
          simp [hne, hr]
        simp [collF, hc, hL.1]
      rw [if_pos hr] at hz
      rw [this]
      exact hz
    · have : collF l m = noTwo := by
        have hc : collOk l m = false := by
          unfold collOk
          rw [hL.1, hM.1, hmay, hr1, hr2]
          simp [hr]
        simp [collF, hc]
      rw [if_neg hr] at hz
      rw [this]
      exact hz
end Go.Proofs.YtkaaicmadknjcaaDoor
namespace Go.Proofs.YtkaaicmadknjcaaDoor
open Go.RowKit
set_option maxRecDepth 100000 in
set_option maxHeartbeats 1000000 in
theorem tshows_in (l m : List ByteArray) (i : Int) (s : ByteArray) (path : List ByteArray) (A1 A2 A3 : Option Addr) (n1 c1 n2 c2 n3 c3 : Nat) (w : World) (hG : Rounds w) (hL : SlR encS 1 w w.heap.size A1 n1 l) (hM : SlR encS 1 w w.heap.size A2 n2 m) (hP : SlR encS 1 w w.heap.size A3 n3 path)
    (h1 : n1 ≤ 1100) (h2 : n2 ≤ 1100) (h3 : n3 ≤ 1100) (hls : ∀ x ∈ l, x.size ≤ 200) (hms : ∀ x ∈ m, x.size ≤ 200) (hp : ∀ p ∈ path, p.size ≤ 200) (hs : s.size ≤ 300) (hb1 : bigT l = false) (hb2 : bigT m = false) (hb3 : bigT path = false) :
    Calls Tryd.prog 21 #[.slice A1 n1 c1, .slice A2 n2 c2, .int .i64 i, .string s, .slice A3 n3 c3] w fun e w' => e = .returned (.bool true) ∧ Below w.heap.size w w' := by
  have HL := Lib.hid hL
  have HM := Lib.hid hM
  have HP := Lib.hid hP
  have HG := Lib.hid hG
  have HBl := Lib.hid (bigt_any l A1 n1 c1 w hL (by omega))
  have HBm := Lib.hid (bigt_any m A2 n2 c2 w hM (by omega))
  have HBp := Lib.hid (bigt_any path A3 n3 c3 w hP (by omega))
  rw [hb1] at HBl
  rw [hb2] at HBm
  rw [hb3] at HBp
  have hls2 : ∀ x ∈ l, x.size ≤ 140737488351232 := fun x h => by have := hls x h; omega
  have hms2 : ∀ x ∈ m, x.size ≤ 140737488351232 := fun x h => by have := hms x h; omega
  have hls3 : ∀ x ∈ l, x.size ≤ 900000 := fun x h => by have := hls x h; omega
  have hms3 : ∀ x ∈ m, x.size ≤ 900000 := fun x h => by have := hms x h; omega
  have HC := Lib.hid (fun W (g : Rounds W) (a : SlR encS 1 W W.heap.size A1 n1 l) (b : SlR encS 1 W W.heap.size A2 n2 m) => coll_any l m A1 A2 n1 c1 n2 c2 W g a b (by omega) (by omega) hls2 hms2)
  have HRC := Lib.hid (fun W (a : SlR encS 1 W W.heap.size A1 n1 l) (b : SlR encS 1 W W.heap.size A2 n2 m) => rcoll_any l m A1 A2 n1 c1 n2 c2 W a b (by omega) (by omega) hls3 hms3)
  have HT := Lib.hid (fun W (g : Rounds W) (a : SlR encS 1 W W.heap.size A1 n1 l) (b : SlR encS 1 W W.heap.size A3 n3 path) => ttrace_any l i s path A1 A3 n1 c1 n3 c3 W g a b (by omega) (by omega) hls2 (by omega) hp)
  have HRT := Lib.hid (fun W (a : SlR encS 1 W W.heap.size A1 n1 l) (b : SlR encS 1 W W.heap.size A3 n3 path) => rtrace_any l i s path A1 A3 n1 c1 n3 c3 W a b (by omega) (by omega) hls (by omega) hp)
  obtain ⟨⟨x, y, p⟩, hC⟩ : ∃ t : Two, collF l m = t := ⟨_, rfl⟩
  obtain ⟨⟨x2, y2, p2⟩, hT⟩ : ∃ t : Two, traceF l i s path = t := ⟨_, rfl⟩
  rw [hC] at HC HRC
  rw [hT] at HT HRT
  have t1 : (p == p) = true := by simp
  have t2 : (p2 == p2) = true := by simp
  clear hL hM hP hG hb1 hb2 hb3 hls2 hms2 hls3 hms3 hls hms hp hC hT
  go_enter Tryd.func21, Tryd.ntmps21
  go_wp2_with fail
  refine HBl.out.mono ?_
  rintro e w0 ⟨rfl, rfl⟩
  go_wp2_with fail
  refine HBm.out.mono ?_
  rintro e w0 ⟨rfl, rfl⟩
  go_wp2_with fail
  refine HBp.out.mono ?_
  rintro e w0 ⟨rfl, rfl⟩
  clear HBl HBm HBp
  go_wp2_with fail
  refine (HC.out _ HG.out HL.out HM.out).mono ?_
  rintro e w1 ⟨rfl, hB1⟩
  unfold twoV
  have HL1 := Lib.hid ((HL.out.below hB1).more hB1.size)
  have HM1 := Lib.hid ((HM.out.below hB1).more hB1.size)
  have HP1 := Lib.hid ((HP.out.below hB1).more hB1.size)
  clear HL HM HP HC
  go_wp2_with fail
  refine (HRC.out _ HL1.out HM1.out).mono ?_
  rintro e w2 ⟨rfl, hb2⟩
  unfold twoV
  have hB2 := hB1.trans (hb2.mono hB1.size)
  have HL2 := Lib.hid ((HL1.out.below hb2).more hb2.size)
  have HP2 := Lib.hid ((HP1.out.below hb2).more hb2.size)
  clear HL1 HM1 HP1 HRC hb2 hB1
  go_wp2_with fail
  refine (HT.out _ (rounds_of HG.out hB2) HL2.out HP2.out).mono ?_
  rintro e w3 ⟨rfl, hb3⟩
  unfold twoV
  have hB3 := hB2.trans (hb3.mono hB2.size)
  have HL3 := Lib.hid ((HL2.out.below hb3).more hb3.size)
  have HP3 := Lib.hid ((HP2.out.below hb3).more hb3.size)
  clear HL2 HP2 HT hb3 hB2
  go_wp2_with fail
  refine (HRT.out _ HL3.out HP3.out).mono ?_
  rintro e w4 ⟨rfl, hb4⟩
  unfold twoV
  have hB4 := hB3.trans (hb4.mono hB3.size)
  clear HL3 HP3 HRT hb4 hB3
  go_wp2_with fail
  refine (roots_any _ (rounds_of HG.out hB4)).mono ?_
  rintro e w5 ⟨rfl, hb5⟩
  have hB5 := hB4.trans (hb5.mono hB4.size)
  clear hb5 hB4
  go_wp2_with fail
  go_ret
  exact ⟨rfl, hB5⟩
theorem tshows_all (l m : List ByteArray) (i : Int) (s : ByteArray) (path : List ByteArray) (A1 A2 A3 : Option Addr) (n1 c1 n2 c2 n3 c3 : Nat) (w : World) (hG : Rounds w) (hL : SlR encS 1 w w.heap.size A1 n1 l) (hM : SlR encS 1 w w.heap.size A2 n2 m) (hP : SlR encS 1 w w.heap.size A3 n3 path)
    (h1 : n1 ≤ 140737488351232) (h2 : n2 ≤ 140737488351232) (h3 : n3 ≤ 140737488351232) (hs : s.size ≤ 140737488351232) :
    Calls Tryd.prog 21 #[.slice A1 n1 c1, .slice A2 n2 c2, .int .i64 i, .string s, .slice A3 n3 c3] w fun e w' => e = .returned (.bool true) ∧ Below w.heap.size w w' := by
  have HBl := Lib.hid (bigt_any l A1 n1 c1 w hL h1)
  have HBm := Lib.hid (bigt_any m A2 n2 c2 w hM h2)
  have HBp := Lib.hid (bigt_any path A3 n3 c3 w hP h3)
  cases hb1 : bigT l
  · rw [hb1] at HBl
    cases hb2 : bigT m
    · rw [hb2] at HBm
      cases hb3 : bigT path
      · rw [hb3] at HBp
        by_cases h300 : 300 < s.size
        · clear hL hM hP hG hb1 hb2 hb3
          go_enter Tryd.func21, Tryd.ntmps21
          go_wp2_with fail
          refine HBl.out.mono ?_
          rintro e w0 ⟨rfl, rfl⟩
          go_wp2_with fail
          refine HBm.out.mono ?_
          rintro e w0 ⟨rfl, rfl⟩
          go_wp2_with fail
          refine HBp.out.mono ?_
          rintro e w0 ⟨rfl, rfl⟩
          go_wp2_with fail
          go_ret
          exact ⟨rfl, Below.refl _ _⟩
        · obtain ⟨_, q2, q3⟩ := bigT_no hb1
          obtain ⟨_, r2, r3⟩ := bigT_no hb2
          obtain ⟨_, u2, u3⟩ := bigT_no hb3
          exact tshows_in l m i s path A1 A2 A3 n1 c1 n2 c2 n3 c3 w hG hL hM hP (by rw [← hL.1]; exact q2) (by rw [← hM.1]; exact r2) (by rw [← hP.1]; exact u2) q3 r3 u3 (by omega) hb1 hb2 hb3
      · rw [hb3] at HBp
        clear hL hM hP hG hb1 hb2 hb3
        go_enter Tryd.func21, Tryd.ntmps21
        go_wp2_with fail
        refine HBl.out.mono ?_
        rintro e w0 ⟨rfl, rfl⟩
        go_wp2_with fail
        refine HBm.out.mono ?_
        rintro e w0 ⟨rfl, rfl⟩
        go_wp2_with fail
        refine HBp.out.mono ?_
        rintro e w0 ⟨rfl, rfl⟩
        go_wp2_with fail
        go_ret
        exact ⟨rfl, Below.refl _ _⟩
    · rw [hb2] at HBm
      clear hL hM hP hG hb1 hb2
      go_enter Tryd.func21, Tryd.ntmps21
      go_wp2_with fail
      refine HBl.out.mono ?_
      rintro e w0 ⟨rfl, rfl⟩
      go_wp2_with fail
      refine HBm.out.mono ?_
      rintro e w0 ⟨rfl, rfl⟩
      go_wp2_with fail
      go_ret
      exact ⟨rfl, Below.refl _ _⟩
  · rw [hb1] at HBl
    clear hL hM hP hG hb1
    go_enter Tryd.func21, Tryd.ntmps21
    go_wp2_with fail
    refine HBl.out.mono ?_
    rintro e w0 ⟨rfl, rfl⟩
    go_wp2_with fail
    go_ret
    exact ⟨rfl, Below.refl _ _⟩
end Go.Proofs.YtkaaicmadknjcaaDoor
