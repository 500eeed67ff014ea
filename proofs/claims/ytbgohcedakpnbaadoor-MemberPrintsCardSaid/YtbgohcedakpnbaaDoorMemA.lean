/- member: Name. -/
import Derived.Test.YtbgohcedakpnbaaDoorMemP
import Derived.Test.YtbgohcedakpnbaaDoorRow
set_option linter.unusedVariables false
set_option linter.unusedSimpArgs false
namespace Go.Proofs.YtbgohcedakpnbaaDoor
open Go.RowKit
theorem nameC_iff (c : UInt8) : nameC c = true ↔ (97 ≤ c.toNat ∧ c.toNat ≤ 122) ∨ (48 ≤ c.toNat ∧ c.toNat ≤ 57) := by simp [nameC, letC, digC]
theorem nameC_no {c : UInt8} (h : ¬ ((97 ≤ c.toNat ∧ c.toNat ≤ 122) ∨ (48 ≤ c.toNat ∧ c.toNat ≤ 57))) : nameC c = false := by
  cases e : nameC c with
  | false => rfl
  | true => exact absurd ((nameC_iff c).1 e) h
set_option maxRecDepth 100000 in
set_option maxHeartbeats 2000000 in
theorem name_any (s : ByteArray) (w : World) (hs : s.size ≤ 140737488351232) :
    Calls Tryd.prog 21 #[.string s] w fun e w' => e = .returned (.bool (nameB s)) ∧ w = w' := by
  by_cases h1 : s.size < 1
  · rw [nameB_size (.inl h1)]
    have t1 : decide ((s.size : Int) < 1) = true := by simp; omega
    clear h1
    go_enter Tryd.func21, Tryd.ntmps21
    go_wp2_with fail
    go_ret
    exact ⟨rfl, rfl⟩
  · by_cases h2 : 20 < s.size
    · rw [nameB_size (.inr h2)]
      have t1 : decide ((s.size : Int) < 1) = false := by simp; omega
      have t2 : decide (20 < (s.size : Int)) = true := by simp; omega
      clear h1 h2
      go_enter Tryd.func21, Tryd.ntmps21
      go_wp2_with fail
      go_ret
      exact ⟨rfl, rfl⟩
    · have t1 : decide ((s.size : Int) < 1) = false := by simp; omega
      have t2 : decide (20 < (s.size : Int)) = false := by simp; omega
      obtain ⟨V, hV⟩ : ∃ V, nameB s = V := ⟨_, rfl⟩
      rw [hV]
      have HV := Lib.hid hV
      have hp : 1 ≤ s.size := by omega
      have hq : s.size ≤ 20 := by omega
      clear hV h1 h2
      go_enter Tryd.func21, Tryd.ntmps21
      go_wp2_with fail
      go_loopw [16] (fun iv wr => ∃ k : Nat, k ≤ s.size ∧ iv = .int .i64 k ∧ Hid (∀ i (hi : i < s.size), i < k → nameC s[i] = true) ∧ w = wr) (fun iv _ => s.size - (intOf iv).toNat)
      case atStart => exact ⟨0, by omega, rfl, Lib.hid (fun i hi h => absurd h (by omega)), rfl⟩
      case round =>
        obtain ⟨k, hk, rfl, HD, rfl⟩ := hrel
        by_cases hlt : k < s.size
        · have hbk := (s[k]'hlt).toNat_lt
          have k0 : (0 : Int) ≤ (k : Int) := by omega
          have k1 : (k : Int) < (s.size : Int) := by omega
          have hcase : (s[k]'hlt).toNat < 48 ∨ (48 ≤ (s[k]'hlt).toNat ∧ (s[k]'hlt).toNat ≤ 57) ∨ (58 ≤ (s[k]'hlt).toNat ∧ (s[k]'hlt).toNat ≤ 96) ∨ (97 ≤ (s[k]'hlt).toNat ∧ (s[k]'hlt).toNat ≤ 122) ∨ 123 ≤ (s[k]'hlt).toNat := by omega
          rcases hcase with hc | hc | hc | hc | hc
          · have u0 : decide (97 ≤ ((s[k]'hlt).toNat : Int)) = false := by simp; omega
            have u1 : decide (48 ≤ ((s[k]'hlt).toNat : Int)) = false := by simp; omega
            have hv : V = false := by rw [← HV.out]; exact nameB_no hlt (nameC_no (by omega))
            subst hv
            clear hc
            go_wp2_with fail
            go_ret
            exact ⟨rfl, rfl⟩
          · have u0 : decide (97 ≤ ((s[k]'hlt).toNat : Int)) = false := by simp; omega
            have u1 : decide (48 ≤ ((s[k]'hlt).toNat : Int)) = true := by simp; omega
            have u2 : decide (((s[k]'hlt).toNat : Int) ≤ 57) = true := by simp; omega
            have HD2 : Hid (∀ i (hi : i < s.size), i < k + 1 → nameC s[i] = true) := Lib.hid (fun i hi h => by
              by_cases e : i = k
              · subst e
                exact (nameC_iff _).2 (by omega)
              · exact HD.out i hi (by omega))
            clear hc HD
            go_wp2_with fail
            go_roundw
            case rel => exact ⟨k + 1, by omega, by go_num, HD2, by first | trivial | rfl⟩
            case measure => simp [intOf]; omega
          · have u0 : decide (97 ≤ ((s[k]'hlt).toNat : Int)) = false := by simp; omega
            have u1 : decide (48 ≤ ((s[k]'hlt).toNat : Int)) = true := by simp; omega
            have u2 : decide (((s[k]'hlt).toNat : Int) ≤ 57) = false := by simp; omega
            have hv : V = false := by rw [← HV.out]; exact nameB_no hlt (nameC_no (by omega))
            subst hv
            clear hc
            go_wp2_with fail
            go_ret
            exact ⟨rfl, rfl⟩
          · have u0 : decide (97 ≤ ((s[k]'hlt).toNat : Int)) = true := by simp; omega
            have u1 : decide (((s[k]'hlt).toNat : Int) ≤ 122) = true := by simp; omega
            have u2 : decide (48 ≤ ((s[k]'hlt).toNat : Int)) = true := by simp; omega
            have u3 : decide (((s[k]'hlt).toNat : Int) ≤ 57) = false := by simp; omega
            have HD2 : Hid (∀ i (hi : i < s.size), i < k + 1 → nameC s[i] = true) := Lib.hid (fun i hi h => by
              by_cases e : i = k
              · subst e
                exact (nameC_iff _).2 (by omega)
              · exact HD.out i hi (by omega))
            clear hc HD
            go_wp2_with fail
            go_roundw
            case rel => exact ⟨k + 1, by omega, by go_num, HD2, by first | trivial | rfl⟩
            case measure => simp [intOf]; omega
          · have u0 : decide (97 ≤ ((s[k]'hlt).toNat : Int)) = true := by simp; omega
            have u1 : decide (((s[k]'hlt).toNat : Int) ≤ 122) = false := by simp; omega
            have u2 : decide (48 ≤ ((s[k]'hlt).toNat : Int)) = true := by simp; omega
            have u3 : decide (((s[k]'hlt).toNat : Int) ≤ 57) = false := by simp; omega
            have hv : V = false := by rw [← HV.out]; exact nameB_no hlt (nameC_no (by omega))
            subst hv
            clear hc
            go_wp2_with fail
            go_ret
            exact ⟨rfl, rfl⟩
        · have hv : V = true := by rw [← HV.out]; exact nameB_all hp hq (fun i hi => HD.out i hi (by omega))
          subst hv
          obtain rfl : k = s.size := by omega
          go_wp2_with fail
          go_ret
          exact ⟨rfl, rfl⟩
end Go.Proofs.YtbgohcedakpnbaaDoor
/- member: Check. -/
namespace Go.Proofs.YtbgohcedakpnbaaDoor
open Go.RowKit
def recV (r : Rec) (A : Option Addr) (n c : Nat) (A' : Option Addr) (m d : Nat) : Value := .agg #[.int .i64 r.epoch, .int .i64 r.k, .slice A n c, .slice A' m d]
/-- what a row of texts tells at a place, now and later -/
theorem mrow_at {L : List ByteArray} {A : Option Addr} {n i : Nat} {w : World} (h : SlR encS 1 w w.heap.size A n L) (hi : i < n) : ∃ b off x, A = some ⟨b, off, none⟩ ∧ L[i]? = some x ∧ ∀ W, Below w.heap.size w W → ∀ k y, L[k]? = some y → W.cell? ⟨b, off + k, none⟩ = some (.string y) := by
  obtain ⟨hl, h⟩ := h
  obtain ⟨b, off, hA, hb, hC⟩ := h.resolve_left (by omega)
  refine ⟨b, off, _, hA, List.getElem?_eq_getElem (by omega), fun W hW k y hk => ?_⟩
  rw [hW.cell hb]
  exact hC.str hk
theorem check_shape {r : Rec} {n m : Nat} (h : r.names.length = n) (h2 : r.pledges.length = m) (hb : (r.epoch < 1 ∨ 1000000 < r.epoch ∨ n < 1 ∨ 16 < n) ∨ (m ≠ n ∨ r.k < 1 ∨ (n : Int) < r.k)) : checkB r = false := checkB_size (by subst h h2; omega)
set_option maxRecDepth 100000 in
set_option maxHeartbeats 4000000 in
theorem mcheck_any (r : Rec) (A A' : Option Addr) (n c m d : Nat) (w : World) (hN : SlR encS 1 w w.heap.size A n r.names) (hP : SlR encS 1 w w.heap.size A' m r.pledges) (hsn : ∀ s ∈ r.names, s.size ≤ 140737488351232) (hsp : ∀ s ∈ r.pledges, s.size ≤ 140737488351232) :
    Calls Tryd.prog 19 #[recV r A n c A' m d] w fun e w' => e = .returned (.bool (checkB r)) ∧ Below w.heap.size w w' := by
  obtain ⟨V, hV⟩ : ∃ V, checkB r = V := ⟨_, rfl⟩
  rw [hV]
  have hln := hN.1
  have hlp := hP.1
  have HV := Lib.hid hV
  clear hV
  unfold recV
  by_cases hb1 : r.epoch < 1 ∨ 1000000 < r.epoch ∨ n < 1 ∨ 16 < n
  · have hv : V = false := by rw [← HV.out]; exact check_shape hln hlp (.inl hb1)
    subst hv
    have hc : decide (r.epoch < 1) = true ∨ (decide (r.epoch < 1) = false ∧ decide (1000000 < r.epoch) = true) ∨ (decide (r.epoch < 1) = false ∧ decide (1000000 < r.epoch) = false ∧ decide ((n : Int) < 1) = true) ∨
        (decide (r.epoch < 1) = false ∧ decide (1000000 < r.epoch) = false ∧ decide ((n : Int) < 1) = false ∧ decide (16 < (n : Int)) = true) := by
      simp only [decide_eq_true_eq, decide_eq_false_iff_not]
      omega
    clear HV hln hlp hb1 hN hP hsn hsp
    rcases hc with t1 | ⟨t1, t2⟩ | ⟨t1, t2, t3⟩ | ⟨t1, t2, t3, t4⟩
    all_goals
      go_enter Tryd.func19, Tryd.ntmps19
      go_wp2_with fail
      go_ret
      exact ⟨rfl, by go_grown⟩
  · have t1 : decide (r.epoch < 1) = false := by simp; omega
    have t2 : decide (1000000 < r.epoch) = false := by simp; omega
    have t3 : decide ((n : Int) < 1) = false := by simp; omega
    have t4 : decide (16 < (n : Int)) = false := by simp; omega
    by_cases hb2 : m ≠ n ∨ r.k < 1 ∨ (n : Int) < r.k
    · have hv : V = false := by rw [← HV.out]; exact check_shape hln hlp (.inr hb2)
      subst hv
      have hc : ((m : Int) != (n : Int)) = true ∨ (((m : Int) != (n : Int)) = false ∧ decide (r.k < 1) = true) ∨ (((m : Int) != (n : Int)) = false ∧ decide (r.k < 1) = false ∧ decide ((n : Int) < r.k) = true) := by
        simp only [bne_iff_ne, bne_eq_false_iff_eq, decide_eq_true_eq, decide_eq_false_iff_not]
        omega
      clear HV hln hlp hb1 hb2 hN hP hsn hsp
      rcases hc with t5 | ⟨t5, t6⟩ | ⟨t5, t6, t7⟩
      all_goals
        go_enter Tryd.func19, Tryd.ntmps19
        go_wp2_with fail
        go_ret
        exact ⟨rfl, by go_grown⟩
    · have t5 : ((m : Int) != (n : Int)) = false := by simp; omega
      have t6 : decide (r.k < 1) = false := by simp; omega
      have t7 : decide ((n : Int) < r.k) = false := by simp; omega
      obtain rfl : m = n := by omega
      have hn1 : 1 ≤ m := by omega
      obtain ⟨b, off, x0, rfl, hx0, hcn⟩ := mrow_at hN hn1
      obtain ⟨b', off', y0, rfl, hy0, hcp⟩ := mrow_at hP hn1
      have HCN := Lib.hid hcn
      have HCP := Lib.hid hcp
      have HSn := Lib.hid hsn
      have HSp := Lib.hid hsp
      have hm16 : m ≤ 16 := by omega
      have HY : Hid ((∀ i, i < m → placeB r i = true) → V = true) := Lib.hid (fun h => by
        rw [← HV.out]
        exact (checkB_iff r).2 ⟨by rw [hln]; omega, fun i hi => h i (by omega)⟩)
      have HNo : Hid (∀ i, i < m → placeB r i = false → V = false) := Lib.hid (fun i hi h => by
        rw [← HV.out]
        exact checkB_at (by omega) h)
      have HLn := Lib.hid hln
      have HLp := Lib.hid hlp
      clear hcn hcp hx0 hy0 hsn hsp hN hP hb1 hb2 HV hln hlp
      go_enter Tryd.func19, Tryd.ntmps19
      go_wp2_with fail
      go_loopw [44] (fun iv wr => ∃ i : Nat, i ≤ m ∧ iv = .int .i64 i ∧ Hid (∀ j, j < i → placeB r j = true) ∧ Hid (w.alloc (.cells #[.int .i64 r.epoch, .int .i64 r.k, .slice (some ⟨b, off, none⟩) m c, .slice (some ⟨b', off', none⟩) m d] 24) = wr)) (fun iv _ => m - (intOf iv).toNat)
      case atStart => exact ⟨0, by omega, rfl, Lib.hid (fun j hj => absurd hj (by omega)), Lib.hid rfl⟩
      case round =>
        obtain ⟨i, hi, rfl, HD, HW⟩ := hrel
        have hBr : Below w.heap.size w wr := by rw [← HW.out]; go_grown
        have hbx : Blk wr w.heap.size 24 #[.int .i64 r.epoch, .int .i64 r.k, .slice (some ⟨b, off, none⟩) m c, .slice (some ⟨b', off', none⟩) m d] := by rw [← HW.out]; exact Blk.new w _ _
        by_cases hlt : i < m
        · obtain ⟨x, hx⟩ : ∃ x, r.names[i]? = some x := ⟨_, List.getElem?_eq_getElem (by rw [HLn.out]; exact hlt)⟩
          obtain ⟨y, hy⟩ : ∃ y, r.pledges[i]? = some y := ⟨_, List.getElem?_eq_getElem (by rw [HLp.out]; exact hlt)⟩
          have cx := HCN.out wr hBr i x hx
          have cy := HCP.out wr hBr i y hy
          have q2 := hbx.cells 2 _ rfl
          have q3 := hbx.cells 3 _ rfl
          simp only [List.getElem_toArray, List.getElem_cons_zero, List.getElem_cons_succ] at q2 q3
          have hxs := HSn.out x (List.mem_of_getElem? hx)
          have hys := HSp.out y (List.mem_of_getElem? hy)
          have i0 : (0 : Int) ≤ (i : Int) := by omega
          have i1 : (i : Int) < (m : Int) := by omega
          have hpl : placeB r i = (nameB x && (decide (y.size = 32) && (decide (i = 0) || !leS x (r.names.getD (i - 1) ⟨#[]⟩)))) := by
            unfold placeB
            rw [mgetD_at hx, mgetD_at hy]
          have HPL := Lib.hid hpl
          have Hx := Lib.hid hx
          clear hx hy hpl hbx
          cases hnm : nameB x
          · have hv : V = false := HNo.out i hlt (by rw [HPL.out, hnm]; rfl)
            subst hv
            go_wp2_with fail
            refine (name_any x _ hxs).mono ?_
            rintro e w2 ⟨rfl, rfl⟩
            rw [hnm]
            go_wp2_with fail
            go_ret
            exact ⟨rfl, hBr⟩
          · by_cases h32 : y.size = 32
            · have u1 : ((y.size : Int) != 32) = false := by simp; omega
              have HNM := Lib.hid hnm
              by_cases hz : i = 0
              · subst hz
                have HD2 : Hid (∀ j, j < 0 + 1 → placeB r j = true) := Lib.hid (fun j hj => by
                  obtain rfl : j = 0 := by omega
                  rw [HPL.out, HNM.out, decide_eq_true h32]; rfl)
                have cx0 : wr.cell? ⟨b, off, none⟩ = some (.string x) := by simpa using cx
                have cy0 : wr.cell? ⟨b', off', none⟩ = some (.string y) := by simpa using cy
                clear hnm cx cy
                go_wp2_with fail
                refine (name_any x _ hxs).mono ?_
                rintro e w2 ⟨rfl, rfl⟩
                rw [HNM.out]
                go_wp2_with fail
                go_roundw
                case rel => exact ⟨1, by omega, by go_num, HD2, HW⟩
                case measure => simp [intOf]; omega
              · obtain ⟨j, rfl⟩ : ∃ j, i = j + 1 := ⟨i - 1, by omega⟩
                obtain ⟨z, hz2⟩ : ∃ z, r.names[j]? = some z := ⟨_, List.getElem?_eq_getElem (by rw [HLn.out]; omega)⟩
                have cz := HCN.out wr hBr j z hz2
                have hzs := HSn.out z (List.mem_of_getElem? hz2)
                have u2 : ((j + 1 : Nat) : Int) - 1 = (j : Int) := by omega
                have u2' : (j : Int) + 1 - 1 = (j : Int) := by omega
                have u3 : decide ((0 : Int) < ((j + 1 : Nat) : Int)) = true := by first | (simp; done) | (simp; omega)
                have u3' : decide ((0 : Int) < (j : Int) + 1) = true := by first | (simp; done) | (simp; omega)
                have j0 : (0 : Int) ≤ (j : Int) := by omega
                have j1 : (j : Int) < (m : Int) := by omega
                have hpl2 : placeB r (j + 1) = !leS x z := by
                  rw [HPL.out, HNM.out, decide_eq_true h32, decide_eq_false (by omega), show j + 1 - 1 = j by omega, mgetD_at hz2]
                  rfl
                have HPL2 := Lib.hid hpl2
                clear hpl2 hz2 hnm hz
                obtain ⟨q, hq⟩ : ∃ q, leS x z = q := ⟨_, rfl⟩
                have HQ := Lib.hid hq
                have hles : (Op.bytesLess x.toList z.toList || (x.toList == z.toList)) = q := hq
                clear hq
                cases q
                · have HD2 : Hid (∀ k, k < j + 1 + 1 → placeB r k = true) := Lib.hid (fun k hk => by
                    by_cases e : k = j + 1
                    · rw [e, HPL2.out, HQ.out]; rfl
                    · exact HD.out k (by omega))
                  have l1 : Op.bytesLess x.toList z.toList = false := by simpa using (Bool.or_eq_false_iff.1 hles).1
                  have l2 : (x.toList == z.toList) = false := (Bool.or_eq_false_iff.1 hles).2
                  clear hles
                  go_wp2_with fail
                  refine (name_any x _ hxs).mono ?_
                  rintro e w2 ⟨rfl, rfl⟩
                  rw [HNM.out]
                  go_wp2_with fail
                  go_roundw
                  case rel => exact ⟨j + 1 + 1, by omega, by go_num, HD2, HW⟩
                  case measure => simp [intOf]; omega
                · have hv : V = false := HNo.out (j + 1) hlt (by rw [HPL2.out, HQ.out]; rfl)
                  subst hv
                  have hl : Op.bytesLess x.toList z.toList = true ∨ (Op.bytesLess x.toList z.toList = false ∧ (x.toList == z.toList) = true) := by
                    cases hll : Op.bytesLess x.toList z.toList
                    · rw [hll] at hles
                      exact .inr ⟨rfl, by simpa using hles⟩
                    · exact .inl rfl
                  clear hles
                  rcases hl with l1 | ⟨l1, l2⟩
                  all_goals
                    go_wp2_with fail
                    refine (name_any x _ hxs).mono ?_
                    rintro e w2 ⟨rfl, rfl⟩
                    rw [HNM.out]
                    go_wp2_with fail
                    go_ret
                    exact ⟨rfl, hBr⟩
            · have hv : V = false := HNo.out i hlt (by rw [HPL.out, hnm, decide_eq_false h32]; rfl)
              subst hv
              have u1 : ((y.size : Int) != 32) = true := by simp; omega
              have HNM := Lib.hid hnm
              clear hnm
              go_wp2_with fail
              refine (name_any x _ hxs).mono ?_
              rintro e w2 ⟨rfl, rfl⟩
              rw [HNM.out]
              go_wp2_with fail
              go_ret
              exact ⟨rfl, hBr⟩
        · obtain rfl : i = m := by omega
          have hv : V = true := HY.out HD.out
          subst hv
          clear hbx
          go_wp2_with fail
          go_ret
          exact ⟨rfl, hBr⟩
end Go.Proofs.YtbgohcedakpnbaaDoor
/- member: Place; is a record large? -/
namespace Go.Proofs.YtbgohcedakpnbaaDoor
open Go.RowKit
def bigL (L : List ByteArray) : Bool := decide (L.length ≤ 30) && L.any fun s => decide (100 < s.size)
def bigR (r : Rec) : Bool := bigL r.names || (bigL r.pledges || (decide (30 < r.names.length) || decide (30 < r.pledges.length)))
theorem bigL_at {L : List ByteArray} {i : Nat} {x : ByteArray} (hl : L.length ≤ 30) (h : L[i]? = some x) (hx : 100 < x.size) : bigL L = true := by
  unfold bigL
  rw [decide_eq_true hl, Bool.true_and, List.any_eq_true]
  exact ⟨x, List.mem_of_getElem? h, decide_eq_true hx⟩
theorem bigL_no {L : List ByteArray} (h : ∀ (i : Nat) x, L[i]? = some x → x.size ≤ 100) : bigL L = false := by
  unfold bigL
  rw [Bool.and_eq_false_iff]
  right
  rw [List.any_eq_false]
  intro x hx
  obtain ⟨i, hi⟩ := List.getElem?_of_mem hx
  have := h i x hi
  simp; omega
theorem bigL_long {L : List ByteArray} (h : 30 < L.length) : bigL L = false := by
  unfold bigL
  rw [decide_eq_false (by omega)]; rfl
set_option maxRecDepth 100000 in
set_option maxHeartbeats 4000000 in
theorem mplace_any (r : Rec) (s : ByteArray) (A A' : Option Addr) (n c m d : Nat) (w : World) (hN : SlR encS 1 w w.heap.size A n r.names) (hP : SlR encS 1 w w.heap.size A' m r.pledges) (hsn : ∀ s ∈ r.names, s.size ≤ 140737488351232) (hsp : ∀ s ∈ r.pledges, s.size ≤ 140737488351232) :
    Calls Tryd.prog 16 #[recV r A n c A' m d, .string s] w fun e w' => e = .returned (.tuple #[.int .i64 (placeF r s).1, .bool (placeF r s).2]) ∧ Below w.heap.size w w' := by
  obtain ⟨V, hV⟩ : ∃ V, placeF r s = V := ⟨_, rfl⟩
  rw [hV]
  have HV := Lib.hid hV
  have hB0 : Below w.heap.size w (w.alloc (.cells #[.int .i64 r.epoch, .int .i64 r.k, .slice A n c, .slice A' m d] 24)) := by go_grown
  have hC := mcheck_any r A A' n c m d (w.alloc (.cells #[.int .i64 r.epoch, .int .i64 r.k, .slice A n c, .slice A' m d] 24)) ((hN.below hB0).more hB0.size) ((hP.below hB0).more hB0.size) hsn hsp
  have HC := Lib.hid hC
  have hln := hN.1
  cases hck : checkB r
  · have hv : V = (0, false) := by rw [← HV.out]; unfold placeF; rw [hck]; rfl
    subst hv
    rw [hck] at HC
    clear HV hC hN hP hsn hsp hB0 hln hck
    unfold recV at HC ⊢
    go_enter Tryd.func16, Tryd.ntmps16
    go_wp2_with fail
    refine HC.out.mono ?_
    rintro e w1 ⟨rfl, hb1⟩
    go_wp2_with fail
    go_ret2
    exact ⟨rfl, Below.trans (by go_grown) (hb1.mono (by simp))⟩
  · rw [hck] at HC
    have hn1 := ((checkB_iff r).1 hck).1.2.2.1
    have hn16 := ((checkB_iff r).1 hck).1.2.2.2.1
    rw [hln] at hn1 hn16
    obtain ⟨b, off, x0, rfl, hx0, hcn⟩ := mrow_at hN hn1
    have HCN := Lib.hid hcn
    have HSn := Lib.hid hsn
    have HLn := Lib.hid hln
    have HY : Hid ((∀ j, j < n → ((r.names.getD j ⟨#[]⟩).toList == s.toList) = false) → V = (0, false)) := Lib.hid (fun h => by
      rw [← HV.out]
      unfold placeF
      rw [if_pos hck, hln, findAt_none h])
    have HF : Hid (∀ j, j < n → ((r.names.getD j ⟨#[]⟩).toList == s.toList) = true → (∀ i, i < j → ((r.names.getD i ⟨#[]⟩).toList == s.toList) = false) → V = ((j : Int) + 1, true)) := Lib.hid (fun j hj h h0 => by
      rw [← HV.out]
      unfold placeF
      rw [if_pos hck, hln, findAt_some hj h h0])
    clear hC hcn hx0 hsn hsp hN hP hB0 hln hck HV
    unfold recV at HC ⊢
    go_enter Tryd.func16, Tryd.ntmps16
    go_wp2_with fail
    refine HC.out.mono ?_
    rintro e w1 ⟨rfl, hb1⟩
    have hbx : Blk w1 w.heap.size 24 #[.int .i64 r.epoch, .int .i64 r.k, .slice (some ⟨b, off, none⟩) n c, .slice A' m d] := (Blk.new w _ _).below hb1 (by simp)
    have hB1 : Below w.heap.size w w1 := Below.trans (by go_grown) (hb1.mono (by simp))
    have q2 := hbx.cells 2 _ rfl
    simp only [List.getElem_toArray, List.getElem_cons_zero, List.getElem_cons_succ] at q2
    clear hb1 hbx HC
    go_wp2_with fail
    go_loopw [14] (fun iv wr => ∃ i : Nat, i ≤ n ∧ iv = .int .i64 i ∧ Hid (∀ j, j < i → ((r.names.getD j ⟨#[]⟩).toList == s.toList) = false) ∧ w1 = wr) (fun iv _ => n - (intOf iv).toNat)
    case atStart => exact ⟨0, by omega, rfl, Lib.hid (fun j hj => absurd hj (by omega)), rfl⟩
    case round =>
      obtain ⟨i, hi, rfl, HD, rfl⟩ := hrel
      by_cases hlt : i < n
      · obtain ⟨x, hx⟩ : ∃ x, r.names[i]? = some x := ⟨_, List.getElem?_eq_getElem (by rw [HLn.out]; exact hlt)⟩
        have cx := HCN.out w1 hB1 i x hx
        have i0 : (0 : Int) ≤ (i : Int) := by omega
        have i1 : (i : Int) < (n : Int) := by omega
        have Hx := Lib.hid (mgetD_at hx)
        clear hx
        cases hq : (x.toList == s.toList)
        · have HD2 : Hid (∀ j, j < i + 1 → ((r.names.getD j ⟨#[]⟩).toList == s.toList) = false) := Lib.hid (fun j hj => by
            by_cases e : j = i
            · rw [e, Hx.out]; exact hq
            · exact HD.out j (by omega))
          go_wp2_with fail
          go_roundw
          case rel => exact ⟨i + 1, by omega, by go_num, HD2, by first | trivial | rfl⟩
          case measure => simp [intOf]; omega
        · have hv : V = ((i : Int) + 1, true) := HF.out i hlt (by rw [Hx.out]; exact hq) HD.out
          subst hv
          go_wp2_with fail
          go_ret2
          exact ⟨rfl, hB1⟩
      · obtain rfl : i = n := by omega
        have hv : V = (0, false) := HY.out HD.out
        subst hv
        go_wp2_with fail
        go_ret2
        exact ⟨rfl, hB1⟩
set_option maxRecDepth 100000 in
set_option maxHeartbeats 4000000 in
theorem mbig_any (r : Rec) (A A' : Option Addr) (n c m d : Nat) (w : World) (hN : SlR encS 1 w w.heap.size A n r.names) (hP : SlR encS 1 w w.heap.size A' m r.pledges) (hsn : ∀ s ∈ r.names, s.size ≤ 140737488351232) (hsp : ∀ s ∈ r.pledges, s.size ≤ 140737488351232) :
    Calls Tryd.prog 10 #[recV r A n c A' m d] w fun e w' => e = .returned (.bool (bigR r)) ∧ Below w.heap.size w w' := by
  obtain ⟨V, hV⟩ : ∃ V, bigR r = V := ⟨_, rfl⟩
  rw [hV]
  have HV := Lib.hid hV
  have hln := hN.1
  have hlp := hP.1
  have HYn : Hid (∀ (i : Nat) (x : ByteArray), n ≤ 30 → r.names[i]? = some x → 100 < x.size → V = true) := Lib.hid (fun i x hl h hx => by
    rw [← HV.out]; unfold bigR; rw [bigL_at (by omega) h hx]; rfl)
  have HYp : Hid (∀ (i : Nat) (x : ByteArray), m ≤ 30 → r.pledges[i]? = some x → 100 < x.size → V = true) := Lib.hid (fun i x hl h hx => by
    rw [← HV.out]; unfold bigR; rw [bigL_at (by omega) h hx]; simp)
  have HE : Hid ((30 < n ∨ ∀ (i : Nat) x, r.names[i]? = some x → x.size ≤ 100) → (30 < m ∨ ∀ (i : Nat) x, r.pledges[i]? = some x → x.size ≤ 100) → V = (decide (30 < n) || decide (30 < m))) := Lib.hid (fun h1 h2 => by
    have e1 : bigL r.names = false := by
      rcases h1 with h | h
      · exact bigL_long (by omega)
      · exact bigL_no h
    have e2 : bigL r.pledges = false := by
      rcases h2 with h | h
      · exact bigL_long (by omega)
      · exact bigL_no h
    rw [← HV.out]; unfold bigR; rw [e1, e2, hln, hlp]; rfl)
  have HRn : Hid (∀ i, i < n → ∃ b off x, A = some ⟨b, off, none⟩ ∧ r.names[i]? = some x ∧ x.size ≤ 140737488351232 ∧ ∀ W, Below w.heap.size w W → W.cell? ⟨b, off + i, none⟩ = some (.string x)) := Lib.hid (fun i hi => by
    obtain ⟨b, off, _, h1, _, h3⟩ := mrow_at hN hi
    have hx := List.getElem?_eq_getElem (l := r.names) (i := i) (by omega)
    exact ⟨b, off, _, h1, hx, hsn _ (List.mem_of_getElem? hx), fun W hW => h3 W hW i _ hx⟩)
  have HRp : Hid (∀ i, i < m → ∃ b off x, A' = some ⟨b, off, none⟩ ∧ r.pledges[i]? = some x ∧ x.size ≤ 140737488351232 ∧ ∀ W, Below w.heap.size w W → W.cell? ⟨b, off + i, none⟩ = some (.string x)) := Lib.hid (fun i hi => by
    obtain ⟨b, off, _, h1, _, h3⟩ := mrow_at hP hi
    have hx := List.getElem?_eq_getElem (l := r.pledges) (i := i) (by omega)
    exact ⟨b, off, _, h1, hx, hsp _ (List.mem_of_getElem? hx), fun W hW => h3 W hW i _ hx⟩)
  have HLn := Lib.hid hln
  have HLp := Lib.hid hlp
  have hcn : decide ((n : Int) ≤ 30) = decide (n ≤ 30) := decide_eq_decide.2 (by omega)
  have hcm : decide ((m : Int) ≤ 30) = decide (m ≤ 30) := decide_eq_decide.2 (by omega)
  clear HV hN hP hsn hsp hln hlp
  unfold recV
  go_enter Tryd.func10, Tryd.ntmps10
  go_wp2_with fail
  go_loopw [3] (fun iv wr => ∃ i : Nat, i ≤ n ∧ iv = .int .i64 i ∧ Hid (∀ j x, j < i → r.names[j]? = some x → x.size ≤ 100) ∧ Hid (w.alloc (.cells #[.int .i64 r.epoch, .int .i64 r.k, .slice A n c, .slice A' m d] 24) = wr)) (fun iv _ => n - (intOf iv).toNat)
  case atStart => exact ⟨0, by omega, rfl, Lib.hid (fun j x hj => absurd hj (by omega)), Lib.hid rfl⟩
  case round =>
    obtain ⟨i, hi, rfl, HD, HW⟩ := hrel
    have hBr : Below w.heap.size w wr := by rw [← HW.out]; go_grown
    have hbx : Blk wr w.heap.size 24 #[.int .i64 r.epoch, .int .i64 r.k, .slice A n c, .slice A' m d] := by rw [← HW.out]; exact Blk.new w _ _
    have q2 := hbx.cells 2 _ rfl
    have q3 := hbx.cells 3 _ rfl
    simp only [List.getElem_toArray, List.getElem_cons_zero, List.getElem_cons_succ] at q2 q3
    have HBX := Lib.hid hbx
    clear hbx
    by_cases hgo : i < n ∧ n ≤ 30
    · have t1 : decide ((i : Int) < (n : Int)) = true := by simp; omega
      have t2 : decide (i < n) = true := by simp; omega
      have t3 : decide ((n : Int) ≤ 30) = true := by simp; omega
      have t4 : decide (n ≤ 30) = true := by simp; omega
      clear hcn hcm
      obtain ⟨b, off, x, rfl, hx, hxs, hc⟩ := HRn.out i hgo.1
      have cx := hc wr hBr
      have i0 : (0 : Int) ≤ (i : Int) := by omega
      have i1 : (i : Int) < (n : Int) := by omega
      clear hc
      by_cases hbig : 100 < x.size
      · have hv : V = true := HYn.out i x hgo.2 hx hbig
        subst hv
        have t5 : decide (100 < (x.size : Int)) = true := by simp; omega
        clear hgo hx hbig
        go_wp2_with fail
        go_ret
        exact ⟨rfl, hBr⟩
      · have t5 : decide (100 < (x.size : Int)) = false := by simp; omega
        have HD2 : Hid (∀ j y, j < i + 1 → r.names[j]? = some y → y.size ≤ 100) := Lib.hid (fun j y hj hy => by
          by_cases e : j = i
          · subst e
            rw [hx] at hy
            injection hy with hy
            subst hy
            omega
          · exact HD.out j y (by omega) hy)
        have HIN := Lib.hid hgo.1
        have hi30 : i ≤ 30 := by omega
        clear hgo hx hbig
        go_wp2_with fail
        go_roundw
        case rel => exact ⟨i + 1, by have := HIN.out; omega, by go_num, HD2, HW⟩
        case measure => have := HIN.out; simp [intOf]; omega
    · have hcase : (decide ((i : Int) < (n : Int)) = false ∧ decide (i < n) = false) ∨ (decide ((i : Int) < (n : Int)) = true ∧ decide (i < n) = true ∧ decide ((n : Int) ≤ 30) = false ∧ decide (n ≤ 30) = false) := by
        simp only [decide_eq_true_eq, decide_eq_false_iff_not]
        omega
      have HN1 : Hid (30 < n ∨ ∀ (j : Nat) y, r.names[j]? = some y → y.size ≤ 100) := Lib.hid (by
        by_cases h : 30 < n
        · exact .inl h
        · refine .inr (fun j y hy => HD.out j y ?_ hy)
          have := (List.getElem?_eq_some_iff.1 hy).1
          rw [HLn.out] at this
          omega)
      clear HD hgo
      obtain ⟨wo, rfl⟩ : ∃ W : World, W = wr := ⟨wr, rfl⟩
      have go2 : ∀ (hfin : True), True := fun _ => trivial
      clear go2 hcn hcm
      rcases hcase with ⟨t1, t2⟩ | ⟨t1, t2, t3, t4⟩
      all_goals
        go_wp2_with fail
        go_loopw [4] (fun iv wr => ∃ i : Nat, i ≤ m ∧ iv = .int .i64 i ∧ Hid (∀ j x, j < i → r.pledges[j]? = some x → x.size ≤ 100) ∧ wo = wr) (fun iv _ => m - (intOf iv).toNat)
        case atStart => exact ⟨0, by omega, rfl, Lib.hid (fun j x hj => absurd hj (by omega)), rfl⟩
        case round =>
          obtain ⟨k, hk, rfl, HD, rfl⟩ := hrel
          by_cases hgo : k < m ∧ m ≤ 30
          · have s1 : decide ((k : Int) < (m : Int)) = true := by simp; omega
            have s2 : decide (k < m) = true := by simp; omega
            have s3 : decide ((m : Int) ≤ 30) = true := by simp; omega
            have s4 : decide (m ≤ 30) = true := by simp; omega
            obtain ⟨b, off, x, rfl, hx, hxs, hc⟩ := HRp.out k hgo.1
            have cx := hc wo hBr
            have i0 : (0 : Int) ≤ (k : Int) := by omega
            have i1 : (k : Int) < (m : Int) := by omega
            clear hc
            by_cases hbig : 100 < x.size
            · have hv : V = true := HYp.out k x hgo.2 hx hbig
              subst hv
              have t5 : decide (100 < (x.size : Int)) = true := by simp; omega
              clear hgo hx hbig
              go_wp2_with fail
              go_ret
              exact ⟨rfl, hBr⟩
            · have t5 : decide (100 < (x.size : Int)) = false := by simp; omega
              have HD2 : Hid (∀ j y, j < k + 1 → r.pledges[j]? = some y → y.size ≤ 100) := Lib.hid (fun j y hj hy => by
                by_cases e : j = k
                · subst e
                  rw [hx] at hy
                  injection hy with hy
                  subst hy
                  omega
                · exact HD.out j y (by omega) hy)
              have HIN := Lib.hid hgo.1
              have hi30 : k ≤ 30 := by omega
              clear hgo hx hbig
              go_wp2_with fail
              go_roundw
              case rel => exact ⟨k + 1, by have := HIN.out; omega, by go_num, HD2, by first | trivial | rfl⟩
              case measure => have := HIN.out; simp [intOf]; omega
          · have hcase : (decide ((k : Int) < (m : Int)) = false ∧ decide (k < m) = false) ∨ (decide ((k : Int) < (m : Int)) = true ∧ decide (k < m) = true ∧ decide ((m : Int) ≤ 30) = false ∧ decide (m ≤ 30) = false) := by
              simp only [decide_eq_true_eq, decide_eq_false_iff_not]
              omega
            have hv : V = (decide (30 < n) || decide (30 < m)) := HE.out HN1.out (by
              by_cases h : 30 < m
              · exact .inl h
              · refine .inr (fun j y hy => HD.out j y ?_ hy)
                have := (List.getElem?_eq_some_iff.1 hy).1
                rw [HLp.out] at this
                omega)
            clear HD hgo
            obtain ⟨g1, hg1⟩ : ∃ g, decide (30 < n) = g := ⟨_, rfl⟩
            obtain ⟨g2, hg2⟩ : ∃ g, decide (30 < m) = g := ⟨_, rfl⟩
            have hg1i : decide (30 < (n : Int)) = g1 := by rw [← hg1]; exact decide_eq_decide.2 (by omega)
            have hg2i : decide (30 < (m : Int)) = g2 := by rw [← hg2]; exact decide_eq_decide.2 (by omega)
            rw [hg1, hg2] at hv
            subst hv
            rcases hcase with ⟨s1, s2⟩ | ⟨s1, s2, s3, s4⟩
            all_goals
              cases g1
              all_goals
                go_wp2_with fail
                go_ret
                exact ⟨by simp, hBr⟩
end Go.Proofs.YtbgohcedakpnbaaDoor
