/- chapter 11's reference: Ways, Climb, Check. -/
import Derived.Test.YtkaaicmadknjcaaDoorTreF
import Derived.Test.YtkaaicmadknjcaaDoorTreR
set_option linter.unusedVariables false
set_option linter.unusedSimpArgs false
namespace Go.Proofs.YtkaaicmadknjcaaDoor
open Go.RowKit
/-- what Ways tells, and leaves -/
def WaysPost (i : Int) (s : ByteArray) (path : List ByteArray) (n : Nat) (w : World) (e : Ending) (w' : World) : Prop :=
  Below w.heap.size w w' ∧ ((climbOk i path = true ∧ ∃ A c, e = .returned (.tuple #[.slice A (n + 1) c, .bool true]) ∧ Hid (SRow w' w.heap.size (.slice A (n + 1) c) (waysB i.toNat s path (n + 1)))) ∨
    (climbOk i path = false ∧ e = .returned (.tuple #[.slice none 0 0, .bool false])))
theorem rways_out (i : Int) (s : ByteArray) (path : List ByteArray) (A : Option Addr) (n c : Nat) (w : World) (hl : path.length = n) (hn : n ≤ 140737488351232) (h : (decide (n ≤ 10) && hasI (2 ^ n) i) = false) :
    Calls Tryd.prog 118 #[.int .i64 i, .string s, .slice A n c] w (WaysPost i s path n w) := by
  have hk : climbOk i path = false := by
    unfold climbOk
    rw [hl, ← Bool.and_assoc, h]; rfl
  have HK := Lib.hid hk
  simp only [hasI, Bool.and_eq_false_iff, decide_eq_false_iff_not] at h
  clear hk hl
  by_cases h10 : 10 < n
  · clear h
    go_enter Tryd.func118, Tryd.ntmps118
    go_wp2
    go_ret2
    exact ⟨Below.refl _ _, .inr ⟨HK.out, rfl⟩⟩
  · by_cases h0 : i < 0
    · clear h
      go_enter Tryd.func118, Tryd.ntmps118
      go_wp2
      go_ret2
      exact ⟨Below.refl _ _, .inr ⟨HK.out, rfl⟩⟩
    · have h1 : ((2 ^ n : Nat) : Int) ≤ i := by omega
      have hp1 : 1 ≤ 2 ^ n := Nat.one_le_two_pow
      have hp2 : 2 ^ n ≤ 1024 := Nat.le_trans (pow_le_two (by omega : n ≤ 10)) (by decide)
      have HW := Lib.hid (rwide_any n w (by omega))
      generalize 2 ^ n = p at *
      clear h
      go_enter Tryd.func118, Tryd.ntmps118
      go_wp2_with fail
      refine HW.out.mono ?_
      rintro e w1 ⟨rfl, rfl⟩
      go_wp2_with fail
      go_ret2
      exact ⟨Below.refl _ _, .inr ⟨HK.out, rfl⟩⟩
set_option maxRecDepth 100000 in
set_option maxHeartbeats 1000000 in
theorem rways_in (i : Nat) (s : ByteArray) (path : List ByteArray) (A : Option Addr) (n c : Nat) (w : World) (hL : SlR encS 1 w w.heap.size A n path) (hn : n ≤ 10) (hi : i < 2 ^ n) (hs : s.size ≤ 500000) (hp : ∀ p ∈ path, p.size ≤ 200) :
    Calls Tryd.prog 118 #[.int .i64 i, .string s, .slice A n c] w (WaysPost i s path n w) := by
  have hok : climbOk i path = all32 path := by
    have h1 : decide ((i : Int) < ((2 ^ n : Nat) : Int)) = true := by rw [decide_eq_true_eq]; exact Int.ofNat_lt.2 hi
    have h2 : decide (n ≤ 10) = true := by rw [decide_eq_true_eq]; exact hn
    have h3 : decide ((0 : Int) ≤ (i : Int)) = true := by rw [decide_eq_true_eq]; omega
    unfold climbOk hasI all32
    rw [hL.1, h1, h2, h3]
    rfl
  have HNo : Hid (∀ (k : Nat) (x : ByteArray), path[k]? = some x → x.size ≠ 32 → climbOk i path = false) := Lib.hid (fun k x hx h => by
    rw [hok]
    unfold all32
    exact all_no hx (by simpa using h))
  have HYes : Hid ((∀ (j : Nat) x, path[j]? = some x → x.size = 32) → climbOk i path = true) := Lib.hid (fun h => by
    rw [hok]
    unfold all32
    rw [List.all_eq_true]
    intro p hp
    obtain ⟨j, hj⟩ := List.getElem?_of_mem hp
    simp [h j p hj])
  have HC : Hid (∀ W, Below w.heap.size w W → ∀ k x, path[k]? = some x → ∃ b off, A = some ⟨b, off, none⟩ ∧ W.cell? ⟨b, off + k, none⟩ = some (.string x)) := Lib.hid (fun W hb => strs_at (hL.below hb))
  have HLn := Lib.hid hL.1
  have HSz : Hid (∀ k, (wayB i s path k).size ≤ 600000) := Lib.hid (fun k => by have := wayB_size i s path hp k; omega)
  have HP := Lib.hid hp
  have hp1 : 1 ≤ 2 ^ n := Nat.one_le_two_pow
  have hp2 : 2 ^ n ≤ 1024 := Nat.le_trans (pow_le_two (by omega : n ≤ 10)) (by decide)
  have HW := Lib.hid (rwide_any n w (by omega))
  have hi2 : i < 1024 := by omega
  have HI2 : Hid (((i : Nat) : Int).toNat = i) := Lib.hid (by simp)
  have HO : Hid (SRow (w.alloc (.cells #[.string (leafT s)] 9)) w.heap.size (.slice (some ⟨w.heap.size, 0, none⟩) 1 1) (waysB i s path 1)) := Lib.hid (orow_new (L := waysB i s path 1) encS_len (Blk.new w _ _) (Nat.le_refl _) rfl (by simp [waysB, maxLen]))
  have HPost : Hid (∀ e w', (Below w.heap.size w w' ∧ ((climbOk i path = true ∧ ∃ A c, e = .returned (.tuple #[.slice A (n + 1) c, .bool true]) ∧ Hid (SRow w' w.heap.size (.slice A (n + 1) c) (waysB i s path (n + 1)))) ∨ (climbOk i path = false ∧ e = .returned (.tuple #[.slice none 0 0, .bool false])))) → WaysPost i s path n w e w') := Lib.hid (fun e w' h => by
    unfold WaysPost
    rw [HI2.out]
    exact h)
  generalize climbOk i path = ok at *
  generalize 2 ^ n = p at *
  clear hok hL hp HI2
  go_enter Tryd.func118, Tryd.ntmps118
  go_wp2_with fail
  refine HW.out.mono ?_
  rintro e w1 ⟨rfl, rfl⟩
  clear HW
  go_wp2_with fail
  refine (rofleaf_any s _ (by omega)).mono ?_
  rintro e w1 ⟨rfl, rfl⟩
  go_wp2_with fail
  go_loopw [0, 8, 9] (fun iv v kv wr => ∃ (k j : Nat) (A5 : Option Addr) (c5 : Nat), k ≤ n ∧ kv = .int .i64 k ∧ iv = .int .i64 j ∧ j < 1024 ∧ Hid (i / 2 ^ k = j) ∧ v = .slice A5 (k + 1) c5 ∧ Hid (SRow wr w.heap.size (.slice A5 (k + 1) c5) (waysB i s path (k + 1))) ∧ Hid (∀ (j : Nat) x, j < k → path[j]? = some x → x.size = 32) ∧ Below w.heap.size w wr) (fun _ _ kv _ => n - (intOf kv).toNat)
  case atStart => exact ⟨0, i, _, _, Nat.zero_le _, rfl, rfl, hi2, Lib.hid (by simp), rfl, HO, Lib.hid (fun j x h => by omega), by go_grown⟩
  case round =>
    clear HO
    obtain ⟨k, j, A5, c5, hk, rfl, rfl, hj, HJ, rfl, HR, HU, hB⟩ := hrel
    by_cases hlt : k < n
    · obtain ⟨x, hxk⟩ : ∃ x, path[k]? = some x := ⟨path[k]'(by rw [HLn.out]; exact hlt), List.getElem?_eq_getElem _⟩
      obtain ⟨b, off, rfl, c0⟩ := HC.out wr hB k x hxk
      have hx := HP.out x (List.mem_of_getElem? hxk)
      have HX := Lib.hid hxk
      have i0 : (0 : Int) ≤ (k : Int) := by omega
      have i1 : (k : Int) < (n : Int) := by omega
      clear hxk
      by_cases hx32 : x.size = 32
      · have HU1 : Hid (∀ (j : Nat) x, j < k + 1 → path[j]? = some x → x.size = 32) := Lib.hid (fun j y hj hy => by
          by_cases e : j = k
          · subst e
            rw [HX.out] at hy
            injection hy with hy
            subst hy; exact hx32
          · exact HU.out j y (by omega) hy)
        have t0 : ((x.size : Int) == 32) = true := by rw [hx32]; rfl
        have HJ2 : Hid (i / 2 ^ (k + 1) = j / 2) := Lib.hid (by rw [← HJ.out, Nat.pow_succ, Nat.div_div_eq_div_mul])
        have HEq := Lib.hid (waysB_succ i s path (k + 1))
        have HPl : Hid ((waysB i s path (k + 1)).length = k + 1) := Lib.hid (waysB_len i s path (k + 1))
        have t2 : (j : Int).tdiv 2 = ((j / 2 : Nat) : Int) := rfl
        have hzr := hB.size
        obtain ⟨b5, off5, rfl, hb5, hC5⟩ := (srow_slr HR.out HPl.out).2.resolve_left (by omega)
        have c5 := hC5.str (waysB_at i s path (k := k) (n := k + 1) (by omega))
        have HC0 : Hid (∀ W, Below wr.heap.size wr W → W.cell? ⟨b, off + k, none⟩ = some (.string x)) := Lib.hid (fun W hb' => by
          obtain ⟨b', off', e, c⟩ := HC.out W (hB.trans (hb'.mono hzr)) k x HX.out
          injection e with e
          injection e with e1 e2
          subst e1 e2
          exact c)
        obtain ⟨d, hd⟩ : ∃ d, sumF (wayB i s path k) = d := ⟨_, rfl⟩
        have HD := Lib.hid hd
        have hdl : d.size ≤ 32 := by rw [← hd]; exact sumF_le _
        have HSum := Lib.hid (rsumF_any (wayB i s path k) wr (by have := HSz.out k; omega))
        rw [hd] at HSum
        have i2 : (k : Int) < ((k + 1 : Nat) : Int) := by omega
        clear hC5 hx32 HU hd
        by_cases ho : j % 2 = 1
        · have t1 : (j : Int).tmod 2 = 1 := by show ((j % 2 : Nat) : Int) = 1; rw [ho]; rfl
          have HWy := Lib.hid (way_odd HJ.out HD.out HX.out ho)
          rw [HWy.out] at HEq
          clear ho
          go_wp2_with fail
          refine HSum.out.mono ?_
          rintro e w2 ⟨rfl, hb2⟩
          have hB2 := hB.trans (hb2.mono hzr)
          have HR2 := Lib.hid (orow_below HR.out hb2 (Nat.le_refl _))
          have c1 := HC0.out w2 hb2
          have hz2 := hB2.size
          clear c0 c5 HSum HR hb2
          go_wp2_with fail
          refine (rofnode_any x d _ (by omega) (by omega)).mono ?_
          rintro e w3 ⟨rfl, rfl⟩
          go_wp2_with (at_builtin; refine wpList_append_str rfl (.tmp 57) (.tmp 64) rfl rfl (orow_alloc HR2.out _) w2.heap.size (nodeT x d) rfl (Blk.new _ _ _) (k + 1) HPl.out _ HEq.out (by omega) (by simp; omega) ?_; intro A6 c6 w6 HR6 hg6 hb6)
          have hB6 : Below w.heap.size w w6 := Below.trans hB2 (Below.trans (by go_grown) hb6)
          clear hg6 hb6
          go_roundw
          case rel => exact ⟨k + 1, j / 2, A6, c6, by omega, by go_num, by go_num, by omega, HJ2, rfl, HR6, HU1, hB6⟩
          case measure => simp [intOf]; omega
        · have t1 : (j : Int).tmod 2 = 0 := by show ((j % 2 : Nat) : Int) = 0; rw [show j % 2 = 0 by omega]; rfl
          have HWy := Lib.hid (way_even HJ.out HD.out HX.out ho)
          rw [HWy.out] at HEq
          clear ho
          go_wp2_with fail
          refine HSum.out.mono ?_
          rintro e w2 ⟨rfl, hb2⟩
          have hB2 := hB.trans (hb2.mono hzr)
          have HR2 := Lib.hid (orow_below HR.out hb2 (Nat.le_refl _))
          have c1 := HC0.out w2 hb2
          have hz2 := hB2.size
          clear c0 c5 HSum HR hb2
          go_wp2_with fail
          refine (rofnode_any d x _ (by omega) (by omega)).mono ?_
          rintro e w3 ⟨rfl, rfl⟩
          go_wp2_with (at_builtin; refine wpList_append_str rfl (.tmp 48) (.tmp 55) rfl rfl (orow_alloc HR2.out _) w2.heap.size (nodeT d x) rfl (Blk.new _ _ _) (k + 1) HPl.out _ HEq.out (by omega) (by simp; omega) ?_; intro A6 c6 w6 HR6 hg6 hb6)
          have hB6 : Below w.heap.size w w6 := Below.trans hB2 (Below.trans (by go_grown) hb6)
          clear hg6 hb6
          go_roundw
          case rel => exact ⟨k + 1, j / 2, A6, c6, by omega, by go_num, by go_num, by omega, HJ2, rfl, HR6, HU1, hB6⟩
          case measure => simp [intOf]; omega
      · have hno := HNo.out k x HX.out hx32
        have t0 : ((x.size : Int) == 32) = false := by simp; omega
        clear hx32
        go_wp2
        go_ret2
        exact HPost.out _ _ ⟨hB, .inr ⟨hno, rfl⟩⟩
    · obtain rfl : k = n := by omega
      have hyes := HYes.out (fun j x h => HU.out j x (by have := (List.getElem?_eq_some_iff.1 h).1; rw [HLn.out] at this; exact this) h)
      have HYs := Lib.hid hyes
      clear hyes
      go_wp2
      go_ret2
      exact HPost.out _ _ ⟨hB, .inl ⟨HYs.out, A5, c5, rfl, HR⟩⟩
theorem rways_any (i : Int) (s : ByteArray) (path : List ByteArray) (A : Option Addr) (n c : Nat) (w : World) (hL : SlR encS 1 w w.heap.size A n path) (hn : n ≤ 140737488351232) (hs : s.size ≤ 500000) (hp : ∀ p ∈ path, p.size ≤ 200) :
    Calls Tryd.prog 118 #[.int .i64 i, .string s, .slice A n c] w (WaysPost i s path n w) := by
  cases h : decide (n ≤ 10) && hasI (2 ^ n) i
  · exact rways_out i s path A n c w hL.1 hn h
  · simp only [Bool.and_eq_true, hasI, decide_eq_true_eq] at h
    obtain ⟨h1, h2, h3⟩ := h
    obtain ⟨k, rfl⟩ : ∃ k : Nat, i = k := ⟨i.toNat, by omega⟩
    exact rways_in k s path A n c w hL h1 (by omega) hs hp
theorem rclimb_any (i : Int) (s : ByteArray) (path : List ByteArray) (A : Option Addr) (n c : Nat) (w : World) (hL : SlR encS 1 w w.heap.size A n path) (hn : n ≤ 2000) (hs : s.size ≤ 500000) (hp : ∀ p ∈ path, p.size ≤ 200) :
    Calls Tryd.prog 70 #[.int .i64 i, .string s, .slice A n c] w fun e w' => e = .returned (.tuple #[.string (climbV i s path), .int .i64 (climbE i path)]) ∧ Below w.heap.size w w' := by
  have HW := Lib.hid (rways_any i s path A n c w hL (by omega) hs hp)
  have HSz := Lib.hid (wayB_size i.toNat s path hp n)
  have hl := hL.1
  cases hk : climbOk i path
  · have hv : climbV i s path = ByteArray.empty := by simp [climbV, hk]
    have he : climbE i path = 1 := by simp [climbE, hk]
    rw [hv, he]
    have HK := Lib.hid hk
    clear hL hp hv he hl hk
    go_enter Tryd.func70, Tryd.ntmps70
    go_wp2_with fail
    refine HW.out.mono ?_
    rintro e w1 ⟨hb1, ⟨h1, _⟩ | ⟨_, rfl⟩⟩
    · exact absurd (HK.out.symm.trans h1) (by decide)
    clear HW
    go_wp2_with fail
    go_ret2
    exact ⟨rfl, hb1⟩
  · have hv : climbV i s path = sumF (wayB i.toNat s path n) := by simp [climbV, hk, hl]
    have he : climbE i path = 0 := by simp [climbE, hk]
    rw [hv, he]
    have HK := Lib.hid hk
    obtain ⟨d, hd⟩ : ∃ d, wayB i.toNat s path n = d := ⟨_, rfl⟩
    have HD := Lib.hid hd
    rw [hd] at HSz ⊢
    have hds := HSz.out
    have e1 : ((n + 1 : Nat) : Int) - 1 = (n : Int) := by omega
    have e2 : IntKind.i64.wrap (n : Int) = (n : Int) := wrap_i64_nat n (by omega)
    have i0 : (0 : Int) ≤ (n : Int) := by omega
    have i1 : (n : Int) < ((n + 1 : Nat) : Int) := by omega
    clear hL hp hv he hl hk hd
    go_enter Tryd.func70, Tryd.ntmps70
    go_wp2_with fail
    refine HW.out.mono ?_
    rintro e w1 ⟨hb1, hcase⟩
    rcases hcase.symm with ⟨h1, _⟩ | ⟨_, A1, c1, rfl, HR⟩
    · exact absurd (HK.out.symm.trans h1) (by decide)
    clear hcase
    obtain ⟨b5, off5, rfl, hb5, hC5⟩ := (srow_slr HR.out (waysB_len _ _ _ _)).2.resolve_left (by omega)
    have c5 := hC5.str (waysB_at i.toNat s path (k := n) (n := n + 1) (by omega))
    rw [HD.out] at c5
    clear HW HR hC5
    go_wp2_with fail
    refine (rsumF_any d w1 (by omega)).mono ?_
    rintro e w2 ⟨rfl, hb2⟩
    go_wp2_with fail
    go_ret2
    exact ⟨rfl, hb1.trans (hb2.mono hb1.size)⟩
theorem rcheck_any (root : ByteArray) (i : Int) (s : ByteArray) (path : List ByteArray) (A : Option Addr) (n c : Nat) (w : World) (hL : SlR encS 1 w w.heap.size A n path) (hn : n ≤ 2000) (hs : s.size ≤ 500000) (hp : ∀ p ∈ path, p.size ≤ 200) :
    Calls Tryd.prog 72 #[.string root, .int .i64 i, .string s, .slice A n c] w fun e w' => e = .returned (.bool (checkV root i s path)) ∧ Below w.heap.size w w' := by
  have HC := Lib.hid (rclimb_any i s path A n c w hL hn hs hp)
  clear hL hp
  unfold checkV
  cases hk : climbOk i path
  · have hE : climbE i path = 1 := by simp [climbE, hk]
    rw [hE] at HC
    generalize climbV i s path = V at HC ⊢
    clear hk hE
    go_enter Tryd.func72, Tryd.ntmps72
    go_wp2_with fail
    refine HC.out.mono ?_
    rintro e w1 ⟨rfl, hb1⟩
    clear HC
    go_wp2_with fail
    go_ret
    exact ⟨rfl, hb1⟩
  · have hE : climbE i path = 0 := by simp [climbE, hk]
    rw [hE] at HC
    generalize climbV i s path = V at HC ⊢
    clear hk hE
    by_cases hv : V = root
    · subst hv
      have t1 : (V.toList == V.toList) = true := by simp
      have t2 : (true && decide (V = V)) = true := by simp
      rw [t2]
      go_enter Tryd.func72, Tryd.ntmps72
      go_wp2_with fail
      refine HC.out.mono ?_
      rintro e w1 ⟨rfl, hb1⟩
      clear HC
      go_wp2_with fail
      go_ret
      exact ⟨rfl, hb1⟩
    · have t1 : (V.toList == root.toList) = false := by
        simp only [beq_eq_false_iff_ne, ne_eq]
        exact fun h => hv (bytes_ext h)
      have t2 : (true && decide (V = root)) = false := by simp [hv]
      rw [t2]
      clear hv
      go_enter Tryd.func72, Tryd.ntmps72
      go_wp2_with fail
      refine HC.out.mono ?_
      rintro e w1 ⟨rfl, hb1⟩
      clear HC
      go_wp2_with fail
      go_ret
      exact ⟨rfl, hb1⟩
end Go.Proofs.YtkaaicmadknjcaaDoor
