/- chapter 11's reference: Ways, Climb, Check. -/
import Derived.Test.YtkaaicmadknjcaaDoorTreF
import Derived.Test.YtkaaicmadknjcaaDoorTreR
import Derived.Test.YtkaaicmadknjcaaDoorTreS
set_option linter.unusedVariables false
set_option linter.unusedSimpArgs false
namespace Go.Proofs.YtkaaicmadknjcaaDoor
open Go.RowKit
/-- what Ways tells, and leaves -/
def WaysPost (i : Int) (s : ByteArray) (path : List ByteArray) (n : Nat) (w : World) (e : Ending) (w' : World) : Prop :=
  Below w.heap.size w w' ∧ ((climbOk i path = true ∧ ∃ A c, e = .returned (.tuple #[.slice A (n + 1) c, .bool true]) ∧ Hid (SRow w' w.heap.size (.slice A (n + 1) c) (waysB i.toNat s path (n + 1)))) ∨
    (climbOk i path = false ∧ e = .returned (.tuple #[.slice none 0 0, .bool false])))
theorem rways_out (i : Int) (s : ByteArray) (path : List ByteArray) (A : Option Addr) (n c : Nat) (w : World) (hl : path.length = n) (hn : n ≤ 140737488351232) (h : (decide (n ≤ 10) && hasI (2 ^ n) i) = false) :
    Calls Tryd.prog 118 #[.int .i64 i, .string s, .slice A n c] w (WaysPost i s path n w) := by
  have hk : climbOk i path = false := by
    unfold climbOk
    rw [hl, ← Bool.and_assoc, h]; rfl
  have HK := Lib.hid hk
  simp only [hasI, Bool.and_eq_false_iff, decide_eq_false_iff_not] at h
  clear hk hl
  by_cases h10 : 10 < n
  · clear h
    go_enter Tryd.func118, Tryd.ntmps118
    go_wp2
    go_ret2
    exact ⟨Below.refl _ _, .inr ⟨HK.out, rfl⟩⟩
  · by_cases h0 : i < 0
    · clear h
      go_enter Tryd.func118, Tryd.ntmps118
      go_wp2
      go_ret2
      exact ⟨Below.refl _ _, .inr ⟨HK.out, rfl⟩⟩
    · have h1 : ((2 ^ n : Nat) : Int) ≤ i := by omega
      have hp1 : 1 ≤ 2 ^ n := Nat.one_le_two_pow
      have hp2 : 2 ^ n ≤ 1024 := Nat.le_trans (pow_le_two (by omega : n ≤ 10)) (by decide)
      have HW := Lib.hid (rwide_any n w (by omega))
      generalize 2 ^ n = p at *
      clear h
      go_enter Tryd.func118, Tryd.ntmps118
      go_wp2_with fail
      refine HW.out.mono ?_
      rintro e w1 ⟨rfl, rfl⟩
      go_wp2_with fail
      go_ret2
      exact ⟨Below.refl _ _, .inr ⟨HK.out, rfl⟩⟩
set_option maxRecDepth 100000 in
set_option maxHeartbeats 1000000 in
theorem rways_in (i : Nat) (s : ByteArray) (path : List ByteArray) (A : Option Addr) (n c : Nat) (w : World) (hL : SlR encS 1 w w.heap.size A n path) (hn : n ≤ 10) (hi : i < 2 ^ n) (hs : s.size ≤ 500000) (hp : ∀ p ∈ path, p.size ≤ 200) :
    Calls Tryd.prog 118 #[.int .i64 i, .string s, .slice A n c] w (WaysPost i s path n w) := by
  have hok : climbOk i path = all32 path := by
    have h1 : decide ((i : Int) < ((2 ^ n : Nat) : Int)) = true := by rw [decide_eq_true_eq]; exact Int.ofNat_lt.2 hi
    have h2 : decide (n ≤ 10) = true := by rw [decide_eq_true_eq]; exact hn
    have h3 : decide ((0 : Int) ≤ (i : Int)) = true := by rw [decide_eq_true_eq]; omega
    unfold climbOk hasI all32
    rw [hL.1, h1, h2, h3]
    rfl
  have HNo : Hid (∀ (k : Nat) (x : ByteArray), path[k]? = some x → x.size ≠ 32 → climbOk i path = false) := Lib.hid (fun k x hx h => by
    rw [hok]
    unfold all32
    exact all_no hx (by simpa using h))
  have HYes : Hid ((∀ (j : Nat) x, path[j]? = some x → x.size = 32) → climbOk i path = true) := Lib.hid (fun h => by
    rw [hok]
    unfold all32
    rw [List.all_eq_true]
    intro p hp
    obtain ⟨j, hj⟩ := List.getElem?_of_mem hp
    simp [h j p hj])
  have HC : Hid (∀ W, Below w.heap.size w W → ∀ k x, path[k]? = some x → ∃ b off, A = some ⟨b, off, none⟩ ∧ W.cell? ⟨b, off + k, none⟩ = some (.string x)) := Lib.hid (fun W hb => strs_at (hL.below hb))
  have HLn := Lib.hid hL.1
  have HSz : Hid (∀ k, (wayB i s path k).size ≤ 600000) := Lib.hid (fun k => by have := wayB_size i s path hp k; omega)
  have HP := Lib.hid hp
  have hp1 : 1 ≤ 2 ^ n := Nat.one_le_two_pow
  have hp2 : 2 ^ n ≤ 1024 := Nat.le_trans (pow_le_two (by omega : n ≤ 10)) (by decide)
  have HW := Lib.hid (rwide_any n w (by omega))
  have hi2 : i < 1024 := by omega
  have HI2 : Hid (((i : Nat) : Int).toNat = i) := Lib.hid (by simp)
  have HO : Hid (SRow (w.alloc (.cells #[.string (leafT s)] 9)) w.heap.size (.slice (some ⟨w.heap.size, 0, none⟩) 1 1) (waysB i s path 1)) := Lib.hid (orow_new (L := waysB i s path 1) encS_len (Blk.new w _ _) (Nat.le_refl _) rfl (by simp [waysB, maxLen]))
  have HPost : Hid (∀ e w', (Below w.heap.size w w' ∧ ((climbOk i path = true ∧ ∃ A c, e = .returned (.tuple #[.slice A (n + 1) c, .bool true]) ∧ Hid (SRow w' w.heap.size (.slice A (n + 1) c) (waysB i s path (n + 1)))) ∨ (climbOk i path = false ∧ e = .returned (.tuple #[.slice none 0 0, .bool false])))) → WaysPost i s path n w e w') := Lib.hid (fun e w' h => by
    unfold WaysPost
    rw [HI2.out]
    exact h)
  generalize climbOk i path = ok at *
  generalize 2 ^ n = p at *
  clear hok hL hp HI2
  go_enter Tryd.func118, Tryd.ntmps118
  go_wp2_with fail
  refine HW.out.mono ?_
  rintro e w1 ⟨rfl, rfl⟩
  clear HW
  go_wp2_with fail
  refine (rofleaf_any s _ (by omega)).mono ?_
  rintro e w1 ⟨rfl, rfl⟩
  go_wp2_with fail
  go_loopw [0, 8, 9] (fun iv v kv wr => ∃ (k j : Nat) (A5 : Option Addr) (c5 : Nat), k ≤ n ∧ kv = .int .i64 k ∧ iv = .int .i64 j ∧ j < 1024 ∧ Hid (i / 2 ^ k = j) ∧ v = .slice A5 (k + 1) c5 ∧ Hid (SRow wr w.heap.size (.slice A5 (k + 1) c5) (waysB i s path (k + 1))) ∧ Hid (∀ (j : Nat) x, j < k → path[j]? = some x → x.size = 32) ∧ Below w.heap.size w wr) (fun _ _ kv _ => n - (intOf kv).toNat)
  case atStart => exact ⟨0, i, _, _, Nat.zero_le _, rfl, rfl, hi2, Lib.hid (by simp), rfl, HO, Lib.hid (fun j x h => by omega), by go_grown⟩
  case round =>
    clear HO
    obtain ⟨k, j, A5, c5, hk, rfl, rfl, hj, HJ, rfl, HR, HU, hB⟩ := hrel
    by_cases hlt : k < n
    · obtain ⟨x, hxk⟩ : ∃ x, path[k]? = some x := ⟨path[k]'(by rw [HLn.out]; exact hlt), List.getElem?_eq_getElem _⟩
      obtain ⟨b, off, rfl, c0⟩ := HC.out wr hB k x hxk
      have hx := HP.out x (List.mem_of_getElem? hxk)
      have HX := Lib.hid hxk
      have i0 : (0 : Int) ≤ (k : Int) := by omega
      have i1 : (k : Int) < (n : Int) := by omega
      clear hxk
      by_cases hx32 : x.size = 32
      · have HU1 : Hid (∀ (j : Nat) x, j < k + 1 → path[j]? = some x → x.size = 32) := Lib.hid (fun j y hj hy => by
          by_cases e : j = k
          · subst e
            rw [HX.out] at hy
            injection hy with hy
            subst hy; exact hx32
          · exact HU.out j y (by omega) hy)
        have t0 : ((x.size : Int) == 32) = true := by rw [hx32]; rfl
        have HJ2 : Hid (i / 2 ^ (k + 1) = j / 2) := Lib.hid (by rw [← HJ.out, Nat.pow_succ, Nat.div_div_eq_div_mul])
        have HEq := Lib.hid (waysB_succ i s path (k + 1))
        have HPl : Hid ((waysB i s path (k + 1)).length = k + 1) := Lib.hid (waysB_len i s path (k + 1))
        have t2 : (j : Int).tdiv 2 = ((j / 2 : Nat) : Int) := rfl
        have hzr := hB.size
        obtain ⟨b5, off5, rfl, hb5, hC5⟩ := (srow_slr HR.out HPl.out).2.resolve_left (by omega)
        have c5 := hC5.str (waysB_at i s path (k := k) (n := k + 1) (by omega))
        have HC0 : Hid (∀ W, Below wr.heap.size wr W → W.cell? ⟨b, off + k, none⟩ = some (.string x)) := Lib.hid (fun W hb' => by
          obtain ⟨b', off', e, c⟩ := HC.out W (hB.trans (hb'.mono hzr)) k x HX.out
          injection e with e
          injection e with e1 e2
          subst e1 e2
          exact c)
        obtain ⟨d, hd⟩ : ∃ d, sumF (wayB i s path k) = d := ⟨_, rfl⟩
        have HD := Lib.hid hd
        have hdl : d.size ≤ 32 := by rw [← hd]; exact sumF_le _
        have HSum := Lib.hid (rsumF_any (wayB i s path k) wr (by have := HSz.out k; omega))
        rw [hd] at HSum
        have i2 : (k : Int) < ((k + 1 : Nat) : Int) := by omega
        clear hC5 hx32 HU hd
        by_cases ho : j % 2 = 1
        · have t1 : (j : Int).tmod 2 = 1 := by show ((j % 2 : Nat) : Int) = 1; rw [ho]; rfl
          have HWy := Lib.hid (way_odd HJ.out HD.out HX.out ho)
          rw [HWy.out] at HEq
          clear ho
          go_wp2_with fail
          refine HSum.out.mono ?_
          rintro e w2 ⟨rfl, hb2⟩
          have hB2 := hB.trans (hb2.mono hzr)
          have HR2 := Lib.hid (orow_below HR.out hb2 (Nat.le_refl _))
          have c1 := HC0.out w2 hb2
          have hz2 := hB2.size
          clear c0 c5 HSum HR hb2
          go_wp2_with fail
          refine (rofnode_any x d _ (by omega) (by omega)).mono ?_
          rintro e w3 ⟨rfl, rfl⟩
          go_wp2_with (at_builtin; refine wpList_append_str rfl (.tmp 57) (.tmp 64) rfl rfl (orow_alloc HR2.out _) w2.heap.size (nodeT x d) rfl (Blk.new _ _ _) (k + 1) HPl.out _ HEq.out (by omega) (by simp; omega) ?_; intro A6 c6 w6 HR6 hg6 hb6)
          have hB6 : Below w.heap.size w w6 := Below.trans hB2 (Below.trans (by go_grown) hb6)
          clear hg6 hb6
          go_roundw
          case rel => exact ⟨k + 1, j / 2, A6, c6, by omega, by go_num, by go_num, by omega, HJ2, rfl, HR6, HU1, hB6⟩
          case measure => simp [intOf]; omega
        · have t1 : (j : Int).tmod 2 = 0 := by show ((j % 2 : Nat) : Int) = 0; rw [show j % 2 = 0 by omega]; rfl
          have HWy := Lib.hid (way_even HJ.out HD.out HX.out ho)
          rw [HWy.out] at HEq
          clear ho
          go_wp2_with fail
          refine HSum.out.mono ?_
          rintro e w2 ⟨rfl, hb2⟩
          have hB2 := hB.trans (hb2.mono hzr)
          have HR2 := Lib.hid (orow_below HR.out hb2 (Nat.le_refl _))
          have c1 := HC0.out w2 hb2
          have hz2 := hB2.size
          clear c0 c5 HSum HR hb2
          go_wp2_with fail
          refine (rofnode_any d x _ (by omega) (by omega)).mono ?_
          rintro e w3 ⟨rfl, rfl⟩
          go_wp2_with (at_builtin; refine wpList_append_str rfl (.tmp 48) (.tmp 55) rfl rfl (orow_alloc HR2.out _) w2.heap.size (nodeT d x) rfl (Blk.new _ _ _) (k + 1) HPl.out _ HEq.out (by omega) (by simp; omega) ?_; intro A6 c6 w6 HR6 hg6 hb6)
          have hB6 : Below w.heap.size w w6 := Below.trans hB2 (Below.trans (by go_grown) hb6)
          clear hg6 hb6
          go_roundw
          case rel => exact ⟨k + 1, j / 2, A6, c6, by omega, by go_num, by go_num, by omega, HJ2, rfl, HR6, HU1, hB6⟩
          case measure => simp [intOf]; omega
      · have hno := HNo.out k x HX.out hx32
        have t0 : ((x.size : Int) == 32) = false := by simp; omega
        clear hx32
        go_wp2
        go_ret2
        exact HPost.out _ _ ⟨hB, .inr ⟨hno, rfl⟩⟩
    · obtain rfl : k = n := by omega
      have hyes := HYes.out (fun j x h => HU.out j x (by have := (List.getElem?_eq_some_iff.1 h).1; rw [HLn.out] at this; exact this) h)
      have HYs := Lib.hid hyes
      clear hyes
      go_wp2
      go_ret2
      exact HPost.out _ _ ⟨hB, .inl ⟨HYs.out, A5, c5, rfl, HR⟩⟩
theorem rways_any (i : Int) (s : ByteArray) (path : List ByteArray) (A : Option Addr) (n c : Nat) (w : World) (hL : SlR encS 1 w w.heap.size A n path) (hn : n ≤ 140737488351232) (hs : s.size ≤ 500000) (hp : ∀ p ∈ path, p.size ≤ 200) :
    Calls Tryd.prog 118 #[.int .i64 i, .string s, .slice A n c] w (WaysPost i s path n w) := by
  cases h : decide (n ≤ 10) && hasI (2 ^ n) i
  · exact rways_out i s path A n c w hL.1 hn h
  · simp only [Bool.and_eq_true, hasI, decide_eq_true_eq] at h
    obtain ⟨h1, h2, h3⟩ := h
    obtain ⟨k, rfl⟩ : ∃ k : Nat, i = k := ⟨i.toNat, by omega⟩
    exact rways_in k s path A n c w hL h1 (by omega) hs hp
theorem rclimb_any (i : Int) (s : ByteArray) (path : List ByteArray) (A : Option Addr) (n c : Nat) (w : World) (hL : SlR encS 1 w w.heap.size A n path) (hn : n ≤ 2000) (hs : s.size ≤ 500000) (hp : ∀ p ∈ path, p.size ≤ 200) :
    Calls Tryd.prog 70 #[.int .i64 i, .string s, .slice A n c] w fun e w' => e = .returned (.tuple #[.string (climbV i s path), .int .i64 (climbE i path)]) ∧ Below w.heap.size w w' := by
  have HW := Lib.hid (rways_any i s path A n c w hL (by omega) hs hp)
  have HSz := Lib.hid (wayB_size i.toNat s path hp n)
  have hl := hL.1
  cases hk : climbOk i path
  · have hv : climbV i s path = ByteArray.empty := by simp [climbV, hk]
    have he : climbE i path = 1 := by simp [climbE, hk]
    rw [hv, he]
    have HK := Lib.hid hk
    clear hL hp hv he hl hk
    go_enter Tryd.func70, Tryd.ntmps70
    go_wp2_with fail
    refine HW.out.mono ?_
    rintro e w1 ⟨hb1, ⟨h1, _⟩ | ⟨_, rfl⟩⟩
    · exact absurd (HK.out.symm.trans h1) (by decide)
    clear HW
    go_wp2_with fail
    go_ret2
    exact ⟨rfl, hb1⟩
  · have hv : climbV i s path = sumF (wayB i.toNat s path n) := by simp [climbV, hk, hl]
    have he : climbE i path = 0 := by simp [climbE, hk]
    rw [hv, he]
    have HK := Lib.hid hk
    obtain ⟨d, hd⟩ : ∃ d, wayB i.toNat s path n = d := ⟨_, rfl⟩
    have HD := Lib.hid hd
    rw [hd] at HSz ⊢
    have hds := HSz.out
    have e1 : ((n + 1 : Nat) : Int) - 1 = (n : Int) := by omega
    have e2 : IntKind.i64.wrap (n : Int) = (n : Int) := wrap_i64_nat n (by omega)
    have i0 : (0 : Int) ≤ (n : Int) := by omega
    have i1 : (n : Int) < ((n + 1 : Nat) : Int) := by omega
    clear hL hp hv he hl hk hd
    go_enter Tryd.func70, Tryd.ntmps70
    go_wp2_with fail
    refine HW.out.mono ?_
    rintro e w1 ⟨hb1, hcase⟩
    rcases hcase.symm with ⟨h1, _⟩ | ⟨_, A1, c1, rfl, HR⟩
    · exact absurd (HK.out.symm.trans h1) (by decide)
    clear hcase
    obtain ⟨b5, off5, rfl, hb5, hC5⟩ := (srow_slr HR.out (waysB_len _ _ _ _)).2.resolve_left (by omega)
    have c5 := hC5.str (waysB_at i.toNat s path (k := n) (n := n + 1) (by omega))
    rw [HD.out] at c5
    clear HW HR hC5
    go_wp2_with fail
    refine (rsumF_any d w1 (by omega)).mono ?_
    rintro e w2 ⟨rfl, hb2⟩
    go_wp2_with fail
    go_ret2
    exact ⟨rfl, hb1.trans (hb2.mono hb1.size)⟩
theorem rcheck_any (root : ByteArray) (i : Int) (s : ByteArray) (path : List ByteArray) (A : Option Addr) (n c : Nat) (w : World) (hL : SlR encS 1 w w.heap.size A n path) (hn : n ≤ 2000) (hs : s.size ≤ 500000) (hp : ∀ p ∈ path, p.size ≤ 200) :
    Calls Tryd.prog 72 #[.string root, .int .i64 i, .string s, .slice A n c] w fun e w' => e = .returned (.bool (checkV root i s path)) ∧ Below w.heap.size w w' := by
  have HC := Lib.hid (rclimb_any i s path A n c w hL hn hs hp)
  clear hL hp
  unfold checkV
  cases hk : climbOk i path
  · have hE : climbE i path = 1 := by simp [climbE, hk]
    rw [hE] at HC
    generalize climbV i s path = V at HC ⊢
    clear hk hE
    go_enter Tryd.func72, Tryd.ntmps72
    go_wp2_with fail
    refine HC.out.mono ?_
    rintro e w1 ⟨rfl, hb1⟩
    clear HC
    go_wp2_with fail
    go_ret
    exact ⟨rfl, hb1⟩
  · have hE : climbE i path = 0 := by simp [climbE, hk]
    rw [hE] at HC
    generalize climbV i s path = V at HC ⊢
    clear hk hE
    by_cases hv : V = root
    · subst hv
      have t1 : (V.toList == V.toList) = true := by simp
      have t2 : (true && decide (V = V)) = true := by simp
      rw [t2]
      go_enter Tryd.func72, Tryd.ntmps72
      go_wp2_with fail
      refine HC.out.mono ?_
      rintro e w1 ⟨rfl, hb1⟩
      clear HC
      go_wp2_with fail
      go_ret
      exact ⟨rfl, hb1⟩
    · have t1 : (V.toList == root.toList) = false := by
        simp only [beq_eq_false_iff_ne, ne_eq]
        exact fun h => hv (bytes_ext h)
      have t2 : (true && decide (V = root)) = false := by simp [hv]
      rw [t2]
      clear hv
      go_enter Tryd.func72, Tryd.ntmps72
      go_wp2_with fail
      refine HC.out.mono ?_
      rintro e w1 ⟨rfl, hb1⟩
      clear HC
      go_wp2_with fail
      go_ret
      exact ⟨rfl, hb1⟩
end Go.Proofs.YtkaaicmadknjcaaDoor
/- chapter 11's reference: Trace. -/
namespace Go.Proofs.YtkaaicmadknjcaaDoor
open Go.RowKit
theorem lev_32 {l : List ByteArray} {h i j : Nat} (hl : l.length = 2 ^ h) (hi : i ≤ h) (hj : j < 2 ^ (h - i)) (hs : ∀ s ∈ l, s.size ≤ 1000000) : (atB (lev l i) j).size = 32 := by
  rw [atB_lev hl hi hj]
  have := toldT_size hs i j
  exact sumF_size (by omega)
theorem pathB_32 {l : List ByteArray} {h i : Nat} (hl : l.length = 2 ^ h) (hi : i < l.length) (hs : ∀ s ∈ l, s.size ≤ 1000000) : ∀ p ∈ pathB l i h, p.size = 32 := by
  intro p hp
  simp only [pathB, List.mem_map, List.mem_range] at hp
  obtain ⟨k, hk, rfl⟩ := hp
  obtain ⟨a1, a2, a3⟩ := half_lt (i := i) (h := h) (k := k) (by rw [← hl]; exact hi) hk
  unfold sideB
  refine lev_32 hl (by omega) ?_ hs
  rw [xor_one]
  generalize i / 2 ^ k = j at *
  generalize 2 ^ (h - k) = q at *
  generalize 2 ^ (h - (k + 1)) = q2 at *
  split <;> omega
/-- the conditions of the reference's Trace -/
def rtrOk (l : List ByteArray) (i : Int) (s : ByteArray) (path : List ByteArray) : Bool :=
  mayB l.length && (hasI l.length i && (decide (hgt l.length = path.length) && (decide (s ≠ atB l i.toNat) && checkV (rootB l) i s path)))
theorem rtrOk_eq (l : List ByteArray) (i : Int) (s : ByteArray) (path : List ByteArray) : traceOk l i s path = rtrOk l i s path := by
  unfold traceOk rtrOk
  cases hm : mayB l.length
  · rfl
  · obtain ⟨h1, h2⟩ := hgt_may hm
    have : (decide (path.length ≤ 10) && decide (2 ^ path.length = l.length)) = decide (hgt l.length = path.length) := by
      by_cases e : hgt l.length = path.length
      · rw [← e]
        simp [h2, ← h1]
      · have : 2 ^ path.length ≠ l.length := fun hp => e (by rw [← hp, hgt_pow])
        simp [this, e]
    rw [← this]
    cases hasI l.length i <;> cases decide (path.length ≤ 10) <;> rfl
set_option maxRecDepth 100000 in
set_option maxHeartbeats 4000000 in
theorem rtrace_any (l : List ByteArray) (i : Int) (s : ByteArray) (path : List ByteArray) (A A' : Option Addr) (n c m c' : Nat) (w : World) (hL : SlR encS 1 w w.heap.size A n l) (hP : SlR encS 1 w w.heap.size A' m path)
    (hn : n ≤ 2000) (hm : m ≤ 2000) (hls : ∀ x ∈ l, x.size ≤ 200) (hs : s.size ≤ 300) (hp : ∀ p ∈ path, p.size ≤ 200) :
    Calls Tryd.prog 76 #[.slice A n c, .int .i64 i, .string s, .slice A' m c'] w (TwoPost (traceF l i s path) w) := by
  have HL := Lib.hid hL
  have HP := Lib.hid hP
  have hls2 : ∀ x ∈ l, x.size ≤ 900000 := fun x h => by have := hls x h; omega
  obtain ⟨V, hV⟩ : ∃ v, rootV l = v := ⟨_, rfl⟩
  obtain ⟨E, hE⟩ : ∃ v, rootE l = v := ⟨_, rfl⟩
  obtain ⟨P, hPv⟩ : ∃ v, pathV l i = v := ⟨_, rfl⟩
  obtain ⟨F, hF⟩ : ∃ v, pathE l i = v := ⟨_, rfl⟩
  obtain ⟨K, hK⟩ : ∃ v, checkV V i s path = v := ⟨_, rfl⟩
  obtain ⟨Z, hZ⟩ : ∃ v, traceF l i s path = v := ⟨_, rfl⟩
  have hPl : P.length ≤ 10 := by rw [← hPv]; exact pathV_len l i
  have HPP : Hid (∀ w e w', PathPost l i w e w' → Below w.heap.size w w' ∧ ∃ A c, e = .returned (.tuple #[.slice A P.length c, .int .i64 F]) ∧ Hid (SRow w' w.heap.size (.slice A P.length c) P)) := Lib.hid (fun w e w' h => by
    unfold PathPost at h
    rwa [hPv, hF] at h)
  have HR := Lib.hid (rroot_any l A n c w hL hn hls2)
  rw [hV, hE] at HR
  have HPa := Lib.hid (fun W (h2 : SlR encS 1 W W.heap.size A n l) => rpath_any l A n c i W h2 hn hls2)
  have HCk := Lib.hid (fun W (h2 : SlR encS 1 W W.heap.size A' m path) => rcheck_any V i s path A' m c' W h2 hm (by omega) hp)
  rw [hK] at HCk
  have HE : Hid ((E = 0 ∧ mayB n = true) ∨ (E = 1 ∧ Z = noTwo)) := Lib.hid (by
    rw [← hE]
    unfold rootE
    rw [hL.1]
    split
    · rename_i h; exact .inl ⟨rfl, h⟩
    · rename_i h
      refine .inr ⟨rfl, ?_⟩
      have : traceOk l i s path = false := by rw [rtrOk_eq, rtrOk, hL.1]; simp [h]
      rw [← hZ]; simp [traceF, this])
  have HF : Hid (mayB n = true → (F = 0 ∧ ∃ k : Nat, i = k ∧ k < n ∧ P = pathB l k (hgt n)) ∨ (F = 1 ∧ Z = noTwo)) := Lib.hid (fun h => by
    have hl := hL.1
    cases hk : pathOk l i
    · refine .inr ⟨by rw [← hF]; simp [pathE, hk], ?_⟩
      have h2 : hasI n i = false := by
        unfold pathOk at hk
        rw [hl, h] at hk
        exact hk
      have : traceOk l i s path = false := by rw [rtrOk_eq, rtrOk, hl, h, h2]; rfl
      rw [← hZ]; simp [traceF, this]
    · obtain ⟨_, k, rfl, h2⟩ := path_yes hk
      exact .inl ⟨by rw [← hF]; simp [pathE, hk], k, rfl, by omega, by rw [← hPv]; simp [pathV, hk, hl]⟩)
  have HT : Hid (mayB n = true → ∀ k : Nat, i = k → k < n → (hgt n ≠ m → Z = noTwo) ∧ (s = atB l k → Z = noTwo) ∧ (K = false → Z = noTwo) ∧ (hgt n = m → s ≠ atB l k → K = true → Z = findStep l k s path (List.range (m + 1)).reverse ∧ climbOk i path = true)) := Lib.hid (fun h k hk hkn => by
    have hl := hL.1
    have hv : V = rootB l := by rw [← hV, rootV, hl, if_pos h]
    have hpm : path.length = m := hP.1
    subst hk
    have hq : hasI n (k : Int) = true := by unfold hasI; simp; omega
    have hok : traceOk l k s path = (decide (hgt n = m) && (decide (s ≠ atB l k) && K)) := by
      rw [rtrOk_eq, rtrOk, hl, hpm, h, hq, ← hv, hK]
      simp
    refine ⟨fun e => ?_, fun e => ?_, fun e => ?_, fun e1 e2 e3 => ?_⟩
    · have : traceOk l k s path = false := by rw [hok]; simp [e]
      rw [← hZ]; simp [traceF, this]
    · have : traceOk l k s path = false := by rw [hok]; simp [e]
      rw [← hZ]; simp [traceF, this]
    · have : traceOk l k s path = false := by rw [hok]; simp [e]
      rw [← hZ]; simp [traceF, this]
    · have : traceOk l k s path = true := by rw [hok]; simp [e1, e2, e3]
      refine ⟨by rw [← hZ]; simp [traceF, this, hpm], ?_⟩
      rw [e3] at hK
      simp only [checkV, Bool.and_eq_true] at hK
      exact hK.1)
  have HC0 : Hid (∀ W, Below w.heap.size w W → ∀ k x, l[k]? = some x → ∃ b off, A = some ⟨b, off, none⟩ ∧ W.cell? ⟨b, off + k, none⟩ = some (.string x)) := Lib.hid (fun W hb => strs_at (hL.below hb))
  have HLn := Lib.hid hL.1
  have Hls := Lib.hid hls
  have Hp := Lib.hid hp
  rw [hZ]
  clear hV hE hPv hF hK hZ hL hP hls hp hls2
  go_enter Tryd.func76, Tryd.ntmps76
  go_wp2_with fail
  refine HR.out.mono ?_
  rintro e w1 ⟨rfl, hB1⟩
  have HL1 := Lib.hid ((HL.out.below hB1).more hB1.size)
  have HP1 := Lib.hid ((HP.out.below hB1).more hB1.size)
  clear HR HL HP
  go_wp2_with fail
  refine (HPa.out _ HL1.out).mono ?_
  rintro e w2 hpost
  obtain ⟨hb2, A2, c2, rfl, HPr⟩ := HPP.out _ _ _ hpost
  have hB2 := hB1.trans (hb2.mono hB1.size)
  have HL2 := Lib.hid ((HL1.out.below hb2).more hb2.size)
  have HP2 := Lib.hid ((HP1.out.below hb2).more hb2.size)
  have HQ2 := Lib.hid (srow_slr HPr.out rfl)
  clear hpost HL1 HP1 hb2 hB1 HPa HPP HPr
  rcases HE.out with ⟨rfl, hmay⟩ | ⟨rfl, rfl⟩
  · rcases HF.out hmay with ⟨rfl, kk, rfl, hkn, hPk⟩ | ⟨rfl, rfl⟩
    · obtain ⟨z1, z2, z3, z4⟩ := HT.out hmay kk rfl hkn
      have hPh : P.length = hgt n := by rw [hPk, pathB_len]
      by_cases hpm : hgt n = m
      · have hPm : P.length = m := by omega
        have HPk := Lib.hid hPk
        have HZ4 := Lib.hid (z4 hpm)
        have HZ2 := Lib.hid z2
        have HZ3 := Lib.hid z3
        obtain ⟨hmp, hm10⟩ := hgt_may hmay
        rw [hpm] at hmp hm10
        have HMp := Lib.hid hmp
        rw [hPm] at HQ2 ⊢
        have t1 : ((m : Int) == (m : Int)) = true := by simp
        have t1b : ((m : Int) != (m : Int)) = false := by simp
        obtain ⟨x, hx⟩ : ∃ x, l[kk]? = some x := ⟨l[kk]'(by rw [HLn.out]; exact hkn), List.getElem?_eq_getElem _⟩
        have HX := Lib.hid hx
        have hax : atB l kk = x := atB_of hx
        rw [hax] at HZ2 HZ4
        have HAx := Lib.hid hax
        have hxs := Hls.out x (List.mem_of_getElem? hx)
        obtain ⟨b0, off0, rfl, c0⟩ := HC0.out w2 hB2 kk x hx
        have i0 : (0 : Int) ≤ (kk : Int) := by omega
        have i1 : (kk : Int) < (n : Int) := by omega
        clear z1 z2 z3 z4 hmay hx hax hmp HT HF HE hPk hPh hpm hPm
        by_cases hsx : s = x
        · have hz := HZ2.out hsx
          subst hz
          have e1 : (s.toList == x.toList) = true := by rw [hsx]; simp
          clear hsx HZ2 HZ3 HZ4
          go_wp2_with fail
          refine bodyPost_ret (results_tmp3 rfl _ _ _) rfl ?_
          exact two_no hB2
        · have e1 : (s.toList == x.toList) = false := by
            simp only [beq_eq_false_iff_ne, ne_eq]
            exact fun h => hsx (bytes_ext h)
          go_wp2_with fail
          refine (HCk.out _ HP2.out).mono ?_
          rintro e w3 ⟨rfl, hb3⟩
          have hB3 := hB2.trans (hb3.mono hB2.size)
          have HL3 := Lib.hid ((HL2.out.below hb3).more hb3.size)
          have HP3 := Lib.hid ((HP2.out.below hb3).more hb3.size)
          have HQ3 := Lib.hid ((HQ2.out.below hb3).more hb3.size)
          clear HL2 HP2 HQ2 hB2 hb3 HCk c0
          cases K
          · have hz := HZ3.out rfl
            subst hz
            clear hsx HZ2 HZ3 HZ4
            go_wp2_with fail
            refine bodyPost_ret (results_tmp3 rfl _ _ _) rfl ?_
            exact two_no hB3
          · obtain ⟨hz, hco⟩ := HZ4.out hsx rfl
            have HZ := Lib.hid hz
            have HCo := Lib.hid hco
            have HP32 := Lib.hid (pathB_32 (l := l) (h := m) (i := kk) (by rw [HLn.out]; exact HMp.out) (by rw [HLn.out]; exact hkn) (fun s h => by have := Hls.out s h; omega))
            have HPm : Hid (P = pathB l kk m) := Lib.hid (by rw [HPk.out]; congr 1; have := HMp.out; rw [this, hgt_pow])
            have HCp : Hid (climbOk (kk : Int) P = true) := Lib.hid (by
              have q1 : P.length = m := by rw [HPm.out, pathB_len]
              have q2 : hasI (2 ^ m) (kk : Int) = true := by
                unfold hasI
                have h1 : decide ((kk : Int) < ((2 ^ m : Nat) : Int)) = true := by rw [decide_eq_true_eq, ← HMp.out]; exact i1
                rw [h1]; simp
              have q3 : P.all (fun p => p.size == 32) = true := by
                rw [HPm.out, List.all_eq_true]
                intro p hp
                simp [HP32.out p hp]
              unfold climbOk
              rw [q1, q2, q3]
              simp [hm10])
            have HWt : Hid (∀ j, j < m + 1 → wayB kk x P j = toldT l j (kk / 2 ^ j)) := Lib.hid (fun j hj => by
              rw [HPm.out, ← HAx.out]
              exact way_told (by rw [HLn.out]; exact HMp.out) (by rw [HLn.out]; exact hkn) j (by omega))
            have HPs : Hid (∀ p ∈ P, p.size ≤ 200) := Lib.hid (fun p hp => by
              rw [HPm.out] at hp
              have := HP32.out p hp
              omega)
            obtain ⟨b0', off0', e0, c0⟩ := HC0.out w3 hB3 kk x HX.out
            injection e0 with e0
            injection e0 with e01 e02
            subst e01 e02
            clear hsx HZ2 HZ3 HZ4 hz hco HPm HP32
            have hz3 := hB3.size
            go_wp2_with fail
            refine (rways_any (kk : Int) x P A2 m c2 w3 HQ3.out (by omega) (by omega) HPs.out).mono ?_
            rintro e w4 ⟨hb4, hcase⟩
            rcases hcase.symm with ⟨h1, _⟩ | ⟨_, A5, c5, rfl, HR5⟩
            · exact absurd (HCp.out.symm.trans h1) (by decide)
            have hB4 := hB3.trans (hb4.mono hB3.size)
            have HP4 := Lib.hid ((HP3.out.below hb4).more hb4.size)
            rw [Int.toNat_natCast] at HR5
            have HS5 := Lib.hid (srow_slr HR5.out (waysB_len _ _ _ _))
            clear hcase HL3 HP3 HQ3 hb4 hB3 c0 HR5
            go_wp2_with fail
            refine (rways_any (kk : Int) s path A' m c' w4 HP4.out (by omega) (by omega) Hp.out).mono ?_
            rintro e wx ⟨hb5, hcase⟩
            rcases hcase.symm with ⟨h1, _⟩ | ⟨_, A6, c6, rfl, HR6⟩
            · exact absurd (HCo.out.symm.trans h1) (by decide)
            have hB5 := hB4.trans (hb5.mono hB4.size)
            rw [Int.toNat_natCast] at HR6
            have HS5x := Lib.hid ((HS5.out.below hb5).more hb5.size)
            obtain ⟨b5, off5, rfl, hb5', hC5⟩ := HS5x.out.2.resolve_left (by omega)
            obtain ⟨b6, off6, rfl, hb6', hC6⟩ := (srow_slr HR6.out (waysB_len _ _ _ _)).2.resolve_left (by omega)
            have HC5 : Hid (∀ W, Below wx.heap.size wx W → ∀ j, j < m + 1 → W.cell? ⟨b5, off5 + j, none⟩ = some (.string (toldT l j (kk / 2 ^ j)))) := Lib.hid (fun W hb j hj => by rw [← HWt.out j hj]; exact (hC5.below hb hb5').str (waysB_at kk x P hj))
            have HC6 : Hid (∀ W, Below wx.heap.size wx W → ∀ j, j < m + 1 → W.cell? ⟨b6, off6 + j, none⟩ = some (.string (wayB kk s path j))) := Lib.hid (fun W hb j hj => (hC6.below hb hb6').str (waysB_at kk s path hj))
            clear hcase HP4 hb5 hB4 HS5 HS5x hC5 hC6 HR6 HWt HCp HCo
            go_wp2_with fail
            go_loopw [19] (fun hv wr => ∃ k : Nat, k ≤ m + 1 ∧ hv = .int .i64 ((k : Int) - 1) ∧ Hid (∀ j, k ≤ j → j < m + 1 → stepUnlike l kk s path j = false) ∧ Below wx.heap.size wx wr) (fun hv _ => (intOf hv + 1).toNat)
            case atStart => exact ⟨m + 1, by omega, by go_num, Lib.hid (fun j h1 h2 => by omega), Below.refl _ _⟩
            case round =>
              obtain ⟨k, hk, rfl, HU, hB⟩ := hrel
              cases k with
              | zero =>
                have hz : Z = noTwo := by
                  rw [HZ.out]
                  unfold findStep
                  rw [find_rev_none _ _ (fun j h => HU.out j (Nat.zero_le _) h)]
                subst hz
                have e0 : ((0 : Nat) : Int) - 1 = -1 := rfl
                rw [e0]
                have HBx := Lib.hid (hB5.trans (hB.mono hB5.size))
                clear HZ HC5 HC6 hB hB5 e0
                go_wp2_with fail
                refine bodyPost_ret (results_tmp3 rfl _ _ _) rfl ?_
                exact two_no HBx.out
              | succ j =>
                have e0 : ((j + 1 : Nat) : Int) - 1 = (j : Int) := by omega
                rw [e0]
                have q1 := HC5.out wr hB j (by omega)
                have q2 := HC6.out wr hB j (by omega)
                obtain ⟨T1, hT1⟩ : ∃ T, toldT l j (kk / 2 ^ j) = T := ⟨_, rfl⟩
                obtain ⟨T2, hT2⟩ : ∃ T, wayB kk s path j = T := ⟨_, rfl⟩
                rw [hT1] at q1
                rw [hT2] at q2
                have HSt : Hid (stepUnlike l kk s path j = decide (T1 ≠ T2)) := Lib.hid (by rw [stepUnlike, hT1, hT2])
                have HTn := Lib.hid (And.intro hT1 hT2)
                have i2 : (0 : Int) ≤ (j : Int) := by omega
                have i3 : (j : Int) < ((m + 1 : Nat) : Int) := by omega
                have i4 : (j : Int) < (m : Int) + 1 := by omega
                clear e0 hT1 hT2
                by_cases hT : T1 = T2
                · have u1 : (T1.toList == T2.toList) = true := by rw [hT]; simp
                  have u2 : (T1.toList != T2.toList) = false := by rw [hT]; simp
                  have HU2 : Hid (∀ k, j ≤ k → k < m + 1 → stepUnlike l kk s path k = false) := Lib.hid (fun k h1 h2 => by
                    by_cases e : k = j
                    · rw [e, HSt.out]; simp [hT]
                    · exact HU.out k (by omega) h2)
                  clear hT
                  go_wp2_with fail
                  go_quiet (fail)
                  go_wp2_with fail
                  go_roundw
                  case rel => exact ⟨j, by omega, by go_num, HU2, below_drewN hB _⟩
                  case measure => simp [intOf]
                · have u1 : (T1.toList == T2.toList) = false := by
                    simp only [beq_eq_false_iff_ne, ne_eq]
                    exact fun h => hT (bytes_ext h)
                  have u2 : (T1.toList != T2.toList) = true := by
                    simp only [bne_iff_ne, ne_eq]
                    exact fun h => hT (bytes_ext h)
                  have hz : Z = ⟨T1, T2, true⟩ := by
                    rw [HZ.out]
                    unfold findStep
                    rw [find_rev_some _ (m + 1) j (by omega) (by rw [HSt.out]; simp [hT]) (fun k h1 h2 => HU.out k (by omega) h2)]
                    simp only [HTn.out.1, HTn.out.2]
                  subst hz
                  have HBx := Lib.hid (hB5.trans (hB.mono hB5.size))
                  clear hT HZ
                  go_wp2_with fail
                  go_quiet (fail)
                  go_wp2_with fail
                  go_quiet (fail)
                  go_wp2_with fail
                  refine bodyPost_ret (results_tmp3 rfl _ _ _) rfl ?_
                  exact ⟨rfl, below_drewN (below_drewN HBx.out _) _⟩
      · have hz := z1 hpm
        subst hz
        have hne : P.length ≠ m := by omega
        have t1 : ((P.length : Int) == (m : Int)) = false := by simp; omega
        have t1b : ((P.length : Int) != (m : Int)) = true := by simp; omega
        clear z1 z2 z3 z4 hmay HT HF HE hPk hPh hpm hne
        go_wp2_with fail
        refine bodyPost_ret (results_tmp3 rfl _ _ _) rfl ?_
        exact two_no hB2
    · clear HT HF HE hmay
      go_wp2_with fail
      refine bodyPost_ret (results_tmp3 rfl _ _ _) rfl ?_
      exact two_no hB2
  · clear HT HF HE
    go_wp2_with fail
    refine bodyPost_ret (results_tmp3 rfl _ _ _) rfl ?_
    exact two_no hB2
end Go.Proofs.YtkaaicmadknjcaaDoor
