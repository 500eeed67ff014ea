/- tree: way, Climb, Check. -/
import Derived.Test.YtkaaicmadknjcaaDoorTreD
set_option linter.unusedVariables false
set_option linter.unusedSimpArgs false
namespace Go.Proofs.YtkaaicmadknjcaaDoor
open Go.RowKit
theorem strs_at {w : World} {B n : Nat} {A : Option Addr} {L : List ByteArray} (h : SlR encS 1 w B A n L) : ∀ k x, L[k]? = some x → ∃ b off, A = some ⟨b, off, none⟩ ∧ w.cell? ⟨b, off + k, none⟩ = some (.string x) := by
  intro k x hx
  have hk := (List.getElem?_eq_some_iff.1 hx).1
  obtain ⟨b, off, e, hb, hC⟩ := h.2.resolve_left (by have := h.1; omega)
  exact ⟨b, off, e, hC.str hx⟩
theorem way_odd {i k j : Nat} {s d x : ByteArray} {path : List ByteArray} (hj : i / 2 ^ k = j) (hd : sumF (wayB i s path k) = d) (hx : path[k]? = some x) (ho : j % 2 = 1) : wayB i s path (k + 1) = nodeT x d := by
  rw [wayB, hj, if_pos ho, hd, atB_of hx]
theorem way_even {i k j : Nat} {s d x : ByteArray} {path : List ByteArray} (hj : i / 2 ^ k = j) (hd : sumF (wayB i s path k) = d) (hx : path[k]? = some x) (ho : ¬ j % 2 = 1) : wayB i s path (k + 1) = nodeT d x := by
  rw [wayB, hj, if_neg ho, hd, atB_of hx]
set_option maxRecDepth 100000 in
set_option maxHeartbeats 1000000 in
theorem way_any (i : Nat) (s : ByteArray) (path : List ByteArray) (A : Option Addr) (n c : Nat) (w : World) (hG : Rounds w) (hL : SlR encS 1 w w.heap.size A n path) (hn : n ≤ 2000) (hi : i ≤ 140737488351232) (hs : s.size ≤ 1000000) (hp : ∀ p ∈ path, p.size ≤ 200) :
    Calls Tryd.prog 117 #[.int .i64 i, .string s, .slice A n c] w fun e w' => Below w.heap.size w w' ∧ ∃ A c, e = .returned (.tuple #[.slice A (n + 1) c, .string (sumF (wayB i s path n))]) ∧ Hid (SRow w' w.heap.size (.slice A (n + 1) c) (waysB i s path (n + 1))) := by
  have HC : Hid (∀ W, Below w.heap.size w W → ∀ k x, path[k]? = some x → ∃ b off, A = some ⟨b, off, none⟩ ∧ W.cell? ⟨b, off + k, none⟩ = some (.string x)) := Lib.hid (fun W hb => strs_at (hL.below hb))
  have HLn := Lib.hid hL.1
  have HG := Lib.hid hG
  have HP := Lib.hid hp
  have hmk : ∀ W : World, (Instr.makeSlice 54 (.int .i64 0) (.int .i64 ((n : Int) + 1))).run Tryd.prog W = .ok (.slice (some ⟨W.heap.size, 0, none⟩) 0 (n + 1)) (W.alloc (.cells (madeCells #[.string ByteArray.empty] (n + 1)) 9)) := by
    intro W
    have := make_strs (n + 1) (by omega) W
    rwa [show ((n + 1 : Nat) : Int) = (n : Int) + 1 by omega] at this
  have HO := Lib.hid (srow_made w (n + 1) (by omega))
  have HLs : Hid ((leafT s).size ≤ maxLen) := Lib.hid (by rw [leafT_size]; simp only [maxLen]; omega)
  have HW1 : Hid (([] : List ByteArray) ++ [leafT s] = waysB i s path 1) := Lib.hid rfl
  clear hL hG hp
  go_enter Tryd.func117, Tryd.ntmps117
  go_wp2_with fail
  refine (leafText_any s _ (by omega)).mono ?_
  rintro e w1 ⟨rfl, rfl⟩
  go_wp2_with (at_builtin; refine wpList_append_str rfl (.tmp 17) (.tmp 20) rfl rfl (orow_alloc HO.out _) (w.heap.size + 1) (leafT s) rfl (Blk.new_at (by simp) _ _) 0 rfl _ HW1.out (by omega) (by simp; omega) ?_; intro A3 c3 w3 HR3 hg3 hb3; obtain ⟨b3, off3, rfl, hb3', hC3⟩ := (srow_slr HR3.out (waysB_len _ _ _ 1)).2.resolve_left (by omega); have q0 := hC3.str (waysB_at i s path (k := 0) (n := 1) (by omega)); rw [Nat.add_zero] at q0; change w3.cell? ⟨b3, off3, none⟩ = some (.string (leafT s)) at q0)
  have hB3 : Below w.heap.size w w3 := Below.trans (by go_grown) hb3
  clear hg3 hb3 hC3
  refine (sumF_any (leafT s) _ (rounds_of HG.out hB3) HLs.out).mono ?_
  rintro e w4 ⟨rfl, hb4⟩
  have hz3 := hB3.size
  have hB4 := hB3.trans (hb4.mono hz3)
  have HR4 : Hid (SRow w4 w.heap.size (.slice (some ⟨b3, off3, none⟩) 1 c3) (waysB i s path 1)) := Lib.hid (orow_below HR3.out hb4 (Nat.le_refl _))
  clear hb4 q0 HR3 hB3 hz3 hb3'
  go_wp2_with fail
  go_loopw [0, 8, 9, 28] (fun iv v nv kv wr => ∃ (k j : Nat) (A5 : Option Addr) (c5 : Nat) (d : ByteArray), k ≤ n ∧ kv = .int .i64 k ∧ iv = .int .i64 j ∧ j ≤ 140737488351232 ∧ Hid (i / 2 ^ k = j) ∧ nv = .string d ∧ d.size ≤ 32 ∧ Hid (sumF (wayB i s path k) = d) ∧ v = .slice A5 (k + 1) c5 ∧ Hid (SRow wr w.heap.size (.slice A5 (k + 1) c5) (waysB i s path (k + 1))) ∧ Below w.heap.size w wr) (fun _ _ _ kv _ => n - (intOf kv).toNat)
  case atStart => exact ⟨0, i, _, _, _, Nat.zero_le _, rfl, rfl, hi, Lib.hid (by simp), rfl, sumF_le _, Lib.hid rfl, rfl, HR4, hB4⟩
  case round =>
    clear HR4 hB4 HO hmk HW1
    obtain ⟨k, j, A5, c5, d, hk, rfl, rfl, hj, HJ, rfl, hd, HD, rfl, HR, hB⟩ := hrel
    by_cases hlt : k < n
    · obtain ⟨x, hxk⟩ : ∃ x, path[k]? = some x := ⟨path[k]'(by rw [HLn.out]; exact hlt), List.getElem?_eq_getElem _⟩
      obtain ⟨b, off, rfl, c0⟩ := HC.out wr hB k x hxk
      have hx := HP.out x (List.mem_of_getElem? hxk)
      have HX := Lib.hid hxk
      have HJ2 : Hid (i / 2 ^ (k + 1) = j / 2) := Lib.hid (by rw [← HJ.out, Nat.pow_succ, Nat.div_div_eq_div_mul])
      have HEq := Lib.hid (waysB_succ i s path (k + 1))
      have HPl : Hid ((waysB i s path (k + 1)).length = k + 1) := Lib.hid (waysB_len i s path (k + 1))
      have t2 : (j : Int).tdiv 2 = ((j / 2 : Nat) : Int) := rfl
      have hzr := hB.size
      clear hxk
      by_cases ho : j % 2 = 1
      · have t1 : (j : Int).tmod 2 = 1 := by show ((j % 2 : Nat) : Int) = 1; rw [ho]; rfl
        have HW := Lib.hid (way_odd HJ.out HD.out HX.out ho)
        rw [HW.out] at HEq
        clear ho
        go_wp2_with fail
        refine (nodeText_any d x _ (by omega) (by omega)).mono ?_
        rintro e w1 ⟨rfl, rfl⟩
        go_wp2_with fail
        refine (nodeText_any x d _ (by omega) (by omega)).mono ?_
        rintro e w1 ⟨rfl, rfl⟩
        go_wp2_with (at_builtin; refine wpList_append_str rfl (.tmp 41) (.tmp 43) rfl rfl (orow_alloc HR.out _) wr.heap.size (nodeT x d) rfl (Blk.new _ _ _) (k + 1) HPl.out _ HEq.out (by omega) (by simp; omega) ?_; intro A6 c6 w6 HR6 hg6 hb6)
        have hB6 : Below w.heap.size w w6 := Below.trans hB (Below.trans (by go_grown) hb6)
        clear hg6 hb6
        refine (sumF_any (nodeT x d) _ (rounds_of HG.out hB6) (by rw [nodeT_size]; simp only [maxLen]; omega)).mono ?_
        rintro e w7 ⟨rfl, hb7⟩
        have hB7 := hB6.trans (hb7.mono hB6.size)
        have HR7 := Lib.hid (orow_below HR6.out hb7 (Nat.le_refl _))
        clear hb7 hB6 HR6
        go_wp2_with fail
        go_roundw
        case rel => exact ⟨k + 1, j / 2, A6, c6, sumF (nodeT x d), by omega, by go_num, by go_num, by omega, HJ2, rfl, sumF_le _, Lib.hid (by rw [HW.out]), rfl, HR7, hB7⟩
        case measure => simp [intOf]; omega
      · have t1 : (j : Int).tmod 2 = 0 := by show ((j % 2 : Nat) : Int) = 0; rw [show j % 2 = 0 by omega]; rfl
        have HW := Lib.hid (way_even HJ.out HD.out HX.out ho)
        rw [HW.out] at HEq
        clear ho
        go_wp2_with fail
        refine (nodeText_any d x _ (by omega) (by omega)).mono ?_
        rintro e w1 ⟨rfl, rfl⟩
        go_wp2_with (at_builtin; refine wpList_append_str rfl (.tmp 41) (.tmp 43) rfl rfl (orow_alloc HR.out _) wr.heap.size (nodeT d x) rfl (Blk.new _ _ _) (k + 1) HPl.out _ HEq.out (by omega) (by simp; omega) ?_; intro A6 c6 w6 HR6 hg6 hb6)
        have hB6 : Below w.heap.size w w6 := Below.trans hB (Below.trans (by go_grown) hb6)
        clear hg6 hb6
        refine (sumF_any (nodeT d x) _ (rounds_of HG.out hB6) (by rw [nodeT_size]; simp only [maxLen]; omega)).mono ?_
        rintro e w7 ⟨rfl, hb7⟩
        have hB7 := hB6.trans (hb7.mono hB6.size)
        have HR7 := Lib.hid (orow_below HR6.out hb7 (Nat.le_refl _))
        clear hb7 hB6 HR6
        go_wp2_with fail
        go_roundw
        case rel => exact ⟨k + 1, j / 2, A6, c6, sumF (nodeT d x), by omega, by go_num, by go_num, by omega, HJ2, rfl, sumF_le _, Lib.hid (by rw [HW.out]), rfl, HR7, hB7⟩
        case measure => simp [intOf]; omega
    · obtain rfl : k = n := by omega
      go_wp2
      go_ret2
      exact ⟨hB, A5, c5, by rw [HD.out]; rfl, HR⟩
def all32 (L : List ByteArray) : Bool := L.all (fun p => p.size == 32)
theorem all32_mem {L : List ByteArray} (h : all32 L = true) : ∀ p ∈ L, p.size = 32 := by
  intro p hp
  have := List.all_eq_true.1 h p hp
  simpa using this
theorem shl_pow (n : Nat) : ∀ m, m ≤ 10 → n = m → (1 : Int) * 2 ^ n = ((2 ^ m : Nat) : Int) := by
  intro m _ h
  rw [h]
  simp
/-- Climb's way out: more than ten, or a place that is not there -/
theorem climb_out (i : Int) (s : ByteArray) (path : List ByteArray) (A : Option Addr) (n c : Nat) (w : World) (hl : path.length = n) (hn : n ≤ 140737488351232) (h : (decide (n ≤ 10) && hasI (2 ^ n) i) = false) :
    Calls Tryd.prog 69 #[.int .i64 i, .string s, .slice A n c] w fun e w' => e = .returned (.tuple #[.string (climbV i s path), .int .i64 (climbE i path)]) ∧ w = w' := by
  have hk : climbOk i path = false := by
    unfold climbOk
    rw [hl, ← Bool.and_assoc, h]; rfl
  have hv : climbV i s path = ByteArray.empty := by simp [climbV, hk]
  have he : climbE i path = 1 := by simp [climbE, hk]
  rw [hv, he]
  simp only [hasI, Bool.and_eq_false_iff, decide_eq_false_iff_not] at h
  clear hk hv he hl
  by_cases h10 : 10 < n
  · clear h
    go_enter Tryd.func69, Tryd.ntmps69
    go_wp2
    go_ret2
    exact ⟨rfl, rfl⟩
  · by_cases h0 : i < 0
    · clear h
      go_enter Tryd.func69, Tryd.ntmps69
      go_wp2
      go_ret2
      exact ⟨rfl, rfl⟩
    · have h1 : ((2 ^ n : Nat) : Int) ≤ i := by omega
      have hp1 : 1 ≤ 2 ^ n := Nat.one_le_two_pow
      have hp2 : 2 ^ n ≤ 1024 := Nat.le_trans (pow_le_two (by omega : n ≤ 10)) (by decide)
      have hs := shl_pow n n (by omega) rfl
      generalize 2 ^ n = p at *
      clear h
      go_enter Tryd.func69, Tryd.ntmps69
      go_wp2
      go_ret2
      exact ⟨rfl, rfl⟩
theorem climb_in (i : Nat) (s : ByteArray) (path : List ByteArray) (A : Option Addr) (n c : Nat) (w : World) (hG : Rounds w) (hL : SlR encS 1 w w.heap.size A n path) (hn : n ≤ 10) (hi : i < 2 ^ n) (hs : s.size ≤ 1000000) :
    Calls Tryd.prog 69 #[.int .i64 i, .string s, .slice A n c] w fun e w' => e = .returned (.tuple #[.string (climbV i s path), .int .i64 (climbE i path)]) ∧ Below w.heap.size w w' := by
  have hok : climbOk i path = all32 path := by
    have h1 : decide ((i : Int) < ((2 ^ n : Nat) : Int)) = true := by rw [decide_eq_true_eq]; exact Int.ofNat_lt.2 hi
    have h2 : decide (n ≤ 10) = true := by rw [decide_eq_true_eq]; exact hn
    have h3 : decide ((0 : Int) ≤ (i : Int)) = true := by rw [decide_eq_true_eq]; omega
    unfold climbOk hasI all32
    rw [hL.1, h1, h2, h3]
    rfl
  have HNo : Hid (∀ (k : Nat) (x : ByteArray), path[k]? = some x → x.size ≠ 32 → climbV i s path = ByteArray.empty ∧ climbE i path = 1) := Lib.hid (fun k x hx h => by
    have : all32 path = false := by
      unfold all32
      exact all_no hx (by simpa using h)
    rw [this] at hok
    simp [climbV, climbE, hok])
  have HYes : Hid ((∀ (j : Nat) x, path[j]? = some x → x.size = 32) → (climbV i s path = sumF (wayB i s path n) ∧ climbE i path = 0) ∧ ∀ p ∈ path, p.size ≤ 200) := Lib.hid (fun h => by
    have h32 : ∀ p ∈ path, p.size = 32 := fun p hp => by
      obtain ⟨j, hj⟩ := List.getElem?_of_mem hp
      exact h j p hj
    have : all32 path = true := by
      unfold all32
      rw [List.all_eq_true]
      intro p hp
      simp [h32 p hp]
    rw [this] at hok
    have hl := hL.1
    exact ⟨by simp [climbV, climbE, hok, hl], fun p hp => by rw [h32 p hp]; omega⟩)
  have HC : Hid (∀ k x, path[k]? = some x → ∃ b off, A = some ⟨b, off, none⟩ ∧ w.cell? ⟨b, off + k, none⟩ = some (.string x)) := Lib.hid (strs_at hL)
  have HLn := Lib.hid hL.1
  have HWay := Lib.hid (fun (hp : ∀ p ∈ path, p.size ≤ 200) => way_any i s path A n c w hG hL (by omega) (by have := Nat.le_trans (pow_le_two hn) (by decide : 2 ^ 10 ≤ 1024); omega) hs hp)
  have hp1 : 1 ≤ 2 ^ n := Nat.one_le_two_pow
  have hp2 : 2 ^ n ≤ 1024 := Nat.le_trans (pow_le_two (by omega : n ≤ 10)) (by decide)
  have hsh := shl_pow n n (by omega) rfl
  generalize climbV i s path = V at *
  generalize climbE i path = E at *
  generalize 2 ^ n = p at *
  clear hok hL hG hs
  go_enter Tryd.func69, Tryd.ntmps69
  go_wp2
  go_loop [28] (fun kv => ∃ k : Nat, k ≤ n ∧ kv = .int .i64 k ∧ Hid (∀ (j : Nat) x, j < k → path[j]? = some x → x.size = 32)) (fun kv => n - (intOf kv).toNat)
  case atStart => exact ⟨0, Nat.zero_le _, rfl, Lib.hid (fun j x h => by omega)⟩
  case round =>
    obtain ⟨k, hk, rfl, HU⟩ := hrel
    by_cases hlt : k < n
    · obtain ⟨x, hxk⟩ : ∃ x, path[k]? = some x := ⟨path[k]'(by rw [HLn.out]; exact hlt), List.getElem?_eq_getElem _⟩
      obtain ⟨b, off, rfl, c0⟩ := HC.out k x hxk
      have HX := Lib.hid hxk
      clear hxk
      by_cases hx : x.size = 32
      · have HU1 : Hid (∀ (j : Nat) x, j < k + 1 → path[j]? = some x → x.size = 32) := Lib.hid (fun j y hj hy => by
          by_cases e : j = k
          · subst e
            rw [HX.out] at hy
            injection hy with hy
            subst hy; exact hx
          · exact HU.out j y (by omega) hy)
        have t1 : ((x.size : Int) == 32) = true := by rw [hx]; rfl
        go_wp2
        go_round
        case rel => exact ⟨k + 1, by omega, by go_num, HU1⟩
        case measure => simp [intOf]; omega
      · obtain ⟨rfl, rfl⟩ := HNo.out k x HX.out hx
        have t1 : ((x.size : Int) == 32) = false := by simp; omega
        clear hx
        go_wp2
        go_ret2
        exact ⟨rfl, Below.refl _ _⟩
    · obtain rfl : k = n := by omega
      obtain ⟨⟨rfl, rfl⟩, hp⟩ := HYes.out (fun j x h => HU.out j x (by have := (List.getElem?_eq_some_iff.1 h).1; rw [HLn.out] at this; exact this) h)
      have HWay2 := Lib.hid (HWay.out hp)
      clear HWay hp
      go_wp2_with fail
      refine HWay2.out.mono ?_
      rintro e w1 ⟨hb1, A1, c1, rfl, HR1⟩
      clear HWay2
      go_wp2_with fail
      go_ret2
      exact ⟨rfl, hb1⟩
theorem climb_any (i : Int) (s : ByteArray) (path : List ByteArray) (A : Option Addr) (n c : Nat) (w : World) (hG : Rounds w) (hL : SlR encS 1 w w.heap.size A n path) (hn : n ≤ 140737488351232) (hs : s.size ≤ 1000000) :
    Calls Tryd.prog 69 #[.int .i64 i, .string s, .slice A n c] w fun e w' => e = .returned (.tuple #[.string (climbV i s path), .int .i64 (climbE i path)]) ∧ Below w.heap.size w w' := by
  cases h : decide (n ≤ 10) && hasI (2 ^ n) i
  · exact (climb_out i s path A n c w hL.1 hn h).mono fun e w' ⟨h1, h2⟩ => ⟨h1, by rw [← h2]; exact Below.refl _ _⟩
  · simp only [Bool.and_eq_true, hasI, decide_eq_true_eq] at h
    obtain ⟨h1, h2, h3⟩ := h
    obtain ⟨k, rfl⟩ : ∃ k : Nat, i = k := ⟨i.toNat, by omega⟩
    exact climb_in k s path A n c w hG hL h1 (by omega) hs
theorem tcheck_any (root : ByteArray) (i : Int) (s : ByteArray) (path : List ByteArray) (A : Option Addr) (n c : Nat) (w : World) (hG : Rounds w) (hL : SlR encS 1 w w.heap.size A n path) (hn : n ≤ 140737488351232) (hs : s.size ≤ 1000000) :
    Calls Tryd.prog 71 #[.string root, .int .i64 i, .string s, .slice A n c] w fun e w' => e = .returned (.bool (checkV root i s path)) ∧ Below w.heap.size w w' := by
  have HC := Lib.hid (climb_any i s path A n c w hG hL hn hs)
  clear hL hG
  unfold checkV
  cases hk : climbOk i path
  · have hE : climbE i path = 1 := by simp [climbE, hk]
    rw [hE] at HC
    generalize climbV i s path = V at HC ⊢
    clear hk hE
    go_enter Tryd.func71, Tryd.ntmps71
    go_wp2_with fail
    refine HC.out.mono ?_
    rintro e w1 ⟨rfl, hb1⟩
    clear HC
    go_wp2_with fail
    go_ret
    exact ⟨rfl, hb1⟩
  · have hE : climbE i path = 0 := by simp [climbE, hk]
    rw [hE] at HC
    generalize climbV i s path = V at HC ⊢
    clear hk hE
    by_cases hv : V = root
    · subst hv
      have t1 : (V.toList == V.toList) = true := by simp
      have t2 : (true && decide (V = V)) = true := by simp
      rw [t2]
      go_enter Tryd.func71, Tryd.ntmps71
      go_wp2_with fail
      refine HC.out.mono ?_
      rintro e w1 ⟨rfl, hb1⟩
      clear HC
      go_wp2_with fail
      go_ret
      exact ⟨rfl, hb1⟩
    · have t1 : (V.toList == root.toList) = false := by
        simp only [beq_eq_false_iff_ne, ne_eq]
        exact fun h => hv (bytes_ext h)
      have t2 : (true && decide (V = root)) = false := by simp [hv]
      rw [t2]
      clear hv
      go_enter Tryd.func71, Tryd.ntmps71
      go_wp2_with fail
      refine HC.out.mono ?_
      rintro e w1 ⟨rfl, hb1⟩
      clear HC
      go_wp2_with fail
      go_ret
      exact ⟨rfl, hb1⟩
end Go.Proofs.YtkaaicmadknjcaaDoor
/- tree: Trace. -/
namespace Go.Proofs.YtkaaicmadknjcaaDoor
open Go.RowKit
theorem find_rev_none (p : Nat → Bool) : ∀ n, (∀ j, j < n → p j = false) → (List.range n).reverse.find? p = none := by
  intro n h
  rw [List.find?_eq_none]
  intro x hx
  have := h x (by simpa using hx)
  simp [this]
theorem find_rev_some (p : Nat → Bool) : ∀ n k, k < n → p k = true → (∀ j, k < j → j < n → p j = false) → (List.range n).reverse.find? p = some k := by
  intro n
  induction n with
  | zero => intro k h; omega
  | succ n ih =>
    intro k hk hp hb
    rw [List.range_succ, List.reverse_append]
    simp only [List.reverse_cons, List.reverse_nil, List.nil_append, List.cons_append, List.find?_cons]
    by_cases e : k = n
    · subst e
      rw [hp]
    · rw [hb n (by omega) (by omega)]
      exact ih k (by omega) hp (fun j h1 h2 => hb j h1 (by omega))
def twoV (t : Two) : Value := .tuple #[.string t.a, .string t.b, .bool t.ok]
/-- what Trace and Collide tell, and leave -/
def TwoPost (t : Two) (w : World) (e : Ending) (w' : World) : Prop := e = .returned (twoV t) ∧ Below w.heap.size w w'
theorem two_no {w w' : World} (h : Below w.heap.size w w') : TwoPost noTwo w (.returned (.tuple #[.string ByteArray.empty, .string ByteArray.empty, .bool false])) w' := ⟨rfl, h⟩
theorem div_low {i m j : Nat} (hi : i < 2 ^ m) (hj : j ≤ m) : i / 2 ^ j < 2 ^ (m - j) := by
  have hq : 2 ^ m = 2 ^ (m - j) * 2 ^ j := by rw [← Nat.pow_add]; congr 1; omega
  rw [Nat.div_lt_iff_lt_mul (Nat.pos_of_ne_zero (by simp)), ← hq]; exact hi
theorem ttrace_out (l : List ByteArray) (i : Int) (s : ByteArray) (path : List ByteArray) (A A' : Option Addr) (n c m c' : Nat) (w : World) (hn : n ≤ 140737488351232) (hm : m ≤ 140737488351232)
    (h : (mayB n && (hasI n i && (decide (m ≤ 10) && decide (2 ^ m = n)))) = false) :
    Calls Tryd.prog 73 #[.slice A n c, .int .i64 i, .string s, .slice A' m c'] w (TwoPost noTwo w) := by
  have HM := Lib.hid (mayroot_any n w hn)
  cases hmay : mayB n
  · rw [hmay] at HM
    clear h hmay
    go_enter Tryd.func73, Tryd.ntmps73
    go_wp2_with fail
    refine HM.out.mono ?_
    rintro e w1 ⟨rfl, rfl⟩
    go_wp2_with fail
    refine bodyPost_ret (results_tmp3 rfl _ _ _) rfl ?_
    exact two_no (Below.refl _ _)
  · rw [hmay] at HM h
    simp only [Bool.true_and, hasI, Bool.and_eq_false_iff, decide_eq_false_iff_not] at h
    by_cases h0 : i < 0
    · clear h hmay
      go_enter Tryd.func73, Tryd.ntmps73
      go_wp2_with fail
      refine HM.out.mono ?_
      rintro e w1 ⟨rfl, rfl⟩
      go_wp2_with fail
      refine bodyPost_ret (results_tmp3 rfl _ _ _) rfl ?_
      exact two_no (Below.refl _ _)
    · by_cases h1 : (n : Int) ≤ i
      · clear h hmay
        go_enter Tryd.func73, Tryd.ntmps73
        go_wp2_with fail
        refine HM.out.mono ?_
        rintro e w1 ⟨rfl, rfl⟩
        go_wp2_with fail
        refine bodyPost_ret (results_tmp3 rfl _ _ _) rfl ?_
        exact two_no (Below.refl _ _)
      · by_cases h10 : 10 < m
        · clear h hmay
          go_enter Tryd.func73, Tryd.ntmps73
          go_wp2_with fail
          refine HM.out.mono ?_
          rintro e w1 ⟨rfl, rfl⟩
          go_wp2_with fail
          refine bodyPost_ret (results_tmp3 rfl _ _ _) rfl ?_
          exact two_no (Below.refl _ _)
        · have hne : 2 ^ m ≠ n := by omega
          have hp1 : 1 ≤ 2 ^ m := Nat.one_le_two_pow
          have hp2 : 2 ^ m ≤ 1024 := Nat.le_trans (pow_le_two (by omega : m ≤ 10)) (by decide)
          have hs := shl_pow m m (by omega) rfl
          generalize 2 ^ m = p at *
          have t1 : ((p : Int) == (n : Int)) = false := by simp; omega
          have t2 : ((p : Int) != (n : Int)) = true := by simp; omega
          clear h hmay
          go_enter Tryd.func73, Tryd.ntmps73
          go_wp2_with fail
          refine HM.out.mono ?_
          rintro e w1 ⟨rfl, rfl⟩
          go_wp2_with fail
          refine bodyPost_ret (results_tmp3 rfl _ _ _) rfl ?_
          exact two_no (Below.refl _ _)
set_option maxRecDepth 100000 in
set_option maxHeartbeats 2000000 in
theorem ttrace_in (l : List ByteArray) (i : Nat) (s : ByteArray) (path : List ByteArray) (A A' : Option Addr) (n c m c' : Nat) (w : World) (hG : Rounds w) (hL : SlR encS 1 w w.heap.size A n l) (hP : SlR encS 1 w w.heap.size A' m path)
    (hmay : mayB n = true) (hi : i < n) (hm : m ≤ 10) (hn : 2 ^ m = n) (hls : ∀ x ∈ l, x.size ≤ 140737488351232) (hs : s.size ≤ 1000000) (hp : ∀ p ∈ path, p.size ≤ 200) :
    Calls Tryd.prog 73 #[.slice A n c, .int .i64 i, .string s, .slice A' m c'] w (TwoPost (traceF l i s path) w) := by
  have hn2 : n ≤ 1024 := by rw [← hn]; exact Nat.le_trans (pow_le_two hm) (by decide)
  have hM := mayroot_any n w (by omega)
  rw [hmay] at hM
  have HM := Lib.hid hM
  have HLn : Hid (l.length = 2 ^ m) := Lib.hid (by rw [hL.1, hn])
  have HPn := Lib.hid hP.1
  have HL := Lib.hid hL
  have HP := Lib.hid hP
  have HG := Lib.hid hG
  have HR := Lib.hid (rowsOf_any l A n c m w hG hL hn.symm hm hls)
  have hgl : hgt l.length = m := by rw [hL.1, ← hn, hgt_pow]
  have hrt : rootB l = atB (lev l m) 0 := by rw [rootB, hgl]
  have hok : traceOk l i s path = (decide (s ≠ atB l i) && checkV (rootB l) i s path) := by
    have q1 : decide ((i : Int) < (n : Int)) = true := by rw [decide_eq_true_eq]; omega
    have q2 : decide ((0 : Int) ≤ (i : Int)) = true := by rw [decide_eq_true_eq]; omega
    have q3 : decide (m ≤ 10) = true := by rw [decide_eq_true_eq]; exact hm
    have q4 : decide (2 ^ m = n) = true := by rw [decide_eq_true_eq]; exact hn
    unfold traceOk hasI
    rw [hL.1, hP.1, hmay, q1, q2, q3, q4]
    simp
  obtain ⟨x, hx⟩ : ∃ x, l[i]? = some x := ⟨l[i]'(by rw [hL.1]; exact hi), List.getElem?_eq_getElem _⟩
  rw [atB_of hx] at hok
  obtain ⟨b0, off0, rfl, hb0, hC0⟩ := hL.2.resolve_left (by omega)
  have c0 := hC0.str hx
  have HC0 : Hid (∀ W, Below w.heap.size w W → W.cell? ⟨b0, off0 + i, none⟩ = some (.string x)) := Lib.hid (fun W hb => (hC0.below hb hb0).str hx)
  have HNo : Hid ((s = x ∨ checkV (rootB l) i s path = false) → traceF l i s path = noTwo) := Lib.hid (fun h => by
    have : traceOk l i s path = false := by
      rw [hok]
      rcases h with h | h
      · simp [h]
      · simp [h]
    simp [traceF, this])
  have HYes : Hid (s ≠ x → checkV (rootB l) i s path = true → traceF l i s path = findStep l i s path (List.range (m + 1)).reverse) := Lib.hid (fun h1 h2 => by
    have : traceOk l i s path = true := by
      rw [hok, h2]; simp [h1]
    have hpm : path.length = m := hP.1
    simp [traceF, this, hpm])
  have hms : (1 : Int) * 2 ^ m = (n : Int) := by rw [← hn]; exact shl_pow m m hm rfl
  have t0 : ((n : Int) == (n : Int)) = true := by simp
  have HCk := Lib.hid (fun W (h1 : Rounds W) (h2 : SlR encS 1 W W.heap.size A' m path) => tcheck_any (rootB l) i s path A' m c' W h1 h2 (by omega) hs)
  have HWy := Lib.hid (fun W (h1 : Rounds W) (h2 : SlR encS 1 W W.heap.size A' m path) => way_any i s path A' m c' W h1 h2 (by omega) (by omega) hs hp)
  have Hls := Lib.hid hls
  have HRt := Lib.hid hrt
  obtain ⟨K, hK⟩ : ∃ K, checkV (rootB l) i s path = K := ⟨_, rfl⟩
  rw [hK] at HCk HNo HYes
  generalize traceF l i s path = t at HNo HYes ⊢
  clear hL hP hG hM hmay hok hgl hrt hC0 hls hp hx hK
  have i0 : (0 : Int) ≤ (i : Int) := by omega
  have i1 : (i : Int) < (n : Int) := by omega
  by_cases hsx : s = x
  · obtain rfl := HNo.out (.inl hsx)
    have e1 : (s.toList == x.toList) = true := by rw [hsx]; simp
    clear hsx HNo HYes
    go_enter Tryd.func73, Tryd.ntmps73
    go_wp2_with fail
    refine HM.out.mono ?_
    rintro e w1 ⟨rfl, rfl⟩
    go_wp2_with fail
    refine HR.out.mono ?_
    rintro e w2 ⟨hb2, A2, c2, rfl, h21, h22, HR2⟩
    have hz2 := hb2.size
    have c1 := HC0.out (w2.alloc (.cells #[.slice (some ⟨b0, off0, none⟩) n c, .slice A2 (m + 1) c2] 111)) (Below.trans hb2 (by go_grown))
    clear HM HR HR2 c0
    go_wp2_with fail
    refine bodyPost_ret (results_tmp3 rfl _ _ _) rfl ?_
    exact two_no (Below.trans hb2 (by go_grown))
  · have e1 : (s.toList == x.toList) = false := by
      simp only [beq_eq_false_iff_ne, ne_eq]
      exact fun h => hsx (bytes_ext h)
    go_enter Tryd.func73, Tryd.ntmps73
    go_wp2_with fail
    refine HM.out.mono ?_
    rintro e w1 ⟨rfl, rfl⟩
    go_wp2_with fail
    refine HR.out.mono ?_
    rintro e w2 ⟨hb2, A2, c2, rfl, h21, h22, HR2⟩
    have hz2 := hb2.size
    have hb3 : Below w.heap.size w (w2.alloc (.cells #[.slice (some ⟨b0, off0, none⟩) n c, .slice A2 (m + 1) c2] 111)) := Below.trans hb2 (by go_grown)
    have c1 := HC0.out _ hb3
    have HT := Lib.hid (tree_new (T := .slice (some ⟨b0, off0, none⟩) n c) HR2.out h21 h22)
    clear HM HR HR2 c0
    go_wp2_with fail
    refine (root_any _ w2.heap.size m _ l HT.out HLn.out hm).mono ?_
    rintro e w4 ⟨rfl, hb4⟩
    rw [← HRt.out]
    have hB4 := hb3.trans (hb4.mono hb3.size)
    have HT4 := Lib.hid (HT.out.below hb4)
    clear HT hb3 hb4 c1
    go_wp2_with fail
    refine (HCk.out _ (rounds_of HG.out hB4) ((HP.out.below hB4).more hB4.size)).mono ?_
    rintro e w5 ⟨rfl, hb5⟩
    have hB5 := hB4.trans (hb5.mono hB4.size)
    have HT5 := Lib.hid (HT4.out.below hb5)
    clear HT4 hb5 hB4 HCk
    cases K
    · obtain rfl := HNo.out (.inr rfl)
      clear HNo HYes hsx
      go_wp2_with fail
      refine bodyPost_ret (results_tmp3 rfl _ _ _) rfl ?_
      exact two_no hB5
    · have hty := HYes.out hsx rfl
      have HTy := Lib.hid hty
      clear HNo HYes hsx hty
      go_wp2_with fail
      refine (HWy.out _ (rounds_of HG.out hB5) ((HP.out.below hB5).more hB5.size)).mono ?_
      rintro e wx ⟨hb6, A6, c6, rfl, HR6⟩
      have hB6 := hB5.trans (hb6.mono hB5.size)
      have HT6 := Lib.hid (HT5.out.below hb6)
      have HL6 := Lib.hid ((HL.out.below hB6).more hB6.size)
      obtain ⟨b6, off6, rfl, hb6', hC6⟩ := (srow_slr HR6.out (waysB_len _ _ _ _)).2.resolve_left (by omega)
      have HC6 : Hid (∀ W, Below wx.heap.size wx W → ∀ k, k < m + 1 → W.cell? ⟨b6, off6 + k, none⟩ = some (.string (wayB i s path k))) := Lib.hid (fun W hb k hk => (hC6.below hb hb6').str (waysB_at i s path hk))
      clear HT5 hb6 HR6 hC6 HWy hB5
      go_wp2_with fail
      go_loopw [14] (fun hv wr => ∃ k : Nat, k ≤ m + 1 ∧ hv = .int .i64 ((k : Int) - 1) ∧ Hid (∀ j, k ≤ j → j < m + 1 → stepUnlike l i s path j = false) ∧ Below wx.heap.size wx wr) (fun hv _ => (intOf hv + 1).toNat)
      case atStart => exact ⟨m + 1, by omega, by go_num, Lib.hid (fun j h1 h2 => by omega), Below.refl _ _⟩
      case round =>
        obtain ⟨k, hk, rfl, HU, hB⟩ := hrel
        cases k with
        | zero =>
          have hz : t = noTwo := by
            rw [HTy.out]
            unfold findStep
            rw [find_rev_none _ _ (fun j h => HU.out j (Nat.zero_le _) h)]
          subst hz
          have e0 : ((0 : Nat) : Int) - 1 = -1 := rfl
          rw [e0]
          have HBx := Lib.hid (hB6.trans (hB.mono hB6.size))
          clear HTy HT6 HL6 HC6 hB hB6 e0
          go_wp2
          refine bodyPost_ret (results_tmp3 rfl _ _ _) rfl ?_
          exact two_no HBx.out
        | succ j =>
          have e0 : ((j + 1 : Nat) : Int) - 1 = (j : Int) := by omega
          rw [e0]
          have HTd := Lib.hid (told_any wr w2.heap.size m j (i / 2 ^ j) (some ⟨b0, off0, none⟩) n c l ((HL6.out.below hB).more hB.size) (HT6.out.below hB) HLn.out hm (by omega) (div_low (by rw [hn]; exact hi) (by omega)) Hls.out)
          obtain ⟨q, hq⟩ : ∃ q, i / 2 ^ j = q := ⟨_, rfl⟩
          have es : ((i : Int) / 2 ^ j) = (q : Int) := by rw [← hq]; simp
          obtain ⟨T1, hT1⟩ : ∃ T, toldT l j q = T := ⟨_, rfl⟩
          obtain ⟨T2, hT2⟩ : ∃ T, wayB i s path j = T := ⟨_, rfl⟩
          have HSt : Hid (stepUnlike l i s path j = decide (T1 ≠ T2)) := Lib.hid (by rw [stepUnlike, hq, hT1, hT2])
          have HFd : Hid (toldT l j (i / 2 ^ j) = T1 ∧ wayB i s path j = T2) := Lib.hid (by rw [hq]; exact ⟨hT1, hT2⟩)
          rw [hq, hT1] at HTd
          have i2 : (0 : Int) ≤ (j : Int) := by omega
          have i3 : (j : Int) < ((m + 1 : Nat) : Int) := by omega
          have i4 : (j : Int) < (m : Int) + 1 := by omega
          have hC7 : Hid (∀ W, Below wx.heap.size wx W → W.cell? ⟨b6, off6 + j, none⟩ = some (.string T2)) := Lib.hid (fun W hb => by rw [← hT2]; exact HC6.out W hb j (by omega))
          clear e0 hq hT1 hT2
          go_wp2_with fail
          refine HTd.out.mono ?_
          rintro e w7 ⟨rfl, hb7⟩
          have hB7 := hB.trans (hb7.mono hB.size)
          have c7 := hC7.out w7 hB7
          clear HTd hb7 hB
          by_cases hT : T1 = T2
          · have e1 : (T1.toList == T2.toList) = true := by rw [hT]; simp
            have e2 : (T1.toList != T2.toList) = false := by rw [hT]; simp
            have HU2 : Hid (∀ k, j ≤ k → k < m + 1 → stepUnlike l i s path k = false) := Lib.hid (fun k h1 h2 => by
              by_cases e : k = j
              · rw [e, HSt.out]; simp [hT]
              · exact HU.out k (by omega) h2)
            clear hT
            go_wp2_with fail
            go_roundw
            case rel => exact ⟨j, by omega, by go_num, HU2, hB7⟩
            case measure => simp [intOf]
          · have e1 : (T1.toList == T2.toList) = false := by
              simp only [beq_eq_false_iff_ne, ne_eq]
              exact fun h => hT (bytes_ext h)
            have e2 : (T1.toList != T2.toList) = true := by
              simp only [bne_iff_ne, ne_eq]
              exact fun h => hT (bytes_ext h)
            have hz : t = ⟨T1, T2, true⟩ := by
              rw [HTy.out]
              unfold findStep
              rw [find_rev_some _ (m + 1) j (by omega) (by rw [HSt.out]; simp [hT]) (fun k h1 h2 => HU.out k (by omega) h2)]
              simp only [HFd.out.1, HFd.out.2]
            subst hz
            have HBx := Lib.hid (hB6.trans (hB7.mono hB6.size))
            clear hT HTy
            go_wp2_with fail
            go_quiet (fail)
            go_wp2_with fail
            refine bodyPost_ret (results_tmp3 rfl _ _ _) rfl ?_
            exact ⟨rfl, below_drewN HBx.out _⟩
theorem ttrace_any (l : List ByteArray) (i : Int) (s : ByteArray) (path : List ByteArray) (A A' : Option Addr) (n c m c' : Nat) (w : World) (hG : Rounds w) (hL : SlR encS 1 w w.heap.size A n l) (hP : SlR encS 1 w w.heap.size A' m path)
    (hn : n ≤ 140737488351232) (hm : m ≤ 140737488351232) (hls : ∀ x ∈ l, x.size ≤ 140737488351232) (hs : s.size ≤ 1000000) (hp : ∀ p ∈ path, p.size ≤ 200) :
    Calls Tryd.prog 73 #[.slice A n c, .int .i64 i, .string s, .slice A' m c'] w (TwoPost (traceF l i s path) w) := by
  cases h : (mayB n && (hasI n i && (decide (m ≤ 10) && decide (2 ^ m = n))))
  · have : traceF l i s path = noTwo := by
      have hk : traceOk l i s path = false := by
        unfold traceOk
        rw [hL.1, hP.1]
        cases h1 : mayB n <;> cases h2 : hasI n i <;> cases h3 : decide (m ≤ 10) <;> cases h4 : decide (2 ^ m = n) <;> simp_all
      simp [traceF, hk]
    rw [this]
    exact ttrace_out l i s path A A' n c m c' w hn hm h
  · simp only [Bool.and_eq_true, hasI, decide_eq_true_eq] at h
    obtain ⟨h1, ⟨h2, h3⟩, h4, h5⟩ := h
    obtain ⟨k, rfl⟩ : ∃ k : Nat, i = k := ⟨i.toNat, by omega⟩
    exact ttrace_in l k s path A A' n c m c' w hG hL hP h1 (by omega) h4 h5 hls hs hp
end Go.Proofs.YtkaaicmadknjcaaDoor
