/- pledge: Check; the references Of, Make, Check; far, Many; chapter 17's rows. -/
import Derived.Test.YtkaaicmadknjcaaDoorPldA
import Derived.Test.YtkaaicmadknjcaaDoorRefH
set_option linter.unusedVariables false
namespace Go.Proofs.YtkaaicmadknjcaaDoor
open Go.RowKit
def checkB (p s : ByteArray) (x : Int) (b : ByteArray) : Bool := (makeE s x b == 0) && ((makeS s x b).toList == p.toList)
set_option maxRecDepth 100000 in
set_option maxHeartbeats 400000 in
theorem pcheck_lit (p s b : ByteArray) (x : Int) (m : ByteArray) (e : Int) (w : World) (hG : Rounds w)
    (hm : ∀ W, Rounds W → Calls Tryd.prog 45 #[.string s, shV x b] W fun r w' => r = .returned (.tuple #[.string m, .int .i64 e]) ∧ Below W.heap.size W w') :
    Calls Tryd.prog 48 #[.string p, .string s, shV x b] w fun r w' => r = .returned (.bool ((e == 0) && (m.toList == p.toList))) ∧ Below w.heap.size w w' := by
  have HG := Lib.hid hG
  have HM := Lib.hid hm
  obtain ⟨q, hq⟩ : ∃ q, (e == 0) = q := ⟨_, rfl⟩
  clear hG hm
  rw [hq]
  unfold shV at *
  go_enter Tryd.func48, Tryd.ntmps48
  go_wp2_with fail
  refine (HM.out _ (HG.out.below (B := w.heap.size) (by go_grown) HG.out.pos)).mono ?_
  rintro r w1 ⟨rfl, hb1⟩
  have hB1 : Below w.heap.size w w1 := Below.trans (by go_grown) (hb1.mono (by simp))
  cases q
  · go_wp2_with fail
    go_ret
    exact ⟨rfl, hB1⟩
  · go_wp2_with fail
    go_ret
    exact ⟨rfl, hB1⟩
set_option maxRecDepth 100000 in
set_option maxHeartbeats 400000 in
theorem pcheck_any (p s b : ByteArray) (x : Int) (w : World) (hG : Rounds w) (hs : s.size ≤ 140737488351232) (hb : b.size ≤ 140737488351232) :
    Calls Tryd.prog 48 #[.string p, .string s, shV x b] w fun e w' => e = .returned (.bool (checkB p s x b)) ∧ Below w.heap.size w w' := by
  have HG := Lib.hid hG
  clear hG
  exact pcheck_lit p s b x _ _ w HG.out (fun W h => pmake_any s b x W h hs hb)
set_option maxRecDepth 100000 in
set_option maxHeartbeats 400000 in
theorem rof_any (s b : ByteArray) (x : Int) (w : World) (hs : s.size ≤ 140737488351232) (hb : b.size ≤ 140737488351232) :
    Calls Tryd.prog 105 #[.string s, shV x b] w fun e w' => e = .returned (.tuple #[.string (if rightB s x b then textB s x b else ByteArray.empty), .bool (rightB s x b)]) ∧ Below w.heap.size w w' := by
  unfold shV
  by_cases h1 : s.size = 16
  · have t1 : ((s.size : Int) != 16) = false := by simp; omega
    by_cases h2 : 1 ≤ x
    · have t2 : decide (x < 1) = false := by simpa using h2
      by_cases h3 : x ≤ 255
      · have t3 : decide (255 < x) = false := by simpa using h3
        by_cases h4 : b.size = 32
        · have t4 : ((b.size : Int) != 32) = false := by simp; omega
          have hr : rightB s x b = true := rightB_iff.2 ⟨h1, h2, h3, h4⟩
          rw [hr]
          obtain ⟨n, rfl⟩ : ∃ n : Nat, x = n := ⟨x.toNat, by omega⟩
          have ht : textB s (n : Int) b = pledgeT ++ s ++ ⟨#[UInt8.ofNat n]⟩ ++ b := by simp [textB]
          have hx : n < 256 := by omega
          have hs1 : s.size ≤ 16 := by omega
          have hb1 : b.size ≤ 32 := by omega
          have hR1 := one_byte n hx ((w.alloc (.cells #[.int .i64 n, .string b] 51)).alloc (.cells #[.int .u8 n] 5)) (w.heap.size + 1) (Blk.new_at (by simp) _ _)
          simp only [if_true]
          rw [ht]
          clear hr h1 h4 ht hs hb
          go_enter Tryd.func105, Tryd.ntmps105
          go_wp2
          go_ret2
          exact ⟨rfl, by go_grown⟩
        · have t4 : ((b.size : Int) != 32) = true := by simp; omega
          have hr : rightB s x b = false := by simp [rightB, h4]
          rw [hr]
          clear hr h1 h4
          go_enter Tryd.func105, Tryd.ntmps105
          go_wp2
          go_ret2
          exact ⟨rfl, by go_grown⟩
      · have t3 : decide (255 < x) = true := by simpa using h3
        have hr : rightB s x b = false := by simp [rightB]; omega
        rw [hr]
        clear hr h1
        go_enter Tryd.func105, Tryd.ntmps105
        go_wp2
        go_ret2
        exact ⟨rfl, by go_grown⟩
    · have t2 : decide (x < 1) = true := by simpa using h2
      have hr : rightB s x b = false := by simp [rightB]; omega
      rw [hr]
      clear hr h1
      go_enter Tryd.func105, Tryd.ntmps105
      go_wp2
      go_ret2
      exact ⟨rfl, by go_grown⟩
  · have t1 : ((s.size : Int) != 16) = true := by simp; omega
    have hr : rightB s x b = false := by simp [rightB, h1]
    rw [hr]
    clear hr h1
    go_enter Tryd.func105, Tryd.ntmps105
    go_wp2
    go_ret2
    exact ⟨rfl, by go_grown⟩
set_option maxRecDepth 100000 in
set_option maxHeartbeats 400000 in
theorem rmake_lit (s b T : ByteArray) (x : Int) (r : Bool) (w : World) (hT : T.size ≤ 1000000)
    (ho : ∀ W, Calls Tryd.prog 105 #[.string s, shV x b] W fun e w' => e = .returned (.tuple #[.string T, .bool r]) ∧ Below W.heap.size W w') :
    Calls Tryd.prog 46 #[.string s, shV x b] w fun e w' => e = .returned (.tuple #[.string (if r then sumS T else ByteArray.empty), .int .i64 (if r then 0 else 1)]) ∧ Below w.heap.size w w' := by
  have HO := Lib.hid ho
  clear ho
  unfold shV at *
  cases r
  · simp only [Bool.false_eq_true, if_false]
    go_enter Tryd.func46, Tryd.ntmps46
    go_wp2_with fail
    refine (HO.out _).mono ?_
    rintro e w1 ⟨rfl, hb1⟩
    have hB1 : Below w.heap.size w w1 := Below.trans (by go_grown) (hb1.mono (by simp))
    go_wp2_with fail
    go_ret2
    exact ⟨rfl, hB1⟩
  · simp only [if_true]
    go_enter Tryd.func46, Tryd.ntmps46
    go_wp2_with fail
    refine (HO.out _).mono ?_
    rintro e w1 ⟨rfl, hb1⟩
    have hB1 : Below w.heap.size w w1 := Below.trans (by go_grown) (hb1.mono (by simp))
    go_wp2_with fail
    refine (rsum_str T _ hT).mono ?_
    rintro e w2 ⟨rfl, hb2⟩
    go_wp2_with fail
    go_ret2
    exact ⟨rfl, hB1.trans (hb2.mono hB1.size)⟩
theorem rmake_any (s b : ByteArray) (x : Int) (w : World) (hs : s.size ≤ 140737488351232) (hb : b.size ≤ 140737488351232) :
    Calls Tryd.prog 46 #[.string s, shV x b] w fun e w' => e = .returned (.tuple #[.string (makeS s x b), .int .i64 (makeE s x b)]) ∧ Below w.heap.size w w' := by
  have hT : (if rightB s x b then textB s x b else ByteArray.empty).size ≤ 1000000 := by
    split
    · rw [textB_size (rightB_iff.1 (by assumption))]; omega
    · simp
  have := rmake_lit s b _ x _ w hT (fun W => rof_any s b x W hs hb)
  unfold makeS makeE
  cases h : rightB s x b <;> rw [h] at this <;> exact this
set_option maxRecDepth 100000 in
set_option maxHeartbeats 400000 in
theorem rcheck_lit (p s b : ByteArray) (x : Int) (m : ByteArray) (e : Int) (w : World)
    (hm : ∀ W, Calls Tryd.prog 46 #[.string s, shV x b] W fun r w' => r = .returned (.tuple #[.string m, .int .i64 e]) ∧ Below W.heap.size W w') :
    Calls Tryd.prog 49 #[.string p, .string s, shV x b] w fun r w' => r = .returned (.bool ((e == 0) && (m.toList == p.toList))) ∧ Below w.heap.size w w' := by
  have HM := Lib.hid hm
  obtain ⟨q, hq⟩ : ∃ q, (e == 0) = q := ⟨_, rfl⟩
  clear hm
  rw [hq]
  unfold shV at *
  go_enter Tryd.func49, Tryd.ntmps49
  go_wp2_with fail
  refine (HM.out _).mono ?_
  rintro r w1 ⟨rfl, hb1⟩
  have hB1 : Below w.heap.size w w1 := Below.trans (by go_grown) (hb1.mono (by simp))
  cases q
  · go_wp2_with fail
    go_ret
    exact ⟨rfl, hB1⟩
  · go_wp2_with fail
    go_ret
    exact ⟨rfl, hB1⟩
theorem rcheck_any (p s b : ByteArray) (x : Int) (w : World) (hs : s.size ≤ 140737488351232) (hb : b.size ≤ 140737488351232) :
    Calls Tryd.prog 49 #[.string p, .string s, shV x b] w fun e w' => e = .returned (.bool (checkB p s x b)) ∧ Below w.heap.size w w' :=
  rcheck_lit p s b x _ _ w (fun W => rmake_any s b x W hs hb)
end Go.Proofs.YtkaaicmadknjcaaDoor
