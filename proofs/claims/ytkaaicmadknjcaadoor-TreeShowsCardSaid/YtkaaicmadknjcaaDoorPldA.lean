/- pledge: right, text, sum, Make, Check. -/
import Derived.Test.YtkaaicmadknjcaaDoorDigL
set_option linter.unusedVariables false
namespace Go.Proofs.YtkaaicmadknjcaaDoor
open Go.RowKit
def shV (x : Int) (b : ByteArray) : Value := .agg #[.int .i64 x, .string b]
def bdV (s : ByteArray) (x : Int) (b : ByteArray) : Value := .agg #[.string s, .int .i64 x, .string b]
def RightP (s : ByteArray) (x : Int) (b : ByteArray) : Prop := s.size = 16 ∧ 1 ≤ x ∧ x ≤ 255 ∧ b.size = 32
def rightB (s : ByteArray) (x : Int) (b : ByteArray) : Bool := s.size == 16 && decide (1 ≤ x) && decide (x ≤ 255) && b.size == 32
theorem rightB_iff {s : ByteArray} {x : Int} {b : ByteArray} : rightB s x b = true ↔ RightP s x b := by simp [rightB, RightP, and_assoc]
def pledgeT : ByteArray := ⟨#[112, 108, 101, 100, 103, 101]⟩
def textB (s : ByteArray) (x : Int) (b : ByteArray) : ByteArray := pledgeT ++ s ++ ⟨#[UInt8.ofNat x.toNat]⟩ ++ b
theorem textB_size {s b : ByteArray} {x : Int} (h : RightP s x b) : (textB s x b).size = 55 := by
  unfold textB
  rw [ByteArray.size_append, ByteArray.size_append, ByteArray.size_append, h.1, h.2.2.2]
  rfl
set_option maxHeartbeats 400000 in
theorem right_any (s b : ByteArray) (x : Int) (w : World) (hs : s.size ≤ 140737488351232) (hb : b.size ≤ 140737488351232) :
    Calls Tryd.prog 102 #[bdV s x b] w fun e w' => e = .returned (.bool (rightB s x b)) ∧ Below w.heap.size w w' := by
  unfold bdV
  by_cases h1 : s.size = 16
  · have t1 : ((s.size : Int) == 16) = true := by simp; omega
    by_cases h2 : 1 ≤ x
    · have t2 : decide (1 ≤ x) = true := by simpa using h2
      by_cases h3 : x ≤ 255
      · have t3 : decide (x ≤ 255) = true := by simpa using h3
        by_cases h4 : b.size = 32
        · have t4 : ((b.size : Int) == 32) = true := by simp; omega
          have hr : rightB s x b = true := rightB_iff.2 ⟨h1, h2, h3, h4⟩
          rw [hr]
          clear hr h1 h4
          go_enter Tryd.func102, Tryd.ntmps102
          go_wp2
          go_ret
          exact ⟨rfl, by go_grown⟩
        · have t4 : ((b.size : Int) == 32) = false := by simp; omega
          have hr : rightB s x b = false := by simp [rightB, h4]
          rw [hr]
          clear hr h1 h4
          go_enter Tryd.func102, Tryd.ntmps102
          go_wp2
          go_ret
          exact ⟨rfl, by go_grown⟩
      · have t3 : decide (x ≤ 255) = false := by simpa using h3
        have hr : rightB s x b = false := by simp [rightB]; omega
        rw [hr]
        clear hr h1
        go_enter Tryd.func102, Tryd.ntmps102
        go_wp2
        go_ret
        exact ⟨rfl, by go_grown⟩
    · have t2 : decide (1 ≤ x) = false := by simpa using h2
      have hr : rightB s x b = false := by simp [rightB]; omega
      rw [hr]
      clear hr h1
      go_enter Tryd.func102, Tryd.ntmps102
      go_wp2
      go_ret
      exact ⟨rfl, by go_grown⟩
  · have t1 : ((s.size : Int) == 16) = false := by simp; omega
    have hr : rightB s x b = false := by simp [rightB, h1]
    rw [hr]
    clear hr h1
    go_enter Tryd.func102, Tryd.ntmps102
    go_wp2
    go_ret
    exact ⟨rfl, by go_grown⟩
/-- string([]byte{byte(x)}) -/
theorem one_byte (x : Nat) (hx : x < 256) (W : World) (g : Nat) (hB : Blk W g 5 #[.int .u8 x]) :
    (convert 40 9 (.slice (some ⟨g, 0, none⟩) 1 1)).run Tryd.prog W = .ok (.string ⟨#[UInt8.ofNat x]⟩) W := by
  have hv : (Value.int .u8 (x : Int)) = vB (UInt8.ofNat x) := by
    unfold vB
    have : (UInt8.ofNat x).toNat = x := by simp; omega
    rw [this]
  rw [hv] at hB
  exact run_brow (base := g) (L := [UInt8.ofNat x]) 40 9 5 Tryd.underlying40 Tryd.underlying5 Tryd.underlying9 rfl (brow_new W (Nat.le_refl g) [UInt8.ofNat x] hB (by simp))
set_option maxRecDepth 100000 in
set_option maxHeartbeats 400000 in
theorem text_any (s b : ByteArray) (x : Nat) (w : World) (h : RightP s x b) :
    Calls Tryd.prog 104 #[bdV s x b] w fun e w' => e = .returned (.string (textB s x b)) ∧ Below w.heap.size w w' := by
  have ht : textB s (x : Int) b = pledgeT ++ s ++ ⟨#[UInt8.ofNat x]⟩ ++ b := by simp [textB]
  have hx : x < 256 := by have := h.2.2.1; omega
  have hs1 : s.size ≤ 16 := by have := h.1; omega
  have hb1 : b.size ≤ 32 := by have := h.2.2.2; omega
  have hR1 := one_byte x hx ((w.alloc (.cells #[.string s, .int .i64 x, .string b] 104)).alloc (.cells #[.int .u8 x] 5)) (w.heap.size + 1) (Blk.new_at (by simp) _ _)
  rw [ht]
  clear ht h
  unfold bdV
  go_enter Tryd.func104, Tryd.ntmps104
  go_wp2
  go_ret
  exact ⟨rfl, by go_grown⟩
theorem psum_any (s b : ByteArray) (x : Nat) (w : World) (hG : Rounds w) (h : RightP s x b) :
    Calls Tryd.prog 103 #[.func (.func 104) #[bdV s x b] #[]] w fun e w' => e = .returned (.string (sumS (textB s x b))) ∧ Below w.heap.size w w' := by
  have HG := Lib.hid hG
  have H := Lib.hid h
  clear hG h
  go_enter Tryd.func103, Tryd.ntmps103
  go_wp2_with fail
  refine (text_any s b x w H.out).mono ?_
  rintro e w1 ⟨rfl, hb1⟩
  go_wp2_with fail
  refine (sum_in (textB s x b) _ (by rw [textB_size H.out]; omega) (rounds_of HG.out hb1)).mono ?_
  rintro e w2 ⟨rfl, hb2⟩
  go_wp2_with fail
  go_ret
  exact ⟨rfl, hb1.trans (hb2.mono hb1.size)⟩
def makeS (s : ByteArray) (x : Int) (b : ByteArray) : ByteArray := if rightB s x b then sumS (textB s x b) else ByteArray.empty
def makeE (s : ByteArray) (x : Int) (b : ByteArray) : Int := if rightB s x b then 0 else 1
set_option maxRecDepth 100000 in
set_option maxHeartbeats 400000 in
theorem pmake_any (s b : ByteArray) (x : Int) (w : World) (hG : Rounds w) (hs : s.size ≤ 140737488351232) (hb : b.size ≤ 140737488351232) :
    Calls Tryd.prog 45 #[.string s, shV x b] w fun e w' => e = .returned (.tuple #[.string (makeS s x b), .int .i64 (makeE s x b)]) ∧ Below w.heap.size w w' := by
  have HG := Lib.hid hG
  clear hG
  obtain ⟨r, hr⟩ : ∃ r, rightB s x b = r := ⟨_, rfl⟩
  unfold makeS makeE
  rw [hr]
  have HR := Lib.hid hr
  clear hr
  unfold shV
  cases r
  · simp only [Bool.false_eq_true, if_false]
    go_enter Tryd.func45, Tryd.ntmps45
    go_wp2_with fail
    refine (right_any s b x _ hs hb).mono ?_
    rintro e w1 ⟨rfl, hb1⟩
    rw [HR.out]
    have hB1 : Below w.heap.size w w1 := Below.trans (by go_grown) (hb1.mono (by simp; omega))
    go_wp2_with fail
    go_ret2
    exact ⟨rfl, hB1⟩
  · simp only [if_true]
    have hp := rightB_iff.1 HR.out
    obtain ⟨n, rfl⟩ : ∃ n : Nat, x = n := ⟨x.toNat, by have := hp.2.1; omega⟩
    have HP := Lib.hid hp
    clear hp
    go_enter Tryd.func45, Tryd.ntmps45
    go_wp2_with fail
    refine (right_any s b n _ hs hb).mono ?_
    rintro e w1 ⟨rfl, hb1⟩
    rw [HR.out]
    have hB1 : Below w.heap.size w w1 := Below.trans (by go_grown) (hb1.mono (by simp; omega))
    have hc := (Blk.new_at (w := w.alloc (.cells #[.int .i64 (n : Int), .string b] 51)) (g := w.heap.size + 1) (by simp) 104 #[.string s, .int .i64 (n : Int), .string b]).below hb1 (by simp)
    have c0 := hc.cells 0 _ rfl
    have c1 := hc.cells 1 _ rfl
    have c2 := hc.cells 2 _ rfl
    simp only [List.getElem_toArray, List.getElem_cons_zero, List.getElem_cons_succ] at c0 c1 c2
    go_wp2_with fail
    refine (psum_any s b n _ (rounds_of HG.out hB1) HP.out).mono ?_
    rintro e w2 ⟨rfl, hb2⟩
    go_wp2_with fail
    go_ret2
    exact ⟨rfl, hB1.trans (hb2.mono hB1.size)⟩
end Go.Proofs.YtkaaicmadknjcaaDoor
