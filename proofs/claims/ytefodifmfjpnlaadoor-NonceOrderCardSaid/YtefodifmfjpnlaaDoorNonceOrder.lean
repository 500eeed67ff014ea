/- chapter 15, NonceOrder: the walk. -/
import Derived.Test.YtefodifmfjpnlaaDoorNonT
import Derived.Test.YtefodifmfjpnlaaDoorNonO
set_option linter.unusedVariables false
namespace Go.Proofs.YtefodifmfjpnlaaDoor
open Go.RowKit
theorem nonF_out {n : Int} (h : ¬ (0 ≤ n ∧ n ≤ 1000000000)) : nonF n = (⟨#[]⟩, 1) := by unfold nonF; rw [if_neg h]
set_option maxHeartbeats 1000000 in
set_option maxRecDepth 100000 in
theorem order_no2 (n m : Int) (w : World) (hn : ¬ (0 ≤ n ∧ n ≤ 1000000000)) (hm : ¬ (0 ≤ m ∧ m ≤ 1000000000)) (hG : Pows w) :
    Calls Tryd.prog 5 #[.int .i64 n, .int .i64 m] w fun e w' => e = .returned (.bool true) ∧ Below w.heap.size w w' := by
  have HG : HPows w := Lib.hid hG
  clear hG
  go_enter Tryd.func5, Tryd.ntmps5
  go_wp2_with fail
  refine (bytes_any n _).mono ?_
  rintro e w1 ⟨rfl, hb1⟩
  have hs1 : Below w.heap.size w w1 := Below.trans (by go_grown) (hb1.mono (by first | (simp; done) | (simp; omega)))
  have HG_1 := HG.on hs1
  have hB_1 := hs1
  rw [nonF_out hn]
  dsimp only
  have hz_1 := hs1.size
  clear hb1 HG hs1
  go_wp2_with fail
  refine (bytes_any m _).mono ?_
  rintro e w2 ⟨rfl, hb2⟩
  have hs2 : Below w1.heap.size w1 w2 := Below.trans (by go_grown) (hb2.mono (by first | (simp; done) | (simp; omega)))
  have HG_2 := HG_1.on hs2
  have hB_2 := hB_1.trans (hs2.mono hB_1.size)
  rw [nonF_out hm]
  dsimp only
  have hz_2 := hs2.size
  clear hb2 HG_1 hB_1 hs2
  go_wp2_with fail
  refine (ntold_any _ (HG_2.step (by go_grown))).mono ?_
  rintro e w3 ⟨rfl, hb3⟩
  have hs3 : Below w2.heap.size w2 w3 := Below.trans (by go_grown) (hb3.mono (by first | (simp; done) | (simp; omega)))
  have HG_3 := HG_2.on hs3
  have hB_3 := hB_2.trans (hs3.mono hB_2.size)
  have hz_3 := hs3.size
  clear hb3 HG_2 hB_2 hs3
  go_wp2_with fail
  go_ret
  exact ⟨rfl, hB_3⟩

set_option maxHeartbeats 1000000 in
set_option maxRecDepth 100000 in
theorem order_no1 (n m : Int) (w : World) (hn : ¬ (0 ≤ n ∧ n ≤ 1000000000)) (hm : 0 ≤ m ∧ m ≤ 1000000000) (hG : Pows w) :
    Calls Tryd.prog 5 #[.int .i64 n, .int .i64 m] w fun e w' => e = .returned (.bool true) ∧ Below w.heap.size w w' := by
  have HG : HPows w := Lib.hid hG
  clear hG
  go_enter Tryd.func5, Tryd.ntmps5
  go_wp2_with fail
  refine (bytes_any n _).mono ?_
  rintro e w1 ⟨rfl, hb1⟩
  have hs1 : Below w.heap.size w w1 := Below.trans (by go_grown) (hb1.mono (by first | (simp; done) | (simp; omega)))
  have HG_1 := HG.on hs1
  have hB_1 := hs1
  rw [nonF_out hn]
  dsimp only
  have hz_1 := hs1.size
  clear hb1 HG hs1
  go_wp2_with fail
  refine (bytes_any m _).mono ?_
  rintro e w2 ⟨rfl, hb2⟩
  have hs2 : Below w1.heap.size w1 w2 := Below.trans (by go_grown) (hb2.mono (by first | (simp; done) | (simp; omega)))
  have HG_2 := HG_1.on hs2
  have hB_2 := hB_1.trans (hs2.mono hB_1.size)
  rw [nonF_in hm.1 hm.2]
  dsimp only
  have hz_2 := hs2.size
  clear hb2 HG_1 hB_1 hs2
  go_wp2_with fail
  refine (ntold_any _ (HG_2.step (by go_grown))).mono ?_
  rintro e w3 ⟨rfl, hb3⟩
  have hs3 : Below w2.heap.size w2 w3 := Below.trans (by go_grown) (hb3.mono (by first | (simp; done) | (simp; omega)))
  have HG_3 := HG_2.on hs3
  have hB_3 := hB_2.trans (hs3.mono hB_2.size)
  have hz_3 := hs3.size
  clear hb3 HG_2 hB_2 hs3
  go_wp2_with fail
  go_ret
  exact ⟨rfl, hB_3⟩

set_option maxHeartbeats 1000000 in
set_option maxRecDepth 100000 in
theorem order_no (n m : Int) (w : World) (hn : 0 ≤ n ∧ n ≤ 1000000000) (hm : ¬ (0 ≤ m ∧ m ≤ 1000000000)) (hG : Pows w) :
    Calls Tryd.prog 5 #[.int .i64 n, .int .i64 m] w fun e w' => e = .returned (.bool true) ∧ Below w.heap.size w w' := by
  have HG : HPows w := Lib.hid hG
  clear hG
  go_enter Tryd.func5, Tryd.ntmps5
  go_wp2_with fail
  refine (bytes_any n _).mono ?_
  rintro e w1 ⟨rfl, hb1⟩
  have hs1 : Below w.heap.size w w1 := Below.trans (by go_grown) (hb1.mono (by first | (simp; done) | (simp; omega)))
  have HG_1 := HG.on hs1
  have hB_1 := hs1
  rw [nonF_in hn.1 hn.2]
  dsimp only
  have hz_1 := hs1.size
  clear hb1 HG hs1
  go_wp2_with fail
  refine (bytes_any m _).mono ?_
  rintro e w2 ⟨rfl, hb2⟩
  have hs2 : Below w1.heap.size w1 w2 := Below.trans (by go_grown) (hb2.mono (by first | (simp; done) | (simp; omega)))
  have HG_2 := HG_1.on hs2
  have hB_2 := hB_1.trans (hs2.mono hB_1.size)
  rw [nonF_out hm]
  dsimp only
  have hz_2 := hs2.size
  clear hb2 HG_1 hB_1 hs2
  go_wp2_with fail
  refine (ntold_any _ (HG_2.step (by go_grown))).mono ?_
  rintro e w3 ⟨rfl, hb3⟩
  have hs3 : Below w2.heap.size w2 w3 := Below.trans (by go_grown) (hb3.mono (by first | (simp; done) | (simp; omega)))
  have HG_3 := HG_2.on hs3
  have hB_3 := hB_2.trans (hs3.mono hB_2.size)
  have hz_3 := hs3.size
  clear hb3 HG_2 hB_2 hs3
  go_wp2_with fail
  go_ret
  exact ⟨rfl, hB_3⟩

set_option maxHeartbeats 1000000 in
set_option maxRecDepth 100000 in
theorem order_lt (n m : Int) (w : World) (hn : 0 ≤ n ∧ n ≤ 1000000000) (hm : 0 ≤ m ∧ m ≤ 1000000000) (hc : n < m) (hG : Pows w) :
    Calls Tryd.prog 5 #[.int .i64 n, .int .i64 m] w fun e w' => e = .returned (.bool true) ∧ Below w.heap.size w w' := by
  have HG : HPows w := Lib.hid hG
  clear hG
  have s1 := nonB_size n.toNat
  have s2 := nonB_size m.toNat
  have l1 : Op.bytesLess (nonB n.toNat).toList (nonB m.toNat).toList = decide (n < m) := by
    rw [nonB_less (by omega) (by omega)]
    exact decide_eq_decide.2 (by omega)
  have l2 : ((nonB n.toNat).toList == (nonB m.toNat).toList) = decide (n = m) := by
    rw [nonB_eq (by omega) (by omega)]
    exact decide_eq_decide.2 (by omega)
  have e1 := nonF_in hn.1 hn.2
  have e2 := nonF_in hm.1 hm.2
  have F1 := Lib.hid e1
  have F2 := Lib.hid e2
  clear e1 e2
  generalize nonB n.toNat = N at *
  generalize nonB m.toNat = M at *
  rw [decide_eq_true hc] at l1
  rw [decide_eq_false (by omega)] at l2
  have c1 : decide (n < m) = true := decide_eq_true hc
  have c2 : (n == m) = false := by simp; omega
  go_enter Tryd.func5, Tryd.ntmps5
  go_wp2_with fail
  refine (bytes_any n _).mono ?_
  rintro e w1 ⟨rfl, hb1⟩
  have hs1 : Below w.heap.size w w1 := Below.trans (by go_grown) (hb1.mono (by first | (simp; done) | (simp; omega)))
  have HG_1 := HG.on hs1
  have hB_1 := hs1
  rw [F1.out]
  dsimp only
  have hz_1 := hs1.size
  clear hb1 HG hs1
  go_wp2_with fail
  refine (bytes_any m _).mono ?_
  rintro e w2 ⟨rfl, hb2⟩
  have hs2 : Below w1.heap.size w1 w2 := Below.trans (by go_grown) (hb2.mono (by first | (simp; done) | (simp; omega)))
  have HG_2 := HG_1.on hs2
  have hB_2 := hB_1.trans (hs2.mono hB_1.size)
  rw [F2.out]
  dsimp only
  have hz_2 := hs2.size
  clear hb2 HG_1 hB_1 hs2
  go_wp2_with fail
  refine (ntold_any _ (HG_2.step (by go_grown))).mono ?_
  rintro e w3 ⟨rfl, hb3⟩
  have hs3 : Below w2.heap.size w2 w3 := Below.trans (by go_grown) (hb3.mono (by first | (simp; done) | (simp; omega)))
  have HG_3 := HG_2.on hs3
  have hB_3 := hB_2.trans (hs3.mono hB_2.size)
  have hz_3 := hs3.size
  clear hb3 HG_2 hB_2 hs3
  go_wp2_with fail
  go_ret
  exact ⟨rfl, hB_3⟩

set_option maxHeartbeats 1000000 in
set_option maxRecDepth 100000 in
theorem order_gt (n m : Int) (w : World) (hn : 0 ≤ n ∧ n ≤ 1000000000) (hm : 0 ≤ m ∧ m ≤ 1000000000) (hc : m < n) (hG : Pows w) :
    Calls Tryd.prog 5 #[.int .i64 n, .int .i64 m] w fun e w' => e = .returned (.bool true) ∧ Below w.heap.size w w' := by
  have HG : HPows w := Lib.hid hG
  clear hG
  have s1 := nonB_size n.toNat
  have s2 := nonB_size m.toNat
  have l1 : Op.bytesLess (nonB n.toNat).toList (nonB m.toNat).toList = decide (n < m) := by
    rw [nonB_less (by omega) (by omega)]
    exact decide_eq_decide.2 (by omega)
  have l2 : ((nonB n.toNat).toList == (nonB m.toNat).toList) = decide (n = m) := by
    rw [nonB_eq (by omega) (by omega)]
    exact decide_eq_decide.2 (by omega)
  have e1 := nonF_in hn.1 hn.2
  have e2 := nonF_in hm.1 hm.2
  have F1 := Lib.hid e1
  have F2 := Lib.hid e2
  clear e1 e2
  generalize nonB n.toNat = N at *
  generalize nonB m.toNat = M at *
  rw [decide_eq_false (by omega)] at l1
  rw [decide_eq_false (by omega)] at l2
  have c1 : decide (n < m) = false := decide_eq_false (by omega)
  have c2 : (n == m) = false := by simp; omega
  go_enter Tryd.func5, Tryd.ntmps5
  go_wp2_with fail
  refine (bytes_any n _).mono ?_
  rintro e w1 ⟨rfl, hb1⟩
  have hs1 : Below w.heap.size w w1 := Below.trans (by go_grown) (hb1.mono (by first | (simp; done) | (simp; omega)))
  have HG_1 := HG.on hs1
  have hB_1 := hs1
  rw [F1.out]
  dsimp only
  have hz_1 := hs1.size
  clear hb1 HG hs1
  go_wp2_with fail
  refine (bytes_any m _).mono ?_
  rintro e w2 ⟨rfl, hb2⟩
  have hs2 : Below w1.heap.size w1 w2 := Below.trans (by go_grown) (hb2.mono (by first | (simp; done) | (simp; omega)))
  have HG_2 := HG_1.on hs2
  have hB_2 := hB_1.trans (hs2.mono hB_1.size)
  rw [F2.out]
  dsimp only
  have hz_2 := hs2.size
  clear hb2 HG_1 hB_1 hs2
  go_wp2_with fail
  refine (ntold_any _ (HG_2.step (by go_grown))).mono ?_
  rintro e w3 ⟨rfl, hb3⟩
  have hs3 : Below w2.heap.size w2 w3 := Below.trans (by go_grown) (hb3.mono (by first | (simp; done) | (simp; omega)))
  have HG_3 := HG_2.on hs3
  have hB_3 := hB_2.trans (hs3.mono hB_2.size)
  have hz_3 := hs3.size
  clear hb3 HG_2 hB_2 hs3
  go_wp2_with fail
  go_ret
  exact ⟨rfl, hB_3⟩

set_option maxHeartbeats 1000000 in
set_option maxRecDepth 100000 in
theorem order_same (n : Int) (w : World) (hn : 0 ≤ n ∧ n ≤ 1000000000) (hG : Pows w) :
    Calls Tryd.prog 5 #[.int .i64 n, .int .i64 n] w fun e w' => e = .returned (.bool true) ∧ Below w.heap.size w w' := by
  have HG : HPows w := Lib.hid hG
  clear hG
  have s1 := nonB_size n.toNat
  have F1 := Lib.hid (nonF_in hn.1 hn.2)
  generalize nonB n.toNat = N at *
  have l1 : Op.bytesLess N.toList N.toList = false := bytesLess_self _
  have l2 : (N.toList == N.toList) = true := by simp
  have c1 : decide (n < n) = false := decide_eq_false (by omega)
  have c2 : (n == n) = true := by simp
  go_enter Tryd.func5, Tryd.ntmps5
  go_wp2_with fail
  refine (bytes_any n _).mono ?_
  rintro e w1 ⟨rfl, hb1⟩
  have hs1 : Below w.heap.size w w1 := Below.trans (by go_grown) (hb1.mono (by first | (simp; done) | (simp; omega)))
  have HG_1 := HG.on hs1
  have hB_1 := hs1
  rw [F1.out]
  dsimp only
  have hz_1 := hs1.size
  clear hb1 HG hs1
  go_wp2_with fail
  refine (bytes_any n _).mono ?_
  rintro e w2 ⟨rfl, hb2⟩
  have hs2 : Below w1.heap.size w1 w2 := Below.trans (by go_grown) (hb2.mono (by first | (simp; done) | (simp; omega)))
  have HG_2 := HG_1.on hs2
  have hB_2 := hB_1.trans (hs2.mono hB_1.size)
  rw [F1.out]
  dsimp only
  have hz_2 := hs2.size
  clear hb2 HG_1 hB_1 hs2
  go_wp2_with fail
  refine (ntold_any _ (HG_2.step (by go_grown))).mono ?_
  rintro e w3 ⟨rfl, hb3⟩
  have hs3 : Below w2.heap.size w2 w3 := Below.trans (by go_grown) (hb3.mono (by first | (simp; done) | (simp; omega)))
  have HG_3 := HG_2.on hs3
  have hB_3 := hB_2.trans (hs3.mono hB_2.size)
  have hz_3 := hs3.size
  clear hb3 HG_2 hB_2 hs3
  go_wp2_with fail
  go_ret
  exact ⟨rfl, hB_3⟩
theorem order_any (n m : Int) (w : World) (hG : Pows w) :
    Calls Tryd.prog 5 #[.int .i64 n, .int .i64 m] w fun e w' => e = .returned (.bool true) ∧ Below w.heap.size w w' := by
  by_cases hn : 0 ≤ n ∧ n ≤ 1000000000
  · by_cases hm : 0 ≤ m ∧ m ≤ 1000000000
    · rcases Int.lt_trichotomy n m with h | h | h
      · exact order_lt n m w hn hm h hG
      · exact (by subst h; exact order_same n w hn hG)
      · exact order_gt n m w hn hm h hG
    · exact order_no n m w hn hm hG
  · by_cases hm : 0 ≤ m ∧ m ≤ 1000000000
    · exact order_no1 n m w hn hm hG
    · exact order_no2 n m w hn hm hG
end Go.Proofs.YtefodifmfjpnlaaDoor
