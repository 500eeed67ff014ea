/- chapter 15, NonceAhead: the walk. -/
import Derived.Test.YtefodifmfjpnlaaDoorNonK
import Derived.Test.YtefodifmfjpnlaaDoorTwinS7
set_option linter.unusedVariables false
namespace Go.Proofs.YtefodifmfjpnlaaDoor
open Go.RowKit
theorem Blk.far_at {w : World} {g : Nat} {t : TypeId} {cs : Array Value} (h : Blk w g t cs) {b : Nat} (hne : g ≠ b) (o : Nat) (u : Value) : Blk (w.setCell ⟨b, o, none⟩ u) g t cs := h.far (p := ⟨b, o, none⟩) hne u
theorem rows_pre3 {w : World} {B : Nat} {p : Plat} {A A' : Option Addr} {c c' : Nat} (h : p.sectors.length = 3 ∧ p.cache.length = 0) (h1 : w.ownsRow B 9 1 (.slice A 3 c) 3 (flat encS p.sectors)) (h2 : w.ownsRow B 52 2 (.slice A' 0 c') 0 (flat encP p.cache)) : PlatPre w A 3 A' 0 p :=
  PlatAt.pre ⟨SlR.of_own encS_len h1 h.1, SlR.of_own encP_len h2 h.2⟩
set_option maxHeartbeats 1000000 in
set_option maxRecDepth 100000 in
theorem ahead_no (n : Int) (w : World) (hn : n < 0 ∨ 120 < n) (hG : Pows w) :
    Calls Tryd.prog 6 #[.int .i64 n] w fun e w' => e = .returned (.bool true) ∧ Below w.heap.size w w' := by
  have HG : HPows w := Lib.hid hG
  clear hG
  go_enter Tryd.func6, Tryd.ntmps6
  go_wp2_with fail
  refine (new_any 3 _).mono ?_
  rintro e w1 ⟨v, rfl, hO1, hb1⟩
  have hs1 : Below w.heap.size w w1 := Below.trans (by go_grown) (hb1.mono (by first | (simp; done) | (simp; omega)))
  have HG_1 := HG.on hs1
  have hB_1 := hs1
  rw [told_new] at hO1 ⊢
  dsimp only at hO1 ⊢
  obtain ⟨Aa, ca, Aa', ca', rfl, HPa⟩ := hO1.at_
  clear hO1
  rw [told_l3.1, told_l3.2] at HPa ⊢
  have hz_1 := hs1.size
  clear hb1 HG hs1
  go_wp2_with fail
  refine (nopen_any P3 0 Aa Aa' 3 0 ca ca' _ (HPa.step (by go_grown))).mono ?_
  rintro e w2 ⟨rfl, hb2⟩
  have hs2 : Below w1.heap.size w1 w2 := Below.trans (by go_grown) (hb2.mono (by first | (simp; done) | (simp; omega)))
  have HG_2 := HG_1.on hs2
  have HPa_2 := HPa.on hs2
  have X_2 := (Blk.new_at (g := w1.heap.size) (by simp) _ _).below hb2 (by first | (simp; done) | (simp; omega))
  have hB_2 := hB_1.trans (hs2.mono hB_1.size)
  rw [told_o1]
  unfold srcV
  dsimp only
  have hz_2 := hs2.size
  clear hb2 HG_1 HPa hB_1 hs2
  rcases hn with hn | hn
  · go_wp2_with fail
    refine (ntold_any _ (HG_2.step (by go_grown))).mono ?_
    rintro e w3 ⟨rfl, hb3⟩
    have hs3 : Below w2.heap.size w2 w3 := Below.trans (by go_grown) (hb3.mono (by first | (simp; done) | (simp; omega)))
    have HG_3 := HG_2.on hs3
    have HPa_3 := HPa_2.on hs3
    have X_3 := X_2.below hs3 X_2.lt
    have S_3 := (Blk.new_at (g := w2.heap.size) (by simp) _ _).below hb3 (by first | (simp; done) | (simp; omega))
    have hB_3 := hB_2.trans (hs3.mono hB_2.size)
    have hz_3 := hs3.size
    clear hb3 HG_2 HPa_2 X_2 hB_2 hs3
    go_wp2_with fail
    go_ret
    exact ⟨rfl, hB_3⟩
  · go_wp2_with fail
    refine (ntold_any _ (HG_2.step (by go_grown))).mono ?_
    rintro e w3 ⟨rfl, hb3⟩
    have hs3 : Below w2.heap.size w2 w3 := Below.trans (by go_grown) (hb3.mono (by first | (simp; done) | (simp; omega)))
    have HG_3 := HG_2.on hs3
    have HPa_3 := HPa_2.on hs3
    have X_3 := X_2.below hs3 X_2.lt
    have S_3 := (Blk.new_at (g := w2.heap.size) (by simp) _ _).below hb3 (by first | (simp; done) | (simp; omega))
    have hB_3 := hB_2.trans (hs3.mono hB_2.size)
    have hz_3 := hs3.size
    clear hb3 HG_2 HPa_2 X_2 hB_2 hs3
    go_wp2_with fail
    go_ret
    exact ⟨rfl, hB_3⟩

set_option maxHeartbeats 2000000 in
set_option maxRecDepth 100000 in
theorem ahead_in (N : Nat) (w : World) (hN : N ≤ 120) (hG : Pows w) :
    Calls Tryd.prog 6 #[.int .i64 (N : Int)] w fun e w' => e = .returned (.bool true) ∧ Below w.heap.size w w' := by
  have HG : HPows w := Lib.hid hG
  have HG0 : HPows w := Lib.hid hG
  clear hG
  go_enter Tryd.func6, Tryd.ntmps6
  go_wp2_with fail
  refine (new_any 3 _).mono ?_
  rintro e w1 ⟨v, rfl, hO1, hb1⟩
  have hs1 : Below w.heap.size w w1 := Below.trans (by go_grown) (hb1.mono (by first | (simp; done) | (simp; omega)))
  have HG_1 := HG.on hs1
  have hB_1 := hs1
  rw [told_new] at hO1 ⊢
  dsimp only at hO1 ⊢
  obtain ⟨Aa, ca, Aa', ca', rfl, hc1, hc2⟩ := hO1
  rw [told_l3.1] at hc1 ⊢
  rw [told_l3.2] at hc2 ⊢
  have HC := Lib.hid (And.intro hc1 hc2)
  clear hc1 hc2
  have hz_1 := hs1.size
  clear hb1 HG hs1
  go_wp2_with fail
  refine (nopen_any P3 0 Aa Aa' 3 0 ca ca' _ ((rows_pre3 told_l3 HC.out.1 HC.out.2).step (by go_grown))).mono ?_
  rintro e w2 ⟨rfl, hb2⟩
  have hs2 : Below w1.heap.size w1 w2 := Below.trans (by go_grown) (hb2.mono (by first | (simp; done) | (simp; omega)))
  have HG_2 := HG_1.on hs2
  have HR_2 := Lib.hid (And.intro (own_below HC.out.1 hs2 (Nat.le_refl _)) (own_below HC.out.2 hs2 (Nat.le_refl _)))
  have X_2 := (Blk.new_at (g := w1.heap.size) (by simp) _ _).below hb2 (by first | (simp; done) | (simp; omega))
  have hB_2 := hB_1.trans (hs2.mono hB_1.size)
  rw [told_o1]
  unfold srcV
  dsimp only
  have hz_2 := hs2.size
  clear hb2 HG_1 HC hB_1 hs2
  go_wp2_with fail
  have hSS := Blk.new_at (w := w2) rfl 28 #[.int .i64 0, .int .i64 0, .int .i64 0]
  have hXX := X_2.alloc (.cells #[.int .i64 0, .int .i64 0, .int .i64 0] 28)
  have HRR := Lib.hid (And.intro (HR_2.out.1.alloc (.cells #[.int .i64 0, .int .i64 0, .int .i64 0] 28)) (HR_2.out.2.alloc (.cells #[.int .i64 0, .int .i64 0, .int .i64 0] 28)))
  have HBB := Lib.hid hB_2
  clear X_2 HR_2 hB_2 HG_2
  go_loopw [7] (fun iv wr => ∃ (i k : Nat) (A1 : Option Addr) (c1 : Nat) (A1' : Option Addr) (c1' : Nat), i ≤ N ∧ iv = .int .i64 i ∧ i ≤ 16 * k ∧ 16 * k < i + 16 ∧ k < 9 ∧ Below w.heap.size w wr ∧ Hid (Blk wr w1.heap.size 25 #[.slice A1 3 c1, .slice A1' 0 c1']) ∧ Hid (Blk wr w2.heap.size 28 #[.int .i64 0, .int .i64 i, .int .i64 ((16 * k : Nat) : Int)]) ∧
    Hid (wr.ownsRow w.heap.size 9 1 (.slice A1 3 c1) 3 (flat encS (PK k).sectors) ∧ wr.ownsRow w.heap.size 52 2 (.slice A1' 0 c1') 0 (flat encP (PK k).cache))) (fun iv _ => N - (intOf iv).toNat)
  case atStart => exact ⟨0, 0, Aa, ca, Aa', ca', Nat.zero_le _, rfl, by omega, by omega, by omega, by have := HBB.out; go_grown, Lib.hid hXX, Lib.hid hSS, HRR⟩
  case round =>
    clear hSS hXX HRR HBB
    obtain ⟨i, k, A1, c1, A1', c1', hi, rfl, hk1, hk2, hk9, hBr, HX, HS, HR⟩ := hrel
    have hX := HX.out
    have hS := HS.out
    have HGr := HG0.on hBr
    have hzr := hBr.size
    have HP := rows_pre3 (pk_len k hk9) HR.out.1 HR.out.2
    have hsl0 := hS.lt
    have hxl0 := hX.lt
    clear HX HS
    by_cases hlt : i < N
    · obtain ⟨k2, hk21, hk22, hk29, hnx⟩ := ahead_step hk1 hk2 (by omega)
      have HNX := Lib.hid hnx
      obtain ⟨N1, hN1⟩ : ∃ x, nonB i = x := ⟨_, rfl⟩
      have HF : Hid (nonF (i : Int) = (N1, 0)) := by
        rw [← hN1]
        exact Lib.hid (nonF_in (n := (i : Int)) (by omega) (by omega))
      have HN1 := Lib.hid hN1
      obtain ⟨L, hL⟩ : ∃ x, 16 * k = x := ⟨_, rfl⟩
      obtain ⟨L2, hL2⟩ : ∃ x, 16 * k2 = x := ⟨_, rfl⟩
      rw [hL, hL2] at HNX
      rw [hL] at hS hk1 hk2
      clear hnx hN1
      have qX_0r := hX.cells 0 _ rfl
      have qX_1r := hX.cells 1 _ rfl
      have qlXr := hX.lt
      have qS_0r := hS.cells 0 _ rfl
      have qS_1r := hS.cells 1 _ rfl
      have qS_2r := hS.cells 2 _ rfl
      have qlSr := hS.lt
      simp only [List.getElem_toArray, List.getElem_cons_zero, List.getElem_cons_succ] at qX_0r qX_1r qS_0r qS_1r qS_2r
      go_wp2_with fail
      refine (next_any (PK k) ⟨0, (i : Int), (L : Int)⟩ 4 A1 A1' 3 0 c1 c1' _ (HP.step (by go_grown)) (by omega) (by omega) (HGr.step (by go_grown))).mono ?_
      rintro e wr1 ⟨v, rfl, hO3, hb3⟩
      clear qlXr qlSr qX_0r qX_1r qS_0r qS_1r qS_2r
      have hsr1 : Below wr.heap.size wr wr1 := Below.trans (by go_grown) (hb3.mono (by first | (simp; done) | (simp; omega)))
      have X_r1 := hX.below hsr1 hX.lt
      have S_r1 := hS.below hsr1 hS.lt
      have HG_r1 := HGr.on hsr1
      have hBr_1 := hBr.trans (hsr1.mono hBr.size)
      rw [HNX.out, HN1.out] at hO3 ⊢
      unfold srcV
      dsimp only at hO3 ⊢
      obtain ⟨A2, c2, A2', c2', rfl, hc1, hc2⟩ := hO3
      rw [(pk_len k2 hk29).1] at hc1 ⊢
      rw [(pk_len k2 hk29).2] at hc2 ⊢
      have HC := Lib.hid (And.intro hc1 hc2)
      clear hc1 hc2 HP HR
      have hzr_1 := hsr1.size
      clear hb3 hX hS HGr hBr hsr1
      go_wp2_with fail
      refine (bytes_any (i : Int) _).mono ?_
      rintro e wr2 ⟨rfl, hb4⟩
      have hsr2 : Below wr1.heap.size wr1 wr2 := Below.trans (by go_grown) (hb4.mono (by first | (simp; done) | (simp; omega)))
      have X_r2 := X_r1.below hsr2 X_r1.lt
      have S_r2 := S_r1.below hsr2 S_r1.lt
      have HG_r2 := HG_r1.on hsr2
      have HR_r2 := Lib.hid (And.intro (own_below HC.out.1 hsr2 (Nat.le_refl _)) (own_below HC.out.2 hsr2 (Nat.le_refl _)))
      have T_r2 := ((Blk.new_at (g := wr1.heap.size) (by simp) _ _).alloc _).below hb4 (by first | (simp; done) | (simp; omega))
      have Q_r2 := (Blk.new_at (g := wr1.heap.size + 1) (by simp) _ _).below hb4 (by first | (simp; done) | (simp; omega))
      have hBr_2 := hBr_1.trans (hsr2.mono hBr_1.size)
      rw [HF.out]
      dsimp only
      have hzr_2 := hsr2.size
      clear hb4 X_r1 S_r1 HG_r1 HC hBr_1 hsr2
      have qX_0r := X_r2.cells 0 _ rfl
      have qX_1r := X_r2.cells 1 _ rfl
      have qlXr := X_r2.lt
      have qS_0r := S_r2.cells 0 _ rfl
      have qS_1r := S_r2.cells 1 _ rfl
      have qS_2r := S_r2.cells 2 _ rfl
      have qlSr := S_r2.lt
      have qT_0r := T_r2.cells 0 _ rfl
      have qT_1r := T_r2.cells 1 _ rfl
      have qT_2r := T_r2.cells 2 _ rfl
      have qlTr := T_r2.lt
      have qQ_0r := Q_r2.cells 0 _ rfl
      have qQ_1r := Q_r2.cells 1 _ rfl
      have qlQr := Q_r2.lt
      simp only [List.getElem_toArray, List.getElem_cons_zero, List.getElem_cons_succ] at qX_0r qX_1r qS_0r qS_1r qS_2r qT_0r qT_1r qT_2r qQ_0r qQ_1r
      have qfXr := X_r2.frozen
      have qfSr := S_r2.frozen
      have HXX := Lib.hid X_r2
      have HSS := Lib.hid S_r2
      have hne1 := Blk.ne_ X_r2 S_r2 (by decide)
      have HNE := Lib.hid (And.intro hne1 hne1.symm)
      have HR1 := Lib.hid (And.intro (own_blk_ne HR_r2.out.1 X_r2 (by decide)) (And.intro (own_blk_ne HR_r2.out.1 S_r2 (by decide)) (And.intro (own_blk_ne HR_r2.out.2 X_r2 (by decide)) (own_blk_ne HR_r2.out.2 S_r2 (by decide)))))
      have HBB := Lib.hid hBr_2
      have hne2 := hne1.symm
      clear X_r2 S_r2 T_r2 Q_r2 HG_r2 hBr_2
      go_wp2_with fail
      go_roundw
      case rel =>
        refine ⟨i + 1, k2, A2, c2, A2', c2', by omega, by go_num, by omega, by omega, hk29, ?_, ?_, ?_, ?_⟩
        · have := HBB.out
          go_grown
        · have := (((Blk.far_at (Blk.far_at (Blk.far_at HXX.out HNE.out.1 0 (.int .i64 0)) HNE.out.1 1 (.int .i64 ((i + 1 : Nat) : Int))) HNE.out.1 2 (.int .i64 (L2 : Int))).set_ 0 (.slice A2 3 c2)).set_ 1 (.slice A2' 0 c2'))
          exact Lib.hid (by simpa using this)
        · rw [hL2]
          have := (Blk.far_at (Blk.far_at (((HSS.out.set_ 0 (.int .i64 0)).set_ 1 (.int .i64 ((i + 1 : Nat) : Int))).set_ 2 (.int .i64 (L2 : Int))) HNE.out.2 0 (.slice A2 3 c2)) HNE.out.2 1 (.slice A2' 0 c2'))
          exact Lib.hid (by simpa using this)
        · exact ⟨own_far (own_far (own_far (own_far (own_far (own_base HR_r2.out.1 hzr) HR1.out.2.1 _ _) HR1.out.2.1 _ _) HR1.out.2.1 _ _) HR1.out.1 _ _) HR1.out.1 _ _, own_far (own_far (own_far (own_far (own_far (own_base HR_r2.out.2 hzr) HR1.out.2.2.2 _ _) HR1.out.2.2.2 _ _) HR1.out.2.2.2 _ _) HR1.out.2.2.1 _ _) HR1.out.2.2.1 _ _⟩
      case measure => simp [intOf]; omega
    · obtain rfl : i = N := by omega
      obtain ⟨L, hL⟩ : ∃ x, 16 * k = x := ⟨_, rfl⟩
      have HOP := Lib.hid (pk_open k hk9)
      have hmod : ((L : Int)).tmod 16 = 0 := by rw [Int.tmod_eq_emod_of_nonneg (by omega)]; omega
      rw [hL] at HOP hk1 hk2
      rw [hL] at hS
      have hwr : IntKind.i64.wrap ((L : Int) - (i : Int)) = (L : Int) - (i : Int) := IntWalk.i64_in _ (by omega)
      have qX_0e := hX.cells 0 _ rfl
      have qX_1e := hX.cells 1 _ rfl
      have qlXe := hX.lt
      simp only [List.getElem_toArray, List.getElem_cons_zero, List.getElem_cons_succ] at qX_0e qX_1e
      go_wp2_with fail
      refine (nopen_any (PK k) 0 A1 A1' 3 0 c1 c1' _ (HP.step (by go_grown))).mono ?_
      rintro e we1 ⟨rfl, hb3⟩
      clear qlXe qX_0e qX_1e
      have hse1 : Below wr.heap.size wr we1 := Below.trans (by go_grown) (hb3.mono (by first | (simp; done) | (simp; omega)))
      have X_e1 := hX.below hse1 hX.lt
      have HG_e1 := HGr.on hse1
      have hBe_1 := hBr.trans (hse1.mono hBr.size)
      rw [HOP.out]
      unfold srcV
      dsimp only
      clear HP HR hS
      have hze_1 := hse1.size
      clear hb3 hX HGr hBr hse1
      go_wp2_with fail
      refine (ntold_any _ (HG_e1.step (by go_grown))).mono ?_
      rintro e we2 ⟨rfl, hb4⟩
      have hse2 : Below we1.heap.size we1 we2 := Below.trans (by go_grown) (hb4.mono (by first | (simp; done) | (simp; omega)))
      have X_e2 := X_e1.below hse2 X_e1.lt
      have HG_e2 := HG_e1.on hse2
      have U_e2 := (Blk.new_at (g := we1.heap.size) (by simp) _ _).below hb4 (by first | (simp; done) | (simp; omega))
      have hBe_2 := hBe_1.trans (hse2.mono hBe_1.size)
      have hze_2 := hse2.size
      clear hb4 X_e1 HG_e1 hBe_1 hse2
      have qU_0e := U_e2.cells 0 _ rfl
      have qU_1e := U_e2.cells 1 _ rfl
      have qU_2e := U_e2.cells 2 _ rfl
      have qlUe := U_e2.lt
      simp only [List.getElem_toArray, List.getElem_cons_zero, List.getElem_cons_succ] at qU_0e qU_1e qU_2e
      go_wp2_with fail
      go_ret
      exact ⟨rfl, hBe_2⟩

theorem ahead_any (n : Int) (w : World) (hG : Pows w) :
    Calls Tryd.prog 6 #[.int .i64 n] w fun e w' => e = .returned (.bool true) ∧ Below w.heap.size w w' := by
  by_cases h : n < 0 ∨ 120 < n
  · exact ahead_no n w h hG
  · obtain ⟨N, rfl⟩ : ∃ N : Nat, n = N := ⟨n.toNat, by omega⟩
    exact ahead_in N w (by omega) hG
end Go.Proofs.YtefodifmfjpnlaaDoor
