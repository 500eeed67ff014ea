/- chapter 20, SessionPairs: the walk. -/
import Derived.Test.YtbgohcedakpnbaaDoorSesG
set_option linter.unusedVariables false
namespace Go.Proofs.YtbgohcedakpnbaaDoor
open Go.RowKit
set_option maxRecDepth 100000 in
set_option maxHeartbeats 4000000 in
theorem spairs_far1 (key salt : ByteArray) (w : World) (hT : HTab w) (h : 200 < key.size) :
    Calls Tryd.prog 9 #[.string key, .string salt] w fun e w' => e = .returned (.bool true) ∧ Below w.heap.size w w' := by
  have t1 : decide (200 < (key.size : Int)) = true := by simp; omega
  clear h
  go_enter Tryd.func9, Tryd.ntmps9
  go_wp2_with fail
  go_ret
  exact ⟨rfl, Below.refl _ _⟩
set_option maxRecDepth 100000 in
set_option maxHeartbeats 4000000 in
theorem spairs_far2 (key salt : ByteArray) (w : World) (hT : HTab w) (h1 : key.size ≤ 200) (h : 200 < salt.size) :
    Calls Tryd.prog 9 #[.string key, .string salt] w fun e w' => e = .returned (.bool true) ∧ Below w.heap.size w w' := by
  have t1 : decide (200 < (key.size : Int)) = false := by simp; omega
  have t2 : decide (200 < (salt.size : Int)) = true := by simp; omega
  clear h h1
  go_enter Tryd.func9, Tryd.ntmps9
  go_wp2_with fail
  go_ret
  exact ⟨rfl, Below.refl _ _⟩
set_option maxRecDepth 100000 in
set_option maxHeartbeats 4000000 in
theorem spairs_bad (key salt : ByteArray) (w : World) (hT : HTab w) (h1 : key.size ≤ 200) (h2 : salt.size ≤ 200) (h : key.size ≠ 32) :
    Calls Tryd.prog 9 #[.string key, .string salt] w fun e w' => e = .returned (.bool true) ∧ Below w.heap.size w w' := by
  have t1 : decide (200 < (key.size : Int)) = false := by simp; omega
  have t2 : decide (200 < (salt.size : Int)) = false := by simp; omega
  have t3 : ((key.size : Int) != 32) = true := by simp; omega
  have HP := Lib.hid (fun W => pair_bad key salt W h)
  have HG : HTab w := hT
  clear h h1 h2 hT
  go_enter Tryd.func9, Tryd.ntmps9
  go_wp2_with fail
  refine (HP.out _).mono ?_
  rintro e w1 ⟨rfl, hb1⟩
  have hs1 : Below w.heap.size w w1 := Below.trans (by go_grown) (hb1.mono (by first | (simp; done) | (simp; omega)))
  have HG_1 := HG.on hs1
  have hB_1 := hs1
  unfold sesV
  have hz_1 := hs1.size
  clear hb1 HG hs1
  go_wp2_with fail
  refine (HP.out _).mono ?_
  rintro e w2 ⟨rfl, hb2⟩
  have hs2 : Below w1.heap.size w1 w2 := Below.trans (by go_grown) (hb2.mono (by first | (simp; done) | (simp; omega)))
  have HG_2 := HG_1.on hs2
  have a_2 := ((Blk.new_at (g := w1.heap.size) (by simp) _ _).alloc _).below hb2 (by first | (simp; done) | (simp; omega))
  have b_2 := (Blk.new_at (g := w1.heap.size + 1) (by simp) _ _).below hb2 (by first | (simp; done) | (simp; omega))
  have hB_2 := hB_1.trans (hs2.mono hB_1.size)
  unfold sesV
  have hz_2 := hs2.size
  clear hb2 HG_1 hB_1 hs2
  go_wp2_with fail
  refine (slines_any _ (HG_2.on (by go_grown))).mono ?_
  rintro e w3 ⟨rfl, hb3⟩
  have hs3 : Below w2.heap.size w2 w3 := Below.trans (by go_grown) (hb3.mono (by first | (simp; done) | (simp; omega)))
  have HG_3 := HG_2.on hs3
  have a_3 := a_2.below hs3 a_2.lt
  have b_3 := b_2.below hs3 b_2.lt
  have c_3 := ((Blk.new_at (g := w2.heap.size) (by simp) _ _).alloc _).below hb3 (by first | (simp; done) | (simp; omega))
  have d_3 := (Blk.new_at (g := w2.heap.size + 1) (by simp) _ _).below hb3 (by first | (simp; done) | (simp; omega))
  have hB_3 := hB_2.trans (hs3.mono hB_2.size)
  have hz_3 := hs3.size
  clear hb3 HG_2 a_2 b_2 hB_2 hs3
  have qa_0 := a_3.cells 0 _ rfl
  have qa_1 := a_3.cells 1 _ rfl
  have qa_2 := a_3.cells 2 _ rfl
  have qa_3 := a_3.cells 3 _ rfl
  have qla := a_3.lt
  have qb_0 := b_3.cells 0 _ rfl
  have qb_1 := b_3.cells 1 _ rfl
  have qb_2 := b_3.cells 2 _ rfl
  have qb_3 := b_3.cells 3 _ rfl
  have qlb := b_3.lt
  simp only [List.getElem_toArray, List.getElem_cons_zero, List.getElem_cons_succ] at qa_0 qa_1 qa_2 qa_3 qb_0 qb_1 qb_2 qb_3
  go_wp2_with fail
  go_ret
  exact ⟨rfl, by have h := hB_3; go_grown⟩
set_option maxRecDepth 100000 in
set_option maxHeartbeats 4000000 in
theorem spairs_good (key salt K : ByteArray) (w : World) (hT : HTab w) (h1 : key.size ≤ 200) (h2 : salt.size ≤ 200) (h : key.size = 32) (hK : K.size = 32) (hP : ∀ W, Rounds W → Calls Tryd.prog 24 #[.string key, .string salt] W fun e w' => e = .returned (.tuple #[sesV K 0 0 0, sesV K 1 0 0, .int .i64 0]) ∧ Below W.heap.size W w') :
    Calls Tryd.prog 9 #[.string key, .string salt] w fun e w' => e = .returned (.bool true) ∧ Below w.heap.size w w' := by
  have t1 : decide (200 < (key.size : Int)) = false := by simp; omega
  have t2 : decide (200 < (salt.size : Int)) = false := by simp; omega
  have t3 : ((key.size : Int) != 32) = false := by simp; omega
  have t4 : ((K.size : Int) == 32) = true := by simp; omega
  have HP := Lib.hid hP
  have HG : HTab w := hT
  clear h h1 h2 hT hP hK
  go_enter Tryd.func9, Tryd.ntmps9
  go_wp2_with fail
  refine (HP.out _ (HG.step (by go_grown)).1).mono ?_
  rintro e w1 ⟨rfl, hb1⟩
  have hs1 : Below w.heap.size w w1 := Below.trans (by go_grown) (hb1.mono (by first | (simp; done) | (simp; omega)))
  have HG_1 := HG.on hs1
  have hB_1 := hs1
  unfold sesV
  have hz_1 := hs1.size
  clear hb1 HG hs1
  go_wp2_with fail
  refine (HP.out _ (HG_1.step (by go_grown)).1).mono ?_
  rintro e w2 ⟨rfl, hb2⟩
  have hs2 : Below w1.heap.size w1 w2 := Below.trans (by go_grown) (hb2.mono (by first | (simp; done) | (simp; omega)))
  have HG_2 := HG_1.on hs2
  have a_2 := ((Blk.new_at (g := w1.heap.size) (by simp) _ _).alloc _).below hb2 (by first | (simp; done) | (simp; omega))
  have b_2 := (Blk.new_at (g := w1.heap.size + 1) (by simp) _ _).below hb2 (by first | (simp; done) | (simp; omega))
  have hB_2 := hB_1.trans (hs2.mono hB_1.size)
  unfold sesV
  have hz_2 := hs2.size
  clear hb2 HG_1 hB_1 hs2
  go_wp2_with fail
  refine (slines_any _ (HG_2.on (by go_grown))).mono ?_
  rintro e w3 ⟨rfl, hb3⟩
  have hs3 : Below w2.heap.size w2 w3 := Below.trans (by go_grown) (hb3.mono (by first | (simp; done) | (simp; omega)))
  have HG_3 := HG_2.on hs3
  have a_3 := a_2.below hs3 a_2.lt
  have b_3 := b_2.below hs3 b_2.lt
  have c_3 := ((Blk.new_at (g := w2.heap.size) (by simp) _ _).alloc _).below hb3 (by first | (simp; done) | (simp; omega))
  have d_3 := (Blk.new_at (g := w2.heap.size + 1) (by simp) _ _).below hb3 (by first | (simp; done) | (simp; omega))
  have hB_3 := hB_2.trans (hs3.mono hB_2.size)
  have hz_3 := hs3.size
  clear hb3 HG_2 a_2 b_2 hB_2 hs3
  have qa_0 := a_3.cells 0 _ rfl
  have qa_1 := a_3.cells 1 _ rfl
  have qa_2 := a_3.cells 2 _ rfl
  have qa_3 := a_3.cells 3 _ rfl
  have qla := a_3.lt
  have qb_0 := b_3.cells 0 _ rfl
  have qb_1 := b_3.cells 1 _ rfl
  have qb_2 := b_3.cells 2 _ rfl
  have qb_3 := b_3.cells 3 _ rfl
  have qlb := b_3.lt
  have qc_0 := c_3.cells 0 _ rfl
  have qc_1 := c_3.cells 1 _ rfl
  have qc_2 := c_3.cells 2 _ rfl
  have qc_3 := c_3.cells 3 _ rfl
  have qlc := c_3.lt
  have qd_0 := d_3.cells 0 _ rfl
  have qd_1 := d_3.cells 1 _ rfl
  have qd_2 := d_3.cells 2 _ rfl
  have qd_3 := d_3.cells 3 _ rfl
  have qld := d_3.lt
  simp only [List.getElem_toArray, List.getElem_cons_zero, List.getElem_cons_succ] at qa_0 qa_1 qa_2 qa_3 qb_0 qb_1 qb_2 qb_3 qc_0 qc_1 qc_2 qc_3 qd_0 qd_1 qd_2 qd_3
  go_wp2_with fail
  go_ret
  exact ⟨rfl, by have h := hB_3; go_grown⟩
theorem spairs_all (key salt : ByteArray) (w : World) (hT : HTab w) :
    Calls Tryd.prog 9 #[.string key, .string salt] w fun e w' => e = .returned (.bool true) ∧ Below w.heap.size w w' := by
  by_cases h1 : key.size ≤ 200
  · by_cases h2 : salt.size ≤ 200
    · by_cases h : key.size = 32
      · obtain ⟨K, hK, _, hD⟩ := derive_some key salt (by omega) (by omega)
        exact spairs_good key salt K w hT h1 h2 h hK (fun W hW => pair_good key salt K W h hW hD)
      · exact spairs_bad key salt w hT h1 h2 h
    · exact spairs_far2 key salt w hT h1 (by omega)
  · exact spairs_far1 key salt w hT (by omega)
end Go.Proofs.YtbgohcedakpnbaaDoor
