/- chapter 17's rows. -/
import Derived.Test.YtkaaicmadknjcaaDoorPldC
set_option linter.unusedVariables false
namespace Go.Proofs.YtkaaicmadknjcaaDoor
open Go.RowKit
theorem pall_no (A A' : Option Addr) (n c m d : Nat) (w : World) (h : n ≠ m) (hn : n ≤ 140737488351232) (hm : m ≤ 140737488351232) :
    Calls Tryd.prog 52 #[.slice A n c, .slice A' m d] w fun e w' => e = .returned (.tuple #[.slice none 0 0, .int .i64 170]) ∧ w = w' := by
  have t : ((n : Int) != (m : Int)) = true := by simp; omega
  clear h
  go_enter Tryd.func52, Tryd.ntmps52
  go_wp2
  go_ret2
  exact ⟨rfl, rfl⟩
theorem plg_right : rightB (manyB 7 16) 3 (manyB 5 32) = true := by decide
theorem plg_text3 : (textB (manyB 7 16) 3 (manyB 5 32)).size = 55 := textB_size (rightB_iff.1 plg_right)
theorem makeS_right {s b : ByteArray} {x : Int} (h : rightB s x b = true) : makeS s x b = sumS (textB s x b) ∧ makeE s x b = 0 := by simp [makeS, makeE, h]
theorem makeS_wrong {s b : ByteArray} {x : Int} (h : rightB s x b = false) : makeS s x b = ByteArray.empty ∧ makeE s x b = 1 := by simp [makeS, makeE, h]
theorem plg_no : checkB (makeS (manyB 7 16) 3 (manyB 5 32)) (manyB 7 16) 4 (manyB 5 32) = false := by
  unfold checkB
  rw [eq_data]
  decide +kernel
theorem check_self {s b : ByteArray} {x : Int} (h : rightB s x b = true) : checkB (makeS s x b) s x b = true := by
  unfold checkB
  rw [(makeS_right h).2]
  simp
theorem plg_short : rightB ⟨#[115, 104, 111, 114, 116]⟩ 3 (manyB 5 32) = false := by decide
set_option maxRecDepth 100000 in
set_option maxHeartbeats 400000 in
theorem pledges_any (w : World) (hG : Rounds w) : Calls Tryd.prog 47 #[] w fun e w' => e = .returned (.bool true) ∧ Below w.heap.size w w' := by
  have HG := Lib.hid hG
  clear hG
  have hm5 := manyB_size 5 32
  have hm7 := manyB_size 7 16
  have hck := check_self plg_right
  have hno := plg_no
  obtain ⟨hS, hE⟩ := makeS_right plg_right
  obtain ⟨hS2, hE2⟩ := makeS_wrong plg_short
  have hp32 : (makeS (manyB 7 16) 3 (manyB 5 32)).size = 32 := by rw [hS, sumS_size]
  have M5 := fun W => many_any 5 32 W (by omega)
  have M7 := fun W => many_any 7 16 W (by omega)
  have K3 := fun (W : World) (h : Rounds W) => pmake_any (manyB 7 16) (manyB 5 32) 3 W h (by omega) (by omega)
  have K1 := fun (W : World) (h : Rounds W) => pmake_any ⟨#[115, 104, 111, 114, 116]⟩ (manyB 5 32) 3 W h (by decide) (by omega)
  have C3 := fun (p : ByteArray) (W : World) (h : Rounds W) => pcheck_any p (manyB 7 16) (manyB 5 32) 3 W h (by omega) (by omega)
  have C4 := fun (p : ByteArray) (W : World) (h : Rounds W) => pcheck_any p (manyB 7 16) (manyB 5 32) 4 W h (by omega) (by omega)
  rw [hE] at K3
  rw [hS2, hE2] at K1
  generalize manyB 7 16 = S at *
  generalize manyB 5 32 = B at *
  generalize makeS S 3 B = P at *
  have HM5 := Lib.hid M5
  have HM7 := Lib.hid M7
  have HK3 := Lib.hid K3
  have HK1 := Lib.hid K1
  have HC3 := Lib.hid (C3 P)
  have HC4 := Lib.hid (C4 P)
  have HCK := Lib.hid (And.intro hck hno)
  have tp : ((P.size : Int) == 32) = true := by simp; omega
  clear hm5 hm7 hck hno hS hE hS2 hE2 hp32 M5 M7 K3 K1 C3 C4
  unfold shV at *
  go_enter Tryd.func47, Tryd.ntmps47
  go_wp2_with fail
  refine (HM7.out _).mono ?_
  rintro e w1 ⟨rfl, hb1⟩
  go_wp2_with fail
  refine (HM5.out _).mono ?_
  rintro e w2 ⟨rfl, hb2⟩
  have hB2 := hb1.trans (hb2.mono hb1.size)
  have hs2 := hB2.size
  clear hb1 hb2
  go_wp2_with fail
  refine (HM5.out _).mono ?_
  rintro e w3 ⟨rfl, hb3⟩
  have hX3 := (Blk.new w2 51 #[.int .i64 3, .string B]).below hb3 (by simp)
  have hB3 : Below w.heap.size w w3 := Below.trans (by go_grown) (hb3.mono (by simp; omega))
  clear hb3
  have c0 := hX3.cells 0 _ rfl
  have c1 := hX3.cells 1 _ rfl
  simp only [List.getElem_toArray, List.getElem_cons_zero, List.getElem_cons_succ] at c0 c1
  have hx3 := hX3.lt
  go_wp2_with fail
  have hs3 := hB3.size
  refine (HK3.out _ (HG.out.below (B := w.heap.size) (by go_grown) HG.out.pos)).mono ?_
  rintro e w4 ⟨rfl, hb4⟩
  have hX4 := (hX3.alloc (.cells #[.int .i64 4, .string B] 51)).below hb4 (by simp; omega)
  have hY4 := (Blk.new w3 51 #[.int .i64 4, .string B]).below hb4 (by simp)
  have hB4 : Below w.heap.size w w4 := Below.trans (by go_grown) (hb4.mono (by simp; omega))
  clear hb4 c0 c1
  have hs4 := hB4.size
  have c0 := hX4.cells 0 _ rfl
  have c1 := hX4.cells 1 _ rfl
  simp only [List.getElem_toArray, List.getElem_cons_zero, List.getElem_cons_succ] at c0 c1
  go_wp2_with fail
  refine (HK1.out _ (rounds_of HG.out hB4)).mono ?_
  rintro e w5 ⟨rfl, hb5⟩
  have hX5 := hX4.below hb5 hX4.lt
  have hY5 := hY4.below hb5 hY4.lt
  have hB5 := hB4.trans (hb5.mono hs4)
  clear hb5 c0 c1
  have hs5 := hB5.size
  go_wp2_with fail
  refine (pall_no _ _ 1 1 0 0 _ (by omega) (by omega) (by omega)).mono ?_
  rintro e w6 ⟨rfl, rfl⟩
  have hX6 := hX5.alloc (.cells #[.string S] 9)
  have hY6 := hY5.alloc (.cells #[.string S] 9)
  have hB6 : Below w.heap.size w (w5.alloc (.cells #[.string S] 9)) := by go_grown
  generalize hW6 : w5.alloc (.cells #[.string S] 9) = w6 at hX6 hY6 hB6 ⊢
  clear hW6 hX5 hY5
  have hs6 := hB6.size
  have c0 := hX6.cells 0 _ rfl
  have c1 := hX6.cells 1 _ rfl
  simp only [List.getElem_toArray, List.getElem_cons_zero, List.getElem_cons_succ] at c0 c1
  go_wp2_with fail
  refine (HC3.out _ (rounds_of HG.out hB6)).mono ?_
  rintro e w7 ⟨rfl, hb7⟩
  rw [HCK.out.1]
  have hY7 := hY6.below hb7 hY6.lt
  have hB7 := hB6.trans (hb7.mono hs6)
  clear hb7 c0 c1
  have hs7 := hB7.size
  have c0 := hY7.cells 0 _ rfl
  have c1 := hY7.cells 1 _ rfl
  simp only [List.getElem_toArray, List.getElem_cons_zero, List.getElem_cons_succ] at c0 c1
  go_wp2_with fail
  refine (HC4.out _ (rounds_of HG.out hB7)).mono ?_
  rintro e w8 ⟨rfl, hb8⟩
  rw [HCK.out.2]
  go_wp2_with fail
  go_ret
  exact ⟨rfl, hB7.trans (hb8.mono hs7)⟩
end Go.Proofs.YtkaaicmadknjcaaDoor
