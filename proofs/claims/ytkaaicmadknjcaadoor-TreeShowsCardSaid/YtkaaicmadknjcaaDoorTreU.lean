/- chapter 11's own rows: roots. -/
import Derived.Test.YtkaaicmadknjcaaDoorTreF
import Derived.Test.YtkaaicmadknjcaaDoorTexts
set_option linter.unusedVariables false
set_option linter.unusedSimpArgs false
namespace Go.Proofs.YtkaaicmadknjcaaDoor
open Go.RowKit
theorem may2 : mayB 2 = true := by decide +kernel
theorem may3 : mayB 3 = false := by decide +kernel
theorem hgt2 : hgt 2 = 1 := by decide +kernel
theorem ex_root (a b : ByteArray) : rootV [a, b] = nodeS (leafS a) (leafS b) ∧ rootE [a, b] = 0 := by
  constructor
  · simp [rootV, rootB, may2, hgt2, lev, upL, atB]
  · simp [rootE, may2]
theorem ex_root3 (a b c : ByteArray) : rootV [a, b, c] = ByteArray.empty ∧ rootE [a, b, c] = 1 := by
  constructor
  · simp [rootV, may3]
  · simp [rootE, may3]
theorem ex_path (a b : ByteArray) : pathV [a, b] 1 = [leafS a] ∧ pathE [a, b] 1 = 0 := by
  have hk : pathOk [a, b] 1 = true := by simp [pathOk, may2, hasI]
  constructor
  · simp [pathV, hk, hgt2, pathB, sideB, lev, atB]
  · simp [pathE, hk]
theorem ex_path3 (a b c : ByteArray) : pathV [a, b, c] 0 = [] ∧ pathE [a, b, c] 0 = 1 := by
  have hk : pathOk [a, b, c] 0 = false := by simp [pathOk, may3]
  constructor
  · simp [pathV, hk]
  · simp [pathE, hk]
theorem ex_climb {a b : ByteArray} (ha : a.size ≤ 1000) : climbV 1 b [leafS a] = nodeS (leafS a) (leafS b) ∧ climbE 1 [leafS a] = 0 ∧ checkV (nodeS (leafS a) (leafS b)) 1 b [leafS a] = true := by
  have hs : (leafS a).size = 32 := sumF_size (by rw [leafT_size]; omega)
  have hk : climbOk 1 [leafS a] = true := by simp [climbOk, hasI, hs]
  have hv : climbV 1 b [leafS a] = nodeS (leafS a) (leafS b) := by
    rw [climbV, if_pos hk]
    simp [wayB, atB, nodeS, leafS]
  exact ⟨hv, by simp [climbE, hk], by simp [checkV, hk, hv]⟩
theorem ex_size {a b : ByteArray} : (nodeS (leafS a) (leafS b)).size = 32 := by
  have h1 := sumF_le (leafT a)
  have h2 := sumF_le (leafT b)
  exact sumF_size (by rw [nodeT_size]; unfold leafS; omega)
set_option maxRecDepth 100000 in
set_option maxHeartbeats 1000000 in
theorem roots_any (w : World) (hG : Rounds w) : Calls Tryd.prog 68 #[] w fun e w' => e = .returned (.bool true) ∧ Below w.heap.size w w' := by
  have HG := Lib.hid hG
  clear hG
  obtain ⟨ra, hra⟩ : ∃ r, leafS ⟨#[97]⟩ = r := ⟨_, rfl⟩
  obtain ⟨rb, hrb⟩ : ∃ r, leafS ⟨#[98]⟩ = r := ⟨_, rfl⟩
  obtain ⟨rr, hrr⟩ : ∃ r, nodeS ra rb = r := ⟨_, rfl⟩
  have s97 : (⟨#[97]⟩ : ByteArray).size = 1 := rfl
  have s98 : (⟨#[98]⟩ : ByteArray).size = 1 := rfl
  have s99 : (⟨#[99]⟩ : ByteArray).size = 1 := rfl
  have hl2 : ∀ s ∈ [(⟨#[97]⟩ : ByteArray), ⟨#[98]⟩], s.size ≤ 140737488351232 := by
    intro s hs
    simp only [List.mem_cons, List.not_mem_nil, or_false] at hs
    rcases hs with rfl | rfl <;> decide
  have hl3 : ∀ s ∈ [(⟨#[97]⟩ : ByteArray), ⟨#[98]⟩, ⟨#[99]⟩], s.size ≤ 140737488351232 := by
    intro s hs
    simp only [List.mem_cons, List.not_mem_nil, or_false] at hs
    rcases hs with rfl | rfl | rfl <;> decide
  have hsz : rr.size = 32 := by rw [← hrr, ← hra, ← hrb]; exact ex_size
  have HRoot : Hid (∀ (W : World) (A : Option Addr) (c : Nat), Rounds W → SlR encS 1 W W.heap.size A 2 [⟨#[97]⟩, ⟨#[98]⟩] → Calls Tryd.prog 60 #[.slice A 2 c] W fun e w' => e = .returned (.tuple #[.string rr, .int .i64 0]) ∧ Below W.heap.size W w') := Lib.hid (fun W A c h1 h2 => by
    have := troot_any _ A 2 c W h1 h2 (by omega) hl2
    rwa [(ex_root _ _).1, (ex_root _ _).2, hra, hrb, hrr] at this)
  have HRoot3 : Hid (∀ (W : World) (A : Option Addr) (c : Nat), Rounds W → SlR encS 1 W W.heap.size A 3 [⟨#[97]⟩, ⟨#[98]⟩, ⟨#[99]⟩] → Calls Tryd.prog 60 #[.slice A 3 c] W fun e w' => e = .returned (.tuple #[.string ByteArray.empty, .int .i64 1]) ∧ Below W.heap.size W w') := Lib.hid (fun W A c h1 h2 => by
    have := troot_any _ A 3 c W h1 h2 (by omega) hl3
    rwa [(ex_root3 _ _ _).1, (ex_root3 _ _ _).2] at this)
  have HPath : Hid (∀ (W : World) (A : Option Addr) (c : Nat), Rounds W → SlR encS 1 W W.heap.size A 2 [⟨#[97]⟩, ⟨#[98]⟩] → Calls Tryd.prog 62 #[.slice A 2 c, .int .i64 1] W fun e w' => Below W.heap.size W w' ∧ ∃ A c, e = .returned (.tuple #[.slice A 1 c, .int .i64 0]) ∧ Hid (SRow w' W.heap.size (.slice A 1 c) [ra])) := Lib.hid (fun W A c h1 h2 => by
    have := tpath_any _ A 2 c 1 W h1 h2 (by omega) hl2
    unfold PathPost at this
    rwa [(ex_path _ _).1, (ex_path _ _).2, hra] at this)
  have HPath3 : Hid (∀ (W : World) (A : Option Addr) (c : Nat), Rounds W → SlR encS 1 W W.heap.size A 3 [⟨#[97]⟩, ⟨#[98]⟩, ⟨#[99]⟩] → Calls Tryd.prog 62 #[.slice A 3 c, .int .i64 0] W fun e w' => Below W.heap.size W w' ∧ ∃ A c, e = .returned (.tuple #[.slice A 0 c, .int .i64 1]) ∧ Hid (SRow w' W.heap.size (.slice A 0 c) [])) := Lib.hid (fun W A c h1 h2 => by
    have := tpath_any _ A 3 c 0 W h1 h2 (by omega) hl3
    unfold PathPost at this
    rwa [(ex_path3 _ _ _).1, (ex_path3 _ _ _).2] at this)
  have hc := @ex_climb ⟨#[97]⟩ ⟨#[98]⟩ (by omega)
  rw [hra, hrb, hrr] at hc
  have HClimb : Hid (∀ (W : World) (A : Option Addr) (c : Nat), Rounds W → SlR encS 1 W W.heap.size A 1 [ra] → Calls Tryd.prog 69 #[.int .i64 1, .string ⟨#[98]⟩, .slice A 1 c] W fun e w' => e = .returned (.tuple #[.string rr, .int .i64 0]) ∧ Below W.heap.size W w') := Lib.hid (fun W A c h1 h2 => by
    have := climb_any 1 ⟨#[98]⟩ [ra] A 1 c W h1 h2 (by omega) (by omega)
    rwa [hc.1, hc.2.1] at this)
  have HCheck : Hid (∀ (W : World) (A : Option Addr) (c : Nat), Rounds W → SlR encS 1 W W.heap.size A 1 [ra] → Calls Tryd.prog 71 #[.string rr, .int .i64 1, .string ⟨#[98]⟩, .slice A 1 c] W fun e w' => e = .returned (.bool true) ∧ Below W.heap.size W w') := Lib.hid (fun W A c h1 h2 => by
    have := tcheck_any rr 1 ⟨#[98]⟩ [ra] A 1 c W h1 h2 (by omega) (by omega)
    rwa [hc.2.2] at this)
  have HLa : Hid (∀ W, Rounds W → Calls Tryd.prog 64 #[.string ⟨#[97]⟩] W fun r w' => r = .returned (.string ra) ∧ Below W.heap.size W w') := Lib.hid (fun W h => by rw [← hra]; exact leaf_any _ W h (by omega))
  have HLb : Hid (∀ W, Rounds W → Calls Tryd.prog 64 #[.string ⟨#[98]⟩] W fun r w' => r = .returned (.string rb) ∧ Below W.heap.size W w') := Lib.hid (fun W h => by rw [← hrb]; exact leaf_any _ W h (by omega))
  have ra1 : ra.size ≤ 32 := by rw [← hra]; exact sumF_le _
  have rb1 : rb.size ≤ 32 := by rw [← hrb]; exact sumF_le _
  have HNd : Hid (∀ W, Rounds W → Calls Tryd.prog 66 #[.string ra, .string rb] W fun r w' => r = .returned (.string rr) ∧ Below W.heap.size W w') := Lib.hid (fun W h => by rw [← hrr]; exact node_any ra rb W h (by omega) (by omega))
  have t32 : ((rr.size : Int) == 32) = true := by rw [hsz]; rfl
  clear hc hl2 hl3 hra hrb hrr s97 s98 s99 ra1 rb1 hsz
  go_enter Tryd.func68, Tryd.ntmps68
  go_wp2_with fail
  have hb0 : Below w.heap.size w (w.alloc (.cells #[.string ⟨#[97]⟩, .string ⟨#[98]⟩] 9)) := by go_grown
  have HL0 := Lib.hid (slr_strs [⟨#[97]⟩, ⟨#[98]⟩] (B := (w.alloc (.cells #[.string ⟨#[97]⟩, .string ⟨#[98]⟩] 9)).heap.size) (Blk.new w 9 #[.string ⟨#[97]⟩, .string ⟨#[98]⟩]) (by simp))
  refine (HRoot.out _ _ _ (rounds_of HG.out hb0) HL0.out).mono ?_
  rintro e w1 ⟨rfl, hb1⟩
  have hB1 := hb0.trans (hb1.mono hb0.size)
  have HL1 := Lib.hid ((HL0.out.below hb1).more hb1.size)
  clear HL0 hb0 hb1
  go_wp2_with fail
  refine (HPath.out _ _ _ (rounds_of HG.out hB1) HL1.out).mono ?_
  rintro e w2 ⟨hb2, A2, c2, rfl, HR2⟩
  have hB2 := hB1.trans (hb2.mono hB1.size)
  have HP2 := Lib.hid (srow_slr HR2.out rfl)
  clear HL1 HR2 hb2 hB1
  go_wp2_with fail
  refine (HClimb.out _ _ _ (rounds_of HG.out hB2) HP2.out).mono ?_
  rintro e w3 ⟨rfl, hb3⟩
  have hB3 := hB2.trans (hb3.mono hB2.size)
  have HP3 := Lib.hid ((HP2.out.below hb3).more hb3.size)
  clear HP2 hb3 hB2
  go_wp2_with fail
  have hz3 := hB3.size
  have hb4 : Below w.heap.size w (w3.alloc (.cells #[.string ⟨#[97]⟩, .string ⟨#[98]⟩, .string ⟨#[99]⟩] 9)) := Below.trans hB3 (by go_grown)
  have HL4 := Lib.hid (slr_strs [⟨#[97]⟩, ⟨#[98]⟩, ⟨#[99]⟩] (B := (w3.alloc (.cells #[.string ⟨#[97]⟩, .string ⟨#[98]⟩, .string ⟨#[99]⟩] 9)).heap.size) (Blk.new w3 9 #[.string ⟨#[97]⟩, .string ⟨#[98]⟩, .string ⟨#[99]⟩]) (by simp))
  have HP4 : Hid (SlR encS 1 (w3.alloc (.cells #[.string ⟨#[97]⟩, .string ⟨#[98]⟩, .string ⟨#[99]⟩] 9)) (w3.alloc (.cells #[.string ⟨#[97]⟩, .string ⟨#[98]⟩, .string ⟨#[99]⟩] 9)).heap.size A2 1 [ra]) := Lib.hid ((HP3.out.below (by go_grown)).more (by simp))
  refine (HRoot3.out _ _ _ (rounds_of HG.out hb4) HL4.out).mono ?_
  rintro e w5 ⟨rfl, hb5⟩
  have hB5 := hb4.trans (hb5.mono hb4.size)
  have HP5 := Lib.hid ((HP4.out.below hb5).more hb5.size)
  clear HL4 HP4 HP3 hb4 hb5 hB3
  go_wp2_with fail
  have hz5 := hB5.size
  have hb6 : Below w.heap.size w (w5.alloc (.cells #[.string ⟨#[97]⟩, .string ⟨#[98]⟩, .string ⟨#[99]⟩] 9)) := Below.trans hB5 (by go_grown)
  have HL6 := Lib.hid (slr_strs [⟨#[97]⟩, ⟨#[98]⟩, ⟨#[99]⟩] (B := (w5.alloc (.cells #[.string ⟨#[97]⟩, .string ⟨#[98]⟩, .string ⟨#[99]⟩] 9)).heap.size) (Blk.new w5 9 #[.string ⟨#[97]⟩, .string ⟨#[98]⟩, .string ⟨#[99]⟩]) (by simp))
  have HP6 : Hid (SlR encS 1 (w5.alloc (.cells #[.string ⟨#[97]⟩, .string ⟨#[98]⟩, .string ⟨#[99]⟩] 9)) (w5.alloc (.cells #[.string ⟨#[97]⟩, .string ⟨#[98]⟩, .string ⟨#[99]⟩] 9)).heap.size A2 1 [ra]) := Lib.hid ((HP5.out.below (by go_grown)).more (by simp))
  refine (HPath3.out _ _ _ (rounds_of HG.out hb6) HL6.out).mono ?_
  rintro e w7 ⟨hb7, A7, c7, rfl, HR7⟩
  have hB7 := hb6.trans (hb7.mono hb6.size)
  have HP7 := Lib.hid ((HP6.out.below hb7).more hb7.size)
  clear HL6 HP6 HP5 HR7 hb6 hb7 hB5
  go_wp2_with fail
  refine (HLa.out _ (rounds_of HG.out hB7)).mono ?_
  rintro e w8 ⟨rfl, hb8⟩
  have hB8 := hB7.trans (hb8.mono hB7.size)
  have HP8 := Lib.hid ((HP7.out.below hb8).more hb8.size)
  clear HP7 hb8 hB7
  go_wp2_with fail
  refine (HLb.out _ (rounds_of HG.out hB8)).mono ?_
  rintro e w9 ⟨rfl, hb9⟩
  have hB9 := hB8.trans (hb9.mono hB8.size)
  have HP9 := Lib.hid ((HP8.out.below hb9).more hb9.size)
  clear HP8 hb9 hB8
  go_wp2_with fail
  refine (HNd.out _ (rounds_of HG.out hB9)).mono ?_
  rintro e w10 ⟨rfl, hb10⟩
  have hB10 := hB9.trans (hb10.mono hB9.size)
  have HP10 := Lib.hid ((HP9.out.below hb10).more hb10.size)
  clear HP9 hb10 hB9
  go_wp2_with fail
  refine (HLa.out _ (rounds_of HG.out hB10)).mono ?_
  rintro e w11 ⟨rfl, hb11⟩
  have hB11 := hB10.trans (hb11.mono hB10.size)
  have HP11 := Lib.hid ((HP10.out.below hb11).more hb11.size)
  clear HP10 hb11 hB10
  go_wp2_with fail
  have hz11 := hB11.size
  have hb12 : Below w.heap.size w (w11.alloc (.cells #[.string ra] 9)) := Below.trans hB11 (by go_grown)
  have HL12 := Lib.hid (slr_strs [ra] (B := (w11.alloc (.cells #[.string ra] 9)).heap.size) (Blk.new w11 9 #[.string ra]) (by simp))
  have HP12 : Hid (SlR encS 1 (w11.alloc (.cells #[.string ra] 9)) (w11.alloc (.cells #[.string ra] 9)).heap.size A2 1 [ra]) := Lib.hid ((HP11.out.below (by go_grown)).more (by simp))
  refine (texts_any [ra] [ra] A2 (some ⟨w11.heap.size, 0, none⟩) 1 1 c2 1 _ HP12.out HL12.out (by omega) (by omega)).mono ?_
  rintro e w13 ⟨rfl, hb13⟩
  rw [textsB_self]
  have hB13 := hb12.trans (hb13.mono hb12.size)
  have HP13 := Lib.hid ((HP12.out.below hb13).more hb13.size)
  clear HL12 HP12 HP11 hb12 hb13 hB11
  go_wp2_with fail
  refine (HCheck.out _ _ _ (rounds_of HG.out hB13) HP13.out).mono ?_
  rintro e w14 ⟨rfl, hb14⟩
  have hB14 := hB13.trans (hb14.mono hB13.size)
  clear HP13 hb14 hB13
  go_wp2_with fail
  go_ret
  exact ⟨rfl, hB14⟩
end Go.Proofs.YtkaaicmadknjcaaDoor
