/- the walk of TreeClimbs. -/
import Derived.Test.YtkaaicmadknjcaaDoorTreW
import Derived.Test.YtkaaicmadknjcaaDoorTreU
set_option linter.unusedVariables false
set_option linter.unusedSimpArgs false
namespace Go.Proofs.YtkaaicmadknjcaaDoor
open Go.RowKit
set_option maxHeartbeats 1000000 in
theorem tclimbs_in (root : ByteArray) (i : Int) (s : ByteArray) (path : List ByteArray) (A : Option Addr) (n c : Nat) (w : World) (hG : Rounds w) (hL : SlR encS 1 w w.heap.size A n path) (hn : n ≤ 1100) (hp : ∀ s ∈ path, s.size ≤ 200) (hbig : bigT path = false) (hr : root.size ≤ 100) (hs : s.size ≤ 300) :
    Calls Tryd.prog 19 #[.string root, .int .i64 i, .string s, .slice A n c] w fun e w' => e = .returned (.bool true) ∧ Below w.heap.size w w' := by
  have HL := Lib.hid hL
  have HG := Lib.hid hG
  have HBig := Lib.hid (bigt_any path A n c w hL (by omega))
  rw [hbig] at HBig
  have HPt := Lib.hid hp
  obtain ⟨V, hV⟩ : ∃ v, climbV i s path = v := ⟨_, rfl⟩
  obtain ⟨E, hE⟩ : ∃ v, climbE i path = v := ⟨_, rfl⟩
  obtain ⟨K, hK⟩ : ∃ v, checkV root i s path = v := ⟨_, rfl⟩
  have HCl : Hid (∀ (W : World), Rounds W → SlR encS 1 W W.heap.size A n path → Calls Tryd.prog 69 #[.int .i64 i, .string s, .slice A n c] W fun e w' => e = .returned (.tuple #[.string V, .int .i64 E]) ∧ Below W.heap.size W w') := Lib.hid (fun W h1 h2 => by rw [← hV, ← hE]; exact climb_any i s path A n c W h1 h2 (by omega) (by omega))
  have HRC : Hid (∀ (W : World), SlR encS 1 W W.heap.size A n path → Calls Tryd.prog 70 #[.int .i64 i, .string s, .slice A n c] W fun e w' => e = .returned (.tuple #[.string V, .int .i64 E]) ∧ Below W.heap.size W w') := Lib.hid (fun W h2 => by rw [← hV, ← hE]; exact rclimb_any i s path A n c W h2 (by omega) (by omega) hp)
  have HCk : Hid (∀ (W : World), Rounds W → SlR encS 1 W W.heap.size A n path → Calls Tryd.prog 71 #[.string root, .int .i64 i, .string s, .slice A n c] W fun e w' => e = .returned (.bool K) ∧ Below W.heap.size W w') := Lib.hid (fun W h1 h2 => by rw [← hK]; exact tcheck_any root i s path A n c W h1 h2 (by omega) (by omega))
  have HRK : Hid (∀ (W : World), SlR encS 1 W W.heap.size A n path → Calls Tryd.prog 72 #[.string root, .int .i64 i, .string s, .slice A n c] W fun e w' => e = .returned (.bool K) ∧ Below W.heap.size W w') := Lib.hid (fun W h2 => by rw [← hK]; exact rcheck_any root i s path A n c W h2 (by omega) (by omega) hp)
  have t1 : (E == E) = true := by simp
  have t2 : (K == K) = true := by simp
  clear hV hE hK hL hG hp hbig
  go_enter Tryd.func19, Tryd.ntmps19
  go_wp2_with fail
  refine HBig.out.mono ?_
  rintro e w0 ⟨rfl, rfl⟩
  clear HBig
  go_wp2_with fail
  refine (HCl.out _ HG.out HL.out).mono ?_
  rintro e w1 ⟨rfl, hB1⟩
  have HL1 := Lib.hid ((HL.out.below hB1).more hB1.size)
  clear HL HCl
  go_wp2_with fail
  refine (HRC.out _ HL1.out).mono ?_
  rintro e w2 ⟨rfl, hb2⟩
  have hB2 := hB1.trans (hb2.mono hB1.size)
  have HL2 := Lib.hid ((HL1.out.below hb2).more hb2.size)
  clear HL1 HRC hb2 hB1
  go_wp2_with fail
  refine (roots_any _ (rounds_of HG.out hB2)).mono ?_
  rintro e w3 ⟨rfl, hb3⟩
  have hB3 := hB2.trans (hb3.mono hB2.size)
  have HL3 := Lib.hid ((HL2.out.below hb3).more hb3.size)
  clear HL2 hb3 hB2
  go_wp2_with fail
  refine (HCk.out _ (rounds_of HG.out hB3) HL3.out).mono ?_
  rintro e w4 ⟨rfl, hb4⟩
  have hB4 := hB3.trans (hb4.mono hB3.size)
  have HL4 := Lib.hid ((HL3.out.below hb4).more hb4.size)
  clear HL3 hb4 hB3 HCk
  go_wp2_with fail
  refine (HRK.out _ HL4.out).mono ?_
  rintro e w5 ⟨rfl, hb5⟩
  have hB5 := hB4.trans (hb5.mono hB4.size)
  clear HL4 hb5 hB4 HRK
  go_wp2_with fail
  go_ret
  exact ⟨rfl, hB5⟩
theorem tclimbs_all (root : ByteArray) (i : Int) (s : ByteArray) (path : List ByteArray) (A : Option Addr) (n c : Nat) (w : World) (hG : Rounds w) (hL : SlR encS 1 w w.heap.size A n path) (hn : n ≤ 140737488351232) (hr : root.size ≤ 140737488351232) (hs : s.size ≤ 140737488351232) :
    Calls Tryd.prog 19 #[.string root, .int .i64 i, .string s, .slice A n c] w fun e w' => e = .returned (.bool true) ∧ Below w.heap.size w w' := by
  have HBig := Lib.hid (bigt_any path A n c w hL hn)
  by_cases h1 : 100 < root.size
  · clear hL hG
    go_enter Tryd.func19, Tryd.ntmps19
    go_wp2
    go_ret
    exact ⟨rfl, Below.refl _ _⟩
  · by_cases h2 : 300 < s.size
    · clear hL hG
      go_enter Tryd.func19, Tryd.ntmps19
      go_wp2
      go_ret
      exact ⟨rfl, Below.refl _ _⟩
    · cases hbig : bigT path
      · obtain ⟨q1, q2, q3⟩ := bigT_no hbig
        exact tclimbs_in root i s path A n c w hG hL (by rw [← hL.1]; exact q2) q3 hbig (by omega) (by omega)
      · rw [hbig] at HBig
        clear hL hG hbig
        go_enter Tryd.func19, Tryd.ntmps19
        go_wp2_with fail
        refine HBig.out.mono ?_
        rintro e w0 ⟨rfl, rfl⟩
        go_wp2_with fail
        go_ret
        exact ⟨rfl, Below.refl _ _⟩
end Go.Proofs.YtkaaicmadknjcaaDoor
