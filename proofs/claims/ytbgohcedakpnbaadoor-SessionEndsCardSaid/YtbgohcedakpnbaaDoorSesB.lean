/- session: Derive by any salt; Pair. -/
import Derived.Test.YtbgohcedakpnbaaDoorSesA
import Derived.Test.YtbgohcedakpnbaaDoorKeyA
set_option linter.unusedVariables false
namespace Go.Proofs.YtbgohcedakpnbaaDoor
open Go.RowKit
theorem mac_long (key s k : ByteArray) (w : World) (hG : Rounds w) (hlong : 64 < key.size) (hsz : key.size ≤ 140737488351232) (hk64 : k.size ≤ 64) (hs : s.size ≤ 1000000)
    (hsum : ∀ W, Rounds W → Calls Tryd.prog 97 #[.string key] W fun r w' => r = .returned (.string k) ∧ Below W.heap.size W w') :
    Calls Tryd.prog 80 #[.string key, .string s] w fun e w' => e = .returned (.string (sumS (overB 92 k ++ sumS (overB 54 k ++ s)))) ∧ Below w.heap.size w w' := by
  have HG := Lib.hid hG
  have HS := Lib.hid hs
  have HSUM := Lib.hid hsum
  have HO := Lib.hid (And.intro (overB_size (p := 92) hk64) (overB_size (p := 54) hk64))
  have hO1 : (overB 92 k).size ≤ 64 := by have := HO.out.1; omega
  have hO2 : (overB 54 k).size ≤ 64 := by have := HO.out.2; omega
  have h54 := fun W => over_any 54 k W hk64
  have h92 := fun W => over_any 92 k W hk64
  generalize overB 92 k = O at *
  generalize overB 54 k = I at *
  have H54 := Lib.hid h54
  have H92 := Lib.hid h92
  have HSI := Lib.hid (fun (W : World) (h : Rounds W) => sum_in (I ++ s) W (by rw [ByteArray.size_append]; have := HO.out.2; have := HS.out; omega) h)
  have hm32 := sumS_size (I ++ s)
  generalize hM : sumS (I ++ s) = M at *
  have HSO := Lib.hid (fun (W : World) (h : Rounds W) => sum_in (O ++ M) W (by rw [ByteArray.size_append]; have := HO.out.1; omega) h)
  generalize hT : sumS (O ++ M) = T at *
  have hm2 : M.size ≤ 32 := by omega
  clear hG h54 h92 hM hT hm32 hsum
  go_enter Tryd.func80, Tryd.ntmps80
  go_wp2_with fail
  refine (HSUM.out _ HG.out).mono ?_
  rintro e w0 ⟨rfl, hb0⟩
  go_wp2_with fail
  refine (H92.out _).mono ?_
  rintro e w1 ⟨rfl, hb1⟩
  have hB1 := hb0.trans (hb1.mono hb0.size)
  clear hb0 hb1
  go_wp2_with fail
  refine (H54.out _).mono ?_
  rintro e w2 ⟨rfl, hb2⟩
  have hB2 := hB1.trans (hb2.mono hB1.size)
  clear hB1 hb2
  go_wp2_with fail
  refine (HSI.out _ (rounds_of HG.out hB2)).mono ?_
  rintro e w3 ⟨rfl, hb3⟩
  have hB3 := hB2.trans (hb3.mono hB2.size)
  clear hB2 hb3
  go_wp2_with fail
  refine (HSO.out _ (rounds_of HG.out hB3)).mono ?_
  rintro e w4 ⟨rfl, hb4⟩
  have hB4 := hB3.trans (hb4.mono hB3.size)
  clear hB3 hb4
  go_wp2_with fail
  go_ret
  exact ⟨rfl, hB4⟩
theorem mac_some (key s : ByteArray) (hk : key.size ≤ 140737488351232) (hs : s.size ≤ 1000000) :
    ∃ M : ByteArray, M.size = 32 ∧ (key.size ≤ 1000000 → M = macB key s) ∧ ∀ w, Rounds w → Calls Tryd.prog 80 #[.string key, .string s] w fun e w' => e = .returned (.string M) ∧ Below w.heap.size w w' := by
  by_cases h1 : key.size ≤ 1000000
  · exact ⟨macB key s, macB_size _ _, fun _ => rfl, fun w hG => mac_any key s w hG h1 hs⟩
  · by_cases h2 : key.size ≤ 1000000000
    · exact ⟨_, sumS_size _, fun h => absurd h h1, fun w hG => mac_long key s (sumS key) w hG (by omega) hk (by rw [sumS_size]; omega) hs (fun W hW => sum_in key W h2 hW)⟩
    · exact ⟨_, sumS_size _, fun h => absurd h h1, fun w hG => mac_long key s ByteArray.empty w hG (by omega) hk (by decide) hs (fun W hW => sum_big key W (by omega) (by unfold maxLen; omega))⟩
def sessB : ByteArray := ⟨#[115, 101, 115, 115, 105, 111, 110]⟩
theorem derive_some (key salt : ByteArray) (hk : key.size ≤ 1000000) (hs : salt.size ≤ 140737488351232) :
    ∃ K : ByteArray, K.size = 32 ∧ (salt.size ≤ 1000000 → K = expB (macB salt key) sessB 32) ∧ ∀ w, Rounds w →
      Calls Tryd.prog 44 #[.string key, .string salt, .string sessB, .int .i64 32] w fun e w' => e = .returned (.tuple #[.string K, .int .i64 0]) ∧ Below w.heap.size w w' := by
  obtain ⟨M, hM, hMe, hMac⟩ := mac_some salt key hs hk
  refine ⟨expB M sessB 32, expB_size _ _ _, fun h => by rw [hMe h], fun w hG => ?_⟩
  have HG := Lib.hid hG
  have HM := Lib.hid hMac
  have H2 := Lib.hid (fun (W : World) (h : Rounds W) => kexp_in M sessB 32 W h (by omega) (by decide) (by omega) (by omega))
  clear hG hMac hMe hM
  generalize expB M sessB 32 = X at *
  unfold sessB at *
  go_enter Tryd.func44, Tryd.ntmps44
  go_wp2_with fail
  have hE : Calls Tryd.prog 63 #[.string salt, .string key] w fun e w' => e = .returned (.string M) ∧ Below w.heap.size w w' := by
    go_enter Tryd.func63, Tryd.ntmps63
    go_wp2_with fail
    refine (HM.out _ HG.out).mono ?_
    rintro e w1 ⟨rfl, hb1⟩
    go_wp2_with fail
    go_ret
    exact ⟨rfl, hb1⟩
  refine hE.mono ?_
  rintro e w1 ⟨rfl, hb1⟩
  go_wp2_with fail
  refine (H2.out _ (rounds_of HG.out hb1)).mono ?_
  rintro e w2 ⟨rfl, hb2⟩
  go_wp2_with fail
  go_ret2
  exact ⟨rfl, hb1.trans (hb2.mono hb1.size)⟩
end Go.Proofs.YtbgohcedakpnbaaDoor
/- session: Pair. -/
namespace Go.Proofs.YtbgohcedakpnbaaDoor
open Go.RowKit
/-- the cells of a session -/
def sesC (K : ByteArray) (side sent seen : Int) : Array Value := #[.string K, .int .i64 side, .int .i64 sent, .int .i64 seen]
theorem ses_load {W : World} {g : Nat} {K : ByteArray} {a b c : Int} (h : Blk W g 41 #[.string K, .int .i64 a, .int .i64 b, .int .i64 c]) : (loadVar 41 ⟨g, 0, none⟩).run Tryd.prog W = .ok (.agg #[.string K, .int .i64 a, .int .i64 b, .int .i64 c]) W :=
  run_loadVar_row (P := Tryd.prog) W g 41 41 #[.string K, .int .i64 a, .int .i64 b, .int .i64 c] (0, 0) _ h Tryd.underlying41 rfl (by kernel_rfl)
def setS (W : World) (g : Nat) (k : Value) (a b c : Value) : World := (((W.setCell ⟨g, 0, none⟩ k).setCell ⟨g, 1, none⟩ a).setCell ⟨g, 2, none⟩ b).setCell ⟨g, 3, none⟩ c
theorem ses_set {W : World} {g : Nat} {x y z u : Value} (h : Blk W g 41 #[x, y, z, u]) (k a b c : Value) :
    Blk ((((W.setCell ⟨g, 0, none⟩ k).setCell ⟨g, 1, none⟩ a).setCell ⟨g, 2, none⟩ b).setCell ⟨g, 3, none⟩ c) g 41 #[k, a, b, c] :=
  (((h.set_ 0 _).set_ 1 _).set_ 2 _).set_ 3 _
theorem ses_far {W : World} {g g2 : Nat} {t : TypeId} {X : Array Value} (h : Blk W g t X) (hne : g ≠ g2) (k a b c : Value) :
    Blk ((((W.setCell ⟨g2, 0, none⟩ k).setCell ⟨g2, 1, none⟩ a).setCell ⟨g2, 2, none⟩ b).setCell ⟨g2, 3, none⟩ c) g t X :=
  (((h.far (p := ⟨g2, 0, none⟩) hne k).far (p := ⟨g2, 1, none⟩) hne a).far (p := ⟨g2, 2, none⟩) hne b).far (p := ⟨g2, 3, none⟩) hne c
theorem ses_below {B : Nat} {w W : World} {g2 : Nat} (h : Below B w W) (hB : B ≤ g2) (k a b c : Value) :
    Below B w ((((W.setCell ⟨g2, 0, none⟩ k).setCell ⟨g2, 1, none⟩ a).setCell ⟨g2, 2, none⟩ b).setCell ⟨g2, 3, none⟩ c) :=
  (((h.setCell hB _).setCell hB _).setCell hB _).setCell hB _
set_option maxRecDepth 100000 in
set_option maxHeartbeats 800000 in
theorem end_any (K : ByteArray) (side : Int) (g : Nat) (w : World) (hB : Blk w g 9 #[.string K]) :
    Calls Tryd.prog 45 #[.int .i64 side, .pointer (some ⟨g, 0, none⟩)] w fun e w' => e = .returned (sesV K side 0 0) ∧ Below w.heap.size w w' := by
  have c0 := hB.cells 0 _ rfl
  simp only [List.getElem_toArray, List.getElem_cons_zero] at c0
  have hlt := hB.lt
  clear hB
  go_enter Tryd.func45, Tryd.ntmps45
  go_wp2_with (with_reducible refine end_at ?_)
  have hld := ses_load (Blk.new w 41 #[.string K, .int .i64 side, .int .i64 0, .int .i64 0])
  refine end_ret (v := sesV K side 0 0) (by simp [results, Tryd.results45, asAddr, hld, sesV]) rfl ⟨rfl, by go_grown⟩
/-- what Pair tells -/
def PairOut (key : ByteArray) (K : ByteArray) : Value := if key.size = 32 then .tuple #[sesV K 0 0 0, sesV K 1 0 0, .int .i64 0] else .tuple #[sesV ⟨#[]⟩ 0 0 0, sesV ⟨#[]⟩ 0 0 0, .int .i64 1]
set_option maxRecDepth 100000 in
set_option maxHeartbeats 800000 in
theorem pair_bad (key salt : ByteArray) (w : World) (h : key.size ≠ 32) :
    Calls Tryd.prog 24 #[.string key, .string salt] w fun e w' => e = .returned (.tuple #[sesV ⟨#[]⟩ 0 0 0, sesV ⟨#[]⟩ 0 0 0, .int .i64 1]) ∧ Below w.heap.size w w' := by
  have t1 : ((key.size : Int) != 32) = true := by simp; omega
  clear h
  go_enter Tryd.func24, Tryd.ntmps24
  go_wp2_with (with_reducible refine end_at ?_)
  have hl1 := ses_load ((Blk.new w 41 #[.string ⟨#[]⟩, .int .i64 0, .int .i64 0, .int .i64 0]).alloc (.cells #[.string ⟨#[]⟩, .int .i64 0, .int .i64 0, .int .i64 0] 41))
  have hl2 := ses_load (Blk.new_at (w := w.alloc (.cells #[.string ⟨#[]⟩, .int .i64 0, .int .i64 0, .int .i64 0] 41)) (g := w.heap.size + 1) (by simp) 41 #[.string ⟨#[]⟩, .int .i64 0, .int .i64 0, .int .i64 0])
  refine end_ret (v := .tuple #[sesV ⟨#[]⟩ 0 0 0, sesV ⟨#[]⟩ 0 0 0, .int .i64 1]) (by simp [results, Tryd.results24, asAddr, hl1, hl2, sesV]) rfl ⟨rfl, by go_grown⟩
set_option maxRecDepth 100000 in
set_option maxHeartbeats 800000 in
theorem pair_good (key salt K : ByteArray) (w : World) (h : key.size = 32) (hG : Rounds w)
    (hD : ∀ w, Rounds w → Calls Tryd.prog 44 #[.string key, .string salt, .string sessB, .int .i64 32] w fun e w' => e = .returned (.tuple #[.string K, .int .i64 0]) ∧ Below w.heap.size w w') :
    Calls Tryd.prog 24 #[.string key, .string salt] w fun e w' => e = .returned (.tuple #[sesV K 0 0 0, sesV K 1 0 0, .int .i64 0]) ∧ Below w.heap.size w w' := by
  have t1 : ((key.size : Int) != 32) = false := by simp; omega
  have HD := Lib.hid hD
  have HG := Lib.hid hG
  have hpos := hG.pos
  clear h hG hD
  unfold sessB at HD
  go_enter Tryd.func24, Tryd.ntmps24
  go_wp2_with fail
  refine (HD.out _ (HG.out.below (B := w.heap.size) (by go_grown) hpos)).mono ?_
  rintro e w1 ⟨rfl, hb1⟩
  have hB1 : Below w.heap.size w w1 := Below.trans (by go_grown) (hb1.mono (by simp; omega))
  have hR1 : Blk w1 w.heap.size 41 #[.string ⟨#[]⟩, .int .i64 0, .int .i64 0, .int .i64 0] := ((Blk.new w _ _).alloc _).below hb1 (by simp; omega)
  have hR2 : Blk w1 (w.heap.size + 1) 41 #[.string ⟨#[]⟩, .int .i64 0, .int .i64 0, .int .i64 0] := (Blk.new_at (by simp) _ _).below hb1 (by simp)
  have hz1 := hR2.lt
  have HR1 := Lib.hid hR1
  have HR2 := Lib.hid hR2
  clear hR1 hR2 hb1
  go_wp2_with fail
  refine (end_any K 0 w1.heap.size _ (Blk.new w1 _ _)).mono ?_
  rintro e w2 ⟨rfl, hb2⟩
  have hB2 : Below w.heap.size w w2 := hB1.trans (Below.trans (by go_grown) (hb2.mono (by simp; omega)))
  have hC2 : Blk w2 w1.heap.size 9 #[.string K] := (Blk.new w1 _ _).below hb2 (by simp)
  have HS1 := Lib.hid ((HR1.out.alloc (.cells #[.string K] 9)).below hb2 (by simp; omega))
  have HS2 := Lib.hid ((HR2.out.alloc (.cells #[.string K] 9)).below hb2 (by simp; omega))
  have hz2 := hB2.size
  clear hb2 HR1 HR2 hB1
  unfold sesV
  go_wp2_with fail
  refine (end_any K 1 w1.heap.size _ hC2).mono ?_
  rintro e w3 ⟨rfl, hb3⟩
  have hB3 : Below w.heap.size w w3 := hB2.trans (hb3.mono hz2)
  have HT1 := Lib.hid (HS1.out.below hb3 HS1.out.lt)
  have HT2 := Lib.hid (HS2.out.below hb3 HS2.out.lt)
  clear hb3 hB2 hC2 hz2 HS1 HS2 hz1
  have a0 := HT1.out.cells 0 _ rfl
  have a1 := HT1.out.cells 1 _ rfl
  have a2 := HT1.out.cells 2 _ rfl
  have a3 := HT1.out.cells 3 _ rfl
  have b0 := HT2.out.cells 0 _ rfl
  have b1 := HT2.out.cells 1 _ rfl
  have b2 := HT2.out.cells 2 _ rfl
  have b3 := HT2.out.cells 3 _ rfl
  have af := HT1.out.frozen
  have bf := HT2.out.frozen
  have l1 := HT1.out.lt
  have l2 := HT2.out.lt
  simp only [List.getElem_toArray, List.getElem_cons_zero, List.getElem_cons_succ] at a0 a1 a2 a3 b0 b1 b2 b3
  unfold sesV
  go_wp2_with (with_reducible refine end_at ?_)
  have hl1 := ses_load (ses_far (ses_set HT1.out (.string K) (.int .i64 0) (.int .i64 0) (.int .i64 0)) (show w.heap.size ≠ w.heap.size + 1 by omega) (.string K) (.int .i64 1) (.int .i64 0) (.int .i64 0))
  have hl2 := ses_load (ses_set (ses_far HT2.out (show w.heap.size + 1 ≠ w.heap.size by omega) (.string K) (.int .i64 0) (.int .i64 0) (.int .i64 0)) (.string K) (.int .i64 1) (.int .i64 0) (.int .i64 0))
  have hbE := ses_below (ses_below hB3 (Nat.le_refl _) (.string K) (.int .i64 0) (.int .i64 0) (.int .i64 0)) (show w.heap.size ≤ w.heap.size + 1 by omega) (.string K) (.int .i64 1) (.int .i64 0) (.int .i64 0)
  refine end_ret (v := .tuple #[sesV K 0 0 0, sesV K 1 0 0, .int .i64 0]) (by simp [results, Tryd.results24, asAddr, hl1, hl2, sesV]) rfl ⟨rfl, hbE⟩
end Go.Proofs.YtbgohcedakpnbaaDoor
