/- the reference's Step at whatever state; its Sum. -/
import Derived.Test.YtkaaicmadknjcaaDoorRefG
import Derived.Test.YtkaaicmadknjcaaDoorDigE
import Derived.Test.YtkaaicmadknjcaaDoorOrder
set_option linter.unusedVariables false
set_option linter.unusedSimpArgs false
namespace Go.Proofs.YtkaaicmadknjcaaDoor
open Go.RowKit
theorem rstep_good (L : List Nat) (s : ByteArray) (w : World) (hs : s.size = 64) (hL : State L) :
    Calls Tryd.prog 23 #[stV (ints L), .string s] w fun r w' => r = .returned (.tuple #[stV (ints (stepL L s)), .bool true]) ∧ Below w.heap.size w w' := by
  obtain ⟨hl, hw⟩ := hL
  obtain ⟨a, b, c, d, e, f, g, i, rfl⟩ := list8 hl
  exact rstep_in a b c d e f g i s w hs hw
set_option maxHeartbeats 400000 in
set_option maxRecDepth 100000 in
theorem rstep_bad (L : List Int) (s : ByteArray) (w : World) (hl : L.length = 8) (hb : L.all isB = false ∨ s.size ≠ 64) :
    Calls Tryd.prog 23 #[stV L, .string s] w fun r w' => r = .returned (.tuple #[stV zero8, .bool false]) ∧ Below w.heap.size w w' := by
  obtain ⟨a, b, c, d, e, f, g, i, rfl⟩ := list8 hl
  obtain ⟨t, ht⟩ : ∃ t, [a, b, c, d, e, f, g, i].all isB = t := ⟨_, rfl⟩
  have HT := Lib.hid ht
  rw [ht] at hb
  clear ht hl
  unfold stV zero8
  simp only [List.map_cons, List.map_nil, vI]
  cases t
  · clear hb
    go_enter Tryd.func23, Tryd.ntmps23
    go_wp2_with fail
    refine (rall_any [a, b, c, d, e, f, g, i] _ 8 8 _ (slrI ((Blk.new w _ _).alloc _) (by simp; omega)) (by omega) (by omega)).mono ?_
    rintro r w1 ⟨rfl, rfl⟩
    rw [HT.out]
    go_wp2
    refine bodyPost_ret (v := .tuple #[.agg #[.int .i64 0, .int .i64 0, .int .i64 0, .int .i64 0, .int .i64 0, .int .i64 0, .int .i64 0, .int .i64 0], .bool false]) (by simp [results, Tryd.results23, go_sem]) rfl ⟨rfl, by go_grown⟩
  · have hne : s.size ≠ 64 := by simpa using hb
    have t1 : ((s.size : Int) != 64) = true := by simp; omega
    clear hb hne
    go_enter Tryd.func23, Tryd.ntmps23
    go_wp2_with fail
    refine (rall_any [a, b, c, d, e, f, g, i] _ 8 8 _ (slrI ((Blk.new w _ _).alloc _) (by simp; omega)) (by omega) (by omega)).mono ?_
    rintro r w1 ⟨rfl, rfl⟩
    rw [HT.out]
    go_wp2
    refine bodyPost_ret (v := .tuple #[.agg #[.int .i64 0, .int .i64 0, .int .i64 0, .int .i64 0, .int .i64 0, .int .i64 0, .int .i64 0, .int .i64 0], .bool false]) (by simp [results, Tryd.results23, go_sem]) rfl ⟨rfl, by go_grown⟩
theorem rstep_st (L : List Nat) (s : ByteArray) (w : World) (hs : s.size = 64) (hL : State L) :
    Calls Tryd.prog 23 #[.agg ((ints L).map vI).toArray, .string s] w fun r w' => r = .returned (.tuple #[.agg ((ints (stepL L s)).map vI).toArray, .bool true]) ∧ Below w.heap.size w w' := rstep_good L s w hs hL
theorem St.keep {w w' : World} {g : Nat} {L : List Nat} (h : St w g L) (hb : Below w.heap.size w w') : St w' g L := Blk.below h hb (Blk.lt h)
set_option maxHeartbeats 1000000 in
set_option maxRecDepth 100000 in
theorem rsum_str (s : ByteArray) (w : World) (hs : s.size ≤ 1000000) :
    Calls Tryd.prog 30 #[.string s] w fun r w' => r = .returned (.string (sumS s)) ∧ Below w.heap.size w w' := by
  have HS := Lib.hid hs
  have hp := pad_bounds s.size
  have hpw := pad_whole s.size
  obtain ⟨b, hb⟩ : ∃ b, padB s.size = b := ⟨_, rfl⟩
  rw [hb] at hp hpw
  have hsum : s.size + b.size ≤ 1000100 := by omega
  have HP := Lib.hid (And.intro hb (And.intro hp hpw))
  obtain ⟨t, ht⟩ : ∃ t, s ++ b = t := ⟨_, rfl⟩
  have hts : t.size = s.size + b.size := by rw [← ht, ByteArray.size_append]
  have ht64 : t.size % 64 = 0 := by omega
  have htl : t.size ≤ 1000100 := by omega
  have HT := Lib.hid (And.intro ht (And.intro hts ht64))
  clear hs hp hpw hb ht hts ht64
  go_enter Tryd.func30, Tryd.ntmps30
  go_wp2_with fail
  refine (rpad_in s.size _ (by have := HS.out; omega)).mono ?_
  rintro e w1 ⟨rfl, hb1⟩
  rw [HP.out.1]
  go_wp2_with fail
  refine (rstart_any _).mono ?_
  rintro e w2 ⟨rfl, hb2⟩
  have hB2 := hb1.trans (hb2.mono hb1.size)
  clear hb1 hb2
  go_wp2_with (refine wpList_store_row rfl 22 (.tmp 6) (.tmp 21) rfl w2.heap.size ((ints startL).map vI).toArray rfl rfl 22 #[.int .i64 0, .int .i64 0, .int .i64 0, .int .i64 0, .int .i64 0, .int .i64 0, .int .i64 0, .int .i64 0] (Blk.new _ _ _) (info8 startL_state) (by rw [st_size startL_state]; rfl) (st_one _) ?_; rw [World.setRow_alloc_new])
  rw [HT.out.1]
  have hsz2 := hB2.size
  have hst0 : Hid (St (w2.alloc (.cells ((ints startL).map vI).toArray 22)) w2.heap.size (foldB startL t 0)) := Blk.new _ _ _
  go_loopw [7] (fun v wr => ∃ k i : Nat, v = .int .i64 i ∧ Hid (i = 64 * k) ∧ i ≤ t.size ∧ Hid (St wr w2.heap.size (foldB startL t k)) ∧ Below w2.heap.size w2 wr) (fun v _ => t.size - (intOf v).toNat)
  case atStart => exact ⟨0, 0, rfl, rfl, by omega, hst0, by go_grown⟩
  case round =>
    clear hst0
    obtain ⟨k, i, rfl, HI, hi, HX, hBr⟩ := hrel
    have hsr := hBr.size
    by_cases hlt : i < t.size
    · have hi64 : i + 64 ≤ t.size := by have := HI.out; have := HT.out.2.2; omega
      have HC : (t.extract i (i + 64)).size = 64 := by rw [size_extract]; omega
      have HN : foldB startL t (k + 1) = stepL (foldB startL t k) (t.extract i (i + 64)) := by rw [foldB, HI.out]
      have hst := foldB_state startL_state t k
      obtain ⟨L, hL⟩ : ∃ L, foldB startL t k = L := ⟨_, rfl⟩
      obtain ⟨q, hq⟩ : ∃ q, t.extract i (i + 64) = q := ⟨_, rfl⟩
      rw [hL] at hst HN HX
      rw [hq] at HC HN
      replace HC := Lib.hid HC
      replace HN := Lib.hid HN
      have HST := Lib.hid hst
      have HNS := Lib.hid (stepL_state L q)
      clear hst hL
      have s0 : (0 : Int) ≤ (i : Int) := by omega
      have s1 : (i : Int) ≤ (i : Int) + 64 := by omega
      have s2 : (0 : Int) ≤ (i : Int) + 64 := by omega
      have s3 : (i : Int) + 64 ≤ (t.size : Int) := by omega
      have s4 : ((i : Int) + 64).toNat = i + 64 := by omega
      have s5 : IntKind.i64.wrap ((i : Int) + 64) = (i : Int) + 64 := IntWalk.i64_in _ (by omega)
      go_wp2_with fail
      refine wp_region_held_drew (S := fun w' => St w' w2.heap.size L) (by kernel_rfl) HX.out (fun hHeld => ?_)
      -- region 7
      refine wpAnyH_take (i := 0) (v := .agg ((ints L).map vI).toArray) rfl (by kernel_rfl) (by kernel_rfl) (by kernel_rfl) (fun _ _ _ h => h) (yields_row 22 (.tmp 6) rfl rfl w2.heap.size rfl 22 _ (.array 8 3) (by kernel_rfl) rfl (info8 HST.out) (fun _ h => h)) hHeld ?rest1
      simp only [Act.put, List.setIfInBounds_toArray, List.set_cons_zero, List.set_cons_succ]
      refine wpAnyH_take (i := 1) (v := ?v2) rfl (by kernel_rfl) (by kernel_rfl) (by kernel_rfl) (fun _ _ _ h => h) (Or.inl ⟨by rfl, ?hy2⟩) hHeld ?rest2
      case hy2 => (intro w hSw; clear hSw; go_simp; try with_reducible rfl)
      try simp only [Act.put, List.setIfInBounds_toArray, List.set_cons_zero, List.set_cons_succ]
      refine wpAnyH_take (i := 2) (v := ?v3) rfl (by kernel_rfl) (by kernel_rfl) (by kernel_rfl) (fun _ _ _ h => h) (Or.inl ⟨by rfl, ?hy3⟩) hHeld ?rest3
      case hy3 => (intro w hSw; clear hSw; go_simp; try with_reducible rfl)
      try simp only [Act.put, List.setIfInBounds_toArray, List.set_cons_zero, List.set_cons_succ]
      refine wpAnyH_take (i := 3) (v := ?v4) rfl (by kernel_rfl) (by kernel_rfl) (by kernel_rfl) (fun _ _ _ h => h) (Or.inl ⟨by rfl, ?hy4⟩) hHeld ?rest4
      case hy4 => (intro w hSw; clear hSw; go_simp; try with_reducible rfl)
      try simp only [Act.put, List.setIfInBounds_toArray, List.set_cons_zero, List.set_cons_succ]
      refine wpAnyH_take (i := 4) (v := ?v5) rfl (by kernel_rfl) (by kernel_rfl) (by kernel_rfl) (fun _ _ _ h => h) (Or.inl ⟨by rfl, ?hy5⟩) hHeld ?rest5
      case hy5 => (intro w hSw; clear hSw; go_simp; try with_reducible rfl)
      try simp only [Act.put, List.setIfInBounds_toArray, List.set_cons_zero, List.set_cons_succ]
      refine wpAnyH_take (i := 5) (v := ?v6) rfl (by kernel_rfl) (by kernel_rfl) (by kernel_rfl) (fun _ _ _ h => h) (Or.inl ⟨by rfl, ?hy6⟩) hHeld ?rest6
      case hy6 => (intro w hSw; clear hSw; go_simp; try with_reducible rfl)
      try simp only [Act.put, List.setIfInBounds_toArray, List.set_cons_zero, List.set_cons_succ]
      refine wpAnyH_ready (rs := [6, 10]) (by kernel_rfl) (by simp) ?_
      refine AllReadyH.cons rfl (fun K hK => ?_) ?_
      · clear hHeld
        go_simp
        with_reducible refine (rstep_st L q _ HC.out HST.out).mono ?_
        rintro r w3 ⟨rfl, hb3⟩
        have hb3' : Below wr.heap.size wr w3 := Below.trans (by go_grown) (hb3.mono (by simp))
        have hs3 := hb3'.size
        have hn3 := hb3
        clear hb3
        go_simp
        refine hK.out _ _ (St.keep HX.out (by go_grown)) (fun hHeld => ?_)
        clear hK K
        try simp only [Act.put, List.setIfInBounds_toArray, List.set_cons_zero, List.set_cons_succ]
        refine wpAnyH_take (i := 7) (v := ?v7) rfl (by kernel_rfl) (by kernel_rfl) (by kernel_rfl) (fun _ _ _ h => h) (Or.inl ⟨by rfl, ?hy7⟩) hHeld ?rest7
        case hy7 => (intro w hSw; clear hSw; go_simp; try with_reducible rfl)
        try simp only [Act.put, List.setIfInBounds_toArray, List.set_cons_zero, List.set_cons_succ]
        refine wpAnyH_take (i := 8) (v := ?v8) rfl (by kernel_rfl) (by kernel_rfl) (by kernel_rfl) (fun _ _ _ h => h) (Or.inl ⟨by rfl, ?hy8⟩) hHeld ?rest8
        case hy8 => (intro w hSw; clear hSw; go_simp; try with_reducible rfl)
        try simp only [Act.put, List.setIfInBounds_toArray, List.set_cons_zero, List.set_cons_succ]
        refine wpAnyH_take (i := 9) (v := ?v9) rfl (by kernel_rfl) (by kernel_rfl) (by kernel_rfl) (fun _ _ _ h => h) (Or.inl ⟨by rfl, ?hy9⟩) hHeld ?rest9
        case hy9 => (intro w hSw; clear hSw; go_simp; try with_reducible rfl)
        try simp only [Act.put, List.setIfInBounds_toArray, List.set_cons_zero, List.set_cons_succ]
        refine wpAnyH_ready (rs := [10]) (by kernel_rfl) (by simp) ?_
        refine AllReadyH.cons rfl (fun K hK => ?_) AllReadyH.nil
        clear hHeld
        go_simp
        refine hK.out _ _ (St.keep HX.out (by go_grown)) (fun hHeld => ?_)
        clear hK K
        try simp only [Act.put, List.setIfInBounds_toArray, List.set_cons_zero, List.set_cons_succ]
        refine wpAnyH_ready (rs := [11]) (by kernel_rfl) (by simp) ?_
        refine AllReadyH.cons rfl (fun K hK => ?_) AllReadyH.nil
        clear hHeld
        rw [if_pos (by rfl)]
        refine wp_store_row 22 (.tmp 8) (.tmp 36) rfl w3.heap.size ((ints (stepL L q)).map vI).toArray rfl rfl 22 #[.int .i64 0, .int .i64 0, .int .i64 0, .int .i64 0, .int .i64 0, .int .i64 0, .int .i64 0, .int .i64 0] (Blk.new _ _ _) (info8 HNS.out) (by rw [st_size HNS.out]; rfl) (st_one _) ?_
        rw [World.setRow_alloc_new]
        have hbW : Below wr.heap.size wr (w3.alloc (.cells ((ints (stepL L q)).map vI).toArray 22)) := by go_grown
        have hblk : Blk (w3.alloc (.cells ((ints (stepL L q)).map vI).toArray 22)) w3.heap.size 22 ((ints (stepL L q)).map vI).toArray := Blk.new _ _ _
        refine hK.out _ _ (St.keep HX.out hbW) (fun hHeld => ?_)
        clear hK K
        try simp only [Act.put, List.setIfInBounds_toArray, List.set_cons_zero, List.set_cons_succ]
        refine wpAnyH_ready (rs := [12]) (by kernel_rfl) (by simp) ?_
        refine AllReadyH.cons rfl (fun K hK => ?_) AllReadyH.nil
        clear hHeld
        go_simp
        refine hK.out _ _ (St.keep HX.out hbW) (fun hHeld => ?_)
        clear hK K
        try simp only [Act.put, List.setIfInBounds_toArray, List.set_cons_zero, List.set_cons_succ]
        refine wpAnyH_done (by kernel_rfl) ?_ _
        go_wp2_with (first
          | (refine wpList_load_row rfl 22 (.tmp 8) rfl (w3.heap.size) rfl 22 ((ints (stepL L q)).map vI).toArray (0, 0) (.array 8 3) hblk (by kernel_rfl) rfl (info8 HNS.out) ?_)
          | (refine wpList_store_row rfl 22 (.tmp 6) (.tmp 38) rfl w2.heap.size ((ints (stepL L q)).map vI).toArray rfl rfl 22 ((ints L).map vI).toArray (St.keep HX.out hbW) (info8 HNS.out) (by rw [st_size HST.out, st_size HNS.out]) (st_one _) ?_))
        go_roundw
        case rel => exact ⟨k + 1, i + 64, by go_num, Lib.hid (by rw [HI.out]; omega), hi64, Lib.hid (by rw [HN.out]; exact setRow_heap _ _ _ _ _ _ (St.keep HX.out hbW)), below_setRow (hBr.trans (hbW.mono hsr)) (Nat.le_refl _) _⟩
        case measure => simp [intOf]; omega
      · refine AllReadyH.cons rfl (fun K hK => ?_) AllReadyH.nil
        clear hHeld
        go_simp
        refine hK.out _ _ (St.keep HX.out (by go_grown)) (fun hHeld => ?_)
        clear hK K
        try simp only [Act.put, List.setIfInBounds_toArray, List.set_cons_zero, List.set_cons_succ]
        refine wpAnyH_ready (rs := [6]) (by kernel_rfl) (by simp) ?_
        refine AllReadyH.cons rfl (fun K hK => ?_) AllReadyH.nil
        clear hHeld
        go_simp
        with_reducible refine (rstep_st L q _ HC.out HST.out).mono ?_
        rintro r w3 ⟨rfl, hb3⟩
        have hb3' : Below wr.heap.size wr w3 := Below.trans (by go_grown) (hb3.mono (by simp))
        have hs3 := hb3'.size
        have hn3 := hb3
        clear hb3
        go_simp
        refine hK.out _ _ (St.keep HX.out (by go_grown)) (fun hHeld => ?_)
        clear hK K
        try simp only [Act.put, List.setIfInBounds_toArray, List.set_cons_zero, List.set_cons_succ]
        refine wpAnyH_take (i := 7) (v := ?v10) rfl (by kernel_rfl) (by kernel_rfl) (by kernel_rfl) (fun _ _ _ h => h) (Or.inl ⟨by rfl, ?hy10⟩) hHeld ?rest10
        case hy10 => (intro w hSw; clear hSw; go_simp; try with_reducible rfl)
        try simp only [Act.put, List.setIfInBounds_toArray, List.set_cons_zero, List.set_cons_succ]
        refine wpAnyH_take (i := 8) (v := ?v11) rfl (by kernel_rfl) (by kernel_rfl) (by kernel_rfl) (fun _ _ _ h => h) (Or.inl ⟨by rfl, ?hy11⟩) hHeld ?rest11
        case hy11 => (intro w hSw; clear hSw; go_simp; try with_reducible rfl)
        try simp only [Act.put, List.setIfInBounds_toArray, List.set_cons_zero, List.set_cons_succ]
        refine wpAnyH_take (i := 9) (v := ?v12) rfl (by kernel_rfl) (by kernel_rfl) (by kernel_rfl) (fun _ _ _ h => h) (Or.inl ⟨by rfl, ?hy12⟩) hHeld ?rest12
        case hy12 => (intro w hSw; clear hSw; go_simp; try with_reducible rfl)
        try simp only [Act.put, List.setIfInBounds_toArray, List.set_cons_zero, List.set_cons_succ]
        refine wpAnyH_ready (rs := [11]) (by kernel_rfl) (by simp) ?_
        refine AllReadyH.cons rfl (fun K hK => ?_) AllReadyH.nil
        clear hHeld
        rw [if_pos (by rfl)]
        refine wp_store_row 22 (.tmp 8) (.tmp 36) rfl wr.heap.size ((ints (stepL L q)).map vI).toArray rfl rfl 22 #[.int .i64 0, .int .i64 0, .int .i64 0, .int .i64 0, .int .i64 0, .int .i64 0, .int .i64 0, .int .i64 0] ((hn3.block wr.heap.size (by simp)).trans (heap_alloc_new wr.drew _)) (info8 HNS.out) (by rw [st_size HNS.out]; rfl) (st_one _) ?_
        have hbW : Below wr.heap.size wr (w3.setRow wr.heap.size ((ints (stepL L q)).map vI).toArray) := below_setRow hb3' (Nat.le_refl _) _
        have hblk : Blk (w3.setRow wr.heap.size ((ints (stepL L q)).map vI).toArray) wr.heap.size 22 ((ints (stepL L q)).map vI).toArray := setRow_heap _ _ _ _ _ _ ((hn3.block wr.heap.size (by simp)).trans (heap_alloc_new wr.drew _))
        refine hK.out _ _ (St.keep HX.out hbW) (fun hHeld => ?_)
        clear hK K
        try simp only [Act.put, List.setIfInBounds_toArray, List.set_cons_zero, List.set_cons_succ]
        refine wpAnyH_ready (rs := [12]) (by kernel_rfl) (by simp) ?_
        refine AllReadyH.cons rfl (fun K hK => ?_) AllReadyH.nil
        clear hHeld
        go_simp
        refine hK.out _ _ (St.keep HX.out hbW) (fun hHeld => ?_)
        clear hK K
        try simp only [Act.put, List.setIfInBounds_toArray, List.set_cons_zero, List.set_cons_succ]
        refine wpAnyH_done (by kernel_rfl) ?_ _
        go_wp2_with (first
          | (refine wpList_load_row rfl 22 (.tmp 8) rfl (wr.heap.size) rfl 22 ((ints (stepL L q)).map vI).toArray (0, 0) (.array 8 3) hblk (by kernel_rfl) rfl (info8 HNS.out) ?_)
          | (refine wpList_store_row rfl 22 (.tmp 6) (.tmp 38) rfl w2.heap.size ((ints (stepL L q)).map vI).toArray rfl rfl 22 ((ints L).map vI).toArray (St.keep HX.out hbW) (info8 HNS.out) (by rw [st_size HST.out, st_size HNS.out]) (st_one _) ?_))
        go_roundw
        case rel => exact ⟨k + 1, i + 64, by go_num, Lib.hid (by rw [HI.out]; omega), hi64, Lib.hid (by rw [HN.out]; exact setRow_heap _ _ _ _ _ _ (St.keep HX.out hbW)), below_setRow (hBr.trans (hbW.mono hsr)) (Nat.le_refl _) _⟩
        case measure => simp [intOf]; omega
      -- region 7 ends
    · obtain rfl : i = t.size := by omega
      have hk : k = t.size / 64 := by have := HI.out; omega
      have hX := HX.out
      rw [hk] at hX
      have hst := foldB_state startL_state t (t.size / 64)
      have hsl := slr_newT (B := wr.heap.size) (foldB startL t (t.size / 64)) hX (by have := Blk.lt hX; exact this)
      rw [hst.1] at hsl
      have HSL := Lib.hid (And.intro hsl hst.2)
      have HV : Hid (joinW (foldB startL t (t.size / 64)) true = sumS s) := by
        refine Lib.hid ?_
        rw [sumS, stateS, HP.out.1, HT.out.1, HT.out.2.1]
      have hBw := hB2.trans (hBr.mono hB2.size)
      clear hX hst hsl hk HI
      go_wp2_with fail
      refine (rjoin_any (foldB startL t (t.size / 64)) _ 8 8 wr HSL.out.1 (by omega) HSL.out.2 (by omega)).mono ?_
      rintro e W1 ⟨rfl, hb1⟩
      rw [HV.out]
      go_wp2_with fail
      go_ret
      exact ⟨rfl, hBw.trans (hb1.mono hBw.size)⟩
end Go.Proofs.YtkaaicmadknjcaaDoor
