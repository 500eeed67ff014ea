/- tag: left. -/
import Derived.Test.YtpbbphjhjjpkjaaDoorTagB
set_option linter.unusedVariables false
namespace Go.Proofs.YtpbbphjhjjpkjaaDoor
open Go.RowKit
theorem mask26 (a : Nat) (ha : a < 9223372036854775808) : bits .and .i64 (a : Int) 67108863 = ((a % 67108864 : Nat) : Int) := by
  have := i64_and_nat a 67108863 ha (by omega)
  rw [show ((67108863 : Nat) : Int) = 67108863 from rfl] at this
  rw [this]
  have h2 : a &&& 67108863 = a % 67108864 := Nat.and_two_pow_sub_one_eq_mod a 26
  rw [h2]
/-- the boxes of left -/
def LeftAt (g : Nat) (L : List Nat) (W : World) : Prop := Row vN W g 63 L ∧ Blk W (g + 1) 63 Z5
theorem LeftAt.step {g : Nat} {L : List Nat} {W : World} (h : LeftAt g L W) (j v : Nat) : LeftAt g (L.set j v) (W.setCell ⟨g, j, none⟩ (.int .i64 v)) :=
  ⟨h.1.set_ j v, h.2.far (show g + 1 ≠ g by omega) _⟩
theorem carry_at {L : List Nat} (hL : L.length = 5) (hu : under 1152921504606846976 L) (i : Nat) (hi : i < 5) : (carryTo L i).1.getD i 0 < 1152921504606846976 ∧ (carryTo L i).2 < 34359738368 := by
  obtain ⟨h1, h2⟩ := carry_over L hL hu i (by omega)
  exact ⟨getD_lt h1 (by rw [carryTo_len, hL]; exact hi), h2⟩
set_option maxHeartbeats 1000000 in
theorem left_any (n : List Nat) (w : World) (hn : n.length = 5) (h1 : under 1152921504606846976 n) :
    Calls Tryd.prog 33 #[tnumV n] w fun e w' => e = .returned (tnumV (partsOf (valN n % primeP))) ∧ Below w.heap.size w w' := by
  have HN := Lib.hid (And.intro hn h1)
  obtain ⟨V, hV⟩ : ∃ V, partsOf (valN n % primeP) = V := ⟨_, rfl⟩
  rw [hV]
  have HV := Lib.hid hV
  clear hn h1 hV
  unfold tnumV
  go_enter Tryd.func33, Tryd.ntmps33
  go_wp2_with fail
  have h0 : Hid (LeftAt w.heap.size n ((w.alloc (.cells (n.map vN).toArray 63)).alloc (.cells #[.int .i64 0, .int .i64 0, .int .i64 0, .int .i64 0, .int .i64 0] 63))) := Lib.hid ⟨(Blk.new w _ _).alloc _, Blk.new_at (by simp) _ _⟩
  go_loopg [3] (valN n + 1) (fun gk ov wr => ∃ (L : List Nat) (o : Nat), ov = .int .i64 o ∧ Hid (gk = valN L + (if o = 0 then 0 else 1)) ∧ o ≤ 34359738368 ∧ Hid (L.length = 5 ∧ under 1152921504606846976 L ∧ valN L % primeP = valN n % primeP) ∧ Hid (o = 0 → small L) ∧ Hid (LeftAt w.heap.size L wr) ∧ Below w.heap.size w wr)
  case atStart => exact ⟨n, 1, rfl, Lib.hid rfl, by omega, Lib.hid ⟨HN.out.1, HN.out.2, rfl⟩, Lib.hid (fun h => by omega), h0, by go_grown⟩
  case round =>
    clear h0
    obtain ⟨L, o, rfl, HG, ho, HL, HS, HT, hB⟩ := hrel
    by_cases ho0 : o = 0
    · subst ho0
      obtain ⟨a, b, c, d, e, rfl⟩ := list5 HL.out.1
      have hsm := HS.out rfl
      have hv := HV.out
      rw [← HL.out.2.2] at hv
      obtain ⟨s1, s2, s3, s4, s5⟩ := under5 hsm
      have x0 := HT.out.1.cells 0 _ rfl
      have x1 := HT.out.1.cells 1 _ rfl
      have x2 := HT.out.1.cells 2 _ rfl
      have x3 := HT.out.1.cells 3 _ rfl
      have x4 := HT.out.1.cells 4 _ rfl
      simp only [List.map_cons, List.map_nil, List.getElem_toArray, List.getElem_cons_zero, List.getElem_cons_succ, vN] at x0 x1 x2 x3 x4
      by_cases q1 : 67108859 ≤ a
      · have t1 : decide (67108859 ≤ (a : Int)) = true := by simp; omega
        by_cases q2 : b = 67108863
        · have t2 : ((b : Int) == 67108863) = true := by simp; omega
          by_cases q3 : c = 67108863
          · have t3 : ((c : Int) == 67108863) = true := by simp; omega
            by_cases q4 : d = 67108863
            · have t4 : ((d : Int) == 67108863) = true := by simp; omega
              by_cases q5 : e = 67108863
              · have t5 : ((e : Int) == 67108863) = true := by simp; omega
                obtain ⟨z, hz⟩ : ∃ z, a - 67108859 = z := ⟨_, rfl⟩
                have HE : V = [z, 0, 0, 0, 0] := hv.symm.trans (by rw [left_yes a b c d e s1 q1 q2 q3 q4 q5, hz])
                have ez : (a : Int) - 67108859 = (z : Int) := by omega
                have HEE := Lib.hid HE
                clear HE hv hsm hz q1 q2 q3 q4 q5
                go_wp2_with (refine wpList_store_row rfl 63 (.tmp 2) (.tmp 58) rfl (w.heap.size + 1) #[.int .i64 z, .int .i64 0, .int .i64 0, .int .i64 0, .int .i64 0] rfl rfl 63 Z5 HT.out.2 (by kernel_rfl) (by rfl) (by simp [Value.oneCell']) ?_)
                refine bodyPost_ret (results_cell_row (Tryd.results33) _ _ (w.heap.size + 1) 63 #[.int .i64 z, .int .i64 0, .int .i64 0, .int .i64 0, .int .i64 0] (0, 0) (.array 5 3) rfl (setRow_heap _ _ _ _ _ _ HT.out.2) (by kernel_rfl) rfl (by kernel_rfl)) rfl ?_
                exact ⟨by rw [HEE.out]; rfl, below_setRow hB (by omega) _⟩
              · have t5 : ((e : Int) == 67108863) = false := by simp; omega
                have HE : V = [a, b, c, d, e] := hv.symm.trans (left_no a b c d e hsm (by omega))
                have HR : Hid (Row vN wr w.heap.size 63 V) := Lib.hid (by rw [HE]; exact HT.out.1)
                have HVL : Hid (V.length = 5) := Lib.hid (by rw [HE]; rfl)
                clear HE hv hsm q1 q2 q3 q4 q5
                go_wp2_with (first
                  | (refine wpList_load_row rfl 63 (.tmp 1) rfl w.heap.size rfl 63 (V.map vN).toArray (0, 0) (.array 5 3) HR.out (by kernel_rfl) rfl (num_info HVL.out) ?_)
                  | (refine wpList_store_row rfl 63 (.tmp 2) (.tmp 59) rfl (w.heap.size + 1) (V.map vN).toArray rfl rfl 63 Z5 HT.out.2 (num_info HVL.out) (by rw [num_size HVL.out]; rfl) (num_one _) ?_))
                refine bodyPost_ret (results_cell_row (Tryd.results33) _ _ (w.heap.size + 1) 63 (V.map vN).toArray (0, 0) (.array 5 3) rfl (setRow_heap _ _ _ _ _ _ HT.out.2) (by kernel_rfl) rfl (num_info HVL.out)) rfl ?_
                exact ⟨rfl, below_setRow hB (by omega) _⟩
            · have t4 : ((d : Int) == 67108863) = false := by simp; omega
              have HE : V = [a, b, c, d, e] := hv.symm.trans (left_no a b c d e hsm (by omega))
              have HR : Hid (Row vN wr w.heap.size 63 V) := Lib.hid (by rw [HE]; exact HT.out.1)
              have HVL : Hid (V.length = 5) := Lib.hid (by rw [HE]; rfl)
              clear HE hv hsm q1 q2 q3 q4
              go_wp2_with (first
                | (refine wpList_load_row rfl 63 (.tmp 1) rfl w.heap.size rfl 63 (V.map vN).toArray (0, 0) (.array 5 3) HR.out (by kernel_rfl) rfl (num_info HVL.out) ?_)
                | (refine wpList_store_row rfl 63 (.tmp 2) (.tmp 59) rfl (w.heap.size + 1) (V.map vN).toArray rfl rfl 63 Z5 HT.out.2 (num_info HVL.out) (by rw [num_size HVL.out]; rfl) (num_one _) ?_))
              refine bodyPost_ret (results_cell_row (Tryd.results33) _ _ (w.heap.size + 1) 63 (V.map vN).toArray (0, 0) (.array 5 3) rfl (setRow_heap _ _ _ _ _ _ HT.out.2) (by kernel_rfl) rfl (num_info HVL.out)) rfl ?_
              exact ⟨rfl, below_setRow hB (by omega) _⟩
          · have t3 : ((c : Int) == 67108863) = false := by simp; omega
            have HE : V = [a, b, c, d, e] := hv.symm.trans (left_no a b c d e hsm (by omega))
            have HR : Hid (Row vN wr w.heap.size 63 V) := Lib.hid (by rw [HE]; exact HT.out.1)
            have HVL : Hid (V.length = 5) := Lib.hid (by rw [HE]; rfl)
            clear HE hv hsm q1 q2 q3
            go_wp2_with (first
              | (refine wpList_load_row rfl 63 (.tmp 1) rfl w.heap.size rfl 63 (V.map vN).toArray (0, 0) (.array 5 3) HR.out (by kernel_rfl) rfl (num_info HVL.out) ?_)
              | (refine wpList_store_row rfl 63 (.tmp 2) (.tmp 59) rfl (w.heap.size + 1) (V.map vN).toArray rfl rfl 63 Z5 HT.out.2 (num_info HVL.out) (by rw [num_size HVL.out]; rfl) (num_one _) ?_))
            refine bodyPost_ret (results_cell_row (Tryd.results33) _ _ (w.heap.size + 1) 63 (V.map vN).toArray (0, 0) (.array 5 3) rfl (setRow_heap _ _ _ _ _ _ HT.out.2) (by kernel_rfl) rfl (num_info HVL.out)) rfl ?_
            exact ⟨rfl, below_setRow hB (by omega) _⟩
        · have t2 : ((b : Int) == 67108863) = false := by simp; omega
          have HE : V = [a, b, c, d, e] := hv.symm.trans (left_no a b c d e hsm (by omega))
          have HR : Hid (Row vN wr w.heap.size 63 V) := Lib.hid (by rw [HE]; exact HT.out.1)
          have HVL : Hid (V.length = 5) := Lib.hid (by rw [HE]; rfl)
          clear HE hv hsm q1 q2
          go_wp2_with (first
            | (refine wpList_load_row rfl 63 (.tmp 1) rfl w.heap.size rfl 63 (V.map vN).toArray (0, 0) (.array 5 3) HR.out (by kernel_rfl) rfl (num_info HVL.out) ?_)
            | (refine wpList_store_row rfl 63 (.tmp 2) (.tmp 59) rfl (w.heap.size + 1) (V.map vN).toArray rfl rfl 63 Z5 HT.out.2 (num_info HVL.out) (by rw [num_size HVL.out]; rfl) (num_one _) ?_))
          refine bodyPost_ret (results_cell_row (Tryd.results33) _ _ (w.heap.size + 1) 63 (V.map vN).toArray (0, 0) (.array 5 3) rfl (setRow_heap _ _ _ _ _ _ HT.out.2) (by kernel_rfl) rfl (num_info HVL.out)) rfl ?_
          exact ⟨rfl, below_setRow hB (by omega) _⟩
      · have t1 : decide (67108859 ≤ (a : Int)) = false := by simp; omega
        have HE : V = [a, b, c, d, e] := hv.symm.trans (left_no a b c d e hsm (by omega))
        have HR : Hid (Row vN wr w.heap.size 63 V) := Lib.hid (by rw [HE]; exact HT.out.1)
        have HVL : Hid (V.length = 5) := Lib.hid (by rw [HE]; rfl)
        clear HE hv hsm q1
        go_wp2_with (first
          | (refine wpList_load_row rfl 63 (.tmp 1) rfl w.heap.size rfl 63 (V.map vN).toArray (0, 0) (.array 5 3) HR.out (by kernel_rfl) rfl (num_info HVL.out) ?_)
          | (refine wpList_store_row rfl 63 (.tmp 2) (.tmp 59) rfl (w.heap.size + 1) (V.map vN).toArray rfl rfl 63 Z5 HT.out.2 (num_info HVL.out) (by rw [num_size HVL.out]; rfl) (num_one _) ?_))
        refine bodyPost_ret (results_cell_row (Tryd.results33) _ _ (w.heap.size + 1) 63 (V.map vN).toArray (0, 0) (.array 5 3) rfl (setRow_heap _ _ _ _ _ _ HT.out.2) (by kernel_rfl) rfl (num_info HVL.out)) rfl ?_
        exact ⟨rfl, below_setRow hB (by omega) _⟩
    · have t1 : ((o : Int) != 0) = true := by simp; omega
      have HO := Lib.hid ho0
      clear ho0
      obtain ⟨wo, rfl⟩ : ∃ wo : World, wo = wr := ⟨_, rfl⟩
      go_wp2_with fail
      clear t1
      go_loopw [3, 7] (fun ov iv wr => ∃ i q : Nat, i ≤ 5 ∧ iv = .int .i64 i ∧ ov = .int .i64 q ∧ Hid ((carryTo L i).2 = q) ∧ Hid (LeftAt w.heap.size (carryTo L i).1 wr) ∧ Below w.heap.size w wr) (fun _ iv _ => 5 - (intOf iv).toNat)
      case atStart => exact ⟨0, 0, by omega, rfl, rfl, rfl, HT, hB⟩
      case round =>
        clear HT hB
        obtain ⟨i, q, hi, rfl, rfl, HQ, HT, hB⟩ := hrel
        by_cases hlt : i < 5
        · obtain ⟨hx1, hq1⟩ := carry_at HL.out.1 HL.out.2.1 i hlt
          have hx := getD_at (L := (carryTo L i).1) (k := i) (by rw [carryTo_len, HL.out.1]; exact hlt)
          rw [HQ.out] at hq1
          have HS1 : (carryTo L (i + 1)).1 = (carryTo L i).1.set i (((carryTo L i).1.getD i 0 + q) % 67108864) := by rw [carryTo, HQ.out]
          have HS2 : (carryTo L (i + 1)).2 = ((carryTo L i).1.getD i 0 + q) / 67108864 := by rw [carryTo, HQ.out]
          generalize (carryTo L i).1.getD i 0 = x at hx hx1 HS1 HS2
          have hm := mask26 (x + q) (by omega)
          rw [show ((x + q : Nat) : Int) = (x : Int) + (q : Int) from by simp] at hm
          obtain ⟨y, hy⟩ : ∃ y, (x + q) % 67108864 = y := ⟨_, rfl⟩
          rw [hy] at hm HS1
          have cx := HT.out.1.get hx
          have fx := HT.out.1.free i
          simp only [vN] at cx
          have i0 : (0 : Int) ≤ i := by omega
          have i1 : (i : Int) < 5 := by omega
          have hgl := HT.out.1.lt
          have HSS := Lib.hid (And.intro HS1 HS2)
          clear hx HS1 HS2 hy
          go_wp2_with fail
          go_roundw
          case rel => exact ⟨i + 1, (x + q) / 67108864, by omega, by go_num, by go_num, Lib.hid HSS.out.2, Lib.hid (by have := (HT.out.step i (x + q)).step i y; rw [List.set_set, ← HSS.out.1] at this; exact this), by go_grown⟩
          case measure => simp [intOf]; omega
        · obtain rfl : i = 5 := by omega
          obtain ⟨hc1, hc2⟩ := carry_over L HL.out.1 HL.out.2.1 5 (by omega)
          rw [HQ.out] at hc2
          obtain ⟨r1, r2, r3⟩ := carry_round L HL.out.1
          have hcu := carried_under L HL.out.1 HL.out.2.1
          have hcl := carried_len L
          have hx := getD_at (L := (carryTo L 5).1) (k := 0) (by rw [carryTo_len, HL.out.1]; omega)
          have hx1 := getD_lt hc1 (k := 0) (by rw [carryTo_len, HL.out.1]; omega)
          have HS1 : carried L = (carryTo L 5).1.set 0 ((carryTo L 5).1.getD 0 0 + 5 * q) := by rw [carried, HQ.out]
          rw [HQ.out] at r2 r3
          generalize (carryTo L 5).1.getD 0 0 = x at hx hx1 HS1
          have cx := HT.out.1.get hx
          have fx := HT.out.1.free 0
          simp only [vN] at cx
          have hgl := HT.out.1.lt
          have HSS := Lib.hid (And.intro HS1 (And.intro r1 (And.intro r2 (And.intro r3 (And.intro hcu hcl)))))
          clear hx HS1 r1 r2 r3 hcu hcl hc1
          go_wp2_with fail
          go_roundg (valN (carried L) + (if q = 0 then 0 else 1))
          case measure =>
            have hr := HSS.out.2.2.1
            have hr3 := HSS.out.2.2.2.1
            have hg := HG.out
            rw [if_neg HO.out] at hg
            by_cases hq0 : q = 0
            · rw [if_pos hq0, (hr3 hq0).1]; omega
            · rw [if_neg hq0]
              have := hr (by omega)
              omega
          case rel => exact ⟨carried L, q, rfl, rfl, by omega, Lib.hid ⟨by rw [HSS.out.2.2.2.2.2]; exact HL.out.1, HSS.out.2.2.2.2.1, HSS.out.2.1.trans HL.out.2.2⟩, Lib.hid (fun h => (HSS.out.2.2.2.1 h).2), Lib.hid (by have := HT.out.step 0 (x + 5 * q); rw [← HSS.out.1] at this; exact this), by go_grown⟩
end Go.Proofs.YtpbbphjhjjpkjaaDoor
