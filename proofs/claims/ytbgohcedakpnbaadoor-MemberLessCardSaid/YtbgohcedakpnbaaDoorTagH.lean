/- tag: Step. -/
import Derived.Test.YtbgohcedakpnbaaDoorTagG
import Derived.Test.YtbgohcedakpnbaaDoorOrder
set_option linter.unusedVariables false
set_option linter.unusedSimpArgs false
namespace Go.Proofs.YtbgohcedakpnbaaDoor
open Go.RowKit
theorem parts_under (V : Nat) : under 67108864 (partsOf V) := by
  intro x hx
  obtain ⟨i, _, rfl⟩ := List.mem_map.1 hx
  exact Nat.mod_lt _ (by omega)
theorem part_lt (s : ByteArray) (h : s.size ≤ 16) : valD (bytesN s ++ [1]) < 1361129467683753853853498429727072845824 := by
  rw [valD_snoc, bytesN_len, Nat.one_mul]
  have h1 := valD_lt (bytesN s) (bytesN_lt s)
  rw [bytesN_len] at h1
  have h2 : 256 ^ s.size ≤ 256 ^ 16 := Nat.pow_le_pow_right (by omega) h
  have h3 : (256 : Nat) ^ 16 = 340282366920938463463374607431768211456 := by decide
  omega
theorem digits_lt {D : List Nat} (h : Digits D) : valD D < 1361129467683753853853498429727072845824 := by
  have := h.2.2
  unfold primeP at this
  omega
/-- what Step computes, as the program goes -/
theorem step_math {D E : List Nat} (hD : Digits D) (hE : Digits E) (s : ByteArray) (hs : s.size ≤ 16) :
    partsOf (valN (timesTo (plusTo (partsOf (valD D)) (partsOf (valD (bytesN s ++ [1]))) 5) (partsOf (valD E)) 5) % primeP) = partsOf ((valD D + valD (bytesN s ++ [1])) * valD E % primeP) := by
  have hl : (plusTo (partsOf (valD D)) (partsOf (valD (bytesN s ++ [1]))) 5).length = 5 := by rw [plusTo_len, parts_len]
  rw [times_mul hl (parts_len _)]
  obtain ⟨a, b, c, d, e, h1⟩ := list5 hl
  obtain ⟨f, g, h, i, j, h2⟩ := list5 (parts_len (valD E))
  have hv := plus_val (parts_len (valD D)) (parts_len (valD (bytesN s ++ [1])))
  rw [parts_val _ (digits_lt hD), parts_val _ (part_lt s hs)] at hv
  have hw := parts_val _ (digits_lt hE)
  rw [h1] at hv ⊢
  rw [h2] at hw ⊢
  rw [mulTo_val, hv, hw]
theorem step_lt {D E : List Nat} (s : ByteArray) : (valD D + valD (bytesN s ++ [1])) * valD E % primeP < 1361129467683753853853498429727072845824 := by
  have := Nat.mod_lt ((valD D + valD (bytesN s ++ [1])) * valD E) (show 0 < primeP by unfold primeP; omega)
  unfold primeP at this ⊢
  omega
theorem NumRow.keep {w w' : World} {g : Nat} {t : TypeId} {L : List Nat} (h : Row vN w g t L) (hb : Below w.heap.size w w') : Row vN w' g t L := Row.below h hb h.lt
theorem num_slr {w : World} {g B : Nat} {t : TypeId} {L : List Nat} {n : Nat} (h : Row vN w g t L) (hB : g < B) (hn : L.length = n) : SlR encI 1 w B (some ⟨g, 0, none⟩) n (ints L) := by
  subst hn
  refine SlR.ofC (by simp [ints]) hB ?_
  intro k x hx j v hv
  have hj : j = 0 := by
    have := (List.getElem?_eq_some_iff.1 hv).1
    simp [encI] at this; omega
  subst hj
  simp [encI] at hv
  subst hv
  unfold ints at hx
  rw [List.getElem?_map] at hx
  obtain ⟨y, hy, rfl⟩ := Option.map_eq_some_iff.1 hx
  have := h.get hy
  simpa [vN] using this
set_option maxRecDepth 100000 in
set_option maxHeartbeats 1000000 in
theorem tstep_good (D E : List Nat) (A A' : Option Addr) (c c' : Nat) (s : ByteArray) (w : World) (hS : SlR encI 1 w w.heap.size A 17 (ints D)) (hS' : SlR encI 1 w w.heap.size A' 17 (ints E)) (hD : Digits D) (hE : Digits E)
    (hc : 17 ≤ c) (hc2 : c ≤ 9223372036854775807) (hc' : 17 ≤ c') (hc2' : c' ≤ 9223372036854775807) (hs : s.size ≤ 16) (hs0 : 1 ≤ s.size) :
    Calls Tryd.prog 87 #[.slice A 17 c, .slice A' 17 c', .string s] w fun e w' => ∃ g, e = .returned (.tuple #[.slice (some ⟨g, 0, none⟩) 17 17, .bool true]) ∧ Row vN w' g 3 (stepR D E (bytesN s)) ∧ w.heap.size ≤ g ∧ Below w.heap.size w w' := by
  have HS := Lib.hid hS
  have HS' := Lib.hid hS'
  have HD := Lib.hid hD
  have HE := Lib.hid hE
  have hm := step_math hD hE s hs
  have hl := step_lt (D := D) (E := E) s
  have HSt : Hid (stepR D E (bytesN s) = rowOf ((valD D + valD (bytesN s ++ [1])) * valD E % primeP)) := Lib.hid rfl
  obtain ⟨RR, hRR⟩ : ∃ RR, stepR D E (bytesN s) = RR := ⟨_, rfl⟩
  rw [hRR] at HSt ⊢
  obtain ⟨X, hX⟩ : ∃ X, (valD D + valD (bytesN s ++ [1])) * valD E % primeP = X := ⟨_, rfl⟩
  rw [hX] at hm hl HSt
  obtain ⟨V1, hV1⟩ : ∃ V, partsOf (valD D) = V := ⟨_, rfl⟩
  obtain ⟨V2, hV2⟩ : ∃ V, partsOf (valD (bytesN s ++ [1])) = V := ⟨_, rfl⟩
  obtain ⟨V3, hV3⟩ : ∃ V, partsOf (valD E) = V := ⟨_, rfl⟩
  have u1 := parts_under (valD D)
  have u2 := parts_under (valD (bytesN s ++ [1]))
  have u3 := parts_under (valD E)
  have l1 := parts_len (valD D)
  have l2 := parts_len (valD (bytesN s ++ [1]))
  have l3 := parts_len (valD E)
  rw [hV1] at hm u1 l1
  rw [hV2] at hm u2 l2
  rw [hV3] at hm u3 l3
  have pu := plus_under l1 l2 u1 u2
  have pl : (plusTo V1 V2 5).length = 5 := by rw [plusTo_len, l1]
  obtain ⟨N, hN⟩ : ∃ N, plusTo V1 V2 5 = N := ⟨_, rfl⟩
  rw [hN] at hm pu pl
  have tl := timesTo_len N V3 5
  obtain ⟨T, hT⟩ : ∃ T, timesTo N V3 5 = T := ⟨_, rfl⟩
  rw [hT] at hm tl
  have HM := Lib.hid hm
  have HLt := Lib.hid hl
  have H1 := Lib.hid (And.intro hV1 (And.intro u1 l1))
  have H2 := Lib.hid (And.intro hV2 (And.intro u2 l2))
  have H3 := Lib.hid (And.intro hV3 (And.intro u3 l3))
  have HN := Lib.hid (And.intro hN (And.intro pu pl))
  have HT := Lib.hid (And.intro hT tl)
  clear hS hS' hD hE hm hl hRR hX hV1 hV2 hV3 u1 u2 u3 l1 l2 l3 pu pl hN tl hT
  go_enter Tryd.func87, Tryd.ntmps87
  go_wp2_with fail
  refine (isrow_good D A c w HS.out HD.out hc hc2).mono ?_
  rintro e w1 ⟨rfl, rfl⟩
  go_wp2_with fail
  refine (isrow_good E A' c' w HS'.out HE.out hc' hc2').mono ?_
  rintro e w1 ⟨rfl, rfl⟩
  go_wp2_with fail
  refine (tread_any D A 17 c w HS.out (by omega) HD.out.2.1 (digits_lt HD.out) (by omega)).mono ?_
  rintro e w1 ⟨rfl, hb1⟩
  rw [H1.out.1]
  have hs1 := hb1.size
  go_wp2_with fail
  refine (digits_of s (some ⟨w1.heap.size, 0, none⟩) 1 1 _ (num_slr (t := 3) (L := [1]) (Blk.new w1 _ _) (by simp) rfl) hs).mono ?_
  rintro e w2 ⟨A2, c2, rfl, hR2, hc21, hc22, hb2⟩
  have hB2 : Below w.heap.size w w2 := Below.trans (by go_grown) (hb2.mono (by simp; omega))
  have hs2 := hB2.size
  have HR2 := Lib.hid hR2
  clear hR2 hb2
  go_wp2_with fail
  refine (tread_any (bytesN s ++ [1]) A2 (s.size + 1) c2 w2 (nrow_slr HR2.out (by simp [bytesN_len])) (by omega) (by intro x hx; rcases List.mem_append.1 hx with h | h; exact bytesN_lt s x h; rw [List.mem_singleton.1 h]; omega) (part_lt s hs) (by omega)).mono ?_
  rintro e w3 ⟨rfl, hb3⟩
  rw [H2.out.1]
  have hB3 := hB2.trans (hb3.mono hs2)
  have hs3 := hB3.size
  clear hb3
  go_wp2_with fail
  refine (plus_any V1 V2 w3 H1.out.2.2 H2.out.2.2 H1.out.2.1 H2.out.2.1).mono ?_
  rintro e w4 ⟨rfl, hb4⟩
  rw [HN.out.1]
  have hB4 := hB3.trans (hb4.mono hs3)
  have hs4 := hB4.size
  clear hb4
  unfold tnumV
  go_wp2_with (refine wpList_store_row rfl 125 (.tmp 8) (.tmp 33) rfl w4.heap.size (N.map vN).toArray rfl rfl 125 #[.int .i64 0, .int .i64 0, .int .i64 0, .int .i64 0, .int .i64 0] (Blk.new _ _ _) (num_info HN.out.2.2) (by rw [num_size HN.out.2.2]; rfl) (num_one _) ?_; rw [World.setRow_alloc_new])
  have hR5 : Row vN (w4.alloc (.cells (N.map vN).toArray 125)) w4.heap.size 125 N := Blk.new _ _ _
  have hB5 : Below w.heap.size w (w4.alloc (.cells (N.map vN).toArray 125)) := by go_grown
  generalize hW5 : w4.alloc (.cells (N.map vN).toArray 125) = w5 at hR5 hB5 ⊢
  have HR5 := Lib.hid hR5
  have hs5 := hB5.size
  clear hW5 hR5
  -- region 4
  refine wp_region_held_drew (S := fun w' => Row vN w' w4.heap.size 125 N) (by kernel_rfl) (HR5.out) (fun hHeld => ?_)
  refine wpAnyH_take (i := 0) (v := .agg (N.map vN).toArray) rfl (by kernel_rfl) (by kernel_rfl) (by kernel_rfl) (fun _ _ _ h => h) (yields_row 125 (.tmp 8) rfl rfl w4.heap.size rfl 125 _ (.array 5 3) (by kernel_rfl) rfl (num_info HN.out.2.2) (fun _ h => h)) hHeld ?rest1
  try simp only [Act.put, List.getElem_toArray, List.getElem_cons_succ, List.getElem_cons_zero, List.setIfInBounds_toArray, List.set_cons_zero, List.set_cons_succ]
  refine wpAnyH_take (i := 1) (v := ?v2) rfl (by kernel_rfl) (by kernel_rfl) (by kernel_rfl) (fun _ _ _ h => h) (Or.inl ⟨by rfl, ?hy2⟩) hHeld ?rest2
  case hy2 => (intro w hSw; (try dsimp only at hSw); go_simp; try with_reducible rfl)
  try simp only [Act.put, List.getElem_toArray, List.getElem_cons_succ, List.getElem_cons_zero, List.setIfInBounds_toArray, List.set_cons_zero, List.set_cons_succ]
  refine wpAnyH_ready (rs := [2]) (by kernel_rfl) (by simp) ?_
  refine AllReadyH.cons rfl (fun K hK => ?_) AllReadyH.nil
  clear hHeld
  go_simp
  have HSE := Lib.hid (HS'.out.below hB5)
  refine (tread_any E A' 17 c' _ (SlR.more (B := w.heap.size) (w := w5.drew) HSE.out (by simpa using hs5)) (by omega) HE.out.2.1 (digits_lt HE.out) (by omega)).mono ?_
  rintro e w6 ⟨rfl, hb6⟩
  rw [H3.out.1]
  have hB6 : Below w5.heap.size w5 w6 := Below.trans (by go_grown) (hb6.mono (by simp))
  clear hb6
  go_simp
  refine hK.out _ _ (NumRow.keep HR5.out hB6) (fun hHeld => ?_)
  clear hK K
  try simp only [Act.put, List.getElem_toArray, List.getElem_cons_succ, List.getElem_cons_zero, List.setIfInBounds_toArray, List.set_cons_zero, List.set_cons_succ]
  refine wpAnyH_ready (rs := [3]) (by kernel_rfl) (by simp) ?_
  refine AllReadyH.cons rfl (fun K hK => ?_) AllReadyH.nil
  clear hHeld
  go_simp
  refine (times_any N V3 _ HN.out.2.2 H3.out.2.2 HN.out.2.1 H3.out.2.1).mono ?_
  rintro e w7 ⟨rfl, hu7, hb7⟩
  rw [HT.out.1] at hu7 ⊢
  have HU7 := Lib.hid hu7
  clear hu7
  have hB7 : Below w5.heap.size w5 w7 := hB6.trans (hb7.mono hB6.size)
  clear hb7
  go_simp
  refine hK.out _ _ (NumRow.keep HR5.out hB7) (fun hHeld => ?_)
  clear hK K
  try simp only [Act.put, List.getElem_toArray, List.getElem_cons_succ, List.getElem_cons_zero, List.setIfInBounds_toArray, List.set_cons_zero, List.set_cons_succ]
  refine wpAnyH_ready (rs := [4]) (by kernel_rfl) (by simp) ?_
  refine AllReadyH.cons rfl (fun K hK => ?_) AllReadyH.nil
  clear hHeld
  go_simp
  refine (left_any T _ HT.out.2 HU7.out).mono ?_
  rintro e w8 ⟨rfl, hb8⟩
  rw [HM.out]
  have hB8 : Below w5.heap.size w5 w8 := hB7.trans (hb8.mono hB7.size)
  clear hb8
  go_simp
  refine hK.out _ _ (NumRow.keep HR5.out hB8) (fun hHeld => ?_)
  clear hK K
  try simp only [Act.put, List.getElem_toArray, List.getElem_cons_succ, List.getElem_cons_zero, List.setIfInBounds_toArray, List.set_cons_zero, List.set_cons_succ]
  refine wpAnyH_ready (rs := [5]) (by kernel_rfl) (by simp) ?_
  refine AllReadyH.cons rfl (fun K hK => ?_) AllReadyH.nil
  clear hHeld
  go_simp
  refine (digits_any X _ HLt.out).mono ?_
  rintro e w9 ⟨g9, rfl, hR9, hg9, hb9⟩
  rw [← HSt.out] at hR9
  have HR9 := Lib.hid hR9
  have hB9 : Below w5.heap.size w5 w9 := hB8.trans (hb9.mono hB8.size)
  have hs8 := hB8.size
  clear hb9 hR9
  go_simp
  refine hK.out _ _ (NumRow.keep HR5.out hB9) (fun hHeld => ?_)
  clear hK K
  try simp only [Act.put, List.getElem_toArray, List.getElem_cons_succ, List.getElem_cons_zero, List.setIfInBounds_toArray, List.set_cons_zero, List.set_cons_succ]
  refine wpAnyH_take (i := 6) (v := ?v7) rfl (by kernel_rfl) (by kernel_rfl) (by kernel_rfl) (fun _ _ _ h => h) (Or.inl ⟨by rfl, ?hy7⟩) hHeld ?rest7
  case hy7 => (intro w hSw; (try dsimp only at hSw); go_simp; try with_reducible rfl)
  try simp only [Act.put, List.getElem_toArray, List.getElem_cons_succ, List.getElem_cons_zero, List.setIfInBounds_toArray, List.set_cons_zero, List.set_cons_succ]
  refine wpAnyH_take (i := 7) (v := ?v8) rfl (by kernel_rfl) (by kernel_rfl) (by kernel_rfl) (fun _ _ _ h => h) (Or.inl ⟨by rfl, ?hy8⟩) hHeld ?rest8
  case hy8 => (intro w hSw; (try dsimp only at hSw); go_simp; try with_reducible rfl)
  try simp only [Act.put, List.getElem_toArray, List.getElem_cons_succ, List.getElem_cons_zero, List.setIfInBounds_toArray, List.set_cons_zero, List.set_cons_succ]
  refine wpAnyH_done (by kernel_rfl) ?_ _
  -- region 4 ends
  go_wp2_with fail
  go_ret2
  exact ⟨g9, rfl, HR9.out, by omega, hB5.trans (hB9.mono hs5)⟩
end Go.Proofs.YtbgohcedakpnbaaDoor
