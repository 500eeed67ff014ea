/- TagWalks. -/
import Derived.Test.YtpbbphjhjjpkjaaTagN
set_option linter.unusedVariables false
namespace Go.Proofs.Ytpbbphjhjjpkjaa
open Go.RowKit
set_option maxHeartbeats 400000 in
theorem of_any (s : ByteArray) (w : World) (hs : s.size ≤ 1000) :
    Calls Try.prog 8 #[.string s] w fun e w' => ∃ A c, e = .returned (.slice A s.size c) ∧ NRow w' w.heap.size (.slice A s.size c) (bytesN s) ∧ s.size ≤ c ∧ c ≤ maxLen ∧ Below w.heap.size w w' := by
  go_enter Try.func8, Try.ntmps8
  go_wp2_with fail
  have h0 : Hid (NRow w w.heap.size (.slice none 0 0) ((bytesN s).take 0)) := Lib.hid (World.ownsRow_nil _ _ _ _)
  go_loopw [3, 4] (fun v iv wr => ∃ (k : Nat) (A1 : Option Addr) (c1 : Nat), k ≤ s.size ∧ iv = .int .i64 k ∧ v = .slice A1 k c1 ∧ Hid (NRow wr w.heap.size (.slice A1 k c1) ((bytesN s).take k)) ∧ k ≤ c1 ∧ c1 ≤ maxLen ∧ Below w.heap.size w wr) (fun _ iv _ => s.size - (intOf iv).toNat)
  case atStart => exact ⟨0, _, _, by omega, rfl, rfl, h0, by omega, by simp [maxLen], Below.refl _ _⟩
  case round =>
    clear h0
    obtain ⟨k, A1, c1, hk, rfl, rfl, HR, hc1, hc2, hB⟩ := hrel
    have hBs := hB.size
    by_cases hlt : k < s.size
    · have HE := Lib.hid (bytesN_take s k hlt)
      have HL : Hid (((bytesN s).take k ++ [s[k].toNat]).length = k + 1) := Lib.hid (by rw [bytesN_take s k hlt, List.length_take, bytesN_len]; omega)
      have hb : s[k].toNat < 256 := s[k].toNat_lt
      go_wp2_with (at_builtin; refine wpList_append_nums rfl (.tmp 11) (.tmp 16) rfl rfl (nrow_alloc HR.out _) (wr.heap.size + 1) (some ⟨wr.heap.size, 0, none⟩) 1 1 [s[k].toNat] rfl (Reads.new wr _ _ rfl) (k + 1) HL.out (by omega) (by simp; omega) ?_; intro A2 c2 w2 HR2 hg2 hb2 hc21 hc22)
      clear hg2
      go_roundw
      case rel => exact ⟨k + 1, A2, c2, by omega, by go_num, rfl, by rw [← HE.out]; exact HR2, hc21, hc22, Below.trans (by go_grown) hb2⟩
      case measure => simp [intOf]; omega
    · obtain rfl : k = s.size := by omega
      have hT : (bytesN s).take s.size = bytesN s := List.take_of_length_le (by rw [bytesN_len]; exact Nat.le_refl _)
      have hR := HR.out
      rw [hT] at hR
      go_wp2_with fail
      go_ret
      exact ⟨_, _, rfl, hR, hc1, hc2, hB⟩
theorem tagB_at (key s : ByteArray) (i : Nat) (T : ByteArray) (hT : tagB key s = T) (h : i < 16) (h2 : i < T.size) : T[i] = UInt8.ofNat ((overS (accR (keyR key) (partsP s)) (endR key) i + ((accR (keyR key) (partsP s)).getD i 0 + (endR key).getD i 0)) % 256) := by
  subst hT
  show (tagL _ _ 16).toArray[i]'_ = _
  simp [tagL]
set_option maxHeartbeats 1000000 in
theorem tagWalks_any (key s : ByteArray) (w : World) (hk : StrOk key) (hs : StrOk s) :
    Calls Try.prog 3 #[.string key, .string s] w fun e w' => e = .returned (.bool true) ∧ Below w.heap.size w w' := by
  unfold StrOk at hk hs
  by_cases h1 : key.size = 32
  · have t1 : ((key.size : Int) != 32) = false := by simp; omega
    by_cases h2 : 1000 < s.size
    · have t2 : decide (1000 < (s.size : Int)) = true := by simp; omega
      clear h1 h2
      go_enter Try.func3, Try.ntmps3
      go_wp2_with fail
      refine (tags_any _).mono ?_
      rintro e w3 ⟨rfl, hb3⟩
      go_wp2_with fail
      go_ret
      exact ⟨rfl, hb3⟩
    · have t2 : decide (1000 < (s.size : Int)) = false := by simp; omega
      have hs2 : s.size ≤ 1000 := by omega
      have HK := Lib.hid h1
      have hT := fun W : World => tag_any key s W h1 (by omega)
      have hk1 : (16 : Int) ≤ (key.size : Int) := by omega
      have hq16 : (key.extract 0 16).size = 16 := by simp; omega
      obtain ⟨q, hq⟩ : ∃ q, key.extract 0 16 = q := ⟨_, rfl⟩
      rw [hq] at hq16
      have hC := fun W : World => clamp_b q W hq16
      have hcz := clampB_size _ hq16
      obtain ⟨E, hE⟩ : ∃ E, keyR key = E := ⟨_, rfl⟩
      have hEg := keyR_good key h1
      have hE2 : bytesN (clampB (key.extract 0 16)) ++ [0] = E := hE
      rw [hq] at hE2
      obtain ⟨T, hTT⟩ : ∃ T, tagB key s = T := ⟨_, rfl⟩
      have hat := fun i => tagB_at key s i T hTT
      rw [hE] at hEg hat
      have hz := tagB_size key s
      generalize clampB q = cc at hC hcz hE2
      rw [hTT] at hz
      simp only [hTT] at hT
      have HT := Lib.hid hT
      have HC := Lib.hid hC
      have HE := Lib.hid hEg
      have HE2 := Lib.hid hE2
      have HAT := Lib.hid hat
      have HCZ := Lib.hid hcz
      have hmk := make17
      clear h1 h2 hT hC hcz hE hEg hE2 hat hTT hq16
      go_enter Try.func3, Try.ntmps3
      go_wp2_with fail
      refine (HC.out _).mono ?_
      rintro e w1 ⟨rfl, hb1⟩
      have hs1 := hb1.size
      go_wp2_with fail
      refine (of_any cc w1 (by rw [HCZ.out]; omega)).mono ?_
      rintro e w2 ⟨A2, c2, rfl, hR2, hc21, hc22, hb2⟩
      have hB2 := hb1.trans (hb2.mono hs1)
      have hsz2 := hB2.size
      have hs12 := hb2.size
      clear hb1 hb2
      rw [HCZ.out] at hR2 hc21 ⊢
      have HR2 := Lib.hid hR2
      have HL : Hid ((bytesN cc ++ [0]).length = 17) := Lib.hid (by rw [List.length_append, bytesN_len, HCZ.out]; rfl)
      clear hR2
      go_wp2_with (at_builtin; refine wpList_append_nums rfl (.tmp 34) (.tmp 35) rfl rfl (nrow_alloc HR2.out _) (w2.heap.size + 1) (some ⟨w2.heap.size, 0, none⟩) 1 1 [0] rfl (Reads.new w2 _ _ rfl) 17 HL.out (by omega) (by simp; omega) ?_; intro A3 c3 w3 HR3 hg3 hb3 hc31 hc32)
      have hB3 : Below w.heap.size w w3 := Below.trans (by go_grown) (hb3.mono hs1)
      clear hg3 hb3
      have hR3 := HR3.out
      rw [HE2.out] at hR3
      obtain ⟨gr, cur, rfl, hgr, hBr, hcur⟩ := nrow_blk hR3 HE.out.1 (by omega)
      have HBr := Lib.hid hBr
      have HCu := Lib.hid hcur
      have hgr3 := hBr.lt
      have hs3 := hB3.size
      clear hR3 hBr hcur HR3
      have hR0 : Hid (Row vN (w3.alloc (.cells (List.replicate 17 (Value.int .i64 0)).toArray 3)) w3.heap.size 3 (accR E ((partsP s).take 0))) := Lib.hid (Blk.new w3 _ _)
      go_wp2_with fail
      clear hmk
      go_loopw [8, 9] (fun av iv wr => ∃ k i ga : Nat, i ≤ s.size + 15 ∧ iv = .int .i64 i ∧ Hid (i = 16 * k) ∧ av = .slice (some ⟨ga, 0, none⟩) 17 17 ∧ Hid (Row vN wr ga 3 (accR E ((partsP s).take k))) ∧ Hid (Below w3.heap.size w3 wr)) (fun _ iv _ => s.size + 16 - (intOf iv).toNat)
      case atStart => exact ⟨0, 0, w3.heap.size, by omega, rfl, rfl, rfl, hR0, Lib.hid (by go_grown)⟩
      case round =>
        clear hR0
        obtain ⟨k, i, ga, hi, rfl, HI, rfl, HA, HB⟩ := hrel
        have hsw := HB.out.size
        by_cases hlt : i < s.size
        · obtain ⟨e, he⟩ : ∃ e, min (i + 16) s.size = e := ⟨_, rfl⟩
          have hc : part16 s k = s.extract i e := by rw [← he, extract_clip, HI.out]; rfl
          have hk16 : 16 * k < s.size := by have := HI.out; omega
          have hsucc := partsP_succ s hk16
          have hok := part16_ok s k hk16
          have hacc : stepR (accR E ((partsP s).take k)) E (bytesN (s.extract i e)) = accR E ((partsP s).take (k + 1)) := by
            rw [← hsucc, accR_snoc, ← hc]
          rw [hc] at hok
          have HACC := Lib.hid hacc
          have HOK := Lib.hid hok
          have HS := Lib.hid (step_good (accR E ((partsP s).take k)) E (some ⟨ga, 0, none⟩) (some ⟨gr, 0, none⟩) 17 c3 (s.extract i e) wr (num_slr HA.out HA.out.lt (by rw [(accR_good E _).1])) (cur_slr (HBr.out.below HB.out hgr3) HCu.out (by omega) HE.out.1) (accR_good E _) HE.out (by omega) (by omega) (by omega) (by have := hc32; unfold maxLen at this; omega) hok.2 hok.1)
          clear hc hsucc hok hacc
          by_cases h16 : i + 16 ≤ s.size
          · obtain rfl : e = i + 16 := by omega
            clear he
            go_wp2_with fail
            refine HS.out.mono ?_
            rintro e W1 ⟨g, rfl, hRg, hgg, hbg⟩
            rw [HACC.out] at hRg
            have HRg := Lib.hid hRg
            have HBg := Lib.hid (HB.out.trans (hbg.mono hsw))
            clear hRg hbg HA HB HS
            go_wp2_with fail
            go_roundw
            case rel => exact ⟨k + 1, i + 16, g, by omega, by go_num, Lib.hid (by rw [HI.out]; omega), rfl, HRg, HBg⟩
            case measure => simp [intOf]; omega
          · obtain rfl : e = s.size := by omega
            clear he
            go_wp2_with fail
            refine HS.out.mono ?_
            rintro e W1 ⟨g, rfl, hRg, hgg, hbg⟩
            rw [HACC.out] at hRg
            have HRg := Lib.hid hRg
            have HBg := Lib.hid (HB.out.trans (hbg.mono hsw))
            clear hRg hbg HA HB HS
            go_wp2_with fail
            go_roundw
            case rel => exact ⟨k + 1, i + 16, g, by omega, by go_num, Lib.hid (by rw [HI.out]; omega), rfl, HRg, HBg⟩
            case measure => simp [intOf]; omega
        · have hall : (partsP s).take k = partsP s := List.take_of_length_le (by rw [partsP_len]; have := HI.out; omega)
          have hA := HA.out
          rw [hall] at hA
          have HA := Lib.hid hA
          have hga := hA.lt
          have HG := Lib.hid (accR_good E (partsP s))
          clear hA hall
          go_wp2_with fail
          refine (HT.out _).mono ?_
          rintro e W2 ⟨rfl, hbt⟩
          have HA2 := Lib.hid (HA.out.below hbt hga)
          have hB5 := hB3.trans ((HB.out.trans (hbt.mono hsw)).mono hs3)
          have hs5 := hB5.size
          have hga2 := HA2.out.lt
          clear hbt HA HB
          go_wp2_with fail
          go_loopw [14, 15] (fun ov iv wr => ∃ i o : Nat, i ≤ 16 ∧ iv = .int .i64 i ∧ ov = .int .i64 o ∧ Hid (overS (accR E (partsP s)) (endR key) i = o) ∧ o ≤ 2 ∧ Below W2.heap.size W2 wr) (fun _ iv _ => 16 - (intOf iv).toNat)
          case atStart => exact ⟨0, 0, by omega, rfl, rfl, rfl, by omega, Below.refl _ _⟩
          case round =>
            obtain ⟨i, o, hi, rfl, rfl, HO, ho, hBr⟩ := hrel
            by_cases hlt : i < 16
            · have hx := getD_at (L := accR E (partsP s)) (k := i) (by rw [HG.out.1]; omega)
              have hx1 := HG.out.2.1 _ (List.mem_of_getElem? hx)
              obtain ⟨j, hj⟩ : ∃ j, 16 + i = j := ⟨_, rfl⟩
              have hjk : j < key.size := by have := HK.out; omega
              have hy : (endR key).getD i 0 = key[j].toNat := by
                unfold endR
                rw [List.getD_eq_getElem?_getD, List.getElem?_drop, hj, bytesN_get key j hjk]; rfl
              have hy1 : key[j].toNat < 256 := key[j].toNat_lt
              have hover : overS (accR E (partsP s)) (endR key) (i + 1) = (o + ((accR E (partsP s)).getD i 0 + key[j].toNat)) / 256 := by rw [overS, HO.out, hy]
              have hti : i < T.size := by omega
              have htt : T[i].toNat = (o + ((accR E (partsP s)).getD i 0 + key[j].toNat)) % 256 := by
                rw [HAT.out i hlt hti, HO.out, hy]; simp
              have cx := (HA2.out.below hBr hga2).get hx
              simp only [vN] at cx
              generalize (accR E (partsP s)).getD i 0 = x at hx hx1 hover htt cx
              have i0 : (0 : Int) ≤ i := by omega
              have i1 : (i : Int) < 16 := by omega
              have i17 : (i : Int) < 17 := by omega
              have j0 : (0 : Int) ≤ j := by omega
              have jk : (j : Int) < (key.size : Int) := by omega
              have ej : (16 : Int) + (i : Int) = (j : Int) := by omega
              have wj : IntKind.i64.wrap (j : Int) = (j : Int) := wrap_i64_nat _ (by omega)
              have t5 : ((T[i].toNat : Int) != ((x : Int) + (key[j].toNat : Int) + (o : Int)) % 256) = false := by simp; omega
              have t6 : ((T.size : Int) == 16) = true := by simp; omega
              have ht2 : T[i].toNat < 256 := T[i].toNat_lt
              have HV := Lib.hid hover
              clear hx hy hover hj htt
              as_aux_lemma =>
                go_wp2_with fail
                go_region
                all_goals
                  go_wp2_with fail
                  go_roundw
                  case rel => exact ⟨i + 1, (o + (x + key[j].toNat)) / 256, by omega, by go_num, by go_num, HV, by omega, by go_grown⟩
                  case measure => simp [intOf]; omega
            · obtain rfl : i = 16 := by omega
              have hB6 := hB5.trans (hBr.mono hs5)
              have hs6 := hB6.size
              go_wp2_with fail
              refine (tags_any _).mono ?_
              rintro e w7 ⟨rfl, hb7⟩
              go_wp2_with fail
              go_ret
              exact ⟨rfl, hB6.trans (hb7.mono hs6)⟩
  · have t1 : ((key.size : Int) != 32) = true := by simp; omega
    clear h1
    go_enter Try.func3, Try.ntmps3
    go_wp2_with fail
    refine (tags_any _).mono ?_
    rintro e w3 ⟨rfl, hb3⟩
    go_wp2_with fail
    go_ret
    exact ⟨rfl, hb3⟩
end Go.Proofs.Ytpbbphjhjjpkjaa
