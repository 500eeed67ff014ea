/- chapter 20, SessionEnds: the walk. -/
import Derived.Test.YtbgohcedakpnbaaDoorSesH
set_option linter.unusedVariables false
set_option linter.unusedSimpArgs false
namespace Go.Proofs.YtbgohcedakpnbaaDoor
open Go.RowKit
/-- both boxes: what one sent the other has seen -/
def EndsAt (W : World) (ga gb : Nat) (K : ByteArray) (p q : Nat) : Prop := SB W ga K 0 p q ∧ SB W gb K 1 q p
set_option maxRecDepth 100000 in
set_option maxHeartbeats 4000000 in
theorem sends_bad (key salt : ByteArray) (A : Option Addr) (n c : Nat) (A2 : Option Addr) (n2 c2 : Nat) (w : World) (hT : HTab w) (h : key.size ≠ 32) :
    Calls Tryd.prog 7 #[.string key, .string salt, .slice A n c, .slice A2 n2 c2] w fun e w' => e = .returned (.bool true) ∧ Below w.heap.size w w' := by
  have t3 : ((key.size : Int) != 32) = true := by simp; omega
  have HP := Lib.hid (fun W => pair_bad key salt W h)
  have HG : HTab w := hT
  clear h hT
  go_enter Tryd.func7, Tryd.ntmps7
  go_wp2_with fail
  refine (HP.out _).mono ?_
  rintro e w1 ⟨rfl, hb1⟩
  have hs1 : Below w.heap.size w w1 := Below.trans (by go_grown) (hb1.mono (by first | (simp; done) | (simp; omega)))
  have HG_1 := HG.on hs1
  have hB_1 := hs1
  unfold sesV
  have hz_1 := hs1.size
  clear hb1 HG hs1
  go_wp2_with fail
  refine (slines_any _ (HG_1.on (by go_grown))).mono ?_
  rintro e w2 ⟨rfl, hb3⟩
  have hs2 : Below w1.heap.size w1 w2 := Below.trans (by go_grown) (hb3.mono (by first | (simp; done) | (simp; omega)))
  have HG_2 := HG_1.on hs2
  have hB_2 := hB_1.trans (hs2.mono hB_1.size)
  have hz_2 := hs2.size
  clear hb3 HG_1 hB_1 hs2
  go_wp2_with fail
  go_ret
  exact ⟨rfl, by have h := hB_2; go_grown⟩
set_option maxRecDepth 100000 in
set_option maxHeartbeats 4000000 in
theorem sends_big (key salt K : ByteArray) (A : Option Addr) (n c : Nat) (A2 : Option Addr) (n2 c2 : Nat) (w : World) (hT : HTab w) (h : key.size = 32) (hbig : decide (200 < (salt.size : Int)) = true ∨ (decide (200 < (salt.size : Int)) = false ∧ decide (15 < (n : Int)) = true) ∨ (decide (200 < (salt.size : Int)) = false ∧ decide (15 < (n : Int)) = false ∧ decide (15 < (n2 : Int)) = true)) (hP : ∀ W, Rounds W → Calls Tryd.prog 24 #[.string key, .string salt] W fun e w' => e = .returned (.tuple #[sesV K 0 0 0, sesV K 1 0 0, .int .i64 0]) ∧ Below W.heap.size W w') :
    Calls Tryd.prog 7 #[.string key, .string salt, .slice A n c, .slice A2 n2 c2] w fun e w' => e = .returned (.bool true) ∧ Below w.heap.size w w' := by
  have t3 : ((key.size : Int) != 32) = false := by simp; omega
  have HP := Lib.hid hP
  have HG : HTab w := hT
  clear h hT hP
  rcases hbig with t5 | ⟨t5, t6⟩ | ⟨t5, t6, t7⟩
  all_goals
    go_enter Tryd.func7, Tryd.ntmps7
    go_wp2_with fail
    refine (HP.out _ (HG.step (by go_grown)).1).mono ?_
    rintro e w1 ⟨rfl, hb1⟩
    have hs1 : Below w.heap.size w w1 := Below.trans (by go_grown) (hb1.mono (by first | (simp; done) | (simp; omega)))
    have HG_1 := HG.on hs1
    have hB_1 := hs1
    unfold sesV
    have hz_1 := hs1.size
    clear hb1 HG hs1
    go_wp2_with fail
    refine (slines_any _ (HG_1.on (by go_grown))).mono ?_
    rintro e w2 ⟨rfl, hb3⟩
    have hs2 : Below w1.heap.size w1 w2 := Below.trans (by go_grown) (hb3.mono (by first | (simp; done) | (simp; omega)))
    have HG_2 := HG_1.on hs2
    have hB_2 := hB_1.trans (hs2.mono hB_1.size)
    have hz_2 := hs2.size
    clear hb3 HG_1 hB_1 hs2
    go_wp2_with fail
    go_ret
    exact ⟨rfl, by have h := hB_2; go_grown⟩
set_option maxRecDepth 100000 in
set_option maxHeartbeats 8000000 in
theorem sends_main (key salt K : ByteArray) (L M : List ByteArray) (A A2 : Option Addr) (n c n2 c2 : Nat) (w : World) (hT : HTab w) (h : key.size = 32) (hs : salt.size ≤ 200) (hn : n ≤ 15) (hn2 : n2 ≤ 15)
    (hS : SlR encS 1 w w.heap.size A n L) (hM : SlR encS 1 w w.heap.size A2 n2 M) (hL : ∀ s ∈ L, s.size ≤ 140737488351232) (hL2 : ∀ s ∈ M, s.size ≤ 140737488351232) (hK : K.size = 32)
    (hP : ∀ W, Rounds W → Calls Tryd.prog 24 #[.string key, .string salt] W fun e w' => e = .returned (.tuple #[sesV K 0 0 0, sesV K 1 0 0, .int .i64 0]) ∧ Below W.heap.size W w') :
    Calls Tryd.prog 7 #[.string key, .string salt, .slice A n c, .slice A2 n2 c2] w fun e w' => e = .returned (.bool true) ∧ Below w.heap.size w w' := by
  have t5 : decide (200 < (salt.size : Int)) = false := by simp; omega
  have t6 : decide (15 < (n : Int)) = false := by simp; omega
  have t7 : decide (15 < (n2 : Int)) = false := by simp; omega
  have HP := Lib.hid hP
  have HG : HTab w := hT
  have HK := Lib.hid hK
  have hp1 := HG.out.1.pos
  have hp2 := HG.out.2.pos
  have HRow : Hid (∀ i, i < n → ∃ b off x, A = some ⟨b, off, none⟩ ∧ x.size ≤ 140737488351232 ∧ ∀ W, Below w.heap.size w W → W.cell? ⟨b, off + i, none⟩ = some (.string x)) := Lib.hid (fun i hi => by
    obtain ⟨b, off, x, h1, h2, h3⟩ := row_at hS hi
    exact ⟨b, off, x, h1, hL x (List.mem_of_getElem? h2), h3⟩)
  have HRow2 : Hid (∀ i, i < n2 → ∃ b off x, A2 = some ⟨b, off, none⟩ ∧ x.size ≤ 140737488351232 ∧ ∀ W, Below w.heap.size w W → W.cell? ⟨b, off + i, none⟩ = some (.string x)) := Lib.hid (fun i hi => by
    obtain ⟨b, off, x, h1, h2, h3⟩ := row_at hM hi
    exact ⟨b, off, x, h1, hL2 x (List.mem_of_getElem? h2), h3⟩)
  clear hP hT hK h hs hS hM hL hL2
  go_enter Tryd.func7, Tryd.ntmps7
  go_wp2_with fail
  refine (HP.out _ (HG.step (by go_grown)).1).mono ?_
  rintro e w1 ⟨rfl, hb1⟩
  unfold sesV
  have hs1 : Below w.heap.size w w1 := Below.trans (by go_grown) (hb1.mono (by first | (simp; done) | (simp; omega)))
  have hz1 := hs1.size
  have HG1 := HG.on hs1
  have HB0 : Hid (EndsAt ((w1.alloc (.cells #[.string K, .int .i64 0, .int .i64 0, .int .i64 0] 41)).alloc (.cells #[.string K, .int .i64 1, .int .i64 0, .int .i64 0] 41)) w1.heap.size (w1.heap.size + 1) K 0 0) := Lib.hid ⟨Blk.alloc (SB.new rfl K 0 0 0) _, SB.new (by simp) K 1 0 0⟩
  clear hb1 HP
  go_wp2_with fail
  go_loopw [12] (fun iv wr => ∃ (i p q : Nat), i ≤ 15 ∧ p ≤ i ∧ q ≤ i ∧ iv = .int .i64 i ∧ Hid (EndsAt wr w1.heap.size (w1.heap.size + 1) K p q) ∧ HTab wr ∧ Below w.heap.size w wr) (fun iv _ => 15 - (intOf iv).toNat)
  case atStart => exact ⟨0, 0, 0, by omega, by omega, by omega, rfl, HB0, HG1.on (by go_grown), by go_grown⟩
  case round =>
    clear HB0 HG1 hs1
    obtain ⟨i, p, q, hi, hp, hq, rfl, HB, HTr, hBr⟩ := hrel
    by_cases hlt : i < n ∨ i < n2
    · have hi15 : i < 15 := by omega
      have hgo : (decide ((i : Int) < (n : Int)) = true ∧ i < n) ∨ (decide ((i : Int) < (n : Int)) = false ∧ decide ((i : Int) < (n2 : Int)) = true) := by
        by_cases h : i < n
        · exact .inl ⟨by simp; omega, h⟩
        · exact .inr ⟨by simp; omega, by simp; omega⟩
      go_upto_region 5 with (fail)
      go_cut [67] from 58 to 159 (fun sv wx => sv = .bool true ∧ wr = wx)
      case first =>
        rcases hgo with ⟨v1, v2⟩ | ⟨v1, v2⟩
        all_goals go_wp2_with fail
        all_goals go_meet
        all_goals exact ⟨by first | rfl | (simp; omega), rfl⟩
      case rest =>
        obtain ⟨rfl, rfl⟩ := hcut
        clear hgo hlt
        go_upto_region 7 with (fail)
        go_cut [81] from 58 to 159 (fun sv wx => ∃ v : Bool, sv = .bool v ∧ Hid (v = true → i < n ∧ ∃ b off x, A = some ⟨b, off, none⟩ ∧ x.size < 300 ∧ ∀ W, Below w.heap.size w W → W.cell? ⟨b, off + i, none⟩ = some (.string x)) ∧ wr = wx)
        case first =>
          by_cases hlt : i < n
          · obtain ⟨b, off, x, rfl, hx, hc⟩ := HRow.out i hlt
            have cx := hc wr hBr
            have u1 : decide ((i : Int) < (n : Int)) = true := by simp; omega
            have u2 : decide (i < n) = true := by simp; omega
            have i0 : (0 : Int) ≤ (i : Int) := by omega
            have i1 : (i : Int) < (n : Int) := by omega
            have HC := Lib.hid hc
            clear hc
            by_cases hbig : x.size < 300
            · have u3 : decide ((x.size : Int) < 300) = true := by simp; omega
              have u4 : decide (x.size < 300) = true := by simp; omega
              go_wp2_with fail
              go_meet
              exact ⟨true, rfl, Lib.hid (fun _ => ⟨hlt, b, off, x, rfl, hbig, HC.out⟩), rfl⟩
            · have u3 : decide ((x.size : Int) < 300) = false := by simp; omega
              have u4 : decide (x.size < 300) = false := by simp; omega
              go_wp2_with fail
              go_meet
              exact ⟨false, rfl, Lib.hid (fun h => absurd h (by decide)), rfl⟩
          · have u1 : decide ((i : Int) < (n : Int)) = false := by simp; omega
            have u2 : decide (i < n) = false := by simp; omega
            go_wp2_with fail
            go_meet
            exact ⟨false, rfl, Lib.hid (fun h => absurd h (by decide)), rfl⟩
        case rest =>
          obtain ⟨v, rfl, HV, rfl⟩ := hcut
          go_upto_if 81 with (fail)
          go_cut [13, 14, 15, 16, 17, 18] from 58 to 159 (fun s1 s2 s3 s4 s5 s6 wx => ∃ m : Nat, m ≤ i + 1 ∧ Hid (EndsAt wx w1.heap.size (w1.heap.size + 1) K m q) ∧ HTab wx ∧ Below w.heap.size w wx)
          case first =>
            cases v
            · go_wp2_with fail
              go_meet
              exact ⟨p, by omega, HB, HTr, hBr⟩
            · obtain ⟨hlt, b, off, x, rfl, hx, hc⟩ := HV.out rfl
              have cx := hc wr hBr
              have hbl : b < wr.heap.size := World.block_lt_of_cell? wr _ cx
              have HC := Lib.hid hc
              clear hc
              have i0 : (0 : Int) ≤ (i : Int) := by omega
              have i1 : (i : Int) < (n : Int) := by omega
              obtain ⟨m, hm⟩ : ∃ m, p + 1 = m := ⟨_, rfl⟩
              have HSE := Lib.hid (fun W hW => send_frm K x 0 p q m W hW HK.out (by omega) (by omega) (by omega) (by omega) hm)
              have HRE := Lib.hid (fun W hW => recv_frm K x 1 0 q p m W hW HK.out rfl (by omega) (by omega) (by omega) (by omega) (by omega))
              generalize frm K 0 m x = Y at *
              obtain ⟨a0, a1, a2, a3⟩ := HB.out.1.cells
              have hla := Blk.lt HB.out.1
              have hlb := Blk.lt HB.out.2
              have hzr := hBr.size
              clear hx HV
              go_upto_region 8 with (fail)
              go_cut [13, 14, 15] from 82 to 91 (fun s13 s14 s15 wx => ∃ g : Nat, s13 = .string Y ∧ s14 = .pointer (some ⟨g, 0, none⟩) ∧ s15 = .int .i64 0 ∧ Hid (SDone wr wx g K 0 m q))
              case first =>
                have HTA : Hid (Turns wr.drew) := Lib.hid (HTr.step (by go_grown)).2
                have HTB : Hid (Turns (wr.alloc (.cells #[.string ⟨#[]⟩, .int .i64 0, .int .i64 0, .int .i64 0] 41)).drew) := Lib.hid (HTr.step (by go_grown)).2
                go_region_with (first
                  | (go_at_call 26; (with_reducible refine Calls.mono (HSE.out wr.drew HTA.out) ?_); rintro e w3 ⟨rfl, hb3⟩; have hS5 := Lib.hid (sdone_after K 0 m q hb3))
                  | (go_at_call 26; (with_reducible refine Calls.mono (HSE.out (wr.alloc (.cells #[.string ⟨#[]⟩, .int .i64 0, .int .i64 0, .int .i64 0] 41)).drew HTB.out) ?_); rintro e w3 ⟨rfl, hb3⟩; have hb6 := below_alloc_drew hb3; have hk5 := (Blk.new wr 41 #[.string ⟨#[]⟩, .int .i64 0, .int .i64 0, .int .i64 0]).below hb6 (by omega); have k50 := hk5.cells 0 _ rfl; have k51 := hk5.cells 1 _ rfl; have k52 := hk5.cells 2 _ rfl; have k53 := hk5.cells 3 _ rfl; have k5f := hk5.frozen; have k5l := hk5.lt; simp only [List.getElem_toArray, List.getElem_cons_zero, List.getElem_cons_succ] at k50 k51 k52 k53; have hS5 := Lib.hid (sdone_before K 0 m q hb6)))
                all_goals go_wp2_with fail
                all_goals go_meet
                all_goals exact ⟨_, rfl, rfl, rfl, hS5⟩
              case rest =>
                obtain ⟨g, rfl, rfl, rfl, HSD⟩ := hcut
                obtain ⟨w5, rfl⟩ : ∃ W : World, W = wc := ⟨wc, rfl⟩
                have hSa : SB w5 w1.heap.size K 0 p q := HB.out.1.below HSD.out.2.2 hla
                have hSb : SB w5 (w1.heap.size + 1) K 1 q p := HB.out.2.below HSD.out.2.2 hlb
                have hB5 : Below w.heap.size w w5 := hBr.trans (HSD.out.2.2.mono hzr)
                have HT5 := HTr.on HSD.out.2.2
                have hlg := Blk.lt HSD.out.1
                have hgg := HSD.out.2.1
                have hla5 := Blk.lt hSa
                have hlb5 := Blk.lt hSb
                obtain ⟨b0, b1, b2, b3⟩ := hSb.cells
                have HS5 := Lib.hid (And.intro hSa (And.intro hSb HSD.out.1))
                clear hSa hSb HSE HSD a0 a1 a2 a3 cx
                go_wp2_with fail
                refine (HRE.out _ (HT5.step (by go_grown)).2).mono ?_
                rintro e w7 ⟨rfl, hb7⟩
                have hSa7 := HS5.out.1.on hb7
                have hSb7 := HS5.out.2.1.on hb7
                have hSg7 := HS5.out.2.2.on hb7
                have hB7 := hB5.trans (hb7.mono hB5.size)
                have HT7 := HT5.on hb7
                have cx7 := HC.out w7 hB7
                have hbl7 : b < w7.heap.size := World.block_lt_of_cell? w7 _ cx7
                have hz7 := hb7.size
                obtain ⟨s0, s1, s2, s3⟩ := hSa7.cells
                have sf := Blk.frozen hSa7
                have hla7 := Blk.lt hSa7
                clear b0 b1 b2 b3
                obtain ⟨b0, b1, b2, b3⟩ := hSb7.cells
                have bf := Blk.frozen hSb7
                have hlb7 := Blk.lt hSb7
                obtain ⟨g0, g1, g2, g3⟩ := hSg7.cells
                have hlg7 := Blk.lt hSg7
                have hne1 : w1.heap.size ≠ w7.heap.size := by omega
                have hne2 : w7.heap.size ≠ w1.heap.size := by omega
                have HS7 := Lib.hid (And.intro hSa7 (And.intro hSb7 hB7))
                clear hSa7 hSb7 hSg7 hb7 HS5
                go_wp2_with fail
                go_meet
                exact ⟨m, by omega, Lib.hid ⟨Blk.alloc (ses_far (ses_set HS7.out.1 _ _ _ _) (show w1.heap.size ≠ w1.heap.size + 1 by omega) _ _ _ _) _, Blk.alloc (ses_set (ses_far HS7.out.2.1 (show w1.heap.size + 1 ≠ w1.heap.size by omega) _ _ _ _) _ _ _ _) _⟩,
                  ((HT7.low (B := w1.heap.size) (ses_below (ses_below (Below.refl _ _) (show w1.heap.size ≤ w1.heap.size by omega) _ _ _ _) (show w1.heap.size ≤ (w1.heap.size + 1) by omega) _ _ _ _) (by omega) (by omega)).on (Below.alloc (Below.refl _ _) (Nat.le_refl _) _)),
                  (ses_below (ses_below HS7.out.2.2 (show w.heap.size ≤ w1.heap.size by omega) _ _ _ _) (show w.heap.size ≤ (w1.heap.size + 1) by omega) _ _ _ _).alloc (ses_below (ses_below HS7.out.2.2 (show w.heap.size ≤ w1.heap.size by omega) _ _ _ _) (show w.heap.size ≤ (w1.heap.size + 1) by omega) _ _ _ _).size _⟩
          case rest =>
            obtain ⟨m, hm1, HB2, HT2, hB2⟩ := hcut
            obtain ⟨wq, rfl⟩ : ∃ W : World, W = wc := ⟨wc, rfl⟩
            clear HB HTr hBr
            obtain ⟨HB, HTr, hBr⟩ : Hid (EndsAt wq w1.heap.size (w1.heap.size + 1) K m q) ∧ HTab wq ∧ Below w.heap.size w wq := ⟨HB2, HT2, hB2⟩
            clear HB2 HT2 hB2 HV
            have hp' : m ≤ i + 1 := hm1
            clear hp
            obtain ⟨p, rfl⟩ : ∃ p, p = m := ⟨m, rfl⟩
            go_upto_region 14 with (fail)
            go_cut [126] from 58 to 159 (fun sv wx => ∃ v : Bool, sv = .bool v ∧ Hid (v = true → i < n2 ∧ ∃ b off x, A2 = some ⟨b, off, none⟩ ∧ x.size < 300 ∧ ∀ W, Below w.heap.size w W → W.cell? ⟨b, off + i, none⟩ = some (.string x)) ∧ wq = wx)
            case first =>
              by_cases hlt : i < n2
              · obtain ⟨b, off, x, rfl, hx, hc⟩ := HRow2.out i hlt
                have cx := hc wq hBr
                have u1 : decide ((i : Int) < (n2 : Int)) = true := by simp; omega
                have u2 : decide (i < n2) = true := by simp; omega
                have i0 : (0 : Int) ≤ (i : Int) := by omega
                have i1 : (i : Int) < (n2 : Int) := by omega
                have HC := Lib.hid hc
                clear hc
                by_cases hbig : x.size < 300
                · have u3 : decide ((x.size : Int) < 300) = true := by simp; omega
                  have u4 : decide (x.size < 300) = true := by simp; omega
                  go_wp2_with fail
                  go_meet
                  exact ⟨true, rfl, Lib.hid (fun _ => ⟨hlt, b, off, x, rfl, hbig, HC.out⟩), rfl⟩
                · have u3 : decide ((x.size : Int) < 300) = false := by simp; omega
                  have u4 : decide (x.size < 300) = false := by simp; omega
                  go_wp2_with fail
                  go_meet
                  exact ⟨false, rfl, Lib.hid (fun h => absurd h (by decide)), rfl⟩
              · have u1 : decide ((i : Int) < (n2 : Int)) = false := by simp; omega
                have u2 : decide (i < n2) = false := by simp; omega
                go_wp2_with fail
                go_meet
                exact ⟨false, rfl, Lib.hid (fun h => absurd h (by decide)), rfl⟩
            case rest =>
              obtain ⟨v, rfl, HV, rfl⟩ := hcut
              go_upto_if 126 with (fail)
              cases v
              · go_wp2_with fail
                go_roundw
                case rel => exact ⟨i + 1, p, q, by omega, by omega, by omega, by go_num, HB, HTr, hBr⟩
                case measure => simp [intOf]; omega
              · obtain ⟨hlt, b, off, x, rfl, hx, hc⟩ := HV.out rfl
                have cx := hc wq hBr
                have hbl : b < wq.heap.size := World.block_lt_of_cell? wq _ cx
                have HC := Lib.hid hc
                clear hc
                have i0 : (0 : Int) ≤ (i : Int) := by omega
                have i1 : (i : Int) < (n2 : Int) := by omega
                obtain ⟨m, hm⟩ : ∃ m, q + 1 = m := ⟨_, rfl⟩
                have HSE := Lib.hid (fun W hW => send_frm K x 1 q p m W hW HK.out (by omega) (by omega) (by omega) (by omega) hm)
                have HRE := Lib.hid (fun W hW => recv_frm K x 0 1 p q m W hW HK.out rfl (by omega) (by omega) (by omega) (by omega) (by omega))
                generalize frm K 1 m x = Y at *
                obtain ⟨a0, a1, a2, a3⟩ := HB.out.2.cells
                have hla := Blk.lt HB.out.2
                have hlb := Blk.lt HB.out.1
                have hzr := hBr.size
                clear hx HV
                go_upto_region 15 with (fail)
                go_cut [19, 20, 21] from 127 to 136 (fun s13 s14 s15 wx => ∃ g : Nat, s13 = .string Y ∧ s14 = .pointer (some ⟨g, 0, none⟩) ∧ s15 = .int .i64 0 ∧ Hid (SDone wq wx g K 1 m p))
                case first =>
                  have HTA : Hid (Turns wq.drew) := Lib.hid (HTr.step (by go_grown)).2
                  have HTB : Hid (Turns (wq.alloc (.cells #[.string ⟨#[]⟩, .int .i64 0, .int .i64 0, .int .i64 0] 41)).drew) := Lib.hid (HTr.step (by go_grown)).2
                  go_region_with (first
                    | (go_at_call 26; (with_reducible refine Calls.mono (HSE.out wq.drew HTA.out) ?_); rintro e w3 ⟨rfl, hb3⟩; have hS5 := Lib.hid (sdone_after K 1 m p hb3))
                    | (go_at_call 26; (with_reducible refine Calls.mono (HSE.out (wq.alloc (.cells #[.string ⟨#[]⟩, .int .i64 0, .int .i64 0, .int .i64 0] 41)).drew HTB.out) ?_); rintro e w3 ⟨rfl, hb3⟩; have hb6 := below_alloc_drew hb3; have hk5 := (Blk.new wq 41 #[.string ⟨#[]⟩, .int .i64 0, .int .i64 0, .int .i64 0]).below hb6 (by omega); have k50 := hk5.cells 0 _ rfl; have k51 := hk5.cells 1 _ rfl; have k52 := hk5.cells 2 _ rfl; have k53 := hk5.cells 3 _ rfl; have k5f := hk5.frozen; have k5l := hk5.lt; simp only [List.getElem_toArray, List.getElem_cons_zero, List.getElem_cons_succ] at k50 k51 k52 k53; have hS5 := Lib.hid (sdone_before K 1 m p hb6)))
                  all_goals go_wp2_with fail
                  all_goals go_meet
                  all_goals exact ⟨_, rfl, rfl, rfl, hS5⟩
                case rest =>
                  obtain ⟨g, rfl, rfl, rfl, HSD⟩ := hcut
                  obtain ⟨w5, rfl⟩ : ∃ W : World, W = wc := ⟨wc, rfl⟩
                  have hSa : SB w5 (w1.heap.size + 1) K 1 q p := HB.out.2.below HSD.out.2.2 hla
                  have hSb : SB w5 w1.heap.size K 0 p q := HB.out.1.below HSD.out.2.2 hlb
                  have hB5 : Below w.heap.size w w5 := hBr.trans (HSD.out.2.2.mono hzr)
                  have HT5 := HTr.on HSD.out.2.2
                  have hlg := Blk.lt HSD.out.1
                  have hgg := HSD.out.2.1
                  have hla5 := Blk.lt hSa
                  have hlb5 := Blk.lt hSb
                  obtain ⟨b0, b1, b2, b3⟩ := hSb.cells
                  have HS5 := Lib.hid (And.intro hSa (And.intro hSb HSD.out.1))
                  clear hSa hSb HSE HSD a0 a1 a2 a3 cx
                  go_wp2_with fail
                  refine (HRE.out _ (HT5.step (by go_grown)).2).mono ?_
                  rintro e w7 ⟨rfl, hb7⟩
                  have hSa7 := HS5.out.1.on hb7
                  have hSb7 := HS5.out.2.1.on hb7
                  have hSg7 := HS5.out.2.2.on hb7
                  have hB7 := hB5.trans (hb7.mono hB5.size)
                  have HT7 := HT5.on hb7
                  have cx7 := HC.out w7 hB7
                  have hbl7 : b < w7.heap.size := World.block_lt_of_cell? w7 _ cx7
                  have hz7 := hb7.size
                  obtain ⟨s0, s1, s2, s3⟩ := hSa7.cells
                  have sf := Blk.frozen hSa7
                  have hla7 := Blk.lt hSa7
                  clear b0 b1 b2 b3
                  obtain ⟨b0, b1, b2, b3⟩ := hSb7.cells
                  have bf := Blk.frozen hSb7
                  have hlb7 := Blk.lt hSb7
                  obtain ⟨g0, g1, g2, g3⟩ := hSg7.cells
                  have hlg7 := Blk.lt hSg7
                  have hne1 : (w1.heap.size + 1) ≠ w7.heap.size := by omega
                  have hne2 : w7.heap.size ≠ (w1.heap.size + 1) := by omega
                  have HS7 := Lib.hid (And.intro hSa7 (And.intro hSb7 hB7))
                  clear hSa7 hSb7 hSg7 hb7 HS5
                  go_wp2_with fail
                  go_roundw
                  case rel => exact ⟨i + 1, p, m, by omega, by omega, by omega, by go_num, Lib.hid ⟨Blk.alloc (ses_set (ses_far HS7.out.2.1 (show w1.heap.size ≠ w1.heap.size + 1 by omega) _ _ _ _) _ _ _ _) _, Blk.alloc (ses_far (ses_set HS7.out.1 _ _ _ _) (show w1.heap.size + 1 ≠ w1.heap.size by omega) _ _ _ _) _⟩,
                    ((HT7.low (B := w1.heap.size) (ses_below (ses_below (Below.refl _ _) (show w1.heap.size ≤ (w1.heap.size + 1) by omega) _ _ _ _) (show w1.heap.size ≤ w1.heap.size by omega) _ _ _ _) (by omega) (by omega)).on (Below.alloc (Below.refl _ _) (Nat.le_refl _) _)),
                    (ses_below (ses_below HS7.out.2.2 (show w.heap.size ≤ (w1.heap.size + 1) by omega) _ _ _ _) (show w.heap.size ≤ w1.heap.size by omega) _ _ _ _).alloc (ses_below (ses_below HS7.out.2.2 (show w.heap.size ≤ (w1.heap.size + 1) by omega) _ _ _ _) (show w.heap.size ≤ w1.heap.size by omega) _ _ _ _).size _⟩
                  case measure => simp [intOf]; omega
    · have v1 : decide ((i : Int) < (n : Int)) = false := by simp; omega
      have v2 : decide ((i : Int) < (n2 : Int)) = false := by simp; omega
      go_wp2_with fail
      refine (slines_any _ (HTr.on (by go_grown))).mono ?_
      rintro e w3 ⟨rfl, hb3⟩
      obtain ⟨a0, a1, a2, a3⟩ := (HB.out.1.on hb3).cells
      obtain ⟨b0, b1, b2, b3⟩ := (HB.out.2.on hb3).cells
      have e1 : ((p : Int) == (p : Int)) = true := by simp
      have e2 : ((q : Int) == (q : Int)) = true := by simp
      go_wp2_with fail
      go_ret
      exact ⟨rfl, hBr.trans (hb3.mono hBr.size)⟩
theorem sends_all (key salt : ByteArray) (L M : List ByteArray) (A A2 : Option Addr) (n c n2 c2 : Nat) (w : World) (hT : HTab w) (hS : SlR encS 1 w w.heap.size A n L) (hM : SlR encS 1 w w.heap.size A2 n2 M) (hL : ∀ s ∈ L, s.size ≤ 140737488351232) (hL2 : ∀ s ∈ M, s.size ≤ 140737488351232) (hs : salt.size ≤ 140737488351232) :
    Calls Tryd.prog 7 #[.string key, .string salt, .slice A n c, .slice A2 n2 c2] w fun e w' => e = .returned (.bool true) ∧ Below w.heap.size w w' := by
  by_cases h : key.size = 32
  · obtain ⟨K, hK, _, hD⟩ := derive_some key salt (by omega) hs
    have hP := fun W hW => pair_good key salt K W h hW hD
    by_cases h1 : 200 < salt.size
    · exact sends_big key salt K A n c A2 n2 c2 w hT h (.inl (by simp; omega)) hP
    · by_cases h2 : 15 < n
      · exact sends_big key salt K A n c A2 n2 c2 w hT h (.inr (.inl ⟨by simp; omega, by simp; omega⟩)) hP
      · by_cases h3 : 15 < n2
        · exact sends_big key salt K A n c A2 n2 c2 w hT h (.inr (.inr ⟨by simp; omega, by simp; omega, by simp; omega⟩)) hP
        · exact sends_main key salt K L M A A2 n c n2 c2 w hT h (by omega) (by omega) (by omega) hS hM hL hL2 hK hP
  · exact sends_bad key salt A n c A2 n2 c2 w hT h
end Go.Proofs.YtbgohcedakpnbaaDoor
