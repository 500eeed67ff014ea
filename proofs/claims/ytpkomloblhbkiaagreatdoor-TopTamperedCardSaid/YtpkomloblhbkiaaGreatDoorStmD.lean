/- stream: Crypt. -/
import Derived.Test.YtpkomloblhbkiaaGreatDoorStmP
import Derived.Test.YtpkomloblhbkiaaGreatDoorTagH
import Derived.WalkMore
set_option linter.unusedVariables false
/- stream: Block. -/
namespace Go.Proofs.YtpkomloblhbkiaaGreatDoor
open Go.RowKit
set_option maxRecDepth 100000 in
set_option maxHeartbeats 8000000 in
theorem block_good (key nonce : ByteArray) (n : Nat) (w : World) (hk : key.size = 32) (hn : nonce.size = 12) (hw : n < 4294967296) (hG : Turns w) :
    Calls Tryz.prog 124 #[.string key, .string nonce, .int .i64 n] w fun e w' => e = .returned (.tuple #[.string (blockB key nonce n), .int .i64 0]) ∧ Below w.heap.size w w' := by
  obtain ⟨hz, hisz⟩ := zero_of_info w16_info
  obtain ⟨Z, hZ⟩ : ∃ Z : Array Value, (List.replicate 16 (Value.int .i64 0)).toArray = Z := ⟨_, rfl⟩
  rw [hZ] at hz
  have hZs : Z.size = 16 := by rw [← hZ, List.size_toArray, List.length_replicate]
  have HZs := Lib.hid hZs
  have HI := Lib.hid hisz
  obtain ⟨F, hF⟩ : ∃ F, firstL key nonce n = F := ⟨_, rfl⟩
  have hFl : F.length = 16 := by rw [← hF]; exact firstL_len n hk hn
  have hFw : words F := by rw [← hF]; exact firstL_words key nonce hw
  obtain ⟨V, hV⟩ : ∃ V, vec F = V := ⟨_, rfl⟩
  have hVs : V.size = 16 := by rw [← hV, vec_size, hFl]
  have hVo : V.all (·.oneCell') = true := by rw [← hV]; exact vec_one _
  have HF := Lib.hid (And.intro hF (And.intro hFl hFw))
  have HV := Lib.hid (And.intro hV (And.intro hVs hVo))
  obtain ⟨out, hout⟩ : ∃ out, blockB key nonce n = out := ⟨_, rfl⟩
  rw [hout]
  have HO := Lib.hid hout
  have HG := Lib.hid hG
  clear hZ hZs hisz hF hFl hFw hV hVs hVo hout hG
  go_enter Tryz.func124, Tryz.ntmps124
  go_wp2_with fail
  refine (first_good key nonce n w hk hn hw).mono ?_
  rintro e w1 ⟨rfl, hb1⟩
  rw [HF.out.1, HV.out.1]
  have hB1 := Lib.hid hb1
  have hz1 := hb1.size
  clear hb1
  go_wp2_with (first
    | (refine wpList_store_rowTo rfl 178 (.tmp 8) (.tmp 26) rfl rfl w1.heap.size V rfl rfl 178 Z (Blk.new _ _ _) (by rw [HV.out.2.1]; exact HI.out) (by rw [HV.out.2.1, HZs.out]) HV.out.2.2 ?_; rw [World.setRow_alloc_new])
    | (refine wpList_load_row rfl 178 (.tmp 8) rfl w1.heap.size rfl 178 V (0, 0) (.array 16 3) (Blk.new _ _ _) (by kernel_rfl) rfl (by rw [HV.out.2.1]; exact HI.out) ?_)
    | (refine wpList_store_rowTo rfl 178 (.tmp 10) (.tmp 30) rfl rfl (w1.heap.size + 1) V rfl rfl 178 Z (Blk.new_at (by simp) _ _) (by rw [HV.out.2.1]; exact HI.out) (by rw [HV.out.2.1, HZs.out]) HV.out.2.2 ?_; rw [setRow_new_at (g := w1.heap.size + 1) (by simp)]))
  have hA0 : At w1 V (roundsTo F 0) ((w1.alloc (.cells V 178)).alloc (.cells V 178)) := ⟨by go_grown, (Blk.new _ _ _).alloc _, by
    have := Blk.new_at (w := w1.alloc (.cells V 178)) (g := w1.heap.size + 1) (by simp) 178 V
    rw [← HV.out.1] at this ⊢
    exact this⟩
  have HA0 := Lib.hid hA0
  obtain ⟨T, hT⟩ : ∃ T, turnCells.toArray = T := ⟨_, rfl⟩
  have HT := Lib.hid hT
  have HG1 : Hid (Turns w1) := Lib.hid (HG.out.below hB1.out HG.out.pos)
  clear hA0 hT hz
  go_loopw [31] (fun iv wr => ∃ k : Nat, k ≤ 10 ∧ iv = .int .i64 k ∧ Hid (At w1 V (roundsTo F k) wr)) (fun iv _ => 10 - (intOf iv).toNat)
  case atStart => exact ⟨0, by omega, rfl, HA0⟩
  case round =>
    obtain ⟨k, hk10, rfl, HA⟩ := hrel
    clear HA0
    by_cases hlt : k < 10
    · have HR : Hid (Turns wr) := Lib.hid (HG1.out.below HA.out.1 HG1.out.pos)
      obtain ⟨wo, hwo⟩ : ∃ W : World, W = wr := ⟨wr, rfl⟩
      go_wp2_with (refine wpList_load_mid rfl 189 (.global 1) rfl 1 0 rfl turnCells (.array 8 188) HR.out (by kernel_rfl) rfl (by kernel_rfl) ?_; rw [HT.out])
      obtain ⟨M, hM⟩ : ∃ M, roundsTo F k = M := ⟨_, rfl⟩
      have hMl : M.length = 16 := by rw [← hM, roundsTo_len, HF.out.2.1]
      have hMw : words M := by rw [← hM]; exact roundsTo_words HF.out.2.2 k
      have HM := Lib.hid (And.intro hM (And.intro hMl hMw))
      have HA1 : Hid (At w1 V (roundTo M 0) wr) := Lib.hid (by rw [← hM]; exact HA.out)
      clear hM hMl hMw HA HR hwo
      go_loopw [34] (fun jv wr => ∃ j : Nat, j ≤ 8 ∧ jv = .int .i64 j ∧ Hid (At w1 V (roundTo M j) wr)) (fun jv _ => 8 - (intOf jv).toNat)
      case atStart => exact ⟨0, by omega, rfl, HA1⟩
      case round =>
        obtain ⟨j, hj8, rfl, HA⟩ := hrel
        clear HA1
        by_cases hlj : j < 8
        · have hix := fun W : World => turn_index j hlj W
          rw [HT.out] at hix
          have hpo := turnsL_ok j hlj
          obtain ⟨p, hp⟩ : ∃ p, turnsL.getD j (0, 0, 0, 0) = p := ⟨_, rfl⟩
          rw [hp] at hix hpo
          obtain ⟨p0, p1, p2, p3⟩ := p
          obtain ⟨q0, q1, q2, q3, d01, d02, d03, d12, d13, d23⟩ := hpo
          dsimp only [pCells] at hix q0 q1 q2 q3 d01 d02 d03 d12 d13 d23
          obtain ⟨L, hL⟩ : ∃ L, roundTo M j = L := ⟨_, rfl⟩
          have hLl : L.length = 16 := by rw [← hL, roundTo_len, HM.out.2.1]
          have hLw : words L := by rw [← hL]; exact roundTo_words HM.out.2.2 j
          rw [hL] at HA
          have HL := Lib.hid (And.intro hL (And.intro hLl (And.intro hLw hp)))
          clear hL hLl hLw hp
          have hzr : w1.heap.size + 1 < wr.heap.size := HA.out.2.2.lt
          go_upto_region 10 with (fail)
          have hP0 := Blk.new wr 188 #[.int .i64 p0, .int .i64 p1, .int .i64 p2, .int .i64 p3]
          have hAa := HA.out.alloc (.cells #[.int .i64 p0, .int .i64 p1, .int .i64 p2, .int .i64 p3] 188)
          have hza : wr.heap.size < (wr.alloc (.cells #[.int .i64 p0, .int .i64 p1, .int .i64 p2, .int .i64 p3] 188)).heap.size := by simp
          generalize wr.alloc (.cells #[.int .i64 p0, .int .i64 p1, .int .i64 p2, .int .i64 p3] 188) = wa at hP0 hAa hza ⊢
          obtain ⟨g12, hg12⟩ : ∃ g, wr.heap.size = g := ⟨_, rfl⟩
          rw [hg12] at hP0 hza hzr ⊢
          clear hix HA hg12
          have hok := atQ_ok HL.out.2.2.1 (p0, p1, p2, p3)
          obtain ⟨Q, hQ⟩ : ∃ Q, atQ L (p0, p1, p2, p3) = Q := ⟨_, rfl⟩
          rw [hQ] at hok
          obtain ⟨R, hR⟩ : ∃ R, stTurn Q = R := ⟨_, rfl⟩
          have HR := Lib.hid (And.intro hQ hR)
          have x0 : L[p0]? = some Q.a := by rw [getD_get (by rw [HL.out.2.1]; exact q0), ← hQ]; rfl
          have x1 : L[p1]? = some Q.b := by rw [getD_get (by rw [HL.out.2.1]; exact q1), ← hQ]; rfl
          have x2 : L[p2]? = some Q.c := by rw [getD_get (by rw [HL.out.2.1]; exact q2), ← hQ]; rfl
          have x3 : L[p3]? = some Q.d := by rw [getD_get (by rw [HL.out.2.1]; exact q3), ← hQ]; rfl
          have HS : Hid (∀ W, Below wa.heap.size wa W → Cells8 g12 (w1.heap.size + 1) p0 p1 p2 p3 Q W) := Lib.hid (fun W hb => by
            have hP := hP0.below hb hza
            have hA := hAa.below hb
            exact ⟨hP.cells 0 _ rfl, hP.cells 1 _ rfl, hP.cells 2 _ rfl, hP.cells 3 _ rfl, hA.2.2.get (ints_get x0), hA.2.2.get (ints_get x1), hA.2.2.get (ints_get x2), hA.2.2.get (ints_get x3)⟩)
          have n0 : (0 : Int) ≤ p0 := by omega
          have n1 : (0 : Int) ≤ p1 := by omega
          have n2 : (0 : Int) ≤ p2 := by omega
          have n3 : (0 : Int) ≤ p3 := by omega
          have m0 : (p0 : Int) < 16 := by omega
          have m1 : (p1 : Int) < 16 := by omega
          have m2 : (p2 : Int) < 16 := by omega
          have m3 : (p3 : Int) < 16 := by omega
          obtain ⟨b0, b1, b2, b3, a0, a1, a2, a3⟩ := HS.out _ (Below.refl _ _)
          have HP0 := Lib.hid hP0
          have HAa := Lib.hid hAa
          have HOK := Lib.hid hok
          clear hP0 hAa x0 x1 x2 x3 hQ hR hok
          go_region_held3 (fun w' => w'.cell? ⟨g12, 0, none⟩ = some (.int .i64 p0) ∧ w'.cell? ⟨g12, 1, none⟩ = some (.int .i64 p1) ∧ w'.cell? ⟨g12, 2, none⟩ = some (.int .i64 p2) ∧ w'.cell? ⟨g12, 3, none⟩ = some (.int .i64 p3)
              ∧ w'.cell? ⟨w1.heap.size + 1, p0, none⟩ = some (.int .i64 Q.a) ∧ w'.cell? ⟨w1.heap.size + 1, p1, none⟩ = some (.int .i64 Q.b) ∧ w'.cell? ⟨w1.heap.size + 1, p2, none⟩ = some (.int .i64 Q.c) ∧ w'.cell? ⟨w1.heap.size + 1, p3, none⟩ = some (.int .i64 Q.d))
            (first | exact HS.out _ (Below.refl _ _) | exact HS.out _ (Below.drew (Below.refl _ _)) | exact HS.out _ (bel_one hbx) | exact HS.out _ hbx)
            ((go_at_call 133; refine (turn_any Q R _ HOK.out HR.out.2).mono ?_; rintro e wx ⟨rfl, hbx⟩))
          have hbw : Below wa.heap.size wa wx := by first | exact hbx | exact bel_one hbx
          have hAx := HAa.out.below hbw
          have hPx := HP0.out.below hbw hza
          have b0 := hPx.cells 0 _ rfl
          have b1 := hPx.cells 1 _ rfl
          have b2 := hPx.cells 2 _ rfl
          have b3 := hPx.cells 3 _ rfl
          simp only [List.getElem_toArray, List.getElem_cons_zero, List.getElem_cons_succ] at b0 b1 b2 b3
          obtain ⟨_, _, _, _, a0, a1, a2, a3⟩ := HS.out _ hbw
          have f0 := hAx.2.2.free p0
          have f1 := hAx.2.2.free p1
          have f2 := hAx.2.2.free p2
          have f3 := hAx.2.2.free p3
          have HAx := Lib.hid hAx
          clear hbx hbw HP0 HAa hPx hAx HS
          have e01 := d01.symm
          have e02 := d02.symm
          have e03 := d03.symm
          have e12 := d12.symm
          have e13 := d13.symm
          have e23 := d23.symm
          have hgg : g12 ≠ w1.heap.size + 1 := by omega
          have hgh : w1.heap.size + 1 ≠ g12 := by omega
          go_upto_region 11 with (fail)
          go_region
          have HE : Hid (At w1 V (roundTo M (j + 1)) ((((wx.setCell ⟨w1.heap.size + 1, p0, none⟩ (.int .i64 R.a)).setCell ⟨w1.heap.size + 1, p1, none⟩ (.int .i64 R.b)).setCell ⟨w1.heap.size + 1, p2, none⟩ (.int .i64 R.c)).setCell ⟨w1.heap.size + 1, p3, none⟩ (.int .i64 R.d)).drew) := Lib.hid (by
            have := (HAx.out.put p0 p1 p2 p3 R).drew
            rw [roundTo, HL.out.2.2.2, HL.out.1, turnAt, HR.out.1, HR.out.2]
            exact this)
          generalize ((((wx.setCell ⟨w1.heap.size + 1, p0, none⟩ (.int .i64 R.a)).setCell ⟨w1.heap.size + 1, p1, none⟩ (.int .i64 R.b)).setCell ⟨w1.heap.size + 1, p2, none⟩ (.int .i64 R.c)).setCell ⟨w1.heap.size + 1, p3, none⟩ (.int .i64 R.d)).drew = wz at HE ⊢
          clear b0 b1 b2 b3 a0 a1 a2 a3 f0 f1 f2 f3 HAx HR HL n0 n1 n2 n3 m0 m1 m2 m3 d01 d02 d03 d12 d13 d23 e01 e02 e03 e12 e13 e23 hgg hgh q0 q1 q2 q3 hza HOK
          go_wp2_with fail
          go_roundw
          case rel => exact ⟨j + 1, by omega, by go_num, HE⟩
          case measure => simp [intOf]; omega
        · obtain rfl : j = 8 := by omega
          have HE : Hid (At w1 V (roundsTo F (k + 1)) wr) := Lib.hid (by rw [roundsTo, HM.out.1]; exact HA.out)
          go_wp2_with fail
          go_roundw
          case rel => exact ⟨k + 1, by omega, by go_num, HE⟩
          case measure => simp [intOf]; omega
    · obtain rfl : k = 10 := by omega
      obtain ⟨M, hM⟩ : ∃ M, roundsTo F 10 = M := ⟨_, rfl⟩
      have hMl : M.length = 16 := by rw [← hM, roundsTo_len, HF.out.2.1]
      have hMw : words M := by rw [← hM]; exact roundsTo_words HF.out.2.2 10
      have HM := Lib.hid (And.intro hM (And.intro hMl hMw))
      have HA1 : Hid (At w1 V (addW M F 0) wr) := Lib.hid (by rw [addW_zero, ← hM]; exact HA.out)
      clear hM hMl hMw HA
      obtain ⟨wo, hwo⟩ : ∃ W : World, W = wr := ⟨wr, rfl⟩
      go_wp2_with fail
      clear hwo
      generalize ((10 : Nat) : Int) = q10
      go_loopw [78] (fun iv wr => ∃ i : Nat, i ≤ 16 ∧ iv = .int .i64 i ∧ Hid (At w1 V (addW M F i) wr)) (fun iv _ => 16 - (intOf iv).toNat)
      case atStart => exact ⟨0, by omega, rfl, HA1⟩
      case round =>
        obtain ⟨i, hi16, rfl, HA⟩ := hrel
        clear HA1
        by_cases hli : i < 16
        · have hx : (addW M F i)[i]? = some (M.getD i 0) := by rw [addW_get M F i i (by rw [HM.out.2.1]; exact hli), if_neg (Nat.lt_irrefl i)]
          have hy : F[i]? = some (F.getD i 0) := getD_get (by rw [HF.out.2.1]; exact hli)
          have HN : Hid ((addW M F i).set i (sumW [M.getD i 0, F.getD i 0]) = addW M F (i + 1)) := Lib.hid (addW_succ M F i (by rw [HM.out.2.1]; exact hli))
          have hxw := words_getD HM.out.2.2 i
          have hyw := words_getD HF.out.2.2 i
          obtain ⟨x, hxe⟩ : ∃ x, M.getD i 0 = x := ⟨_, rfl⟩
          obtain ⟨y, hye⟩ : ∃ y, F.getD i 0 = y := ⟨_, rfl⟩
          rw [hxe] at hx HN hxw
          rw [hye] at hy HN hyw
          obtain ⟨z, hze⟩ : ∃ z, sumW [x, y] = z := ⟨_, rfl⟩
          rw [hze] at HN
          have HZE := Lib.hid (And.intro hze (words_two hxw hyw))
          have a0 := HA.out.2.2.get (ints_get hx)
          have hV1 : Row vI wr w1.heap.size 178 (ints F) := by
            have := HA.out.2.1
            rw [← HV.out.1] at this
            exact this
          have c0 := hV1.get (ints_get hy)
          have f0 := HA.out.2.2.free i
          unfold vI at a0 c0
          clear hx hy hxw hyw hxe hye hze hV1
          go_upto_region 17 with (fail)
          have hzr : w1.heap.size + 1 < wr.heap.size := HA.out.2.2.lt
          have hzq : w1.heap.size < wr.heap.size := by omega
          have i0 : (0 : Int) ≤ i := by omega
          have i1 : (i : Int) < 16 := by omega
          go_region_with (go_at_call 105; refine (wadd_any [x, y] (some ⟨wr.heap.size, 0, none⟩) 2 2 _ (slr_new wr [x, y] (Blk.drew (Blk.new wr _ _)) (by simp)) (by omega) HZE.out.2).mono ?_; rintro e w3 ⟨rfl, rfl⟩; rw [HZE.out.1])
          all_goals
            have HE : Hid (At w1 V (addW M F (i + 1)) ((wr.setCell ⟨w1.heap.size + 1, i, none⟩ (.int .i64 z)).alloc (.cells (List.map (fun x => Value.int IntKind.i64 x) (ints [x, y])).toArray 3)).drew) := Lib.hid (by
              have := ((HA.out.set_ i z).alloc (.cells (List.map (fun x => Value.int IntKind.i64 x) (ints [x, y])).toArray 3)).drew
              rw [HN.out] at this
              exact this)
            generalize ((wr.setCell ⟨w1.heap.size + 1, i, none⟩ (.int .i64 z)).alloc (.cells (List.map (fun x => Value.int IntKind.i64 x) (ints [x, y])).toArray 3)).drew = wz at HE ⊢
            clear HA HN a0 c0 f0 hzr hzq
            go_wp2_with fail
            go_roundw
            case rel => exact ⟨i + 1, by omega, by go_num, HE⟩
            case measure => simp [intOf]; omega
        · obtain rfl : i = 16 := by omega
          have HOut : Hid (joinW (addW M F 16) false = out) := Lib.hid (by rw [← HO.out, blockB, blockL, HF.out.1, HM.out.1])
          have hAl : (addW M F 16).length = 16 := by rw [addW_len, HM.out.2.1]
          have hAw : words (addW M F 16) := addW_words HM.out.2.2 F 16
          obtain ⟨X, hX⟩ : ∃ X, addW M F 16 = X := ⟨_, rfl⟩
          rw [hX] at hAl hAw HOut HA
          have hsl : SlR encI 1 wr wr.heap.size (some ⟨w1.heap.size + 1, 0, none⟩) 16 (ints X) := by
            have := HA.out.2.2.slr (B := wr.heap.size) HA.out.2.2.lt
            have hl : (ints X).length = 16 := by simp [ints, hAl]
            rw [hl] at this
            exact this
          have HX := Lib.hid (And.intro hsl hAw)
          have HB := Lib.hid HA.out.1
          clear hX hAl hAw hsl HA
          go_wp2_with fail
          refine (join_low X _ 16 16 wr HX.out.1 (by omega) HX.out.2 (by omega)).mono ?_
          rintro e w4 ⟨rfl, hb4⟩
          rw [HOut.out]
          have hB4 := hB1.out.trans ((HB.out.trans (hb4.mono HB.out.size)).mono hz1)
          go_wp2_with fail
          go_ret2
          exact ⟨rfl, hB4⟩
end Go.Proofs.YtpkomloblhbkiaaGreatDoor
namespace Go.Proofs.YtpkomloblhbkiaaGreatDoor
open Go.RowKit
theorem u8_xorv (a b : UInt8) : bits .xor .u8 ((a.toNat : Nat) : Int) ((b.toNat : Nat) : Int) = (((a ^^^ b).toNat : Nat) : Int) := by
  have ha := UInt8.toNat_lt a
  have hb := UInt8.toNat_lt b
  have hx : a.toNat ^^^ b.toNat < 2 ^ 8 := Nat.xor_lt_two_pow (by omega) (by omega)
  show IntKind.u8.wrap ((BitVec.ofInt 8 (a.toNat : Int) ^^^ BitVec.ofInt 8 (b.toNat : Int)).toNat : Int) = _
  rw [BitVec.toNat_xor, BitVec.ofInt_natCast, BitVec.ofInt_natCast, BitVec.toNat_ofNat, BitVec.toNat_ofNat, Nat.mod_eq_of_lt (by omega : a.toNat < 2 ^ 8), Nat.mod_eq_of_lt (by omega : b.toNat < 2 ^ 8), UInt8.toNat_xor]
  simp only [IntKind.wrap, IntKind.bits, IntKind.signed]
  simp
  omega
theorem toList_some {s : ByteArray} (h : 0 < s.size) : s.toList.isEmpty = false := by
  rw [List.isEmpty_eq_false_iff]
  intro he
  have : s = ⟨#[]⟩ := bytes_ext (by rw [he]; kernel_rfl)
  rw [this] at h
  exact absurd h (by decide)
theorem get_list (s : ByteArray) (k : Nat) (h : k < s.size) : s.data.toList.getD k 0 = s[k] := by
  rw [List.getD_eq_getElem?_getD, List.getElem?_eq_getElem (by simpa using h)]
  rfl
set_option maxRecDepth 100000 in
set_option maxHeartbeats 4000000 in
theorem crypt_good (key nonce s : ByteArray) (n : Nat) (w : World) (hk : key.size = 32) (hn : nonce.size = 12) (hs : s.size ≤ 4000) (hpos : 0 < s.size) (hw : n ≤ 1000) (hG : Turns w) :
    Calls Tryz.prog 115 #[.string key, .string nonce, .int .i64 n, .string s] w fun e w' => e = .returned (.tuple #[.string (hideB key nonce n s), .int .i64 0]) ∧ Below w.heap.size w w' := by
  obtain ⟨hz, hisz⟩ := zero_of_info w16_info
  obtain ⟨Z, hZ⟩ : ∃ Z : Array Value, (List.replicate 16 (Value.int .i64 0)).toArray = Z := ⟨_, rfl⟩
  rw [hZ] at hz
  have hZs : Z.size = 16 := by rw [← hZ, List.size_toArray, List.length_replicate]
  have HZs := Lib.hid hZs
  have HI := Lib.hid hisz
  obtain ⟨V, hV⟩ : ∃ V, vec (firstL key nonce n) = V := ⟨_, rfl⟩
  have hVs : V.size = 16 := by rw [← hV, vec_size, firstL_len n hk hn]
  have hVo : V.all (·.oneCell') = true := by rw [← hV]; exact vec_one _
  have HV := Lib.hid (And.intro hV (And.intro hVs hVo))
  have HK := Lib.hid (And.intro hk hn)
  have HG := Lib.hid hG
  obtain ⟨l, hl⟩ : ∃ l, s.data.toList = l := ⟨_, rfl⟩
  have hll : l.length = s.size := by rw [← hl]; simp
  have HL := Lib.hid (And.intro hl hll)
  obtain ⟨H, hH⟩ : ∃ H : Nat → List UInt8, (fun k => hideTo key nonce n l k) = H := ⟨_, rfl⟩
  obtain ⟨out, hout⟩ : ∃ out, hideB key nonce n s = out := ⟨_, rfl⟩
  have HO : Hid ((⟨(H s.size).toArray⟩ : ByteArray) = out) := Lib.hid (by rw [← hout, ← hH, ← hl]; rfl)
  have HHl : Hid (∀ k, (H k).length = s.size) := Lib.hid (fun k => by rw [← hH, ← hll]; exact hideTo_len _ _ _ _ _)
  rw [hout]
  have tE := toList_some hpos
  obtain ⟨m, hm⟩ : ∃ m, n + (s.size + 63) / 64 - 1 = m := ⟨_, rfl⟩
  have hm1 : m ≤ 2000 := by omega
  have hmi : (n : Int) + ((s.size : Int) + 64 - 1) / 64 - 1 = (m : Int) := by omega
  have HW := Lib.hid (words_is (L := [m]) (by intro x hx; simp at hx; omega))
  have HM := Lib.hid (And.intro hmi hm)
  clear hm hmi
  have HH := Lib.hid hH
  clear hZ hZs hisz hV hVs hVo hk hn hG hl hll hout hH
  go_enter Tryz.func115, Tryz.ntmps115
  go_wp2_with fail
  go_step3
  go_wp2_with fail
  refine (first_good key nonce n w HK.out.1 HK.out.2 (by omega)).mono ?_
  rintro e w1 ⟨rfl, hb1⟩
  rw [HV.out.1]
  have hB1 := Lib.hid hb1
  have hz1 := hb1.size
  clear hb1
  go_wp2_with (first
    | (refine wpList_store_rowTo rfl 178 (.tmp 10) (.tmp 22) rfl rfl w1.heap.size V rfl rfl 178 Z (Blk.new _ _ _) (by rw [HV.out.2.1]; exact HI.out) (by rw [HV.out.2.1, HZs.out]) HV.out.2.2 ?_; rw [World.setRow_alloc_new]))
  rw [HM.out.1]
  refine (is_any (ints [m]) (some ⟨w1.heap.size + 1, 0, none⟩) 1 1 _ (slr_new w1 [m] (Blk.new_at (by simp) _ _) (by simp)) (by omega)).mono ?_
  rintro e w2 ⟨rfl, hw2⟩
  rw [HW.out]
  have hB2 : Below w1.heap.size w1 w2 := by rw [← hw2]; go_grown
  clear hw2
  have hcv := run_bytes_of_string (P := Tryz.prog) w2 9 113 5 s Tryz.underlying9 Tryz.underlying113 Tryz.underlying5
  obtain ⟨cp, hcp⟩ : ∃ cp, grownCap w2 s.size 0 5 = cp := ⟨_, rfl⟩
  rw [hcp] at hcv
  obtain ⟨B, hB⟩ : ∃ B, bytesRow s cp = B := ⟨_, rfl⟩
  rw [hB] at hcv
  have hC0 := crow_new w2.drew s cp hB
  rw [HL.out.1] at hC0
  have hH0 : H 0 = l := by rw [← HH.out]; exact hideTo_zero _ _ _ _
  rw [← hH0] at hC0
  clear hcp hB hH0
  go_wp2_with fail
  have hCd : CRow (w2.alloc (.cells B 5 (B.size, B.size + 1))).drew w2.heap.size (H 0) := hC0
  have hBd : Below w2.heap.size w2 (w2.alloc (.cells B 5 (B.size, B.size + 1))).drew := by go_grown
  generalize (w2.alloc (.cells B 5 (B.size, B.size + 1))).drew = wz at hCd hBd ⊢
  have HCd : Hid (CRow wz w2.heap.size (H (min 0 s.size))) := Lib.hid (by rw [Nat.zero_min]; exact hCd)
  have hz2 := hB2.size
  have HB2 : Hid (Below w.heap.size w w2) := Lib.hid (hB1.out.trans (hB2.mono hz1))
  have HG2 : Hid (Turns w2) := Lib.hid (HG.out.below HB2.out HG.out.pos)
  clear hC0 hcv hB2 tE hCd hm1
  go_step3
  go_wp2_with fail
  go_loopw [13] (fun iv wr => ∃ i q : Nat, Hid (i = 64 * q) ∧ i ≤ s.size + 63 ∧ iv = .int .i64 i ∧ Hid (CRow wr w2.heap.size (H (min i s.size))) ∧ Below w2.heap.size w2 wr) (fun iv _ => s.size + 100 - (intOf iv).toNat)
  case atStart => exact ⟨0, 0, rfl, by omega, rfl, HCd, hBd⟩
  case round =>
    obtain ⟨i, q, HI2, hi, rfl, HR, hBr⟩ := hrel
    clear HCd hBd
    have hszr := hBr.size
    by_cases hlt : i < s.size
    · have hdiv : (i : Int) / 64 = (q : Int) := by have := HI2.out; omega
      obtain ⟨r, hr⟩ : ∃ r, n + q = r := ⟨_, rfl⟩
      have hri : (n : Int) + (q : Int) = (r : Int) := by omega
      have hq9 : q ≤ 100 := by have := HI2.out; omega
      have hrb : r < 4294967296 := by omega
      obtain ⟨Mk, hMk⟩ : ∃ Mk, blockB key nonce r = Mk := ⟨_, rfl⟩
      have hMs : Mk.size = 64 := by rw [← hMk]; exact blockB_size r HK.out.1 HK.out.2
      have HMK := Lib.hid (And.intro hMk (And.intro hMs hr))
      have HR0 : Hid (CRow wr w2.heap.size (H (i + 0))) := Lib.hid (by have := HR.out; rwa [Nat.min_eq_left (by omega)] at this)
      have HBr := Lib.hid hBr
      obtain ⟨wo, hwo⟩ : ∃ W : World, W = wr := ⟨wr, rfl⟩
      clear hMk hMs hr HR hBr hwo
      go_wp2_with fail
      refine (block_good key nonce r wr HK.out.1 HK.out.2 hrb (HG2.out.below HBr.out HG2.out.pos)).mono ?_
      rintro e w5 ⟨rfl, hb5⟩
      rw [HMK.out.1]
      have HR5 : Hid (CRow w5 w2.heap.size (H (i + 0))) := Lib.hid (HR0.out.below hb5 HR0.out.lt)
      have HB5 : Below w2.heap.size w2 w5 := HBr.out.trans (hb5.mono HBr.out.size)
      clear hb5 HR0 HBr hri hdiv
      go_wp2_with fail
      go_loopw [62] (fun kv wr => ∃ k : Nat, k ≤ 64 ∧ i + k ≤ s.size ∧ kv = .int .i64 k ∧ Hid (CRow wr w2.heap.size (H (i + k))) ∧ Below w2.heap.size w2 wr) (fun kv _ => 64 - (intOf kv).toNat)
      case atStart => exact ⟨0, by omega, by omega, rfl, HR5, HB5⟩
      case round =>
        obtain ⟨k, hk64, hik, rfl, HRk, hBk⟩ := hrel
        clear HR5 HB5
        have hszk := hBk.size
        by_cases hk : k < 64
        · obtain ⟨j, hj⟩ : ∃ j, i + k = j := ⟨_, rfl⟩
          have hji : (i : Int) + (k : Int) = (j : Int) := by omega
          rw [hj] at HRk hik
          have HJ := Lib.hid hj
          clear hj
          by_cases he : j = s.size
          · have t1 : ((j : Int) == (s.size : Int)) = true := by simp; omega
            have hfin := HRk.out
            rw [he] at hfin
            have hcv2 := run_crow 113 9 5 Tryz.underlying113 Tryz.underlying5 Tryz.underlying9 (c := cp) (HHl.out s.size) hfin
            rw [HO.out] at hcv2
            clear hfin he
            go_wp2_with fail
            all_goals (try rw [Exit.noGoto_ret])
            all_goals go_ret2
            all_goals exact ⟨rfl, HB2.out.trans (hBk.mono HB2.out.size)⟩
          · have t1 : ((j : Int) == (s.size : Int)) = false := by simp; omega
            have hjl : j < s.size := by omega
            have hx : (H j)[j]? = some (l.getD j 0) := by
              rw [← HH.out]
              show (hideTo key nonce n l j)[j]? = _
              rw [hideTo_get _ _ _ _ _ _ (by rw [HL.out.2]; exact hjl), if_neg (Nat.lt_irrefl j)]
            have hmk : maskAt key nonce n j = Mk[k]'(by rw [HMK.out.2.1]; exact hk) := by
              have h1 : j / 64 = q := by have := HJ.out; have := HI2.out; omega
              have h2 : j % 64 = k := by have := HJ.out; have := HI2.out; omega
              have h3 : blockB key nonce (n + q) = Mk := by rw [HMK.out.2.2]; exact HMK.out.1
              rw [maskAt, h1, h2, h3, get_list]
            have HN : Hid ((H j).set j (l.getD j 0 ^^^ Mk[k]'(by rw [HMK.out.2.1]; exact hk)) = H (j + 1)) := Lib.hid (by
              rw [← hmk, ← HH.out]
              exact hideTo_succ _ _ _ _ _ (by rw [HL.out.2]; exact hjl))
            have hks : k < Mk.size := by rw [HMK.out.2.1]; exact hk
            obtain ⟨x, hxe⟩ : ∃ x, l.getD j 0 = x := ⟨_, rfl⟩
            rw [hxe] at hx HN
            have cb := HRk.out.get hx
            have fb := HRk.out.free (i := j) (by rw [HHl.out]; exact hjl)
            have hlb := x.toNat_lt
            have hmb := (Mk[k]'hks).toNat_lt
            have hxr := u8_xorv x (Mk[k]'hks)
            simp only [vB] at cb
            have j0 : (0 : Int) ≤ j := by omega
            have j1 : (j : Int) < s.size := by omega
            have hgl := HRk.out.lt
            clear hx hmk hxe
            go_upto_region 17 with (fail)
            go_region
            have hv : vB (x ^^^ Mk[k]'hks) = .int .u8 ((x.toNat ^^^ (Mk[k]'hks).toNat : Nat) : Int) := by unfold vB; rw [UInt8.toNat_xor]
            have HE : Hid (CRow (wr.setCell ⟨w2.heap.size, j, none⟩ (.int .u8 ((x.toNat ^^^ (Mk[k]'hks).toNat : Nat) : Int))).drew w2.heap.size (H (i + (k + 1)))) := Lib.hid (by
              have := (HRk.out.set_ j (x ^^^ Mk[k]'hks)).drew
              rw [HN.out, hv] at this
              rw [show i + (k + 1) = j + 1 by have := HJ.out; omega]
              exact this)
            have HBE : Below w2.heap.size w2 (wr.setCell ⟨w2.heap.size, j, none⟩ (.int .u8 ((x.toNat ^^^ (Mk[k]'hks).toNat : Nat) : Int))).drew := (hBk.setCell (Nat.le_refl _) _).drew
            have hik2 : i + (k + 1) ≤ s.size := by have := HJ.out; omega
            generalize (wr.setCell ⟨w2.heap.size, j, none⟩ (.int .u8 ((x.toNat ^^^ (Mk[k]'hks).toNat : Nat) : Int))).drew = wn at HE HBE ⊢
            clear hv hxr hmb HN HRk cb fb hBk
            go_wp2_with fail
            go_roundw
            case rel => exact ⟨k + 1, by omega, hik2, by go_num, HE, HBE⟩
            case measure => simp [intOf]; omega
        · obtain rfl : k = 64 := by omega
          have HE : Hid (CRow wr w2.heap.size (H (min (i + 64) s.size))) := Lib.hid (by rw [Nat.min_eq_left hik]; exact HRk.out)
          have HI3 : Hid (i + 64 = 64 * (q + 1)) := Lib.hid (by have := HI2.out; omega)
          clear HRk
          go_wp2_with fail
          go_roundw
          case rel => exact ⟨i + 64, q + 1, HI3, by omega, by go_num, HE, hBk⟩
          case measure => simp [intOf]; omega
    · have hfin := HR.out
      rw [Nat.min_eq_right (by omega)] at hfin
      have hcv2 := run_crow 113 9 5 Tryz.underlying113 Tryz.underlying5 Tryz.underlying9 (c := cp) (HHl.out s.size) hfin
      rw [HO.out] at hcv2
      clear hfin HR
      go_wp2_with fail
      all_goals (try rw [Exit.noGoto_ret])
      all_goals go_ret2
      all_goals exact ⟨rfl, HB2.out.trans (hBr.mono HB2.out.size)⟩
theorem hide_empty (key nonce : ByteArray) (n : Nat) : hideB key nonce n ⟨#[]⟩ = ⟨#[]⟩ := rfl
set_option maxRecDepth 100000 in
set_option maxHeartbeats 4000000 in
theorem crypt_empty (key nonce : ByteArray) (n : Nat) (w : World) (hk : key.size = 32) (hn : nonce.size = 12) (hw : n ≤ 1000) :
    Calls Tryz.prog 115 #[.string key, .string nonce, .int .i64 n, .string ⟨#[]⟩] w fun e w' => e = .returned (.tuple #[.string ⟨#[]⟩, .int .i64 0]) ∧ Below w.heap.size w w' := by
  obtain ⟨hz, hisz⟩ := zero_of_info w16_info
  obtain ⟨Z, hZ⟩ : ∃ Z : Array Value, (List.replicate 16 (Value.int .i64 0)).toArray = Z := ⟨_, rfl⟩
  rw [hZ] at hz
  have hZs : Z.size = 16 := by rw [← hZ, List.size_toArray, List.length_replicate]
  have HZs := Lib.hid hZs
  have HI := Lib.hid hisz
  obtain ⟨V, hV⟩ : ∃ V, vec (firstL key nonce n) = V := ⟨_, rfl⟩
  have hVs : V.size = 16 := by rw [← hV, vec_size, firstL_len n hk hn]
  have hVo : V.all (·.oneCell') = true := by rw [← hV]; exact vec_one _
  have HV := Lib.hid (And.intro hV (And.intro hVs hVo))
  have HK := Lib.hid (And.intro hk hn)
  clear hZ hZs hisz hV hVs hVo hk hn
  go_enter Tryz.func115, Tryz.ntmps115
  go_wp2_with fail
  go_step3
  go_wp2_with fail
  refine (first_good key nonce n w HK.out.1 HK.out.2 (by omega)).mono ?_
  rintro e w1 ⟨rfl, hb1⟩
  rw [HV.out.1]
  have hB1 := Lib.hid hb1
  have hz1 := hb1.size
  clear hb1
  have hcv := run_bytes_of_string (P := Tryz.prog) (w1.alloc (.cells V 178)) 9 113 5 ⟨#[]⟩ Tryz.underlying9 Tryz.underlying113 Tryz.underlying5
  obtain ⟨cp, hcp⟩ : ∃ cp, grownCap (w1.alloc (.cells V 178)) (⟨#[]⟩ : ByteArray).size 0 5 = cp := ⟨_, rfl⟩
  rw [hcp] at hcv
  obtain ⟨B, hB⟩ : ∃ B, bytesRow ⟨#[]⟩ cp = B := ⟨_, rfl⟩
  rw [hB] at hcv
  have hC0 : CRow ((w1.alloc (.cells V 178)).drew.alloc (.cells B 5 (B.size, B.size + 1))) (w1.heap.size + 1) [] := by
    have := crow_new (w1.alloc (.cells V 178)).drew ⟨#[]⟩ cp hB
    have h2 : (w1.alloc (.cells V 178)).drew.heap.size = w1.heap.size + 1 := by simp
    rw [h2] at this
    exact this
  have HC0 := Lib.hid hC0
  clear hcp hB hC0
  go_wp2_with (first
    | (refine wpList_store_rowTo rfl 178 (.tmp 10) (.tmp 22) rfl rfl w1.heap.size V rfl rfl 178 Z (Blk.new _ _ _) (by rw [HV.out.2.1]; exact HI.out) (by rw [HV.out.2.1, HZs.out]) HV.out.2.2 ?_; rw [World.setRow_alloc_new]))
  go_step3
  go_wp2_with fail
  have hW : CRow ((w1.alloc (.cells V 178)).alloc (.cells B 5 (B.size, B.size + 1))).drew (w1.heap.size + 1) [] := HC0.out
  have hBW : Below w1.heap.size w1 ((w1.alloc (.cells V 178)).alloc (.cells B 5 (B.size, B.size + 1))).drew := by go_grown
  generalize ((w1.alloc (.cells V 178)).alloc (.cells B 5 (B.size, B.size + 1))).drew = wz at hW hBW ⊢
  have HW := Lib.hid (And.intro hW hBW)
  clear hW hBW hcv
  go_loopw [13] (fun iv wr => iv = .int .i64 0 ∧ wr = wz) (fun iv _ => 1 - (intOf iv).toNat)
  case atStart => exact ⟨rfl, rfl⟩
  case round =>
    obtain ⟨rfl, rfl⟩ := hrel
    have hcv2 := run_crow (L := []) 113 9 5 Tryz.underlying113 Tryz.underlying5 Tryz.underlying9 (c := cp) (n := 0) rfl HW.out.1
    go_wp2_with fail
    all_goals (try rw [Exit.noGoto_ret])
    all_goals go_ret2
    all_goals exact ⟨rfl, hB1.out.trans (HW.out.2.mono hz1)⟩
/-- what is hidden, at most 4000 bytes of it -/
theorem crypt_any (key nonce s : ByteArray) (n : Nat) (w : World) (hk : key.size = 32) (hn : nonce.size = 12) (hs : s.size ≤ 4000) (hw : n ≤ 1000) (hG : Turns w) :
    Calls Tryz.prog 115 #[.string key, .string nonce, .int .i64 n, .string s] w fun e w' => e = .returned (.tuple #[.string (hideB key nonce n s), .int .i64 0]) ∧ Below w.heap.size w w' := by
  by_cases h : 0 < s.size
  · exact crypt_good key nonce s n w hk hn hs h hw hG
  · have he : s = ⟨#[]⟩ := by
      cases s with
      | mk d =>
        have : d.size = 0 := by show (⟨d⟩ : ByteArray).size = 0; omega
        rw [Array.size_eq_zero_iff.1 this]
    subst he
    rw [hide_empty]
    exact crypt_empty key nonce n w hk hn hw
end Go.Proofs.YtpkomloblhbkiaaGreatDoor
