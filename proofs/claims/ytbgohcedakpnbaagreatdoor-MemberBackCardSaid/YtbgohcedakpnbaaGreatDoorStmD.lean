/- stream: Crypt. -/
import Derived.Test.YtbgohcedakpnbaaGreatDoorStmC
import Derived.Test.YtbgohcedakpnbaaGreatDoorTagH
import Derived.WalkMore
set_option linter.unusedVariables false
namespace Go.Proofs.YtbgohcedakpnbaaGreatDoor
open Go.RowKit
theorem u8_xorv (a b : UInt8) : bits .xor .u8 ((a.toNat : Nat) : Int) ((b.toNat : Nat) : Int) = (((a ^^^ b).toNat : Nat) : Int) := by
  have ha := UInt8.toNat_lt a
  have hb := UInt8.toNat_lt b
  have hx : a.toNat ^^^ b.toNat < 2 ^ 8 := Nat.xor_lt_two_pow (by omega) (by omega)
  show IntKind.u8.wrap ((BitVec.ofInt 8 (a.toNat : Int) ^^^ BitVec.ofInt 8 (b.toNat : Int)).toNat : Int) = _
  rw [BitVec.toNat_xor, BitVec.ofInt_natCast, BitVec.ofInt_natCast, BitVec.toNat_ofNat, BitVec.toNat_ofNat, Nat.mod_eq_of_lt (by omega : a.toNat < 2 ^ 8), Nat.mod_eq_of_lt (by omega : b.toNat < 2 ^ 8), UInt8.toNat_xor]
  simp only [IntKind.wrap, IntKind.bits, IntKind.signed]
  simp
  omega
theorem toList_some {s : ByteArray} (h : 0 < s.size) : s.toList.isEmpty = false := by
  rw [List.isEmpty_eq_false_iff]
  intro he
  have : s = ⟨#[]⟩ := bytes_ext (by rw [he]; kernel_rfl)
  rw [this] at h
  exact absurd h (by decide)
theorem get_list (s : ByteArray) (k : Nat) (h : k < s.size) : s.data.toList.getD k 0 = s[k] := by
  rw [List.getD_eq_getElem?_getD, List.getElem?_eq_getElem (by simpa using h)]
  rfl
theorem crypt_bad (key nonce s : ByteArray) (n : Nat) (w : World) (h : key.size ≠ 32 ∨ nonce.size ≠ 12) (hw : n < 4294967296) :
    Calls Tryz.prog 35 #[.string key, .string nonce, .int .i64 n, .string s] w fun e w' => e = .returned (.tuple #[.string ⟨#[]⟩, .int .i64 1]) ∧ Below w.heap.size w w' := by
  obtain ⟨hz, hisz⟩ := zero_of_info w16_info
  obtain ⟨Z, hZ⟩ : ∃ Z : Array Value, (List.replicate 16 (Value.int .i64 0)).toArray = Z := ⟨_, rfl⟩
  have hZ2 : zero16 = Z := hZ
  have hZo : Z.all (·.oneCell') = true := by
    rw [← hZ]
    exact all_oneCell_toArray fun v hv => by rw [List.eq_of_mem_replicate hv]; rfl
  rw [hZ] at hz
  have hZs : Z.size = 16 := by rw [← hZ, List.size_toArray, List.length_replicate]
  have HZs := Lib.hid (And.intro hZs hZo)
  have HI := Lib.hid hisz
  have HZ2 := Lib.hid hZ2
  clear hZ hZ2 hZo hZs hisz
  go_enter Tryz.func35, Tryz.ntmps35
  go_wp2_with fail
  go_step3
  go_wp2_with fail
  refine (first_bad key nonce n w h hw).mono ?_
  rintro e w1 ⟨rfl, hb1⟩
  rw [HZ2.out]
  have hz1 := hb1.size
  go_wp2_with (first
    | (refine wpList_store_rowTo rfl 76 (.tmp 10) (.tmp 22) rfl rfl w1.heap.size Z rfl rfl 76 Z (Blk.new _ _ _) (by rw [HZs.out.1]; exact HI.out) rfl HZs.out.2 ?_; rw [World.setRow_alloc_new]))
  rw [Exit.noGoto_ret]
  go_ret2
  exact ⟨rfl, hb1.alloc hz1 _⟩
set_option maxRecDepth 100000 in
set_option maxHeartbeats 4000000 in
theorem crypt_good (key nonce s : ByteArray) (n : Nat) (w : World) (hk : key.size = 32) (hn : nonce.size = 12) (hs : s.size ≤ 4000) (hpos : 0 < s.size) (hw : n ≤ 1000) (hG : Turns w) :
    Calls Tryz.prog 35 #[.string key, .string nonce, .int .i64 n, .string s] w fun e w' => e = .returned (.tuple #[.string (hideB key nonce n s), .int .i64 0]) ∧ Below w.heap.size w w' := by
  obtain ⟨hz, hisz⟩ := zero_of_info w16_info
  obtain ⟨Z, hZ⟩ : ∃ Z : Array Value, (List.replicate 16 (Value.int .i64 0)).toArray = Z := ⟨_, rfl⟩
  rw [hZ] at hz
  have hZs : Z.size = 16 := by rw [← hZ, List.size_toArray, List.length_replicate]
  have HZs := Lib.hid hZs
  have HI := Lib.hid hisz
  obtain ⟨V, hV⟩ : ∃ V, vec (firstL key nonce n) = V := ⟨_, rfl⟩
  have hVs : V.size = 16 := by rw [← hV, vec_size, firstL_len n hk hn]
  have hVo : V.all (·.oneCell') = true := by rw [← hV]; exact vec_one _
  have HV := Lib.hid (And.intro hV (And.intro hVs hVo))
  have HK := Lib.hid (And.intro hk hn)
  have HG := Lib.hid hG
  obtain ⟨l, hl⟩ : ∃ l, s.data.toList = l := ⟨_, rfl⟩
  have hll : l.length = s.size := by rw [← hl]; simp
  have HL := Lib.hid (And.intro hl hll)
  obtain ⟨H, hH⟩ : ∃ H : Nat → List UInt8, (fun k => hideTo key nonce n l k) = H := ⟨_, rfl⟩
  obtain ⟨out, hout⟩ : ∃ out, hideB key nonce n s = out := ⟨_, rfl⟩
  have HO : Hid ((⟨(H s.size).toArray⟩ : ByteArray) = out) := Lib.hid (by rw [← hout, ← hH, ← hl]; rfl)
  have HHl : Hid (∀ k, (H k).length = s.size) := Lib.hid (fun k => by rw [← hH, ← hll]; exact hideTo_len _ _ _ _ _)
  rw [hout]
  have tE := toList_some hpos
  obtain ⟨m, hm⟩ : ∃ m, n + (s.size + 63) / 64 - 1 = m := ⟨_, rfl⟩
  have hm1 : m ≤ 2000 := by omega
  have hmi : (n : Int) + ((s.size : Int) + 64 - 1) / 64 - 1 = (m : Int) := by omega
  have HW := Lib.hid (words_is (L := [m]) (by intro x hx; simp at hx; omega))
  have HM := Lib.hid (And.intro hmi hm)
  clear hm hmi
  have HH := Lib.hid hH
  clear hZ hZs hisz hV hVs hVo hk hn hG hl hll hout hH
  go_enter Tryz.func35, Tryz.ntmps35
  go_wp2_with fail
  go_step3
  go_wp2_with fail
  refine (first_good key nonce n w HK.out.1 HK.out.2 (by omega)).mono ?_
  rintro e w1 ⟨rfl, hb1⟩
  rw [HV.out.1]
  have hB1 := Lib.hid hb1
  have hz1 := hb1.size
  clear hb1
  go_wp2_with (first
    | (refine wpList_store_rowTo rfl 76 (.tmp 10) (.tmp 22) rfl rfl w1.heap.size V rfl rfl 76 Z (Blk.new _ _ _) (by rw [HV.out.2.1]; exact HI.out) (by rw [HV.out.2.1, HZs.out]) HV.out.2.2 ?_; rw [World.setRow_alloc_new]))
  rw [HM.out.1]
  refine (is_any (ints [m]) (some ⟨w1.heap.size + 1, 0, none⟩) 1 1 _ (slr_new w1 [m] (Blk.new_at (by simp) _ _) (by simp)) (by omega)).mono ?_
  rintro e w2 ⟨rfl, hw2⟩
  rw [HW.out]
  have hB2 : Below w1.heap.size w1 w2 := by rw [← hw2]; go_grown
  clear hw2
  have hcv := run_bytes_of_string (P := Tryz.prog) w2 9 37 5 s Tryz.underlying9 Tryz.underlying37 Tryz.underlying5
  obtain ⟨cp, hcp⟩ : ∃ cp, grownCap w2 s.size 0 5 = cp := ⟨_, rfl⟩
  rw [hcp] at hcv
  obtain ⟨B, hB⟩ : ∃ B, bytesRow s cp = B := ⟨_, rfl⟩
  rw [hB] at hcv
  have hC0 := crow_new w2.drew s cp hB
  rw [HL.out.1] at hC0
  have hH0 : H 0 = l := by rw [← HH.out]; exact hideTo_zero _ _ _ _
  rw [← hH0] at hC0
  clear hcp hB hH0
  go_wp2_with fail
  have hCd : CRow (w2.alloc (.cells B 5 (B.size, B.size + 1))).drew w2.heap.size (H 0) := hC0
  have hBd : Below w2.heap.size w2 (w2.alloc (.cells B 5 (B.size, B.size + 1))).drew := by go_grown
  generalize (w2.alloc (.cells B 5 (B.size, B.size + 1))).drew = wz at hCd hBd ⊢
  have HCd : Hid (CRow wz w2.heap.size (H (min 0 s.size))) := Lib.hid (by rw [Nat.zero_min]; exact hCd)
  have hz2 := hB2.size
  have HB2 : Hid (Below w.heap.size w w2) := Lib.hid (hB1.out.trans (hB2.mono hz1))
  have HG2 : Hid (Turns w2) := Lib.hid (HG.out.below HB2.out HG.out.pos)
  clear hC0 hcv hB2 tE hCd hm1
  go_step3
  go_wp2_with fail
  go_loopw [13] (fun iv wr => ∃ i q : Nat, Hid (i = 64 * q) ∧ i ≤ s.size + 63 ∧ iv = .int .i64 i ∧ Hid (CRow wr w2.heap.size (H (min i s.size))) ∧ Below w2.heap.size w2 wr) (fun iv _ => s.size + 100 - (intOf iv).toNat)
  case atStart => exact ⟨0, 0, rfl, by omega, rfl, HCd, hBd⟩
  case round =>
    obtain ⟨i, q, HI2, hi, rfl, HR, hBr⟩ := hrel
    clear HCd hBd
    have hszr := hBr.size
    by_cases hlt : i < s.size
    · have hdiv : (i : Int) / 64 = (q : Int) := by have := HI2.out; omega
      obtain ⟨r, hr⟩ : ∃ r, n + q = r := ⟨_, rfl⟩
      have hri : (n : Int) + (q : Int) = (r : Int) := by omega
      have hq9 : q ≤ 100 := by have := HI2.out; omega
      have hrb : r < 4294967296 := by omega
      obtain ⟨Mk, hMk⟩ : ∃ Mk, blockB key nonce r = Mk := ⟨_, rfl⟩
      have hMs : Mk.size = 64 := by rw [← hMk]; exact blockB_size r HK.out.1 HK.out.2
      have HMK := Lib.hid (And.intro hMk (And.intro hMs hr))
      have HR0 : Hid (CRow wr w2.heap.size (H (i + 0))) := Lib.hid (by have := HR.out; rwa [Nat.min_eq_left (by omega)] at this)
      have HBr := Lib.hid hBr
      obtain ⟨wo, hwo⟩ : ∃ W : World, W = wr := ⟨wr, rfl⟩
      clear hMk hMs hr HR hBr hwo
      go_wp2_with fail
      refine (block_good key nonce r wr HK.out.1 HK.out.2 hrb (HG2.out.below HBr.out HG2.out.pos)).mono ?_
      rintro e w5 ⟨rfl, hb5⟩
      rw [HMK.out.1]
      have HR5 : Hid (CRow w5 w2.heap.size (H (i + 0))) := Lib.hid (HR0.out.below hb5 HR0.out.lt)
      have HB5 : Below w2.heap.size w2 w5 := HBr.out.trans (hb5.mono HBr.out.size)
      clear hb5 HR0 HBr hri hdiv
      go_wp2_with fail
      go_loopw [62] (fun kv wr => ∃ k : Nat, k ≤ 64 ∧ i + k ≤ s.size ∧ kv = .int .i64 k ∧ Hid (CRow wr w2.heap.size (H (i + k))) ∧ Below w2.heap.size w2 wr) (fun kv _ => 64 - (intOf kv).toNat)
      case atStart => exact ⟨0, by omega, by omega, rfl, HR5, HB5⟩
      case round =>
        obtain ⟨k, hk64, hik, rfl, HRk, hBk⟩ := hrel
        clear HR5 HB5
        have hszk := hBk.size
        by_cases hk : k < 64
        · obtain ⟨j, hj⟩ : ∃ j, i + k = j := ⟨_, rfl⟩
          have hji : (i : Int) + (k : Int) = (j : Int) := by omega
          rw [hj] at HRk hik
          have HJ := Lib.hid hj
          clear hj
          by_cases he : j = s.size
          · have t1 : ((j : Int) == (s.size : Int)) = true := by simp; omega
            have hfin := HRk.out
            rw [he] at hfin
            have hcv2 := run_crow 37 9 5 Tryz.underlying37 Tryz.underlying5 Tryz.underlying9 (c := cp) (HHl.out s.size) hfin
            rw [HO.out] at hcv2
            clear hfin he
            go_wp2_with fail
            all_goals (try rw [Exit.noGoto_ret])
            all_goals go_ret2
            all_goals exact ⟨rfl, HB2.out.trans (hBk.mono HB2.out.size)⟩
          · have t1 : ((j : Int) == (s.size : Int)) = false := by simp; omega
            have hjl : j < s.size := by omega
            have hx : (H j)[j]? = some (l.getD j 0) := by
              rw [← HH.out]
              show (hideTo key nonce n l j)[j]? = _
              rw [hideTo_get _ _ _ _ _ _ (by rw [HL.out.2]; exact hjl), if_neg (Nat.lt_irrefl j)]
            have hmk : maskAt key nonce n j = Mk[k]'(by rw [HMK.out.2.1]; exact hk) := by
              have h1 : j / 64 = q := by have := HJ.out; have := HI2.out; omega
              have h2 : j % 64 = k := by have := HJ.out; have := HI2.out; omega
              have h3 : blockB key nonce (n + q) = Mk := by rw [HMK.out.2.2]; exact HMK.out.1
              rw [maskAt, h1, h2, h3, get_list]
            have HN : Hid ((H j).set j (l.getD j 0 ^^^ Mk[k]'(by rw [HMK.out.2.1]; exact hk)) = H (j + 1)) := Lib.hid (by
              rw [← hmk, ← HH.out]
              exact hideTo_succ _ _ _ _ _ (by rw [HL.out.2]; exact hjl))
            have hks : k < Mk.size := by rw [HMK.out.2.1]; exact hk
            obtain ⟨x, hxe⟩ : ∃ x, l.getD j 0 = x := ⟨_, rfl⟩
            rw [hxe] at hx HN
            have cb := HRk.out.get hx
            have fb := HRk.out.free (i := j) (by rw [HHl.out]; exact hjl)
            have hlb := x.toNat_lt
            have hmb := (Mk[k]'hks).toNat_lt
            have hxr := u8_xorv x (Mk[k]'hks)
            simp only [vB] at cb
            have j0 : (0 : Int) ≤ j := by omega
            have j1 : (j : Int) < s.size := by omega
            have hgl := HRk.out.lt
            clear hx hmk hxe
            go_upto_region 17 with (fail)
            go_region
            have hv : vB (x ^^^ Mk[k]'hks) = .int .u8 ((x.toNat ^^^ (Mk[k]'hks).toNat : Nat) : Int) := by unfold vB; rw [UInt8.toNat_xor]
            have HE : Hid (CRow (wr.setCell ⟨w2.heap.size, j, none⟩ (.int .u8 ((x.toNat ^^^ (Mk[k]'hks).toNat : Nat) : Int))).drew w2.heap.size (H (i + (k + 1)))) := Lib.hid (by
              have := (HRk.out.set_ j (x ^^^ Mk[k]'hks)).drew
              rw [HN.out, hv] at this
              rw [show i + (k + 1) = j + 1 by have := HJ.out; omega]
              exact this)
            have HBE : Below w2.heap.size w2 (wr.setCell ⟨w2.heap.size, j, none⟩ (.int .u8 ((x.toNat ^^^ (Mk[k]'hks).toNat : Nat) : Int))).drew := (hBk.setCell (Nat.le_refl _) _).drew
            have hik2 : i + (k + 1) ≤ s.size := by have := HJ.out; omega
            generalize (wr.setCell ⟨w2.heap.size, j, none⟩ (.int .u8 ((x.toNat ^^^ (Mk[k]'hks).toNat : Nat) : Int))).drew = wn at HE HBE ⊢
            clear hv hxr hmb HN HRk cb fb hBk
            go_wp2_with fail
            go_roundw
            case rel => exact ⟨k + 1, by omega, hik2, by go_num, HE, HBE⟩
            case measure => simp [intOf]; omega
        · obtain rfl : k = 64 := by omega
          have HE : Hid (CRow wr w2.heap.size (H (min (i + 64) s.size))) := Lib.hid (by rw [Nat.min_eq_left hik]; exact HRk.out)
          have HI3 : Hid (i + 64 = 64 * (q + 1)) := Lib.hid (by have := HI2.out; omega)
          clear HRk
          go_wp2_with fail
          go_roundw
          case rel => exact ⟨i + 64, q + 1, HI3, by omega, by go_num, HE, hBk⟩
          case measure => simp [intOf]; omega
    · have hfin := HR.out
      rw [Nat.min_eq_right (by omega)] at hfin
      have hcv2 := run_crow 37 9 5 Tryz.underlying37 Tryz.underlying5 Tryz.underlying9 (c := cp) (HHl.out s.size) hfin
      rw [HO.out] at hcv2
      clear hfin HR
      go_wp2_with fail
      all_goals (try rw [Exit.noGoto_ret])
      all_goals go_ret2
      all_goals exact ⟨rfl, HB2.out.trans (hBr.mono HB2.out.size)⟩
theorem hide_empty (key nonce : ByteArray) (n : Nat) : hideB key nonce n ⟨#[]⟩ = ⟨#[]⟩ := rfl
set_option maxRecDepth 100000 in
set_option maxHeartbeats 4000000 in
theorem crypt_empty (key nonce : ByteArray) (n : Nat) (w : World) (hk : key.size = 32) (hn : nonce.size = 12) (hw : n ≤ 1000) :
    Calls Tryz.prog 35 #[.string key, .string nonce, .int .i64 n, .string ⟨#[]⟩] w fun e w' => e = .returned (.tuple #[.string ⟨#[]⟩, .int .i64 0]) ∧ Below w.heap.size w w' := by
  obtain ⟨hz, hisz⟩ := zero_of_info w16_info
  obtain ⟨Z, hZ⟩ : ∃ Z : Array Value, (List.replicate 16 (Value.int .i64 0)).toArray = Z := ⟨_, rfl⟩
  rw [hZ] at hz
  have hZs : Z.size = 16 := by rw [← hZ, List.size_toArray, List.length_replicate]
  have HZs := Lib.hid hZs
  have HI := Lib.hid hisz
  obtain ⟨V, hV⟩ : ∃ V, vec (firstL key nonce n) = V := ⟨_, rfl⟩
  have hVs : V.size = 16 := by rw [← hV, vec_size, firstL_len n hk hn]
  have hVo : V.all (·.oneCell') = true := by rw [← hV]; exact vec_one _
  have HV := Lib.hid (And.intro hV (And.intro hVs hVo))
  have HK := Lib.hid (And.intro hk hn)
  clear hZ hZs hisz hV hVs hVo hk hn
  go_enter Tryz.func35, Tryz.ntmps35
  go_wp2_with fail
  go_step3
  go_wp2_with fail
  refine (first_good key nonce n w HK.out.1 HK.out.2 (by omega)).mono ?_
  rintro e w1 ⟨rfl, hb1⟩
  rw [HV.out.1]
  have hB1 := Lib.hid hb1
  have hz1 := hb1.size
  clear hb1
  have hcv := run_bytes_of_string (P := Tryz.prog) (w1.alloc (.cells V 76)) 9 37 5 ⟨#[]⟩ Tryz.underlying9 Tryz.underlying37 Tryz.underlying5
  obtain ⟨cp, hcp⟩ : ∃ cp, grownCap (w1.alloc (.cells V 76)) (⟨#[]⟩ : ByteArray).size 0 5 = cp := ⟨_, rfl⟩
  rw [hcp] at hcv
  obtain ⟨B, hB⟩ : ∃ B, bytesRow ⟨#[]⟩ cp = B := ⟨_, rfl⟩
  rw [hB] at hcv
  have hC0 : CRow ((w1.alloc (.cells V 76)).drew.alloc (.cells B 5 (B.size, B.size + 1))) (w1.heap.size + 1) [] := by
    have := crow_new (w1.alloc (.cells V 76)).drew ⟨#[]⟩ cp hB
    have h2 : (w1.alloc (.cells V 76)).drew.heap.size = w1.heap.size + 1 := by simp
    rw [h2] at this
    exact this
  have HC0 := Lib.hid hC0
  clear hcp hB hC0
  go_wp2_with (first
    | (refine wpList_store_rowTo rfl 76 (.tmp 10) (.tmp 22) rfl rfl w1.heap.size V rfl rfl 76 Z (Blk.new _ _ _) (by rw [HV.out.2.1]; exact HI.out) (by rw [HV.out.2.1, HZs.out]) HV.out.2.2 ?_; rw [World.setRow_alloc_new]))
  go_step3
  go_wp2_with fail
  have hW : CRow ((w1.alloc (.cells V 76)).alloc (.cells B 5 (B.size, B.size + 1))).drew (w1.heap.size + 1) [] := HC0.out
  have hBW : Below w1.heap.size w1 ((w1.alloc (.cells V 76)).alloc (.cells B 5 (B.size, B.size + 1))).drew := by go_grown
  generalize ((w1.alloc (.cells V 76)).alloc (.cells B 5 (B.size, B.size + 1))).drew = wz at hW hBW ⊢
  have HW := Lib.hid (And.intro hW hBW)
  clear hW hBW hcv
  go_loopw [13] (fun iv wr => iv = .int .i64 0 ∧ wr = wz) (fun iv _ => 1 - (intOf iv).toNat)
  case atStart => exact ⟨rfl, rfl⟩
  case round =>
    obtain ⟨rfl, rfl⟩ := hrel
    have hcv2 := run_crow (L := []) 37 9 5 Tryz.underlying37 Tryz.underlying5 Tryz.underlying9 (c := cp) (n := 0) rfl HW.out.1
    go_wp2_with fail
    all_goals (try rw [Exit.noGoto_ret])
    all_goals go_ret2
    all_goals exact ⟨rfl, hB1.out.trans (HW.out.2.mono hz1)⟩
/-- what is hidden, at most 4000 bytes of it -/
theorem crypt_any (key nonce s : ByteArray) (n : Nat) (w : World) (hk : key.size = 32) (hn : nonce.size = 12) (hs : s.size ≤ 4000) (hw : n ≤ 1000) (hG : Turns w) :
    Calls Tryz.prog 35 #[.string key, .string nonce, .int .i64 n, .string s] w fun e w' => e = .returned (.tuple #[.string (hideB key nonce n s), .int .i64 0]) ∧ Below w.heap.size w w' := by
  by_cases h : 0 < s.size
  · exact crypt_good key nonce s n w hk hn hs h hw hG
  · have he : s = ⟨#[]⟩ := by
      cases s with
      | mk d =>
        have : d.size = 0 := by show (⟨d⟩ : ByteArray).size = 0; omega
        rw [Array.size_eq_zero_iff.1 this]
    subst he
    rw [hide_empty]
    exact crypt_empty key nonce n w hk hn hw
end Go.Proofs.YtbgohcedakpnbaaGreatDoor
