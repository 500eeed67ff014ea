/- the walks of chapter 3's laws. -/
import Derived.Test.YtkaaicmadknjcaaDoorKeyF
import Derived.Test.YtkaaicmadknjcaaDoorOrder
import Derived.Deep.RegionHeld
set_option linter.unusedVariables false
set_option linter.unusedSimpArgs false
namespace Go.Proofs.YtkaaicmadknjcaaDoor
open Go.RowKit
theorem lenSum_small {L : List ByteArray} (h : decide (400 < lenSum L) = false) {x : ByteArray} (hx : x ∈ L) : x.size ≤ 400 := by
  have h1 : lenSum L ≤ 400 := by simpa using h
  have h2 : x.size ≤ lenSum L := by
    clear h h1
    unfold lenSum
    induction L with
    | nil => cases hx
    | cons y L ih =>
      rw [List.map_cons, List.sum_cons]
      rcases List.mem_cons.1 hx with rfl | hx
      · omega
      · have := ih hx; omega
  omega
theorem keyedmacs_far (key s mac : ByteArray) (w : World) (hkey : key.size ≤ 140737488351232) (hs : s.size ≤ 140737488351232) (hmac : mac.size ≤ 140737488351232) (hf : decide (400 < lenSum [key, s, mac]) = true) :
    Calls Tryd.prog 10 #[.string key, .string s, .string mac] w fun e w' => e = .returned (.bool true) ∧ Below w.heap.size w w' := by
  have HF := Lib.hid hf
  have HL := Lib.hid (fun W hB hg => large3 key s mac w.heap.size W hB hg hkey hs hmac)
  clear hf hkey hs hmac
  go_enter Tryd.func10, Tryd.ntmps10
  go_wp2_with fail
  refine (HL.out _ (Blk.new _ _ _) (by simp)).mono ?_
  rintro e w1 ⟨rfl, rfl⟩
  rw [HF.out]
  go_wp2_with fail
  go_ret
  exact ⟨rfl, by go_grown⟩
set_option maxRecDepth 100000 in
set_option maxHeartbeats 1000000 in
theorem kmacs_in (key s mac M : ByteArray) (q : Bool) (w : World) (hG : Rounds w) (hkey : key.size ≤ 140737488351232) (hs : s.size ≤ 140737488351232) (hmac : mac.size ≤ 140737488351232) (hf : decide (400 < lenSum [key, s, mac]) = false)
    (hq : (mac.toList == M.toList) = q)
    (h1 : ∀ W, Calls Tryd.prog 38 #[.string key, .string s] W fun e w' => e = .returned (.string M) ∧ Below W.heap.size W w')
    (h2 : ∀ W, Rounds W → Calls Tryd.prog 35 #[.string key, .string s] W fun e w' => e = .returned (.string M) ∧ Below W.heap.size W w')
    (h3 : ∀ W, Rounds W → Calls Tryd.prog 39 #[.string key, .string s, .string mac] W fun e w' => e = .returned (.bool q) ∧ Below W.heap.size W w')
    (h4 : ∀ W, Rounds W → Calls Tryd.prog 39 #[.string key, .string s, .string M] W fun e w' => e = .returned (.bool true) ∧ Below W.heap.size W w')
    (h5 : ∀ W, Rounds W → Calls Tryd.prog 40 #[.string key, .string s] W fun e w' => e = .returned (.string M) ∧ Below W.heap.size W w') :
    Calls Tryd.prog 10 #[.string key, .string s, .string mac] w fun e w' => e = .returned (.bool true) ∧ Below w.heap.size w w' := by
  have HG := Lib.hid hG
  have HF := Lib.hid hf
  have HL := Lib.hid (fun W hB hg => large3 key s mac w.heap.size W hB hg hkey hs hmac)
  have H0 := Lib.hid macs_any
  have H1 := Lib.hid h1
  have H2 := Lib.hid h2
  have H3 := Lib.hid h3
  have H4 := Lib.hid h4
  have H5 := Lib.hid h5
  have hqq : (q == q) = true := by simp
  have hmm : (M.toList == M.toList) = true := by simp
  clear hG hf h1 h2 h3 h4 h5 hkey hs hmac
  go_enter Tryd.func10, Tryd.ntmps10
  go_wp2_with fail
  refine (HL.out _ (Blk.new _ _ _) (by simp)).mono ?_
  rintro e w1 ⟨rfl, rfl⟩
  rw [HF.out]
  go_wp2_with fail
  refine (H1.out _).mono ?_
  rintro e w1 ⟨rfl, hb1⟩
  have hB1 : Below w.heap.size w w1 := Below.trans (by go_grown) (hb1.mono (by first | (simp; done) | (simp; omega)))
  clear hb1
  go_wp2_with fail
  refine (H0.out _ (rounds_of HG.out hB1)).mono ?_
  rintro e w2 ⟨rfl, hb2⟩
  have hB2 := hB1.trans (hb2.mono hB1.size)
  clear hb2 hB1
  go_wp2_with fail
  refine (H2.out _ (rounds_of HG.out hB2)).mono ?_
  rintro e w3 ⟨rfl, hb3⟩
  have hB3 := hB2.trans (hb3.mono hB2.size)
  clear hb3 hB2
  go_wp2_with fail
  refine (H3.out _ (rounds_of HG.out hB3)).mono ?_
  rintro e w4 ⟨rfl, hb4⟩
  have hB4 := hB3.trans (hb4.mono hB3.size)
  clear hb4 hB3
  go_wp2_with fail
  refine (H4.out _ (rounds_of HG.out hB4)).mono ?_
  rintro e w5 ⟨rfl, hb5⟩
  have hB5 := hB4.trans (hb5.mono hB4.size)
  clear hb5 hB4
  go_wp2_with fail
  refine (H5.out _ (rounds_of HG.out hB5)).mono ?_
  rintro e w6 ⟨rfl, hb6⟩
  have hB6 := hB5.trans (hb6.mono hB5.size)
  clear hb6 hB5
  go_wp2_with fail
  go_ret
  exact ⟨rfl, hB6⟩
theorem kmacs_all (key s mac : ByteArray) (w : World) (hG : Rounds w) (hkey : key.size ≤ 140737488351232) (hs : s.size ≤ 140737488351232) (hmac : mac.size ≤ 140737488351232) :
    Calls Tryd.prog 10 #[.string key, .string s, .string mac] w fun e w' => e = .returned (.bool true) ∧ Below w.heap.size w w' := by
  cases hf : decide (400 < lenSum [key, s, mac])
  · have k1 := lenSum_small hf (x := key) (by simp)
    have k2 := lenSum_small hf (x := s) (by simp)
    have h3 := fun (W : World) (h : Rounds W) => kcheck_any key s mac W h (by omega) (by omega)
    have h4 := fun (W : World) (h : Rounds W) => kcheck_any key s (macB key s) W h (by omega) (by omega)
    rw [show ((macB key s).toList == (macB key s).toList) = true by simp] at h4
    rw [show ((macB key s).toList == mac.toList) = (mac.toList == (macB key s).toList) from by rw [Bool.eq_iff_iff]; simp only [beq_iff_eq]; exact eq_comm] at h3
    exact kmacs_in key s mac _ _ w hG hkey hs hmac hf rfl (fun W => rmac_any key s W (by omega) (by omega)) (fun W h => mac_any key s W h (by omega) (by omega)) h3 h4 (fun W h => extract_any key s W h (by omega) (by omega))
  · exact keyedmacs_far key s mac w hkey hs hmac hf
theorem keyedexpands_far (key salt info : ByteArray) (n : Int) (w : World) (hkey : key.size ≤ 140737488351232) (hsalt : salt.size ≤ 140737488351232) (hinfo : info.size ≤ 140737488351232) (hf : decide (400 < lenSum [key, salt, info]) = true) :
    Calls Tryd.prog 11 #[.string key, .string salt, .string info, .int .i64 n] w fun e w' => e = .returned (.bool true) ∧ Below w.heap.size w w' := by
  have HF := Lib.hid hf
  have HL := Lib.hid (fun W hB hg => large3 key salt info w.heap.size W hB hg hkey hsalt hinfo)
  clear hf hkey hsalt hinfo
  go_enter Tryd.func11, Tryd.ntmps11
  go_wp2_with fail
  refine (HL.out _ (Blk.new _ _ _) (by simp)).mono ?_
  rintro e w1 ⟨rfl, rfl⟩
  rw [HF.out]
  go_wp2_with fail
  go_ret
  exact ⟨rfl, by go_grown⟩
theorem kexpands_mid (key salt info : ByteArray) (n : Int) (w : World) (hkey : key.size ≤ 140737488351232) (hsalt : salt.size ≤ 140737488351232) (hinfo : info.size ≤ 140737488351232) (hf : decide (400 < lenSum [key, salt, info]) = false) (h1 : 200 < n) (h2 : n ≤ 8160) :
    Calls Tryd.prog 11 #[.string key, .string salt, .string info, .int .i64 n] w fun e w' => e = .returned (.bool true) ∧ Below w.heap.size w w' := by
  have HF := Lib.hid hf
  have t1 : decide (200 < n) = true := by simpa using h1
  have t2 : decide (n ≤ 8160) = true := by simpa using h2
  have HL := Lib.hid (fun W hB hg => large3 key salt info w.heap.size W hB hg hkey hsalt hinfo)
  clear hf hkey hsalt hinfo h1 h2
  go_enter Tryd.func11, Tryd.ntmps11
  go_wp2_with fail
  refine (HL.out _ (Blk.new _ _ _) (by simp)).mono ?_
  rintro e w1 ⟨rfl, rfl⟩
  rw [HF.out]
  go_wp2_with fail
  go_ret
  exact ⟨rfl, by go_grown⟩
set_option maxRecDepth 100000 in
set_option maxHeartbeats 1000000 in
theorem kexpands_lo (key salt info X Z : ByteArray) (n y : Int) (w : World) (hG : Rounds w) (hkey : key.size ≤ 140737488351232) (hsalt : salt.size ≤ 140737488351232) (hinfo : info.size ≤ 140737488351232) (hf : decide (400 < lenSum [key, salt, info]) = false) (h1 : n ≤ 200)
    (h2 : ∀ W, Rounds W → Calls Tryd.prog 37 #[.string key, .string info, .int .i64 n] W fun e w' => e = .returned (.tuple #[.string X, .int .i64 y]) ∧ Below W.heap.size W w')
    (h3 : ∀ W, Calls Tryd.prog 41 #[.string key, .string info, .int .i64 n] W fun e w' => e = .returned (.tuple #[.string X, .int .i64 y]) ∧ Below W.heap.size W w')
    (h4 : ∀ W, Rounds W → Calls Tryd.prog 42 #[.string key, .string salt, .string info, .int .i64 n] W fun e w' => e = .returned (.tuple #[.string Z, .int .i64 y]) ∧ Below W.heap.size W w')
    (h5 : ∀ W, Calls Tryd.prog 43 #[.string key, .string salt, .string info, .int .i64 n] W fun e w' => e = .returned (.tuple #[.string Z, .int .i64 y]) ∧ Below W.heap.size W w') :
    Calls Tryd.prog 11 #[.string key, .string salt, .string info, .int .i64 n] w fun e w' => e = .returned (.bool true) ∧ Below w.heap.size w w' := by
  have HG := Lib.hid hG
  have HF := Lib.hid hf
  have t1 : decide (200 < n) = false := by first | (simp; done) | (simp; omega)
  have HL := Lib.hid (fun W hB hg => large3 key salt info w.heap.size W hB hg hkey hsalt hinfo)
  have H0 := Lib.hid macs_any
  have H2 := Lib.hid h2
  have H3 := Lib.hid h3
  have H4 := Lib.hid h4
  have H5 := Lib.hid h5
  have hyy : (y == y) = true := by simp
  have hxx : (X.toList == X.toList) = true := by simp
  have hzz : (Z.toList == Z.toList) = true := by simp
  clear hG hf h1 h2 h3 h4 h5 hkey hsalt hinfo
  go_enter Tryd.func11, Tryd.ntmps11
  go_wp2_with fail
  refine (HL.out _ (Blk.new _ _ _) (by simp)).mono ?_
  rintro e w1 ⟨rfl, rfl⟩
  rw [HF.out]
  go_wp2_with fail
  refine (H2.out _ (HG.out.below (B := w.heap.size) (by go_grown) HG.out.pos)).mono ?_
  rintro e w7 ⟨rfl, hb7⟩
  have hB7 : Below w.heap.size w w7 := Below.trans (by go_grown) (hb7.mono (by first | (simp; done) | (simp; omega)))
  clear hb7
  go_wp2_with fail
  refine (H3.out _).mono ?_
  rintro e w8 ⟨rfl, hb8⟩
  have hB8 := hB7.trans (hb8.mono hB7.size)
  clear hb8 hB7
  go_wp2_with fail
  refine (H4.out _ (rounds_of HG.out hB8)).mono ?_
  rintro e w9 ⟨rfl, hb9⟩
  have hB9 := hB8.trans (hb9.mono hB8.size)
  clear hb9 hB8
  go_wp2_with fail
  refine (H5.out _).mono ?_
  rintro e w10 ⟨rfl, hb10⟩
  have hB10 := hB9.trans (hb10.mono hB9.size)
  clear hb10 hB9
  go_wp2_with fail
  refine (H0.out _ (rounds_of HG.out hB10)).mono ?_
  rintro e w11 ⟨rfl, hb11⟩
  have hB11 := hB10.trans (hb11.mono hB10.size)
  clear hb11 hB10
  go_wp2_with fail
  go_ret
  exact ⟨rfl, hB11⟩
set_option maxRecDepth 100000 in
set_option maxHeartbeats 1000000 in
theorem kexpands_hi (key salt info X Z : ByteArray) (n y : Int) (w : World) (hG : Rounds w) (hkey : key.size ≤ 140737488351232) (hsalt : salt.size ≤ 140737488351232) (hinfo : info.size ≤ 140737488351232) (hf : decide (400 < lenSum [key, salt, info]) = false) (h1 : 8160 < n)
    (h2 : ∀ W, Rounds W → Calls Tryd.prog 37 #[.string key, .string info, .int .i64 n] W fun e w' => e = .returned (.tuple #[.string X, .int .i64 y]) ∧ Below W.heap.size W w')
    (h3 : ∀ W, Calls Tryd.prog 41 #[.string key, .string info, .int .i64 n] W fun e w' => e = .returned (.tuple #[.string X, .int .i64 y]) ∧ Below W.heap.size W w')
    (h4 : ∀ W, Rounds W → Calls Tryd.prog 42 #[.string key, .string salt, .string info, .int .i64 n] W fun e w' => e = .returned (.tuple #[.string Z, .int .i64 y]) ∧ Below W.heap.size W w')
    (h5 : ∀ W, Calls Tryd.prog 43 #[.string key, .string salt, .string info, .int .i64 n] W fun e w' => e = .returned (.tuple #[.string Z, .int .i64 y]) ∧ Below W.heap.size W w') :
    Calls Tryd.prog 11 #[.string key, .string salt, .string info, .int .i64 n] w fun e w' => e = .returned (.bool true) ∧ Below w.heap.size w w' := by
  have HG := Lib.hid hG
  have HF := Lib.hid hf
  have t1 : decide (200 < n) = true := by first | (simp; done) | (simp; omega)
  have t2 : decide (n ≤ 8160) = false := by first | (simp; done) | (simp; omega)
  have HL := Lib.hid (fun W hB hg => large3 key salt info w.heap.size W hB hg hkey hsalt hinfo)
  have H0 := Lib.hid macs_any
  have H2 := Lib.hid h2
  have H3 := Lib.hid h3
  have H4 := Lib.hid h4
  have H5 := Lib.hid h5
  have hyy : (y == y) = true := by simp
  have hxx : (X.toList == X.toList) = true := by simp
  have hzz : (Z.toList == Z.toList) = true := by simp
  clear hG hf h1 h2 h3 h4 h5 hkey hsalt hinfo
  go_enter Tryd.func11, Tryd.ntmps11
  go_wp2_with fail
  refine (HL.out _ (Blk.new _ _ _) (by simp)).mono ?_
  rintro e w1 ⟨rfl, rfl⟩
  rw [HF.out]
  go_wp2_with fail
  refine (H2.out _ (HG.out.below (B := w.heap.size) (by go_grown) HG.out.pos)).mono ?_
  rintro e w12 ⟨rfl, hb12⟩
  have hB12 : Below w.heap.size w w12 := Below.trans (by go_grown) (hb12.mono (by first | (simp; done) | (simp; omega)))
  clear hb12
  go_wp2_with fail
  refine (H3.out _).mono ?_
  rintro e w13 ⟨rfl, hb13⟩
  have hB13 := hB12.trans (hb13.mono hB12.size)
  clear hb13 hB12
  go_wp2_with fail
  refine (H4.out _ (rounds_of HG.out hB13)).mono ?_
  rintro e w14 ⟨rfl, hb14⟩
  have hB14 := hB13.trans (hb14.mono hB13.size)
  clear hb14 hB13
  go_wp2_with fail
  refine (H5.out _).mono ?_
  rintro e w15 ⟨rfl, hb15⟩
  have hB15 := hB14.trans (hb15.mono hB14.size)
  clear hb15 hB14
  go_wp2_with fail
  refine (H0.out _ (rounds_of HG.out hB15)).mono ?_
  rintro e w16 ⟨rfl, hb16⟩
  have hB16 := hB15.trans (hb16.mono hB15.size)
  clear hb16 hB15
  go_wp2_with fail
  go_ret
  exact ⟨rfl, hB16⟩
theorem kexpands_all (key salt info : ByteArray) (n : Int) (w : World) (hG : Rounds w) (hkey : key.size ≤ 140737488351232) (hsalt : salt.size ≤ 140737488351232) (hinfo : info.size ≤ 140737488351232) :
    Calls Tryd.prog 11 #[.string key, .string salt, .string info, .int .i64 n] w fun e w' => e = .returned (.bool true) ∧ Below w.heap.size w w' := by
  cases hf : decide (400 < lenSum [key, salt, info])
  · have k1 := lenSum_small hf (x := key) (by simp)
    have k2 := lenSum_small hf (x := salt) (by simp)
    have k3 := lenSum_small hf (x := info) (by simp)
    have h2 := fun (W : World) (h : Rounds W) => kexp_all key info n W h (by omega) (by omega)
    have h3 := fun (W : World) => rexp_all key info n W (by omega) (by omega)
    have h4 := fun (W : World) (h : Rounds W) => kderive_all key salt info n W h (by omega) (by omega) (by omega)
    have h5 := fun (W : World) => rderive_all key salt info n W (by omega) (by omega) (by omega)
    by_cases h1 : n ≤ 200
    · exact kexpands_lo key salt info _ _ n _ w hG hkey hsalt hinfo hf h1 h2 h3 h4 h5
    · by_cases h6 : n ≤ 8160
      · exact kexpands_mid key salt info n w hkey hsalt hinfo hf (by omega) h6
      · exact kexpands_hi key salt info _ _ n _ w hG hkey hsalt hinfo hf (by omega) h2 h3 h4 h5
  · exact keyedexpands_far key salt info n w hkey hsalt hinfo hf
theorem kfront_far (key salt info : ByteArray) (n m : Int) (w : World) (hG : Rounds w) (hkey : key.size ≤ 140737488351232) (hsalt : salt.size ≤ 140737488351232) (hinfo : info.size ≤ 140737488351232) (hf : decide (400 < lenSum [key, salt, info]) = true) :
    Calls Tryd.prog 12 #[.string key, .string salt, .string info, .int .i64 n, .int .i64 m] w fun e w' => e = .returned (.bool true) ∧ Below w.heap.size w w' := by
  have HG := Lib.hid hG
  have HF := Lib.hid hf
  have H0 := Lib.hid macs_any
  have HL := Lib.hid (fun W hB hg => large3 key salt info w.heap.size W hB hg hkey hsalt hinfo)
  clear hG hf hkey hsalt hinfo
  go_enter Tryd.func12, Tryd.ntmps12
  go_wp2_with fail
  refine (HL.out _ (Blk.new _ _ _) (by simp)).mono ?_
  rintro e w1 ⟨rfl, rfl⟩
  rw [HF.out]
  go_wp2_with fail
  refine (H0.out _ (HG.out.below (B := w.heap.size) (by go_grown) HG.out.pos)).mono ?_
  rintro e w17 ⟨rfl, hb17⟩
  have hB17 : Below w.heap.size w w17 := Below.trans (by go_grown) (hb17.mono (by first | (simp; done) | (simp; omega)))
  clear hb17
  go_wp2_with fail
  go_ret
  exact ⟨rfl, hB17⟩
theorem kfront_one (key salt info : ByteArray) (n m : Int) (w : World) (hG : Rounds w) (hkey : key.size ≤ 140737488351232) (hsalt : salt.size ≤ 140737488351232) (hinfo : info.size ≤ 140737488351232) (hf : decide (400 < lenSum [key, salt, info]) = false) (h1 : n < 1) :
    Calls Tryd.prog 12 #[.string key, .string salt, .string info, .int .i64 n, .int .i64 m] w fun e w' => e = .returned (.bool true) ∧ Below w.heap.size w w' := by
  have HG := Lib.hid hG
  have HF := Lib.hid hf
  have H0 := Lib.hid macs_any
  have t1 : decide (n < 1) = true := by simpa using h1
  have HL := Lib.hid (fun W hB hg => large3 key salt info w.heap.size W hB hg hkey hsalt hinfo)
  clear hG hf hkey hsalt hinfo h1
  go_enter Tryd.func12, Tryd.ntmps12
  go_wp2_with fail
  refine (HL.out _ (Blk.new _ _ _) (by simp)).mono ?_
  rintro e w1 ⟨rfl, rfl⟩
  rw [HF.out]
  go_wp2_with fail
  refine (H0.out _ (HG.out.below (B := w.heap.size) (by go_grown) HG.out.pos)).mono ?_
  rintro e w18 ⟨rfl, hb18⟩
  have hB18 : Below w.heap.size w w18 := Below.trans (by go_grown) (hb18.mono (by first | (simp; done) | (simp; omega)))
  clear hb18
  go_wp2_with fail
  go_ret
  exact ⟨rfl, hB18⟩
theorem kfront_less (key salt info : ByteArray) (n m : Int) (w : World) (hG : Rounds w) (hkey : key.size ≤ 140737488351232) (hsalt : salt.size ≤ 140737488351232) (hinfo : info.size ≤ 140737488351232) (hf : decide (400 < lenSum [key, salt, info]) = false) (h1 : 1 ≤ n ∧ m < n) :
    Calls Tryd.prog 12 #[.string key, .string salt, .string info, .int .i64 n, .int .i64 m] w fun e w' => e = .returned (.bool true) ∧ Below w.heap.size w w' := by
  have HG := Lib.hid hG
  have HF := Lib.hid hf
  have H0 := Lib.hid macs_any
  have t1 : decide (n < 1) = false := by first | (simp; done) | (simp; omega)
  have t2 : decide (m < n) = true := by first | (simp; done) | (simp; omega)
  have HL := Lib.hid (fun W hB hg => large3 key salt info w.heap.size W hB hg hkey hsalt hinfo)
  clear hG hf hkey hsalt hinfo h1
  go_enter Tryd.func12, Tryd.ntmps12
  go_wp2_with fail
  refine (HL.out _ (Blk.new _ _ _) (by simp)).mono ?_
  rintro e w1 ⟨rfl, rfl⟩
  rw [HF.out]
  go_wp2_with fail
  refine (H0.out _ (HG.out.below (B := w.heap.size) (by go_grown) HG.out.pos)).mono ?_
  rintro e w19 ⟨rfl, hb19⟩
  have hB19 : Below w.heap.size w w19 := Below.trans (by go_grown) (hb19.mono (by first | (simp; done) | (simp; omega)))
  clear hb19
  go_wp2_with fail
  go_ret
  exact ⟨rfl, hB19⟩
theorem kfront_big (key salt info : ByteArray) (n m : Int) (w : World) (hG : Rounds w) (hkey : key.size ≤ 140737488351232) (hsalt : salt.size ≤ 140737488351232) (hinfo : info.size ≤ 140737488351232) (hf : decide (400 < lenSum [key, salt, info]) = false) (h1 : 1 ≤ n ∧ n ≤ m ∧ 1000 < m) :
    Calls Tryd.prog 12 #[.string key, .string salt, .string info, .int .i64 n, .int .i64 m] w fun e w' => e = .returned (.bool true) ∧ Below w.heap.size w w' := by
  have HG := Lib.hid hG
  have HF := Lib.hid hf
  have H0 := Lib.hid macs_any
  have t1 : decide (n < 1) = false := by first | (simp; done) | (simp; omega)
  have t2 : decide (m < n) = false := by first | (simp; done) | (simp; omega)
  have t3 : decide (1000 < m) = true := by first | (simp; done) | (simp; omega)
  have HL := Lib.hid (fun W hB hg => large3 key salt info w.heap.size W hB hg hkey hsalt hinfo)
  clear hG hf hkey hsalt hinfo h1
  go_enter Tryd.func12, Tryd.ntmps12
  go_wp2_with fail
  refine (HL.out _ (Blk.new _ _ _) (by simp)).mono ?_
  rintro e w1 ⟨rfl, rfl⟩
  rw [HF.out]
  go_wp2_with fail
  refine (H0.out _ (HG.out.below (B := w.heap.size) (by go_grown) HG.out.pos)).mono ?_
  rintro e w20 ⟨rfl, hb20⟩
  have hB20 : Below w.heap.size w w20 := Below.trans (by go_grown) (hb20.mono (by first | (simp; done) | (simp; omega)))
  clear hb20
  go_wp2_with fail
  go_ret
  exact ⟨rfl, hB20⟩
set_option maxRecDepth 100000 in
set_option maxHeartbeats 1000000 in
theorem kfront_in (key salt info X Y Z M : ByteArray) (n m : Nat) (w : World) (hG : Rounds w) (hkey : key.size ≤ 140737488351232) (hsalt : salt.size ≤ 140737488351232) (hinfo : info.size ≤ 140737488351232) (hf : decide (400 < lenSum [key, salt, info]) = false) (hn : 1 ≤ n) (hnm : n ≤ m) (hm : m ≤ 1000)
    (hX : X.size = n) (hY : Y.size = m) (hXY : Y.extract 0 n = X)
    (h1 : ∀ W, Rounds W → Calls Tryd.prog 37 #[.string key, .string info, .int .i64 n] W fun e w' => e = .returned (.tuple #[.string X, .int .i64 0]) ∧ Below W.heap.size W w')
    (h2 : ∀ W, Rounds W → Calls Tryd.prog 37 #[.string key, .string info, .int .i64 m] W fun e w' => e = .returned (.tuple #[.string Y, .int .i64 0]) ∧ Below W.heap.size W w')
    (h3 : ∀ W, Rounds W → Calls Tryd.prog 42 #[.string key, .string salt, .string info, .int .i64 n] W fun e w' => e = .returned (.tuple #[.string Z, .int .i64 0]) ∧ Below W.heap.size W w')
    (h4 : ∀ W, Rounds W → Calls Tryd.prog 40 #[.string salt, .string key] W fun e w' => e = .returned (.string M) ∧ Below W.heap.size W w')
    (h5 : ∀ W, Rounds W → Calls Tryd.prog 37 #[.string M, .string info, .int .i64 n] W fun e w' => e = .returned (.tuple #[.string Z, .int .i64 0]) ∧ Below W.heap.size W w') :
    Calls Tryd.prog 12 #[.string key, .string salt, .string info, .int .i64 n, .int .i64 m] w fun e w' => e = .returned (.bool true) ∧ Below w.heap.size w w' := by
  have HG := Lib.hid hG
  have HF := Lib.hid hf
  have HL := Lib.hid (fun W hB hg => large3 key salt info w.heap.size W hB hg hkey hsalt hinfo)
  have H0 := Lib.hid macs_any
  have H1 := Lib.hid h1
  have H2 := Lib.hid h2
  have H3 := Lib.hid h3
  have H4 := Lib.hid h4
  have H5 := Lib.hid h5
  have t1 : decide ((n : Int) < 1) = false := by first | (simp; done) | (simp; omega)
  have t2 : decide ((m : Int) < (n : Int)) = false := by first | (simp; done) | (simp; omega)
  have t2' : decide (m < n) = false := by first | (simp; done) | (simp; omega)
  have t3 : decide (1000 < (m : Int)) = false := by first | (simp; done) | (simp; omega)
  have e1 : ((X.size : Int) == (n : Int)) = true := by simp [hX]
  have e2 : ((Y.size : Int) == (m : Int)) = true := by simp [hY]
  have e3 : ((Y.extract 0 n).toList == X.toList) = true := by rw [hXY]; simp
  have hzz : (Z.toList == Z.toList) = true := by simp
  have n0 : (0 : Int) ≤ (n : Int) := by omega
  have n1 : (n : Int) ≤ (Y.size : Int) := by omega
  clear hG hf h1 h2 h3 h4 h5 hkey hsalt hinfo hX hY hXY
  go_enter Tryd.func12, Tryd.ntmps12
  go_wp2_with fail
  refine (HL.out _ (Blk.new _ _ _) (by simp)).mono ?_
  rintro e w1 ⟨rfl, rfl⟩
  rw [HF.out]
  go_wp2_with fail
  refine (H1.out _ (HG.out.below (B := w.heap.size) (by go_grown) HG.out.pos)).mono ?_
  rintro e w21 ⟨rfl, hb21⟩
  have hB21 : Below w.heap.size w w21 := Below.trans (by go_grown) (hb21.mono (by first | (simp; done) | (simp; omega)))
  clear hb21
  go_wp2_with fail
  refine (H2.out _ (rounds_of HG.out hB21)).mono ?_
  rintro e w22 ⟨rfl, hb22⟩
  have hB22 := hB21.trans (hb22.mono hB21.size)
  clear hb22 hB21
  go_wp2_with fail
  refine (H3.out _ (rounds_of HG.out hB22)).mono ?_
  rintro e w23 ⟨rfl, hb23⟩
  have hB23 := hB22.trans (hb23.mono hB22.size)
  clear hb23 hB22
  go_wp2_with fail
  refine (H4.out _ (rounds_of HG.out hB23)).mono ?_
  rintro e w24 ⟨rfl, hb24⟩
  have hB24 := hB23.trans (hb24.mono hB23.size)
  clear hb24 hB23
  go_wp2_with fail
  refine (H5.out _ (rounds_of HG.out hB24)).mono ?_
  rintro e w25 ⟨rfl, hb25⟩
  have hB25 := hB24.trans (hb25.mono hB24.size)
  clear hb25 hB24
  go_wp2_with fail
  refine (H0.out _ (rounds_of HG.out hB25)).mono ?_
  rintro e w26 ⟨rfl, hb26⟩
  have hB26 := hB25.trans (hb26.mono hB25.size)
  clear hb26 hB25
  go_wp2_with fail
  go_ret
  exact ⟨rfl, hB26⟩
theorem kfront_all (key salt info : ByteArray) (n m : Int) (w : World) (hG : Rounds w) (hkey : key.size ≤ 140737488351232) (hsalt : salt.size ≤ 140737488351232) (hinfo : info.size ≤ 140737488351232) :
    Calls Tryd.prog 12 #[.string key, .string salt, .string info, .int .i64 n, .int .i64 m] w fun e w' => e = .returned (.bool true) ∧ Below w.heap.size w w' := by
  cases hf : decide (400 < lenSum [key, salt, info])
  · have k1 := lenSum_small hf (x := key) (by simp)
    have k2 := lenSum_small hf (x := salt) (by simp)
    have k3 := lenSum_small hf (x := info) (by simp)
    by_cases h1 : n < 1
    · exact kfront_one key salt info n m w hG hkey hsalt hinfo hf h1
    · by_cases h2 : m < n
      · exact kfront_less key salt info n m w hG hkey hsalt hinfo hf ⟨by omega, h2⟩
      · by_cases h3 : 1000 < m
        · exact kfront_big key salt info n m w hG hkey hsalt hinfo hf ⟨by omega, by omega, h3⟩
        · obtain ⟨a, rfl⟩ : ∃ a : Nat, n = a := ⟨n.toNat, by omega⟩
          obtain ⟨b, rfl⟩ : ∃ b : Nat, m = b := ⟨m.toNat, by omega⟩
          have hD := fun (W : World) (h : Rounds W) => kderive_all key salt info a W h (by omega) (by omega) (by omega)
          have e1 : expS (macB salt key) info (a : Int) = expB (macB salt key) info a := by unfold expS; rw [if_pos (by omega)]; rfl
          have e2 : expE (a : Int) = 0 := by unfold expE; rw [if_pos (by omega)]
          rw [e1, e2] at hD
          exact kfront_in key salt info (expB key info a) (expB key info b) (expB (macB salt key) info a) (macB salt key) a b w hG hkey hsalt hinfo hf (by omega) (by omega) (by omega) (expB_size _ _ _) (expB_size _ _ _) (expB_left _ _ (by omega))
            (fun W h => kexp_in key info a W h (by omega) (by omega) (by omega) (by omega)) (fun W h => kexp_in key info b W h (by omega) (by omega) (by omega) (by omega)) hD
            (fun W h => extract_any salt key W h (by omega) (by omega)) (fun W h => kexp_in (macB salt key) info a W h (by rw [macB_size]; omega) (by omega) (by omega) (by omega))
  · exact kfront_far key salt info n m w hG hkey hsalt hinfo hf
set_option maxRecDepth 100000 in
set_option maxHeartbeats 1000000 in
theorem kzeros_far1 (key s : ByteArray) (n : Int) (w : World) (hG : Rounds w) (h1 : 200 < key.size) (h2 : key.size ≤ 140737488351232) :
    Calls Tryd.prog 8 #[.string key, .string s, .int .i64 n] w fun e w' => e = .returned (.bool true) ∧ Below w.heap.size w w' := by
  have HG := Lib.hid hG
  have H0 := Lib.hid macs_any
  have t1 : decide (200 < (key.size : Int)) = true := by first | (simp; done) | (simp; omega)
  clear hG h1
  go_enter Tryd.func8, Tryd.ntmps8
  go_wp2_with fail
  go_ret
  exact ⟨rfl, by go_grown⟩
set_option maxRecDepth 100000 in
set_option maxHeartbeats 1000000 in
theorem kzeros_far2 (key s : ByteArray) (n : Int) (w : World) (hG : Rounds w) (h1 : key.size ≤ 200) (h2 : 200 < s.size) (h3 : s.size ≤ 140737488351232) :
    Calls Tryd.prog 8 #[.string key, .string s, .int .i64 n] w fun e w' => e = .returned (.bool true) ∧ Below w.heap.size w w' := by
  have HG := Lib.hid hG
  have H0 := Lib.hid macs_any
  have t1 : decide (200 < (key.size : Int)) = false := by first | (simp; done) | (simp; omega)
  have t2 : decide (200 < (s.size : Int)) = true := by first | (simp; done) | (simp; omega)
  clear hG h2
  go_enter Tryd.func8, Tryd.ntmps8
  go_wp2_with fail
  go_ret
  exact ⟨rfl, by go_grown⟩
set_option maxRecDepth 100000 in
set_option maxHeartbeats 1000000 in
theorem kzeros_long (key s M K : ByteArray) (n : Int) (w : World) (hG : Rounds w) (h1 : key.size ≤ 200) (h2 : s.size ≤ 200) (h3 : 64 < key.size)
    (h4 : ∀ W, Rounds W → Calls Tryd.prog 35 #[.string key, .string s] W fun e w' => e = .returned (.string M) ∧ Below W.heap.size W w')
    (h5 : ∀ W, Rounds W → Calls Tryd.prog 29 #[.string key] W fun e w' => e = .returned (.string K) ∧ Below W.heap.size W w')
    (h6 : ∀ W, Rounds W → Calls Tryd.prog 35 #[.string K, .string s] W fun e w' => e = .returned (.string M) ∧ Below W.heap.size W w') :
    Calls Tryd.prog 8 #[.string key, .string s, .int .i64 n] w fun e w' => e = .returned (.bool true) ∧ Below w.heap.size w w' := by
  have HG := Lib.hid hG
  have H0 := Lib.hid macs_any
  have t1 : decide (200 < (key.size : Int)) = false := by first | (simp; done) | (simp; omega)
  have t2 : decide (200 < (s.size : Int)) = false := by first | (simp; done) | (simp; omega)
  have t3 : decide (64 < (key.size : Int)) = true := by first | (simp; done) | (simp; omega)
  have hmm : (M.toList == M.toList) = true := by simp
  have H4 := Lib.hid h4
  have H5 := Lib.hid h5
  have H6 := Lib.hid h6
  clear hG h3 h4 h5 h6
  go_enter Tryd.func8, Tryd.ntmps8
  go_wp2_with fail
  refine (H0.out _ (HG.out.below (B := w.heap.size) (by go_grown) HG.out.pos)).mono ?_
  rintro e w27 ⟨rfl, hb27⟩
  have hB27 : Below w.heap.size w w27 := Below.trans (by go_grown) (hb27.mono (by first | (simp; done) | (simp; omega)))
  clear hb27
  go_wp2_with fail
  refine (H4.out _ (rounds_of HG.out hB27)).mono ?_
  rintro e w28 ⟨rfl, hb28⟩
  have hB28 := hB27.trans (hb28.mono hB27.size)
  clear hb28 hB27
  go_wp2_with fail
  refine (H5.out _ (rounds_of HG.out hB28)).mono ?_
  rintro e w29 ⟨rfl, hb29⟩
  have hB29 := hB28.trans (hb29.mono hB28.size)
  clear hb29 hB28
  go_wp2_with fail
  refine (H6.out _ (rounds_of HG.out hB29)).mono ?_
  rintro e w30 ⟨rfl, hb30⟩
  have hB30 := hB29.trans (hb30.mono hB29.size)
  clear hb30 hB29
  go_wp2_with fail
  go_ret
  exact ⟨rfl, hB30⟩
set_option maxRecDepth 100000 in
set_option maxHeartbeats 1000000 in
theorem kzeros_neg (key s : ByteArray) (n : Int) (w : World) (hG : Rounds w) (h1 : key.size ≤ 64) (h2 : s.size ≤ 200) (h3 : n < 0) :
    Calls Tryd.prog 8 #[.string key, .string s, .int .i64 n] w fun e w' => e = .returned (.bool true) ∧ Below w.heap.size w w' := by
  have HG := Lib.hid hG
  have H0 := Lib.hid macs_any
  have t1 : decide (200 < (key.size : Int)) = false := by first | (simp; done) | (simp; omega)
  have t2 : decide (200 < (s.size : Int)) = false := by first | (simp; done) | (simp; omega)
  have t3 : decide (64 < (key.size : Int)) = false := by first | (simp; done) | (simp; omega)
  have t4 : decide (n < 0) = true := by simpa using h3
  clear hG h3
  go_enter Tryd.func8, Tryd.ntmps8
  go_wp2_with fail
  refine (H0.out _ (HG.out.below (B := w.heap.size) (by go_grown) HG.out.pos)).mono ?_
  rintro e w31 ⟨rfl, hb31⟩
  have hB31 : Below w.heap.size w w31 := Below.trans (by go_grown) (hb31.mono (by first | (simp; done) | (simp; omega)))
  clear hb31
  go_wp2_with fail
  go_ret
  exact ⟨rfl, hB31⟩
set_option maxRecDepth 100000 in
set_option maxHeartbeats 1000000 in
theorem kzeros_much (key s : ByteArray) (n : Int) (w : World) (hG : Rounds w) (h1 : key.size ≤ 64) (h2 : s.size ≤ 200) (h3 : 0 ≤ n) (h4 : 64 - (key.size : Int) < n) :
    Calls Tryd.prog 8 #[.string key, .string s, .int .i64 n] w fun e w' => e = .returned (.bool true) ∧ Below w.heap.size w w' := by
  have HG := Lib.hid hG
  have H0 := Lib.hid macs_any
  have t1 : decide (200 < (key.size : Int)) = false := by first | (simp; done) | (simp; omega)
  have t2 : decide (200 < (s.size : Int)) = false := by first | (simp; done) | (simp; omega)
  have t3 : decide (64 < (key.size : Int)) = false := by first | (simp; done) | (simp; omega)
  have t4 : decide (n < 0) = false := by simpa using h3
  have t5 : decide (64 - (key.size : Int) < n) = true := by simpa using h4
  clear hG h3 h4
  go_enter Tryd.func8, Tryd.ntmps8
  go_wp2_with fail
  refine (H0.out _ (HG.out.below (B := w.heap.size) (by go_grown) HG.out.pos)).mono ?_
  rintro e w32 ⟨rfl, hb32⟩
  have hB32 : Below w.heap.size w w32 := Below.trans (by go_grown) (hb32.mono (by first | (simp; done) | (simp; omega)))
  clear hb32
  go_wp2_with fail
  go_ret
  exact ⟨rfl, hB32⟩
set_option maxRecDepth 100000 in
set_option maxHeartbeats 1000000 in
theorem kzeros_in (key s M : ByteArray) (n : Nat) (w : World) (hG : Rounds w) (h1 : key.size ≤ 64) (h2 : s.size ≤ 200) (h3 : key.size + n ≤ 64) (hM : M.size = 32)
    (h4 : ∀ W, Rounds W → Calls Tryd.prog 35 #[.string (key ++ zerosB n), .string s] W fun e w' => e = .returned (.string M) ∧ Below W.heap.size W w')
    (h5 : ∀ W, Rounds W → Calls Tryd.prog 35 #[.string key, .string s] W fun e w' => e = .returned (.string M) ∧ Below W.heap.size W w') :
    Calls Tryd.prog 8 #[.string key, .string s, .int .i64 n] w fun e w' => e = .returned (.bool true) ∧ Below w.heap.size w w' := by
  have HG := Lib.hid hG
  have H0 := Lib.hid macs_any
  have t1 : decide (200 < (key.size : Int)) = false := by first | (simp; done) | (simp; omega)
  have t2 : decide (200 < (s.size : Int)) = false := by first | (simp; done) | (simp; omega)
  have t3 : decide (64 < (key.size : Int)) = false := by first | (simp; done) | (simp; omega)
  have t4 : decide ((n : Int) < 0) = false := by first | (simp; done) | (simp; omega)
  have t5 : decide (64 - (key.size : Int) < (n : Int)) = false := by first | (simp; done) | (simp; omega)
  have hmm : (M.toList == M.toList) = true := by simp
  have e32 : ((M.size : Int) == 32) = true := by simp [hM]
  have hmk := run_mkrow (P := Tryd.prog) 40 5 (.int .u8 0) 1 Tryd.underlying40 byte_info rfl n (by omega) (by omega) w
  have hrow : Row vB (w.alloc (.cells (List.replicate n (Value.int .u8 0)).toArray 5)) w.heap.size 5 (List.replicate n 0) := Row.new (f := vB) w 5 n 0
  have hcv := run_brow (base := w.heap.size) (L := List.replicate n 0) (n := n) (c := n) 40 9 5 Tryd.underlying40 Tryd.underlying5 Tryd.underlying9 (by simp) (by
    have := brow_new w (Nat.le_refl w.heap.size) (List.replicate n 0) hrow (by simp; omega)
    simpa using this)
  have hz : (⟨(List.replicate n (0 : UInt8)).toArray⟩ : ByteArray) = zerosB n := rfl
  rw [hz] at hcv
  have hzs : (zerosB n).size ≤ 64 := by rw [zerosB_size]; omega
  have n0 : (0 : Int) ≤ (n : Int) := by omega
  have n1 : (n : Int) ≤ 64 := by omega
  have H4 := Lib.hid h4
  have H5 := Lib.hid h5
  clear hG h4 h5 hM hz hrow
  go_enter Tryd.func8, Tryd.ntmps8
  go_wp2_with fail
  refine (H0.out _ (HG.out.below (B := w.heap.size) (by go_grown) HG.out.pos)).mono ?_
  rintro e w33 ⟨rfl, hb33⟩
  have hB33 : Below w.heap.size w w33 := Below.trans (by go_grown) (hb33.mono (by first | (simp; done) | (simp; omega)))
  clear hb33
  go_wp2_with fail
  refine (H4.out _ (rounds_of HG.out hB33)).mono ?_
  rintro e w34 ⟨rfl, hb34⟩
  have hB34 := hB33.trans (hb34.mono hB33.size)
  clear hb34 hB33
  go_wp2_with fail
  refine (H5.out _ (rounds_of HG.out hB34)).mono ?_
  rintro e w35 ⟨rfl, hb35⟩
  have hB35 := hB34.trans (hb35.mono hB34.size)
  clear hb35 hB34
  go_wp2_with fail
  refine (H5.out _ (rounds_of HG.out hB35)).mono ?_
  rintro e w36 ⟨rfl, hb36⟩
  have hB36 := hB35.trans (hb36.mono hB35.size)
  clear hb36 hB35
  go_wp2_with fail
  go_ret
  exact ⟨rfl, hB36⟩
theorem kzeros_all (key s : ByteArray) (n : Int) (w : World) (hG : Rounds w) (hkey : key.size ≤ 140737488351232) (hs : s.size ≤ 140737488351232) :
    Calls Tryd.prog 8 #[.string key, .string s, .int .i64 n] w fun e w' => e = .returned (.bool true) ∧ Below w.heap.size w w' := by
  by_cases h1 : 200 < key.size
  · exact kzeros_far1 key s n w hG h1 hkey
  · by_cases h2 : 200 < s.size
    · exact kzeros_far2 key s n w hG (by omega) h2 hs
    · by_cases h3 : 64 < key.size
      · have h6 := fun (W : World) (h : Rounds W) => mac_any (sumS key) s W h (by rw [sumS_size]; omega) (by omega)
        rw [macB_long s h3] at h6
        exact kzeros_long key s (macB key s) (sumS key) n w hG (by omega) (by omega) h3 (fun W h => mac_any key s W h (by omega) (by omega)) (fun W h => sum_in key W (by omega) h) h6
      · by_cases h4 : n < 0
        · exact kzeros_neg key s n w hG (by omega) (by omega) h4
        · by_cases h5 : 64 - (key.size : Int) < n
          · exact kzeros_much key s n w hG (by omega) (by omega) (by omega) h5
          · obtain ⟨m, rfl⟩ : ∃ m : Nat, n = m := ⟨n.toNat, by omega⟩
            have h6 := fun (W : World) (h : Rounds W) => mac_any (key ++ zerosB m) s W h (by rw [ByteArray.size_append, zerosB_size]; omega) (by omega)
            rw [macB_zeros s (show key.size + m ≤ 64 by omega)] at h6
            exact kzeros_in key s (macB key s) m w hG (by omega) (by omega) (by omega) (macB_size _ _) h6 (fun W h => mac_any key s W h (by omega) (by omega))
theorem keyednext_far (key info : ByteArray) (w : World) (hkey : key.size ≤ 140737488351232) (hinfo : info.size ≤ 140737488351232) (hf : decide (400 < lenSum [key, info]) = true) :
    Calls Tryd.prog 9 #[.string key, .string info] w fun e w' => e = .returned (.bool true) ∧ Below w.heap.size w w' := by
  have HF := Lib.hid hf
  have HL := Lib.hid (fun W hB hg => large2 key info w.heap.size W hB hg hkey hinfo)
  clear hf hkey hinfo
  go_enter Tryd.func9, Tryd.ntmps9
  go_wp2_with fail
  refine (HL.out _ (Blk.new _ _ _) (by simp)).mono ?_
  rintro e w1 ⟨rfl, rfl⟩
  rw [HF.out]
  go_wp2_with fail
  go_ret
  exact ⟨rfl, by go_grown⟩
set_option maxRecDepth 100000 in
set_option maxHeartbeats 1000000 in
theorem knext_in (key info S L R : ByteArray) (w : World) (hG : Rounds w) (hkey : key.size ≤ 140737488351232) (hinfo : info.size ≤ 140737488351232) (hf : decide (400 < lenSum [key, info]) = false) (hi : info.size ≤ 400)
    (hS : S.size = 64) (hL : S.extract 0 32 = L) (hR : S.extract 32 64 = R)
    (h1 : ∀ W, Rounds W → Calls Tryd.prog 37 #[.string key, .string info, .int .i64 64] W fun e w' => e = .returned (.tuple #[.string S, .int .i64 0]) ∧ Below W.heap.size W w')
    (h2 : ∀ W, Rounds W → Calls Tryd.prog 35 #[.string key, .string (info ++ ⟨#[1]⟩)] W fun e w' => e = .returned (.string L) ∧ Below W.heap.size W w')
    (h3 : ∀ W, Rounds W → Calls Tryd.prog 35 #[.string key, .string (S.extract 0 32 ++ info ++ ⟨#[2]⟩)] W fun e w' => e = .returned (.string R) ∧ Below W.heap.size W w') :
    Calls Tryd.prog 9 #[.string key, .string info] w fun e w' => e = .returned (.bool true) ∧ Below w.heap.size w w' := by
  have HG := Lib.hid hG
  have HF := Lib.hid hf
  have HL := Lib.hid (fun W hB hg => large2 key info w.heap.size W hB hg hkey hinfo)
  have H0 := Lib.hid macs_any
  have H1 := Lib.hid h1
  have H2 := Lib.hid h2
  have H3 := Lib.hid h3
  have e1 : ((S.extract 0 32).toList == L.toList) = true := by rw [hL]; simp
  have e2 : ((S.extract 32 64).toList == R.toList) = true := by rw [hR]; simp
  have s32 : (S.extract 0 32).size ≤ 32 := by rw [size_extract]; omega
  clear hG hf h1 h2 h3 hkey hinfo hL hR
  go_enter Tryd.func9, Tryd.ntmps9
  go_wp2_with fail
  refine (HL.out _ (Blk.new _ _ _) (by simp)).mono ?_
  rintro e w1 ⟨rfl, rfl⟩
  rw [HF.out]
  go_wp2_with fail
  refine (H1.out _ (HG.out.below (B := w.heap.size) (by go_grown) HG.out.pos)).mono ?_
  rintro e w38 ⟨rfl, hb38⟩
  have hB38 : Below w.heap.size w w38 := Below.trans (by go_grown) (hb38.mono (by first | (simp; done) | (simp; omega)))
  clear hb38
  have hsz := hB38.size
  go_wp2_with fail
  refine wp_region_held_drew (S := fun _ => True) (by kernel_rfl) (trivial) (fun hHeld => ?_)
  refine wpAnyH_ready (rs := [0]) (by kernel_rfl) (by simp) ?_
  refine AllReadyH.cons rfl (fun K hK => ?_) AllReadyH.nil
  clear hHeld
  go_simp
  refine (H0.out _ (rounds_of HG.out (by go_grown))).mono ?_
  rintro r v1 ⟨rfl, hc1⟩
  have hC1 : Below w.heap.size w v1 := Below.trans (by go_grown) (hc1.mono (by have := hB38.size; first | (simp; omega) | omega))
  clear hc1
  go_simp
  refine hK.out _ _ (trivial) (fun hHeld => ?_)
  clear hK K
  try simp only [Act.put, List.getElem_toArray, List.getElem_cons_succ, List.getElem_cons_zero, List.setIfInBounds_toArray, List.set_cons_zero, List.set_cons_succ]
  refine wpAnyH_take (i := 1) (v := ?vn2) rfl (by kernel_rfl) (by kernel_rfl) (by kernel_rfl) (fun _ _ _ h => h) (Or.inl ⟨by rfl, ?hyn2⟩) hHeld ?restn2
  case hyn2 => (intro w hSw; (try dsimp only at hSw); go_simp; try with_reducible rfl)
  try simp only [Act.put, List.getElem_toArray, List.getElem_cons_succ, List.getElem_cons_zero, List.setIfInBounds_toArray, List.set_cons_zero, List.set_cons_succ]
  refine wpAnyH_take (i := 2) (v := ?vn3) rfl (by kernel_rfl) (by kernel_rfl) (by kernel_rfl) (fun _ _ _ h => h) (Or.inl ⟨by rfl, ?hyn3⟩) hHeld ?restn3
  case hyn3 => (intro w hSw; (try dsimp only at hSw); go_simp; try with_reducible rfl)
  try simp only [Act.put, List.getElem_toArray, List.getElem_cons_succ, List.getElem_cons_zero, List.setIfInBounds_toArray, List.set_cons_zero, List.set_cons_succ]
  refine wpAnyH_take (i := 3) (v := ?vn4) rfl (by kernel_rfl) (by kernel_rfl) (by kernel_rfl) (fun _ _ _ h => h) (Or.inl ⟨by rfl, ?hyn4⟩) hHeld ?restn4
  case hyn4 => (intro w hSw; (try dsimp only at hSw); go_simp; try with_reducible rfl)
  try simp only [Act.put, List.getElem_toArray, List.getElem_cons_succ, List.getElem_cons_zero, List.setIfInBounds_toArray, List.set_cons_zero, List.set_cons_succ]
  refine wpAnyH_take (i := 4) (v := ?vn5) rfl (by kernel_rfl) (by kernel_rfl) (by kernel_rfl) (fun _ _ _ h => h) (Or.inl ⟨by rfl, ?hyn5⟩) hHeld ?restn5
  case hyn5 => (intro w hSw; (try dsimp only at hSw); go_simp; try with_reducible rfl)
  try simp only [Act.put, List.getElem_toArray, List.getElem_cons_succ, List.getElem_cons_zero, List.setIfInBounds_toArray, List.set_cons_zero, List.set_cons_succ]
  refine wpAnyH_take (i := 5) (v := ?vn6) rfl (by kernel_rfl) (by kernel_rfl) (by kernel_rfl) (fun _ _ _ h => h) (Or.inl ⟨by rfl, ?hyn6⟩) hHeld ?restn6
  case hyn6 => (intro w hSw; (try dsimp only at hSw); go_simp; try with_reducible rfl)
  try simp only [Act.put, List.getElem_toArray, List.getElem_cons_succ, List.getElem_cons_zero, List.setIfInBounds_toArray, List.set_cons_zero, List.set_cons_succ]
  refine wpAnyH_take (i := 6) (v := .string (info ++ ⟨#[1]⟩)) rfl (by kernel_rfl) (by kernel_rfl) (by kernel_rfl) (fun _ _ _ h => h) (Or.inl ⟨by rfl, ?hyn7⟩) hHeld ?restn7
  case hyn7 => (intro w hSw; (try dsimp only at hSw); go_simp; omega)
  try simp only [Act.put, List.getElem_toArray, List.getElem_cons_succ, List.getElem_cons_zero, List.setIfInBounds_toArray, List.set_cons_zero, List.set_cons_succ]
  refine wpAnyH_ready (rs := [7]) (by kernel_rfl) (by simp) ?_
  refine AllReadyH.cons rfl (fun K hK => ?_) AllReadyH.nil
  clear hHeld
  go_simp
  refine (H2.out _ (rounds_of HG.out (by exact hC1))).mono ?_
  rintro r v2 ⟨rfl, hc2⟩
  have hC2 : Below w.heap.size w v2 := Below.trans (by go_grown) (hc2.mono (by have := hC1.size; first | (simp; omega) | omega))
  clear hc2
  go_simp
  refine hK.out _ _ (trivial) (fun hHeld => ?_)
  clear hK K
  try simp only [Act.put, List.getElem_toArray, List.getElem_cons_succ, List.getElem_cons_zero, List.setIfInBounds_toArray, List.set_cons_zero, List.set_cons_succ]
  refine wpAnyH_take (i := 8) (v := ?vn9) rfl (by kernel_rfl) (by kernel_rfl) (by kernel_rfl) (fun _ _ _ h => h) (Or.inl ⟨by rfl, ?hyn9⟩) hHeld ?restn9
  case hyn9 => (intro w hSw; (try dsimp only at hSw); go_simp; try with_reducible rfl)
  try simp only [Act.put, List.getElem_toArray, List.getElem_cons_succ, List.getElem_cons_zero, List.setIfInBounds_toArray, List.set_cons_zero, List.set_cons_succ]
  refine wpAnyH_take (i := 9) (v := ?vn10) rfl (by kernel_rfl) (by kernel_rfl) (by kernel_rfl) (fun _ _ _ h => h) (Or.inl ⟨by rfl, ?hyn10⟩) hHeld ?restn10
  case hyn10 => (intro w hSw; (try dsimp only at hSw); go_simp; try with_reducible rfl)
  try simp only [Act.put, List.getElem_toArray, List.getElem_cons_succ, List.getElem_cons_zero, List.setIfInBounds_toArray, List.set_cons_zero, List.set_cons_succ]
  refine wpAnyH_take (i := 10) (v := ?vn11) rfl (by kernel_rfl) (by kernel_rfl) (by kernel_rfl) (fun _ _ _ h => h) (Or.inl ⟨by rfl, ?hyn11⟩) hHeld ?restn11
  case hyn11 => (intro w hSw; (try dsimp only at hSw); go_simp; try with_reducible rfl)
  try simp only [Act.put, List.getElem_toArray, List.getElem_cons_succ, List.getElem_cons_zero, List.setIfInBounds_toArray, List.set_cons_zero, List.set_cons_succ]
  refine wpAnyH_take (i := 11) (v := ?vn12) rfl (by kernel_rfl) (by kernel_rfl) (by kernel_rfl) (fun _ _ _ h => h) (Or.inl ⟨by rfl, ?hyn12⟩) hHeld ?restn12
  case hyn12 => (intro w hSw; (try dsimp only at hSw); go_simp; try with_reducible rfl)
  try simp only [Act.put, List.getElem_toArray, List.getElem_cons_succ, List.getElem_cons_zero, List.setIfInBounds_toArray, List.set_cons_zero, List.set_cons_succ]
  refine wpAnyH_take (i := 12) (v := ?vn13) rfl (by kernel_rfl) (by kernel_rfl) (by kernel_rfl) (fun _ _ _ h => h) (Or.inl ⟨by rfl, ?hyn13⟩) hHeld ?restn13
  case hyn13 => (intro w hSw; (try dsimp only at hSw); go_simp; try with_reducible rfl)
  try simp only [Act.put, List.getElem_toArray, List.getElem_cons_succ, List.getElem_cons_zero, List.setIfInBounds_toArray, List.set_cons_zero, List.set_cons_succ]
  refine wpAnyH_take (i := 13) (v := ?vn14) rfl (by kernel_rfl) (by kernel_rfl) (by kernel_rfl) (fun _ _ _ h => h) (Or.inl ⟨by rfl, ?hyn14⟩) hHeld ?restn14
  case hyn14 => (intro w hSw; (try dsimp only at hSw); go_simp; try with_reducible rfl)
  try simp only [Act.put, List.getElem_toArray, List.getElem_cons_succ, List.getElem_cons_zero, List.setIfInBounds_toArray, List.set_cons_zero, List.set_cons_succ]
  refine wpAnyH_take (i := 14) (v := ?vn15) rfl (by kernel_rfl) (by kernel_rfl) (by kernel_rfl) (fun _ _ _ h => h) (Or.inl ⟨by rfl, ?hyn15⟩) hHeld ?restn15
  case hyn15 => (intro w hSw; (try dsimp only at hSw); go_simp; try with_reducible rfl)
  try simp only [Act.put, List.getElem_toArray, List.getElem_cons_succ, List.getElem_cons_zero, List.setIfInBounds_toArray, List.set_cons_zero, List.set_cons_succ]
  refine wpAnyH_take (i := 15) (v := ?vn16) rfl (by kernel_rfl) (by kernel_rfl) (by kernel_rfl) (fun _ _ _ h => h) (Or.inl ⟨by rfl, ?hyn16⟩) hHeld ?restn16
  case hyn16 => (intro w hSw; (try dsimp only at hSw); go_simp; try with_reducible rfl)
  try simp only [Act.put, List.getElem_toArray, List.getElem_cons_succ, List.getElem_cons_zero, List.setIfInBounds_toArray, List.set_cons_zero, List.set_cons_succ]
  refine wpAnyH_take (i := 16) (v := ?vn17) rfl (by kernel_rfl) (by kernel_rfl) (by kernel_rfl) (fun _ _ _ h => h) (Or.inl ⟨by rfl, ?hyn17⟩) hHeld ?restn17
  case hyn17 => (intro w hSw; (try dsimp only at hSw); go_simp; try with_reducible rfl)
  try simp only [Act.put, List.getElem_toArray, List.getElem_cons_succ, List.getElem_cons_zero, List.setIfInBounds_toArray, List.set_cons_zero, List.set_cons_succ]
  refine wpAnyH_take (i := 17) (v := .string (S.extract 0 32 ++ info)) rfl (by kernel_rfl) (by kernel_rfl) (by kernel_rfl) (fun _ _ _ h => h) (Or.inl ⟨by rfl, ?hyn18⟩) hHeld ?restn18
  case hyn18 => (intro w hSw; (try dsimp only at hSw); go_simp; omega)
  try simp only [Act.put, List.getElem_toArray, List.getElem_cons_succ, List.getElem_cons_zero, List.setIfInBounds_toArray, List.set_cons_zero, List.set_cons_succ]
  refine wpAnyH_take (i := 18) (v := .string (S.extract 0 32 ++ info ++ ⟨#[2]⟩)) rfl (by kernel_rfl) (by kernel_rfl) (by kernel_rfl) (fun _ _ _ h => h) (Or.inl ⟨by rfl, ?hyn19⟩) hHeld ?restn19
  case hyn19 => (intro w hSw; (try dsimp only at hSw); go_simp; omega)
  try simp only [Act.put, List.getElem_toArray, List.getElem_cons_succ, List.getElem_cons_zero, List.setIfInBounds_toArray, List.set_cons_zero, List.set_cons_succ]
  refine wpAnyH_ready (rs := [19]) (by kernel_rfl) (by simp) ?_
  refine AllReadyH.cons rfl (fun K hK => ?_) AllReadyH.nil
  clear hHeld
  go_simp
  refine (H3.out _ (rounds_of HG.out (by exact hC2))).mono ?_
  rintro r v3 ⟨rfl, hc3⟩
  have hC3 : Below w.heap.size w v3 := Below.trans (by go_grown) (hc3.mono (by have := hC2.size; first | (simp; omega) | omega))
  clear hc3
  go_simp
  refine hK.out _ _ (trivial) (fun hHeld => ?_)
  clear hK K
  try simp only [Act.put, List.getElem_toArray, List.getElem_cons_succ, List.getElem_cons_zero, List.setIfInBounds_toArray, List.set_cons_zero, List.set_cons_succ]
  refine wpAnyH_take (i := 20) (v := ?vn21) rfl (by kernel_rfl) (by kernel_rfl) (by kernel_rfl) (fun _ _ _ h => h) (Or.inl ⟨by rfl, ?hyn21⟩) hHeld ?restn21
  case hyn21 => (intro w hSw; (try dsimp only at hSw); go_simp; try with_reducible rfl)
  try simp only [Act.put, List.getElem_toArray, List.getElem_cons_succ, List.getElem_cons_zero, List.setIfInBounds_toArray, List.set_cons_zero, List.set_cons_succ]
  refine wpAnyH_take (i := 21) (v := ?vn22) rfl (by kernel_rfl) (by kernel_rfl) (by kernel_rfl) (fun _ _ _ h => h) (Or.inl ⟨by rfl, ?hyn22⟩) hHeld ?restn22
  case hyn22 => (intro w hSw; (try dsimp only at hSw); go_simp; try with_reducible rfl)
  try simp only [Act.put, List.getElem_toArray, List.getElem_cons_succ, List.getElem_cons_zero, List.setIfInBounds_toArray, List.set_cons_zero, List.set_cons_succ]
  refine wpAnyH_take (i := 22) (v := ?vn23) rfl (by kernel_rfl) (by kernel_rfl) (by kernel_rfl) (fun _ _ _ h => h) (Or.inl ⟨by rfl, ?hyn23⟩) hHeld ?restn23
  case hyn23 => (intro w hSw; (try dsimp only at hSw); go_simp; try with_reducible rfl)
  try simp only [Act.put, List.getElem_toArray, List.getElem_cons_succ, List.getElem_cons_zero, List.setIfInBounds_toArray, List.set_cons_zero, List.set_cons_succ]
  refine wpAnyH_done (by kernel_rfl) ?_ _
  all_goals
    go_wp2_with fail
    go_ret
    exact ⟨rfl, hC3⟩
theorem knext_all (key info : ByteArray) (w : World) (hG : Rounds w) (hkey : key.size ≤ 140737488351232) (hinfo : info.size ≤ 140737488351232) :
    Calls Tryd.prog 9 #[.string key, .string info] w fun e w' => e = .returned (.bool true) ∧ Below w.heap.size w w' := by
  cases hf : decide (400 < lenSum [key, info])
  · have k1 := lenSum_small hf (x := key) (by simp)
    have k2 := lenSum_small hf (x := info) (by simp)
    refine knext_in key info (expB key info 64) _ _ w hG hkey hinfo hf k2 (expB_size _ _ _) (exp64_left key info) (exp64_right key info) (fun W h => kexp_in key info 64 W h (by omega) (by omega) (by omega) (by omega)) (fun W h => mac_any key _ W h (by omega) (by rw [ByteArray.size_append, one_size]; omega)) (fun W h => mac_any key _ W h (by omega) ?_)
    rw [ByteArray.size_append, ByteArray.size_append, one_size, size_extract]; omega
  · exact keyednext_far key info w hkey hinfo hf
end Go.Proofs.YtkaaicmadknjcaaDoor
