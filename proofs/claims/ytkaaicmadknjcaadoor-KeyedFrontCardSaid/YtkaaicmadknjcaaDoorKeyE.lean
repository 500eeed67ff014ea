/- keyed: the reference's Expand, Derive. -/
import Derived.Test.YtkaaicmadknjcaaDoorKeyD
set_option linter.unusedVariables false
namespace Go.Proofs.YtkaaicmadknjcaaDoor
open Go.RowKit
theorem one_byte_new (x : Nat) (hx : x < 256) (W : World) (g : Nat) (hg : W.heap.size = g) :
    (convert 40 9 (.slice (some ⟨g, 0, none⟩) 1 1)).run Tryd.prog (W.alloc (.cells #[.int .u8 x] 5)) = .ok (.string ⟨#[UInt8.ofNat x]⟩) (W.alloc (.cells #[.int .u8 x] 5)) := by
  have hv : (Value.int .u8 (x : Int)) = vB (UInt8.ofNat x) := by
    unfold vB
    have : (UInt8.ofNat x).toNat = x := by simp; omega
    rw [this]
  rw [hv]
  exact run_brow (base := g) (L := [UInt8.ofNat x]) 40 9 5 Tryd.underlying40 Tryd.underlying5 Tryd.underlying9 rfl (brow_new W (Nat.le_refl g) [UInt8.ofNat x] (Blk.new_at hg _ _) (by simp))
theorem rexp_no (key info : ByteArray) (n : Int) (w : World) (h : n < 1 ∨ 8160 < n) :
    Calls Tryd.prog 41 #[.string key, .string info, .int .i64 n] w fun e w' => e = .returned (.tuple #[.string ByteArray.empty, .int .i64 1]) ∧ Below w.heap.size w w' := by
  by_cases h1 : n < 1
  · have t1 : decide (n < 1) = true := by simpa using h1
    clear h h1
    go_enter Tryd.func41, Tryd.ntmps41
    go_wp2
    go_ret2
    exact ⟨rfl, by go_grown⟩
  · have t1 : decide (n < 1) = false := by simpa using h1
    have t2 : decide (8160 < n) = true := by simp; omega
    clear h h1
    go_enter Tryd.func41, Tryd.ntmps41
    go_wp2
    go_ret2
    exact ⟨rfl, by go_grown⟩
def strSize (v : Value) : Nat := match v with | .string s => s.size | _ => 0
set_option maxHeartbeats 1000000 in
set_option maxRecDepth 100000 in
theorem rexp_in (key info : ByteArray) (n : Nat) (w : World) (hk : key.size ≤ 100000) (hi : info.size ≤ 90000) (h1 : 1 ≤ n) (h2 : n ≤ 8160) :
    Calls Tryd.prog 41 #[.string key, .string info, .int .i64 n] w fun e w' => e = .returned (.tuple #[.string (expB key info n), .int .i64 0]) ∧ Below w.heap.size w w' := by
  have HS := Lib.hid (And.intro hk hi)
  have t1 : decide ((n : Int) < 1) = false := by simp; omega
  have t2 : decide (8160 < (n : Int)) = false := by simp; omega
  clear hk hi
  go_enter Tryd.func41, Tryd.ntmps41
  go_wp2_with fail
  clear t1 t2
  go_loopw [8, 9, 10] (fun ov tv iv wr => ∃ (k i : Nat) (o t : ByteArray), ov = .string o ∧ tv = .string t ∧ iv = .int .i64 i ∧ Hid (i = k + 1) ∧ Hid (32 * k < n + 32) ∧ Hid (o = catK key info k) ∧ Hid (t = partK key info k) ∧ Below w.heap.size w wr) (fun ov _ _ _ => 10000 - strSize ov)
  case atStart => exact ⟨0, 1, _, _, rfl, rfl, rfl, rfl, Lib.hid (by omega), rfl, rfl, Below.refl _ _⟩
  case round =>
    obtain ⟨k, i, o, t, rfl, rfl, rfl, HI, HN, HO, HT, hB⟩ := hrel
    have hsz := hB.size
    have hos : o.size = 32 * k := by rw [HO.out, catK_size]
    have HOS := Lib.hid hos
    by_cases hlt : o.size < n
    · have hi255 : (i : Int) ≤ 255 := by have := HI.out; omega
      have hi0 : (0 : Int) ≤ (i : Int) := by omega
      have ht32 : t.size ≤ 32 := by rw [HT.out]; exact partK_le _ _ _
      have hin : info.size ≤ 90000 := HS.out.2
      have hob : o.size ≤ 8160 := by omega
      have hR1 := one_byte_new i (by omega) wr wr.heap.size rfl
      have HP : Hid (macB key (t ++ info ++ ⟨#[UInt8.ofNat i]⟩) = partK key info (k + 1)) := Lib.hid (by rw [HT.out, HI.out]; rfl)
      have HO2 : Hid (o ++ partK key info (k + 1) = catK key info (k + 1)) := Lib.hid (by rw [HO.out]; rfl)
      have hp32 := partK_size key info k
      have HK1 : Hid (32 * (k + 1) < n + 32) := Lib.hid (by omega)
      clear hos
      go_wp2_with fail
      have hm := rmac_any key (t ++ info ++ ⟨#[UInt8.ofNat i]⟩) (wr.alloc (.cells #[.int .u8 i] 5)) HS.out.1 (by rw [ByteArray.size_append, ByteArray.size_append, one_size]; omega)
      refine hm.mono ?_
      clear hm
      rintro e w1 ⟨rfl, hb1⟩
      rw [HP.out]
      have hB1 : Below wr.heap.size wr w1 := Below.trans (by go_grown) (hb1.mono (by simp))
      have hBw := hB.trans (hB1.mono hsz)
      clear hb1 hR1 hB1
      obtain ⟨p, hp⟩ : ∃ p, partK key info (k + 1) = p := ⟨_, rfl⟩
      rw [hp] at HO2 hp32 ⊢
      have HPP := Lib.hid hp
      have hps : p.size ≤ 32 := by omega
      have HS2 : Hid ((o ++ p).size = o.size + 32) := Lib.hid (by rw [ByteArray.size_append]; omega)
      clear hp hp32
      go_wp2_with fail
      go_roundw
      case rel => exact ⟨k + 1, i + 1, _, _, rfl, rfl, by go_num, Lib.hid (by rw [HI.out]), HK1, HO2, Lib.hid HPP.out.symm, hBw⟩
      case measure => simp only [strSize]; have := HS2.out; omega
    · have hns : n ≤ o.size := by omega
      have n0 : (0 : Int) ≤ (n : Int) := by omega
      have n1 : (n : Int) ≤ (o.size : Int) := by omega
      have HV : Hid (o.extract 0 n = expB key info n) := Lib.hid (by rw [HO.out]; exact expB_of key info (by have := HOS.out; omega))
      clear hos
      go_wp2_with fail
      rw [HV.out]
      go_ret2
      exact ⟨rfl, hB⟩
theorem rexp_all (key info : ByteArray) (n : Int) (w : World) (hk : key.size ≤ 100000) (hi : info.size ≤ 90000) :
    Calls Tryd.prog 41 #[.string key, .string info, .int .i64 n] w fun e w' => e = .returned (.tuple #[.string (expS key info n), .int .i64 (expE n)]) ∧ Below w.heap.size w w' := by
  by_cases h : 1 ≤ n ∧ n ≤ 8160
  · obtain ⟨m, rfl⟩ : ∃ m : Nat, n = m := ⟨n.toNat, by omega⟩
    have := rexp_in key info m w hk hi (by omega) (by omega)
    unfold expS expE
    rw [if_pos h, if_pos h]
    exact this
  · unfold expS expE
    rw [if_neg h, if_neg h]
    exact rexp_no key info n w (by omega)
theorem rderive_all (key salt info : ByteArray) (n : Int) (w : World) (hk : key.size ≤ 100000) (hs : salt.size ≤ 100000) (hi : info.size ≤ 90000) :
    Calls Tryd.prog 43 #[.string key, .string salt, .string info, .int .i64 n] w fun e w' => e = .returned (.tuple #[.string (expS (macB salt key) info n), .int .i64 (expE n)]) ∧ Below w.heap.size w w' := by
  have HM := Lib.hid (rmac_any salt key w hs hk)
  have h2 := fun W => rexp_all (macB salt key) info n W (by rw [macB_size]; omega) hi
  clear hk hs hi
  generalize macB salt key = M at *
  generalize expS M info n = X at *
  generalize expE n = Y at *
  have H2 := Lib.hid h2
  clear h2
  go_enter Tryd.func43, Tryd.ntmps43
  go_wp2_with fail
  refine HM.out.mono ?_
  rintro e w1 ⟨rfl, hb1⟩
  go_wp2_with fail
  refine (H2.out _).mono ?_
  rintro e w2 ⟨rfl, hb2⟩
  go_wp2_with fail
  go_ret2
  exact ⟨rfl, hb1.trans (hb2.mono hb1.size)⟩
end Go.Proofs.YtkaaicmadknjcaaDoor
