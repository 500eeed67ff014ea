/- nonce: Bytes, the program's and the document's. -/
import Derived.Test.YtefodifmfjpnlaaDoorNonP
import Derived.Test.YtefodifmfjpnlaaDoorRow
import Derived.Laws.IdiomStrings
set_option linter.unusedVariables false
namespace Go.Proofs.YtefodifmfjpnlaaDoor
open Go.RowKit
theorem nrun_blk {P : Program} {w : World} {g : Nat} {t : TypeId} {L : List UInt8} (src dst e : TypeId) (hs : P.underlying src = some (.slice e)) (he : P.underlying e = some (.int .u8)) (hd : P.underlying dst = some .string) {c n : Nat} (hn : L.length = n) (h : Blk w g t (L.map vB).toArray) :
    (convert src dst (.slice (some ⟨g, 0, none⟩) n c)).run P w = .ok (.string ⟨L.toArray⟩) w := by
  subst hn
  refine run_convert_bytes_back w src dst e ⟨g, 0, none⟩ c L hs he hd fun j hj => ?_
  rw [Addr.add_lit, Nat.zero_add, h.cell j, List.getElem?_toArray, List.getElem?_map, List.getElem?_eq_getElem hj]
  rfl
theorem make12 (w : World) : (Instr.makeSlice 59 (.int .i64 12) (.int .i64 12)).run Tryd.prog w = .ok (.slice (some ⟨w.heap.size, 0, none⟩) 12 12) (w.alloc (.cells (List.replicate 12 (Value.int .u8 0)).toArray 5)) :=
  run_mkrow (P := Tryd.prog) 59 5 (.int .u8 0) 1 Tryd.underlying59 byte_info rfl 12 (by omega) (by omega) w
theorem vB_mod (x : Nat) : vB (UInt8.ofNat (x % 256)) = .int .u8 ((x % 256 : Nat) : Int) := by
  unfold vB
  rw [show (UInt8.ofNat (x % 256)).toNat = x % 256 by simp]
theorem beL_zero (n : Nat) : beL n 0 = List.replicate 12 0 := by simp [beL, lowL]
theorem bytes_no (n : Int) (w : World) (h : n < 0 ∨ 1000000000 < n) :
    Calls Tryd.prog 11 #[.int .i64 n] w fun e w' => e = .returned (.tuple #[.string ⟨#[]⟩, .int .i64 1]) ∧ w = w' := by
  rcases h with h | h
  · go_enter Tryd.func11, Tryd.ntmps11
    go_wp2
    go_ret2
    exact ⟨rfl, rfl⟩
  · have h0 : 0 ≤ n := by omega
    go_enter Tryd.func11, Tryd.ntmps11
    go_wp2
    go_ret2
    exact ⟨rfl, rfl⟩
set_option maxRecDepth 100000 in
set_option maxHeartbeats 800000 in
theorem bytes_in (n : Nat) (w : World) (h : n ≤ 1000000000) :
    Calls Tryd.prog 11 #[.int .i64 n] w fun e w' => e = .returned (.tuple #[.string (nonB n), .int .i64 0]) ∧ Below w.heap.size w w' := by
  have hmk := make12 w
  have hR0 : Hid (Row vB (w.alloc (.cells (List.replicate 12 (Value.int .u8 0)).toArray 5)) w.heap.size 5 (beL n 0)) := Lib.hid (by
    rw [beL_zero]
    exact Row.new (f := vB) w 5 12 0)
  obtain ⟨Z, hZ⟩ : ∃ Z : Array Value, (List.replicate 12 (Value.int .u8 0)).toArray = Z := ⟨_, rfl⟩
  rw [hZ] at hmk hR0
  clear hZ
  go_enter Tryd.func11, Tryd.ntmps11
  go_wp2_with fail
  clear hmk
  go_loopw [13] (fun iv wr => ∃ k : Nat, k ≤ 8 ∧ iv = .int .i64 k ∧ Hid (Row vB wr w.heap.size 5 (beL n k)) ∧ Below w.heap.size w wr) (fun iv _ => 8 - (intOf iv).toNat)
  case atStart => exact ⟨0, by omega, rfl, hR0, by go_grown⟩
  case round =>
    clear hR0
    obtain ⟨k, hk, rfl, HR, hB⟩ := hrel
    by_cases hlt : k < 8
    · have hlen := beL_len n k (by omega)
      obtain ⟨j, hj⟩ : ∃ j, 11 - k = j := ⟨_, rfl⟩
      have hji : (11 : Int) - (k : Int) = (j : Int) := by omega
      obtain ⟨x, hx⟩ : ∃ x, (beL n k)[j]? = some x := ⟨_, List.getElem?_eq_getElem (by omega)⟩
      have c0 := HR.out.get hx
      have f0 := HR.out.free j
      have j0 : (0 : Int) ≤ j := by omega
      have j1 : (j : Int) < 12 := by omega
      obtain ⟨sh, hsh⟩ : ∃ sh, 8 * k = sh := ⟨_, rfl⟩
      have e1 : (8 : Int) * (k : Int) = (sh : Int) := by omega
      have hs64 : sh ≤ 56 := by omega
      have HE : Hid (Row vB (wr.setCell ⟨w.heap.size, j, none⟩ (.int .u8 ((n : Int) / 2 ^ sh % 256))) w.heap.size 5 (beL n (k + 1))) := Lib.hid (by
        have h1 := HR.out.set_ j (UInt8.ofNat (n / 2 ^ (8 * k) % 256))
        rw [← hj, beL_set n k (by omega), vB_mod, hsh, hj] at h1
        have h2 : (((n / 2 ^ sh % 256 : Nat)) : Int) = (n : Int) / 2 ^ sh % 256 := by simp
        rw [h2] at h1
        exact h1)
      have hlt2 := HR.out.lt
      unfold vB at c0
      clear hx hlen hj hsh HR
      go_wp2_with fail
      go_roundw
      case rel => exact ⟨k + 1, by omega, by go_num, HE, by go_grown⟩
      case measure => simp [intOf]; omega
    · obtain rfl : k = 8 := by omega
      have hcv := nrun_blk (P := Tryd.prog) (L := beL n 8) (n := 12) (c := 12) 59 9 5 Tryd.underlying59 Tryd.underlying5 Tryd.underlying9 (beL_len n 8 (by decide)) HR.out
      go_wp2_with fail
      go_ret2
      exact ⟨rfl, hB⟩
theorem bytes_any (n : Int) (w : World) :
    Calls Tryd.prog 11 #[.int .i64 n] w fun e w' => e = .returned (.tuple #[.string (nonF n).1, .int .i64 (nonF n).2]) ∧ Below w.heap.size w w' := by
  unfold nonF
  by_cases h : 0 ≤ n ∧ n ≤ 1000000000
  · rw [if_pos h]
    obtain ⟨m, rfl⟩ := Int.eq_ofNat_of_zero_le h.1
    exact bytes_in m w (by omega)
  · rw [if_neg h]
    refine (bytes_no n w (by omega)).mono ?_
    rintro e w' ⟨rfl, rfl⟩
    exact ⟨rfl, Below.refl _ _⟩
theorem rbytes_no (n : Int) (w : World) (h : n < 0 ∨ 1000000000 < n) :
    Calls Tryd.prog 12 #[.int .i64 n] w fun e w' => e = .returned (.tuple #[.string ⟨#[]⟩, .int .i64 1]) ∧ w = w' := by
  rcases h with h | h
  · go_enter Tryd.func12, Tryd.ntmps12
    go_wp2
    go_ret2
    exact ⟨rfl, rfl⟩
  · have h0 : 0 ≤ n := by omega
    go_enter Tryd.func12, Tryd.ntmps12
    go_wp2
    go_ret2
    exact ⟨rfl, rfl⟩
set_option maxRecDepth 100000 in
set_option maxHeartbeats 800000 in
theorem rbytes_in (n : Nat) (w : World) (h : n ≤ 1000000000) :
    Calls Tryd.prog 12 #[.int .i64 n] w fun e w' => e = .returned (.tuple #[.string (nonB n), .int .i64 0]) ∧ Below w.heap.size w w' := by
  have hmk := make12 w
  have hR0 : Hid (Row vB (w.alloc (.cells (List.replicate 12 (Value.int .u8 0)).toArray 5)) w.heap.size 5 (beL n 0)) := Lib.hid (by
    rw [beL_zero]
    exact Row.new (f := vB) w 5 12 0)
  obtain ⟨Z, hZ⟩ : ∃ Z : Array Value, (List.replicate 12 (Value.int .u8 0)).toArray = Z := ⟨_, rfl⟩
  rw [hZ] at hmk hR0
  clear hZ
  go_enter Tryd.func12, Tryd.ntmps12
  go_wp2_with fail
  clear hmk
  have h0 : Hid (n / 2 ^ (8 * 0) = n) := Lib.hid (by simp)
  go_loopw [0, 5] (fun nv iv wr => ∃ (k : Nat) (x : Nat) (i : Int), k ≤ 8 ∧ i = 11 - (k : Int) ∧ nv = .int .i64 x ∧ iv = .int .i64 i ∧ Hid (n / 2 ^ (8 * k) = x) ∧ x ≤ 1000000000 ∧ Hid (Row vB wr w.heap.size 5 (beL n k)) ∧ Below w.heap.size w wr) (fun _ iv _ => (intOf iv).toNat)
  case atStart => exact ⟨0, n, 11, by omega, rfl, rfl, rfl, h0, h, hR0, by go_grown⟩
  case round =>
    clear hR0 h0
    obtain ⟨k, x, i, hk, hi, rfl, rfl, HX, hx9, HR, hB⟩ := hrel
    by_cases hlt : k < 8
    · have hlen := beL_len n k (by omega)
      obtain ⟨j, hj⟩ : ∃ j, 11 - k = j := ⟨_, rfl⟩
      obtain rfl : i = (j : Int) := by omega
      obtain ⟨y, hy⟩ : ∃ y, (beL n k)[j]? = some y := ⟨_, List.getElem?_eq_getElem (by omega)⟩
      have c0 := HR.out.get hy
      have f0 := HR.out.free j
      have j0 : (0 : Int) ≤ j := by omega
      have j1 : (j : Int) < 12 := by omega
      have j4 : (4 : Int) ≤ j := by omega
      have HE : Hid (Row vB (wr.setCell ⟨w.heap.size, j, none⟩ (.int .u8 ((x : Int) % 256))) w.heap.size 5 (beL n (k + 1))) := Lib.hid (by
        have h1 := HR.out.set_ j (UInt8.ofNat (n / 2 ^ (8 * k) % 256))
        rw [← hj, beL_set n k (by omega), vB_mod, HX.out, hj] at h1
        have h2 : (((x % 256 : Nat)) : Int) = (x : Int) % 256 := by simp
        rw [h2] at h1
        exact h1)
      have hlt2 := HR.out.lt
      have HX2 : Hid (n / 2 ^ (8 * (k + 1)) = x / 256) := Lib.hid (by
        rw [show 8 * (k + 1) = 8 * k + 8 by omega, Nat.pow_add, ← Nat.div_div_eq_div_mul, HX.out])
      have hx2 : x / 256 ≤ 1000000000 := by omega
      have hdx : (x : Int) / 256 = ((x / 256 : Nat) : Int) := by simp
      obtain ⟨z, hz⟩ : ∃ z, x / 256 = z := ⟨_, rfl⟩
      rw [hz] at HX2 hx2 hdx
      have hjz : (j : Int) - 1 = 11 - ((k + 1 : Nat) : Int) := by omega
      have HJ := Lib.hid hjz
      unfold vB at c0
      clear hy hlen HR hz hjz hi
      go_wp2_with fail
      go_roundw
      case rel => exact ⟨k + 1, z, (j : Int) - 1, by omega, HJ.out, rfl, rfl, HX2, hx2, HE, by go_grown⟩
      case measure => simp [intOf]; omega
    · obtain rfl : k = 8 := by omega
      obtain rfl : i = 3 := by omega
      have hcv := nrun_blk (P := Tryd.prog) (L := beL n 8) (n := 12) (c := 12) 59 9 5 Tryd.underlying59 Tryd.underlying5 Tryd.underlying9 (beL_len n 8 (by decide)) HR.out
      go_wp2_with fail
      go_ret2
      exact ⟨rfl, hB⟩
theorem rbytes_any (n : Int) (w : World) :
    Calls Tryd.prog 12 #[.int .i64 n] w fun e w' => e = .returned (.tuple #[.string (nonF n).1, .int .i64 (nonF n).2]) ∧ Below w.heap.size w w' := by
  unfold nonF
  by_cases h : 0 ≤ n ∧ n ≤ 1000000000
  · rw [if_pos h]
    obtain ⟨m, rfl⟩ := Int.eq_ofNat_of_zero_le h.1
    exact rbytes_in m w (by omega)
  · rw [if_neg h]
    refine (rbytes_no n w (by omega)).mono ?_
    rintro e w' ⟨rfl, rfl⟩
    exact ⟨rfl, Below.refl _ _⟩
end Go.Proofs.YtefodifmfjpnlaaDoor
