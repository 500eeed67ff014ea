/- session: Number, a number's bytes, nonces, a frame's text. -/
import Derived.Test.YtbgohcedakpnbaaDoorSesP
import Derived.Test.YtbgohcedakpnbaaDoorBits
import Derived.Test.YtbgohcedakpnbaaDoorRow
import Derived.Laws.IdiomStrings
import Derived.Deep.RegionHeld3
set_option linter.unusedVariables false
namespace Go.Proofs.YtbgohcedakpnbaaDoor
open Go.RowKit
theorem sget_list (s : ByteArray) (i : Nat) (h : i < s.size) : s.data.toList.getD i 0 = s[i] := by
  rw [List.getD_eq_getElem?_getD, List.getElem?_eq_getElem (by simpa using h)]
  rfl
theorem u64_or_byte (a b : Nat) (ha : a < 72057594037927936) (hb : b < 256) : bits .or .u64 ((a : Int) * 256) (b : Int) = ((a * 256 + b : Nat) : Int) := by
  rw [show (a : Int) * 256 = ((a * 256 : Nat) : Int) by simp]
  have h1 : a * 256 ||| b = a * 256 + b := by
    have := Nat.shiftLeft_add_eq_or_of_lt (i := 8) (b := b) (by omega) a
    rw [Nat.shiftLeft_eq] at this
    exact this.symm
  show IntKind.u64.wrap ((BitVec.ofInt 64 ((a * 256 : Nat) : Int) ||| BitVec.ofInt 64 (b : Int)).toNat : Int) = _
  rw [BitVec.toNat_or, ofInt_i64 (a * 256) (by omega), ofInt_i64 b (by omega), h1]
  simp only [IntKind.wrap, IntKind.bits, IntKind.signed]
  simp
  omega
set_option maxRecDepth 100000 in
set_option maxHeartbeats 2000000 in
theorem number_any (s : ByteArray) (w : World) (hs : s.size ≤ 140737488351232) :
    Calls Tryd.prog 28 #[.string s] w fun e w' => e = .returned (.tuple #[.int .i64 (numS s).1, .bool (numS s).2]) ∧ w = w' := by
  by_cases h1 : s.size < 8
  · have t1 : decide ((s.size : Int) < 8) = true := by simp; omega
    unfold numS
    rw [if_pos h1]
    clear h1
    go_enter Tryd.func28, Tryd.ntmps28
    go_wp2_with fail
    go_ret2
    exact ⟨rfl, rfl⟩
  · have t1 : decide ((s.size : Int) < 8) = false := by simp; omega
    obtain ⟨V, hV⟩ : ∃ V, numS s = V := ⟨_, rfl⟩
    rw [hV]
    unfold numS at hV
    rw [if_neg h1] at hV
    have HV := Lib.hid hV
    have h8 : 8 ≤ s.size := by omega
    clear hV h1
    go_enter Tryd.func28, Tryd.ntmps28
    go_wp2_with fail
    go_loopw [4, 9] (fun nv iv wr => ∃ (k x : Nat), k ≤ 8 ∧ iv = .int .i64 k ∧ nv = .int .u64 x ∧ Hid (numTo s.data.toList k = x ∧ x < 256 ^ k) ∧ w = wr) (fun _ iv _ => 8 - (intOf iv).toNat)
    case atStart => exact ⟨0, 0, by omega, rfl, rfl, Lib.hid ⟨rfl, by decide⟩, rfl⟩
    case round =>
      obtain ⟨k, x, hk, rfl, rfl, HX, rfl⟩ := hrel
      by_cases hlt : k < 8
      · have hks : k < s.size := by omega
        have hgk := sget_list s k hks
        have hbk := (s[k]'hks).toNat_lt
        have hx56 : x < 72057594037927936 := by
          have h1 := HX.out.2
          have h2 : 256 ^ k ≤ 256 ^ 7 := Nat.pow_le_pow_right (by decide) (by omega)
          omega
        have HE : Hid (numTo s.data.toList (k + 1) = x * 256 + (s[k]'hks).toNat ∧ x * 256 + (s[k]'hks).toNat < 256 ^ (k + 1)) := Lib.hid (by
          have h1 : numTo s.data.toList (k + 1) = x * 256 + (s[k]'hks).toNat := by rw [numTo, HX.out.1, hgk]
          exact ⟨h1, by rw [← h1]; exact numTo_lt _ _⟩)
        have hor := u64_or_byte x (s[k]'hks).toNat hx56 hbk
        have hks2 : (k : Int) < (s.size : Int) := by omega
        clear hgk HX
        go_wp2_with fail
        go_roundw
        case rel => exact ⟨k + 1, x * 256 + (s[k]'hks).toNat, by omega, by go_num, by first | rfl | (simp; done) | rw [hor], HE, by first | trivial | rfl⟩
        case measure => simp [intOf]; omega
      · obtain rfl : k = 8 := by omega
        have hv := HV.out
        rw [HX.out.1] at hv
        have hx64 : x < 18446744073709551616 := by have := HX.out.2; omega
        clear HV HX
        by_cases hr : 1 ≤ x ∧ x ≤ 1000000000
        · rw [if_pos hr] at hv
          subst hv
          have a1 : decide ((x : Int) < 1) = false := by simp; omega
          have a2 : decide ((1000000000 : Int) < (x : Int)) = false := by simp; omega
          have hw := wrap_i64_nat x (by omega)
          go_wp2_with fail
          go_ret2
          exact ⟨rfl, rfl⟩
        · rw [if_neg hr] at hv
          subst hv
          by_cases hx0 : x < 1
          · have a1 : decide ((x : Int) < 1) = true := by simp; omega
            go_wp2_with fail
            go_ret2
            exact ⟨rfl, rfl⟩
          · have a1 : decide ((x : Int) < 1) = false := by simp; omega
            have a2 : decide ((1000000000 : Int) < (x : Int)) = true := by simp; omega
            go_wp2_with fail
            go_ret2
            exact ⟨rfl, rfl⟩
theorem smake8 (w : World) : (Instr.makeSlice 54 (.int .i64 8) (.int .i64 8)).run Tryd.prog w = .ok (.slice (some ⟨w.heap.size, 0, none⟩) 8 8) (w.alloc (.cells (List.replicate 8 (Value.int .u8 0)).toArray 5)) :=
  run_mkrow (P := Tryd.prog) 54 5 (.int .u8 0) 1 Tryd.underlying54 byte_info rfl 8 (by omega) (by omega) w
theorem srun_blk {P : Program} {w : World} {g : Nat} {t : TypeId} {L : List UInt8} (src dst e : TypeId) (hs : P.underlying src = some (.slice e)) (he : P.underlying e = some (.int .u8)) (hd : P.underlying dst = some .string) {c n : Nat} (hn : L.length = n) (h : Blk w g t (L.map vB).toArray) :
    (convert src dst (.slice (some ⟨g, 0, none⟩) n c)).run P w = .ok (.string ⟨L.toArray⟩) w := by
  subst hn
  refine run_convert_bytes_back w src dst e ⟨g, 0, none⟩ c L hs he hd fun j hj => ?_
  rw [Addr.add_lit, Nat.zero_add, h.cell j, List.getElem?_toArray, List.getElem?_map, List.getElem?_eq_getElem hj]
  rfl
theorem svB_mod (x : Nat) : vB (UInt8.ofNat (x % 256)) = .int .u8 ((x % 256 : Nat) : Int) := by
  unfold vB
  rw [show (UInt8.ofNat (x % 256)).toNat = x % 256 by simp]
set_option maxRecDepth 100000 in
set_option maxHeartbeats 800000 in
theorem sbytes_any (n : Nat) (w : World) (h : n ≤ 1000000000) :
    Calls Tryd.prog 65 #[.int .i64 n] w fun e w' => e = .returned (.string (be8 n)) ∧ Below w.heap.size w w' := by
  have hmk := smake8 w
  have hR0 : Hid (Row vB (w.alloc (.cells (List.replicate 8 (Value.int .u8 0)).toArray 5)) w.heap.size 5 (be8L n 0)) := Lib.hid (by
    rw [be8L_zero]
    exact Row.new (f := vB) w 5 8 0)
  obtain ⟨Z, hZ⟩ : ∃ Z : Array Value, (List.replicate 8 (Value.int .u8 0)).toArray = Z := ⟨_, rfl⟩
  rw [hZ] at hmk hR0
  clear hZ
  go_enter Tryd.func65, Tryd.ntmps65
  go_wp2_with fail
  clear hmk
  go_loopw [6] (fun iv wr => ∃ k : Nat, k ≤ 8 ∧ iv = .int .i64 k ∧ Hid (Row vB wr w.heap.size 5 (be8L n k)) ∧ Below w.heap.size w wr) (fun iv _ => 8 - (intOf iv).toNat)
  case atStart => exact ⟨0, by omega, rfl, hR0, by go_grown⟩
  case round =>
    clear hR0
    obtain ⟨k, hk, rfl, HR, hB⟩ := hrel
    by_cases hlt : k < 8
    · have hlen := be8L_len n k (by omega)
      obtain ⟨j, hj⟩ : ∃ j, 7 - k = j := ⟨_, rfl⟩
      have hji : (7 : Int) - (k : Int) = (j : Int) := by omega
      obtain ⟨x, hx⟩ : ∃ x, (be8L n k)[j]? = some x := ⟨_, List.getElem?_eq_getElem (by omega)⟩
      have c0 := HR.out.get hx
      have f0 := HR.out.free j
      have j0 : (0 : Int) ≤ j := by omega
      have j1 : (j : Int) < 8 := by omega
      obtain ⟨sh, hsh⟩ : ∃ sh, 8 * k = sh := ⟨_, rfl⟩
      have e1 : (8 : Int) * (k : Int) = (sh : Int) := by omega
      have hs64 : sh ≤ 56 := by omega
      have HE : Hid (Row vB (wr.setCell ⟨w.heap.size, j, none⟩ (.int .u8 ((n : Int) / 2 ^ sh % 256))) w.heap.size 5 (be8L n (k + 1))) := Lib.hid (by
        have h1 := HR.out.set_ j (UInt8.ofNat (n / 2 ^ (8 * k) % 256))
        rw [← hj, be8L_set n k (by omega), svB_mod, hsh, hj] at h1
        have h2 : (((n / 2 ^ sh % 256 : Nat)) : Int) = (n : Int) / 2 ^ sh % 256 := by simp
        rw [h2] at h1
        exact h1)
      have hlt2 := HR.out.lt
      unfold vB at c0
      clear hx hlen hj hsh HR
      go_wp2_with fail
      go_roundw
      case rel => exact ⟨k + 1, by omega, by go_num, HE, by go_grown⟩
      case measure => simp [intOf]; omega
    · obtain rfl : k = 8 := by omega
      have hcv := srun_blk (P := Tryd.prog) (L := be8L n 8) (n := 8) (c := 8) 54 9 5 Tryd.underlying54 Tryd.underlying5 Tryd.underlying9 (be8L_len n 8 (by decide)) HR.out
      go_wp2_with fail
      go_ret
      exact ⟨rfl, hB⟩
theorem shead (b : UInt8) (w : World) (x : Int) (hx : x = (b.toNat : Nat)) : (convert 54 9 (.slice (some ⟨w.heap.size, 0, none⟩) 4 4)).run Tryd.prog (w.alloc (.cells #[.int .u8 x, .int .u8 0, .int .u8 0, .int .u8 0] 5)) = .ok (.string ⟨#[b, 0, 0, 0]⟩) (w.alloc (.cells #[.int .u8 x, .int .u8 0, .int .u8 0, .int .u8 0] 5)) := by
  subst hx
  exact srun_blk (P := Tryd.prog) (L := [b, 0, 0, 0]) (n := 4) (c := 4) 54 9 5 Tryd.underlying54 Tryd.underlying5 Tryd.underlying9 rfl (Blk.new w 5 _)
/-- a function that tells nonces -/
def fnN (g : Nat) : Value := .func (.func 64) #[] #[.pointer (some ⟨g, 0, none⟩)]
def headN (side : Nat) : ByteArray := ⟨#[UInt8.ofNat side, 0, 0, 0]⟩
set_option maxRecDepth 100000 in
set_option maxHeartbeats 800000 in
theorem nonces_any (side : Nat) (w : World) (h : side ≤ 1) :
    Calls Tryd.prog 48 #[.int .i64 side] w fun e w' => e = .returned (fnN (w.heap.size + 1)) ∧ Blk w' (w.heap.size + 1) 9 #[.string (headN side)] ∧ Below w.heap.size w w' := by
  obtain rfl | rfl : side = 0 ∨ side = 1 := by omega
  · have hcv := shead 0 w 0 rfl
    go_enter Tryd.func48, Tryd.ntmps48
    go_wp2_with fail
    go_ret
    exact ⟨rfl, Blk.new_at (by simp) _ _, by go_grown⟩
  · have hcv := shead 1 w 1 rfl
    go_enter Tryd.func48, Tryd.ntmps48
    go_wp2_with fail
    go_ret
    exact ⟨rfl, Blk.new_at (by simp) _ _, by go_grown⟩
set_option maxRecDepth 100000 in
set_option maxHeartbeats 800000 in
theorem nonce_any (side n g : Nat) (w : World) (h : n ≤ 1000000000) (hB : Blk w g 9 #[.string (headN side)]) :
    Calls Tryd.prog 64 #[.int .i64 n, .pointer (some ⟨g, 0, none⟩)] w fun e w' => e = .returned (.string (sesN side n)) ∧ Below w.heap.size w w' := by
  have hS := sbytes_any n
  have e1 : sesN side n = headN side ++ be8 n := rfl
  rw [e1]
  clear e1
  have hH4 : (headN side).size ≤ 4 := Nat.le_refl 4
  have hB8 : (be8 n).size ≤ 8 := Nat.le_of_eq (be8_size n)
  have hq : (headN side).size + (be8 n).size ≤ 9223372036854775807 := by omega
  generalize headN side = H at *
  generalize be8 n = B at *
  have c0 := hB.cells 0 _ rfl
  simp only [List.getElem_toArray, List.getElem_cons_zero] at c0
  have hlt := hB.lt
  have HB : Hid (∀ W, Below w.heap.size w W → W.cell? ⟨g, 0, none⟩ = some (.string H)) := Lib.hid (fun W hb => by
    have hq := hB.below hb hlt
    exact hq.cells 0 _ rfl)
  have HS := Lib.hid hS
  clear hB hS
  go_enter Tryd.func64, Tryd.ntmps64
  go_wp2_with fail
  go_region_with (go_at_call 65; refine (HS.out _ h).mono ?_; rintro e w2 ⟨rfl, hb2⟩; have hB2 : Below w.heap.size w w2 := Below.trans (by go_grown) (hb2.mono (by simp)); have hs2 := hB2.size; have c2 := HB.out w2 hB2; clear hb2)
  all_goals go_wp2_with fail
  all_goals go_ret
  all_goals exact ⟨rfl, by go_grown⟩
def sesV (K : ByteArray) (side sent seen : Int) : Value := .agg #[.string K, .int .i64 side, .int .i64 sent, .int .i64 seen]
set_option maxRecDepth 100000 in
set_option maxHeartbeats 800000 in
theorem sright_any (K : ByteArray) (side sent seen : Nat) (w : World) (hK : K.size = 32) (hs : side ≤ 1) (h1 : sent ≤ 1000000000) (h2 : seen ≤ 1000000000) :
    Calls Tryd.prog 47 #[sesV K side sent seen] w fun e w' => e = .returned (.bool true) ∧ Below w.heap.size w w' := by
  unfold sesV
  have t1 : ((K.size : Int) == 32) = true := by simp; omega
  have t2 : decide ((sent : Int) ≤ 1000000000) = true := by simp; omega
  have t3 : decide ((seen : Int) ≤ 1000000000) = true := by simp; omega
  have t4 : decide ((0 : Int) ≤ (sent : Int)) = true := by simp
  have t5 : decide ((0 : Int) ≤ (seen : Int)) = true := by simp
  clear hK h1 h2
  obtain rfl | rfl : side = 0 ∨ side = 1 := by omega
  all_goals
    go_enter Tryd.func47, Tryd.ntmps47
    go_wp2_with fail
    go_ret
    exact ⟨rfl, by go_grown⟩
set_option maxRecDepth 100000 in
set_option maxHeartbeats 800000 in
theorem ftext_any (n : Nat) (x : ByteArray) (w : World) (h : n ≤ 1000000000) (hx : x.size ≤ 140737488351232) :
    Calls Tryd.prog 50 #[.agg #[.int .i64 n, .string x]] w fun e w' => e = .returned (.string (be8 n ++ x)) ∧ Below w.heap.size w w' := by
  have hS := sbytes_any n
  have hB8 : (be8 n).size ≤ 8 := Nat.le_of_eq (be8_size n)
  have hq : (be8 n).size + x.size ≤ 9223372036854775807 := by omega
  generalize be8 n = B at *
  have HS := Lib.hid hS
  have HB : Hid (∀ W, Below (w.heap.size + 1) (w.alloc (.cells #[.int .i64 n, .string x] 84)) W → W.cell? ⟨w.heap.size, 0, none⟩ = some (.int .i64 n) ∧ W.cell? ⟨w.heap.size, 1, none⟩ = some (.string x)) := Lib.hid (fun W hb => by
    have hq := (Blk.new w 84 #[.int .i64 n, .string x]).below hb (by omega)
    exact ⟨hq.cells 0 _ rfl, hq.cells 1 _ rfl⟩)
  clear hS
  go_enter Tryd.func50, Tryd.ntmps50
  go_wp2_with fail
  go_region_with (go_at_call 65; refine (HS.out _ h).mono ?_; rintro e w2 ⟨rfl, hb2⟩; have hB2 : Below (w.heap.size + 1) (w.alloc (.cells #[.int .i64 n, .string x] 84)) w2 := Below.trans (by go_grown) (hb2.mono (by simp)); have hB3 : Below w.heap.size w w2 := Below.trans (by go_grown) (hB2.mono (by omega)); have hs2 := hB2.size; obtain ⟨c2, c3⟩ := HB.out w2 hB2; clear hb2)
  all_goals go_wp2_with fail
  all_goals go_ret
  all_goals exact ⟨rfl, by go_grown⟩
end Go.Proofs.YtbgohcedakpnbaaDoor
