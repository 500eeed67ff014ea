/- tag: Clamp. -/
import Derived.Test.YtbgohcedakpnbaaDoorTagH
set_option linter.unusedVariables false
namespace Go.Proofs.YtbgohcedakpnbaaDoor
open Go.RowKit
def m1 (l : List UInt8) (i : Nat) : List UInt8 := l.set i (l.getD i 0 % 16)
def m2 (l : List UInt8) (i : Nat) : List UInt8 := l.set i (l.getD i 0 - l.getD i 0 % 4)
def clamp1 (l : List UInt8) : Nat → List UInt8
  | 0 => l
  | k + 1 => m1 (clamp1 l k) (4 * k + 3)
def clamp2 (l : List UInt8) : Nat → List UInt8
  | 0 => l
  | k + 1 => m2 (clamp2 l k) (4 * k + 4)
def clampL (l : List UInt8) : List UInt8 := clamp2 (clamp1 l 4) 3
theorem clamp1_len (l : List UInt8) (k : Nat) : (clamp1 l k).length = l.length := by
  induction k with
  | zero => rfl
  | succ k ih => rw [clamp1, m1, List.length_set, ih]
theorem clamp2_len (l : List UInt8) (k : Nat) : (clamp2 l k).length = l.length := by
  induction k with
  | zero => rfl
  | succ k ih => rw [clamp2, m2, List.length_set, ih]
theorem u8_mod16 (b : UInt8) : Value.int .u8 ((b.toNat : Int) % 16) = vB (b % 16) := by
  unfold vB
  congr 1
theorem u8_sub4 (b : UInt8) : Value.int .u8 ((b.toNat : Int) - (b.toNat : Int) % 4) = vB (b - b % 4) := by
  unfold vB
  congr 1
  have h : (b % 4).toNat = b.toNat % 4 := rfl
  have hle : b % 4 ≤ b := by rw [UInt8.le_iff_toNat_le, h]; omega
  rw [UInt8.toNat_sub_of_le _ _ hle, h]
  omega
/-- block g begins with the bytes L, none of them frozen (what []byte(s) lays) -/
def CRow (w : World) (g : Nat) (L : List UInt8) : Prop := ∃ cs lo hi, w.heap[g]? = some (.cells cs 5 (lo, hi)) ∧ cs.size ≤ lo ∧ L.length ≤ cs.size ∧ ∀ (i : Nat) (b : UInt8), L[i]? = some b → cs[i]? = some (vB b)
section
variable {w w' : World} {g : Nat} {L : List UInt8}
theorem CRow.lt (h : CRow w g L) : g < w.heap.size := by
  obtain ⟨cs, lo, hi, hg, _⟩ := h
  exact (Array.getElem?_eq_some_iff.1 hg).1
theorem CRow.get (h : CRow w g L) {i : Nat} {b : UInt8} (hb : L[i]? = some b) : w.cell? ⟨g, i, none⟩ = some (vB b) := by
  obtain ⟨cs, lo, hi, hg, _, _, hc⟩ := h
  rw [cell_of_row w g i cs _ _ hg]
  exact hc i b hb
theorem CRow.free (h : CRow w g L) {i : Nat} (hi : i < L.length) : w.frozen? ⟨g, i, none⟩ = false := by
  obtain ⟨cs, lo, hi', hg, h1, h2, _⟩ := h
  simp only [World.frozen?, hg]
  simp
  omega
theorem CRow.below {B : Nat} (h : CRow w g L) (hb : Below B w w') (hg : g < B) : CRow w' g L := by
  obtain ⟨cs, lo, hi, h0, h⟩ := h
  exact ⟨cs, lo, hi, (hb.block g hg).trans h0, h⟩
theorem CRow.alloc (h : CRow w g L) (o : Obj) : CRow (w.alloc o) g L := by
  have hl := h.lt
  obtain ⟨cs, lo, hi, h0, h⟩ := h
  exact ⟨cs, lo, hi, (Below.heap_alloc w o g hl).trans h0, h⟩
theorem CRow.drew (h : CRow w g L) : CRow w.drew g L := h
theorem CRow.set_ (h : CRow w g L) (i : Nat) (b : UInt8) : CRow (w.setCell ⟨g, i, none⟩ (vB b)) g (L.set i b) := by
  obtain ⟨cs, lo, hi, h0, h1, h2, h3⟩ := h
  refine ⟨cs.setIfInBounds i (vB b), lo, hi, by simp [World.setCell, Array.getElem?_modify, h0], by simpa using h1, by simpa using h2, fun j c hj => ?_⟩
  by_cases e : i = j
  · subst e
    have hl : i < L.length := by
      have := (List.getElem?_eq_some_iff.1 hj).1
      simpa using this
    rw [List.getElem?_set_self hl] at hj
    injection hj with hj
    subst hj
    rw [Array.getElem?_setIfInBounds_self]
    simp only [show i < cs.size by omega, if_true]
  · rw [List.getElem?_set_ne e] at hj
    rw [Array.getElem?_setIfInBounds_ne e]
    exact h3 j c hj
theorem crow_new (w : World) (s : ByteArray) (cp : Nat) {B : Array Value} (hB : bytesRow s cp = B) : CRow (w.alloc (.cells B 5 (B.size, B.size + 1))) w.heap.size s.data.toList := by
  refine ⟨B, B.size, B.size + 1, heap_alloc_new w _, Nat.le_refl _, ?_, fun i b hb => ?_⟩
  · rw [← hB]; simp [bytesRow]
  · have hi : i < s.data.size := by
      have := (List.getElem?_eq_some_iff.1 hb).1
      simpa using this
    rw [← hB, bytesRow_at s cp i hi]
    rw [List.getElem?_eq_getElem (by simpa using hi)] at hb
    injection hb with hb
    rw [← hb]
    rfl
theorem run_crow {P : Program} (src dst e : TypeId) (hs : P.underlying src = some (.slice e)) (he : P.underlying e = some (.int .u8)) (hd : P.underlying dst = some .string) {c : Nat} {n : Nat} (hn : L.length = n) (h : CRow w g L) :
    (convert src dst (.slice (some ⟨g, 0, none⟩) n c)).run P w = .ok (.string ⟨L.toArray⟩) w := by
  subst hn
  refine run_convert_bytes_back w src dst e ⟨g, 0, none⟩ c L hs he hd fun j hj => ?_
  rw [Addr.add_lit, Nat.zero_add]
  exact h.get (List.getElem?_eq_getElem hj)
end
set_option maxRecDepth 100000 in
set_option maxHeartbeats 400000 in
theorem clamp_any (s : ByteArray) (w : World) (hs : s.size = 16) :
    Calls Tryd.prog 84 #[.string s] w fun e w' => e = .returned (.tuple #[.string ⟨(clampL s.data.toList).toArray⟩, .bool true]) ∧ Below w.heap.size w w' := by
  have t1 : ((s.size : Int) != 16) = false := by simp; omega
  have HS := Lib.hid hs
  have hcv := run_bytes_of_string (P := Tryd.prog) w 9 54 5 s Tryd.underlying9 Tryd.underlying54 Tryd.underlying5
  obtain ⟨cp, hcp⟩ : ∃ cp, grownCap w s.size 0 5 = cp := ⟨_, rfl⟩
  rw [hcp] at hcv
  obtain ⟨B, hB⟩ : ∃ B, bytesRow s cp = B := ⟨_, rfl⟩
  rw [hB] at hcv
  have HB := Lib.hid hB
  have hll : s.data.toList.length = 16 := by rw [← HS.out]; simp
  obtain ⟨l, hl⟩ : ∃ l, s.data.toList = l := ⟨_, rfl⟩
  have hC0 := crow_new w.drew s cp hB
  rw [hl] at hll hC0 ⊢
  have HL := Lib.hid hll
  have HC0 := Lib.hid hC0
  clear hs hcp hB hl hll hC0
  go_enter Tryd.func84, Tryd.ntmps84
  go_wp2_with fail
  have HR0 : Hid (CRow ((w.drew.alloc (.cells B 5 (B.size, B.size + 1))).alloc (.cells #[.int .i64 3, .int .i64 7, .int .i64 11, .int .i64 15] 3)) w.heap.size (clamp1 l 0)) := Lib.hid (HC0.out.alloc _)
  have HI0 : Hid (Blk ((w.drew.alloc (.cells B 5 (B.size, B.size + 1))).alloc (.cells #[.int .i64 3, .int .i64 7, .int .i64 11, .int .i64 15] 3)) (w.heap.size + 1) 3 #[.int .i64 3, .int .i64 7, .int .i64 11, .int .i64 15]) := Lib.hid (Blk.new_at (by simp) _ _)
  have hsz : (s.size : Int) = 16 := by have := HS.out; omega
  have hsn : s.size ≤ 16 := by omega
  go_loopw [16] (fun iv wr => ∃ k : Nat, k ≤ 4 ∧ iv = .int .i64 k ∧ Hid (CRow wr w.heap.size (clamp1 l k)) ∧ Hid (Blk wr (w.heap.size + 1) 3 #[.int .i64 3, .int .i64 7, .int .i64 11, .int .i64 15]) ∧ Below w.heap.size w wr) (fun iv _ => 4 - (intOf iv).toNat)
  case atStart => exact ⟨0, by omega, rfl, HR0, HI0, by go_grown⟩
  case round =>
    clear HR0 HI0
    obtain ⟨k, hk, rfl, HR, HI, hB⟩ := hrel
    by_cases hlt : k < 4
    · obtain ⟨j, hj⟩ : ∃ j, 4 * k + 3 = j := ⟨_, rfl⟩
      have hlen := clamp1_len l k
      have hb := List.getElem?_eq_getElem (l := clamp1 l k) (i := j) (by rw [hlen, HL.out]; omega)
      have hS : clamp1 l (k + 1) = (clamp1 l k).set j ((clamp1 l k)[j]'(by rw [hlen, HL.out]; omega) % 16) := by
        rw [clamp1, m1, hj, List.getD_eq_getElem?_getD, hb]; rfl
      generalize (clamp1 l k)[j]'(by rw [hlen, HL.out]; omega) = b at hb hS
      have ci := HI.out.cells k (.int .i64 j) (by
        have h4 : k = 0 ∨ k = 1 ∨ k = 2 ∨ k = 3 := by omega
        rcases h4 with rfl | rfl | rfl | rfl <;> (subst hj; rfl))
      have cb := HR.out.get hb
      have fb := HR.out.free (i := j) (by rw [hlen, HL.out]; omega)
      simp only [vB] at cb
      have j0 : (0 : Int) ≤ j := by omega
      have j1 : (j : Int) < 16 := by omega
      have jn : j < s.size := by have := HS.out; omega
      have hlb := b.toNat_lt
      have hgl := HR.out.lt
      have HSS := Lib.hid hS
      clear hb hS hj hlen
      go_wp2_with fail
      go_roundw
      case rel =>
        refine ⟨k + 1, by omega, by go_num, Lib.hid ?_, Lib.hid (HI.out.far (show w.heap.size + 1 ≠ w.heap.size by omega) _), by go_grown⟩
        rw [HSS.out, u8_mod16]
        exact HR.out.set_ j _
      case measure => simp [intOf]; omega
    · obtain rfl : k = 4 := by omega
      obtain ⟨wo, rfl⟩ : ∃ wo : World, wo = wr := ⟨_, rfl⟩
      have HR1 : Hid (CRow (wo.alloc (.cells #[.int .i64 4, .int .i64 8, .int .i64 12] 3)) w.heap.size (clamp2 (clamp1 l 4) 0)) := Lib.hid (HR.out.alloc _)
      have HI1 : Hid (Blk (wo.alloc (.cells #[.int .i64 4, .int .i64 8, .int .i64 12] 3)) wo.heap.size 3 #[.int .i64 4, .int .i64 8, .int .i64 12]) := Lib.hid (Blk.new _ _ _)
      have hso := HR.out.lt
      have hBs := hB.size
      clear HR HI
      go_wp2_with fail
      go_loopw [29] (fun iv wr => ∃ k : Nat, k ≤ 3 ∧ iv = .int .i64 k ∧ Hid (CRow wr w.heap.size (clamp2 (clamp1 l 4) k)) ∧ Hid (Blk wr wo.heap.size 3 #[.int .i64 4, .int .i64 8, .int .i64 12]) ∧ Below w.heap.size w wr) (fun iv _ => 3 - (intOf iv).toNat)
      case atStart => exact ⟨0, by omega, rfl, HR1, HI1, by go_grown⟩
      case round =>
        clear HR1 HI1 hB
        obtain ⟨k, hk, rfl, HR, HI, hB⟩ := hrel
        by_cases hlt : k < 3
        · obtain ⟨j, hj⟩ : ∃ j, 4 * k + 4 = j := ⟨_, rfl⟩
          have hlen := clamp2_len (clamp1 l 4) k
          rw [clamp1_len] at hlen
          have hb := List.getElem?_eq_getElem (l := clamp2 (clamp1 l 4) k) (i := j) (by rw [hlen, HL.out]; omega)
          have hS : clamp2 (clamp1 l 4) (k + 1) = (clamp2 (clamp1 l 4) k).set j ((clamp2 (clamp1 l 4) k)[j]'(by rw [hlen, HL.out]; omega) - (clamp2 (clamp1 l 4) k)[j]'(by rw [hlen, HL.out]; omega) % 4) := by
            rw [clamp2, m2, hj, List.getD_eq_getElem?_getD, hb]; rfl
          generalize (clamp2 (clamp1 l 4) k)[j]'(by rw [hlen, HL.out]; omega) = b at hb hS
          have ci := HI.out.cells k (.int .i64 j) (by
            have h4 : k = 0 ∨ k = 1 ∨ k = 2 := by omega
            rcases h4 with rfl | rfl | rfl <;> (subst hj; rfl))
          have cb := HR.out.get hb
          have fb := HR.out.free (i := j) (by rw [hlen, HL.out]; omega)
          simp only [vB] at cb
          have j0 : (0 : Int) ≤ j := by omega
          have j1 : (j : Int) < 16 := by omega
          have jn : j < s.size := by have := HS.out; omega
          have jn' : (j : Int) < (s.size : Int) := by omega
          have hlb := b.toNat_lt
          have hgl := HR.out.lt
          have HSS := Lib.hid hS
          have tm : ((b.toNat : Int)).tmod 4 = ((b.toNat % 4 : Nat) : Int) := by rw [Int.tmod_eq_emod_of_nonneg (by omega)]; simp
          clear hb hS hj hlen
          go_wp2_with fail
          go_region
          all_goals
            go_wp2_with fail
            go_roundw
            case rel =>
              refine ⟨k + 1, by omega, by go_num, Lib.hid ?_, Lib.hid (HI.out.far (show wo.heap.size ≠ w.heap.size by omega) _), by go_grown⟩
              rw [HSS.out, u8_sub4]
              exact HR.out.set_ j _
            case measure => simp [intOf]; omega
        · obtain rfl : k = 3 := by omega
          have hcv := run_crow (P := Tryd.prog) (c := cp) (n := s.size) 54 9 5 Tryd.underlying54 Tryd.underlying5 Tryd.underlying9 (by rw [clamp2_len, clamp1_len, HL.out, HS.out]) HR.out
          go_wp2_with fail
          go_ret2
          exact ⟨rfl, hB⟩
end Go.Proofs.YtbgohcedakpnbaaDoor
