/- digest.spread. -/
import Derived.Test.YtbgohcedakpnbaaDoorWordC
import Derived.Laws.CopyOwn
import Derived.Deep.WholeRow
import Derived.Deep.MidRow
import Derived.Deep.RegionHeld3
set_option linter.unusedVariables false
namespace Go.Proofs.YtbgohcedakpnbaaDoor
open Go.RowKit
def s0W (p : Nat) : Nat := xorW [rotl p 25, rotl p 14, p / 2 ^ 3]
def s1W (q : Nat) : Nat := xorW [rotl q 15, rotl q 13, q / 2 ^ 10]
/-- the words of a block, k of them made -/
def spreadTo (l : List Nat) : Nat → List Nat
  | 0 => l ++ List.replicate (64 - l.length) 0
  | k + 1 => (spreadTo l k).set (16 + k) (sumW [(spreadTo l k).getD k 0, s0W ((spreadTo l k).getD (k + 1) 0), (spreadTo l k).getD (k + 9) 0, s1W ((spreadTo l k).getD (k + 14) 0)])
def spreadW (s : ByteArray) : List Nat := spreadTo (cutW s true) 48
theorem w64_info : (Tryd.prog.info? 163).map (fun i => (i.zero, i.size)) = some (some (.agg (List.replicate 64 (Value.int .i64 0)).toArray), 64) := by kernel_rfl
theorem cutW_len (s : ByteArray) (h : Bool) : (cutW s h).length = s.size / 4 := cutTo_len s h s.size
theorem cutW_words (s : ByteArray) (h : Bool) : words (cutW s h) := cutTo_words s h s.size
theorem spreadTo_len {l : List Nat} (hl : l.length = 16) (k : Nat) : (spreadTo l k).length = 64 := by
  induction k with
  | zero => simp [spreadTo, hl]
  | succ k ih => rw [spreadTo, List.length_set, ih]
theorem words_set {L : List Nat} (h : words L) {i x : Nat} (hx : x < 4294967296) : words (L.set i x) := by
  intro n hn
  rcases List.mem_or_eq_of_mem_set hn with hn | rfl
  · exact h n hn
  · exact hx
theorem spreadTo_words {l : List Nat} (hw : words l) (k : Nat) : words (spreadTo l k) := by
  induction k with
  | zero =>
    intro n hn
    rw [spreadTo] at hn
    rcases List.mem_append.1 hn with hn | hn
    · exact hw n hn
    · rw [List.eq_of_mem_replicate hn]; decide
  | succ k ih => rw [spreadTo]; exact words_set ih (sumW_lt _)
theorem spread_src {w : World} {g : Nat} {t : TypeId} {l : List Nat} (h : Row vI w g t (ints l)) {j : Nat} {v : Value} (hv : ((ints l).map vI)[j]? = some v) : w.cell? ⟨g, j, none⟩ = some v := by
  rw [Blk.cell h]; simpa using hv
theorem spread_one {l : List Nat} {v : Value} (hv : v ∈ (ints l).map vI) : v.oneCell' = true := by
  obtain ⟨x, _, rfl⟩ := List.mem_map.1 hv
  rfl
theorem spread_zero {l : List Nat} (hl : l.length = 16) : (splice (List.replicate 64 (Value.int .i64 0)).toArray.toList 0 ((ints l).map vI)).toArray = ((ints (spreadTo l 0)).map vI).toArray := by
  congr 1
  simp only [splice, spreadTo, ints]
  simp [hl, vI]
theorem back7 (x y : Nat) (w : World) (hx : x < 4294967296) (h : rotl x 25 = y) : Calls Tryd.prog 142 #[.int .i64 x, .int .i64 7] w fun e w' => e = .returned (.int .i64 y) ∧ w.alloc (.cells #[.int .i64 x] 3) = w' := by subst h; exact dback_any x 7 w hx (by omega) (by omega)
theorem back18 (x y : Nat) (w : World) (hx : x < 4294967296) (h : rotl x 14 = y) : Calls Tryd.prog 142 #[.int .i64 x, .int .i64 18] w fun e w' => e = .returned (.int .i64 y) ∧ w.alloc (.cells #[.int .i64 x] 3) = w' := by subst h; exact dback_any x 18 w hx (by omega) (by omega)
theorem back17 (x y : Nat) (w : World) (hx : x < 4294967296) (h : rotl x 15 = y) : Calls Tryd.prog 142 #[.int .i64 x, .int .i64 17] w fun e w' => e = .returned (.int .i64 y) ∧ w.alloc (.cells #[.int .i64 x] 3) = w' := by subst h; exact dback_any x 17 w hx (by omega) (by omega)
theorem back19 (x y : Nat) (w : World) (hx : x < 4294967296) (h : rotl x 13 = y) : Calls Tryd.prog 142 #[.int .i64 x, .int .i64 19] w fun e w' => e = .returned (.int .i64 y) ∧ w.alloc (.cells #[.int .i64 x] 3) = w' := by subst h; exact dback_any x 19 w hx (by omega) (by omega)
theorem back6 (x y : Nat) (w : World) (hx : x < 4294967296) (h : rotl x 26 = y) : Calls Tryd.prog 142 #[.int .i64 x, .int .i64 6] w fun e w' => e = .returned (.int .i64 y) ∧ w.alloc (.cells #[.int .i64 x] 3) = w' := by subst h; exact dback_any x 6 w hx (by omega) (by omega)
theorem back11 (x y : Nat) (w : World) (hx : x < 4294967296) (h : rotl x 21 = y) : Calls Tryd.prog 142 #[.int .i64 x, .int .i64 11] w fun e w' => e = .returned (.int .i64 y) ∧ w.alloc (.cells #[.int .i64 x] 3) = w' := by subst h; exact dback_any x 11 w hx (by omega) (by omega)
theorem back25 (x y : Nat) (w : World) (hx : x < 4294967296) (h : rotl x 7 = y) : Calls Tryd.prog 142 #[.int .i64 x, .int .i64 25] w fun e w' => e = .returned (.int .i64 y) ∧ w.alloc (.cells #[.int .i64 x] 3) = w' := by subst h; exact dback_any x 25 w hx (by omega) (by omega)
theorem back2 (x y : Nat) (w : World) (hx : x < 4294967296) (h : rotl x 30 = y) : Calls Tryd.prog 142 #[.int .i64 x, .int .i64 2] w fun e w' => e = .returned (.int .i64 y) ∧ w.alloc (.cells #[.int .i64 x] 3) = w' := by subst h; exact dback_any x 2 w hx (by omega) (by omega)
theorem back13 (x y : Nat) (w : World) (hx : x < 4294967296) (h : rotl x 19 = y) : Calls Tryd.prog 142 #[.int .i64 x, .int .i64 13] w fun e w' => e = .returned (.int .i64 y) ∧ w.alloc (.cells #[.int .i64 x] 3) = w' := by subst h; exact dback_any x 13 w hx (by omega) (by omega)
theorem back22 (x y : Nat) (w : World) (hx : x < 4294967296) (h : rotl x 10 = y) : Calls Tryd.prog 142 #[.int .i64 x, .int .i64 22] w fun e w' => e = .returned (.int .i64 y) ∧ w.alloc (.cells #[.int .i64 x] 3) = w' := by subst h; exact dback_any x 22 w hx (by omega) (by omega)
theorem fall3 (x y : Nat) (w : World) (hx : x < 4294967296) (h : x / 2 ^ 3 = y) : Calls Tryd.prog 152 #[.int .i64 x, .int .i64 3] w fun e w' => e = .returned (.int .i64 y) ∧ w = w' := by subst h; exact dfall_any x 3 w hx (by omega)
theorem fall10 (x y : Nat) (w : World) (hx : x < 4294967296) (h : x / 2 ^ 10 = y) : Calls Tryd.prog 152 #[.int .i64 x, .int .i64 10] w fun e w' => e = .returned (.int .i64 y) ∧ w = w' := by subst h; exact dfall_any x 10 w hx (by omega)
theorem xor2 (a b y : Nat) (g : Nat) (w : World) (hg : g < w.heap.size) (hB : Blk w g 3 #[.int .i64 a, .int .i64 b]) (hw : words [a, b]) (h : xorW [a, b] = y) :
    Calls Tryd.prog 141 #[.slice (some ⟨g, 0, none⟩) 2 2] w fun e w' => e = .returned (.int .i64 y) ∧ Below w.heap.size w w' := by
  subst h; exact dxor_any [a, b] _ 2 2 w (slr_new w [a, b] hB hg) (by omega) hw (by omega)
theorem xor3 (a b c y : Nat) (g : Nat) (w : World) (hg : g < w.heap.size) (hB : Blk w g 3 #[.int .i64 a, .int .i64 b, .int .i64 c]) (hw : words [a, b, c]) (h : xorW [a, b, c] = y) :
    Calls Tryd.prog 141 #[.slice (some ⟨g, 0, none⟩) 3 3] w fun e w' => e = .returned (.int .i64 y) ∧ Below w.heap.size w w' := by
  subst h; exact dxor_any [a, b, c] _ 3 3 w (slr_new w [a, b, c] hB hg) (by omega) hw (by omega)
theorem add2 (a b y : Nat) (g : Nat) (w : World) (hg : g < w.heap.size) (hB : Blk w g 3 #[.int .i64 a, .int .i64 b]) (hw : words [a, b]) (h : sumW [a, b] = y) :
    Calls Tryd.prog 140 #[.slice (some ⟨g, 0, none⟩) 2 2] w fun e w' => e = .returned (.int .i64 y) ∧ w = w' := by
  subst h; exact dadd_any [a, b] _ 2 2 w (slr_new w [a, b] hB hg) (by omega) hw
theorem add4 (a b c d y : Nat) (g : Nat) (w : World) (hg : g < w.heap.size) (hB : Blk w g 3 #[.int .i64 a, .int .i64 b, .int .i64 c, .int .i64 d]) (hw : words [a, b, c, d]) (h : sumW [a, b, c, d] = y) :
    Calls Tryd.prog 140 #[.slice (some ⟨g, 0, none⟩) 4 4] w fun e w' => e = .returned (.int .i64 y) ∧ w = w' := by
  subst h; exact dadd_any [a, b, c, d] _ 4 4 w (slr_new w [a, b, c, d] hB hg) (by omega) hw
theorem add5 (a b c d e y : Nat) (g : Nat) (w : World) (hg : g < w.heap.size) (hB : Blk w g 3 #[.int .i64 a, .int .i64 b, .int .i64 c, .int .i64 d, .int .i64 e]) (hw : words [a, b, c, d, e]) (h : sumW [a, b, c, d, e] = y) :
    Calls Tryd.prog 140 #[.slice (some ⟨g, 0, none⟩) 5 5] w fun e w' => e = .returned (.int .i64 y) ∧ w = w' := by
  subst h; exact dadd_any [a, b, c, d, e] _ 5 5 w (slr_new w [a, b, c, d, e] hB hg) (by omega) hw
theorem blk_drew {w : World} {g : Nat} {t : TypeId} {cs : Array Value} (h : Blk w g t cs) : Blk w.drew g t cs := h
/-- what lies in a cell, if anything does -/
def cellOf (w : World) (a : Addr) : Value := (w.cell? a).getD undef
theorem cellOf_eq {w : World} {a : Addr} {v : Value} (h : w.cell? a = some v) : w.cell? a = some (cellOf w a) := by rw [cellOf, h]; rfl
theorem keep3 {w wr : World} {g : Nat} {t : TypeId} {L : List Int} {i j k : Nat} {x y : Int} (h : Row vI wr g t L) (hi : L[i]? = some x) (hj : L[j]? = some y) (hk : k < L.length) (hb : Below wr.heap.size wr w) :
    w.cell? ⟨g, i, none⟩ = some (.int .i64 x) ∧ w.cell? ⟨g, j, none⟩ = some (.int .i64 y) ∧ w.cell? ⟨g, k, none⟩ = some (cellOf w ⟨g, k, none⟩) ∧ w.frozen? ⟨g, k, none⟩ = false :=
  have h' := h.below hb h.lt
  ⟨h'.get hi, h'.get hj, cellOf_eq (h'.get (List.getElem?_eq_getElem hk)), h'.free k⟩
theorem keep3s {w wr : World} {g : Nat} {t : TypeId} {L : List Int} {i j k v : Nat} {x y : Int} (h : Row vI wr g t L) (hi : L[i]? = some x) (hj : L[j]? = some y) (hk : k < L.length) (hik : k ≠ i) (hjk : k ≠ j) (hb : Below wr.heap.size wr w) :
    (w.setCell ⟨g, k, none⟩ (.int .i64 v)).cell? ⟨g, i, none⟩ = some (.int .i64 x) ∧ (w.setCell ⟨g, k, none⟩ (.int .i64 v)).cell? ⟨g, j, none⟩ = some (.int .i64 y) ∧
      (w.setCell ⟨g, k, none⟩ (.int .i64 v)).cell? ⟨g, k, none⟩ = some (cellOf (w.setCell ⟨g, k, none⟩ (.int .i64 v)) ⟨g, k, none⟩) ∧ (w.setCell ⟨g, k, none⟩ (.int .i64 v)).frozen? ⟨g, k, none⟩ = false :=
  have h' := (h.below hb h.lt).set_ k (v : Int)
  ⟨h'.get (by rw [List.getElem?_set_ne hik]; exact hi), h'.get (by rw [List.getElem?_set_ne hjk]; exact hj), cellOf_eq (h'.get (x := (v : Int)) (by rw [List.getElem?_set_self hk])), h'.free k⟩
theorem rotl_get (x k : Nat) (hx : x < 4294967296) : ∃ y, rotl x k = y ∧ y < 4294967296 := ⟨_, rfl, rotl_lt hx⟩
theorem div_get (x k : Nat) (hx : x < 4294967296) : ∃ y, x / k = y ∧ y < 4294967296 := ⟨_, rfl, Nat.lt_of_le_of_lt (Nat.div_le_self _ _) hx⟩
theorem xor_get (L : List Nat) (h : words L) : ∃ y, xorW L = y ∧ y < 4294967296 := ⟨_, rfl, xorW_lt h⟩
theorem sum_get (L : List Nat) : ∃ y, sumW L = y ∧ y < 4294967296 := ⟨_, rfl, sumW_lt L⟩
theorem words3 {a b c : Nat} (ha : a < 4294967296) (hb : b < 4294967296) (hc : c < 4294967296) : words [a, b, c] := by intro n hn; simp at hn; rcases hn with rfl | rfl | rfl <;> assumption
theorem words2 {a b : Nat} (ha : a < 4294967296) (hb : b < 4294967296) : words [a, b] := by intro n hn; simp at hn; rcases hn with rfl | rfl <;> assumption
theorem words4 {a b c d : Nat} (ha : a < 4294967296) (hb : b < 4294967296) (hc : c < 4294967296) (hd : d < 4294967296) : words [a, b, c, d] := by intro n hn; simp at hn; rcases hn with rfl | rfl | rfl | rfl <;> assumption
theorem words5 {a b c d e : Nat} (ha : a < 4294967296) (hb : b < 4294967296) (hc : c < 4294967296) (hd : d < 4294967296) (he : e < 4294967296) : words [a, b, c, d, e] := by intro n hn; simp at hn; rcases hn with rfl | rfl | rfl | rfl | rfl <;> assumption
set_option maxHeartbeats 800000 in
set_option maxRecDepth 100000 in
theorem spread_any (s : ByteArray) (w : World) (hs : s.size = 64) :
    Calls Tryd.prog 139 #[.string s] w fun e w' => e = .returned (.agg ((ints (spreadW s)).map vI).toArray) ∧ Below w.heap.size w w' := by
  obtain ⟨hz, hisz⟩ := zero_of_info w64_info
  obtain ⟨Z, hZ⟩ : ∃ Z : Array Value, (List.replicate 64 (Value.int .i64 0)).toArray = Z := ⟨_, rfl⟩
  rw [hZ] at hz
  have HZ := Lib.hid hZ
  have HI := Lib.hid hisz
  have HS := Lib.hid hs
  clear hZ hisz hs
  go_enter Tryd.func139, Tryd.ntmps139
  go_wp2_with fail
  refine (cut_high s _ (by have := HS.out; omega) (by have := HS.out; omega)).mono ?_
  rintro e w1 ⟨g, rfl, hR1, hg1, hb1⟩
  have e16 : s.size / 4 = 16 := by rw [HS.out]
  rw [e16]
  have hZ1 := (Blk.new_at (g := w.heap.size + 1) (by simp) 163 Z).below hb1 (by simp)
  have hX1 := ((Blk.new w 163 Z).alloc (.cells Z 163)).below hb1 (by simp; omega)
  have hB1 : Below w.heap.size w w1 := Below.trans (by go_grown) (hb1.mono (by simp; omega))
  have hgl := hR1.lt
  have hgw : w.heap.size + 2 ≤ g := by simpa using hg1
  have hll := cutW_len s true
  have hlw := cutW_words s true
  obtain ⟨l, hle⟩ : ∃ l, cutW s true = l := ⟨_, rfl⟩
  rw [hle] at hR1 hll hlw
  rw [e16] at hll
  have HLL := Lib.hid (And.intro hll (And.intro hlw hle))
  have HR1 := Lib.hid hR1
  have HX1 := Lib.hid hX1
  have HZ1 := Lib.hid hZ1
  have HB1 := Lib.hid hB1
  clear hb1 hg1 hll hlw hle hR1 e16 hX1 hZ1 hB1
  go_wp2_with (refine wpList_copy_splice rfl (.tmp 14) (.tmp 15) 39 39 rfl 3 Tryd.underlying39 (by kernel_rfl) (some ⟨w.heap.size + 1, 0, none⟩) (some ⟨g, 0, none⟩) 64 64 16 16 rfl rfl (w.heap.size + 1) 0 Z.toList 163 (by rw [Array.toArray_toList]; exact HZ1.out) ((ints l).map vI) (by simp [ints, HLL.out.1]) (fun _ => ⟨rfl, _, rfl, fun j v hv => by rw [Addr.add_lit, Nat.zero_add]; exact spread_src HR1.out hv⟩) (by rw [← HZ.out]; simp [ints, HLL.out.1]) (fun v hv => spread_one hv) (w.heap.size + 1) w1 (by go_grown) (by omega) ?_; intro w2 hr2 hb2')
  have hR2 : Hid (Row vI w2 (w.heap.size + 1) 163 (ints (spreadTo l 0))) := by
    have := hr2.out
    rw [← HZ.out] at this
    rw [spread_zero HLL.out.1] at this
    exact this
  have HX2 := Lib.hid (HX1.out.below hb2' (by simp))
  have hb2 := Below.trans HB1.out (hb2'.mono (by simp))
  clear hr2 hb2'
  have hBs := HB1.out
  go_wp2_with fail
  go_loopw [6] (fun v wr => ∃ k i : Nat, Hid (i = k + 16) ∧ i ≤ 64 ∧ v = .int .i64 i ∧ Below w.heap.size w wr ∧ Hid (Row vI wr (w.heap.size + 1) 163 (ints (spreadTo l k))) ∧ Hid (Blk wr w.heap.size 163 Z)) (fun v _ => 64 - (intOf v).toNat)
  case atStart => exact ⟨0, 16, rfl, by omega, rfl, hb2, hR2, HX2⟩
  case round =>
    obtain ⟨k, i, HIK, hi, rfl, hBr, HR, HX⟩ := hrel
    have hlen := spreadTo_len HLL.out.1 k
    have hwo := spreadTo_words HLL.out.2.1 k
    by_cases hlt : i < 64
    · obtain ⟨p, hp⟩ : ∃ p, (spreadTo l k)[k + 1]? = some p := ⟨_, List.getElem?_eq_getElem (by have := HIK.out; omega)⟩
      obtain ⟨q, hq⟩ : ∃ q, (spreadTo l k)[k + 14]? = some q := ⟨_, List.getElem?_eq_getElem (by have := HIK.out; omega)⟩
      obtain ⟨u, hu⟩ : ∃ u, (spreadTo l k)[k]? = some u := ⟨_, List.getElem?_eq_getElem (by have := HIK.out; omega)⟩
      obtain ⟨v, hv⟩ : ∃ v, (spreadTo l k)[k + 9]? = some v := ⟨_, List.getElem?_eq_getElem (by have := HIK.out; omega)⟩
      have hp32 := hwo p (List.mem_of_getElem? hp)
      have hq32 := hwo q (List.mem_of_getElem? hq)
      have hu32 := hwo u (List.mem_of_getElem? hu)
      have hv32 := hwo v (List.mem_of_getElem? hv)
      have cp := HR.out.get (ints_get hp)
      have cq := HR.out.get (ints_get hq)
      have cu := HR.out.get (ints_get hu)
      have cv := HR.out.get (ints_get hv)
      simp only [vI] at cp cq cu cv
      have HNew : Hid (spreadTo l (k + 1) = (spreadTo l k).set i (sumW [u, xorW [rotl p 25, rotl p 14, p / 2 ^ 3], v, xorW [rotl q 15, rotl q 13, q / 2 ^ 10]])) := Lib.hid (by rw [spreadTo, HIK.out, Nat.add_comm 16 k, List.getD_eq_getElem?_getD, List.getD_eq_getElem?_getD, List.getD_eq_getElem?_getD, List.getD_eq_getElem?_getD, hp, hq, hu, hv]; rfl)
      obtain ⟨pa, hpa, pa2⟩ := rotl_get p 25 hp32
      obtain ⟨pb, hpb, pb2⟩ := rotl_get p 14 hp32
      obtain ⟨pc, hpc, pc2⟩ := div_get p (2 ^ 3) hp32
      obtain ⟨qa, hqa, qa2⟩ := rotl_get q 15 hq32
      obtain ⟨qb, hqb, qb2⟩ := rotl_get q 13 hq32
      obtain ⟨qc, hqc, qc2⟩ := div_get q (2 ^ 10) hq32
      obtain ⟨X, hX, X2⟩ := xor_get [pa, pb, pc] (words3 pa2 pb2 pc2)
      obtain ⟨Y, hY, Y2⟩ := xor_get [qa, qb, qc] (words3 qa2 qb2 qc2)
      obtain ⟨V, hV, V2⟩ := sum_get [u, X, v, Y]
      rw [hpa, hpb, hpc, hqa, hqb, hqc, hX, hY, hV] at HNew
      have HP := Lib.hid (And.intro hpa (And.intro hpb (And.intro hpc hX)))
      have HQ := Lib.hid (And.intro hqa (And.intro hqb (And.intro hqc hY)))
      have HV := Lib.hid hV
      have HPw := Lib.hid (words3 pa2 pb2 pc2)
      have HQw := Lib.hid (words3 qa2 qb2 qc2)
      have HVw := Lib.hid (words4 hu32 X2 hv32 Y2)
      clear hpa hpb hpc hqa hqb hqc hX hY hV pa2 pb2 pc2 qa2 qb2 qc2 X2 Y2
      obtain ⟨a, ha⟩ : ∃ a, k + 1 = a := ⟨_, rfl⟩
      obtain ⟨b, hb⟩ : ∃ b, k + 14 = b := ⟨_, rfl⟩
      obtain ⟨c, hc⟩ : ∃ c, k = c := ⟨_, rfl⟩
      obtain ⟨d, hd⟩ : ∃ d, k + 9 = d := ⟨_, rfl⟩
      rw [ha] at cp
      rw [hb] at cq
      rw [hd] at cv
      have hik := HIK.out
      have ea : (i : Int) - 15 = a := by omega
      have eb : (i : Int) - 2 = b := by omega
      have ec : (i : Int) - 16 = k := by omega
      have ed : (i : Int) - 7 = d := by omega
      have wa : IntKind.i64.wrap (a : Int) = a := wrap_i64_nat _ (by omega)
      have wb : IntKind.i64.wrap (b : Int) = b := wrap_i64_nat _ (by omega)
      have wc : IntKind.i64.wrap (k : Int) = k := wrap_i64_nat _ (by omega)
      have wd : IntKind.i64.wrap (d : Int) = d := wrap_i64_nat _ (by omega)
      have a0 : (0 : Int) ≤ a := by omega
      have b0 : (0 : Int) ≤ b := by omega
      have c0 : (0 : Int) ≤ k := by omega
      have d0 : (0 : Int) ≤ d := by omega
      have i0 : (0 : Int) ≤ i := by omega
      have a1 : (a : Int) < 64 := by omega
      have b1 : (b : Int) < 64 := by omega
      have c1 : (k : Int) < 64 := by omega
      have d1 : (d : Int) < 64 := by omega
      have i1 : (i : Int) < 64 := by omega
      have HU := Lib.hid (ints_get hu)
      have HD := Lib.hid (ints_get hv)
      rw [hd] at HD
      have hfz := HR.out.free i
      have HLi : Hid (i < (ints (spreadTo l k)).length) := Lib.hid (by simp [ints, hlen]; omega)
      have hik1 : i ≠ k := by omega
      have hik2 : i ≠ d := by omega
      have hrl := HR.out.lt
      have ci := cellOf_eq (HR.out.get (List.getElem?_eq_getElem HLi.out))
      clear ha hb hc hd hik hp hq hu hv hwo hlen hBs
      go_wp2_with fail
      go_region
      go_wp2_with fail
      clear cp cq ea eb wa wb a0 b0 a1 b1
      go_region_held3 (fun w' => w'.cell? ⟨w.heap.size + 1, k, none⟩ = some (.int .i64 u) ∧ w'.cell? ⟨w.heap.size + 1, d, none⟩ = some (.int .i64 v) ∧ w'.cell? ⟨w.heap.size + 1, i, none⟩ = some (cellOf w' ⟨w.heap.size + 1, i, none⟩) ∧ w'.frozen? ⟨w.heap.size + 1, i, none⟩ = false)
        (first | (refine keep3s HR.out HU.out HD.out HLi.out hik1 hik2 ?_; go_grown; done) | (refine keep3 HR.out HU.out HD.out HLi.out ?_; go_grown; done))
        (first
          | (go_at_call 142; with_reducible refine (back7 p pa _ hp32 HP.out.1).mono ?_; rintro e w3 ⟨rfl, rfl⟩)
          | (go_at_call 142; with_reducible refine (back18 p pb _ hp32 HP.out.2.1).mono ?_; rintro e w3 ⟨rfl, rfl⟩)
          | (go_at_call 152; with_reducible refine (fall3 p pc _ hp32 HP.out.2.2.1).mono ?_; rintro e w3 ⟨rfl, rfl⟩)
          | (go_at_call 141; refine Calls.mono (xor3 pa pb pc X _ _ ?_ ?_ HPw.out HP.out.2.2.2) ?_; (focus (simp; done)); (focus ((repeat' (first | (with_reducible refine blk_drew ?_) | (with_reducible refine Blk.new_at ?_ _ _) | (simp; done))); done)); rintro e wx ⟨rfl, hbx⟩; have hBx : Below wr.heap.size wr wx := Below.trans (by go_grown) (hbx.mono (by simp; omega)); clear hbx; have hsx := hBx.size)
          | (go_at_call 142; with_reducible refine (back17 q qa _ hq32 HQ.out.1).mono ?_; rintro e w3 ⟨rfl, rfl⟩)
          | (go_at_call 142; with_reducible refine (back19 q qb _ hq32 HQ.out.2.1).mono ?_; rintro e w3 ⟨rfl, rfl⟩)
          | (go_at_call 152; with_reducible refine (fall10 q qc _ hq32 HQ.out.2.2.1).mono ?_; rintro e w3 ⟨rfl, rfl⟩)
          | (go_at_call 141; refine Calls.mono (xor3 qa qb qc Y _ _ ?_ ?_ HQw.out HQ.out.2.2.2) ?_; (focus (simp; done)); (focus ((repeat' (first | (with_reducible refine blk_drew ?_) | (with_reducible refine Blk.new_at ?_ _ _) | (simp; done))); done)); rintro e wy ⟨rfl, hby⟩; have hBy : Below wr.heap.size wr wy := Below.trans (Below.trans hBx (by go_grown)) (hby.mono (by simp; omega)); clear hby; have hsy := hBy.size)
          | (go_at_call 140; refine Calls.mono (add4 u X v Y V _ _ ?_ ?_ HVw.out HV.out) ?_; (focus (simp; done)); (focus ((repeat' (first | (with_reducible refine blk_drew ?_) | (with_reducible refine Blk.new_at ?_ _ _) | (simp; done))); done)); rintro e w3 ⟨rfl, rfl⟩))
      go_wp2_with fail
      go_round
      case rel =>
        have hR' : Row vI wy (w.heap.size + 1) 163 (ints (spreadTo l k)) := HR.out.below hBy hrl
        refine ⟨k + 1, i + 1, Lib.hid (by rw [HIK.out]), by omega, by go_num, ?_, ?_, ?_⟩
        · exact Below.setCell (Below.alloc (Below.trans hBr (hBy.mono hBr.size)) (Nat.le_trans hBr.size hsy) _) (by simp) _
        · refine Lib.hid ?_
          have := (Row.alloc hR' (.cells #[.int .i64 u, .int .i64 X, .int .i64 v, .int .i64 Y] 3)).set_ i (V : Int)
          rw [HNew.out, ints, List.map_set]
          exact this
        · refine Lib.hid ?_
          exact ((HX.out.below hBy (Nat.lt_trans (by omega) hrl)).alloc _).far (by simp) _
      case measure => simp [intOf]; omega
    · obtain rfl : i = 64 := by omega
      have hk : k = 48 := by have := HIK.out; omega
      have hT : Blk wr (w.heap.size + 1) 163 ((ints (spreadW s)).map vI).toArray := by
        have := HR.out
        rw [hk, ← HLL.out.2.2] at this
        exact this
      have hle : ((ints (spreadW s)).map vI).toArray.size = 64 := by
        have := spreadTo_len HLL.out.1 48
        rw [← HLL.out.2.2] at this
        simp [ints, spreadW, this]
      have hone : ((ints (spreadW s)).map vI).toArray.all (·.oneCell') = true := all_oneCell_toArray (fun v hv => spread_one hv)
      generalize hTT : ((ints (spreadW s)).map vI).toArray = T at hT hle hone
      have HTT := Lib.hid hTT
      clear hTT
      have hZl : Z.size = 64 := by rw [← HZ.out]; simp
      go_wp2_with (first
        | (refine wpList_load_row rfl 163 (.tmp 3) rfl (w.heap.size + 1) rfl 163 T (0, 0) (.array 64 3) hT (by kernel_rfl) rfl (by rw [hle]; exact HI.out) ?_)
        | (refine wpList_store_row rfl 163 (.tmp 2) (.tmp 57) rfl w.heap.size T rfl rfl 163 Z HX.out (by rw [hle]; exact HI.out) (by rw [hle, hZl]) hone ?_))
      refine bodyPost_ret (results_cell_row (Tryd.results139) _ _ w.heap.size 163 T (0, 0) (.array 64 3) rfl (setRow_heap _ _ Z _ _ _ HX.out) (by kernel_rfl) rfl (by rw [hle]; exact HI.out)) rfl ?_
      exact ⟨by rw [HTT.out], below_setRow hBr (Nat.le_refl _) _⟩
end Go.Proofs.YtbgohcedakpnbaaDoor
