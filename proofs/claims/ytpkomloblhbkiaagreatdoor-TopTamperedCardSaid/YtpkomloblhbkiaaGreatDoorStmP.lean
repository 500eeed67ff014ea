/- stream, plain: what the words become. -/
import Derived.Test.YtpkomloblhbkiaaGreatDoorBytes
import Derived.Laws.CopyOwn
import Derived.Deep.WholeRow
import Derived.Deep.MidRow
import Derived.Great.BuildSlice
import Derived.Deep.DeepCutAuto
import Derived.Deep.RegionHeld3
import Derived.BigRegion
set_option linter.unusedVariables false
namespace Go.Proofs.YtpkomloblhbkiaaGreatDoor
def mixS (a b c n : Nat) : Nat × Nat := (sumW [a, b], rotl (c ^^^ sumW [a, b]) n)
theorem mixS_lt {a b c n : Nat} (hc : c < 4294967296) : (mixS a b c n).1 < 4294967296 ∧ (mixS a b c n).2 < 4294967296 :=
  ⟨sumW_lt _, rotl_lt (Nat.xor_lt_two_pow (n := 32) hc (sumW_lt _))⟩
structure Q4 where
  a : Nat
  b : Nat
  c : Nat
  d : Nat
def Q4.ok (q : Q4) : Prop := q.a < 4294967296 ∧ q.b < 4294967296 ∧ q.c < 4294967296 ∧ q.d < 4294967296
def half (q : Q4) (m n : Nat) : Q4 :=
  let x := mixS q.a q.b q.d m
  let y := mixS q.c x.2 q.b n
  ⟨x.1, y.2, y.1, x.2⟩
def stTurn (q : Q4) : Q4 := half (half q 16 12) 8 7
theorem half_ok {q : Q4} (h : q.ok) (m n : Nat) : (half q m n).ok := by
  obtain ⟨ha, hb, hc, hd⟩ := h
  unfold half Q4.ok
  exact ⟨(mixS_lt (n := m) hd).1, (mixS_lt (n := n) hb).2, (mixS_lt (n := n) hb).1, (mixS_lt (n := m) hd).2⟩
theorem stTurn_ok {q : Q4} (h : q.ok) : (stTurn q).ok := half_ok (half_ok h _ _) _ _
/-- the places of each turn -/
def turnsL : List (Nat × Nat × Nat × Nat) := [(0, 4, 8, 12), (1, 5, 9, 13), (2, 6, 10, 14), (3, 7, 11, 15), (0, 5, 10, 15), (1, 6, 11, 12), (2, 7, 8, 13), (3, 4, 9, 14)]
def atQ (L : List Nat) (p : Nat × Nat × Nat × Nat) : Q4 := ⟨L.getD p.1 0, L.getD p.2.1 0, L.getD p.2.2.1 0, L.getD p.2.2.2 0⟩
def putQ (L : List Nat) (p : Nat × Nat × Nat × Nat) (q : Q4) : List Nat := (((L.set p.1 q.a).set p.2.1 q.b).set p.2.2.1 q.c).set p.2.2.2 q.d
def turnAt (L : List Nat) (p : Nat × Nat × Nat × Nat) : List Nat := putQ L p (stTurn (atQ L p))
/-- the state behind k turns of a round -/
def roundTo (L : List Nat) : Nat → List Nat
  | 0 => L
  | k + 1 => turnAt (roundTo L k) (turnsL.getD k (0, 0, 0, 0))
def roundsTo (L : List Nat) : Nat → List Nat
  | 0 => L
  | k + 1 => roundTo (roundsTo L k) 8
theorem putQ_len (L : List Nat) (p : Nat × Nat × Nat × Nat) (q : Q4) : (putQ L p q).length = L.length := by simp [putQ]
theorem turnAt_len (L : List Nat) (p : Nat × Nat × Nat × Nat) : (turnAt L p).length = L.length := putQ_len _ _ _
theorem roundTo_len (L : List Nat) (k : Nat) : (roundTo L k).length = L.length := by
  induction k with
  | zero => rfl
  | succ k ih => rw [roundTo, turnAt_len, ih]
theorem roundsTo_len (L : List Nat) (k : Nat) : (roundsTo L k).length = L.length := by
  induction k with
  | zero => rfl
  | succ k ih => rw [roundsTo, roundTo_len, ih]
theorem words_put {L : List Nat} (h : words L) {i x : Nat} (hx : x < 4294967296) : words (L.set i x) := by
  intro n hn
  rcases List.mem_or_eq_of_mem_set hn with hn | rfl
  · exact h n hn
  · exact hx
theorem words_getD {L : List Nat} (h : words L) (i : Nat) : L.getD i 0 < 4294967296 := by
  rw [List.getD_eq_getElem?_getD]
  cases e : L[i]? with
  | none => decide
  | some x => exact h x (List.mem_of_getElem? e)
theorem atQ_ok {L : List Nat} (h : words L) (p : Nat × Nat × Nat × Nat) : (atQ L p).ok := ⟨words_getD h _, words_getD h _, words_getD h _, words_getD h _⟩
theorem putQ_words {L : List Nat} (h : words L) (p : Nat × Nat × Nat × Nat) {q : Q4} (hq : q.ok) : words (putQ L p q) :=
  words_put (words_put (words_put (words_put h hq.1) hq.2.1) hq.2.2.1) hq.2.2.2
theorem turnAt_words {L : List Nat} (h : words L) (p : Nat × Nat × Nat × Nat) : words (turnAt L p) := putQ_words h p (stTurn_ok (atQ_ok h p))
theorem roundTo_words {L : List Nat} (h : words L) (k : Nat) : words (roundTo L k) := by
  induction k with
  | zero => exact h
  | succ k ih => rw [roundTo]; exact turnAt_words ih _
theorem roundsTo_words {L : List Nat} (h : words L) (k : Nat) : words (roundsTo L k) := by
  induction k with
  | zero => exact h
  | succ k ih => rw [roundsTo]; exact roundTo_words ih _
/-- the state of a key, a nonce and a counter -/
def firstL (key nonce : ByteArray) (n : Nat) : List Nat := [1634760805, 857760878, 2036477234, 1797285236] ++ cutW key false ++ [n] ++ cutW nonce false
theorem firstL_len {key nonce : ByteArray} (n : Nat) (hk : key.size = 32) (hn : nonce.size = 12) : (firstL key nonce n).length = 16 := by
  simp [firstL, cutW, cutTo_len, hk, hn]
theorem firstL_words (key nonce : ByteArray) {n : Nat} (hn : n < 4294967296) : words (firstL key nonce n) := by
  intro x hx
  simp only [firstL, List.mem_append, List.mem_cons, List.not_mem_nil, or_false] at hx
  rcases hx with ((h | h) | h) | h
  · rcases h with rfl | rfl | rfl | rfl <;> decide
  · exact cutTo_words _ _ _ _ h
  · rw [h]; exact hn
  · exact cutTo_words _ _ _ _ h
/-- the words of L, of the first k of which those of M are added -/
def addW (L M : List Nat) (k : Nat) : List Nat := (List.range L.length).map fun i => if i < k then sumW [L.getD i 0, M.getD i 0] else L.getD i 0
theorem addW_len (L M : List Nat) (k : Nat) : (addW L M k).length = L.length := by simp [addW]
theorem addW_zero (L M : List Nat) : addW L M 0 = L := by
  refine List.ext_getElem (by simp [addW]) fun i h1 h2 => ?_
  have h3 : i < L.length := by simpa [addW] using h1
  simp [addW, h3]
theorem addW_words {L : List Nat} (h : words L) (M : List Nat) (k : Nat) : words (addW L M k) := by
  intro x hx
  simp only [addW, List.mem_map, List.mem_range] at hx
  obtain ⟨i, _, rfl⟩ := hx
  split
  · exact sumW_lt _
  · exact words_getD h i
theorem addW_get (L M : List Nat) (k i : Nat) (h : i < L.length) : (addW L M k)[i]? = some (if i < k then sumW [L.getD i 0, M.getD i 0] else L.getD i 0) := by
  unfold addW
  rw [List.getElem?_map, List.getElem?_range h]
  rfl
theorem addW_succ (L M : List Nat) (k : Nat) (h : k < L.length) : (addW L M k).set k (sumW [L.getD k 0, M.getD k 0]) = addW L M (k + 1) := by
  refine List.ext_getElem? fun i => ?_
  by_cases hi : i < L.length
  · rw [addW_get L M (k + 1) i hi, List.getElem?_set]
    by_cases e : k = i
    · subst e
      rw [if_pos rfl, if_pos (by rw [addW_len]; exact h), if_pos (by omega)]
    · rw [if_neg e, addW_get L M k i hi]
      by_cases e2 : i < k
      · rw [if_pos e2, if_pos (by omega)]
      · rw [if_neg e2, if_neg (by omega)]
  · rw [List.getElem?_eq_none (by simp [addW]; omega), List.getElem?_eq_none (by simp [addW]; omega)]
def blockL (key nonce : ByteArray) (n : Nat) : List Nat := addW (roundsTo (firstL key nonce n) 10) (firstL key nonce n) 16
def blockB (key nonce : ByteArray) (n : Nat) : ByteArray := joinW (blockL key nonce n) false
theorem blockL_len {key nonce : ByteArray} (n : Nat) (hk : key.size = 32) (hn : nonce.size = 12) : (blockL key nonce n).length = 16 := by
  rw [blockL, addW_len, roundsTo_len, firstL_len n hk hn]
theorem blockB_size {key nonce : ByteArray} (n : Nat) (hk : key.size = 32) (hn : nonce.size = 12) : (blockB key nonce n).size = 64 := by
  rw [blockB, joinW_size, blockL_len n hk hn]
/-- the byte that hides the one of place i -/
def maskAt (key nonce : ByteArray) (n i : Nat) : UInt8 := (blockB key nonce (n + i / 64)).data.toList.getD (i % 64) 0
/-- s, of which the first k bytes are turned -/
def hideTo (key nonce : ByteArray) (n : Nat) (l : List UInt8) (k : Nat) : List UInt8 := (List.range l.length).map fun i => if i < k then l.getD i 0 ^^^ maskAt key nonce n i else l.getD i 0
def hideB (key nonce : ByteArray) (n : Nat) (s : ByteArray) : ByteArray := ⟨(hideTo key nonce n s.data.toList s.size).toArray⟩
theorem hideTo_len (key nonce : ByteArray) (n : Nat) (l : List UInt8) (k : Nat) : (hideTo key nonce n l k).length = l.length := by simp [hideTo]
theorem hideB_size (key nonce : ByteArray) (n : Nat) (s : ByteArray) : (hideB key nonce n s).size = s.size := by
  show ((hideTo key nonce n s.data.toList s.size).toArray).size = s.size
  rw [List.size_toArray, hideTo_len]; simp
theorem hideTo_get (key nonce : ByteArray) (n : Nat) (l : List UInt8) (k i : Nat) (h : i < l.length) : (hideTo key nonce n l k)[i]? = some (if i < k then l.getD i 0 ^^^ maskAt key nonce n i else l.getD i 0) := by
  unfold hideTo
  rw [List.getElem?_map, List.getElem?_range h]
  rfl
theorem hideTo_zero (key nonce : ByteArray) (n : Nat) (l : List UInt8) : hideTo key nonce n l 0 = l := by
  refine List.ext_getElem (by simp [hideTo]) fun i h1 h2 => ?_
  have h3 : i < l.length := by simpa [hideTo] using h1
  simp [hideTo, h3]
theorem hideTo_succ (key nonce : ByteArray) (n : Nat) (l : List UInt8) (k : Nat) (h : k < l.length) : (hideTo key nonce n l k).set k (l.getD k 0 ^^^ maskAt key nonce n k) = hideTo key nonce n l (k + 1) := by
  refine List.ext_getElem? fun i => ?_
  by_cases hi : i < l.length
  · rw [hideTo_get _ _ _ l (k + 1) i hi, List.getElem?_set]
    by_cases e : k = i
    · subst e
      rw [if_pos rfl, if_pos (by rw [hideTo_len]; exact h), if_pos (by omega)]
    · rw [if_neg e, hideTo_get _ _ _ l k i hi]
      by_cases e2 : i < k
      · rw [if_pos e2, if_pos (by omega)]
      · rw [if_neg e2, if_neg (by omega)]
  · rw [List.getElem?_eq_none (by simp [hideTo]; omega), List.getElem?_eq_none (by simp [hideTo]; omega)]
theorem u8_xor_xor (a b : UInt8) : a ^^^ b ^^^ b = a := by
  rw [UInt8.xor_assoc, UInt8.xor_self, UInt8.xor_zero]
/-- what is hidden twice is as it was -/
theorem hide_hide (key nonce : ByteArray) (n : Nat) (s : ByteArray) : hideB key nonce n (hideB key nonce n s) = s := by
  have h1 : (hideB key nonce n s).data.toList = hideTo key nonce n s.data.toList s.size := rfl
  have h2 : s.data.toList.length = s.size := by simp
  have : hideTo key nonce n (hideB key nonce n s).data.toList (hideB key nonce n s).size = s.data.toList := by
    rw [h1, hideB_size]
    refine List.ext_getElem? fun i => ?_
    by_cases hi : i < s.size
    · rw [hideTo_get _ _ _ _ _ i (by rw [hideTo_len]; omega), if_pos hi, List.getD_eq_getElem?_getD, hideTo_get _ _ _ _ _ i (by omega), if_pos hi, Option.getD_some, u8_xor_xor, List.getD_eq_getElem?_getD, List.getElem?_eq_getElem (by omega)]
      rfl
    · rw [List.getElem?_eq_none (by rw [hideTo_len, hideTo_len]; omega), List.getElem?_eq_none (by omega)]
  unfold hideB at this ⊢
  cases s with
  | mk d => simp only [ByteArray.mk.injEq]; rw [this]
end Go.Proofs.YtpkomloblhbkiaaGreatDoor
/- stream: mix, Turn. -/
namespace Go.Proofs.YtpkomloblhbkiaaGreatDoor
open Go.RowKit
theorem words_two {a b : Nat} (ha : a < 4294967296) (hb : b < 4294967296) : words [a, b] := by intro n hn; simp at hn; rcases hn with rfl | rfl <;> assumption
theorem words_four {q : Q4} (h : q.ok) : words [q.a, q.b, q.c, q.d] := by
  obtain ⟨h1, h2, h3, h4⟩ := h
  intro n hn; simp at hn; rcases hn with rfl | rfl | rfl | rfl <;> assumption
set_option maxRecDepth 100000 in
theorem mix_any (a b c n x y : Nat) (w : World) (ha : a < 4294967296) (hb : b < 4294967296) (hc : c < 4294967296) (hn : n < 32) (h : mixS a b c n = (x, y)) :
    Calls Tryz.prog 146 #[.int .i64 a, .int .i64 b, .int .i64 c, .int .i64 n] w fun e w' => e = .returned (.tuple #[.int .i64 x, .int .i64 y]) ∧ Below w.heap.size w w' := by
  obtain ⟨rfl, h2⟩ : sumW [a, b] = x ∧ rotl (c ^^^ sumW [a, b]) n = y := by simpa [mixS] using h
  obtain ⟨s, hs⟩ : ∃ s, sumW [a, b] = s := ⟨_, rfl⟩
  have hsl := sumW_lt [a, b]
  rw [hs] at h2 hsl ⊢
  obtain ⟨t, ht⟩ : ∃ t, c ^^^ s = t := ⟨_, rfl⟩
  have hxl : t < 4294967296 := by rw [← ht]; exact Nat.xor_lt_two_pow (n := 32) hc hsl
  rw [ht] at h2
  have hrl := rotl_lt (s := n) hxl
  have HS := Lib.hid hs
  have HT := Lib.hid ht
  clear h hs ht
  go_enter Tryz.func146, Tryz.ntmps146
  go_wp2_with fail
  refine (wadd_any [a, b] _ 2 2 _ (slr_new2 _ a b) (by omega) (words_two ha hb)).mono ?_
  rintro e w1 ⟨rfl, hw1⟩
  rw [HS.out]
  have hB1 : Below w.heap.size w w1 := by rw [← hw1]; go_grown
  clear hw1
  go_wp2_with fail
  refine (wxor_any c s w1 hc hsl).mono ?_
  rintro e w2 ⟨rfl, hw2⟩
  rw [HT.out]
  have hz1 := hB1.size
  have hB2 : Below w.heap.size w w2 := by rw [← hw2]; go_grown
  clear hw2 hB1
  go_wp2_with fail
  refine (wrot_any t n w2 hxl hn).mono ?_
  rintro e w3 ⟨rfl, hw3⟩
  have hz2 := hB2.size
  have hB3 : Below w.heap.size w w3 := by rw [← hw3]; go_grown
  rw [h2]
  clear hw3 hB2
  go_wp2_with fail
  go_ret2
  exact ⟨rfl, hB3⟩
set_option maxRecDepth 100000 in
theorem turn_any (q r : Q4) (w : World) (hq : q.ok) (h : stTurn q = r) :
    Calls Tryz.prog 133 #[.int .i64 q.a, .int .i64 q.b, .int .i64 q.c, .int .i64 q.d] w fun e w' => e = .returned (.tuple #[.int .i64 r.a, .int .i64 r.b, .int .i64 r.c, .int .i64 r.d, .bool true]) ∧ Below w.heap.size w w' := by
  obtain ⟨a, b, c, d⟩ := q
  have hw4 := words_four hq
  obtain ⟨ha, hb, hc, hd⟩ := hq
  dsimp only at ha hb hc hd hw4 ⊢
  obtain ⟨a1, d1, h1⟩ : ∃ x y, mixS a b d 16 = (x, y) := ⟨_, _, rfl⟩
  have k1 := mixS_lt (a := a) (b := b) (n := 16) hd
  rw [h1] at k1
  obtain ⟨c1, b1, h2⟩ : ∃ x y, mixS c d1 b 12 = (x, y) := ⟨_, _, rfl⟩
  have k2 := mixS_lt (a := c) (b := d1) (n := 12) hb
  rw [h2] at k2
  obtain ⟨a2, d2, h3⟩ : ∃ x y, mixS a1 b1 d1 8 = (x, y) := ⟨_, _, rfl⟩
  have k3 := mixS_lt (a := a1) (b := b1) (n := 8) k1.2
  rw [h3] at k3
  obtain ⟨c2, b2, h4⟩ : ∃ x y, mixS c1 d2 b1 7 = (x, y) := ⟨_, _, rfl⟩
  have k4 := mixS_lt (a := c1) (b := d2) (n := 7) k2.2
  rw [h4] at k4
  obtain rfl : Q4.mk a2 b2 c2 d2 = r := by rw [← h]; simp [stTurn, half, h1, h2, h3, h4]
  have HI := Lib.hid (words_is hw4)
  clear h hw4
  dsimp only at k1 k2 k3 k4 ⊢
  go_enter Tryz.func133, Tryz.ntmps133
  go_wp2_with fail
  refine (is_any (ints [a, b, c, d]) _ 4 4 _ (slr_new w [a, b, c, d] (Blk.new w _ _) (by simp)) (by omega)).mono ?_
  rintro e w1 ⟨rfl, hw1⟩
  rw [HI.out]
  have hB1 : Below w.heap.size w w1 := by rw [← hw1]; go_grown
  clear hw1
  go_wp2_with fail
  refine (mix_any a b d 16 a1 d1 w1 ha hb hd (by omega) h1).mono ?_
  rintro e w2 ⟨rfl, hb2⟩
  have hB2 := hB1.trans (hb2.mono hB1.size)
  clear hb2 hB1
  go_wp2_with fail
  refine (mix_any c d1 b 12 c1 b1 w2 hc k1.2 hb (by omega) h2).mono ?_
  rintro e w3 ⟨rfl, hb3⟩
  have hB3 := hB2.trans (hb3.mono hB2.size)
  clear hb3 hB2
  go_wp2_with fail
  refine (mix_any a1 b1 d1 8 a2 d2 w3 k1.1 k2.2 k1.2 (by omega) h3).mono ?_
  rintro e w4 ⟨rfl, hb4⟩
  have hB4 := hB3.trans (hb4.mono hB3.size)
  clear hb4 hB3
  go_wp2_with fail
  refine (mix_any c1 d2 b1 7 c2 b2 w4 k2.1 k3.2 k2.2 (by omega) h4).mono ?_
  rintro e w5 ⟨rfl, hb5⟩
  have hB5 := hB4.trans (hb5.mono hB4.size)
  clear hb5 hB4
  go_wp2_with (with_reducible refine end_at ?_)
  refine end_ret (v := .tuple #[.int .i64 a2, .int .i64 b2, .int .i64 c2, .int .i64 d2, .bool true]) (by simp [results, Tryz.results133, go_sem]) rfl ⟨rfl, hB5⟩
end Go.Proofs.YtpkomloblhbkiaaGreatDoor
/- stream: first. -/
namespace Go.Proofs.YtpkomloblhbkiaaGreatDoor
open Go.RowKit
theorem w16_info : (Tryz.prog.info? 178).map (fun i => (i.zero, i.size)) = some (some (.agg (List.replicate 16 (Value.int .i64 0)).toArray), 16) := by kernel_rfl
def vec (L : List Nat) : Array Value := ((ints L).map vI).toArray
theorem vec_size (L : List Nat) : (vec L).size = L.length := by simp [vec, ints]
theorem vec_one (L : List Nat) : (vec L).all (·.oneCell') = true := all_oneCell_toArray fun v hv => by
  obtain ⟨x, _, rfl⟩ := List.mem_map.1 hv
  rfl
theorem vec_src {w : World} {g : Nat} {t : TypeId} {l : List Nat} (h : Row vI w g t (ints l)) {j : Nat} {v : Value} (hv : ((ints l).map vI)[j]? = some v) : w.cell? ⟨g, j, none⟩ = some v := by
  rw [Blk.cell h]; simpa using hv
theorem vec_mem {l : List Nat} {v : Value} (hv : v ∈ (ints l).map vI) : v.oneCell' = true := by
  obtain ⟨x, _, rfl⟩ := List.mem_map.1 hv
  rfl
theorem cutL_len (s : ByteArray) : (cutW s false).length = s.size / 4 := cutTo_len s false s.size
def head4 : List Nat := [1634760805, 857760878, 2036477234, 1797285236]
theorem first_eq {key nonce : ByteArray} {n : Nat} {K N : List Nat} (hK : cutW key false = K) (hN : cutW nonce false = N) (hk : K.length = 8) (hn : N.length = 3) :
    (splice ((splice (vec (head4 ++ List.replicate 12 0)).toList 4 ((ints K).map vI)).set 12 (vI n)) 13 ((ints N).map vI)).toArray = vec (firstL key nonce n) := by
  unfold vec firstL
  rw [hK, hN]
  congr 1
  obtain ⟨k0, k1, k2, k3, k4, k5, k6, k7, rfl⟩ : ∃ a b c d e f g h, K = [a, b, c, d, e, f, g, h] := by
    match K, hk with
    | [a, b, c, d, e, f, g, h], _ => exact ⟨a, b, c, d, e, f, g, h, rfl⟩
  obtain ⟨n0, n1, n2, rfl⟩ : ∃ a b c, N = [a, b, c] := by
    match N, hn with
    | [a, b, c], _ => exact ⟨a, b, c, rfl⟩
  simp [head4, ints, splice, vI]
set_option maxRecDepth 100000 in
set_option maxHeartbeats 800000 in
theorem first_good (key nonce : ByteArray) (n : Nat) (w : World) (hk : key.size = 32) (hn : nonce.size = 12) (hw : n < 4294967296) :
    Calls Tryz.prog 125 #[.string key, .string nonce, .int .i64 n] w fun e w' => e = .returned (.tuple #[.agg (vec (firstL key nonce n)), .bool true]) ∧ Below w.heap.size w w' := by
  obtain ⟨V, hVe⟩ : ∃ V, vec (firstL key nonce n) = V := ⟨_, rfl⟩
  have hVs : V.size = 16 := by rw [← hVe, vec_size, firstL_len n hk hn]
  have hVo : V.all (·.oneCell') = true := by rw [← hVe]; exact vec_one _
  rw [hVe]
  have HV := Lib.hid (And.intro hVs (And.intro hVo hVe))
  clear hVs hVo hVe
  have HK := Lib.hid hk
  have HN := Lib.hid hn
  have HW := Lib.hid (words_is (L := [n]) (by intro x hx; simp at hx; omega))
  have t1 : ((key.size : Int) != 32) = false := by simp; omega
  have t2 : ((nonce.size : Int) != 12) = false := by simp; omega
  obtain ⟨hz, hisz⟩ := zero_of_info w16_info
  obtain ⟨Z, hZ⟩ : ∃ Z : Array Value, (List.replicate 16 (Value.int .i64 0)).toArray = Z := ⟨_, rfl⟩
  rw [hZ] at hz
  have HZ := Lib.hid hZ
  have HI := Lib.hid hisz
  obtain ⟨S0, hS0⟩ : ∃ S, vec (head4 ++ List.replicate 12 0) = S := ⟨_, rfl⟩
  have hS0s : S0.size = 16 := by rw [← hS0]; rfl
  have hS0o : S0.all (·.oneCell') = true := by rw [← hS0]; exact vec_one _
  have HS0 := Lib.hid (And.intro hS0 (And.intro hS0s hS0o))
  have hZs : Z.size = 16 := by rw [← hZ, List.size_toArray, List.length_replicate]
  have HZs := Lib.hid hZs
  have HB : Hid (Tryz.prog.built 178 [(0, .int .i64 1634760805), (1, .int .i64 857760878), (2, .int .i64 2036477234), (3, .int .i64 1797285236)] = some S0) := Lib.hid (by rw [← hS0]; kernel_rfl)
  clear hZ hisz hS0 hS0s hS0o hZs hk hn
  go_enter Tryz.func125, Tryz.ntmps125
  go_wp2_with fail
  refine (is_any (ints [n]) (some ⟨w.heap.size + 1, 0, none⟩) 1 1 _ (slr_new w [n] (Blk.new_at (by simp) _ _) (by simp)) (by omega)).mono ?_
  rintro e w1 ⟨rfl, hw1⟩
  rw [HW.out]
  have hX1 : Hid (Blk w1 w.heap.size 178 Z) := Lib.hid (by rw [← hw1]; exact (Blk.new w _ _).alloc _)
  have hB1 : Hid (Below w.heap.size w w1) := Lib.hid (by rw [← hw1]; go_grown)
  have hl1 := hX1.out.lt
  clear hw1
  go_wp2_with (first
    | (refine wpList_buildTo rfl 178 #[(0, .const (.int .i64 1634760805)), (1, .const (.int .i64 857760878)), (2, .const (.int .i64 2036477234)), (3, .const (.int .i64 1797285236))] rfl (some 28) rfl S0 (by simp only [List.map_toArray, List.map_cons, List.map_nil]; exact HB.out) ?_)
    | (refine wpList_store_rowTo rfl 178 (.tmp 8) (.tmp 28) rfl rfl w1.heap.size S0 rfl rfl 178 Z (Blk.new _ _ _) (by rw [HS0.out.2.1]; exact HI.out) (by rw [HS0.out.2.1, HZs.out]) HS0.out.2.2 ?_; rw [World.setRow_alloc_new]))
  refine (cut_low key _ (by rw [HK.out]) (by rw [HK.out]; omega)).mono ?_
  rintro e w2 ⟨g, rfl, hR2, hg2, hb2⟩
  obtain ⟨K, hKe⟩ : ∃ K, cutW key false = K := ⟨_, rfl⟩
  have hKl : K.length = 8 := by rw [← hKe, cutL_len, HK.out]
  rw [hKe] at hR2
  have e8 : key.size / 4 = 8 := by rw [HK.out]
  rw [e8]
  have hX2 := (hX1.out.alloc (.cells S0 178)).below hb2 (by simp; omega)
  have hT2 := (Blk.new w1 178 S0).below hb2 (by simp)
  have hB2 : Below w.heap.size w w2 := Below.trans (hB1.out.alloc hB1.out.size _) (hb2.mono (by simp; omega))
  have hgl := hR2.lt
  have hgw : w1.heap.size + 1 ≤ g := by simpa using hg2
  have HKe := Lib.hid (And.intro hKe hKl)
  have HR2 := Lib.hid hR2
  have HX2 := Lib.hid hX2
  have HT2 := Lib.hid hT2
  have HB2 := Lib.hid hB2
  have hz2 : w1.heap.size < w2.heap.size := hT2.lt
  clear hb2 hg2 hR2 hKe hKl e8 hX2 hT2 hB2 hX1 hB1
  have HS0l : Hid (S0.toList.length = 16) := Lib.hid (by rw [Array.length_toList]; exact HS0.out.2.1)
  go_wp2_with (refine wpList_copy_splice rfl (.tmp 34) (.tmp 35) 29 29 rfl 3 Tryz.underlying29 (by kernel_rfl) (some ⟨w1.heap.size, 4, none⟩) (some ⟨g, 0, none⟩) 8 12 8 8 rfl rfl w1.heap.size 4 S0.toList 178 (by rw [Array.toArray_toList]; exact HT2.out) ((ints K).map vI) (by simp [ints, HKe.out.2]) (fun _ => ⟨rfl, _, rfl, fun j v hv => by rw [Addr.add_lit, Nat.zero_add]; exact vec_src HR2.out hv⟩) (by rw [HS0l.out]; simp [ints, HKe.out.2]) (fun v hv => vec_mem hv) w1.heap.size w2 (by go_grown) (by omega) ?_; intro w3 hr3 hb3; refine Hid.out ?_)
  obtain ⟨L3, hL3⟩ : ∃ L, splice S0.toList 4 ((ints K).map vI) = L := ⟨_, rfl⟩
  rw [hL3] at hr3
  have hl3 : L3.length = 16 := by rw [← hL3, length_splice _ _ _ (by rw [HS0l.out]; simp [ints, HKe.out.2]), HS0l.out]
  have hT3 : Blk w3 w1.heap.size 178 L3.toArray := hr3.out
  obtain ⟨x12, hx12⟩ : ∃ x, L3[12]? = some x := ⟨_, List.getElem?_eq_getElem (by omega)⟩
  have c3 : w3.cell? ⟨w1.heap.size, 12, none⟩ = some x12 := by rw [hT3.cell]; simpa using hx12
  clear hx12
  have f3 := hT3.frozen 12
  have hT4 := hT3.set_ 12 (vI n)
  have hX3 := HX2.out.below hb3 hl1
  have hX4 := hX3.far (p := ⟨w1.heap.size, 12, none⟩) (by simp; omega) (vI n)
  have hB4 : Below w.heap.size w (w3.setCell ⟨w1.heap.size, 12, none⟩ (vI n)) := (HB2.out.trans (hb3.mono (by omega))).setCell (by simp; omega) _
  have hz4 : w1.heap.size < (w3.setCell ⟨w1.heap.size, 12, none⟩ (vI n)).heap.size := hT4.lt
  have hL4 : (L3.toArray.setIfInBounds 12 (vI n)) = (L3.set 12 (vI n)).toArray := by simp
  rw [hL4] at hT4
  have HT4 := Lib.hid hT4
  have HX4 := Lib.hid hX4
  have HB4 := Lib.hid hB4
  have HL3 := Lib.hid (And.intro hL3 hl3)
  clear hr3 hb3 hT3 hT4 hX3 hX4 hB4 hL3 hl3 hL4 HT2 HX2 HB2 HR2
  generalize hw4 : w3.setCell ⟨w1.heap.size, 12, none⟩ (vI n) = w4 at HT4 HX4 HB4 hz4
  refine Lib.hid ?_
  unfold vI at hw4
  go_wp2_with fail
  clear hw4 c3 f3
  refine (cut_low nonce _ (by rw [HN.out]) (by rw [HN.out]; omega)).mono ?_
  rintro e w5 ⟨g2, rfl, hR5, hg5, hb5⟩
  obtain ⟨N, hNe⟩ : ∃ N, cutW nonce false = N := ⟨_, rfl⟩
  have hNl : N.length = 3 := by rw [← hNe, cutL_len, HN.out]
  rw [hNe] at hR5
  have e3 : nonce.size / 4 = 3 := by rw [HN.out]
  rw [e3]
  have hT5 := HT4.out.below hb5 hz4
  have hX5 := HX4.out.below hb5 (by omega)
  have hB5 := HB4.out.trans (hb5.mono HB4.out.size)
  have hgl2 := hR5.lt
  have hz5 : w1.heap.size < w5.heap.size := hT5.lt
  have HNe := Lib.hid (And.intro hNe hNl)
  have HR5 := Lib.hid hR5
  have HX5 := Lib.hid hX5
  have HT5 := Lib.hid hT5
  have HB5 := Lib.hid hB5
  have HL4 : Hid ((L3.set 12 (vI n)).length = 16) := Lib.hid (by rw [List.length_set]; exact HL3.out.2)
  clear hb5 hg5 hR5 hNe hNl e3 hX5 hT5 hB5 HX4 HT4 HB4
  go_wp2_with (refine wpList_copy_splice rfl (.tmp 44) (.tmp 45) 29 29 rfl 3 Tryz.underlying29 (by kernel_rfl) (some ⟨w1.heap.size, 13, none⟩) (some ⟨g2, 0, none⟩) 3 3 3 3 rfl rfl w1.heap.size 13 (L3.set 12 (vI n)) 178 HT5.out ((ints N).map vI) (by simp [ints, HNe.out.2]) (fun _ => ⟨rfl, _, rfl, fun j v hv => by rw [Addr.add_lit, Nat.zero_add]; exact vec_src HR5.out hv⟩) (by rw [HL4.out]; simp [ints, HNe.out.2]) (fun v hv => vec_mem hv) w1.heap.size w5 (by go_grown) (by omega) ?_; intro w6 hr6 hb6; refine Hid.out ?_)
  have hV : (splice (L3.set 12 (vI n)) 13 ((ints N).map vI)).toArray = vec (firstL key nonce n) := by
    rw [← HL3.out.1, ← HS0.out.1]
    exact first_eq HKe.out.1 HNe.out.1 HKe.out.2 HNe.out.2
  rw [hV, HV.out.2.2] at hr6
  have hX6 := HX5.out.below hb6 hl1
  have hB6 : Below w.heap.size w w6 := HB5.out.trans (hb6.mono (by omega))
  have HT6 : Hid (Blk w6 w1.heap.size 178 V) := hr6
  have HX6 := Lib.hid hX6
  have HB6 := Lib.hid hB6
  clear hr6 hb6 hV hX6 hB6 HR5 HT5 HX5 HB5
  refine Lib.hid ?_
  go_wp2_with (first
    | (refine wpList_load_row rfl 178 (.tmp 8) rfl w1.heap.size rfl 178 V (0, 0) (.array 16 3) HT6.out (by kernel_rfl) rfl (by rw [HV.out.1]; exact HI.out) ?_)
    | (refine wpList_store_rowTo rfl 178 (.tmp 6) (.tmp 47) rfl rfl w.heap.size V rfl rfl 178 Z HX6.out (by rw [HV.out.1]; exact HI.out) (by rw [HV.out.1, HZs.out]) HV.out.2.1 ?_)
    | (with_reducible refine end_at ?_))
  have hE : Blk (w6.setRow w.heap.size V) w.heap.size 178 V := setRow_heap w6 w.heap.size _ _ _ _ HX6.out
  have hld := run_loadVar_row (P := Tryz.prog) (w6.setRow w.heap.size V) w.heap.size 178 178 V (0, 0) (.array 16 3) hE (by kernel_rfl) rfl (by rw [HV.out.1]; exact HI.out)
  refine end_ret (v := .tuple #[.agg V, .bool true]) (by simp [results, Tryz.results125, asAddr, hld]) rfl ⟨rfl, below_setRow HB6.out (Nat.le_refl _) _⟩
def zero16 : Array Value := (List.replicate 16 (Value.int .i64 0)).toArray
set_option maxRecDepth 100000 in
set_option maxHeartbeats 800000 in
theorem first_bad (key nonce : ByteArray) (n : Nat) (w : World) (h : key.size ≠ 32 ∨ nonce.size ≠ 12) (hw : n < 4294967296) :
    Calls Tryz.prog 125 #[.string key, .string nonce, .int .i64 n] w fun e w' => e = .returned (.tuple #[.agg zero16, .bool false]) ∧ Below w.heap.size w w' := by
  obtain ⟨hz, hisz⟩ := zero_of_info w16_info
  obtain ⟨Z, hZ⟩ : ∃ Z : Array Value, (List.replicate 16 (Value.int .i64 0)).toArray = Z := ⟨_, rfl⟩
  have hZ2 : zero16 = Z := hZ
  have hZo : Z.all (·.oneCell') = true := by
    rw [← hZ]
    exact all_oneCell_toArray fun v hv => by rw [List.eq_of_mem_replicate hv]; rfl
  have HB : Hid (Tryz.prog.built 178 [] = some Z) := Lib.hid (by rw [← hZ]; kernel_rfl)
  rw [hZ] at hz
  rw [hZ2]
  have hZs : Z.size = 16 := by rw [← hZ, List.size_toArray, List.length_replicate]
  have HZs := Lib.hid (And.intro hZs hZo)
  have HI := Lib.hid hisz
  clear hZ hZ2 hZo hZs hisz
  by_cases hk : key.size = 32
  · have hn := h.resolve_left (by simpa using hk)
    have t1 : ((key.size : Int) != 32) = false := by simp; omega
    have t2 : ((nonce.size : Int) != 12) = true := by simp; omega
    clear h hk hn
    go_enter Tryz.func125, Tryz.ntmps125
    go_wp2_with (first
      | (refine wpList_buildTo rfl 178 #[] rfl (some 27) rfl Z (by simp only [List.map_toArray, List.map_nil]; exact HB.out) ?_)
      | (refine wpList_store_rowTo rfl 178 (.tmp 6) (.tmp 27) rfl rfl w.heap.size Z rfl rfl 178 Z (Blk.new _ _ _) (by rw [HZs.out.1]; exact HI.out) rfl HZs.out.2 ?_; rw [World.setRow_alloc_new])
      | (with_reducible refine end_at ?_))
    have hld := run_loadVar_row (P := Tryz.prog) (w.alloc (.cells Z 178)) w.heap.size 178 178 Z (0, 0) (.array 16 3) (Blk.new _ _ _) (by kernel_rfl) rfl (by rw [HZs.out.1]; exact HI.out)
    refine end_ret (v := .tuple #[.agg Z, .bool false]) (by simp [results, Tryz.results125, asAddr, hld]) rfl ⟨rfl, by go_grown⟩
  · have t1 : ((key.size : Int) != 32) = true := by simp; omega
    clear h hk
    go_enter Tryz.func125, Tryz.ntmps125
    go_wp2_with (first
      | (refine wpList_buildTo rfl 178 #[] rfl (some 27) rfl Z (by simp only [List.map_toArray, List.map_nil]; exact HB.out) ?_)
      | (refine wpList_store_rowTo rfl 178 (.tmp 6) (.tmp 27) rfl rfl w.heap.size Z rfl rfl 178 Z (Blk.new _ _ _) (by rw [HZs.out.1]; exact HI.out) rfl HZs.out.2 ?_; rw [World.setRow_alloc_new])
      | (with_reducible refine end_at ?_))
    have hld := run_loadVar_row (P := Tryz.prog) (w.alloc (.cells Z 178)) w.heap.size 178 178 Z (0, 0) (.array 16 3) (Blk.new _ _ _) (by kernel_rfl) rfl (by rw [HZs.out.1]; exact HI.out)
    refine end_ret (v := .tuple #[.agg Z, .bool false]) (by simp [results, Tryz.results125, asAddr, hld]) rfl ⟨rfl, by go_grown⟩
end Go.Proofs.YtpkomloblhbkiaaGreatDoor
/- stream: the listed table, and what a Block's loops see. -/
namespace Go.Proofs.YtpkomloblhbkiaaGreatDoor
open Go.RowKit
def turnCells : List Value := (turnsL.flatMap fun p => [p.1, p.2.1, p.2.2.1, p.2.2.2]).map fun (n : Nat) => .int .i64 (n : Int)
def pCells (p : Nat × Nat × Nat × Nat) : Array Value := #[.int .i64 p.1, .int .i64 p.2.1, .int .i64 p.2.2.1, .int .i64 p.2.2.2]
theorem turn_index (k : Nat) (hk : k < 8) (w : World) : (Instr.index 189 (.agg turnCells.toArray) (.int .i64 k)).run Tryz.prog w = .ok (.agg (pCells (turnsL.getD k (0, 0, 0, 0)))) w := by
  have h1 := Tryz.underlying189
  have hs : (sizeOf 188).run Tryz.prog w = .ok 4 w := Tryz.sizeOf188 w
  have h8 : k = 0 ∨ k = 1 ∨ k = 2 ∨ k = 3 ∨ k = 4 ∨ k = 5 ∨ k = 6 ∨ k = 7 := by omega
  rcases h8 with rfl | rfl | rfl | rfl | rfl | rfl | rfl | rfl
  all_goals
    simp [Instr.index, Sem.run_bind, run_underlying h1, hs, go_sem]
    try rfl
def Turns (w : World) : Prop := w.rangeAt 1 0 turnCells
theorem Turns.pos {w : World} (h : Turns w) : 1 < w.heap.size := World.block_lt_of_cell? w _ (h 0 (.int .i64 0) rfl)
theorem Turns.below {B : Nat} {w w' : World} (h : Turns w) (hb : Below B w w') (hB : 1 < B) : Turns w' := fun j v hv => (hb.cell hB).trans (h j v hv)
/-- places of a turn: below 16, no two the same -/
def placesOk (p : Nat × Nat × Nat × Nat) : Prop := p.1 < 16 ∧ p.2.1 < 16 ∧ p.2.2.1 < 16 ∧ p.2.2.2 < 16 ∧ p.1 ≠ p.2.1 ∧ p.1 ≠ p.2.2.1 ∧ p.1 ≠ p.2.2.2 ∧ p.2.1 ≠ p.2.2.1 ∧ p.2.1 ≠ p.2.2.2 ∧ p.2.2.1 ≠ p.2.2.2
theorem turnsL_ok (k : Nat) (hk : k < 8) : placesOk (turnsL.getD k (0, 0, 0, 0)) := by
  have h8 : k = 0 ∨ k = 1 ∨ k = 2 ∨ k = 3 ∨ k = 4 ∨ k = 5 ∨ k = 6 ∨ k = 7 := by omega
  unfold placesOk
  rcases h8 with rfl | rfl | rfl | rfl | rfl | rfl | rfl | rfl <;> decide
theorem getD_get {L : List Nat} {i : Nat} (h : i < L.length) : L[i]? = some (L.getD i 0) := by
  rw [List.getD_eq_getElem?_getD, List.getElem?_eq_getElem h]; rfl
/-- what the loops' rounds see -/
def At (w1 : World) (V : Array Value) (L : List Nat) (wr : World) : Prop := Below w1.heap.size w1 wr ∧ Blk wr w1.heap.size 178 V ∧ Row vI wr (w1.heap.size + 1) 178 (ints L)
theorem At.alloc {w1 : World} {V : Array Value} {L : List Nat} {wr : World} (h : At w1 V L wr) (o : Obj) : At w1 V L (wr.alloc o) := ⟨h.1.alloc h.1.size _, h.2.1.alloc _, h.2.2.alloc _⟩
theorem At.below {w1 : World} {V : Array Value} {L : List Nat} {wr wx : World} (h : At w1 V L wr) (hb : Below wr.heap.size wr wx) : At w1 V L wx := ⟨h.1.trans (hb.mono h.1.size), h.2.1.below hb h.2.1.lt, h.2.2.below hb h.2.2.lt⟩
theorem At.set_ {w1 : World} {V : Array Value} {L : List Nat} {wr : World} (h : At w1 V L wr) (k x : Nat) : At w1 V (L.set k x) (wr.setCell ⟨w1.heap.size + 1, k, none⟩ (.int .i64 x)) :=
  ⟨h.1.setCell (by simp) _, h.2.1.far (by simp) _, by have := h.2.2.set_ k (x : Int); rw [← ints_set] at this; exact this⟩
theorem At.put {w1 : World} {V : Array Value} {L : List Nat} {wr : World} (h : At w1 V L wr) (p0 p1 p2 p3 : Nat) (R : Q4) :
    At w1 V (putQ L (p0, p1, p2, p3) R) ((((wr.setCell ⟨w1.heap.size + 1, p0, none⟩ (.int .i64 R.a)).setCell ⟨w1.heap.size + 1, p1, none⟩ (.int .i64 R.b)).setCell ⟨w1.heap.size + 1, p2, none⟩ (.int .i64 R.c)).setCell ⟨w1.heap.size + 1, p3, none⟩ (.int .i64 R.d)) :=
  (((h.set_ p0 R.a).set_ p1 R.b).set_ p2 R.c).set_ p3 R.d
theorem At.drew {w1 : World} {V : Array Value} {L : List Nat} {wr : World} (h : At w1 V L wr) : At w1 V L wr.drew := ⟨h.1.drew, h.2.1, h.2.2⟩
theorem setRow_new_at {w : World} {g : Nat} (hg : w.heap.size = g) (c c' : Array Value) (t : TypeId) : (w.alloc (.cells c t)).setRow g c' = w.alloc (.cells c' t) := by subst hg; exact World.setRow_alloc_new w c c' t
theorem bel_one {b d : World} (h : Below b.drew.heap.size b.drew d) : Below b.heap.size b d := ⟨h.os, h.tape, h.output, h.size, h.block⟩
/-- the cells that a turn reads -/
def Cells8 (g12 g10 : Nat) (p0 p1 p2 p3 : Nat) (Q : Q4) (w' : World) : Prop := w'.cell? ⟨g12, 0, none⟩ = some (.int .i64 p0) ∧ w'.cell? ⟨g12, 1, none⟩ = some (.int .i64 p1) ∧ w'.cell? ⟨g12, 2, none⟩ = some (.int .i64 p2) ∧ w'.cell? ⟨g12, 3, none⟩ = some (.int .i64 p3)
              ∧ w'.cell? ⟨g10, p0, none⟩ = some (.int .i64 Q.a) ∧ w'.cell? ⟨g10, p1, none⟩ = some (.int .i64 Q.b) ∧ w'.cell? ⟨g10, p2, none⟩ = some (.int .i64 Q.c) ∧ w'.cell? ⟨g10, p3, none⟩ = some (.int .i64 Q.d)
end Go.Proofs.YtpkomloblhbkiaaGreatDoor
