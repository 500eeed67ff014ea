/- stream, plain: what the words become. -/
import Derived.Test.YtpbbphjhjjpkjaaDoorWordD
set_option linter.unusedVariables false
namespace Go.Proofs.YtpbbphjhjjpkjaaDoor
def mixS (a b c n : Nat) : Nat × Nat := (sumW [a, b], rotl (c ^^^ sumW [a, b]) n)
theorem mixS_lt {a b c n : Nat} (hc : c < 4294967296) : (mixS a b c n).1 < 4294967296 ∧ (mixS a b c n).2 < 4294967296 :=
  ⟨sumW_lt _, rotl_lt (Nat.xor_lt_two_pow (n := 32) hc (sumW_lt _))⟩
structure Q4 where
  a : Nat
  b : Nat
  c : Nat
  d : Nat
def Q4.ok (q : Q4) : Prop := q.a < 4294967296 ∧ q.b < 4294967296 ∧ q.c < 4294967296 ∧ q.d < 4294967296
def half (q : Q4) (m n : Nat) : Q4 :=
  let x := mixS q.a q.b q.d m
  let y := mixS q.c x.2 q.b n
  ⟨x.1, y.2, y.1, x.2⟩
def stTurn (q : Q4) : Q4 := half (half q 16 12) 8 7
theorem half_ok {q : Q4} (h : q.ok) (m n : Nat) : (half q m n).ok := by
  obtain ⟨ha, hb, hc, hd⟩ := h
  unfold half Q4.ok
  exact ⟨(mixS_lt (n := m) hd).1, (mixS_lt (n := n) hb).2, (mixS_lt (n := n) hb).1, (mixS_lt (n := m) hd).2⟩
theorem stTurn_ok {q : Q4} (h : q.ok) : (stTurn q).ok := half_ok (half_ok h _ _) _ _
/-- the places of each turn -/
def turnsL : List (Nat × Nat × Nat × Nat) := [(0, 4, 8, 12), (1, 5, 9, 13), (2, 6, 10, 14), (3, 7, 11, 15), (0, 5, 10, 15), (1, 6, 11, 12), (2, 7, 8, 13), (3, 4, 9, 14)]
def atQ (L : List Nat) (p : Nat × Nat × Nat × Nat) : Q4 := ⟨L.getD p.1 0, L.getD p.2.1 0, L.getD p.2.2.1 0, L.getD p.2.2.2 0⟩
def putQ (L : List Nat) (p : Nat × Nat × Nat × Nat) (q : Q4) : List Nat := (((L.set p.1 q.a).set p.2.1 q.b).set p.2.2.1 q.c).set p.2.2.2 q.d
def turnAt (L : List Nat) (p : Nat × Nat × Nat × Nat) : List Nat := putQ L p (stTurn (atQ L p))
/-- the state behind k turns of a round -/
def roundTo (L : List Nat) : Nat → List Nat
  | 0 => L
  | k + 1 => turnAt (roundTo L k) (turnsL.getD k (0, 0, 0, 0))
def roundsTo (L : List Nat) : Nat → List Nat
  | 0 => L
  | k + 1 => roundTo (roundsTo L k) 8
theorem putQ_len (L : List Nat) (p : Nat × Nat × Nat × Nat) (q : Q4) : (putQ L p q).length = L.length := by simp [putQ]
theorem turnAt_len (L : List Nat) (p : Nat × Nat × Nat × Nat) : (turnAt L p).length = L.length := putQ_len _ _ _
theorem roundTo_len (L : List Nat) (k : Nat) : (roundTo L k).length = L.length := by
  induction k with
  | zero => rfl
  | succ k ih => rw [roundTo, turnAt_len, ih]
theorem roundsTo_len (L : List Nat) (k : Nat) : (roundsTo L k).length = L.length := by
  induction k with
  | zero => rfl
  | succ k ih => rw [roundsTo, roundTo_len, ih]
theorem words_put {L : List Nat} (h : words L) {i x : Nat} (hx : x < 4294967296) : words (L.set i x) := by
  intro n hn
  rcases List.mem_or_eq_of_mem_set hn with hn | rfl
  · exact h n hn
  · exact hx
theorem words_getD {L : List Nat} (h : words L) (i : Nat) : L.getD i 0 < 4294967296 := by
  rw [List.getD_eq_getElem?_getD]
  cases e : L[i]? with
  | none => decide
  | some x => exact h x (List.mem_of_getElem? e)
theorem atQ_ok {L : List Nat} (h : words L) (p : Nat × Nat × Nat × Nat) : (atQ L p).ok := ⟨words_getD h _, words_getD h _, words_getD h _, words_getD h _⟩
theorem putQ_words {L : List Nat} (h : words L) (p : Nat × Nat × Nat × Nat) {q : Q4} (hq : q.ok) : words (putQ L p q) :=
  words_put (words_put (words_put (words_put h hq.1) hq.2.1) hq.2.2.1) hq.2.2.2
theorem turnAt_words {L : List Nat} (h : words L) (p : Nat × Nat × Nat × Nat) : words (turnAt L p) := putQ_words h p (stTurn_ok (atQ_ok h p))
theorem roundTo_words {L : List Nat} (h : words L) (k : Nat) : words (roundTo L k) := by
  induction k with
  | zero => exact h
  | succ k ih => rw [roundTo]; exact turnAt_words ih _
theorem roundsTo_words {L : List Nat} (h : words L) (k : Nat) : words (roundsTo L k) := by
  induction k with
  | zero => exact h
  | succ k ih => rw [roundsTo]; exact roundTo_words ih _
/-- the state of a key, a nonce and a counter -/
def firstL (key nonce : ByteArray) (n : Nat) : List Nat := [1634760805, 857760878, 2036477234, 1797285236] ++ cutW key false ++ [n] ++ cutW nonce false
theorem firstL_len {key nonce : ByteArray} (n : Nat) (hk : key.size = 32) (hn : nonce.size = 12) : (firstL key nonce n).length = 16 := by
  simp [firstL, cutW, cutTo_len, hk, hn]
theorem firstL_words (key nonce : ByteArray) {n : Nat} (hn : n < 4294967296) : words (firstL key nonce n) := by
  intro x hx
  simp only [firstL, List.mem_append, List.mem_cons, List.not_mem_nil, or_false] at hx
  rcases hx with ((h | h) | h) | h
  · rcases h with rfl | rfl | rfl | rfl <;> decide
  · exact cutTo_words _ _ _ _ h
  · rw [h]; exact hn
  · exact cutTo_words _ _ _ _ h
/-- the words of L, of the first k of which those of M are added -/
def addW (L M : List Nat) (k : Nat) : List Nat := (List.range L.length).map fun i => if i < k then sumW [L.getD i 0, M.getD i 0] else L.getD i 0
theorem addW_len (L M : List Nat) (k : Nat) : (addW L M k).length = L.length := by simp [addW]
theorem addW_zero (L M : List Nat) : addW L M 0 = L := by
  refine List.ext_getElem (by simp [addW]) fun i h1 h2 => ?_
  have h3 : i < L.length := by simpa [addW] using h1
  simp [addW, h3]
theorem addW_words {L : List Nat} (h : words L) (M : List Nat) (k : Nat) : words (addW L M k) := by
  intro x hx
  simp only [addW, List.mem_map, List.mem_range] at hx
  obtain ⟨i, _, rfl⟩ := hx
  split
  · exact sumW_lt _
  · exact words_getD h i
theorem addW_get (L M : List Nat) (k i : Nat) (h : i < L.length) : (addW L M k)[i]? = some (if i < k then sumW [L.getD i 0, M.getD i 0] else L.getD i 0) := by
  unfold addW
  rw [List.getElem?_map, List.getElem?_range h]
  rfl
theorem addW_succ (L M : List Nat) (k : Nat) (h : k < L.length) : (addW L M k).set k (sumW [L.getD k 0, M.getD k 0]) = addW L M (k + 1) := by
  refine List.ext_getElem? fun i => ?_
  by_cases hi : i < L.length
  · rw [addW_get L M (k + 1) i hi, List.getElem?_set]
    by_cases e : k = i
    · subst e
      rw [if_pos rfl, if_pos (by rw [addW_len]; exact h), if_pos (by omega)]
    · rw [if_neg e, addW_get L M k i hi]
      by_cases e2 : i < k
      · rw [if_pos e2, if_pos (by omega)]
      · rw [if_neg e2, if_neg (by omega)]
  · rw [List.getElem?_eq_none (by simp [addW]; omega), List.getElem?_eq_none (by simp [addW]; omega)]
def blockL (key nonce : ByteArray) (n : Nat) : List Nat := addW (roundsTo (firstL key nonce n) 10) (firstL key nonce n) 16
def blockB (key nonce : ByteArray) (n : Nat) : ByteArray := joinW (blockL key nonce n) false
theorem blockL_len {key nonce : ByteArray} (n : Nat) (hk : key.size = 32) (hn : nonce.size = 12) : (blockL key nonce n).length = 16 := by
  rw [blockL, addW_len, roundsTo_len, firstL_len n hk hn]
theorem blockB_size {key nonce : ByteArray} (n : Nat) (hk : key.size = 32) (hn : nonce.size = 12) : (blockB key nonce n).size = 64 := by
  rw [blockB, joinW_size, blockL_len n hk hn]
/-- the byte that hides the one of place i -/
def maskAt (key nonce : ByteArray) (n i : Nat) : UInt8 := (blockB key nonce (n + i / 64)).data.toList.getD (i % 64) 0
/-- s, of which the first k bytes are turned -/
def hideTo (key nonce : ByteArray) (n : Nat) (l : List UInt8) (k : Nat) : List UInt8 := (List.range l.length).map fun i => if i < k then l.getD i 0 ^^^ maskAt key nonce n i else l.getD i 0
def hideB (key nonce : ByteArray) (n : Nat) (s : ByteArray) : ByteArray := ⟨(hideTo key nonce n s.data.toList s.size).toArray⟩
theorem hideTo_len (key nonce : ByteArray) (n : Nat) (l : List UInt8) (k : Nat) : (hideTo key nonce n l k).length = l.length := by simp [hideTo]
theorem hideB_size (key nonce : ByteArray) (n : Nat) (s : ByteArray) : (hideB key nonce n s).size = s.size := by
  show ((hideTo key nonce n s.data.toList s.size).toArray).size = s.size
  rw [List.size_toArray, hideTo_len]; simp
theorem hideTo_get (key nonce : ByteArray) (n : Nat) (l : List UInt8) (k i : Nat) (h : i < l.length) : (hideTo key nonce n l k)[i]? = some (if i < k then l.getD i 0 ^^^ maskAt key nonce n i else l.getD i 0) := by
  unfold hideTo
  rw [List.getElem?_map, List.getElem?_range h]
  rfl
theorem hideTo_zero (key nonce : ByteArray) (n : Nat) (l : List UInt8) : hideTo key nonce n l 0 = l := by
  refine List.ext_getElem (by simp [hideTo]) fun i h1 h2 => ?_
  have h3 : i < l.length := by simpa [hideTo] using h1
  simp [hideTo, h3]
theorem hideTo_succ (key nonce : ByteArray) (n : Nat) (l : List UInt8) (k : Nat) (h : k < l.length) : (hideTo key nonce n l k).set k (l.getD k 0 ^^^ maskAt key nonce n k) = hideTo key nonce n l (k + 1) := by
  refine List.ext_getElem? fun i => ?_
  by_cases hi : i < l.length
  · rw [hideTo_get _ _ _ l (k + 1) i hi, List.getElem?_set]
    by_cases e : k = i
    · subst e
      rw [if_pos rfl, if_pos (by rw [hideTo_len]; exact h), if_pos (by omega)]
    · rw [if_neg e, hideTo_get _ _ _ l k i hi]
      by_cases e2 : i < k
      · rw [if_pos e2, if_pos (by omega)]
      · rw [if_neg e2, if_neg (by omega)]
  · rw [List.getElem?_eq_none (by simp [hideTo]; omega), List.getElem?_eq_none (by simp [hideTo]; omega)]
theorem u8_xor_xor (a b : UInt8) : a ^^^ b ^^^ b = a := by
  rw [UInt8.xor_assoc, UInt8.xor_self, UInt8.xor_zero]
/-- what is hidden twice is as it was -/
theorem hide_hide (key nonce : ByteArray) (n : Nat) (s : ByteArray) : hideB key nonce n (hideB key nonce n s) = s := by
  have h1 : (hideB key nonce n s).data.toList = hideTo key nonce n s.data.toList s.size := rfl
  have h2 : s.data.toList.length = s.size := by simp
  have : hideTo key nonce n (hideB key nonce n s).data.toList (hideB key nonce n s).size = s.data.toList := by
    rw [h1, hideB_size]
    refine List.ext_getElem? fun i => ?_
    by_cases hi : i < s.size
    · rw [hideTo_get _ _ _ _ _ i (by rw [hideTo_len]; omega), if_pos hi, List.getD_eq_getElem?_getD, hideTo_get _ _ _ _ _ i (by omega), if_pos hi, Option.getD_some, u8_xor_xor, List.getD_eq_getElem?_getD, List.getElem?_eq_getElem (by omega)]
      rfl
    · rw [List.getElem?_eq_none (by rw [hideTo_len, hideTo_len]; omega), List.getElem?_eq_none (by omega)]
  unfold hideB at this ⊢
  cases s with
  | mk d => simp only [ByteArray.mk.injEq]; rw [this]
end Go.Proofs.YtpbbphjhjjpkjaaDoor
