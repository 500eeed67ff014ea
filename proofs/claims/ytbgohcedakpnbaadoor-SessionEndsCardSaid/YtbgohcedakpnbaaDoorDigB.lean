/- digest.Step: the spec (plain). -/
import Derived.Test.YtbgohcedakpnbaaDoorDigA
set_option linter.unusedVariables false
namespace Go.Proofs.YtbgohcedakpnbaaDoor
open Go.RowKit
/-- the words of chapter 2's rounds -/
def K64 : List Nat := [1116352408, 1899447441, 3049323471, 3921009573, 961987163, 1508970993, 2453635748, 2870763221, 3624381080, 310598401, 607225278, 1426881987, 1925078388, 2162078206, 2614888103, 3248222580, 3835390401, 4022224774, 264347078, 604807628, 770255983, 1249150122, 1555081692, 1996064986, 2554220882, 2821834349, 2952996808, 3210313671, 3336571891, 3584528711, 113926993, 338241895, 666307205, 773529912, 1294757372, 1396182291, 1695183700, 1986661051, 2177026350, 2456956037, 2730485921, 2820302411, 3259730800, 3345764771, 3516065817, 3600352804, 4094571909, 275423344, 430227734, 506948616, 659060556, 883997877, 958139571, 1322822218, 1537002063, 1747873779, 1955562222, 2024104815, 2227730452, 2361852424, 2428436474, 2756734187, 3204031479, 3329325298]
theorem K64_len : K64.length = 64 := by rfl
structure S8 where
  (a b c d e f g h : Nat)
def S8.list (s : S8) : List Nat := [s.a, s.b, s.c, s.d, s.e, s.f, s.g, s.h]
def S8.ok (s : S8) : Prop := words s.list
def pW (s : S8) (k w : Nat) : Nat := sumW [s.h, xorW [rotl s.e 26, rotl s.e 21, rotl s.e 7], xorW [s.e &&& s.f, (4294967295 - s.e) &&& s.g], k, w]
def qW (s : S8) : Nat := sumW [xorW [rotl s.a 30, rotl s.a 19, rotl s.a 10], xorW [s.a &&& s.b, s.a &&& s.c, s.b &&& s.c]]
def turnS (s : S8) (k w : Nat) : S8 := ⟨sumW [pW s k w, qW s], s.a, s.b, s.c, sumW [s.d, pW s k w], s.e, s.f, s.g⟩
/-- n rounds -/
def turnsTo (W : List Nat) (s : S8) : Nat → S8
  | 0 => s
  | n + 1 => turnS (turnsTo W s n) (K64.getD n 0) (W.getD n 0)
/-- the state with m of its words added -/
def addTo (s t : S8) (m : Nat) : List Nat := ((List.range 8).map fun i => if i < m then sumW [s.list.getD i 0, t.list.getD i 0] else t.list.getD i 0)
def stepS (s : S8) (block : ByteArray) : List Nat := addTo s (turnsTo (spreadW block) s 64) 8
theorem turnS_ok {s : S8} (h : s.ok) (k w : Nat) : (turnS s k w).ok := by
  intro n hn
  have hh : ∀ x ∈ s.list, x < 4294967296 := h
  simp only [S8.list, List.mem_cons, List.not_mem_nil, or_false, forall_eq_or_imp, forall_eq] at hh
  simp only [turnS, S8.list, List.mem_cons, List.not_mem_nil, or_false] at hn
  obtain ⟨h1, h2, h3, h4, h5, h6, h7, h8⟩ := hh
  rcases hn with rfl | rfl | rfl | rfl | rfl | rfl | rfl | rfl
  · exact sumW_lt _
  · exact h1
  · exact h2
  · exact h3
  · exact sumW_lt _
  · exact h5
  · exact h6
  · exact h7
theorem turnsTo_ok {s : S8} (h : s.ok) (W : List Nat) (n : Nat) : (turnsTo W s n).ok := by
  induction n with
  | zero => exact h
  | succ n ih => exact turnS_ok ih _ _
theorem addTo_len (s t : S8) (m : Nat) : (addTo s t m).length = 8 := by simp [addTo]
theorem list_len (t : S8) : t.list.length = 8 := rfl
theorem list_get (t : S8) {m : Nat} (hm : m < 8) : t.list[m]? = some (t.list.getD m 0) := by
  rw [List.getD_eq_getElem?_getD, List.getElem?_eq_getElem (by rw [list_len]; exact hm)]; rfl
theorem addTo_get (s t : S8) {m : Nat} (hm : m < 8) : (addTo s t m)[m]? = some (t.list.getD m 0) := by
  simp [addTo, hm]
theorem addTo_zero (s t : S8) : addTo s t 0 = t.list := rfl
theorem addTo_succ (s t : S8) {m : Nat} (hm : m < 8) : addTo s t (m + 1) = (addTo s t m).set m (sumW [s.list.getD m 0, t.list.getD m 0]) := by
  apply List.ext_getElem?
  intro j
  by_cases hj : j < 8
  · by_cases e : m = j
    · subst e
      rw [List.getElem?_set_self (by rw [addTo_len]; exact hj)]
      simp [addTo, hj]
    · rw [List.getElem?_set_ne e]
      simp only [addTo, List.getElem?_map, List.getElem?_range hj, Option.map_some]
      by_cases h : j < m
      · rw [if_pos h, if_pos (by omega)]
      · rw [if_neg h, if_neg (by omega)]
  · rw [List.getElem?_eq_none (by rw [addTo_len]; omega), List.getElem?_eq_none (by rw [List.length_set, addTo_len]; omega)]
theorem results_row_tmp {P : Program} {fn : Func} {p q : Tmp} {ty : TypeId} (h : fn.results = #[.cell p ty, .tmp q]) (tmps : Array Value) (w : World) (g : Nat) (t : TypeId) (cs : Array Value) (fr : Nat × Nat) (d : TypeDesc) (v : Value)
    (hp : tmps.getD p undef = .pointer (some ⟨g, 0, none⟩)) (hq : tmps.getD q undef = v) (hg : w.heap[g]? = some (.cells cs t fr))
    (hu : P.underlying ty = some d) (hd : (match d with | .struct _ | .array _ _ => true | _ => false) = true) (hi : (P.info? ty).map (·.size) = some cs.size) :
    (results fn tmps).run P w = .ok (.tuple #[.agg cs, v]) w := by
  have hp' : tmps[p]?.getD undef = .pointer (some ⟨g, 0, none⟩) := by simpa using hp
  have hq' : tmps[q]?.getD undef = v := by simpa using hq
  simp [results, h, hp', hq', asAddr, run_loadVar_row w g t ty cs fr d hg hu hd hi]
end Go.Proofs.YtbgohcedakpnbaaDoor
/- Plain: the words of chapters 1 and 2, as the document tells them. -/
namespace Go.Proofs.YtbgohcedakpnbaaDoor
open Go.RowKit
theorem bit_of (x i : Nat) : x / 2 ^ i % 2 = (x.testBit i).toNat := by
  rw [Nat.testBit_eq_decide_div_mod_eq]
  rcases Nat.mod_two_eq_zero_or_one (x / 2 ^ i) with h | h <;> simp [h]
theorem xor_mod_succ (a b i : Nat) : (a ^^^ b) % 2 ^ (i + 1) = (a ^^^ b) % 2 ^ i + (if a / 2 ^ i % 2 ≠ b / 2 ^ i % 2 then 2 ^ i else 0) := by
  rw [Nat.mod_pow_succ, bit_of, bit_of, bit_of, Nat.testBit_xor]
  cases a.testBit i <;> cases b.testBit i <;> simp
theorem and_mod_succ (a b i : Nat) : (a &&& b) % 2 ^ (i + 1) = (a &&& b) % 2 ^ i + (if a / 2 ^ i % 2 = 1 ∧ b / 2 ^ i % 2 = 1 then 2 ^ i else 0) := by
  rw [Nat.mod_pow_succ, bit_of, bit_of, bit_of, Nat.testBit_and]
  cases a.testBit i <;> cases b.testBit i <;> simp
theorem rotl_zero (x : Nat) (hx : x < 4294967296) : rotl x 0 = x := by
  unfold rotl
  rw [Nat.pow_zero, Nat.mul_one, Nat.mod_eq_of_lt hx, Nat.sub_zero, Nat.div_eq_of_lt (by omega)]
  simp
theorem rotl_sum (x s : Nat) (hx : x < 4294967296) (hs : s ≤ 32) : rotl x s = x % 2 ^ (32 - s) * 2 ^ s + x / 2 ^ (32 - s) := by
  have hp : 2 ^ (32 - s) * 2 ^ s = 4294967296 := by rw [← Nat.pow_add]; rw [show 32 - s + s = 32 by omega]
  have h1 : x * 2 ^ s % 4294967296 = x % 2 ^ (32 - s) * 2 ^ s := by rw [← hp, Nat.mul_mod_mul_right]
  have h2 : x / 2 ^ (32 - s) < 2 ^ s := by
    rw [Nat.div_lt_iff_lt_mul (Nat.two_pow_pos _), Nat.mul_comm, hp]; exact hx
  unfold rotl
  rw [h1, ← Nat.shiftLeft_eq, ← Nat.shiftLeft_add_eq_or_of_lt h2]
theorem turn_step (x s : Nat) (hx : x < 4294967296) (hs : s < 32) : 2 * rotl x s % 4294967296 + 2 * rotl x s / 4294967296 = rotl x (s + 1) := by
  rw [rotl_sum x s hx (by omega), rotl_sum x (s + 1) hx (by omega)]
  obtain ⟨k, hk⟩ : ∃ k, 31 - s = k := ⟨_, rfl⟩
  have e1 : 32 - s = k + 1 := by omega
  have e2 : 32 - (s + 1) = k := by omega
  rw [e1, e2]
  have hp : 2 ^ k * 2 ^ s = 2147483648 := by rw [← Nat.pow_add]; rw [show k + s = 31 by omega]
  have hq : x / 2 ^ (k + 1) < 2 ^ s := by
    rw [Nat.div_lt_iff_lt_mul (Nat.two_pow_pos _), Nat.pow_succ, Nat.mul_comm, Nat.mul_right_comm, hp]; exact hx
  have hd : x % 2 ^ (k + 1) = x % 2 ^ k + 2 ^ k * (x / 2 ^ k % 2) := Nat.mod_pow_succ
  have hdd : x / 2 ^ (k + 1) = x / 2 ^ k / 2 := by rw [Nat.pow_succ, Nat.div_div_eq_div_mul]
  have hm : x % 2 ^ k < 2 ^ k := Nat.mod_lt _ (Nat.two_pow_pos _)
  rw [hdd] at hq ⊢
  rw [hd]
  generalize x / 2 ^ k = q at *
  generalize x % 2 ^ k = r at *
  have hr : r * 2 ^ s + 2 ^ s ≤ 2147483648 := by
    rw [← hp]
    calc r * 2 ^ s + 2 ^ s = (r + 1) * 2 ^ s := by rw [Nat.add_mul, Nat.one_mul]
      _ ≤ 2 ^ k * 2 ^ s := Nat.mul_le_mul_right _ hm
  have hb := Nat.mod_two_eq_zero_or_one q
  have h3 : r * 2 ^ (s + 1) = r * 2 ^ s * 2 := by rw [Nat.pow_succ, Nat.mul_assoc]
  have h4 : 2 ^ k * (q % 2) * 2 ^ s = 2147483648 * (q % 2) := by rw [Nat.mul_right_comm, hp]
  rw [Nat.add_mul, h3, h4]
  generalize r * 2 ^ s = R at *
  rcases hb with h | h <;> rw [h]
  · omega
  · omega
/-- word j of s, r of its bytes taken in -/
def partW (s : ByteArray) (h : Bool) (j : Nat) : Nat → Nat
  | 0 => 0
  | r + 1 => partW s h j r ||| byteAt s (4 * j + r) * 2 ^ belowW h r
theorem cutTo_get (s : ByteArray) (h : Bool) (i j : Nat) (hj : j < s.size / 4) : (cutTo s h i)[j]? = some (partW s h j (min (i - 4 * j) 4)) := by
  induction i with
  | zero => simp [cutTo, partW, hj]
  | succ i ih =>
    rw [cutTo]
    by_cases e : i / 4 = j
    · rw [e, List.getElem?_set_self (by rw [cutTo_len]; exact hj)]
      have h1 : min (i - 4 * j) 4 = i % 4 := by omega
      have h2 : min (i + 1 - 4 * j) 4 = i % 4 + 1 := by omega
      rw [h1] at ih
      rw [h2, partW, List.getD_eq_getElem?_getD, ih, show 4 * j + i % 4 = i by omega]
      rfl
    · rw [List.getElem?_set_ne e, ih]
      congr 2
      omega
/-- word j of s, as numbers -/
def wordAt (s : ByteArray) (h : Bool) (j : Nat) : Nat :=
  if h then 256 * (256 * (256 * byteAt s (4 * j) + byteAt s (4 * j + 1)) + byteAt s (4 * j + 2)) + byteAt s (4 * j + 3)
  else 256 * (256 * (256 * byteAt s (4 * j + 3) + byteAt s (4 * j + 2)) + byteAt s (4 * j + 1)) + byteAt s (4 * j)
theorem or_high (a b k : Nat) (h : b < 2 ^ k) : a * 2 ^ k ||| b = a * 2 ^ k + b := by
  rw [← Nat.shiftLeft_eq, ← Nat.shiftLeft_add_eq_or_of_lt h]
theorem part_word (s : ByteArray) (h : Bool) (j : Nat) : partW s h j 4 = wordAt s h j := by
  have b0 := byteAt_lt s (4 * j)
  have b1 := byteAt_lt s (4 * j + 1)
  have b2 := byteAt_lt s (4 * j + 2)
  have b3 := byteAt_lt s (4 * j + 3)
  simp only [partW, belowW, wordAt, Nat.add_zero, Nat.zero_or]
  generalize byteAt s (4 * j) = x0 at *
  generalize byteAt s (4 * j + 1) = x1 at *
  generalize byteAt s (4 * j + 2) = x2 at *
  generalize byteAt s (4 * j + 3) = x3 at *
  cases h
  · simp only [Bool.false_eq_true, if_false, Nat.mul_zero, Nat.pow_zero, Nat.mul_one]
    have e1 : x0 ||| x1 * 2 ^ 8 = x1 * 2 ^ 8 + x0 := by rw [Nat.or_comm, or_high _ _ _ (by omega)]
    have e2 : x0 ||| x1 * 2 ^ 8 ||| x2 * 2 ^ 16 = x2 * 2 ^ 16 + (x1 * 2 ^ 8 + x0) := by rw [e1, Nat.or_comm, or_high _ _ _ (by omega)]
    have e3 : x0 ||| x1 * 2 ^ 8 ||| x2 * 2 ^ 16 ||| x3 * 2 ^ 24 = x3 * 2 ^ 24 + (x2 * 2 ^ 16 + (x1 * 2 ^ 8 + x0)) := by rw [e2, Nat.or_comm, or_high _ _ _ (by omega)]
    rw [show 8 * 2 = 16 by rfl, show 8 * 3 = 24 by rfl, e3]
    omega
  · simp only [if_true, Nat.mul_zero, Nat.sub_zero, Nat.mul_one]
    have e1 : x0 * 2 ^ 24 ||| x1 * 2 ^ 16 = (x0 * 2 ^ 8 + x1) * 2 ^ 16 := by rw [or_high _ _ _ (by omega)]; omega
    have e2 : x0 * 2 ^ 24 ||| x1 * 2 ^ 16 ||| x2 * 2 ^ 8 = ((x0 * 2 ^ 8 + x1) * 2 ^ 8 + x2) * 2 ^ 8 := by rw [e1, or_high _ _ _ (by omega)]; omega
    have e3 : x0 * 2 ^ 24 ||| x1 * 2 ^ 16 ||| x2 * 2 ^ 8 ||| x3 = ((x0 * 2 ^ 8 + x1) * 2 ^ 8 + x2) * 2 ^ 8 + x3 := by rw [e2, or_high _ _ _ (by omega)]
    rw [show 24 - 8 = 16 by rfl, show 24 - 8 * 2 = 8 by rfl, show 24 - 8 * 3 = 0 by rfl, Nat.pow_zero, Nat.mul_one, e3]
    omega
theorem cutW_eq (s : ByteArray) (h : Bool) : cutW s h = (List.range (s.size / 4)).map (wordAt s h) := by
  apply List.ext_getElem?
  intro j
  by_cases hj : j < s.size / 4
  · rw [cutW, cutTo_get s h _ j hj, show min (s.size - 4 * j) 4 = 4 by omega, part_word]
    simp [hj]
  · rw [List.getElem?_eq_none (by rw [cutW, cutTo_len]; omega), List.getElem?_eq_none (by simp; omega)]
/-- a word's bytes -/
def toldB (h : Bool) (x : Nat) : List UInt8 :=
  if h then [UInt8.ofNat (x / 16777216), UInt8.ofNat (x / 65536 % 256), UInt8.ofNat (x / 256 % 256), UInt8.ofNat (x % 256)]
  else [UInt8.ofNat (x % 256), UInt8.ofNat (x / 256 % 256), UInt8.ofNat (x / 65536 % 256), UInt8.ofNat (x / 16777216)]
theorem joinB_take (L : List Nat) (h : Bool) (hw : words L) (k : Nat) (hk : k ≤ L.length) : ((List.range (4 * k)).map fun t => UInt8.ofNat (joinByte L h t)) = (L.take k).flatMap (toldB h) := by
  induction k with
  | zero => rfl
  | succ k ih =>
    obtain ⟨x, hx⟩ : ∃ x, L[k]? = some x := ⟨_, List.getElem?_eq_getElem (by omega)⟩
    have hx2 := hw x (List.mem_of_getElem? hx)
    rw [show 4 * (k + 1) = 4 * k + 1 + 1 + 1 + 1 by omega, List.range_succ, List.range_succ, List.range_succ, List.range_succ]
    rw [List.take_add_one, hx, List.flatMap_append, ← ih (by omega)]
    simp only [List.map_append, List.map_cons, List.map_nil, List.append_assoc]
    congr 1
    have j0 : joinByte L h (4 * k) = x / 2 ^ belowW h 0 % 256 := by unfold joinByte; rw [show 4 * k / 4 = k by omega, show 4 * k % 4 = 0 by omega, List.getD_eq_getElem?_getD, hx]; rfl
    have j1 : joinByte L h (4 * k + 1) = x / 2 ^ belowW h 1 % 256 := by unfold joinByte; rw [show (4 * k + 1) / 4 = k by omega, show (4 * k + 1) % 4 = 1 by omega, List.getD_eq_getElem?_getD, hx]; rfl
    have j2 : joinByte L h (4 * k + 1 + 1) = x / 2 ^ belowW h 2 % 256 := by unfold joinByte; rw [show (4 * k + 1 + 1) / 4 = k by omega, show (4 * k + 1 + 1) % 4 = 2 by omega, List.getD_eq_getElem?_getD, hx]; rfl
    have j3 : joinByte L h (4 * k + 1 + 1 + 1) = x / 2 ^ belowW h 3 % 256 := by unfold joinByte; rw [show (4 * k + 1 + 1 + 1) / 4 = k by omega, show (4 * k + 1 + 1 + 1) % 4 = 3 by omega, List.getD_eq_getElem?_getD, hx]; rfl
    rw [j0, j1, j2, j3]
    have hm : x / 16777216 % 256 = x / 16777216 := Nat.mod_eq_of_lt (by omega)
    cases h <;> simp [belowW, toldB, hm]
theorem joinW_eq (L : List Nat) (h : Bool) (hw : words L) : (joinW L h).data.toList = L.flatMap (toldB h) := by
  have := joinB_take L h hw L.length (Nat.le_refl _)
  rw [List.take_length] at this
  rw [joinW, List.toList_toArray, this]
/-- the words of a block, k of them made behind the 16: as the document tells them -/
def growTo (l : List Nat) : Nat → List Nat
  | 0 => l
  | k + 1 => growTo l k ++ [sumW [(growTo l k).getD k 0, s0W ((growTo l k).getD (k + 1) 0), (growTo l k).getD (k + 9) 0, s1W ((growTo l k).getD (k + 14) 0)]]
theorem growTo_len (l : List Nat) (k : Nat) : (growTo l k).length = l.length + k := by
  induction k with
  | zero => rfl
  | succ k ih => rw [growTo, List.length_append, ih]; rfl
theorem getD_append (L M : List Nat) (i : Nat) (h : i < L.length) : (L ++ M).getD i 0 = L.getD i 0 := by
  rw [List.getD_eq_getElem?_getD, List.getD_eq_getElem?_getD, List.getElem?_append_left h]
theorem spreadTo_grow (l : List Nat) (hl : l.length = 16) (k : Nat) (hk : k ≤ 48) : spreadTo l k = growTo l k ++ List.replicate (48 - k) 0 := by
  induction k with
  | zero => simp [spreadTo, growTo, hl]
  | succ k ih =>
    have hg := growTo_len l k
    rw [hl] at hg
    rw [spreadTo, growTo, ih (by omega)]
    rw [getD_append _ _ _ (by omega), getD_append _ _ _ (by omega), getD_append _ _ _ (by omega), getD_append _ _ _ (by omega)]
    rw [List.set_append_right _ _ (by omega), hg, Nat.sub_self]
    rw [show 48 - k = (48 - (k + 1)) + 1 by omega, List.replicate_succ]
    simp
theorem spreadTo_grown (l : List Nat) (hl : l.length = 16) : spreadTo l 48 = growTo l 48 := by
  rw [spreadTo_grow l hl 48 (by omega)]; simp
end Go.Proofs.YtbgohcedakpnbaaDoor
/- Plain: the digest. -/
namespace Go.Proofs.YtbgohcedakpnbaaDoor
open Go.RowKit
theorem stepS_len (s : S8) (b : ByteArray) : (stepS s b).length = 8 := by simp [stepS, addTo]
theorem stepS_words (s : S8) (b : ByteArray) : words (stepS s b) := by
  intro n hn
  rw [stepS, addTo] at hn
  obtain ⟨i, hi, rfl⟩ := List.mem_map.1 hn
  rw [if_pos (List.mem_range.1 hi)]
  exact sumW_lt _
def startL : List Nat := [1779033703, 3144134277, 1013904242, 2773480762, 1359893119, 2600822924, 528734635, 1541459225]
/-- the state behind one block -/
def stepL (L : List Nat) (b : ByteArray) : List Nat := stepS ⟨L.getD 0 0, L.getD 1 0, L.getD 2 0, L.getD 3 0, L.getD 4 0, L.getD 5 0, L.getD 6 0, L.getD 7 0⟩ b
/-- the state behind n blocks of s -/
def foldB (x : List Nat) (s : ByteArray) : Nat → List Nat
  | 0 => x
  | n + 1 => stepL (foldB x s n) (s.extract (64 * n) (64 * n + 64))
def State (L : List Nat) : Prop := L.length = 8 ∧ words L
theorem stepL_state (L : List Nat) (b : ByteArray) : State (stepL L b) := ⟨stepS_len _ _, stepS_words _ _⟩
theorem startL_state : State startL := ⟨rfl, by unfold words startL; decide⟩
theorem foldB_state {x : List Nat} (hx : State x) (s : ByteArray) (n : Nat) : State (foldB x s n) := by
  cases n with
  | zero => exact hx
  | succ n => exact stepL_state _ _
theorem extract_left {s t : ByteArray} {i j : Nat} (h : j ≤ s.size) : (s ++ t).extract i j = s.extract i j := by
  rw [ByteArray.extract_append, show j - s.size = 0 by omega]
  have : t.extract (i - s.size) 0 = ByteArray.empty := ByteArray.extract_eq_empty_iff.2 (by simp)
  rw [this, ByteArray.append_empty]
theorem extract_clip (s : ByteArray) (i j : Nat) : s.extract i (min j s.size) = s.extract i j := by
  rcases Nat.le_total j s.size with h | h
  · rw [Nat.min_eq_left h]
  · rw [Nat.min_eq_right h]
    apply ByteArray.ext
    rw [ByteArray.data_extract, ByteArray.data_extract]
    apply Array.ext'
    rw [Array.toList_extract, Array.toList_extract]
    have hs : s.data.toList.length = s.size := by simp
    rw [List.extract_eq_take_drop, List.extract_eq_take_drop, List.take_of_length_le (by first | (simp; done) | (simp; omega)), List.take_of_length_le (by first | (simp; done) | (simp; omega))]
theorem foldB_left {x : List Nat} {s t : ByteArray} {n : Nat} (h : 64 * n ≤ s.size) : foldB x (s ++ t) n = foldB x s n := by
  induction n with
  | zero => rfl
  | succ n ih => rw [foldB, foldB, ih (by omega), extract_left (by omega)]
theorem foldB_add (x : List Nat) (s : ByteArray) (n m : Nat) : foldB x s (n + m) = foldB (foldB x s n) (s.extract (64 * n) s.size) m := by
  induction m with
  | zero => rfl
  | succ m ih =>
    rw [← Nat.add_assoc, foldB, foldB, ih, ByteArray.extract_extract, extract_clip]
    rw [show 64 * n + 64 * m = 64 * (n + m) by omega, show 64 * n + (64 * m + 64) = 64 * (n + m) + 64 by omega]
/-- how many bytes 0 stand behind a text of n bytes and byte 128 -/
def padZ (n : Nat) : Nat := (64 - (n + 9) % 64) % 64
def padL (n k : Nat) : List UInt8 := (128 :: List.replicate (padZ n) 0) ++ (List.range k).map fun i => UInt8.ofNat (8 * n / 2 ^ (56 - 8 * i) % 256)
def padB (n : Nat) : ByteArray := ⟨(padL n 8).toArray⟩
theorem padB_size (n : Nat) : (padB n).size = padZ n + 9 := by
  show (padL n 8).toArray.size = _
  simp [padL]
theorem pad_whole (n : Nat) : (n + (padB n).size) % 64 = 0 := by rw [padB_size, padZ]; omega
theorem pad_bounds (n : Nat) : 9 ≤ (padB n).size ∧ (padB n).size ≤ 72 := by rw [padB_size, padZ]; omega
/-- the digest -/
def stateS (s : ByteArray) : List Nat := foldB startL (s ++ padB s.size) ((s.size + (padB s.size).size) / 64)
def sumS (s : ByteArray) : ByteArray := joinW (stateS s) true
theorem stateS_state (s : ByteArray) : State (stateS s) := foldB_state startL_state _ _
theorem sumS_size (s : ByteArray) : (sumS s).size = 32 := by rw [sumS, joinW_size, (stateS_state s).1]
/-- the bytes of a number, in sixteens -/
def hexD (n : Nat) : UInt8 := if n < 10 then UInt8.ofNat (48 + n) else UInt8.ofNat (87 + n)
def hexL (l : List UInt8) : List UInt8 := l.flatMap fun c => [hexD (c.toNat / 16), hexD (c.toNat % 16)]
end Go.Proofs.YtbgohcedakpnbaaDoor
