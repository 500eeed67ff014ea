/- chapter 11, plain: rows of digests, ways up, what is told. -/
import Derived.Test.YtkaaicmadknjcaaDoorDigE
set_option linter.unusedVariables false
namespace Go.Proofs.YtkaaicmadknjcaaDoor
open Go.RowKit
theorem sumF_small {s : ByteArray} (h : s.size ≤ 1000000000) : sumF s = sumS s := by simp [sumF, h]
theorem sumF_size {s : ByteArray} (h : s.size ≤ 1000000000) : (sumF s).size = 32 := by rw [sumF_small h, sumS_size]
theorem sumF_le (s : ByteArray) : (sumF s).size ≤ 32 := by
  unfold sumF
  split
  · rw [sumS_size]; omega
  · simp
def leafT (s : ByteArray) : ByteArray := ⟨#[0]⟩ ++ s
def nodeT (a b : ByteArray) : ByteArray := ⟨#[1]⟩ ++ a ++ b
theorem leafT_size (s : ByteArray) : (leafT s).size = s.size + 1 := by unfold leafT; rw [ByteArray.size_append]; show 1 + s.size = _; omega
theorem nodeT_size (a b : ByteArray) : (nodeT a b).size = a.size + b.size + 1 := by unfold nodeT; rw [ByteArray.size_append, ByteArray.size_append]; show 1 + a.size + b.size = _; omega
def leafS (s : ByteArray) : ByteArray := sumF (leafT s)
def nodeS (a b : ByteArray) : ByteArray := sumF (nodeT a b)
/-- the row above a row -/
def upL : List ByteArray → List ByteArray
  | a :: b :: r => nodeS a b :: upL r
  | _ => []
/-- the row of height i -/
def lev (l : List ByteArray) : Nat → List ByteArray
  | 0 => l.map leafS
  | i + 1 => upL (lev l i)
def atB (L : List ByteArray) (k : Nat) : ByteArray := L.getD k ByteArray.empty
theorem upL_len : ∀ L : List ByteArray, (upL L).length = L.length / 2
  | [] => rfl
  | [_] => by simp [upL]
  | a :: b :: r => by
    simp only [upL, List.length_cons, upL_len r]
    omega
theorem upL_get : ∀ (L : List ByteArray) (j : Nat), 2 * j + 1 < L.length → (upL L)[j]? = some (nodeS (atB L (2 * j)) (atB L (2 * j + 1)))
  | [], j, h => by simp at h
  | [_], j, h => by simp at h
  | a :: b :: r, 0, h => by simp [upL, atB]
  | a :: b :: r, j + 1, h => by
    simp only [List.length_cons] at h
    have e : 2 * (j + 1) = 2 * j + 2 := by omega
    simp only [upL, List.getElem?_cons_succ]
    rw [upL_get r j (by omega), e]
    simp [atB]
theorem lev_len (l : List ByteArray) (i : Nat) : (lev l i).length = l.length / 2 ^ i := by
  induction i with
  | zero => simp [lev]
  | succ i ih => rw [lev, upL_len, ih, Nat.pow_succ, Nat.div_div_eq_div_mul]
theorem lev_pow {l : List ByteArray} {h i : Nat} (hl : l.length = 2 ^ h) (hi : i ≤ h) : (lev l i).length = 2 ^ (h - i) := by
  rw [lev_len, hl, Nat.pow_div hi (by omega)]
/-- what the digest at place j of the row of height h is the Sum of -/
def toldT (l : List ByteArray) : Nat → Nat → ByteArray
  | 0, j => leafT (atB l j)
  | h + 1, j => nodeT (atB (lev l h) (2 * j)) (atB (lev l h) (2 * j + 1))
theorem lev_get {l : List ByteArray} {h i j : Nat} (hl : l.length = 2 ^ h) (hi : i ≤ h) (hj : j < 2 ^ (h - i)) : (lev l i)[j]? = some (sumF (toldT l i j)) := by
  cases i with
  | zero =>
    have hj' : j < l.length := by rw [hl]; simpa using hj
    simp [lev, toldT, leafS, atB, hj']
  | succ i =>
    have hp : 2 ^ (h - i) = 2 ^ (h - (i + 1)) * 2 := by rw [← Nat.pow_succ]; congr 1; omega
    rw [lev, upL_get _ _ (by rw [lev_pow hl (by omega)]; omega)]
    rfl
theorem atB_lev {l : List ByteArray} {h i j : Nat} (hl : l.length = 2 ^ h) (hi : i ≤ h) (hj : j < 2 ^ (h - i)) : atB (lev l i) j = sumF (toldT l i j) := by
  unfold atB
  rw [List.getD_eq_getElem?_getD, lev_get hl hi hj]; rfl
theorem atB_of {L : List ByteArray} {k : Nat} {s : ByteArray} (h : L[k]? = some s) : atB L k = s := by
  unfold atB; rw [List.getD_eq_getElem?_getD, h]; rfl
theorem at_of_lt {L : List ByteArray} {k : Nat} (h : k < L.length) : L[k]? = some (atB L k) := by
  rw [List.getElem?_eq_getElem h]
  unfold atB
  simp [h]
/-- may a row of so many texts have a root -/
def mayB (n : Nat) : Bool := decide (1 ≤ n) && (decide (n ≤ 1024) && (n &&& (n - 1) == 0))
theorem mayB_all : ∀ n, n < 1025 → mayB n = true → n = 1 ∨ n = 2 ∨ n = 4 ∨ n = 8 ∨ n = 16 ∨ n = 32 ∨ n = 64 ∨ n = 128 ∨ n = 256 ∨ n = 512 ∨ n = 1024 := by decide +kernel
theorem mayB_pow {n : Nat} (h : mayB n = true) : ∃ k, k ≤ 10 ∧ n = 2 ^ k := by
  have hn : n < 1025 := by
    simp only [mayB, Bool.and_eq_true, decide_eq_true_eq] at h
    omega
  rcases mayB_all n hn h with h | h | h | h | h | h | h | h | h | h | h
  · exact ⟨0, by omega, h⟩
  · exact ⟨1, by omega, h⟩
  · exact ⟨2, by omega, h⟩
  · exact ⟨3, by omega, h⟩
  · exact ⟨4, by omega, h⟩
  · exact ⟨5, by omega, h⟩
  · exact ⟨6, by omega, h⟩
  · exact ⟨7, by omega, h⟩
  · exact ⟨8, by omega, h⟩
  · exact ⟨9, by omega, h⟩
  · exact ⟨10, by omega, h⟩
theorem mayB_of_pow : ∀ k, k < 11 → mayB (2 ^ k) = true := by decide +kernel
theorem mayB_far {n : Nat} (h : 1024 < n) : mayB n = false := by
  have : decide (n ≤ 1024) = false := by simp; omega
  simp [mayB, this]
/-- the path of a place -/
def sideB (l : List ByteArray) (i k : Nat) : ByteArray := atB (lev l k) (i / 2 ^ k ^^^ 1)
def pathB (l : List ByteArray) (i h : Nat) : List ByteArray := (List.range h).map (sideB l i)
theorem pathB_len (l : List ByteArray) (i h : Nat) : (pathB l i h).length = h := by simp [pathB]
theorem pathB_succ (l : List ByteArray) (i h : Nat) : pathB l i h ++ [sideB l i h] = pathB l i (h + 1) := by simp [pathB, List.range_succ]
theorem pathB_at (l : List ByteArray) {i h k : Nat} (hk : k < h) : atB (pathB l i h) k = sideB l i k := by
  unfold atB pathB
  simp [hk]
/-- the text of step k of the way up from s at place i beside path -/
def wayB (i : Nat) (s : ByteArray) (path : List ByteArray) : Nat → ByteArray
  | 0 => leafT s
  | k + 1 => if i / 2 ^ k % 2 = 1 then nodeT (atB path k) (sumF (wayB i s path k)) else nodeT (sumF (wayB i s path k)) (atB path k)
def waysB (i : Nat) (s : ByteArray) (path : List ByteArray) (k : Nat) : List ByteArray := (List.range k).map (wayB i s path)
theorem waysB_len (i : Nat) (s : ByteArray) (path : List ByteArray) (k : Nat) : (waysB i s path k).length = k := by simp [waysB]
theorem waysB_succ (i : Nat) (s : ByteArray) (path : List ByteArray) (k : Nat) : waysB i s path k ++ [wayB i s path k] = waysB i s path (k + 1) := by simp [waysB, List.range_succ]
theorem waysB_at (i : Nat) (s : ByteArray) (path : List ByteArray) {k n : Nat} (h : k < n) : (waysB i s path n)[k]? = some (wayB i s path k) := by simp [waysB, h]
theorem wayB_size (i : Nat) (s : ByteArray) (path : List ByteArray) (hp : ∀ p ∈ path, p.size ≤ 200) (k : Nat) : (wayB i s path k).size ≤ s.size + 233 := by
  have hat : (atB path k).size ≤ 200 := by
    unfold atB
    rw [List.getD_eq_getElem?_getD]
    cases h : path[k]? with
    | none => simp
    | some p => exact hp p (List.mem_of_getElem? h)
  cases k with
  | zero => rw [wayB, leafT_size]; omega
  | succ k =>
    have hat : (atB path k).size ≤ 200 := by
      unfold atB
      rw [List.getD_eq_getElem?_getD]
      cases h : path[k]? with
      | none => simp
      | some p => exact hp p (List.mem_of_getElem? h)
    have h1 := sumF_le (wayB i s path k)
    rw [wayB]
    split <;> rw [nodeT_size] <;> omega
theorem xor_one (j : Nat) : (j ^^^ 1) = if j % 2 = 1 then j - 1 else j + 1 := by
  have h1 : (j ^^^ 1) % 2 = (j + 1) % 2 := by
    have t := Nat.xor_mod_two_pow (a := j) (b := 1) (n := 1)
    rw [show 2 ^ 1 = 2 from rfl] at t
    rcases Nat.mod_two_eq_zero_or_one j with h | h
    · rw [h, show (0 ^^^ 1 % 2) = 1 by decide] at t; omega
    · rw [h, show (1 ^^^ 1 % 2) = 0 by decide] at t; omega
  have h2 : (j ^^^ 1) / 2 = j / 2 := by
    have := Nat.xor_div_two_pow (a := j) (b := 1) (n := 1)
    simpa using this
  split <;> omega
/-- the way up from the text that is there, by its path, is what is told -/
theorem way_told {l : List ByteArray} {h i : Nat} (hl : l.length = 2 ^ h) (hi : i < l.length) : ∀ k, k ≤ h → wayB i (atB l i) (pathB l i h) k = toldT l k (i / 2 ^ k) := by
  intro k
  induction k with
  | zero => intro _; simp [wayB, toldT]
  | succ k ih =>
    intro hk
    have hp : 2 ^ (h - k) = 2 ^ (h - (k + 1)) * 2 := by rw [← Nat.pow_succ]; congr 1; omega
    have hq : 2 ^ h = 2 ^ (h - k) * 2 ^ k := by rw [← Nat.pow_add]; congr 1; omega
    have hlt : i / 2 ^ k < 2 ^ (h - k) := by rw [Nat.div_lt_iff_lt_mul (Nat.pos_of_ne_zero (by simp)), ← hq]; omega
    have hd : i / 2 ^ (k + 1) = i / 2 ^ k / 2 := by rw [Nat.pow_succ, Nat.div_div_eq_div_mul]
    rw [wayB, ih (by omega), ← atB_lev hl (by omega) hlt, pathB_at l (by omega), sideB, xor_one, toldT, hd]
    generalize i / 2 ^ k = j at hlt ⊢
    split
    · have e1 : 2 * (j / 2) = j - 1 := by omega
      have e2 : 2 * (j / 2) + 1 = j := by omega
      rw [e2, e1]
    · have e1 : 2 * (j / 2) = j := by omega
      rw [e1]
/-- two node's texts of digests -/
theorem nodeT_inj {a b c d : ByteArray} (ha : a.size = c.size) (h : nodeT a b = nodeT c d) : a = c ∧ b = d := by
  have h1 : (a.data ++ b.data) = (c.data ++ d.data) := by
    have := congrArg ByteArray.data h
    unfold nodeT at this
    simp only [ByteArray.data_append, Array.append_assoc] at this
    exact Array.append_inj_right this rfl
  have h2 := Array.append_inj h1 ha
  exact ⟨ByteArray.ext h2.1, ByteArray.ext h2.2⟩
theorem leafT_inj {a b : ByteArray} (h : leafT a = leafT b) : a = b := by
  have := congrArg ByteArray.data h
  unfold leafT at this
  simp only [ByteArray.data_append] at this
  exact ByteArray.ext (Array.append_inj_right this rfl)
end Go.Proofs.YtkaaicmadknjcaaDoor
/- chapter 11, plain: the rows together, what is told, found and traced. -/
namespace Go.Proofs.YtkaaicmadknjcaaDoor
open Go.RowKit
def levs (l : List ByteArray) (h : Nat) : List (List ByteArray) := (List.range (h + 1)).map (lev l)
theorem levs_len (l : List ByteArray) (h : Nat) : (levs l h).length = h + 1 := by simp [levs]
theorem levs_zero (l : List ByteArray) : levs l 0 = [l.map leafS] := rfl
theorem levs_succ (l : List ByteArray) (h : Nat) : levs l h ++ [lev l (h + 1)] = levs l (h + 1) := by simp [levs, List.range_succ]
theorem levs_at (l : List ByteArray) {h k : Nat} (hk : k ≤ h) : (levs l h)[k]? = some (lev l k) := by
  have : k < h + 1 := by omega
  simp [levs, this]
theorem levs_front (l : List ByteArray) (h : Nat) : (List.range h).map (lev l) ++ [lev l h] = levs l h := by simp [levs, List.range_succ]
/-- the texts of a row are digests -/
theorem lev_small {l : List ByteArray} {i : Nat} : ∀ s ∈ lev l i, s.size ≤ 32 := by
  have up : ∀ L : List ByteArray, ∀ s ∈ upL L, s.size ≤ 32 := by
    intro L
    induction L using upL.induct with
    | case1 a b r ih =>
      intro s hs
      simp only [upL, List.mem_cons] at hs
      rcases hs with rfl | hs
      · exact sumF_le _
      · exact ih s hs
    | case2 L h =>
      intro s hs
      unfold upL at hs
      split at hs
      · exact absurd rfl (h _ _ _)
      · cases hs
  cases i with
  | zero =>
    intro s hs
    simp only [lev, List.mem_map] at hs
    obtain ⟨a, _, rfl⟩ := hs
    exact sumF_le _
  | succ i => exact up _
theorem atB_small {L : List ByteArray} {n : Nat} (h : ∀ s ∈ L, s.size ≤ n) (k : Nat) : (atB L k).size ≤ n := by
  unfold atB
  rw [List.getD_eq_getElem?_getD]
  cases hk : L[k]? with
  | none => simp
  | some p => exact h p (List.mem_of_getElem? hk)
/-- how high is a row of so many texts -/
def hgt (n : Nat) : Nat := Nat.log2 n
theorem hgt_pow (k : Nat) : hgt (2 ^ k) = k := Nat.log2_two_pow
theorem hgt_may {n : Nat} (h : mayB n = true) : n = 2 ^ hgt n ∧ hgt n ≤ 10 := by
  obtain ⟨k, hk, rfl⟩ := mayB_pow h
  rw [hgt_pow]
  exact ⟨rfl, hk⟩
def rootB (l : List ByteArray) : ByteArray := atB (lev l (hgt l.length)) 0
/-- Root: the digest, and the errno -/
def rootV (l : List ByteArray) : ByteArray := if mayB l.length = true then rootB l else ByteArray.empty
def rootE (l : List ByteArray) : Int := if mayB l.length = true then 0 else 1
def hasI (n : Nat) (i : Int) : Bool := decide (0 ≤ i) && decide (i < (n : Int))
/-- Path -/
def pathOk (l : List ByteArray) (i : Int) : Bool := mayB l.length && hasI l.length i
def pathV (l : List ByteArray) (i : Int) : List ByteArray := if pathOk l i = true then pathB l i.toNat (hgt l.length) else []
def pathE (l : List ByteArray) (i : Int) : Int := if pathOk l i = true then 0 else 1
/-- Climb -/
def climbOk (i : Int) (path : List ByteArray) : Bool := decide (path.length ≤ 10) && (hasI (2 ^ path.length) i && path.all (fun p => p.size == 32))
def climbV (i : Int) (s : ByteArray) (path : List ByteArray) : ByteArray := if climbOk i path = true then sumF (wayB i.toNat s path path.length) else ByteArray.empty
def climbE (i : Int) (path : List ByteArray) : Int := if climbOk i path = true then 0 else 1
def checkV (root : ByteArray) (i : Int) (s : ByteArray) (path : List ByteArray) : Bool := climbOk i path && decide (climbV i s path = root)
/-- the digests' places, from the root down: k rows of them -/
def dn (h : Nat) : Nat → List (Nat × Nat)
  | 0 => []
  | k + 1 => dn h k ++ (List.range (2 ^ k)).map fun j => (h - k, j)
def downL (h : Nat) : List (Nat × Nat) := dn h (h + 1)
def unlike (l m : List ByteArray) (p : Nat × Nat) : Bool := decide (toldT l p.1 p.2 ≠ toldT m p.1 p.2)
structure Two where
  (a b : ByteArray) (ok : Bool)
def noTwo : Two := ⟨ByteArray.empty, ByteArray.empty, false⟩
def findTwo (l m : List ByteArray) (P : List (Nat × Nat)) : Two :=
  match P.find? (unlike l m) with
  | some p => ⟨toldT l p.1 p.2, toldT m p.1 p.2, true⟩
  | none => noTwo
def collOk (l m : List ByteArray) : Bool := decide (l.length = m.length) && (mayB l.length && (decide (l ≠ m) && decide (rootB l = rootB m)))
def collF (l m : List ByteArray) : Two := if collOk l m = true then findTwo l m (downL (hgt l.length)) else noTwo
/-- Trace -/
def stepUnlike (l : List ByteArray) (i : Nat) (s : ByteArray) (path : List ByteArray) (k : Nat) : Bool := decide (toldT l k (i / 2 ^ k) ≠ wayB i s path k)
def traceOk (l : List ByteArray) (i : Int) (s : ByteArray) (path : List ByteArray) : Bool :=
  mayB l.length && (hasI l.length i && (decide (path.length ≤ 10) && (decide (2 ^ path.length = l.length) && (decide (s ≠ atB l i.toNat) && checkV (rootB l) i s path))))
def findStep (l : List ByteArray) (i : Nat) (s : ByteArray) (path : List ByteArray) (K : List Nat) : Two :=
  match K.find? (stepUnlike l i s path) with
  | some k => ⟨toldT l k (i / 2 ^ k), wayB i s path k, true⟩
  | none => noTwo
def traceF (l : List ByteArray) (i : Int) (s : ByteArray) (path : List ByteArray) : Two :=
  if traceOk l i s path = true then findStep l i.toNat s path (List.range (path.length + 1)).reverse else noTwo
theorem size_of_lev {l : List ByteArray} {h k j : Nat} (hl : l.length = 2 ^ h) (hk : k ≤ h) (hj : j < 2 ^ (h - k)) : (atB (lev l k) j).size ≤ 32 := by
  rw [atB_lev hl hk hj]; exact sumF_le _
theorem nodeT_32 {a b c d : ByteArray} (ha : a.size ≤ 32) (hb : b.size ≤ 32) (hc : c.size = 32) (hd : d.size = 32) (h : nodeT a b = nodeT c d) : a = c ∧ b = d := by
  have hs := congrArg ByteArray.size h
  rw [nodeT_size, nodeT_size] at hs
  exact nodeT_inj (by omega) h
theorem half_lt {i h k : Nat} (hi : i < 2 ^ h) (hk : k < h) : i / 2 ^ k < 2 ^ (h - k) ∧ i / 2 ^ (k + 1) = i / 2 ^ k / 2 ∧ 2 ^ (h - k) = 2 ^ (h - (k + 1)) * 2 := by
  have hq : 2 ^ h = 2 ^ (h - k) * 2 ^ k := by rw [← Nat.pow_add]; congr 1; omega
  refine ⟨?_, ?_, ?_⟩
  · rw [Nat.div_lt_iff_lt_mul (Nat.pos_of_ne_zero (by simp)), ← hq]; exact hi
  · rw [Nat.pow_succ, Nat.div_div_eq_div_mul]
  · rw [← Nat.pow_succ]; congr 1; omega
theorem wayB_small {i : Nat} {s : ByteArray} {path : List ByteArray} (hp : ∀ p ∈ path, p.size = 32) (hs : s.size ≤ 1000000) (k : Nat) : (sumF (wayB i s path k)).size = 32 := by
  have := wayB_size i s path (fun p h => by have := hp p h; omega) k
  exact sumF_size (by omega)
theorem step_sum {l path : List ByteArray} {i h k : Nat} {s : ByteArray} (hl : l.length = 2 ^ h) (hi : i < l.length) (hp : path.length = h) (h32 : ∀ p ∈ path, p.size = 32) (hs : s.size ≤ 1000000) (hk : k < h)
    (he : toldT l (k + 1) (i / 2 ^ (k + 1)) = wayB i s path (k + 1)) : sumF (toldT l k (i / 2 ^ k)) = sumF (wayB i s path k) := by
  obtain ⟨h1, h2, h3⟩ := half_lt (by rw [← hl]; exact hi) hk
  rw [toldT, wayB, h2] at he
  have hW := wayB_small (i := i) h32 hs k
  have hP : (atB path k).size = 32 := by
    have hlt : k < path.length := by omega
    exact h32 _ (List.mem_of_getElem? (at_of_lt hlt))
  generalize i / 2 ^ k = j at *
  have ha := size_of_lev (j := 2 * (j / 2)) hl (Nat.le_of_lt hk) (by omega)
  have hb := size_of_lev (j := 2 * (j / 2) + 1) hl (Nat.le_of_lt hk) (by omega)
  split at he
  · have := (nodeT_32 ha hb hP hW he).2
    rw [show 2 * (j / 2) + 1 = j by omega, atB_lev hl (Nat.le_of_lt hk) h1] at this
    exact this
  · have := (nodeT_32 ha hb hW hP he).1
    rw [show 2 * (j / 2) = j by omega, atB_lev hl (Nat.le_of_lt hk) h1] at this
    exact this
theorem find_rev (p : Nat → Bool) : ∀ n k, (List.range n).reverse.find? p = some k → k < n ∧ p k = true ∧ ∀ j, k < j → j < n → p j = false := by
  intro n
  induction n with
  | zero => intro k h; simp at h
  | succ n ih =>
    intro k h
    rw [List.range_succ, List.reverse_append] at h
    simp only [List.reverse_cons, List.reverse_nil, List.nil_append, List.cons_append, List.find?_cons] at h
    cases hn : p n with
    | true =>
      rw [hn] at h
      simp only [Option.some.injEq] at h
      subst h
      exact ⟨by omega, hn, fun j h1 h2 => by omega⟩
    | false =>
      rw [hn] at h
      obtain ⟨a, b, c⟩ := ih k h
      refine ⟨by omega, b, fun j h1 h2 => ?_⟩
      by_cases e : j = n
      · rw [e]; exact hn
      · exact c j h1 (by omega)
theorem trace_found {l path : List ByteArray} {i : Int} {s : ByteArray} (h : traceOk l i s path = true) (hs : s.size ≤ 1000000) : ∃ k, traceF l i s path = ⟨toldT l k (i.toNat / 2 ^ k), wayB i.toNat s path k, true⟩ ∧ toldT l k (i.toNat / 2 ^ k) ≠ wayB i.toNat s path k ∧ sumF (toldT l k (i.toNat / 2 ^ k)) = sumF (wayB i.toNat s path k) := by
  have hT := h
  simp only [traceOk, Bool.and_eq_true, decide_eq_true_eq, hasI] at h
  obtain ⟨hm, ⟨h0, h1⟩, _, hp, hne, hc⟩ := h
  simp only [checkV, Bool.and_eq_true, decide_eq_true_eq] at hc
  obtain ⟨hco, hcr⟩ := hc
  rw [climbV, if_pos hco] at hcr
  simp only [climbOk, Bool.and_eq_true, decide_eq_true_eq, List.all_eq_true, beq_iff_eq] at hco
  have h32 := hco.2.2
  obtain ⟨n, rfl⟩ : ∃ n : Nat, i = n := ⟨i.toNat, by omega⟩
  simp only [Int.toNat_natCast] at hne hcr
  have hn : n < l.length := by omega
  obtain ⟨H, hH⟩ : ∃ H, path.length = H := ⟨_, rfl⟩
  rw [hH] at hp hcr
  have hl : l.length = 2 ^ H := hp.symm
  have hg : hgt l.length = H := by rw [hl, hgt_pow]
  unfold traceF
  rw [if_pos hT]
  simp only [Int.toNat_natCast, findStep, hH]
  have h00 : stepUnlike l n s path 0 = true := by
    simp only [stepUnlike, toldT, wayB, decide_eq_true_eq, Nat.pow_zero, Nat.div_one]
    exact fun e => hne (leafT_inj e).symm
  cases hf : ((List.range (H + 1)).reverse).find? (stepUnlike l n s path) with
  | none =>
    rw [List.find?_eq_none] at hf
    exact absurd h00 (hf 0 (by simp))
  | some k =>
    obtain ⟨hk, hu, hb⟩ := find_rev _ _ _ hf
    refine ⟨k, rfl, by simpa [stepUnlike] using hu, ?_⟩
    by_cases e : k = H
    · subst e
      have hz : n / 2 ^ k = 0 := Nat.div_eq_of_lt (by omega)
      rw [hcr, hz, rootB, hg, atB_lev hl (Nat.le_refl _) (by simp)]
    · have := hb (k + 1) (by omega) (by omega)
      simp only [stepUnlike, decide_eq_false_iff_not, Decidable.not_not] at this
      exact step_sum hl hn hH h32 hs (by omega) this
theorem toldT_size {l : List ByteArray} {N : Nat} (h : ∀ s ∈ l, s.size ≤ N) (k j : Nat) : (toldT l k j).size ≤ N + 100 := by
  cases k with
  | zero => rw [toldT, leafT_size]; have := atB_small h j; omega
  | succ k =>
    rw [toldT, nodeT_size]
    have h1 := atB_small (fun s hs => @lev_small l k s hs) (2 * j)
    have h2 := atB_small (fun s hs => @lev_small l k s hs) (2 * j + 1)
    omega
theorem dn_prefix (h : Nat) {k m : Nat} (hk : k ≤ m) : dn h k <+: dn h m := by
  induction m with
  | zero => have : k = 0 := by omega
            subst this; exact List.prefix_refl _
  | succ m ih =>
    by_cases e : k = m + 1
    · subst e; exact List.prefix_refl _
    · exact (ih (by omega)).trans (List.prefix_append _ _)
/-- k whole rows, and j places of the next -/
def dnAt (h k j : Nat) : List (Nat × Nat) := dn h k ++ (List.range j).map fun y => (h - k, y)
theorem dnAt_zero (h k : Nat) : dnAt h k 0 = dn h k := by simp [dnAt]
theorem dnAt_full (h k : Nat) : dnAt h k (2 ^ k) = dn h (k + 1) := rfl
theorem dnAt_succ (h k j : Nat) : dnAt h k j ++ [(h - k, j)] = dnAt h k (j + 1) := by simp [dnAt, List.range_succ]
theorem dnAt_prefix (h : Nat) {k j : Nat} (hk : k ≤ h) (hj : j ≤ 2 ^ k) : dnAt h k j <+: downL h := by
  refine List.IsPrefix.trans ?_ (dn_prefix h (by omega : k + 1 ≤ h + 1))
  rw [← dnAt_full]
  unfold dnAt
  have : (List.range j).map (fun y => (h - k, y)) <+: (List.range (2 ^ k)).map (fun y => (h - k, y)) := by
    have h1 : List.range j = (List.range (2 ^ k)).take j := by
      rw [List.take_range, Nat.min_eq_left hj]
    rw [h1, List.map_take]
    exact List.take_prefix _ _
  exact (List.prefix_append_right_inj _).2 this
theorem dnAt_lt (h : Nat) {k j : Nat} (hk : k ≤ h) (hj : j < 2 ^ k) : (dnAt h k j).length < (downL h).length := by
  have h1 := (dnAt_prefix h hk (by omega : j + 1 ≤ 2 ^ k)).length_le
  rw [← dnAt_succ, List.length_append] at h1
  simp only [List.length_cons, List.length_nil] at h1
  omega
end Go.Proofs.YtkaaicmadknjcaaDoor
