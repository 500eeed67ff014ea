/- tree: leafText, nodeText, Leaf, Node, mayRoot. -/
import Derived.Test.YtpkomloblhbkiaaGreatDoorItoa
import Derived.Test.YtpkomloblhbkiaaGreatDoorWordA
import Derived.Test.YtpkomloblhbkiaaGreatDoorORow
import Derived.Test.YtpkomloblhbkiaaGreatDoorBytes
import Derived.Test.YtpkomloblhbkiaaGreatDoorRowsOpen
import Derived.Deep.RegionHeld3
set_option linter.unusedVariables false
set_option linter.unusedSimpArgs false
/- chapter 11, plain: rows of digests, ways up, what is told. -/
namespace Go.Proofs.YtpkomloblhbkiaaGreatDoor
open Go.RowKit
theorem sumF_small {s : ByteArray} (h : s.size ≤ 1000000000) : sumF s = sumS s := by simp [sumF, h]
theorem sumF_size {s : ByteArray} (h : s.size ≤ 1000000000) : (sumF s).size = 32 := by rw [sumF_small h, sumS_size]
theorem sumF_le (s : ByteArray) : (sumF s).size ≤ 32 := by
  unfold sumF
  split
  · rw [sumS_size]; omega
  · simp
def leafT (s : ByteArray) : ByteArray := ⟨#[0]⟩ ++ s
def nodeT (a b : ByteArray) : ByteArray := ⟨#[1]⟩ ++ a ++ b
theorem leafT_size (s : ByteArray) : (leafT s).size = s.size + 1 := by unfold leafT; rw [ByteArray.size_append]; show 1 + s.size = _; omega
theorem nodeT_size (a b : ByteArray) : (nodeT a b).size = a.size + b.size + 1 := by unfold nodeT; rw [ByteArray.size_append, ByteArray.size_append]; show 1 + a.size + b.size = _; omega
def leafS (s : ByteArray) : ByteArray := sumF (leafT s)
def nodeS (a b : ByteArray) : ByteArray := sumF (nodeT a b)
/-- the row above a row -/
def upL : List ByteArray → List ByteArray
  | a :: b :: r => nodeS a b :: upL r
  | _ => []
/-- the row of height i -/
def lev (l : List ByteArray) : Nat → List ByteArray
  | 0 => l.map leafS
  | i + 1 => upL (lev l i)
def atB (L : List ByteArray) (k : Nat) : ByteArray := L.getD k ByteArray.empty
theorem upL_len : ∀ L : List ByteArray, (upL L).length = L.length / 2
  | [] => rfl
  | [_] => by simp [upL]
  | a :: b :: r => by
    simp only [upL, List.length_cons, upL_len r]
    omega
theorem upL_get : ∀ (L : List ByteArray) (j : Nat), 2 * j + 1 < L.length → (upL L)[j]? = some (nodeS (atB L (2 * j)) (atB L (2 * j + 1)))
  | [], j, h => by simp at h
  | [_], j, h => by simp at h
  | a :: b :: r, 0, h => by simp [upL, atB]
  | a :: b :: r, j + 1, h => by
    simp only [List.length_cons] at h
    have e : 2 * (j + 1) = 2 * j + 2 := by omega
    simp only [upL, List.getElem?_cons_succ]
    rw [upL_get r j (by omega), e]
    simp [atB]
theorem lev_len (l : List ByteArray) (i : Nat) : (lev l i).length = l.length / 2 ^ i := by
  induction i with
  | zero => simp [lev]
  | succ i ih => rw [lev, upL_len, ih, Nat.pow_succ, Nat.div_div_eq_div_mul]
theorem lev_pow {l : List ByteArray} {h i : Nat} (hl : l.length = 2 ^ h) (hi : i ≤ h) : (lev l i).length = 2 ^ (h - i) := by
  rw [lev_len, hl, Nat.pow_div hi (by omega)]
/-- what the digest at place j of the row of height h is the Sum of -/
def toldT (l : List ByteArray) : Nat → Nat → ByteArray
  | 0, j => leafT (atB l j)
  | h + 1, j => nodeT (atB (lev l h) (2 * j)) (atB (lev l h) (2 * j + 1))
theorem lev_get {l : List ByteArray} {h i j : Nat} (hl : l.length = 2 ^ h) (hi : i ≤ h) (hj : j < 2 ^ (h - i)) : (lev l i)[j]? = some (sumF (toldT l i j)) := by
  cases i with
  | zero =>
    have hj' : j < l.length := by rw [hl]; simpa using hj
    simp [lev, toldT, leafS, atB, hj']
  | succ i =>
    have hp : 2 ^ (h - i) = 2 ^ (h - (i + 1)) * 2 := by rw [← Nat.pow_succ]; congr 1; omega
    rw [lev, upL_get _ _ (by rw [lev_pow hl (by omega)]; omega)]
    rfl
theorem atB_lev {l : List ByteArray} {h i j : Nat} (hl : l.length = 2 ^ h) (hi : i ≤ h) (hj : j < 2 ^ (h - i)) : atB (lev l i) j = sumF (toldT l i j) := by
  unfold atB
  rw [List.getD_eq_getElem?_getD, lev_get hl hi hj]; rfl
theorem atB_of {L : List ByteArray} {k : Nat} {s : ByteArray} (h : L[k]? = some s) : atB L k = s := by
  unfold atB; rw [List.getD_eq_getElem?_getD, h]; rfl
theorem at_of_lt {L : List ByteArray} {k : Nat} (h : k < L.length) : L[k]? = some (atB L k) := by
  rw [List.getElem?_eq_getElem h]
  unfold atB
  simp [h]
/-- may a row of so many texts have a root -/
def mayB (n : Nat) : Bool := decide (1 ≤ n) && (decide (n ≤ 1024) && (n &&& (n - 1) == 0))
theorem mayB_all : ∀ n, n < 1025 → mayB n = true → n = 1 ∨ n = 2 ∨ n = 4 ∨ n = 8 ∨ n = 16 ∨ n = 32 ∨ n = 64 ∨ n = 128 ∨ n = 256 ∨ n = 512 ∨ n = 1024 := by decide +kernel
theorem mayB_pow {n : Nat} (h : mayB n = true) : ∃ k, k ≤ 10 ∧ n = 2 ^ k := by
  have hn : n < 1025 := by
    simp only [mayB, Bool.and_eq_true, decide_eq_true_eq] at h
    omega
  rcases mayB_all n hn h with h | h | h | h | h | h | h | h | h | h | h
  · exact ⟨0, by omega, h⟩
  · exact ⟨1, by omega, h⟩
  · exact ⟨2, by omega, h⟩
  · exact ⟨3, by omega, h⟩
  · exact ⟨4, by omega, h⟩
  · exact ⟨5, by omega, h⟩
  · exact ⟨6, by omega, h⟩
  · exact ⟨7, by omega, h⟩
  · exact ⟨8, by omega, h⟩
  · exact ⟨9, by omega, h⟩
  · exact ⟨10, by omega, h⟩
theorem mayB_far {n : Nat} (h : 1024 < n) : mayB n = false := by
  have : decide (n ≤ 1024) = false := by simp; omega
  simp [mayB, this]
/-- two node's texts of digests -/
theorem nodeT_inj {a b c d : ByteArray} (ha : a.size = c.size) (h : nodeT a b = nodeT c d) : a = c ∧ b = d := by
  have h1 : (a.data ++ b.data) = (c.data ++ d.data) := by
    have := congrArg ByteArray.data h
    unfold nodeT at this
    simp only [ByteArray.data_append, Array.append_assoc] at this
    exact Array.append_inj_right this rfl
  have h2 := Array.append_inj h1 ha
  exact ⟨ByteArray.ext h2.1, ByteArray.ext h2.2⟩
theorem leafT_inj {a b : ByteArray} (h : leafT a = leafT b) : a = b := by
  have := congrArg ByteArray.data h
  unfold leafT at this
  simp only [ByteArray.data_append] at this
  exact ByteArray.ext (Array.append_inj_right this rfl)
end Go.Proofs.YtpkomloblhbkiaaGreatDoor
/- chapter 11, plain: the rows together, what is told, found and traced. -/
namespace Go.Proofs.YtpkomloblhbkiaaGreatDoor
open Go.RowKit
def levs (l : List ByteArray) (h : Nat) : List (List ByteArray) := (List.range (h + 1)).map (lev l)
theorem levs_len (l : List ByteArray) (h : Nat) : (levs l h).length = h + 1 := by simp [levs]
theorem levs_zero (l : List ByteArray) : levs l 0 = [l.map leafS] := rfl
theorem levs_succ (l : List ByteArray) (h : Nat) : levs l h ++ [lev l (h + 1)] = levs l (h + 1) := by simp [levs, List.range_succ]
theorem levs_at (l : List ByteArray) {h k : Nat} (hk : k ≤ h) : (levs l h)[k]? = some (lev l k) := by
  have : k < h + 1 := by omega
  simp [levs, this]
theorem levs_front (l : List ByteArray) (h : Nat) : (List.range h).map (lev l) ++ [lev l h] = levs l h := by simp [levs, List.range_succ]
/-- the texts of a row are digests -/
theorem lev_small {l : List ByteArray} {i : Nat} : ∀ s ∈ lev l i, s.size ≤ 32 := by
  have up : ∀ L : List ByteArray, ∀ s ∈ upL L, s.size ≤ 32 := by
    intro L
    induction L using upL.induct with
    | case1 a b r ih =>
      intro s hs
      simp only [upL, List.mem_cons] at hs
      rcases hs with rfl | hs
      · exact sumF_le _
      · exact ih s hs
    | case2 L h =>
      intro s hs
      unfold upL at hs
      split at hs
      · exact absurd rfl (h _ _ _)
      · cases hs
  cases i with
  | zero =>
    intro s hs
    simp only [lev, List.mem_map] at hs
    obtain ⟨a, _, rfl⟩ := hs
    exact sumF_le _
  | succ i => exact up _
theorem atB_small {L : List ByteArray} {n : Nat} (h : ∀ s ∈ L, s.size ≤ n) (k : Nat) : (atB L k).size ≤ n := by
  unfold atB
  rw [List.getD_eq_getElem?_getD]
  cases hk : L[k]? with
  | none => simp
  | some p => exact h p (List.mem_of_getElem? hk)
/-- how high is a row of so many texts -/
def hgt (n : Nat) : Nat := Nat.log2 n
theorem hgt_pow (k : Nat) : hgt (2 ^ k) = k := Nat.log2_two_pow
theorem hgt_may {n : Nat} (h : mayB n = true) : n = 2 ^ hgt n ∧ hgt n ≤ 10 := by
  obtain ⟨k, hk, rfl⟩ := mayB_pow h
  rw [hgt_pow]
  exact ⟨rfl, hk⟩
def rootB (l : List ByteArray) : ByteArray := atB (lev l (hgt l.length)) 0
/-- Root: the digest, and the errno -/
def rootV (l : List ByteArray) : ByteArray := if mayB l.length = true then rootB l else ByteArray.empty
def rootE (l : List ByteArray) : Int := if mayB l.length = true then 0 else 1
def hasI (n : Nat) (i : Int) : Bool := decide (0 ≤ i) && decide (i < (n : Int))
/-- the digests' places, from the root down: k rows of them -/
def dn (h : Nat) : Nat → List (Nat × Nat)
  | 0 => []
  | k + 1 => dn h k ++ (List.range (2 ^ k)).map fun j => (h - k, j)
def downL (h : Nat) : List (Nat × Nat) := dn h (h + 1)
def unlike (l m : List ByteArray) (p : Nat × Nat) : Bool := decide (toldT l p.1 p.2 ≠ toldT m p.1 p.2)
structure Two where
  (a b : ByteArray) (ok : Bool)
def noTwo : Two := ⟨ByteArray.empty, ByteArray.empty, false⟩
def findTwo (l m : List ByteArray) (P : List (Nat × Nat)) : Two :=
  match P.find? (unlike l m) with
  | some p => ⟨toldT l p.1 p.2, toldT m p.1 p.2, true⟩
  | none => noTwo
def collOk (l m : List ByteArray) : Bool := decide (l.length = m.length) && (mayB l.length && (decide (l ≠ m) && decide (rootB l = rootB m)))
def collF (l m : List ByteArray) : Two := if collOk l m = true then findTwo l m (downL (hgt l.length)) else noTwo
theorem dn_prefix (h : Nat) {k m : Nat} (hk : k ≤ m) : dn h k <+: dn h m := by
  induction m with
  | zero => have : k = 0 := by omega
            subst this; exact List.prefix_refl _
  | succ m ih =>
    by_cases e : k = m + 1
    · subst e; exact List.prefix_refl _
    · exact (ih (by omega)).trans (List.prefix_append _ _)
/-- k whole rows, and j places of the next -/
def dnAt (h k j : Nat) : List (Nat × Nat) := dn h k ++ (List.range j).map fun y => (h - k, y)
theorem dnAt_zero (h k : Nat) : dnAt h k 0 = dn h k := by simp [dnAt]
theorem dnAt_full (h k : Nat) : dnAt h k (2 ^ k) = dn h (k + 1) := rfl
theorem dnAt_succ (h k j : Nat) : dnAt h k j ++ [(h - k, j)] = dnAt h k (j + 1) := by simp [dnAt, List.range_succ]
theorem dnAt_prefix (h : Nat) {k j : Nat} (hk : k ≤ h) (hj : j ≤ 2 ^ k) : dnAt h k j <+: downL h := by
  refine List.IsPrefix.trans ?_ (dn_prefix h (by omega : k + 1 ≤ h + 1))
  rw [← dnAt_full]
  unfold dnAt
  have : (List.range j).map (fun y => (h - k, y)) <+: (List.range (2 ^ k)).map (fun y => (h - k, y)) := by
    have h1 : List.range j = (List.range (2 ^ k)).take j := by
      rw [List.take_range, Nat.min_eq_left hj]
    rw [h1, List.map_take]
    exact List.take_prefix _ _
  exact (List.prefix_append_right_inj _).2 this
theorem dnAt_lt (h : Nat) {k j : Nat} (hk : k ≤ h) (hj : j < 2 ^ k) : (dnAt h k j).length < (downL h).length := by
  have h1 := (dnAt_prefix h hk (by omega : j + 1 ≤ 2 ^ k)).length_le
  rw [← dnAt_succ, List.length_append] at h1
  simp only [List.length_cons, List.length_nil] at h1
  omega
end Go.Proofs.YtpkomloblhbkiaaGreatDoor
/- rows of texts: append; keyholeref01.Texts, Own. -/
namespace Go.Proofs.YtpkomloblhbkiaaGreatDoor
open Go.RowKit
theorem encS_one (s : ByteArray) : ∀ u ∈ encS s, u.oneCell' = true := by intro u hu; simp [encS] at hu; subst hu; rfl
theorem str_info3 : (Tryz.prog.info? 9).map (fun i => (i.zero, i.size, i.bytes)) = some (some (.string ByteArray.empty), 1, 16) := by kernel_rfl
def SRow (w : World) (base : Nat) (v : Value) (L : List ByteArray) : Prop := ORow 9 encS 1 w base v L
section
variable {w w' : World} {base : Nat} {v : Value} {L : List ByteArray}
theorem srow_nil (w : World) (base : Nat) : SRow w base (.slice none 0 0) [] := orow_nil w base
theorem srow_slr {A : Option Addr} {n c : Nat} (h : SRow w base (.slice A n c) L) (hn : L.length = n) : SlR encS 1 w w.heap.size A n L := orow_slr encS_len h hn
theorem wpList_append_strs {ops : Array Oper} {rest : List Oper} {o : Oper} {a : Act} {Q : Exit → Act → World → Prop} (hgd : o.guard = none) (s x : Operand)
    (ho : o.op = .call { callee := .builtin .append, args := #[s, x], argTypes := #[30, 30] })
    (hs : a.eval s = v) (hown : SRow w base v L) (B : Nat) (A : Option Addr) (m c : Nat) (M : List ByteArray) (hx : a.eval x = .slice A m c) (hr : SlR encS 1 w B A m M) (n : Nat) (hl : (L ++ M).length = n) (hn : n ≤ 1000000000) (hbase : base ≤ w.heap.size)
    (h : ∀ A c w', Hid (SRow w' base (.slice A n c) (L ++ M)) → w.grownBy w' v.ownBlock → Below base w w' → n ≤ c → c ≤ maxLen → wpList Tryz.prog ops Q rest (a.put o.dst (.slice A n c)) w') : wpList Tryz.prog ops Q (o :: rest) a w :=
  wpList_append_row encS_len encS_one hgd s x _ ho _ 16 Tryz.underlying30 str_info3 rfl (by omega) hs hown B A m c M hx hr n hl (by simp only [maxLen]; omega) (by omega) hbase h
theorem wpList_append_str {ops : Array Oper} {rest : List Oper} {o : Oper} {a : Act} {Q : Exit → Act → World → Prop} (hgd : o.guard = none) (s x : Operand)
    (ho : o.op = .call { callee := .builtin .append, args := #[s, x], argTypes := #[30, 30] })
    (hs : a.eval s = v) (hown : SRow w base v L) (g : Nat) (b : ByteArray) (hx : a.eval x = .slice (some ⟨g, 0, none⟩) 1 1) (hB : Blk w g 9 #[.string b]) (n : Nat) (hl : L.length = n) (L' : List ByteArray) (hL : L ++ [b] = L') (hn : n + 1 ≤ 1000000000) (hbase : base ≤ w.heap.size)
    (h : ∀ A c w', Hid (SRow w' base (.slice A (n + 1) c) L') → w.grownBy w' v.ownBlock → Below base w w' → wpList Tryz.prog ops Q rest (a.put o.dst (.slice A (n + 1) c)) w') : wpList Tryz.prog ops Q (o :: rest) a w := by
  subst hL
  exact wpList_append_strs hgd s x ho hs hown (g + 1) _ 1 1 [b] hx (slr_one encS_len b hB (by omega)) (n + 1) (by simp [hl]) hn hbase fun A c w' h1 h2 h3 _ _ => h A c w' h1 h2 h3
theorem make_strs (n : Nat) (h : n ≤ 1000000000) (w : World) :
    (Instr.makeSlice 30 (.int .i64 0) (.int .i64 (n : Int))).run Tryz.prog w = .ok (.slice (some ⟨w.heap.size, 0, none⟩) 0 n) (w.alloc (.cells (madeCells #[.string ByteArray.empty] n) 9)) := by
  have := run_mkcap (P := Tryz.prog) _ _ _ Tryz.underlying30 str_info3 n (by omega) (by omega) w
  rw [Nat.mul_one] at this
  exact this
theorem srow_made (w : World) (n : Nat) (h : n ≤ 1000000000) : SRow (w.alloc (.cells (madeCells #[.string ByteArray.empty] n) 9)) w.heap.size (.slice (some ⟨w.heap.size, 0, none⟩) 0 n) [] := by
  have := orow_made (e := 9) (enc := encS) (sz := 1) w (base := w.heap.size) #[.string ByteArray.empty] n (Nat.le_refl _) (by simp only [maxLen]; omega)
  rw [Nat.mul_one] at this
  exact this
end
end Go.Proofs.YtpkomloblhbkiaaGreatDoor
namespace Go.Proofs.YtpkomloblhbkiaaGreatDoor
open Go.RowKit
theorem sumF_any (s : ByteArray) (w : World) (hG : Rounds w) (hs : s.size ≤ maxLen) : Calls Tryz.prog 14 #[.string s] w fun r w' => r = .returned (.string (sumF s)) ∧ Below w.heap.size w w' := by
  by_cases h : s.size ≤ 1000000000
  · rw [sumF_small h]
    exact sum_in s w h hG
  · have : sumF s = ByteArray.empty := by simp [sumF, h]
    rw [this]
    exact sum_big s w (by omega) hs
theorem leafText_any (s : ByteArray) (w : World) (hs : s.size ≤ 140737488351232) : Calls Tryz.prog 69 #[.string s] w fun r w' => r = .returned (.string (leafT s)) ∧ w = w' := by
  go_enter Tryz.func69, Tryz.ntmps69
  go_wp2
  go_ret
  exact ⟨rfl, rfl⟩
theorem nodeText_any (a b : ByteArray) (w : World) (ha : a.size ≤ 140737488351232) (hb : b.size ≤ 140737488351232) : Calls Tryz.prog 70 #[.string a, .string b] w fun r w' => r = .returned (.string (nodeT a b)) ∧ w = w' := by
  go_enter Tryz.func70, Tryz.ntmps70
  go_wp2
  go_ret
  exact ⟨rfl, rfl⟩
theorem leaf_any (s : ByteArray) (w : World) (hG : Rounds w) (hs : s.size ≤ 140737488351232) : Calls Tryz.prog 65 #[.string s] w fun r w' => r = .returned (.string (leafS s)) ∧ Below w.heap.size w w' := by
  have HG := Lib.hid hG
  have HS : Hid ((leafT s).size ≤ maxLen) := Lib.hid (by rw [leafT_size]; simp only [maxLen]; omega)
  clear hG
  unfold leafS
  go_enter Tryz.func65, Tryz.ntmps65
  go_wp2_with fail
  refine (leafText_any s _ hs).mono ?_
  rintro e w1 ⟨rfl, rfl⟩
  go_wp2_with fail
  refine (sumF_any (leafT s) _ HG.out HS.out).mono ?_
  rintro e w1 ⟨rfl, hb1⟩
  go_wp2_with fail
  go_ret
  exact ⟨rfl, hb1⟩
theorem node_any (a b : ByteArray) (w : World) (hG : Rounds w) (ha : a.size ≤ 140737488351232) (hb : b.size ≤ 140737488351232) : Calls Tryz.prog 103 #[.string a, .string b] w fun r w' => r = .returned (.string (nodeS a b)) ∧ Below w.heap.size w w' := by
  have HG := Lib.hid hG
  have HS : Hid ((nodeT a b).size ≤ maxLen) := Lib.hid (by rw [nodeT_size]; simp only [maxLen]; omega)
  clear hG
  unfold nodeS
  go_enter Tryz.func103, Tryz.ntmps103
  go_wp2_with fail
  refine (nodeText_any a b _ ha hb).mono ?_
  rintro e w1 ⟨rfl, rfl⟩
  go_wp2_with fail
  refine (sumF_any (nodeT a b) _ HG.out HS.out).mono ?_
  rintro e w1 ⟨rfl, hb1⟩
  go_wp2_with fail
  go_ret
  exact ⟨rfl, hb1⟩
theorem mayroot_any (n : Nat) (w : World) (hn : n ≤ 140737488351232) : Calls Tryz.prog 29 #[.int .i64 n] w fun r w' => r = .returned (.bool (mayB n)) ∧ w = w' := by
  by_cases h0 : n = 0
  · subst h0
    go_enter Tryz.func29, Tryz.ntmps29
    go_wp2
    go_ret
    exact ⟨rfl, rfl⟩
  · have h1 : 1 ≤ n := by omega
    by_cases hbig : 1024 < n
    · rw [mayB_far hbig]
      clear h0
      go_enter Tryz.func29, Tryz.ntmps29
      go_wp2
      go_ret
      exact ⟨rfl, rfl⟩
    · have hle : n ≤ 1024 := by omega
      have hb : bits .and .i64 (n : Int) ((n : Int) - 1) = ((n &&& (n - 1) : Nat) : Int) := by
        have := i64_and_nat n (n - 1) (by omega) (by omega)
        rwa [show ((n - 1 : Nat) : Int) = (n : Int) - 1 by omega] at this
      have hm : mayB n = (n &&& (n - 1) == 0) := by simp [mayB, h1, hle]
      have hz : (((n &&& (n - 1) : Nat) : Int) == 0) = (n &&& (n - 1) == 0) := by
        rw [Bool.eq_iff_iff]; simp
      rw [hm]
      generalize (n &&& (n - 1) == 0) = q at hz ⊢
      generalize n &&& (n - 1) = m at hb hz
      clear hm h0 hbig hn
      go_enter Tryz.func29, Tryz.ntmps29
      go_wp2
      go_ret
      exact ⟨rfl, rfl⟩
end Go.Proofs.YtpkomloblhbkiaaGreatDoor
/- tree: rows of rows; top, rise. -/
namespace Go.Proofs.YtpkomloblhbkiaaGreatDoor
open Go.RowKit
structure Sl where
  (A : Option Addr) (n c : Nat)
def encSl (s : Sl) : List Value := [.slice s.A s.n s.c]
theorem encSl_len (s : Sl) : (encSl s).length = 1 := rfl
theorem encSl_one (s : Sl) : ∀ u ∈ encSl s, u.oneCell' = true := by intro u hu; simp [encSl] at hu; subst hu; rfl
theorem SlC.sl {w : World} {b off : Nat} {L : List Sl} (h : SlC encSl 1 w b off L) {k : Nat} {s : Sl} (hl : L[k]? = some s) : w.cell? ⟨b, off + k, none⟩ = some (.slice s.A s.n s.c) := by have := h k s hl 0 _ rfl; simpa using this
theorem strs_info : (Tryz.prog.info? 30).map (fun i => (i.zero, i.size, i.bytes)) = some (some (.slice none 0 0), 1, 24) := by kernel_rfl
def SlRow (w : World) (base : Nat) (v : Value) (X : List Sl) : Prop := ORow 30 encSl 1 w base v X
section
variable {w w' : World} {base : Nat} {v : Value} {X : List Sl}
theorem slrow_slr {A : Option Addr} {n c : Nat} (h : SlRow w base (.slice A n c) X) (hn : X.length = n) : SlR encSl 1 w w.heap.size A n X := orow_slr encSl_len h hn
theorem wpList_append_sls {ops : Array Oper} {rest : List Oper} {o : Oper} {a : Act} {Q : Exit → Act → World → Prop} (hgd : o.guard = none) (s x : Operand)
    (ho : o.op = .call { callee := .builtin .append, args := #[s, x], argTypes := #[79, 79] })
    (hs : a.eval s = v) (hown : SlRow w base v X) (B : Nat) (A : Option Addr) (m c : Nat) (M : List Sl) (hx : a.eval x = .slice A m c) (hr : SlR encSl 1 w B A m M) (n : Nat) (hl : (X ++ M).length = n) (hn : n ≤ 1000000000) (hbase : base ≤ w.heap.size)
    (h : ∀ A c w', Hid (SlRow w' base (.slice A n c) (X ++ M)) → w.grownBy w' v.ownBlock → Below base w w' → n ≤ c → c ≤ maxLen → wpList Tryz.prog ops Q rest (a.put o.dst (.slice A n c)) w') : wpList Tryz.prog ops Q (o :: rest) a w :=
  wpList_append_row encSl_len encSl_one hgd s x _ ho _ 24 Tryz.underlying79 strs_info rfl (by omega) hs hown B A m c M hx hr n hl (by simp only [maxLen]; omega) (by omega) hbase h
end
/-- block g is a tree that is being made: the texts T, and the rows LL, each of one's own -/
def TR (w : World) (base g : Nat) (T : Value) (LL : List (List ByteArray)) : Prop :=
  ∃ v X, Blk w g 81 #[T, v] ∧ base ≤ g ∧ SlRow w base v X ∧ X.length = LL.length ∧ ∀ (i : Nat) s L, X[i]? = some s → LL[i]? = some L → SRow w base (.slice s.A s.n s.c) L ∧ s.n = L.length
section
variable {w w' : World} {base g : Nat} {T : Value} {LL : List (List ByteArray)}
theorem TR.below {B : Nat} (h : TR w base g T LL) (hb : Below B w w') (hB : w.heap.size ≤ B) : TR w' base g T LL := by
  obtain ⟨v, X, h1, h2, h3, h4, h5⟩ := h
  exact ⟨v, X, h1.below hb (by have := h1.lt; omega), h2, orow_below h3 hb hB, h4, fun i s L hs hL => ⟨orow_below (h5 i s L hs hL).1 hb hB, (h5 i s L hs hL).2⟩⟩
end
/-- the row at the end of the rows that a block tells -/
theorem top_any (w : World) (g b off m c : Nat) (T : Value) (X : List Sl) (s : Sl) (hk : Blk w g 81 #[T, .slice (some ⟨b, off, none⟩) (m + 1) c]) (hC : SlC encSl 1 w b off X) (hs : X[m]? = some s) (hm : m ≤ 1000) :
    Calls Tryz.prog 66 #[.pointer (some ⟨g, 0, none⟩)] w fun e w' => e = .returned (.slice s.A s.n s.c) ∧ Below w.heap.size w w' := by
  have k1 := hk.cells 1 _ rfl
  simp only [List.getElem_toArray, List.getElem_cons_zero, List.getElem_cons_succ] at k1
  have c0 := hC.sl hs
  have e1 : ((m + 1 : Nat) : Int) - 1 = (m : Int) := by omega
  have e2 : IntKind.i64.wrap (((m + 1 : Nat) : Int) - 1) = (m : Int) := by rw [e1]; exact wrap_i64_nat m (by omega)
  have i0 : (0 : Int) ≤ (m : Int) := by omega
  have i1 : (m : Int) < ((m + 1 : Nat) : Int) := by omega
  clear hk hC hs
  go_enter Tryz.func66, Tryz.ntmps66
  go_wp2
  go_quiet (fail)
  go_wp2
  go_ret
  exact ⟨rfl, below_drewN (Below.refl _ _) _⟩
end Go.Proofs.YtpkomloblhbkiaaGreatDoor
/- tree: rise. -/
namespace Go.Proofs.YtpkomloblhbkiaaGreatDoor
open Go.RowKit
theorem step_append_str {w : World} {base : Nat} {v : Value} {L : List ByteArray} {ops : Array Oper} {o : Oper} {a : Act} {K : Act → World → Prop} {Q : Exit → Act → World → Prop} {E : Prop} (hgd : o.guard = none) (s x : Operand)
    (ho : o.op = .call { callee := .builtin .append, args := #[s, x], argTypes := #[30, 30] })
    (hs : a.eval s = v) (hown : SRow w base v L) (g : Nat) (b : ByteArray) (hx : a.eval x = .slice (some ⟨g, 0, none⟩) 1 1) (hB : Blk w g 9 #[.string b]) (n : Nat) (hl : L.length = n) (L' : List ByteArray) (hL : L ++ [b] = L') (hn : n + 1 ≤ 1000000000) (hbase : base ≤ w.heap.size)
    (h : ∀ A c w', Hid (SRow w' base (.slice A (n + 1) c) L') → w.grownBy w' v.ownBlock → Below base w w' → K (a.put o.dst (.slice A (n + 1) c)) w') :
    if Region.wanted o (yielded ops a.tmps) = true then Oper.wp Tryz.prog o a w K Q else E := by
  subst hL
  obtain ⟨i0, hi0, hz0, hz1, hz2⟩ := info_parts str_info3
  refine step_append_any _ hgd s x _ ho base _ i0 _ 1 16 Tryz.underlying30 hi0 hz0 hz1 hz2 rfl (by omega) v L.length (flat encS L) hs hown (g + 1) (some ⟨g, 0, none⟩) 1 1 [.string b] hx ?_ (by simp [Value.oneCell']) (by simp only [maxLen]; omega) (by omega) hbase ?_
  · refine ⟨rfl, fun _ => ⟨_, rfl, by simp, fun j u hu => ?_⟩⟩
    have hadd : (⟨g, 0, none⟩ : Addr).add j = ⟨g, j, none⟩ := by unfold Addr.add; split <;> simp_all
    rw [hadd, hB.cell]
    simpa using hu
  · intro v' w' h1 h2 _
    have h1' : SRow w' base v' (L ++ [b]) := orow_join h1 _ (by simp) (by simp [flat, encS])
    obtain ⟨A, c, rfl, _⟩ := orow_form h1'
    have hn1 : (L ++ [b]).length = n + 1 := by simp [hl]
    rw [hn1] at h1' ⊢
    exact h A c w' (Lib.hid h1') h2 ((Below.refl base w).grown h2 hbase (fun k e => (World.ownsRow.lt hown k e).1))
theorem upL_step {L : List ByteArray} {j m : Nat} (hm : L.length = m) (h : 2 * j + 1 < m) : (upL L).take j ++ [nodeS (atB L (2 * j)) (atB L (2 * j + 1))] = (upL L).take (j + 1) := by
  subst hm
  have hg := upL_get L j h
  obtain ⟨hlt, he⟩ := List.getElem?_eq_some_iff.1 hg
  rw [List.take_succ_eq_append_getElem hlt, he]
/-- what rise leaves -/
def RisePost (w : World) (base g : Nat) (T : Value) (LL : List (List ByteArray)) (e : Ending) (w' : World) : Prop := e = .returned (.tuple #[]) ∧ TR w' base g T LL ∧ Below base w w'
theorem tr_push {w : World} {base g : Nat} {T v v' : Value} {X : List Sl} {LL : List (List ByteArray)} {s : Sl} {L : List ByteArray} (hk : Blk w g 81 #[T, v]) (hBg : base ≤ g) (hv : SlRow w base v' (X ++ [s]))
    (hXl : X.length = LL.length) (hX : ∀ (i : Nat) s L, X[i]? = some s → LL[i]? = some L → SRow w base (.slice s.A s.n s.c) L ∧ s.n = L.length) (hs : SRow w base (.slice s.A s.n s.c) L) (hsn : s.n = L.length) :
    TR (w.setCell ⟨g, 1, none⟩ v') base g T (LL ++ [L]) := by
  refine ⟨v', X ++ [s], by simpa using hk.set_ 1 v', hBg, orow_far hv hk (by decide) _ _, by simp [hXl], ?_⟩
  intro i s1 L1 h1 h2
  rcases Nat.lt_or_ge i X.length with hi | hi
  · rw [List.getElem?_append_left hi] at h1
    rw [List.getElem?_append_left (by omega)] at h2
    obtain ⟨a, b⟩ := hX i s1 L1 h1 h2
    exact ⟨orow_far a hk (by decide) _ _, b⟩
  · rw [List.getElem?_append_right hi] at h1
    rw [List.getElem?_append_right (by omega)] at h2
    have h3 : i - X.length = 0 := by have := (List.getElem?_eq_some_iff.1 h1).1; simp at this; omega
    have h4 : i - LL.length = 0 := by omega
    rw [h3] at h1
    rw [h4] at h2
    simp only [List.getElem?_cons_zero, Option.some.injEq] at h1 h2
    subst h1 h2
    exact ⟨orow_far hs hk (by decide) _ _, hsn⟩
set_option maxRecDepth 100000 in
set_option maxHeartbeats 1000000 in
theorem rise_any (w : World) (base g : Nat) (T : Value) (LL : List (List ByteArray)) (L : List ByteArray) (hG : Rounds w) (h0 : 0 < base) (h : TR w base g T (LL ++ [L])) (hB : base ≤ w.heap.size) (hn : LL.length ≤ 900) (hL : L.length ≤ 2000) (hL0 : 1 ≤ L.length) (hsz : ∀ s ∈ L, s.size ≤ 140737488351232) :
    Calls Tryz.prog 67 #[.pointer (some ⟨g, 0, none⟩)] w (RisePost w base g T (LL ++ [L] ++ [upL L])) := by
  obtain ⟨v, X, hk, hBg, hv, hXl, hX⟩ := h
  have hXl' : X.length = LL.length + 1 := by simpa using hXl
  obtain ⟨s, hsX⟩ : ∃ s, X[LL.length]? = some s := ⟨X[LL.length]'(by omega), List.getElem?_eq_getElem _⟩
  obtain ⟨hS, hSn⟩ := hX LL.length s L hsX (by simp)
  obtain ⟨sA, sn, sc⟩ := s
  simp only at hS hSn
  subst hSn
  obtain ⟨A, c, hvv, hc1, hc2⟩ := orow_form hv
  subst hvv
  have hSX := slrow_slr hv rfl
  obtain ⟨vb, voff, rfl, hvb, hCX⟩ := hSX.2.resolve_left (by omega)
  have hSS := srow_slr hS rfl
  obtain ⟨sb, soff, rfl, hsb, hCS⟩ := hSS.2.resolve_left (by omega)
  have HK : Hid (Blk w g 81 #[T, .slice (some ⟨vb, voff, none⟩) (LL.length + 1) c]) := Lib.hid (by rw [← hXl']; exact hk)
  have HV : Hid (SlRow w base (.slice (some ⟨vb, voff, none⟩) (LL.length + 1) c) X) := Lib.hid (by rw [← hXl']; exact hv)
  have HX := Lib.hid hX
  have HCX := Lib.hid hCX
  have HsX := Lib.hid hsX
  have HXl := Lib.hid hXl
  have HG := Lib.hid hG
  have HSz := Lib.hid hsz
  obtain ⟨n, hnn⟩ : ∃ n, L.length = n := ⟨_, rfl⟩
  rw [hnn] at hL hL0
  have HU : Hid ((upL L).length = n / 2) := Lib.hid (by rw [upL_len, hnn])
  have HC : Hid (∀ W, Below w.heap.size w W → SlC encS 1 W sb soff L) := Lib.hid (fun W hb => hCS.below hb hsb)
  have HN := Lib.hid hnn
  have hmk : ∀ W, (Instr.makeSlice 30 (.int .i64 0) (.int .i64 ((n : Int) / 2))).run Tryz.prog W = .ok (.slice (some ⟨W.heap.size, 0, none⟩) 0 (n / 2)) (W.alloc (.cells (madeCells #[.string ByteArray.empty] (n / 2)) 9)) := by
    intro W
    have := make_strs (n / 2) (by omega) W
    rwa [show ((n / 2 : Nat) : Int) = (n : Int) / 2 by omega] at this
  have HT := Lib.hid (top_any w g vb voff LL.length c T X ⟨some ⟨sb, soff, none⟩, n, sc⟩ HK.out hCX (by rw [← hnn]; exact hsX) (by omega))
  have hgl := HK.out.lt
  clear hk hv hXl hX hsX hSX hvb hCX hSS hS hCS hc1 hc2 hG hsz hXl' hnn
  simp only at HT
  go_enter Tryz.func67, Tryz.ntmps67
  go_wp2_with fail
  refine HT.out.mono ?_
  rintro e w1 ⟨rfl, hb1⟩
  clear HT
  have hz1 := hb1.size
  go_wp2_with fail
  have HO : Hid (SRow (w1.alloc (.cells (madeCells #[.string ByteArray.empty] (n / 2)) 9)) w.heap.size (.slice (some ⟨w1.heap.size, 0, none⟩) 0 (n / 2)) ((upL L).take 0)) := Lib.hid (orow_base (srow_made w1 (n / 2) (by omega)) hz1)
  go_loopw [3, 4] (fun tv ti wr => ∃ (j i : Nat) (A2 : Option Addr) (c2 : Nat), Hid (i = 2 * j) ∧ i ≤ n + 1 ∧ ti = .int .i64 i ∧ tv = .slice A2 j c2 ∧ Hid (SRow wr w.heap.size (.slice A2 j c2) ((upL L).take j)) ∧ Below w.heap.size w wr) (fun _ ti _ => n + 1 - (intOf ti).toNat)
  case atStart => exact ⟨0, 0, _, _, rfl, by omega, rfl, rfl, HO, by go_grown⟩
  case round =>
    obtain ⟨j, i, A2, c2, HI, hi, rfl, rfl, HR, hBr⟩ := hrel
    have hzr := hBr.size
    by_cases hlt : i + 1 < n
    · have hi1 : (i : Int) + 1 < n := by omega
      obtain ⟨a, ha⟩ : ∃ a, atB L i = a := ⟨_, rfl⟩
      obtain ⟨b, hb⟩ : ∃ b, atB L (i + 1) = b := ⟨_, rfl⟩
      have ga : L[i]? = some a := by rw [← ha]; exact at_of_lt (by rw [HN.out]; omega)
      have gb : L[i + 1]? = some b := by rw [← hb]; exact at_of_lt (by rw [HN.out]; omega)
      have sa := HSz.out a (List.mem_of_getElem? ga)
      have sb' := HSz.out b (List.mem_of_getElem? gb)
      have HCell : Hid (∀ W, Below w.heap.size w W → W.cell? ⟨sb, soff + i, none⟩ = some (.string a) ∧ W.cell? ⟨sb, soff + (i + 1), none⟩ = some (.string b)) := Lib.hid (fun W hb => ⟨(HC.out W hb).str ga, (HC.out W hb).str gb⟩)
      have HTk : Hid (((upL L).take j).length = j) := Lib.hid (by rw [List.length_take, HU.out]; have := HI.out; omega)
      have HNew : Hid ((upL L).take j ++ [nodeS a b] = (upL L).take (j + 1)) := Lib.hid (by rw [← ha, ← hb, HI.out]; exact upL_step HN.out (by have := HI.out; omega))
      have hj : j + 1 ≤ 1000000 := by have := HI.out; omega
      have e1 : IntKind.i64.wrap ((i : Int) + 1) = (i : Int) + 1 := IntWalk.i64_in _ (by omega)
      have i0 : (0 : Int) ≤ (i : Int) := by omega
      have i1 : (i : Int) < n := by omega
      have i2 : (0 : Int) ≤ (i : Int) + 1 := by omega
      clear ha hb ga gb
      go_wp2_with fail
      go_region_held3 (fun w' => w'.cell? ⟨sb, soff + i, none⟩ = some (.string a) ∧ w'.cell? ⟨sb, soff + (i + 1), none⟩ = some (.string b))
        ((refine HCell.out _ ?_; go_grown))
        (first
          | (go_at_call 103; refine (node_any a b _ (rounds_of HG.out (by go_grown)) sa sb').mono ?_; rintro e w2 ⟨rfl, hb2⟩; have hB2 : Below w.heap.size w w2 := Below.trans hBr (Below.trans (by go_grown) (hb2.mono hzr)); have HR2 : Hid (SRow w2 w.heap.size (.slice A2 j c2) ((upL L).take j)) := Lib.hid (orow_below HR.out (Below.trans (by go_grown) hb2) (Nat.le_refl _)); clear hb2; have hz2 := hB2.size)
          | (refine step_append_str rfl (.tmp 18) (.tmp 29) rfl rfl (orow_alloc HR2.out _) w2.heap.size (nodeS a b) rfl (Blk.new _ _ _) j HTk.out _ HNew.out (by omega) (by simp; omega) ?_; intro A3 c3 w3 HR3 hg3 hb3; have hB3 : Below w.heap.size w w3 := Below.trans hB2 (Below.trans (by go_grown) hb3); clear hg3))
      go_wp2_with fail
      go_roundw
      case rel => exact ⟨j + 1, i + 2, A3, c3, Lib.hid (by rw [HI.out]; omega), by omega, by go_num, rfl, HR3, hB3⟩
      case measure => simp [intOf]; omega
    · have hj : j = n / 2 := by have := HI.out; have := HU.out; have hl := orow_form HR.out; obtain ⟨_, _, hv, _⟩ := hl; injection hv with _ hv _; rw [List.length_take, HU.out] at hv; omega
      subst hj
      have hR := HR.out
      rw [List.take_of_length_le (by rw [HU.out]; exact Nat.le_refl _)] at hR
      have HR' : Hid (SRow wr w.heap.size (.slice A2 (n / 2) c2) (upL L)) := Lib.hid hR
      clear hR HR
      have hkr := HK.out.below hBr hgl
      have HKr := Lib.hid hkr
      have k1 := hkr.cells 1 _ rfl
      have kf := hkr.frozen 1
      simp only [List.getElem_toArray, List.getElem_cons_zero, List.getElem_cons_succ] at k1
      have HVr : Hid (SlRow wr base (.slice (some ⟨vb, voff, none⟩) (LL.length + 1) c) X) := Lib.hid (orow_below HV.out hBr (Nat.le_refl _))
      have HXn : Hid ((X ++ [(⟨A2, n / 2, c2⟩ : Sl)]).length = LL.length + 1 + 1) := Lib.hid (by rw [List.length_append, HXl.out]; simp)
      have HZ : Hid (base ≤ (wr.alloc (.cells #[.slice A2 (n / 2) c2] 30)).heap.size) := Lib.hid (by simp; omega)
      clear hkr HI
      go_wp2_with (at_builtin; refine wpList_append_sls rfl (.tmp 35) (.tmp 37) rfl rfl (orow_alloc HVr.out _) (wr.heap.size + 1) (some ⟨wr.heap.size, 0, none⟩) 1 1 [(⟨A2, n / 2, c2⟩ : Sl)] rfl (slr_one encSl_len ⟨A2, n / 2, c2⟩ (Blk.new _ _ _) (by omega)) (LL.length + 1 + 1) HXn.out (by omega) HZ.out ?_; intro A4 c4 w4 HV4 hg4 hb4 hc41 hc42; have hb4' : Below base w w4 := Below.trans (hBr.mono hB) (Below.trans (by go_grown) hb4); have hk4 := blk_grown_row (HKr.out.alloc _) (orow_alloc HVr.out (.cells #[.slice A2 (n / 2) c2] 30)) (by decide) hg4; have q1 := hk4.cells 1 _ rfl; have qf := hk4.frozen 1; simp only [List.getElem_toArray, List.getElem_cons_zero, List.getElem_cons_succ] at q1)
      go_end0
      refine ⟨rfl, ?_, hb4'.setCell hBg _⟩
      refine tr_push (s := ⟨A2, n / 2, c2⟩) hk4 hBg HV4.out HXl.out ?_ ?_ HU.out.symm
      · intro i s L1 h1 h2
        obtain ⟨q, q'⟩ := HX.out i s L1 h1 h2
        exact ⟨orow_grown (orow_alloc (orow_below q hBr (Nat.le_refl _)) _) hg4 (orow_ne (orow_alloc (orow_below q hBr (Nat.le_refl _)) (.cells #[.slice A2 (n / 2) c2] 30)) (orow_alloc HVr.out _) (by decide)), q'⟩
      · exact orow_grown (orow_alloc (orow_base HR'.out hB) _) hg4 (orow_ne (orow_alloc (orow_base HR'.out hB) (.cells #[.slice A2 (n / 2) c2] 30)) (orow_alloc HVr.out _) (by decide))
end Go.Proofs.YtpkomloblhbkiaaGreatDoor
