/- digest.Step: the spec (plain). -/
import Derived.Test.YtkaaicmadknjcaaDoorDigA
set_option linter.unusedVariables false
namespace Go.Proofs.YtkaaicmadknjcaaDoor
open Go.RowKit
/-- the words of chapter 2's rounds -/
def K64 : List Nat := [1116352408, 1899447441, 3049323471, 3921009573, 961987163, 1508970993, 2453635748, 2870763221, 3624381080, 310598401, 607225278, 1426881987, 1925078388, 2162078206, 2614888103, 3248222580, 3835390401, 4022224774, 264347078, 604807628, 770255983, 1249150122, 1555081692, 1996064986, 2554220882, 2821834349, 2952996808, 3210313671, 3336571891, 3584528711, 113926993, 338241895, 666307205, 773529912, 1294757372, 1396182291, 1695183700, 1986661051, 2177026350, 2456956037, 2730485921, 2820302411, 3259730800, 3345764771, 3516065817, 3600352804, 4094571909, 275423344, 430227734, 506948616, 659060556, 883997877, 958139571, 1322822218, 1537002063, 1747873779, 1955562222, 2024104815, 2227730452, 2361852424, 2428436474, 2756734187, 3204031479, 3329325298]
theorem K64_len : K64.length = 64 := by rfl
structure S8 where
  (a b c d e f g h : Nat)
def S8.list (s : S8) : List Nat := [s.a, s.b, s.c, s.d, s.e, s.f, s.g, s.h]
def S8.ok (s : S8) : Prop := words s.list
def pW (s : S8) (k w : Nat) : Nat := sumW [s.h, xorW [rotl s.e 26, rotl s.e 21, rotl s.e 7], xorW [s.e &&& s.f, (4294967295 - s.e) &&& s.g], k, w]
def qW (s : S8) : Nat := sumW [xorW [rotl s.a 30, rotl s.a 19, rotl s.a 10], xorW [s.a &&& s.b, s.a &&& s.c, s.b &&& s.c]]
def turnS (s : S8) (k w : Nat) : S8 := ⟨sumW [pW s k w, qW s], s.a, s.b, s.c, sumW [s.d, pW s k w], s.e, s.f, s.g⟩
/-- n rounds -/
def turnsTo (W : List Nat) (s : S8) : Nat → S8
  | 0 => s
  | n + 1 => turnS (turnsTo W s n) (K64.getD n 0) (W.getD n 0)
/-- the state with m of its words added -/
def addTo (s t : S8) (m : Nat) : List Nat := ((List.range 8).map fun i => if i < m then sumW [s.list.getD i 0, t.list.getD i 0] else t.list.getD i 0)
def stepS (s : S8) (block : ByteArray) : List Nat := addTo s (turnsTo (spreadW block) s 64) 8
theorem turnS_ok {s : S8} (h : s.ok) (k w : Nat) : (turnS s k w).ok := by
  intro n hn
  have hh : ∀ x ∈ s.list, x < 4294967296 := h
  simp only [S8.list, List.mem_cons, List.not_mem_nil, or_false, forall_eq_or_imp, forall_eq] at hh
  simp only [turnS, S8.list, List.mem_cons, List.not_mem_nil, or_false] at hn
  obtain ⟨h1, h2, h3, h4, h5, h6, h7, h8⟩ := hh
  rcases hn with rfl | rfl | rfl | rfl | rfl | rfl | rfl | rfl
  · exact sumW_lt _
  · exact h1
  · exact h2
  · exact h3
  · exact sumW_lt _
  · exact h5
  · exact h6
  · exact h7
theorem turnsTo_ok {s : S8} (h : s.ok) (W : List Nat) (n : Nat) : (turnsTo W s n).ok := by
  induction n with
  | zero => exact h
  | succ n ih => exact turnS_ok ih _ _
theorem addTo_len (s t : S8) (m : Nat) : (addTo s t m).length = 8 := by simp [addTo]
theorem list_len (t : S8) : t.list.length = 8 := rfl
theorem list_get (t : S8) {m : Nat} (hm : m < 8) : t.list[m]? = some (t.list.getD m 0) := by
  rw [List.getD_eq_getElem?_getD, List.getElem?_eq_getElem (by rw [list_len]; exact hm)]; rfl
theorem addTo_get (s t : S8) {m : Nat} (hm : m < 8) : (addTo s t m)[m]? = some (t.list.getD m 0) := by
  simp [addTo, hm]
theorem addTo_zero (s t : S8) : addTo s t 0 = t.list := rfl
theorem addTo_succ (s t : S8) {m : Nat} (hm : m < 8) : addTo s t (m + 1) = (addTo s t m).set m (sumW [s.list.getD m 0, t.list.getD m 0]) := by
  apply List.ext_getElem?
  intro j
  by_cases hj : j < 8
  · by_cases e : m = j
    · subst e
      rw [List.getElem?_set_self (by rw [addTo_len]; exact hj)]
      simp [addTo, hj]
    · rw [List.getElem?_set_ne e]
      simp only [addTo, List.getElem?_map, List.getElem?_range hj, Option.map_some]
      by_cases h : j < m
      · rw [if_pos h, if_pos (by omega)]
      · rw [if_neg h, if_neg (by omega)]
  · rw [List.getElem?_eq_none (by rw [addTo_len]; omega), List.getElem?_eq_none (by rw [List.length_set, addTo_len]; omega)]
theorem results_row_tmp {P : Program} {fn : Func} {p q : Tmp} {ty : TypeId} (h : fn.results = #[.cell p ty, .tmp q]) (tmps : Array Value) (w : World) (g : Nat) (t : TypeId) (cs : Array Value) (fr : Nat × Nat) (d : TypeDesc) (v : Value)
    (hp : tmps.getD p undef = .pointer (some ⟨g, 0, none⟩)) (hq : tmps.getD q undef = v) (hg : w.heap[g]? = some (.cells cs t fr))
    (hu : P.underlying ty = some d) (hd : (match d with | .struct _ | .array _ _ => true | _ => false) = true) (hi : (P.info? ty).map (·.size) = some cs.size) :
    (results fn tmps).run P w = .ok (.tuple #[.agg cs, v]) w := by
  have hp' : tmps[p]?.getD undef = .pointer (some ⟨g, 0, none⟩) := by simpa using hp
  have hq' : tmps[q]?.getD undef = v := by simpa using hq
  simp [results, h, hp', hq', asAddr, run_loadVar_row w g t ty cs fr d hg hu hd hi]
end Go.Proofs.YtkaaicmadknjcaaDoor
