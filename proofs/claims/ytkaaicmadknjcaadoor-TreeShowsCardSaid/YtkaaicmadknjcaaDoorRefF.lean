/- the reference's words, Start; its calls at words. -/
import Derived.Test.YtkaaicmadknjcaaDoorRefE
import Derived.Test.YtkaaicmadknjcaaDoorDigT
set_option linter.unusedVariables false
namespace Go.Proofs.YtkaaicmadknjcaaDoor
open Go.RowKit
theorem rwords_any (w : World) : Calls Tryd.prog 85 #[] w fun e w' => e = .returned (.slice (some ⟨w.heap.size, 0, none⟩) 64 64) ∧ w.alloc (.cells ((ints K64).map vI).toArray 3) = w' := by
  go_enter Tryd.func85, Tryd.ntmps85
  go_wp2
  go_ret
  exact ⟨rfl, rfl⟩
theorem rstart_any (w : World) : Calls Tryd.prog 28 #[] w fun e w' => e = .returned (.agg ((ints startL).map vI).toArray) ∧ Below w.heap.size w w' := by
  go_enter Tryd.func28, Tryd.ntmps28
  go_wp2
  refine bodyPost_ret (v := .agg ((ints startL).map vI).toArray) (by simp [results, Tryd.results28, go_sem, ints, startL, vI]) rfl ⟨rfl, ?_⟩
  go_grown
theorem rback6 (x y : Nat) (w : World) (hx : x < 4294967296) (h : rotl x 26 = y) : Calls Tryd.prog 90 #[.int .i64 x, .int .i64 6] w fun e w' => e = .returned (.int .i64 y) ∧ w = w' := by subst h; exact rback_any x 6 w hx (by omega)
theorem rback11 (x y : Nat) (w : World) (hx : x < 4294967296) (h : rotl x 21 = y) : Calls Tryd.prog 90 #[.int .i64 x, .int .i64 11] w fun e w' => e = .returned (.int .i64 y) ∧ w = w' := by subst h; exact rback_any x 11 w hx (by omega)
theorem rback25 (x y : Nat) (w : World) (hx : x < 4294967296) (h : rotl x 7 = y) : Calls Tryd.prog 90 #[.int .i64 x, .int .i64 25] w fun e w' => e = .returned (.int .i64 y) ∧ w = w' := by subst h; exact rback_any x 25 w hx (by omega)
theorem rback2 (x y : Nat) (w : World) (hx : x < 4294967296) (h : rotl x 30 = y) : Calls Tryd.prog 90 #[.int .i64 x, .int .i64 2] w fun e w' => e = .returned (.int .i64 y) ∧ w = w' := by subst h; exact rback_any x 2 w hx (by omega)
theorem rback13 (x y : Nat) (w : World) (hx : x < 4294967296) (h : rotl x 19 = y) : Calls Tryd.prog 90 #[.int .i64 x, .int .i64 13] w fun e w' => e = .returned (.int .i64 y) ∧ w = w' := by subst h; exact rback_any x 13 w hx (by omega)
theorem rback22 (x y : Nat) (w : World) (hx : x < 4294967296) (h : rotl x 10 = y) : Calls Tryd.prog 90 #[.int .i64 x, .int .i64 22] w fun e w' => e = .returned (.int .i64 y) ∧ w = w' := by subst h; exact rback_any x 22 w hx (by omega)
theorem rboth (a b y : Nat) (w : World) (ha : a < 4294967296) (hb : b < 4294967296) (h : a &&& b = y) : Calls Tryd.prog 87 #[.int .i64 a, .int .i64 b] w fun e w' => e = .returned (.int .i64 y) ∧ w = w' := by subst h; exact both_any a b w ha hb
theorem runlike (a b y : Nat) (w : World) (ha : a < 4294967296) (hb : b < 4294967296) (h : xorW [a, b] = y) : Calls Tryd.prog 86 #[.int .i64 a, .int .i64 b] w fun e w' => e = .returned (.int .i64 y) ∧ w = w' := by
  have : a ^^^ b = y := by rw [← h]; simp [xorW]
  subst this; exact unlike_any a b w ha hb
theorem rthree (a b c y : Nat) (w : World) (hw : words [a, b, c]) (h : xorW [a, b, c] = y) : Calls Tryd.prog 88 #[.int .i64 a, .int .i64 b, .int .i64 c] w fun e w' => e = .returned (.int .i64 y) ∧ w = w' := by
  subst h; exact three_any a b c w (hw _ (by simp)) (hw _ (by simp)) (hw _ (by simp))
theorem radd2 (a b y : Nat) (g : Nat) (w : World) (hg : g < w.heap.size) (hB : Blk w g 3 #[.int .i64 a, .int .i64 b]) (hw : words [a, b]) (h : sumW [a, b] = y) :
    Calls Tryd.prog 89 #[.slice (some ⟨g, 0, none⟩) 2 2] w fun e w' => e = .returned (.int .i64 y) ∧ w = w' := by
  subst h; exact radd_any [a, b] _ 2 2 w (slr_new w [a, b] hB hg) (by omega) hw (by omega)
theorem radd5 (a b c d e y : Nat) (g : Nat) (w : World) (hg : g < w.heap.size) (hB : Blk w g 3 #[.int .i64 a, .int .i64 b, .int .i64 c, .int .i64 d, .int .i64 e]) (hw : words [a, b, c, d, e]) (h : sumW [a, b, c, d, e] = y) :
    Calls Tryd.prog 89 #[.slice (some ⟨g, 0, none⟩) 5 5] w fun e w' => e = .returned (.int .i64 y) ∧ w = w' := by
  subst h; exact radd_any [a, b, c, d, e] _ 5 5 w (slr_new w [a, b, c, d, e] hB hg) (by omega) hw (by omega)
theorem sumW_swap (a b : Nat) : sumW [b, a] = sumW [a, b] := by simp [sumW, Nat.add_comm]
theorem blk_keep {wr w' : World} {g : Nat} {t : TypeId} {cs : Array Value} (h : Blk wr g t cs) (hb : Below wr.heap.size wr w') {j : Nat} {v : Value} (hv : cs[j]? = some v) : w'.cell? ⟨g, j, none⟩ = some v :=
  ((h.below hb h.lt).cell j).trans hv
end Go.Proofs.YtkaaicmadknjcaaDoor
