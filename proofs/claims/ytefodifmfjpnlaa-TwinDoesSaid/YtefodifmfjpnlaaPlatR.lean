/- chapter 13, plain: what a crash does (for PlatterCrash). -/
import Derived.Test.YtefodifmfjpnlaaPlatQ
import Derived.Test.YtefodifmfjpnlaaRow
set_option linter.unusedVariables false
namespace Go.Proofs.Ytefodifmfjpnlaa
open Go.RowKit
def touchB (L : List PPut) (i : Nat) : Bool := L.any fun x => decide (x.pos = (i : Int))
theorem touch_snoc {L : List PPut} {k : Nat} {x : PPut} (h : L[k]? = some x) (i : Nat) : touchB (L.take (k + 1)) i = (touchB (L.take k) i || decide (x.pos = (i : Int))) := by
  unfold touchB
  rw [List.take_add_one, h, List.any_append]
  simp
theorem settleTo_same (p : Plat) (f g : Nat → Int) : ∀ k, (∀ j, j < k → f j = g j) → settleTo p f k = settleTo p g k := by
  intro k
  induction k with
  | zero => intro _; rfl
  | succ k ih => intro h; rw [settleTo, settleTo, ih fun j hj => h j (by omega), h k (by omega)]
theorem settleF_same (p : Plat) (f g : Nat → Int) (h : ∀ j, j < p.cache.length → f j = g j) : settleF p f = settleF p g := by
  unfold settleF
  rw [settleTo_same p f g _ h]
theorem settleTo_none (p : Plat) (f : Nat → Int) (h : ∀ j, f j = 0) : ∀ k, settleTo p f k = p := by
  intro k
  induction k with
  | zero => rfl
  | succ k ih => rw [settleTo, ih, h k]; simp [fallF]
theorem fallF_far (p : Plat) (x : PPut) (f : Int) (i : Nat) (h0 : 0 ≤ x.pos) (h : x.pos ≠ (i : Int)) : (fallF p x f).sectors[i]? = p.sectors[i]? := by
  have : x.pos.toNat ≠ i := by omega
  unfold fallF
  split
  · rfl
  · split <;> simp only [List.getElem?_set_ne this]
theorem settleTo_far (p : Plat) (hc : checkP p = true) (f : Nat → Int) (i : Nat) : ∀ k, k ≤ p.cache.length → touchB (p.cache.take k) i = false → (settleTo p f k).sectors[i]? = p.sectors[i]? := by
  obtain ⟨_, _, _, _, hx⟩ := (checkP_iff p).1 hc
  intro k
  induction k with
  | zero => intro _ _; rfl
  | succ k ih =>
    intro hk ht
    have hg : p.cache[k]? = some (p.cache[k]'(by omega)) := List.getElem?_eq_getElem (by omega)
    generalize p.cache[k]'(by omega) = x at hg
    have hp := hx x (List.mem_of_getElem? hg)
    simp only [putB, hasB, Bool.and_eq_true, decide_eq_true_eq] at hp
    rw [touch_snoc hg] at ht
    simp only [Bool.or_eq_false_iff, decide_eq_false_iff_not] at ht
    have hd : p.cache.getD k noPut = x := by simp [List.getD, hg]
    rw [settleTo, hd, fallF_far _ _ _ _ hp.2.1 ht.2]
    exact ih (by omega) ht.1
theorem crash_ok {p : Plat} (hc : checkP p = true) (F : List Int) : (crashF p F).2 = 0 ∧ (crashF p F).1.sectors.length = p.sectors.length ∧ (crashF p F).1.cache = [] ∧ checkP (crashF p F).1 = true ∧
    (∀ i, touchB p.cache i = false → (crashF p F).1.sectors[i]? = p.sectors[i]?) := by
  have e : crashF p F = (⟨(settleTo p (fun k => F.getD k 0) p.cache.length).sectors, []⟩, 0) := by unfold crashF settleF; rw [if_pos hc]
  obtain ⟨k1, k2, _⟩ := settleTo_keeps p (fun k => F.getD k 0) hc p.cache.length (Nat.le_refl _)
  obtain ⟨a, b, c, _, _⟩ := (checkP_iff p).1 hc
  rw [e]
  refine ⟨rfl, k1, rfl, (checkP_iff _).2 ⟨by simp only; omega, by simp only; omega, by simp, k2, by simp⟩, ?_⟩
  intro i hi
  exact settleTo_far p hc _ i _ (Nat.le_refl _) (by rwa [List.take_length])
theorem crash_ones (p : Plat) (n : Nat) (hn : p.cache.length = n) : crashF p (List.replicate n 1) = syncF p := by
  unfold crashF syncF
  refine settleF_same p _ _ fun j hj => ?_
  simp [List.getD, show j < n by omega]
theorem crash_nil {p : Plat} (hc : checkP p = true) : crashF p [] = (⟨p.sectors, []⟩, 0) := by
  unfold crashF settleF
  rw [if_pos hc, settleTo_none p _ (by intro j; simp)]
theorem ones_set (k m : Nat) (h : k < m) : (List.replicate k (1 : Int) ++ List.replicate (m - k) 0).set k 1 = List.replicate (k + 1) 1 ++ List.replicate (m - (k + 1)) 0 := by
  rw [List.set_append_right _ _ (by simp), List.length_replicate, Nat.sub_self]
  have e : m - k = (m - (k + 1)) + 1 := by omega
  rw [e, List.replicate_succ (n := m - (k + 1)), List.set_cons_zero, List.replicate_succ' (n := k), List.append_assoc]
  rfl
/-- what is known of the row 'touched' behind k texts -/
def TouchOk (p : Plat) (k : Nat) (T : List Bool) : Prop := T.length = p.sectors.length ∧ ∀ i : Nat, T[i]? = some false → touchB (p.cache.take k) i = false
theorem TouchOk.zero (p : Plat) : TouchOk p 0 (List.replicate p.sectors.length false) := ⟨by simp, fun i _ => rfl⟩
theorem TouchOk.succ {p : Plat} {k : Nat} {T : List Bool} {x : PPut} {j : Nat} (h : TouchOk p k T) (hx : p.cache[k]? = some x) (hj : x.pos = (j : Int)) (hjn : j < p.sectors.length) : TouchOk p (k + 1) (T.set j true) := by
  refine ⟨by simp [h.1], fun i hi => ?_⟩
  rw [touch_snoc hx]
  by_cases e : i = j
  · subst e
    rw [List.getElem?_set_self (by rw [h.1]; exact hjn)] at hi
    cases hi
  · rw [List.getElem?_set_ne (Ne.symm e)] at hi
    rw [h.2 i hi, hj]
    simp; omega
end Go.Proofs.Ytefodifmfjpnlaa
