/- twin.body: a map that the call makes. -/
import Derived.Test.YtefodifmfjpnlaaPlatR
import Derived.Maps.Own
import Derived.Maps.OwnOps
import Derived.Maps.OwnSet
import Derived.Maps.Views
set_option linter.unusedVariables false
namespace Go.Proofs.Ytefodifmfjpnlaa
open Go.RowKit
theorem wpList_insert_own {H : Type} {P : Program} (w : World) {ops : Array Oper} {rest : List Oper} {o : Oper} {a : Act} {Q : Exit → Act → World → Prop}
    (hg : o.guard = none) (m x v : Operand) (t : TypeId) (hop : o.op = Op.insert t m x v)
    (k e : TypeId) (K : Maps.Keyed P k) (ht : P.underlying t = some (.map k e)) (R : Value → Option (DataW H × List MemPlace)) (b n : Nat) (D : DataW H)
    (hm : a.eval m = .map (some b)) (hown : w.ownsMap P k R b n D) (hn : n < maxLen) (key val : Value) (kl : Lit) (hx : a.eval x = key) (hv : a.eval v = val) (hkey : keyOf P k key = some kl)
    (d : DataW H) (ps : List MemPlace) (hval : R val = some (d, ps))
    (hK : ∀ w', w'.ownsMap P k R b (n + 1) (D.put kl d) → w.grownBy w' (some b) → wpList P ops Q rest (a.put o.dst undef) w') :
    wpList P ops Q (o :: rest) a w := by
  refine wpList_plain hg fun K' hK' => ?_
  obtain ⟨w', hrun, r1, r2⟩ := hown.update K ht hn hkey hval
  unfold Oper.wp
  simp [execOp, hop, hm, hx, hv, hrun, Result.andThen]
  exact hK' _ _ (hK w' r1 r2)
def bodyF (m : ByteArray) : Int × Bool := if m = ⟨#[48]⟩ then (1, true) else if m = ⟨#[49]⟩ then (2, true) else (0, false)
def twoD : DataW Unit := ((DataW.map []).put (.string [48]) (.lit (.int .i64 1))).put (.string [49]) (.lit (.int .i64 2))
theorem twoD_at (m : ByteArray) : Maps.has twoD (.string m.data.toList) = (bodyF m).2 ∧ twoD.atKey (.string m.data.toList) (.lit (.int .i64 0)) = .lit (.int .i64 (bodyF m).1) := by
  have inj : ∀ l : List UInt8, m.data.toList = l → m = ⟨l.toArray⟩ := by
    intro l h
    obtain ⟨⟨d⟩⟩ := m
    simp at h
    subst h
    rfl
  unfold twoD bodyF
  by_cases h1 : m = ⟨#[49]⟩
  · subst h1
    have hk : WideAt.IsKeyLit (.string (⟨#[49]⟩ : ByteArray).data.toList) := trivial
    have hne : (⟨#[49]⟩ : ByteArray) ≠ ⟨#[48]⟩ := by decide
    rw [if_neg hne, if_pos rfl]
    exact ⟨Maps.has_put_same (Maps.isMap_empty.put _ _) hk _, Maps.atKey_put_same (Maps.isMap_empty.put _ _) hk _ _⟩
  · have n1 : (Lit.string m.data.toList) ≠ .string [49] := by
      intro h
      injection h with h
      exact h1 (inj _ h)
    rw [Maps.has_put_other n1, Maps.atKey_put_other n1]
    by_cases h0 : m = ⟨#[48]⟩
    · subst h0
      have hk : WideAt.IsKeyLit (.string (⟨#[48]⟩ : ByteArray).data.toList) := trivial
      rw [if_pos rfl]
      exact ⟨Maps.has_put_same Maps.isMap_empty hk _, Maps.atKey_put_same Maps.isMap_empty hk _ _⟩
    · have n0 : (Lit.string m.data.toList) ≠ .string [48] := by
        intro h
        injection h with h
        exact h0 (inj _ h)
      rw [Maps.has_put_other n0, Maps.atKey_put_other n0, if_neg h0, if_neg h1]
      exact ⟨rfl, rfl⟩
theorem str_keyed : Maps.Keyed Try.prog 9 := Maps.string_keyed Try.underlying9
theorem int_zero (w : World) : (zeroValue 3).run Try.prog w = .ok (.int .i64 0) w := by kernel_rfl
set_option maxHeartbeats 400000 in
theorem body_any (m : ByteArray) (w : World) (hm : m.size ≤ maxLen) :
    Calls Try.prog 42 #[.string m] w fun e w' => e = .returned (.tuple #[.int .i64 (bodyF m).1, .bool (bodyF m).2]) ∧ Below w.heap.size w w' := by
  obtain ⟨hhas, hat⟩ := twoD_at m
  generalize bodyF m = r at hhas hat ⊢
  obtain ⟨r1, r2⟩ := r
  dsimp only at hhas hat ⊢
  have HH := Lib.hid (And.intro hhas hat)
  clear hhas hat
  have hmm := @run_makeMap Try.prog
  have hkey := WideMaps.keyOf_string_mk Try.underlying9 hm
  have HKEY := Lib.hid hkey
  clear hkey
  go_enter Try.func42, Try.ntmps42
  go_wp2_with (first
    | (refine wpList_insert_own (H := Unit) _ rfl (.tmp 7) (.const (.string ⟨#[48]⟩)) (.const (.int .i64 1)) 84 rfl 9 3 str_keyed Try.underlying84 (plainElem Try.prog 3) w.heap.size 0 (.map []) rfl (World.ownsMap_made _ _ _ _) (by decide) _ _ (.string [48]) rfl rfl (by kernel_rfl) (.lit (.int .i64 1)) [] (by kernel_rfl) ?_; intro w1 hown1 hg1)
    | (refine wpList_insert_own (H := Unit) _ rfl (.tmp 7) (.const (.string ⟨#[49]⟩)) (.const (.int .i64 2)) 84 rfl 9 3 str_keyed Try.underlying84 (plainElem Try.prog 3) w.heap.size 1 _ rfl hown1 (by decide) _ _ (.string [49]) rfl rfl (by kernel_rfl) (.lit (.int .i64 2)) [] (by kernel_rfl) ?_; intro w2 hown2 hg2)
    | (refine wpList_lookup_own_ok_int (H := Unit) _ rfl (.tmp 8) (.tmp 9) 84 rfl 9 3 .i64 str_keyed Try.underlying84 Try.underlying3 (int_zero _) w.heap.size 2 twoD rfl hown2 _ _ rfl HKEY.out ?_; intro c hc hwf; obtain rfl : c = r1 := by rw [HH.out.2] at hc; injection hc with hc; injection hc with _ hc; exact hc.symm))
  have hB1 : Below w.heap.size w w1 := Below.grown (by go_grown) hg1 (by simp) (by intro k h; injection h with h; subst h; exact Nat.le_refl _)
  have hB2 : Below w.heap.size w w2 := Below.grown hB1 hg2 hB1.size (by intro k h; injection h with h; subst h; exact Nat.le_refl _)
  clear hown1 hown2 hg1 hg2 hc
  go_ret2
  refine ⟨?_, hB2⟩
  rw [← HH.out.1]
  rfl
end Go.Proofs.Ytefodifmfjpnlaa
