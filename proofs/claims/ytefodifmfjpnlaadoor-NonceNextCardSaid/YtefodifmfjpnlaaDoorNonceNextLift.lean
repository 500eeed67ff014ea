/- NonceNext, for every input: what the walk gives. -/
import Derived.Test.YtefodifmfjpnlaaDoorNonceNext
import Derived.Test.YtefodifmfjpnlaaDoorNonDoor
set_option linter.unusedVariables false
namespace Go.Proofs.YtefodifmfjpnlaaDoor
open Go.RowKit Go.ChangeShapes Go.WideShapes Go.ChangeAt Go.Deep
set_option maxRecDepth 100000 in
theorem nonceNext_lifted (os : Os) (started : os.Started) (H : Type) (enc : TypeId × Value → H) :
    ReturnsInHanded {} Tryd.checked os 4 .any (fun w args => (Rows.nonceNextSpec.pre enc Tryd.prog Tryd.f4 [] false w args ∧ laidMetH Tryd.prog laidR w) ∧ sizedMet enc Tryd.prog Tryd.f4 (OpenSpec.ofChange Rows.nonceNextSpec) false w args)
      (Rows.nonceNextSpec.post enc Tryd.prog Tryd.f4 false true false false) := by
  refine returnsInHanded_of_change_and (C := Tryd.checked) (X := fun w _ => laidMetH Tryd.prog laidR w) (fun _ _ _ hh h => h.of_heap hh) own started (by as_aux_lemma => kernel_rfl) Tryd.func4
    (ChangeSpec.witness_shaped (enc := enc) (C := Tryd.checked) (os := os) (X := fun w _ => laidMetH Tryd.prog laidR w) false (World.doorLaid Tryd.prog 400 os) #[.agg #[.slice none 0 0, .slice none 0 0], .agg #[.int .i64 0, .int .i64 0, .int .i64 0], .int .i64 0] 8 rfl (World.shaped_of_RefB (by as_aux_lemma => kernel_rfl) (by as_aux_lemma => kernel_rfl)) (by as_aux_lemma => kernel_rfl) (by as_aux_lemma => kernel_rfl) (by as_aux_lemma => kernel_rfl) (door_met os _)) ?_
  intro W base args ds gs before hval0 hW hcnd hsz hL _
  have hval : ∀ (j : Nat) t v, Tryd.f4.params[j]? = some t → args[j]? = some v → Value.okWide Tryd.prog W .any base t v := hval0
  have hW' := hW
  obtain ⟨p, q, hA0, hV, rfl, hfz, hnd⟩ := hW
  have hA : DataW.TrodAll enc Tryd.prog W 0 (fun _ => true) true Tryd.f4.params.toList args.toList ds p := hA0
  rw [Tryd.params4] at hA hval hsz
  obtain ⟨v0, vs0, d0, ds0, p0, q0, hargs, rfl, rfl, h0, r0⟩ := trodAll_cons hA
  obtain ⟨v1, vs1, d1, ds1, p1, q1, rfl, rfl, rfl, h1, r1⟩ := trodAll_cons r0
  obtain ⟨v2, vs2, d2, ds2, p2, q2, rfl, rfl, rfl, h2, r2⟩ := trodAll_cons r1
  obtain ⟨rfl, rfl, rfl⟩ := trodAll_nil r2
  obtain rfl : args = #[v0, v1, v2] := by cases args; simp_all
  obtain ⟨rfl, rfl⟩ := trodVars_none hV
  have hG := pows_of_laid hL
  have k0 := h0
  have lt0 : ∀ x ∈ p0, x.block < W.heap.size := by obtain ⟨m, hm⟩ := k0; exact DataW.trod_lt m _ _ _ hm
  have k1 := h1
  have lt1 : ∀ x ∈ p1, x.block < W.heap.size := by obtain ⟨m, hm⟩ := k1; exact DataW.trod_lt m _ _ _ hm
  have k2 := h2
  have lt2 : ∀ x ∈ p2, x.block < W.heap.size := by obtain ⟨m, hm⟩ := k2; exact DataW.trod_lt m _ _ _ hm
  obtain ⟨pl, PA, pc, PA2, pc2, rfl, hp1, hp2, hp3, hp4, hp5⟩ := open_plat (hval 0 25 v0 rfl rfl) h0 (light_arg hsz (j := 0) rfl rfl)
  obtain ⟨so, rfl⟩ := open_src (hval 1 28 v1 rfl rfl) h1
  obtain ⟨b, rfl, hb⟩ := open_i64 (hval 2 3 v2 rfl rfl) h2
  clear hA0 hval0
  refine (nnext_law pl so b PA PA2 pc pc2 W (hp1.out W (Below.refl _ _)) hG).mono fun e W' ⟨he, bel⟩ => ?_
  subst he
  exact ⟨_, rfl, _, _, _, [], _, [], hW', trodAll_mk1 (shut_bool Tryd.underlying4 _), (trodAll_cons_mk (Below.trod laidOut (by as_aux_lemma => kernel_rfl) (of_decide_eq_true (by as_aux_lemma => kernel_rfl)) k0 bel lt0) (trodAll_cons_mk (Below.trod laidOut (by as_aux_lemma => kernel_rfl) (of_decide_eq_true (by as_aux_lemma => kernel_rfl)) k1 bel lt1) (trodAll_cons_mk (Below.trod laidOut (by as_aux_lemma => kernel_rfl) (of_decide_eq_true (by as_aux_lemma => kernel_rfl)) k2 bel lt2) trodAll_mk0))), rfl, bel.frame _, fun h => by cases h⟩
end Go.Proofs.YtefodifmfjpnlaaDoor
