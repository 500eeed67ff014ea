/- A region that draws its order and whose last operation (number z) stores into what others of it read: a condition S on the world that holds ahead of z. -/
import Derived.Test.YtbgohcedakpnbaaDoorMem
import Derived.Deep.RegionHeld
import Derived.Laws.Rows
set_option linter.unusedVariables false
namespace Go.Proofs.YtbgohcedakpnbaaDoor
section
variable {P : Program} {ops : Array Oper} {Q : Exit → Act → World → Prop} {md : Region.Mode} {S : World → Prop} {z : Nat}
/-- in whatever order the rest comes up, S holds behind each operation but number z -/
def wpAnyZ (P : Program) (md : Region.Mode) (ops : Array Oper) (Q : Exit → Act → World → Prop) (S : World → Prop) (z : Nat) : Nat → Array Bool → Act → World → Prop
  | 0, l, a, w => Region.ready md ops l = [] ∧ Q .normal a w
  | k + 1, l, a, w => (Region.ready md ops l = [] → Q .normal a w) ∧
      ∀ i ∈ Region.ready md ops l, wpOp P ops Q i (fun a' w' => (i ≠ z → S w') ∧ wpAnyZ P md ops Q S z k (l.setIfInBounds i true) a' w') a w
theorem wpAny_of_Z (k : Nat) : ∀ (l : Array Bool) (a : Act) (w : World), wpAnyZ P md ops Q S z k l a w → wpAny P md ops Q k l a w := by
  induction k with
  | zero => exact fun _ _ _ h => h
  | succ k ih => exact fun l a w h => ⟨h.1, fun i hi => wpOp_mono (fun a' w' h' => ih _ a' w' h'.2) (h.2 i hi)⟩
/-- number z waits for number i -/
def waitsFor (md : Region.Mode) (ops : Array Oper) (z i : Nat) : Bool := ((ops[z]?).map fun o => o.after.any fun e => Region.binds md e && e.on == i).getD false
theorem not_ready_of_waits {i : Nat} {l : Array Bool} (h : waitsFor md ops z i = true) (hi : i ∈ Region.ready md ops l) : z ∉ Region.ready md ops l := by
  intro hz
  have h0 := (mem_ready.1 hi).1
  obtain ⟨_, o, ho, hall⟩ := mem_ready.1 hz
  simp only [waitsFor, ho, Option.map_some, Option.getD_some, ← Array.any_toList, List.any_eq_true, Bool.and_eq_true, beq_iff_eq] at h
  obtain ⟨e, he, hb, rfl⟩ := h
  replace he : e ∈ o.after := by simpa using he
  have h1 := hall e he hb
  rcases Nat.lt_or_ge e.on l.size with h' | h'
  · simp [h'] at h0 h1; rw [h0] at h1; cases h1
  · simp [Array.getElem?_eq_none h'] at h1
theorem wpAnyZ_take {i : Nat} {oi : Oper} {v : Value} (k : Nat) (hi : ops[i]? = some oi) (hs : Region.noSelect ops = true) (hz : waitsFor md ops z i = true)
    (hQ : ∀ c a w, Q (.panic c) (a.put oi.dst v) w → Q (.panic c) a w) :
    ∀ (l : Array Bool) (a : Act) (w : World), Region.free md ops l i = true → (Region.ready md ops l).contains i = true → YieldsIf P ops S oi v a → S w →
      wpAnyZ P md ops Q S z k (l.setIfInBounds i true) (a.put oi.dst v) w → wpAnyZ P md ops Q S z (k + 1) l a w := by
  have hsel := Region.noSelect_spec hs
  suffices main : ∀ (k : Nat) (l : Array Bool) (a : Act) (w : World), (∀ j oj, ops[j]? = some oj → j ≠ i → l.getD j true = false → (∀ e ∈ oj.after, Region.binds md e = true → e.on ≠ i) → oi.apart ops oj = true) →
      i ∈ Region.ready md ops l → YieldsIf P ops S oi v a → S w → wpAnyZ P md ops Q S z k (l.setIfInBounds i true) (a.put oi.dst v) w → wpAnyZ P md ops Q S z (k + 1) l a w by
    intro l a w hf hr hy hS h
    exact main k l a w (Region.free_spec hi hf) (by simpa using hr) hy hS h
  intro k
  induction k with
  | zero =>
    intro l a w _ hr hy hS H
    refine ⟨fun h => (by rw [h] at hr; cases hr), fun j hj => ?_⟩
    by_cases hji : j = i
    · subst hji; exact hy.wpOp hi hS ⟨fun _ => hS, H⟩
    · have h1 := ready_mono hj hji
      rw [H.1] at h1
      cases h1
  | succ k ih =>
    intro l a w hfree hr hy hS H
    refine ⟨fun h => (by rw [h] at hr; cases hr), fun j hj => ?_⟩
    by_cases hji : j = i
    · subst hji; exact hy.wpOp hi hS ⟨fun _ => hS, H⟩
    · have hjz : j ≠ z := fun e => not_ready_of_waits hz hr (e ▸ hj)
      obtain ⟨hjun, oj, hoj, hall⟩ := mem_ready.1 hj
      have hnot : ∀ e ∈ oj.after, Region.binds md e = true → e.on ≠ i := fun e he hb heq => by
        have h1 := hall e he hb
        have h0 := (mem_ready.1 hr).1
        rw [heq] at h1
        rcases Nat.lt_or_ge i l.size with h' | h'
        · simp [h'] at h0 h1; rw [h0] at h1; cases h1
        · simp [Array.getElem?_eq_none h'] at h1
      have h2 := wpOp_putIf hoj (hfree j oj hoj hji hjun hnot) (fun cs b => hsel i oi cs b hi) (fun cs b => hsel j oj cs b hoj) hQ hy (H.2 j (ready_mono hj hji))
      refine wpOp_mono (fun a' w' h3 => ⟨h3.2.1, ih (l.setIfInBounds j true) a' w' ?_ (ready_mono hr (Ne.symm hji)) h3.1 (h3.2.1 hjz) ?_⟩) h2
      · intro m om hom hmi hun hno
        refine hfree m om hom hmi ?_ hno
        by_cases hjm : j = m
        · subst hjm; exact hjun
        · rw [getD_set_ne true hjm] at hun; exact hun
      · rw [Array.setIfInBounds_comm _ _ hji]
        exact h3.2.2
/-- the operations rs come up next -/
def AllReadyZ (P : Program) (md : Region.Mode) (ops : Array Oper) (Q : Exit → Act → World → Prop) (S : World → Prop) (z k : Nat) (l : Array Bool) (a : Act) (w : World) (rs : List Nat) : Prop :=
  ∀ i ∈ rs, wpOp P ops Q i (fun a' w' => (i ≠ z → S w') ∧ wpAnyZ P md ops Q S z k (l.setIfInBounds i true) a' w') a w
theorem AllReadyZ.nil {k : Nat} {l : Array Bool} {a : Act} {w : World} : AllReadyZ P md ops Q S z k l a w [] := fun _ h => by cases h
theorem AllReadyZ.cons {k : Nat} {l : Array Bool} {a : Act} {w : World} {i : Nat} {o : Oper} {rs : List Nat} (ho : ops[i]? = some o) (hiz : i ≠ z)
    (h : ∀ K' : Act → World → Prop, Shut (∀ a w, S w → (S w → wpAnyZ P md ops Q S z k (l.setIfInBounds i true) a w) → K' a w) → if Region.wanted o (yielded ops a.tmps) = true then Oper.wp P o a w K' Q else K' (a.put o.dst undef) w)
    (hs : AllReadyZ P md ops Q S z k l a w rs) : AllReadyZ P md ops Q S z k l a w (i :: rs) := fun j hj => by
  rcases List.mem_cons.1 hj with rfl | hj
  · exact wpOp_step ho (fun K' hK => h K' (fun a w hS hW => hK a w ⟨fun _ => hS, hW hS⟩))
  · exact hs j hj
theorem wpAnyZ_ready {rs : List Nat} {k : Nat} {l : Array Bool} {a : Act} {w : World} (hr : Region.ready md ops l = rs) (hne : rs ≠ [])
    (h : AllReadyZ P md ops Q S z k l a w rs) : wpAnyZ P md ops Q S z (k + 1) l a w := ⟨fun h0 => absurd (hr ▸ h0) hne, hr ▸ h⟩
/-- number z, behind which nothing comes -/
theorem wpAnyZ_last {k : Nat} {l : Array Bool} {a : Act} {w : World} {o : Oper} (hr : Region.ready md ops l = [z]) (ho : ops[z]? = some o) (hd : Region.ready md ops (l.setIfInBounds z true) = [])
    (h : if Region.wanted o (yielded ops a.tmps) = true then Oper.wp P o a w (fun a' w' => Q .normal a' w') Q else Q .normal (a.put o.dst undef) w) : wpAnyZ P md ops Q S z (k + 1) l a w := by
  refine ⟨fun h0 => (by rw [hr] at h0; cases h0), fun i hi => ?_⟩
  rw [hr] at hi
  rw [List.mem_singleton] at hi
  subst hi
  have hn : ∀ a' w', Q .normal a' w' → (i ≠ i → S w') ∧ wpAnyZ P md ops Q S i k (l.setIfInBounds i true) a' w' := fun a' w' hq =>
    ⟨fun h => absurd rfl h, by cases k with | zero => exact ⟨hd, hq⟩ | succ k => exact ⟨fun _ => hq, by rw [hd]; simp⟩⟩
  refine wpOp_step ho fun K' hK => ?_
  split
  · rename_i hw
    rw [if_pos hw] at h
    exact Oper.wp_mono (fun a' w' hq => hK a' w' (hn a' w' hq)) h
  · rename_i hw
    rw [if_neg hw] at h
    exact hK _ _ (hn _ _ h)
/-- the beginning -/
theorem wp_region_Z {id : Nat} {a : Act} {w : World} (z : Nat) (S : World → Prop) (hm : P.follows .mixedOrders = true) (h : wpAnyZ P .any ops Q S z ops.size (Array.replicate ops.size false) a w.drew) : (Code.region id ops true).wp P Q a w :=
  wp_region_any hm (wpAny_of_Z _ _ _ _ h)
/-- a whole row loaded, in every world that has it -/
theorem yields_row {o : Oper} {a : Act} (ty : TypeId) (x : Operand) (ho : o.op = .load ty x) (hgd : o.guard = none) (g : Nat) (hx : a.eval x = .pointer (some ⟨g, 0, none⟩)) (t : TypeId) (cs : Array Value) (d : TypeDesc)
    (hu : P.underlying ty = some d) (hd : (match d with | .struct _ | .array _ _ => true | _ => false) = true) (hi : (P.info? ty).map (·.size) = some cs.size) (hS : ∀ w, S w → w.heap[g]? = some (.cells cs t (0, 0))) :
    YieldsIf P ops S o (.agg cs) a := by
  refine Or.inl ⟨by simp [Region.wanted, hgd], fun w hw => ?_⟩
  unfold execOp
  simp only [ho, hx, Instr.loadAt, Instr.sureAddr, Sem.run_bind, Sem.run_pure, Result.andThen_ok, run_loadVar_row w g t ty cs (0, 0) d (hS w hw) hu hd hi]
end
end Go.Proofs.YtbgohcedakpnbaaDoor
