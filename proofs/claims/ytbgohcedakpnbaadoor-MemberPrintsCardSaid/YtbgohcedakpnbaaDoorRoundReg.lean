/- A region that draws its order, in a round of a range over a function: walked by the plain laws (Z: its last operation stores). -/
import Derived.Test.YtbgohcedakpnbaaDoorOrder
import Derived.RangeFuncCalls
import Derived.OrdersIn
set_option linter.unusedVariables false
namespace Go.Proofs.YtbgohcedakpnbaaDoor
section
variable {P : Program} {ops : Array Oper} {Q : Exit → Act → World → Prop} {md : Region.Mode} {n l : Nat}
/-- the end of a region that ends as it should -/
def Calm (Q : Exit → Act → World → Prop) (e : Exit) (a : Act) (w : World) : Prop := e = .normal ∧ Q .normal a w
theorem Calm.out (h : LetsOut (Calm Q)) : False := by
  obtain ⟨a, w, h, _⟩ := h
  cases h
theorem wpOp_round (hnd : ∀ (i : Nat) (o : Oper), ops[i]? = some o → ∀ c : Call, o.op ≠ .defer c) {K K' : Act → World → Prop} (hK : ∀ a w, K a w → K' a w) (i : Nat) (a : Act) (w : World) (h : wpOp P ops (Calm Q) i K a w) :
    wpOpIn (Fence.wide.inRound l) n P ops Q i K' a w := by
  unfold wpOp at h
  unfold wpOpIn
  cases ho : ops[i]? with
  | none => rw [ho] at h; exact hK _ _ h
  | some o =>
    rw [ho] at h
    simp only at h ⊢
    split
    · rename_i hw
      rw [if_pos hw] at h
      rcases h with h | h
      · unfold Oper.wp at h
        unfold Oper.wpIn
        refine ⟨fun _ _ => trivial, ?_⟩
        rw [Oper.semAt_eq _ _ _ (hnd i o ho)]
        generalize (execOp a.eval o).run P w = r at *
        cases r with
        | ok x w' =>
          cases x <;> simp only [Oper.upon, Oper.uponIn] at h ⊢
          case value => exact hK _ _ h
          case skip => exact hK _ _ h
          case defer => exact hK _ _ h
          case enter =>
            refine ⟨fun hf => (by cases hf), CallsIn.inRound l ((callsIn_wide.2 h).mono ?_)⟩
            intro e w'' he
            cases e with
            | returned v => exact hK _ _ he
            | panicked c => cases he.1
            | outgrown => exact (Calm.out he).elim
          case row =>
            refine ⟨fun hf => (by cases hf), fun c cs _ => ?_⟩
            obtain ⟨v, w'', hr, hs⟩ := h c cs
            exact ⟨v, w'', hK _ _ hr, (stepsIn_wide (P := P)).2 hs⟩
        | halt x w' =>
          cases x <;> simp only [Oper.upon, Oper.uponIn] at h ⊢
          cases h.1
      · exact (Calm.out h.2).elim
    · rename_i hw
      rw [if_neg hw] at h
      exact ⟨fun _ _ => trivial, hK _ _ h⟩
theorem wpAny_round (hnd : ∀ (i : Nat) (o : Oper), ops[i]? = some o → ∀ c : Call, o.op ≠ .defer c) (k : Nat) : ∀ (li : Array Bool) (a : Act) (w : World), wpAny P md ops (Calm Q) k li a w → wpAnyIn (Fence.wide.inRound l) n P md ops Q k li a w := by
  induction k with
  | zero => exact fun _ _ _ h => ⟨h.1, h.2.2⟩
  | succ k ih => exact fun li a w h => ⟨fun h0 => (h.1 h0).2, fun i hi => wpOp_round hnd (fun a' w' h' => ih _ a' w' h') i a w (h.2 i hi)⟩
/-- no operation is a defer statement -/
def noDefer (ops : Array Oper) : Bool := ops.all fun o => match o.op with | .defer _ => false | _ => true
theorem noDefer_spec (h : noDefer ops = true) : ∀ (i : Nat) (o : Oper), ops[i]? = some o → ∀ c : Call, o.op ≠ .defer c := by
  intro i o ho c hc
  have h1 := (Array.all_eq_true_iff_forall_mem.1 h) o (Array.mem_of_getElem? ho)
  rw [hc] at h1
  cases h1
/-- the beginning -/
theorem wpIn_round_Z {id : Nat} {a : Act} {w : World} (z : Nat) (S : World → Prop) (hm : P.follows .mixedOrders = true) (hd : noDefer ops = true) (h : wpAnyZ P .any ops (Calm Q) S z ops.size (Array.replicate ops.size false) a w.drew) : (Code.region id ops true).wpIn (Fence.wide.inRound l) n P Q a w :=
  wpIn_region_any hm (wpAny_round (noDefer_spec hd) _ _ _ _ (wpAny_of_Z _ _ _ _ h))
end
end Go.Proofs.YtbgohcedakpnbaaDoor
/- As RoundReg, where the region may panic. -/
namespace Go.Proofs.YtbgohcedakpnbaaDoor
section
variable {P : Program} {ops : Array Oper} {Q : Exit → Act → World → Prop} {md : Region.Mode} {n l : Nat}
/-- the end of a region that ends as it should, or panics -/
def CalmP (Q : Exit → Act → World → Prop) (e : Exit) (a : Act) (w : World) : Prop := (e = .normal ∨ ∃ c, e = .panic c) ∧ Q e a w
theorem CalmP.out (h : LetsOut (CalmP Q)) : False := by
  obtain ⟨a, w, h, _⟩ := h
  rcases h with h | ⟨c, h⟩ <;> cases h
theorem wpOp_roundP (hnd : ∀ (i : Nat) (o : Oper), ops[i]? = some o → ∀ c : Call, o.op ≠ .defer c) {K K' : Act → World → Prop} (hK : ∀ a w, K a w → K' a w) (i : Nat) (a : Act) (w : World) (h : wpOp P ops (CalmP Q) i K a w) :
    wpOpIn (Fence.wide.inRound l) n P ops Q i K' a w := by
  unfold wpOp at h
  unfold wpOpIn
  cases ho : ops[i]? with
  | none => rw [ho] at h; exact hK _ _ h
  | some o =>
    rw [ho] at h
    simp only at h ⊢
    split
    · rename_i hw
      rw [if_pos hw] at h
      rcases h with h | h
      · unfold Oper.wp at h
        unfold Oper.wpIn
        refine ⟨fun _ _ => trivial, ?_⟩
        rw [Oper.semAt_eq _ _ _ (hnd i o ho)]
        generalize (execOp a.eval o).run P w = r at *
        cases r with
        | ok x w' =>
          cases x <;> simp only [Oper.upon, Oper.uponIn] at h ⊢
          case value => exact hK _ _ h
          case skip => exact hK _ _ h
          case defer => exact hK _ _ h
          case enter =>
            refine ⟨fun hf => (by cases hf), CallsIn.inRound l ((callsIn_wide.2 h).mono ?_)⟩
            intro e w'' he
            cases e with
            | returned v => exact hK _ _ he
            | panicked c => exact he.2
            | outgrown => exact (CalmP.out he).elim
          case row =>
            refine ⟨fun hf => (by cases hf), fun c cs _ => ?_⟩
            obtain ⟨v, w'', hr, hs⟩ := h c cs
            exact ⟨v, w'', hK _ _ hr, (stepsIn_wide (P := P)).2 hs⟩
        | halt x w' =>
          cases x <;> simp only [Oper.upon, Oper.uponIn] at h ⊢
          all_goals exact h.2
      · exact (CalmP.out h.2).elim
    · rename_i hw
      rw [if_neg hw] at h
      exact ⟨fun _ _ => trivial, hK _ _ h⟩
theorem wpAny_roundP (hnd : ∀ (i : Nat) (o : Oper), ops[i]? = some o → ∀ c : Call, o.op ≠ .defer c) (k : Nat) : ∀ (li : Array Bool) (a : Act) (w : World), wpAny P md ops (CalmP Q) k li a w → wpAnyIn (Fence.wide.inRound l) n P md ops Q k li a w := by
  induction k with
  | zero => exact fun _ _ _ h => ⟨h.1, h.2.2⟩
  | succ k ih => exact fun li a w h => ⟨fun h0 => (h.1 h0).2, fun i hi => wpOp_roundP hnd (fun a' w' h' => ih _ a' w' h') i a w (h.2 i hi)⟩
/-- the beginning -/
theorem wpIn_round_ZP {id : Nat} {a : Act} {w : World} (z : Nat) (S : World → Prop) (hm : P.follows .mixedOrders = true) (hd : noDefer ops = true) (h : wpAnyZ P .any ops (CalmP Q) S z ops.size (Array.replicate ops.size false) a w.drew) : (Code.region id ops true).wpIn (Fence.wide.inRound l) n P Q a w :=
  wpIn_region_any hm (wpAny_roundP (noDefer_spec hd) _ _ _ _ (wpAny_of_Z _ _ _ _ h))
end
end Go.Proofs.YtbgohcedakpnbaaDoor
