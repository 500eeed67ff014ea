/- As Turn, where what comes next is known: a range over a function whose iterator itself turns blocks that lay there ahead of the loop (a channel that it empties); the body goes on each time. -/
import Derived.Test.YtbgohcedakpnbaaDoorBase
import Derived.RangeFuncWrites
import Derived.RangeFuncNested
import Derived.RangeFuncBound
import Derived.RangeFuncCalls
import Derived.RangeFuncLeaves
set_option linter.unusedVariables false
namespace Go.Proofs.YtbgohcedakpnbaaDoor
open Go.RowKit
section
variable {F : Fence} {n : Nat} {P : Program}
/-- what is asked of the iterator: it yields what S says; between two yields it makes a turn that Tn allows; Kp is what a round keeps -/
def SeqTurnsN {α : Type} (F : Fence) (n : Nat) (P : Program) (gf : Nat) (lb : Array Value) (encs : α → Array Value) (S : List α → Prop) (Nx : List α → α → Prop) (Tn Kp : World → World → Prop) (N : Nat) (w : World) : Prop :=
  ∀ (l : Nat) (J : List α → World → Prop) (W : World), Below w.heap.size w W → (∀ s A B, J s A → Tn A B → J s B) →
    (∀ pre x W1, J pre W1 → pre.length < N → Nx pre x → YieldAt F (n - 1) P l (encs x) W1 fun e W' => e = .returned (.bool true) ∧ J (pre ++ [x]) W' ∧ Kp W1 W') → J [] W →
    CallsIn F n P gf (#[.func (.yield l) #[] #[]] ++ lb) W fun e W' => (∃ v, e = .returned v) ∧ ∃ xs, S xs ∧ J xs W'
theorem wpIn_rangeFunc_turnN {α : Type} {g : Operand} {ps : Array Tmp} {assign body : Code} {Q : Exit → Act → World → Prop} {a : Act} {w : World}
    (hro : F.round = none) (h1 : 1 ≤ n) {gf : Nat} {lb : Array Value} (hg : a.eval g = .func (.func gf) #[] lb) (hFg : F.fn gf) (eg : ∀ args w, (callFunc gf args).run P w = .ok (.enter gf args) w)
    {encs : α → Array Value} {S : List α → Prop} {Nx : List α → α → Prop} {Tn Kp : World → World → Prop} {N : Nat} (hseq : SeqTurnsN F (n - 1) P gf lb encs S Nx Tn Kp N w) (hps : ∀ x, (encs x).size = ps.size)
    (hKt : ∀ {A B C : World}, Kp A B → Kp B C → Kp A C) (hKb : ∀ (W : World) (l : Nat) (o' : Obj), w.heap.size ≤ l → Kp W (W.putObj l o'))
    (hTn : ∀ A B, Tn A B → ∀ i, w.heap.size ≤ i → B.heap[i]? = A.heap[i]?)
    (I : List α → World → Prop) (hI : OwnFrom w.heap.size I) (hIt : ∀ s A B, I s A → Tn A B → I s B) (h0 : I [] w) (a₁ : α → Act)
    (hassign : ∀ (l : Nat) (x : α) (W : World) (K : Act → World → Prop), K (a₁ x) W →
      assign.wpIn (F.inRound l) (n - 1 - 1) P (Exit.then K (fun _ _ _ => False)) { tmps := (ps.zip (encs x)).foldl (fun t (p, v) => t.setIfInBounds p v) a.tmps, defers := [] } W)
    (hbody : ∀ (l : Nat) (pre : List α) (x : α) (W : World), w.heap.size ≤ l → (∃ r, W.heap[l]? = some (.loop r)) → I pre W → pre.length < N → Nx pre x →
      body.wpIn (F.inRound l) (n - 1 - 1) P (fun e _ W' => e = .normal ∧ KeepsFrom w.heap.size W W' ∧ Kp W W' ∧ I (pre ++ [x]) W') (a₁ x) W)
    (hdone : ∀ (D : Nat) (xs : List α) (W : World), w.heap.size ≤ D → S xs → I xs W → W.heap[D]? = some (.deferred (some [])) → Q .normal { a with defers := { target := .collected D, args := #[] } :: a.defers } W) :
    (Code.rangeFunc g ps assign body).wpIn F n P Q a w := by
  refine wpIn_rangeFunc fun fn hfn => ?_
  rw [hro]
  -- the loop's record: at block w.heap.size + 1; its deferred calls: at block w.heap.size
  let lp (st : LoopState) (pe : Option Code) : Loop := { state := st, pending := pe, fn, tmps := a.tmps, params := ps, assign, body, defers := w.heap.size }
  obtain ⟨W1, hW1⟩ : ∃ W1, W1 = (w.alloc (.deferred (some []))).alloc (.loop (lp .ready none)) := ⟨_, rfl⟩
  have dL : W1.heap[w.heap.size + 1]? = some (.loop (lp .ready none)) := by
    rw [hW1]
    have := World.alloc_heap_new (w.alloc (.deferred (some []))) (.loop (lp .ready none))
    rwa [World.size_alloc] at this
  have dD : W1.heap[w.heap.size]? = some (.deferred (some [])) := by
    rw [hW1]
    exact (Below.heap_alloc _ _ _ (by simp)).trans (World.alloc_heap_new w _)
  have dI : I [] W1 := by rw [hW1]; exact hI.alloc _ (hI.alloc _ h0)
  have dB : Below w.heap.size w W1 := by rw [hW1]; exact ((Below.refl _ w).alloc (Nat.le_refl _) _).alloc (by simp) _
  refine ⟨w.heap.size + 1, [{ target := .collected w.heap.size, args := #[] }], W1, { target := .fn (.func gf) lb, args := #[.func (.yield (w.heap.size + 1)) #[] #[]] }, W1, gf,
    #[.func (.yield (w.heap.size + 1)) #[] #[]] ++ lb, W1, by rw [hW1]; exact run_enterLoop_outer _ _ _ _ _, by simp only [resolve, hg]; simp [go_sem], ?_, by simp [invoke, go_sem, eg], fun _ => h1, ?_⟩
  · intro f' hf'
    simp [Target.leads] at hf'
    subst hf'
    exact hFg
  -- the invariant that goes through the iterator: the caller's, and the two blocks
  refine (hseq (w.heap.size + 1) (fun pre W => I pre W ∧ W.heap[w.heap.size + 1]? = some (.loop (lp .ready none)) ∧ W.heap[w.heap.size]? = some (.deferred (some []))) W1 dB ?_ ?_ ⟨dI, dL, dD⟩).mono ?_
  · rintro s A B ⟨q1, q2, q3⟩ ht
    exact ⟨hIt s A B q1 ht, (hTn A B ht _ (by omega)).trans q2, (hTn A B ht _ (Nat.le_refl _)).trans q3⟩
  · rintro pre x W ⟨q1, q2, q3⟩ hlen hnx
    have lt1 : w.heap.size + 1 < W.heap.size := (Array.getElem?_eq_some_iff.1 q2).1
    refine ⟨fn, _, assign, body, run_yield (P := P) (args := encs x) q2 (hps x), roundIn_of_wpIn hfn (hassign _ x W _ ?_)⟩
    refine ⟨_, run_beginRound q2 rfl, ?_⟩
    have b2 : (W.putObj (w.heap.size + 1) (.loop { lp .ready none with state := .busy })).heap[w.heap.size + 1]? = some (.loop { lp .ready none with state := .busy }) := World.putObj_heap_same lt1
    have b3 : (W.putObj (w.heap.size + 1) (.loop { lp .ready none with state := .busy })).heap[w.heap.size]? = some (.deferred (some [])) := (World.putObj_heap_other (by omega)).trans q3
    refine wpIn_mono (hbody _ pre x _ (by omega) ⟨_, b2⟩ (hI.putObj _ q1 (by omega) q2 rfl) hlen hnx) ?_
    rintro e a3 W3 ⟨rfl, k1, k2, k3⟩
    have c2 := k1.same _ _ (by omega) b2 rfl
    have c3 := k1.same _ _ (Nat.le_refl _) b3 rfl
    have hend := run_endRound (P := P) none c2
    exact ⟨_, _, hend, rfl, ⟨hI.putObj _ k3 (by omega) c2 rfl, World.putObj_heap_same (Array.getElem?_eq_some_iff.1 c2).1, (World.putObj_heap_other (by omega)).trans c3⟩, hKt (hKt (hKb _ _ _ (by omega)) k2) (hKb _ _ _ (by omega))⟩
  · rintro e W2 ⟨⟨v, rfl⟩, xs, hS, q1, q2, q3⟩
    exact ⟨none, _, run_endLoop (P := P) q2 (by simp [lp]), hdone _ xs _ (Nat.le_refl _) hS (hI.putObj _ q1 (by omega) q2 rfl) ((World.putObj_heap_other (by omega)).trans q3)⟩
end
end Go.Proofs.YtbgohcedakpnbaaDoor
