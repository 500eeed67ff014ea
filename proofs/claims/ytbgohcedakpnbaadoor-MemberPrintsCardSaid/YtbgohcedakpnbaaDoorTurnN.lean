/- As Turn, where what comes next is known: a range over a function whose iterator itself turns blocks that lay there ahead of the loop (a channel that it empties); the body goes on each time. -/
import Derived.Test.YtbgohcedakpnbaaDoorBase
import Derived.RangeFuncWrites
import Derived.RangeFuncNested
import Derived.RangeFuncBound
import Derived.RangeFuncCalls
import Derived.RangeFuncLeaves
set_option linter.unusedVariables false
namespace Go.Proofs.YtbgohcedakpnbaaDoor
open Go.RowKit
section
variable {F : Fence} {n : Nat} {P : Program}
/-- what is asked of the iterator: it yields what S says; between two yields it makes a turn that Tn allows; Kp is what a round keeps -/
def SeqTurnsN {α : Type} (F : Fence) (n : Nat) (P : Program) (gf : Nat) (lb : Array Value) (encs : α → Array Value) (S : List α → Prop) (Nx : List α → α → Prop) (Tn Kp : World → World → Prop) (N : Nat) (w : World) : Prop :=
  ∀ (l : Nat) (J : List α → World → Prop) (W : World), Below w.heap.size w W → (∀ s A B, J s A → Tn A B → J s B) →
    (∀ pre x W1, J pre W1 → pre.length < N → Nx pre x → YieldAt F (n - 1) P l (encs x) W1 fun e W' => e = .returned (.bool true) ∧ J (pre ++ [x]) W' ∧ Kp W1 W') → J [] W →
    CallsIn F n P gf (#[.func (.yield l) #[] #[]] ++ lb) W fun e W' => (∃ v, e = .returned v) ∧ ∃ xs, S xs ∧ J xs W'
theorem wpIn_rangeFunc_turnN {α : Type} {g : Operand} {ps : Array Tmp} {assign body : Code} {Q : Exit → Act → World → Prop} {a : Act} {w : World}
    (hro : F.round = none) (h1 : 1 ≤ n) {gf : Nat} {lb : Array Value} (hg : a.eval g = .func (.func gf) #[] lb) (hFg : F.fn gf) (eg : ∀ args w, (callFunc gf args).run P w = .ok (.enter gf args) w)
    {encs : α → Array Value} {S : List α → Prop} {Nx : List α → α → Prop} {Tn Kp : World → World → Prop} {N : Nat} (hseq : SeqTurnsN F (n - 1) P gf lb encs S Nx Tn Kp N w) (hps : ∀ x, (encs x).size = ps.size)
    (hKt : ∀ {A B C : World}, Kp A B → Kp B C → Kp A C) (hKb : ∀ (W : World) (l : Nat) (o' : Obj), w.heap.size ≤ l → Kp W (W.putObj l o'))
    (hTn : ∀ A B, Tn A B → ∀ i, w.heap.size ≤ i → B.heap[i]? = A.heap[i]?)
    (I : List α → World → Prop) (hI : OwnFrom w.heap.size I) (hIt : ∀ s A B, I s A → Tn A B → I s B) (h0 : I [] w) (a₁ : α → Act)
    (hassign : ∀ (l : Nat) (x : α) (W : World) (K : Act → World → Prop), K (a₁ x) W →
      assign.wpIn (F.inRound l) (n - 1 - 1) P (Exit.then K (fun _ _ _ => False)) { tmps := (ps.zip (encs x)).foldl (fun t (p, v) => t.setIfInBounds p v) a.tmps, defers := [] } W)
    (hbody : ∀ (l : Nat) (pre : List α) (x : α) (W : World), w.heap.size ≤ l → (∃ r, W.heap[l]? = some (.loop r)) → I pre W → pre.length < N → Nx pre x →
      body.wpIn (F.inRound l) (n - 1 - 1) P (fun e _ W' => e = .normal ∧ KeepsFrom w.heap.size W W' ∧ Kp W W' ∧ I (pre ++ [x]) W') (a₁ x) W)
    (hdone : ∀ (D : Nat) (xs : List α) (W : World), w.heap.size ≤ D → S xs → I xs W → W.heap[D]? = some (.deferred (some [])) → Q .normal { a with defers := { target := .collected D, args := #[] } :: a.defers } W) :
    (Code.rangeFunc g ps assign body).wpIn F n P Q a w := by
  refine wpIn_rangeFunc fun fn hfn => ?_
  rw [hro]
  -- the loop's record: at block w.heap.size + 1; its deferred calls: at block w.heap.size
  let lp (st : LoopState) (pe : Option Code) : Loop := { state := st, pending := pe, fn, tmps := a.tmps, params := ps, assign, body, defers := w.heap.size }
  obtain ⟨W1, hW1⟩ : ∃ W1, W1 = (w.alloc (.deferred (some []))).alloc (.loop (lp .ready none)) := ⟨_, rfl⟩
  have dL : W1.heap[w.heap.size + 1]? = some (.loop (lp .ready none)) := by
    rw [hW1]
    have := World.alloc_heap_new (w.alloc (.deferred (some []))) (.loop (lp .ready none))
    rwa [World.size_alloc] at this
  have dD : W1.heap[w.heap.size]? = some (.deferred (some [])) := by
    rw [hW1]
    exact (Below.heap_alloc _ _ _ (by simp)).trans (World.alloc_heap_new w _)
  have dI : I [] W1 := by rw [hW1]; exact hI.alloc _ (hI.alloc _ h0)
  have dB : Below w.heap.size w W1 := by rw [hW1]; exact ((Below.refl _ w).alloc (Nat.le_refl _) _).alloc (by simp) _
  refine ⟨w.heap.size + 1, [{ target := .collected w.heap.size, args := #[] }], W1, { target := .fn (.func gf) lb, args := #[.func (.yield (w.heap.size + 1)) #[] #[]] }, W1, gf,
    #[.func (.yield (w.heap.size + 1)) #[] #[]] ++ lb, W1, by rw [hW1]; exact run_enterLoop_outer _ _ _ _ _, by simp only [resolve, hg]; simp [go_sem], ?_, by simp [invoke, go_sem, eg], fun _ => h1, ?_⟩
  · intro f' hf'
    simp [Target.leads] at hf'
    subst hf'
    exact hFg
  -- the invariant that goes through the iterator: the caller's, and the two blocks
  refine (hseq (w.heap.size + 1) (fun pre W => I pre W ∧ W.heap[w.heap.size + 1]? = some (.loop (lp .ready none)) ∧ W.heap[w.heap.size]? = some (.deferred (some []))) W1 dB ?_ ?_ ⟨dI, dL, dD⟩).mono ?_
  · rintro s A B ⟨q1, q2, q3⟩ ht
    exact ⟨hIt s A B q1 ht, (hTn A B ht _ (by omega)).trans q2, (hTn A B ht _ (Nat.le_refl _)).trans q3⟩
  · rintro pre x W ⟨q1, q2, q3⟩ hlen hnx
    have lt1 : w.heap.size + 1 < W.heap.size := (Array.getElem?_eq_some_iff.1 q2).1
    refine ⟨fn, _, assign, body, run_yield (P := P) (args := encs x) q2 (hps x), roundIn_of_wpIn hfn (hassign _ x W _ ?_)⟩
    refine ⟨_, run_beginRound q2 rfl, ?_⟩
    have b2 : (W.putObj (w.heap.size + 1) (.loop { lp .ready none with state := .busy })).heap[w.heap.size + 1]? = some (.loop { lp .ready none with state := .busy }) := World.putObj_heap_same lt1
    have b3 : (W.putObj (w.heap.size + 1) (.loop { lp .ready none with state := .busy })).heap[w.heap.size]? = some (.deferred (some [])) := (World.putObj_heap_other (by omega)).trans q3
    refine wpIn_mono (hbody _ pre x _ (by omega) ⟨_, b2⟩ (hI.putObj _ q1 (by omega) q2 rfl) hlen hnx) ?_
    rintro e a3 W3 ⟨rfl, k1, k2, k3⟩
    have c2 := k1.same _ _ (by omega) b2 rfl
    have c3 := k1.same _ _ (Nat.le_refl _) b3 rfl
    have hend := run_endRound (P := P) none c2
    exact ⟨_, _, hend, rfl, ⟨hI.putObj _ k3 (by omega) c2 rfl, World.putObj_heap_same (Array.getElem?_eq_some_iff.1 c2).1, (World.putObj_heap_other (by omega)).trans c3⟩, hKt (hKt (hKb _ _ _ (by omega)) k2) (hKb _ _ _ (by omega))⟩
  · rintro e W2 ⟨⟨v, rfl⟩, xs, hS, q1, q2, q3⟩
    exact ⟨none, _, run_endLoop (P := P) q2 (by simp [lp]), hdone _ xs _ (Nat.le_refl _) hS (hI.putObj _ q1 (by omega) q2 rfl) ((World.putObj_heap_other (by omega)).trans q3)⟩
end
end Go.Proofs.YtbgohcedakpnbaaDoor
/- A range over a function whose round, or iterator, may panic: what is asked, and what is given (at the frame that ranges, of which the program knows the function). -/
namespace Go.Proofs.YtbgohcedakpnbaaDoor
open Go.RowKit
section
variable {F : Fence} {n : Nat} {P : Program}
/-- what is asked at a round's end, where its body goes on, or panics -/
def roundPostP (P : Program) (l : Nat) (R : Ending → World → Prop) : Exit → Act → World → Prop
  | .normal, _, w => ∃ v w', (Instr.endRound l none).run P w = .ok v w' ∧ R (.returned v) w'
  | .panic chain, a, w => a.defers = [] ∧ R (.panicked chain) w
  | _, _, _ => False
theorem roundInP_of_wpIn {l : Nat} {f : FuncId} {tmps : Array Value} {assign body : Code} {w : World} {R : Ending → World → Prop} (hF : F.fn f) {fd : Func} (hfd : P.funcs[f]? = some fd)
    (h : assign.wpIn (F.inRound l) n P (Exit.then (fun a₁ w₁ => ∃ w₂, (Instr.beginRound l).run P w₁ = .ok () w₂ ∧ body.wpIn (F.inRound l) n P (roundPostP P l R) a₁ w₂) (fun _ _ _ => False))
      { tmps := tmps, defers := [] } w) :
    RoundIn F n P l f tmps assign body w R := by
  refine ⟨hF, fun c cs hr => ?_⟩
  let b : Frame := { (default : Frame) with fn := f, kind := .normal, roundOf := some l }
  have hb0 : Frame.round l f tmps assign body .normal = b.atR { tmps := tmps, defers := [] } [.code assign, .beginRound, .code body] := by
    simp [Frame.round, Frame.atR, b]
  have hr' : (F.inRound l).room ((c :: cs).length + 1 + n) := hr
  have hF' : (F.inRound l).fn b.fn := hF
  obtain ⟨e, a₁, w₁, hq, harr⟩ := h b [.beginRound, .code body] (c :: cs) rfl hF' hr'
  rw [← hb0] at harr
  cases e with
  | normal =>
    obtain ⟨w₂, hbr, hbody⟩ := hq
    have s1 : StepsIn (Machine.fenced P (F.inRound l)) P (lone (b.atR a₁ [.beginRound, .code body]) (c :: cs) w₁) (lone (b.atR a₁ [.code body]) (c :: cs) w₂) :=
      .one (fenced_calm (fr := b.atR a₁ [.beginRound, .code body]) hF' hr' rfl) (stepR_beginRound rfl hbr)
    obtain ⟨e₂, a₂, w₃, hq₂, harr₂⟩ := hbody b [] (c :: cs) rfl hF' hr'
    cases e₂ with
    | normal =>
      obtain ⟨v, w₄, hend, hR⟩ := hq₂
      exact ⟨.returned v, w₄, hR, (StepsIn.trans harr s1).trans (StepsIn.trans harr₂ (.one (fenced_calm (fr := b.atR a₂ []) hF' hr' rfl) (stepR_round_end rfl rfl hend)))⟩
    | panic chain =>
      obtain ⟨hd, hR⟩ := hq₂
      obtain ⟨todo, hs⟩ := harr₂
      have hleave : Frame.leaving P { b.atR a₂ todo with mode := .panicking chain } w₃ (.panicked chain) := ⟨rfl, hd, fd, hfd⟩
      exact ⟨.panicked chain, w₃, hR, (StepsIn.trans harr s1).trans (StepsIn.trans hs (.one (fenced_leaving hF' hr' hleave) (step_leave_panicked hleave)))⟩
    | ret => exact hq₂.elim
    | exit id => exact hq₂.elim
    | goto t => exact hq₂.elim
    | outgrown => exact hq₂.elim
  | exit id => exact hq.elim
  | goto t => exact hq.elim
  | ret => exact hq.elim
  | panic chain => exact hq.elim
  | outgrown => exact hq.elim
/-- what is asked of the iterator: rounds go on, or panic; it returns, or passes a panic up -/
def SeqFalls (F : Fence) (n : Nat) (P : Program) (gf : Nat) (lb : Array Value) (ok : Value → Prop) (Ch : List PanicEntry) (Tn Kp : World → World → Prop) (w : World) : Prop :=
  ∀ (l : Nat) (J Jx : World → Prop) (W : World), Below w.heap.size w W → (∀ A B, J A → Tn A B → J B) → (∀ A, J A → Jx A) →
    (∀ x W1, J W1 → ok x → YieldAt F (n - 1) P l #[x] W1 fun e W' => (e = .returned (.bool true) ∧ J W' ∧ Kp W1 W') ∨ (e = .panicked Ch ∧ Jx W')) → J W →
    CallsIn F n P gf (#[.func (.yield l) #[] #[]] ++ lb) W fun e W' => ((∃ v, e = .returned v) ∧ J W') ∨ (e = .panicked Ch ∧ Jx W')
/-- as wpIn, at one frame -/
def wpB (F : Fence) (n : Nat) (P : Program) (b : Frame) (c : Code) (Q : Exit → Act → World → Prop) (a : Act) (w : World) : Prop :=
  ∀ (k : List Item) (cs : List Frame), F.room (cs.length + 1 + n) →
    ∃ e a' w', Q e a' w' ∧ ArrivesIn (Machine.fenced P F) P (lone (b.atR a (.code c :: k)) cs w) b k cs e a' w'
theorem wpB_of_wpIn {b : Frame} {c : Code} {Q : Exit → Act → World → Prop} {a : Act} {w : World} (hro : b.roundOf = F.round) (hb : F.fn b.fn) (h : c.wpIn F n P Q a w) : wpB F n P b c Q a w :=
  fun k cs hr => h b k cs hro hb hr
theorem wpB_seq {b : Frame} {x y : Code} {Q : Exit → Act → World → Prop} {a : Act} {w : World} (hb : F.fn b.fn) (h : wpB F n P b x (Exit.then (wpB F n P b y Q) Q) a w) : wpB F n P b (Code.seq x y) Q a w := by
  intro k cs hr
  have h0 : (lone (b.atR a (.code (.seq x y) :: k)) cs w).fenced P F := fenced_calm hb hr rfl
  obtain ⟨e, a₁, w₁, hq, harr⟩ := h (.code y :: k) cs hr
  cases e with
  | normal =>
    obtain ⟨e₂, a₂, w₂, hq₂, harr₂⟩ := hq k cs hr
    exact ⟨e₂, a₂, w₂, hq₂, .of_steps (.head h0 stepR_seq harr) harr₂⟩
  | exit id => exact ⟨_, a₁, w₁, hq, .of_steps (.one h0 stepR_seq) (.pass (x := .code y) rfl (fun _ _ => .inl (by simp)) harr)⟩
  | goto l => exact ⟨_, a₁, w₁, hq, .of_steps (.one h0 stepR_seq) (.pass (x := .code y) rfl (fun _ _ => .inl (by simp)) harr)⟩
  | ret => exact ⟨_, a₁, w₁, hq, .of_steps (.one h0 stepR_seq) (.pass (x := .code y) rfl (fun _ _ => .inl (by simp)) harr)⟩
  | panic ch => exact ⟨_, a₁, w₁, hq, .of_steps (.one h0 stepR_seq) (.pass (x := .code y) rfl (fun _ _ => .inl (by simp)) harr)⟩
  | outgrown => exact ⟨_, a₁, w₁, hq, .of_steps (.one h0 stepR_seq) (.pass (x := .code y) rfl (fun _ _ => .inl (by simp)) harr)⟩
theorem wpB_block {b : Frame} {id : Nat} {c : Code} {Q : Exit → Act → World → Prop} {a : Act} {w : World} (hb : F.fn b.fn) (h : wpB F n P b c (Exit.inBlock id Q) a w) : wpB F n P b (Code.block id c) Q a w := by
  intro k cs hr
  have h0 : (lone (b.atR a (.code (.block id c) :: k)) cs w).fenced P F := fenced_calm hb hr rfl
  obtain ⟨e, a₁, w₁, hq, harr⟩ := h (.inBlock id :: k) cs hr
  cases e with
  | normal => exact ⟨.normal, a₁, w₁, hq, .head h0 stepR_block (StepsIn.trans harr (.one (fenced_calm hb hr rfl) stepR_inBlock))⟩
  | exit id' =>
    by_cases hid : id' = id
    · simp only [Exit.inBlock, hid, if_true] at hq
      exact ⟨.normal, a₁, w₁, hq, .head h0 stepR_block (harr.1 k (by simp [exitTo, hid]))⟩
    · simp only [Exit.inBlock, hid, if_false] at hq
      have this : (id == id') = false := by simp; exact fun h => hid h.symm
      have hx : exitTo id' (.inBlock id :: k) = exitTo id' k := by simp [exitTo, this]
      exact ⟨.exit id', a₁, w₁, hq, fun k' hk => .head h0 stepR_block (harr.1 k' (by rw [hx]; exact hk)),
        fun hr' hk => let ⟨k₁, h1, h2⟩ := harr.2 hr' (by rw [hx]; exact hk); ⟨k₁, h1, .head h0 stepR_block h2⟩⟩
  | goto l =>
    have hx : gotoIn l (.inBlock id :: k) = gotoIn l k := by simp [gotoIn]
    exact ⟨_, a₁, w₁, hq, fun k' hk => .head h0 stepR_block (harr.1 k' (by rw [hx]; exact hk)),
      fun hr' hk => let ⟨k₁, h1, h2⟩ := harr.2 hr' (by rw [hx]; exact hk); ⟨k₁, h1, .head h0 stepR_block h2⟩⟩
  | ret => exact ⟨_, a₁, w₁, hq, .of_steps (.one h0 stepR_block) harr⟩
  | panic ch => exact ⟨_, a₁, w₁, hq, .of_steps (.one h0 stepR_block) harr⟩
  | outgrown => exact ⟨_, a₁, w₁, hq, .of_steps (.one h0 stepR_block) harr⟩
/-- the end of a range over a function, at one frame -/
def rangePostB (F : Fence) (n : Nat) (P : Program) (l : Nat) (Q : Exit → Act → World → Prop) (a' : Act) : Ending → World → Prop
  | .returned _, w₃ => ∃ w₄, (Instr.endLoop l).run P w₃ = .ok none w₄ ∧ Q .normal a' w₄
  | .panicked chain, w₃ => Q (.panic chain) a' w₃
  | .outgrown, _ => False
theorem wpB_rangeFunc {b : Frame} {g : Operand} {ps : Array Tmp} {assign body : Code} {Q : Exit → Act → World → Prop} {a : Act} {w : World} (hro : b.roundOf = F.round) (hb : F.fn b.fn)
    (h : ∃ (l : Nat) (mark : List Deferred) (w₁ : World) (d : Deferred) (w₁' : World) (f : FuncId) (args : Array Value) (w₂ : World),
      (Instr.enterLoop b.fn a.tmps ps assign body F.round).run P w = .ok (l, mark) w₁ ∧
      (resolve a.eval (rangeCall g l) 0).run P w₁ = .ok d w₁' ∧
      (∀ f', Target.leads P w₁' d.target d.args = some f' → F.fn f') ∧
      (invoke d.target d.args).run P w₁' = .ok (.enter f args) w₂ ∧
      (F.depth.isSome = true → 1 ≤ n) ∧
      CallsIn F (n - 1) P f args w₂ (rangePostB F n P l Q { a with defers := mark ++ a.defers })) :
    wpB F n P b (Code.rangeFunc g ps assign body) Q a w := by
  intro k cs hr
  obtain ⟨l, mark, w₁, d, w₁', f, args, w₂, he, hres, hlead, hinv, hn, hF, hcall⟩ := h
  rw [← hro] at he
  have h0 : (lone (b.atR a (.code (.rangeFunc g ps assign body) :: k)) cs w).fenced P F := by
    refine fenced_lone (.inl hb) (fun f' hf' => hlead f' ?_) (Fence.room_le hr (by omega))
    have hev := Frame.eval_atR b a (.code (.rangeFunc g ps assign body) :: k)
    simp only [Frame.atR] at hev
    simp only [Frame.about, Frame.atR, he, hev, hres] at hf'
    exact hf'
  have henter := stepR_rangeFunc (P := P) (b := b) (a := a) (k := k) (cs := cs) (w := w) he hres hinv
  have hroom : F.room ((b.atR { a with defers := mark ++ a.defers } (.inRangeFunc l :: k) :: cs).length + 1 + (n - 1)) := Fence.room_enter hr hn
  obtain ⟨e, w₃, fr, hR, hsteps, hfn, hleave⟩ := hcall (b.atR { a with defers := mark ++ a.defers } (.inRangeFunc l :: k) :: cs) hroom
  cases e with
  | outgrown => exact hR.elim
  | returned v =>
    have hl : (lone fr (b.atR { a with defers := mark ++ a.defers } (.inRangeFunc l :: k) :: cs) w₃).fenced P F := fenced_leaving (hfn ▸ hF) hroom hleave
    obtain ⟨w₄, hend, hj⟩ := hR
    refine ⟨.normal, _, w₄, hj, StepsIn.head h0 henter (StepsIn.trans hsteps (.head hl ?_ (.one (fenced_calm (fr := b.atR { a with defers := mark ++ a.defers } (.endRangeFunc l :: k)) hb hr rfl) (stepR_endRangeFunc hend))))⟩
    rw [← finish_atR_inRangeFunc l v]; exact step_leave_returned hleave
  | panicked chain =>
    have hl : (lone fr (b.atR { a with defers := mark ++ a.defers } (.inRangeFunc l :: k) :: cs) w₃).fenced P F := fenced_leaving (hfn ▸ hF) hroom hleave
    refine ⟨.panic chain, _, w₃, hR, .inRangeFunc l :: k, .head h0 henter (StepsIn.trans hsteps (.one hl ?_))⟩
    rw [← Frame.raise_atR]; exact step_leave_panicked hleave
/-- a function's contract from its body, at its frame -/
theorem callsIn_of_wpB_marks {f : FuncId} {fn : Func} {c : Code} {args : Array Value} {w : World} {R : Ending → World → Prop}
    (hf : P.funcs[f]? = some fn) (hb : fn.body = some c) (hF : F.fn f)
    (h : ∀ b : Frame, b.fn = f → b.roundOf = none → wpB F n P b c (bodyPostM F n P fn R) { tmps := args ++ Array.replicate (fn.ntmps - args.size) undef, defers := [] } w) (hro : F.round = none := by rfl) : CallsIn F n P f args w R := by
  refine ⟨hF, fun cs hr => ?_⟩
  let b : Frame := { (default : Frame) with fn := f, kind := .normal, roundOf := none }
  have henter : Frame.enter P f args .normal =
      b.atR { tmps := args ++ Array.replicate (fn.ntmps - args.size) undef, defers := [] } [.code c] := by
    simp [Frame.enter, Frame.atR, hf, hb, b]
  obtain ⟨e, a', w', hq, harr⟩ := h b rfl rfl [] cs hr
  rw [← henter] at harr
  cases e with
  | normal =>
    obtain ⟨e', w'', fr', hR, hs, hfn, hl⟩ := leaves_stepsInM a'.defers .returning w' { b.atR a' [] with mode := .returning } cs rfl rfl rfl hf rfl hF hr hq
    exact ⟨e', w'', fr', hR, ComesIn.of_steps (StepsIn.trans harr (.one (fenced_calm (fr := b.atR a' []) hF hr rfl) (stepR_end rfl))) hs, hfn, hl⟩
  | ret =>
    obtain ⟨todo, hs₀⟩ := harr.1 rfl
    obtain ⟨e', w'', fr', hR, hs, hfn, hl⟩ := leaves_stepsInM a'.defers .returning w' { b.atR a' todo with mode := .returning } cs rfl rfl rfl hf rfl hF hr hq
    exact ⟨e', w'', fr', hR, ComesIn.of_steps hs₀ hs, hfn, hl⟩
  | panic chain =>
    obtain ⟨todo, hs₀⟩ := harr
    obtain ⟨e', w'', fr', hR, hs, hfn, hl⟩ := leaves_stepsInM a'.defers (.panicking chain) w' { b.atR a' todo with mode := .panicking chain } cs rfl rfl rfl hf rfl hF hr hq
    exact ⟨e', w'', fr', hR, ComesIn.of_steps hs₀ hs, hfn, hl⟩
  | exit id => exact hq.elim
  | goto l => exact hq.elim
  | outgrown => exact ⟨.outgrown, w', b, hq, harr.resolve_left (by simp [b]), rfl, trivial⟩
theorem wpB_rangeFunc_falls {b : Frame} {g : Operand} {ps : Array Tmp} {assign body : Code} {Q : Exit → Act → World → Prop} {a : Act} {w : World}
    (hbr : b.roundOf = none) (hbf : F.fn b.fn) {fd : Func} (hfd : P.funcs[b.fn]? = some fd) (hro : F.round = none) (h1 : 1 ≤ n) {gf : Nat} {lb : Array Value} (hg : a.eval g = .func (.func gf) #[] lb) (hFg : F.fn gf) (eg : ∀ args w, (callFunc gf args).run P w = .ok (.enter gf args) w)
    {ok : Value → Prop} {Ch : List PanicEntry} {Tn Kp : World → World → Prop} (hseq : SeqFalls F (n - 1) P gf lb ok Ch Tn Kp w) (hps : 1 = ps.size)
    (hKt : ∀ {A B C : World}, Kp A B → Kp B C → Kp A C) (hKb : ∀ (W : World) (l : Nat) (o' : Obj), w.heap.size ≤ l → Kp W (W.putObj l o'))
    (hTn : ∀ A B, Tn A B → ∀ i, w.heap.size ≤ i → B.heap[i]? = A.heap[i]?)
    (I Ix : World → Prop) (hI : OwnFrom w.heap.size (fun (_ : Unit) => I)) (hIx : ∀ W, I W → Ix W) (hIt : ∀ A B, I A → Tn A B → I B) (h0 : I w) (a₁ : Value → Act)
    (hassign : ∀ (l : Nat) (x : Value) (W : World) (K : Act → World → Prop), ok x → K (a₁ x) W →
      assign.wpIn (F.inRound l) (n - 1 - 1) P (Exit.then K (fun _ _ _ => False)) { tmps := (ps.zip #[x]).foldl (fun t (p, v) => t.setIfInBounds p v) a.tmps, defers := [] } W)
    (hbody : ∀ (l : Nat) (x : Value) (W : World), w.heap.size ≤ l → (∃ r, W.heap[l]? = some (.loop r)) → I W → ok x →
      body.wpIn (F.inRound l) (n - 1 - 1) P (fun e a' W' => (e = .normal ∧ KeepsFrom w.heap.size W W' ∧ Kp W W' ∧ I W') ∨ (e = .panic Ch ∧ a'.defers = [] ∧ KeepsFrom w.heap.size W W' ∧ Ix W')) (a₁ x) W)
    (hdone : ∀ (D : Nat) (W : World), w.heap.size ≤ D → I W → W.heap[D]? = some (.deferred (some [])) → Q .normal { a with defers := { target := .collected D, args := #[] } :: a.defers } W)
    (hfall : ∀ (D : Nat) (W : World), w.heap.size ≤ D → Ix W → W.heap[D]? = some (.deferred (some [])) → Q (.panic Ch) { a with defers := { target := .collected D, args := #[] } :: a.defers } W) :
    wpB F n P b (Code.rangeFunc g ps assign body) Q a w := by
  refine wpB_rangeFunc (hbr.trans hro.symm) hbf ?_
  rw [hro]
  obtain ⟨fn, hfn⟩ : ∃ fn, fn = b.fn := ⟨_, rfl⟩
  rw [← hfn] at hbf hfd ⊢
  let lp (st : LoopState) (pe : Option Code) : Loop := { state := st, pending := pe, fn, tmps := a.tmps, params := ps, assign, body, defers := w.heap.size }
  obtain ⟨W1, hW1⟩ : ∃ W1, W1 = (w.alloc (.deferred (some []))).alloc (.loop (lp .ready none)) := ⟨_, rfl⟩
  have dL : W1.heap[w.heap.size + 1]? = some (.loop (lp .ready none)) := by
    rw [hW1]
    have := World.alloc_heap_new (w.alloc (.deferred (some []))) (.loop (lp .ready none))
    rwa [World.size_alloc] at this
  have dD : W1.heap[w.heap.size]? = some (.deferred (some [])) := by
    rw [hW1]
    exact (Below.heap_alloc _ _ _ (by simp)).trans (World.alloc_heap_new w _)
  have dI : I W1 := by rw [hW1]; exact hI.alloc (s := ()) _ (hI.alloc (s := ()) _ h0)
  have dB : Below w.heap.size w W1 := by rw [hW1]; exact ((Below.refl _ w).alloc (Nat.le_refl _) _).alloc (by simp) _
  refine ⟨w.heap.size + 1, [{ target := .collected w.heap.size, args := #[] }], W1, { target := .fn (.func gf) lb, args := #[.func (.yield (w.heap.size + 1)) #[] #[]] }, W1, gf,
    #[.func (.yield (w.heap.size + 1)) #[] #[]] ++ lb, W1, by rw [hW1]; exact run_enterLoop_outer _ _ _ _ _, by simp only [resolve, hg]; simp [go_sem], ?_, by simp [invoke, go_sem, eg], fun _ => h1, ?_⟩
  · intro f' hf'
    simp [Target.leads] at hf'
    subst hf'
    exact hFg
  refine (hseq (w.heap.size + 1) (fun W => I W ∧ W.heap[w.heap.size + 1]? = some (.loop (lp .ready none)) ∧ W.heap[w.heap.size]? = some (.deferred (some [])))
    (fun W => Ix W ∧ W.heap[w.heap.size]? = some (.deferred (some []))) W1 dB ?_ (fun A h => ⟨hIx _ h.1, h.2.2⟩) ?_ ⟨dI, dL, dD⟩).mono ?_
  · rintro A B ⟨q1, q2, q3⟩ ht
    exact ⟨hIt A B q1 ht, (hTn A B ht _ (by omega)).trans q2, (hTn A B ht _ (Nat.le_refl _)).trans q3⟩
  · rintro x W ⟨q1, q2, q3⟩ hok
    have lt1 : w.heap.size + 1 < W.heap.size := (Array.getElem?_eq_some_iff.1 q2).1
    refine ⟨fn, _, assign, body, run_yield (P := P) (args := #[x]) q2 hps, roundInP_of_wpIn hbf hfd (hassign _ x W _ hok ?_)⟩
    refine ⟨_, run_beginRound q2 rfl, ?_⟩
    have b2 : (W.putObj (w.heap.size + 1) (.loop { lp .ready none with state := .busy })).heap[w.heap.size + 1]? = some (.loop { lp .ready none with state := .busy }) := World.putObj_heap_same lt1
    have b3 : (W.putObj (w.heap.size + 1) (.loop { lp .ready none with state := .busy })).heap[w.heap.size]? = some (.deferred (some [])) := (World.putObj_heap_other (by omega)).trans q3
    refine wpIn_mono (hbody _ x _ (by omega) ⟨_, b2⟩ (hI.putObj (s := ()) _ q1 (by omega) q2 rfl) hok) ?_
    rintro e a3 W3 (⟨rfl, k1, k2, k3⟩ | ⟨rfl, kd, k1, k3⟩)
    · have c2 := k1.same _ _ (by omega) b2 rfl
      have c3 := k1.same _ _ (Nat.le_refl _) b3 rfl
      have hend := run_endRound (P := P) none c2
      exact ⟨_, _, hend, .inl ⟨rfl, ⟨hI.putObj (s := ()) _ k3 (by omega) c2 rfl, World.putObj_heap_same (Array.getElem?_eq_some_iff.1 c2).1, (World.putObj_heap_other (by omega)).trans c3⟩, hKt (hKt (hKb _ _ _ (by omega)) k2) (hKb _ _ _ (by omega))⟩⟩
    · exact ⟨kd, .inr ⟨rfl, k3, k1.same _ _ (Nat.le_refl _) b3 rfl⟩⟩
  · rintro e W2 (⟨⟨v, rfl⟩, q1, q2, q3⟩ | ⟨rfl, q1, q3⟩)
    · exact ⟨_, run_endLoop (P := P) q2 (by simp [lp]), hdone _ _ (Nat.le_refl _) (hI.putObj (s := ()) _ q1 (by omega) q2 rfl) ((World.putObj_heap_other (by omega)).trans q3)⟩
    · exact hfall _ _ (Nat.le_refl _) q1 q3
end
end Go.Proofs.YtbgohcedakpnbaaDoor
