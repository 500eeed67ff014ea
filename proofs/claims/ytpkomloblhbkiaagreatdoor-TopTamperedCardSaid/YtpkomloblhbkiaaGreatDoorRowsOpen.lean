/- reading rows of texts, of numbers and of Bools. -/
import Derived.Test.YtpkomloblhbkiaaGreatDoorTagH
import Derived.Below
import Derived.Test.YtpkomloblhbkiaaGreatDoorORow
import Derived.RangeFuncCalls
import Derived.OrdersIn
import Derived.Test.YtpkomloblhbkiaaGreatDoorItoa
import Derived.Test.YtpkomloblhbkiaaGreatDoorWordA
import Derived.Test.YtpkomloblhbkiaaGreatDoorBytes
set_option linter.unusedVariables false
/- As Order, for more than one operation (zs) that stores into what others read: S holds ahead of all of them; behind the first of them it is not asked. -/
namespace Go.Proofs.YtpkomloblhbkiaaGreatDoor
theorem kpc {W W' : World} {p : Addr} {v : Value} (hb : RowKit.Below W.heap.size W W') (h : W.cell? p = some v) : W'.cell? p = some v := (hb.cell (World.block_lt_of_cell? _ _ h)).trans h
section
variable {P : Program} {ops : Array Oper} {Q : Exit → Act → World → Prop} {md : Region.Mode} {S : World → Prop} {zs : List Nat}
def noneDone (zs : List Nat) (l : Array Bool) : Prop := ∀ z ∈ zs, l.getD z true = false
def wpAnyT (P : Program) (md : Region.Mode) (ops : Array Oper) (Q : Exit → Act → World → Prop) (S : World → Prop) (zs : List Nat) : Nat → Array Bool → Act → World → Prop
  | 0, l, a, w => Region.ready md ops l = [] ∧ Q .normal a w
  | k + 1, l, a, w => (Region.ready md ops l = [] → Q .normal a w) ∧
      ∀ i ∈ Region.ready md ops l, wpOp P ops Q i (fun a' w' => (noneDone zs l → i ∉ zs → S w') ∧ wpAnyT P md ops Q S zs k (l.setIfInBounds i true) a' w') a w
theorem wpAny_of_T (k : Nat) : ∀ (l : Array Bool) (a : Act) (w : World), wpAnyT P md ops Q S zs k l a w → wpAny P md ops Q k l a w := by
  induction k with
  | zero => exact fun _ _ _ h => h
  | succ k ih => exact fun l a w h => ⟨h.1, fun i hi => wpOp_mono (fun a' w' h' => ih _ a' w' h'.2) (h.2 i hi)⟩
theorem noneDone_set {l : Array Bool} {i : Nat} (h : noneDone zs l) (hi : i ∉ zs) : noneDone zs (l.setIfInBounds i true) := fun z hz => by
  have hne : i ≠ z := fun e => hi (e ▸ hz)
  rw [getD_set_ne true hne]
  exact h z hz
theorem noneDone_of {l : Array Bool} {i : Nat} (h : noneDone zs (l.setIfInBounds i true)) (hl : i < l.size) : i ∉ zs ∧ noneDone zs l := by
  have hi : i ∉ zs := fun hz => by
    have := h i hz
    rw [Array.getD_eq_getD_getElem?, Array.getElem?_setIfInBounds_self_of_lt hl] at this
    cases this
  exact ⟨hi, fun z hz => by
    have hne : i ≠ z := fun e => hi (e ▸ hz)
    have := h z hz
    rwa [getD_set_ne true hne] at this⟩
theorem ready_size {i : Nat} {l : Array Bool} (hi : i ∈ Region.ready md ops l) : i < l.size := by
  have h0 := (mem_ready.1 hi).1
  rcases Nat.lt_or_ge i l.size with h | h
  · exact h
  · simp [Array.getElem?_eq_none h] at h0
/-- an operation taken first: 'free' ones (all zs wait for it), or 'pure' ones (what they yield asks nothing of the world) -/
theorem wpAnyT_takeG {i : Nat} {oi : Oper} {v : Value} (k : Nat) (hi : ops[i]? = some oi) (hs : Region.noSelect ops = true) (S' : World → Prop) (wt : Bool) (hiz : i ∉ zs)
    (hw : (wt = true ∧ (zs.all fun z => waitsFor md ops z i) = true ∧ S' = S) ∨ (wt = false ∧ S' = fun _ => True))
    (hQ : ∀ c a w, Q (.panic c) (a.put oi.dst v) w → Q (.panic c) a w) :
    ∀ (l : Array Bool) (a : Act) (w : World), Region.free md ops l i = true → (Region.ready md ops l).contains i = true → YieldsIf P ops S' oi v a → noneDone zs l → S w →
      wpAnyT P md ops Q S zs k (l.setIfInBounds i true) (a.put oi.dst v) w → wpAnyT P md ops Q S zs (k + 1) l a w := by
  have hsel := Region.noSelect_spec hs
  suffices main : ∀ (k : Nat) (l : Array Bool) (a : Act) (w : World), (∀ j oj, ops[j]? = some oj → j ≠ i → l.getD j true = false → (∀ e ∈ oj.after, Region.binds md e = true → e.on ≠ i) → oi.apart ops oj = true) →
      i ∈ Region.ready md ops l → YieldsIf P ops S' oi v a → S' w → (noneDone zs l → S w) → (wt = true → noneDone zs l) → wpAnyT P md ops Q S zs k (l.setIfInBounds i true) (a.put oi.dst v) w → wpAnyT P md ops Q S zs (k + 1) l a w by
    intro l a w hf hr hy hn hS h
    refine main k l a w (Region.free_spec hi hf) (by simpa using hr) hy ?_ (fun _ => hS) (fun _ => hn) h
    rcases hw with ⟨_, _, rfl⟩ | ⟨_, rfl⟩
    · exact hS
    · trivial
  intro k
  induction k with
  | zero =>
    intro l a w _ hr hy hS' hS hn H
    refine ⟨fun h => (by rw [h] at hr; cases hr), fun j hj => ?_⟩
    by_cases hji : j = i
    · subst hji; exact hy.wpOp hi hS' ⟨fun h _ => hS h, H⟩
    · have h1 := ready_mono hj hji
      rw [H.1] at h1
      cases h1
  | succ k ih =>
    intro l a w hfree hr hy hS' hS hn H
    refine ⟨fun h => (by rw [h] at hr; cases hr), fun j hj => ?_⟩
    by_cases hji : j = i
    · subst hji; exact hy.wpOp hi hS' ⟨fun h _ => hS h, H⟩
    · obtain ⟨hjun, oj, hoj, hall⟩ := mem_ready.1 hj
      have hnot : ∀ e ∈ oj.after, Region.binds md e = true → e.on ≠ i := fun e he hb heq => by
        have h1 := hall e he hb
        have h0 := (mem_ready.1 hr).1
        rw [heq] at h1
        rcases Nat.lt_or_ge i l.size with h' | h'
        · simp [h'] at h0 h1; rw [h0] at h1; cases h1
        · simp [Array.getElem?_eq_none h'] at h1
      have h2 := wpOp_putIf hoj (hfree j oj hoj hji hjun hnot) (fun cs b => hsel i oi cs b hi) (fun cs b => hsel j oj cs b hoj) hQ hy (H.2 j (ready_mono hj hji))
      refine wpOp_mono (fun a' w' h3 => ⟨fun hd hjz => h3.2.1 (noneDone_set hd hiz) hjz, ih (l.setIfInBounds j true) a' w' ?_ (ready_mono hr (Ne.symm hji)) h3.1 ?_ ?_ ?_ ?_⟩) h2
      · intro m om hom hmi hun hno
        refine hfree m om hom hmi ?_ hno
        by_cases hjm : j = m
        · subst hjm; exact hjun
        · rw [getD_set_ne true hjm] at hun; exact hun
      · rcases hw with ⟨ht, hz, rfl⟩ | ⟨_, rfl⟩
        · have hjz : j ∉ zs := fun e => not_ready_of_waits (List.all_eq_true.1 hz j e) hr hj
          exact h3.2.1 (noneDone_set (hn ht) hiz) hjz
        · trivial
      · intro hd
        obtain ⟨hjz, hd'⟩ := noneDone_of hd (ready_size hj)
        exact h3.2.1 (noneDone_set hd' hiz) hjz
      · intro e
        rcases hw with ⟨_, hz, _⟩ | ⟨e2, _⟩
        · have hjz : j ∉ zs := fun e => not_ready_of_waits (List.all_eq_true.1 hz j e) hr hj
          exact noneDone_set (hn e) hjz
        · rw [e2] at e; cases e
      · rw [Array.setIfInBounds_comm _ _ hji]
        exact h3.2.2
theorem noneDone_all {l : Array Bool} (h : (zs.all fun z => !l.getD z true) = true) : noneDone zs l := fun z hz => by
  have := List.all_eq_true.1 h z hz
  simpa using this
theorem wpAnyT_take {i : Nat} {oi : Oper} {v : Value} (k : Nat) (l : Array Bool) (a : Act) (w : World) (hi : ops[i]? = some oi) (hs : Region.noSelect ops = true) (hiz : zs.contains i = false) (hz : (zs.all fun z => waitsFor md ops z i) = true)
    (hQ : ∀ c a w, Q (.panic c) (a.put oi.dst v) w → Q (.panic c) a w) (hf : Region.free md ops l i = true) (hr : (Region.ready md ops l).contains i = true) (hn : (zs.all fun z => !l.getD z true) = true) (hy : YieldsIf P ops S oi v a) (hS : S w)
    (h : wpAnyT P md ops Q S zs k (l.setIfInBounds i true) (a.put oi.dst v) w) : wpAnyT P md ops Q S zs (k + 1) l a w :=
  wpAnyT_takeG k hi hs S true (by simpa using hiz) (.inl ⟨rfl, hz, rfl⟩) hQ l a w hf hr hy (noneDone_all hn) hS h
theorem wpAnyT_pure {i : Nat} {oi : Oper} {v : Value} (k : Nat) (l : Array Bool) (a : Act) (w : World) (hi : ops[i]? = some oi) (hs : Region.noSelect ops = true) (hiz : zs.contains i = false)
    (hQ : ∀ c a w, Q (.panic c) (a.put oi.dst v) w → Q (.panic c) a w) (hf : Region.free md ops l i = true) (hr : (Region.ready md ops l).contains i = true) (hn : (zs.all fun z => !l.getD z true) = true) (hy : YieldsIf P ops (fun _ => True) oi v a) (hS : S w)
    (h : wpAnyT P md ops Q S zs k (l.setIfInBounds i true) (a.put oi.dst v) w) : wpAnyT P md ops Q S zs (k + 1) l a w :=
  wpAnyT_takeG k hi hs (fun _ => True) false (by simpa using hiz) (.inr ⟨rfl, rfl⟩) hQ l a w hf hr hy (noneDone_all hn) hS h
theorem wT {i : Nat} {oi : Oper} {v : Value} {k : Nat} {l : Array Bool} {a : Act} {w : World} (hi : ops[i]? = some oi) (hy : YieldsIf P ops S oi v a) (hS : S w) (h : wpAnyT P md ops Q S zs k (l.setIfInBounds i true) (a.put oi.dst v) w)
    (hs : Region.noSelect ops = true := by kernel_rfl) (hiz : zs.contains i = false := by kernel_rfl) (hz : (zs.all fun z => waitsFor md ops z i) = true := by kernel_rfl)
    (hQ : ∀ c a w, Q (.panic c) (a.put oi.dst v) w → Q (.panic c) a w := by exact fun _ _ _ h => h) (hf : Region.free md ops l i = true := by kernel_rfl) (hr : (Region.ready md ops l).contains i = true := by kernel_rfl) (hn : (zs.all fun z => !l.getD z true) = true := by kernel_rfl) :
    wpAnyT P md ops Q S zs (k + 1) l a w := wpAnyT_take k l a w hi hs hiz hz hQ hf hr hn hy hS h
theorem wP {i : Nat} {oi : Oper} {v : Value} {k : Nat} {l : Array Bool} {a : Act} {w : World} (hi : ops[i]? = some oi) (hy : YieldsIf P ops (fun _ => True) oi v a) (hS : S w) (h : wpAnyT P md ops Q S zs k (l.setIfInBounds i true) (a.put oi.dst v) w)
    (hs : Region.noSelect ops = true := by kernel_rfl) (hiz : zs.contains i = false := by kernel_rfl)
    (hQ : ∀ c a w, Q (.panic c) (a.put oi.dst v) w → Q (.panic c) a w := by exact fun _ _ _ h => h) (hf : Region.free md ops l i = true := by kernel_rfl) (hr : (Region.ready md ops l).contains i = true := by kernel_rfl) (hn : (zs.all fun z => !l.getD z true) = true := by kernel_rfl) :
    wpAnyT P md ops Q S zs (k + 1) l a w := wpAnyT_pure k l a w hi hs hiz hQ hf hr hn hy hS h
/-- the operations rs come up next -/
def AllReadyT (P : Program) (md : Region.Mode) (ops : Array Oper) (Q : Exit → Act → World → Prop) (S : World → Prop) (zs : List Nat) (k : Nat) (l : Array Bool) (a : Act) (w : World) (rs : List Nat) : Prop :=
  ∀ i ∈ rs, wpOp P ops Q i (fun a' w' => (noneDone zs l → i ∉ zs → S w') ∧ wpAnyT P md ops Q S zs k (l.setIfInBounds i true) a' w') a w
theorem AllReadyT.nil {k : Nat} {l : Array Bool} {a : Act} {w : World} : AllReadyT P md ops Q S zs k l a w [] := fun _ h => by cases h
theorem AllReadyT.cons {k : Nat} {l : Array Bool} {a : Act} {w : World} {i : Nat} {o : Oper} {rs : List Nat} (ho : ops[i]? = some o)
    (h : ∀ K' : Act → World → Prop, Shut (∀ a w, S w → (S w → wpAnyT P md ops Q S zs k (l.setIfInBounds i true) a w) → K' a w) → if Region.wanted o (yielded ops a.tmps) = true then Oper.wp P o a w K' Q else K' (a.put o.dst undef) w)
    (hs : AllReadyT P md ops Q S zs k l a w rs) : AllReadyT P md ops Q S zs k l a w (i :: rs) := fun j hj => by
  rcases List.mem_cons.1 hj with rfl | hj
  · exact wpOp_step ho (fun K' hK => h K' (fun a w hS hW => hK a w ⟨fun _ _ => hS, hW hS⟩))
  · exact hs j hj
/-- one of the last ones, or one behind them: S is not asked behind it -/
theorem AllReadyT.late {k : Nat} {l : Array Bool} {a : Act} {w : World} {i : Nat} {o : Oper} {rs : List Nat} (ho : ops[i]? = some o) (hiz : (zs.contains i || zs.any fun z => l.getD z true) = true)
    (h : ∀ K' : Act → World → Prop, Shut (∀ a w, wpAnyT P md ops Q S zs k (l.setIfInBounds i true) a w → K' a w) → if Region.wanted o (yielded ops a.tmps) = true then Oper.wp P o a w K' Q else K' (a.put o.dst undef) w)
    (hs : AllReadyT P md ops Q S zs k l a w rs) : AllReadyT P md ops Q S zs k l a w (i :: rs) := fun j hj => by
  rcases List.mem_cons.1 hj with rfl | hj
  · refine wpOp_step ho (fun K' hK => h K' (fun a w hW => hK a w ⟨fun hn hi => ?_, hW⟩))
    exfalso
    rcases Bool.or_eq_true_iff.1 hiz with h1 | h1
    · exact hi (by simpa using h1)
    · obtain ⟨z, hz, hd⟩ := List.any_eq_true.1 h1
      rw [hn z hz] at hd
      cases hd
  · exact hs j hj
theorem wpAnyT_ready {rs : List Nat} {k : Nat} {l : Array Bool} {a : Act} {w : World} (hr : Region.ready md ops l = rs) (hne : rs ≠ [])
    (h : AllReadyT P md ops Q S zs k l a w rs) : wpAnyT P md ops Q S zs (k + 1) l a w := ⟨fun h0 => absurd (hr ▸ h0) hne, hr ▸ h⟩
theorem wpAnyT_done {k : Nat} {l : Array Bool} {a : Act} {w : World} (hr : Region.ready md ops l = []) (h : Q .normal a w) : wpAnyT P md ops Q S zs k l a w := by
  cases k with
  | zero => exact ⟨hr, h⟩
  | succ k => exact ⟨fun _ => h, by rw [hr]; simp⟩
theorem wp_region_T {id : Nat} {a : Act} {w : World} (zs : List Nat) (S : World → Prop) (hm : P.follows .mixedOrders = true) (h : wpAnyT P .any ops Q S zs ops.size (Array.replicate ops.size false) a w.drew) : (Code.region id ops true).wp P Q a w :=
  wp_region_any hm (wpAny_of_T _ _ _ _ h)
end
end Go.Proofs.YtpkomloblhbkiaaGreatDoor
/- Rows of one's own beside other rows of one's own. -/
namespace Go.Proofs.YtpkomloblhbkiaaGreatDoor
open Go.RowKit
section
variable {α β : Type} {e e' : TypeId} {enc : α → List Value} {enc2 : β → List Value} {sz sz' : Nat} {w w' : World} {base base' : Nat} {v v' : Value} {L : List α} {M : List β}
/-- rows of unlike types lie in unlike blocks -/
theorem orow_ne (h : ORow e enc sz w base v L) (h' : ORow e' enc2 sz' w base' v' M) (hne : e ≠ e') : ∀ g, v.ownBlock = some g → v'.ownBlock ≠ some g := by
  intro g hg hg'
  rcases h.2 with ⟨rfl, _⟩ | ⟨g1, cap, cur, rfl, _, hh, _⟩
  · simp [Value.ownBlock] at hg
  · rcases h'.2 with ⟨rfl, _⟩ | ⟨g2, cap2, cur2, rfl, _, hh2, _⟩
    · simp [Value.ownBlock] at hg'
    · have e1 : g1 = g := by simpa [Value.ownBlock] using hg
      have e2 : g2 = g := by simpa [Value.ownBlock] using hg'
      subst e1 e2
      exact Blk.ne_ (t := e) (t' := e') hh hh2 hne rfl
theorem orow_grown {row : Option Nat} (h : ORow e enc sz w base v L) (hg : w.grownBy w' row) (hne : ∀ g, v.ownBlock = some g → row ≠ some g) : ORow e enc sz w' base v L := by
  refine ⟨h.1, ?_⟩
  rcases h.2 with hn | ⟨g, cap, cur, rfl, hb', hh, rest⟩
  · exact .inl hn
  · have hlt := (Array.getElem?_eq_some_iff.1 hh).1
    exact .inr ⟨g, cap, cur, rfl, hb', (hg.block g hlt (fun e => hne g (by simp [Value.ownBlock]) e.symm)).trans hh, rest⟩
theorem orow_far {g : Nat} {t : TypeId} {cs : Array Value} (h : ORow e enc sz w base v L) (hg : Blk w g t cs) (hne : e ≠ t) (o : Nat) (u : Value) : ORow e enc sz (w.setCell ⟨g, o, none⟩ u) base v L :=
  own_far h (own_blk_ne h hg hne) o u
theorem blk_grown_row {g : Nat} {t : TypeId} {cs : Array Value} (hg : Blk w g t cs) (h : ORow e enc sz w base v L) (hne : e ≠ t) (hgr : w.grownBy w' v.ownBlock) : Blk w' g t cs :=
  hg.grown hgr (fun e => own_blk_ne h hg hne e.symm)
end
end Go.Proofs.YtpkomloblhbkiaaGreatDoor
/- A region that draws its order, in a round of a range over a function: walked by the plain laws (Z: its last operation stores). -/
namespace Go.Proofs.YtpkomloblhbkiaaGreatDoor
section
variable {P : Program} {ops : Array Oper} {Q : Exit → Act → World → Prop} {md : Region.Mode} {n l : Nat}
/-- the end of a region that ends as it should -/
def Calm (Q : Exit → Act → World → Prop) (e : Exit) (a : Act) (w : World) : Prop := e = .normal ∧ Q .normal a w
theorem Calm.out (h : LetsOut (Calm Q)) : False := by
  obtain ⟨a, w, h, _⟩ := h
  cases h
/-- no operation is a defer statement -/
def noDefer (ops : Array Oper) : Bool := ops.all fun o => match o.op with | .defer _ => false | _ => true
theorem noDefer_spec (h : noDefer ops = true) : ∀ (i : Nat) (o : Oper), ops[i]? = some o → ∀ c : Call, o.op ≠ .defer c := by
  intro i o ho c hc
  have h1 := (Array.all_eq_true_iff_forall_mem.1 h) o (Array.mem_of_getElem? ho)
  rw [hc] at h1
  cases h1
end
end Go.Proofs.YtpkomloblhbkiaaGreatDoor
/- As RoundReg, where the region may panic. -/
namespace Go.Proofs.YtpkomloblhbkiaaGreatDoor
section
variable {P : Program} {ops : Array Oper} {Q : Exit → Act → World → Prop} {md : Region.Mode} {n l : Nat}
/-- the end of a region that ends as it should, or panics -/
def CalmP (Q : Exit → Act → World → Prop) (e : Exit) (a : Act) (w : World) : Prop := (e = .normal ∨ ∃ c, e = .panic c) ∧ Q e a w
theorem CalmP.out (h : LetsOut (CalmP Q)) : False := by
  obtain ⟨a, w, h, _⟩ := h
  rcases h with h | ⟨c, h⟩ <;> cases h
end
end Go.Proofs.YtpkomloblhbkiaaGreatDoor
namespace Go.Proofs.YtpkomloblhbkiaaGreatDoor
open Go.RowKit Go.ChangeShapes Go.WideShapes Go.ChangeAt Go.Deep
theorem cells_str : Tryz.prog.cellsOf 9 = 1 := by kernel_rfl
theorem cells_int : Tryz.prog.cellsOf 3 = 1 := by kernel_rfl
theorem bytes_str : Tryz.prog.bytesOf 9 = 16 := by kernel_rfl
theorem bytes_int : Tryz.prog.bytesOf 3 = 8 := by kernel_rfl
section
variable {H : Type} {enc' : TypeId × Value → H} {w : World} {base b0 : Nat} {spare : Nat → Bool} {held : Bool} {r : Reach} {v : Value} {d : DataW H} {p : List MemPlace}
theorem trod_str (n : Nat) (cs : List Value) (x : DataW H × List MemPlace) (h : DataW.trod enc' Tryz.prog w base spare held n 9 cs = some x) (hw : Light 9 x.1) : ∃ s, cs = encS s ∧ StrOk s := by
  obtain ⟨s, rfl, rfl, _⟩ := DataW.trod_string Tryz.underlying9 h
  exact ⟨s, rfl, by have := light_string hw; simpa [StrOk] using this⟩
theorem trod_i64 (n : Nat) (cs : List Value) (x : DataW H × List MemPlace) (h : DataW.trod enc' Tryz.prog w base spare held n 3 cs = some x) (hw : Light 3 x.1) : ∃ i, cs = encI i ∧ WfI i := by
  obtain ⟨i, rfl, _, hw⟩ := DataW.trod_int Tryz.underlying3 h
  exact ⟨i, rfl, wfI hw⟩
set_option maxRecDepth 100000 in
theorem open_strrow (hv : Value.okWide Tryz.prog w r b0 30 v) (h : DataW.Trod enc' Tryz.prog w base spare held 30 v d p) (hw : Light 30 d) : ∃ A n c L, v = .slice A n c ∧ SlR encS 1 w w.heap.size A n L ∧ n ≤ 140737488351232 ∧ (∀ s ∈ L, StrOk s) := by
  obtain ⟨A, n, c, rfl⟩ := okWide_slice Tryz.underlying30 hv
  obtain ⟨fuel, hf⟩ := h
  obtain ⟨A', n', c', L, e, hS, hc, hm, ho, hby⟩ := open_row (enc := encS) (sz := 1) (Ok := StrOk) Tryz.underlying30 cells_str (by omega) trod_str hf hw
  simp only [Value.cells, List.cons.injEq, and_true, Value.slice.injEq] at e
  obtain ⟨rfl, rfl, rfl⟩ := e
  rw [bytes_str] at hby
  exact ⟨A, n, c, L, rfl, hS, by omega, ho⟩
set_option maxRecDepth 100000 in
theorem open_introw (hv : Value.okWide Tryz.prog w r b0 29 v) (h : DataW.Trod enc' Tryz.prog w base spare held 29 v d p) (hw : Light 29 d) : ∃ A n c L, v = .slice A n c ∧ SlR encI 1 w w.heap.size A n L ∧ n ≤ 140737488351232 ∧ (∀ o ∈ L, WfI o) := by
  obtain ⟨A, n, c, rfl⟩ := okWide_slice Tryz.underlying29 hv
  obtain ⟨fuel, hf⟩ := h
  obtain ⟨A', n', c', L, e, hS, hc, hm, ho, hby⟩ := open_row (enc := encI) (sz := 1) (Ok := WfI) Tryz.underlying29 cells_int (by omega) trod_i64 hf hw
  simp only [Value.cells, List.cons.injEq, and_true, Value.slice.injEq] at e
  obtain ⟨rfl, rfl, rfl⟩ := e
  rw [bytes_int] at hby
  exact ⟨A, n, c, L, rfl, hS, by omega, ho⟩
end
end Go.Proofs.YtpkomloblhbkiaaGreatDoor
/- reading a record. -/
namespace Go.Proofs.YtpkomloblhbkiaaGreatDoor
open Go.RowKit Go.ChangeShapes Go.WideShapes Go.ChangeAt Go.Deep
section
variable {H : Type} {enc' : TypeId × Value → H} {w : World} {base b0 : Nat} {spare : Nat → Bool} {held : Bool} {r : Reach} {v : Value} {d : DataW H} {p : List MemPlace}
end
end Go.Proofs.YtpkomloblhbkiaaGreatDoor
