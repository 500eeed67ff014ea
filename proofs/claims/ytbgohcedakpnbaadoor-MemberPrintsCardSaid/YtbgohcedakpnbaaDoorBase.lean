/- The small kit of these proofs: slices that read as lists, worlds that only grow. -/
import Derived.Test.YtbgohcedakpnbaaDoorRows
import Derived.WalkKit
import Derived.ProofKit
import Derived.OpenShut
import Derived.Handy
import Derived.LoopTactic
import Derived.OwnWalk
import Derived.BigQuiet
import Derived.Deep.QuietTactic
import Derived.Deep.LoopGhost
import Derived.WalkSpells
import Derived.WalkLawsBesides
import Derived.Lib.Hide
import Derived.Lib.Strings
import Derived.Laws.OwnMore
import Derived.Deep.Draws
import Derived.Deep.AppendLies
import Derived.Maps.AppendAt
set_option linter.unusedVariables false
namespace Go.Proofs.YtbgohcedakpnbaaDoor
open Go.RowKit

theorem ret_bool {a b : Bool} (h : a = b) : Ending.returned (.bool a) = .returned (.bool b) := by rw [h]
theorem ret_int {k : IntKind} {a b : Int} (h : a = b) : Ending.returned (.int k a) = .returned (.int k b) := by rw [h]

/-- At block b from place off on lie the elements of L, each as the sz cells 'enc x'. -/
def SlC {α : Type} (enc : α → List Value) (sz : Nat) (w : World) (b off : Nat) (L : List α) : Prop :=
  ∀ k x, L[k]? = some x → ∀ j v, (enc x)[j]? = some v → w.cell? ⟨b, off + k * sz + j, none⟩ = some v

/-- The slice with address A and n elements reads as the list L, and lies below block B. -/
def SlR {α : Type} (enc : α → List Value) (sz : Nat) (w : World) (B : Nat) (A : Option Addr) (n : Nat) (L : List α) : Prop :=
  L.length = n ∧ (n = 0 ∨ ∃ b off, A = some ⟨b, off, none⟩ ∧ b < B ∧ SlC enc sz w b off L)

section
variable {α : Type} {enc : α → List Value} {sz : Nat} {w w' : World} {B B' b off n : Nat} {A : Option Addr} {L : List α}
theorem SlC.keep (h : SlC enc sz w b off L) (hk : ∀ o, w'.cell? ⟨b, o, none⟩ = w.cell? ⟨b, o, none⟩) : SlC enc sz w' b off L :=
  fun k x hx j v hv => (hk _).trans (h k x hx j v hv)
theorem SlC.below (h : SlC enc sz w b off L) (hb : Below B w w') (hB : b < B) : SlC enc sz w' b off L := h.keep fun o => hb.cell (p := ⟨b, o, none⟩) hB
theorem SlR.keep (h : SlR enc sz w B A n L) (hk : ∀ b o, b < B → w'.cell? ⟨b, o, none⟩ = w.cell? ⟨b, o, none⟩) : SlR enc sz w' B A n L :=
  ⟨h.1, h.2.imp id fun ⟨b, off, e, hb, hc⟩ => ⟨b, off, e, hb, hc.keep fun o => hk b o hb⟩⟩
theorem SlR.more (h : SlR enc sz w B A n L) (hB : B ≤ B') : SlR enc sz w B' A n L :=
  ⟨h.1, h.2.imp id fun ⟨b, off, e, hb, hc⟩ => ⟨b, off, e, by omega, hc⟩⟩
theorem SlR.below (h : SlR enc sz w B A n L) (hb : Below B w w') : SlR enc sz w' B A n L := h.keep fun _ _ hB => hb.cell hB
theorem SlR.nil_ : SlR enc sz w B A 0 ([] : List α) := ⟨rfl, .inl rfl⟩
theorem SlR.ofC (hl : L.length = n) (hb : b < B) (h : SlC enc sz w b off L) : SlR enc sz w B (some ⟨b, off, none⟩) n L := ⟨hl, .inr ⟨b, off, rfl, hb, h⟩⟩

/-- the flat cells of a list -/
def flat (enc : α → List Value) (L : List α) : List Value := L.flatMap enc
theorem flat_nil : flat enc [] = [] := rfl
theorem flat_snoc (x : α) : flat enc (L ++ [x]) = flat enc L ++ enc x := by simp [flat]
theorem flat_append (M : List α) : flat enc (L ++ M) = flat enc L ++ flat enc M := by simp [flat]
theorem flat_length (he : ∀ x, (enc x).length = sz) : (flat enc L).length = L.length * sz := by
  induction L with
  | nil => simp [flat]
  | cons x L ih => simp only [flat, List.flatMap_cons, List.length_append, List.length_cons] at *; rw [ih, he, Nat.add_mul]; omega
theorem flat_get (he : ∀ x, (enc x).length = sz) : ∀ (L : List α) (k : Nat) (x : α), L[k]? = some x → ∀ j v, (enc x)[j]? = some v → (flat enc L)[k * sz + j]? = some v := by
  intro L
  induction L with
  | nil => intro k x h; simp at h
  | cons y L ih =>
    intro k x h j v hv
    cases k with
    | zero =>
      simp only [List.getElem?_cons_zero, Option.some.injEq] at h
      subst h
      have hj : j < (enc y).length := (List.getElem?_eq_some_iff.1 hv).1
      simp only [flat, List.flatMap_cons, Nat.zero_mul, Nat.zero_add]
      rw [List.getElem?_append_left hj]; exact hv
    | succ k =>
      simp only [List.getElem?_cons_succ] at h
      simp only [flat, List.flatMap_cons]
      rw [List.getElem?_append_right (by rw [he, Nat.add_mul]; omega), he]
      have : (k + 1) * sz + j - sz = k * sz + j := by rw [Nat.add_mul]; omega
      rw [this]
      exact ih k x h j v hv

theorem SlR.of_own {base : Nat} {e : TypeId} {c : Nat} (he : ∀ x, (enc x).length = sz) (h : w.ownsRow base e sz (.slice A n c) n (flat enc L)) (hl : L.length = n) :
    SlR enc sz w w.heap.size A n L := by
  refine ⟨hl, ?_⟩
  rcases h.2 with ⟨_, h0⟩ | ⟨g, cap, cur, hv, _, hg, _⟩
  · exact .inl h0
  · have hA : A = some ⟨g, 0, none⟩ := by injection hv
    subst hA
    refine .inr ⟨g, 0, rfl, (Array.getElem?_eq_some_iff.1 hg).1, fun k x hx j v hv => ?_⟩
    have := h.cells (g := g) rfl (k * sz + j) v (flat_get he L k x hx j v hv)
    have hadd : (⟨g, 0, none⟩ : Addr).add (k * sz + j) = ⟨g, 0 + k * sz + j, none⟩ := by unfold Addr.add; split <;> simp_all
    rwa [hadd] at this
end

theorem below_drewN {B : Nat} {a w : World} (h : Below B a w) (n : Nat) : Below B a (w.drewN n) := ⟨h.os, h.tape, h.output, h.size, h.block⟩
theorem bcell {W w1 : World} (hb : Below W.heap.size W w1) : (∀ b o, b < W.heap.size → w1.cell? ⟨b, o, none⟩ = W.cell? ⟨b, o, none⟩) ∧ (∀ b o, b < W.heap.size → w1.frozen? ⟨b, o, none⟩ = W.frozen? ⟨b, o, none⟩) :=
  ⟨fun b o h => hb.cell (p := ⟨b, o, none⟩) h, fun b o h => hb.frozen (p := ⟨b, o, none⟩) h⟩
/-- Block g is just the cells cs of element type t, none frozen. -/
def Blk (w : World) (g : Nat) (t : TypeId) (cs : Array Value) : Prop := w.heap[g]? = some (.cells cs t (0, 0))
section
variable {w w' : World} {g : Nat} {t : TypeId} {cs : Array Value}
theorem Blk.lt (h : Blk w g t cs) : g < w.heap.size := by
  rcases Nat.lt_or_ge g w.heap.size with hlt | hge
  · exact hlt
  · unfold Blk at h; rw [Array.getElem?_eq_none hge] at h; cases h
theorem Blk.cell (h : Blk w g t cs) (i : Nat) : w.cell? ⟨g, i, none⟩ = cs[i]? := cell_of_row w g i cs t (0, 0) h
theorem Blk.frozen (h : Blk w g t cs) (i : Nat) : w.frozen? ⟨g, i, none⟩ = false := by
  unfold Blk at h
  simp [World.frozen?, h]
theorem Blk.new (w : World) (t : TypeId) (cs : Array Value) : Blk (w.alloc (.cells cs t)) w.heap.size t cs := heap_alloc_new w _
theorem Blk.drew (h : Blk w g t cs) : Blk w.drew g t cs := h
theorem Blk.drewN (h : Blk w g t cs) (n : Nat) : Blk (w.drewN n) g t cs := h
theorem Blk.alloc (h : Blk w g t cs) (o : Obj) : Blk (w.alloc o) g t cs := (Below.heap_alloc w o g h.lt).trans h
theorem Blk.set_ (h : Blk w g t cs) (i : Nat) (u : Value) : Blk (w.setCell ⟨g, i, none⟩ u) g t (cs.setIfInBounds i u) := by
  unfold Blk at h ⊢
  simp [World.setCell, Array.getElem?_modify, h]
theorem Blk.far (h : Blk w g t cs) {p : Addr} (hp : g ≠ p.block) (u : Value) : Blk (w.setCell p u) g t cs := (Below.heap_setCell w p u g hp).trans h
theorem Blk.below {B : Nat} (h : Blk w g t cs) (hb : Below B w w') (hg : g < B) : Blk w' g t cs := (hb.block g hg).trans h
theorem Blk.grown {row : Option Nat} (h : Blk w g t cs) (hb : w.grownBy w' row) (hg : some g ≠ row) : Blk w' g t cs := (hb.block g h.lt hg).trans h
theorem Blk.ne_ {g' : Nat} {t' : TypeId} {cs' : Array Value} (h : Blk w g t cs) (h' : Blk w g' t' cs') (hne : t ≠ t') : g ≠ g' := by
  rintro rfl
  unfold Blk at h h'
  rw [h] at h'
  injection h' with h'
  injection h' with _ ht
  exact hne ht
theorem own_blk_ne {base : Nat} {e : TypeId} {size n : Nat} {v : Value} {xs : List Value} (h : w.ownsRow base e size v n xs) (hg : Blk w g t cs) (hne : e ≠ t) : v.ownBlock ≠ some g := by
  rcases h.2 with ⟨rfl, _⟩ | ⟨g', cap, cur, rfl, _, hh, _⟩
  · simp [Value.ownBlock]
  · intro he
    have : g' = g := by simpa [Value.ownBlock] using he
    subst this
    exact Blk.ne_ (t := e) hh hg hne rfl
/-- its cells, one by one: to be laid ahead of a walk -/
theorem Blk.cells (h : Blk w g t cs) : ∀ i v, cs[i]? = some v → w.cell? ⟨g, i, none⟩ = some v := fun i _ hv => (h.cell i).trans hv
end

/-- A function's end, closed to the walk: 'go_wp2_with (with_reducible refine end_at ?_)' stops there; then 'refine end_ret (v := ..) ..'. -/
def EndAt (P : Program) (fn : Func) (R : Ending → World → Prop) (a : Act) (w : World) : Prop := bodyPost P fn R .ret a w
theorem end_at {P : Program} {fn : Func} {R : Ending → World → Prop} {a : Act} {w : World} (h : EndAt P fn R a w) : bodyPost P fn R .ret a w := h
theorem end_ret {P : Program} {fn : Func} {R : Ending → World → Prop} {a : Act} {w : World} {v : Value} (h : (results fn a.tmps).run P w = .ok v w) (hd : a.defers = []) (hR : R (.returned v) w) : EndAt P fn R a w := bodyPost_ret h hd hR
theorem bytes_ext {a b : ByteArray} (h : a.toList = b.toList) : a = b := by
  rw [Lib.toList_data, Lib.toList_data] at h
  rw [← Lib.mk_data a, h, Lib.mk_data]
theorem bytes_eq_iff (a b : ByteArray) : a.toList = b.toList ↔ a = b := ⟨bytes_ext, fun h => by rw [h]⟩
end Go.Proofs.YtbgohcedakpnbaaDoor
