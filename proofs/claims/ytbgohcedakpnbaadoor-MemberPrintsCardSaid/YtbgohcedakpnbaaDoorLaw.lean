/- From a law's walk to its statement: reading the arguments. -/
import Derived.Test.YtbgohcedakpnbaaDoorBase
import Derived.Deep.Slices
import Derived.Lib.SmallJoins
import Derived.SizedLaws
set_option linter.unusedVariables false
namespace Go.Proofs.YtbgohcedakpnbaaDoor
open Go.RowKit Go.ChangeShapes Go.WideShapes Go.ChangeAt Go.Deep
theorem own : ownKnob Tryd.prog.godebug = none := by kernel_rfl
theorem laidOut : laidOutB Tryd.prog = true := by kernel_rfl

theorem exists_list {α : Type} (Q : Nat → α → Prop) (n : Nat) (h : ∀ i, i < n → ∃ y, Q i y) : ∃ L : List α, L.length = n ∧ ∀ i y, L[i]? = some y → Q i y := by
  induction n with
  | zero => exact ⟨[], rfl, fun i y hy => by simp at hy⟩
  | succ n ih =>
    obtain ⟨L, hl, hL⟩ := ih fun i hi => h i (by omega)
    obtain ⟨y, hy⟩ := h n (by omega)
    refine ⟨L ++ [y], by simp [hl], fun i z hz => ?_⟩
    rcases Nat.lt_or_ge i n with hi | hi
    · rw [List.getElem?_append_left (by omega)] at hz; exact hL i z hz
    · rw [List.getElem?_append_right (by omega)] at hz
      have : i - L.length = 0 := by
        have := (List.getElem?_eq_some_iff.1 hz).1
        simp at this; omega
      rw [this] at hz
      simp at hz
      subst hz
      have : i = n := by omega
      subst this; exact hy

/-- nothing that is read takes more than the form's reach -/
def Light {H : Type} (t : TypeId) (d : DataW H) : Prop := ∀ m ∈ d.weights Tryd.prog t, m ≤ reachBytes
theorem light_string {H : Type} {t : TypeId} {bs : List UInt8} (h : Light (H := H) t (.lit (.string bs))) : bs.length ≤ 140737488351232 := h _ (by simp [DataW.weights])
theorem light_struct {H : Type} {t : TypeId} {fs : Array Field} {parts : List (DataW H)} (ht : Tryd.prog.underlying t = some (.struct fs)) (h : Light t (.agg parts)) {j : Nat} {f : Field} {d : DataW H} (hf : fs[j]? = some f) (hd : parts[j]? = some d) : Light f.type d := by
  intro m hm
  refine h m ?_
  simp only [DataW.weights, ht]
  exact DataW.weights_mem_each (j := j) (by simp [hf]) hd m hm
theorem light_all {H : Type} {e : TypeId} : ∀ {l : List (DataW H)} {d : DataW H}, d ∈ l → ∀ m ∈ d.weights Tryd.prog e, m ∈ DataW.weightsAll Tryd.prog e l
  | x :: r, d, hd, m, hm => by
    simp only [DataW.weightsAll, List.mem_append]
    rcases List.mem_cons.1 hd with rfl | hd
    · exact .inl hm
    · exact .inr (light_all hd m hm)
theorem light_slice {H : Type} {t e : TypeId} {elems spare : List (DataW H)} (ht : Tryd.prog.underlying t = some (.slice e)) (h : Light t (.slice elems spare)) : (elems.length + spare.length) * Tryd.prog.bytesOf e ≤ 140737488351232 ∧ ∀ d ∈ elems, Light e d := by
  refine ⟨h _ (by simp [DataW.weights, ht]), fun d hd m hm => h m ?_⟩
  simp only [DataW.weights, ht, List.mem_cons, List.mem_append]
  exact .inr (.inl (light_all hd m hm))
theorem light_arg {H : Type} {ts : List TypeId} {ds : List (DataW H)} (h : (DataW.weightsEach Tryd.prog ts ds).all (· ≤ reachBytes) = true) {j : Nat} {t : TypeId} {d : DataW H} (ht : ts[j]? = some t) (hd : ds[j]? = some d) : Light t d := by
  intro m hm
  have := List.all_eq_true.1 h m (DataW.weights_mem_each ht hd m hm)
  simpa using this

section
variable {H : Type} {enc' : TypeId × Value → H} {w : World} {base : Nat} {spare : Nat → Bool} {held : Bool}
theorem open_row {α : Type} {enc : α → List Value} {sz : Nat} {Ok : α → Prop} {t e : TypeId} {fuel : Nat} {cs : List Value} {x : DataW H × List MemPlace}
    (ht : Tryd.prog.underlying t = some (.slice e)) (hc : Tryd.prog.cellsOf e = sz) (hpos : 0 < sz)
    (he : ∀ n cs x, DataW.trod enc' Tryd.prog w base spare held n e cs = some x → Light e x.1 → ∃ y, cs = enc y ∧ Ok y)
    (h : DataW.trod enc' Tryd.prog w base spare held fuel t cs = some x) (hw : Light t x.1) :
    ∃ A n c L, cs = [.slice A n c] ∧ SlR enc sz w w.heap.size A n L ∧ n ≤ c ∧ c ≤ maxLen ∧ (∀ y ∈ L, Ok y) ∧ n * Tryd.prog.bytesOf e ≤ 140737488351232 := by
  rcases open_slice ht h with ⟨rfl, _⟩ | ⟨a, len, cap, m, n, D, Pl, rfl, _, hl, hm, hmm, hx, hi⟩
  · exact ⟨none, 0, 0, [], rfl, SlR.nil_, by omega, by simp [maxLen], by simp, by omega⟩
  · have hle : len ≤ m := by rw [hmm]; split <;> omega
    subst hx
    obtain ⟨hby, hels⟩ := light_slice ht hw
    simp only [List.length_map, List.length_range] at hby
    have hby' : len * Tryd.prog.bytesOf e ≤ 140737488351232 := Nat.le_trans (Nat.mul_le_mul_right _ (by omega)) hby
    obtain ⟨L, hL, hQ⟩ := exists_list (fun i y => ∃ cs', w.cells? base (a.add (i * Tryd.prog.cellsOf e)) (Tryd.prog.cellsOf e) = some cs' ∧ cs' = enc y ∧ Ok y) len (fun i hil => by
      obtain ⟨cs', h1, h2⟩ := hi i (by omega)
      obtain ⟨y, hy, ho⟩ := he _ _ _ h2 (hels _ (List.mem_map.2 ⟨i, by simpa using hil, rfl⟩))
      exact ⟨y, cs', h1, hy, ho⟩)
    refine ⟨some a, len, cap, L, rfl, ⟨hL, ?_⟩, hl, hm, fun y hy => ?_, hby'⟩
    · rcases Nat.eq_zero_or_pos len with h0 | h0
      · exact .inl h0
      · have hcell : ∀ k x, L[k]? = some x → ∀ j v, (enc x)[j]? = some v → w.cell? ((a.add (k * sz)).add j) = some v := by
          intro k x hk j v hv
          obtain ⟨cs', h1, h2, _⟩ := hQ k x hk
          subst h2
          obtain ⟨_, hlen, hat⟩ := World.cells?_some h1
          have hj : j < (enc x).length := (List.getElem?_eq_some_iff.1 hv).1
          have := hat j (by omega)
          rw [hc] at this
          rw [this, hv]
        obtain ⟨x0, hx0⟩ : ∃ x, L[0]? = some x := ⟨L[0]'(by omega), List.getElem?_eq_getElem (by omega)⟩
        have hsz : (enc x0).length = sz := by
          obtain ⟨cs', h1, h2, _⟩ := hQ 0 x0 hx0
          subst h2
          obtain ⟨_, hlen, _⟩ := World.cells?_some h1
          rw [hlen, hc]
        obtain ⟨v0, hv0⟩ : ∃ v, (enc x0)[0]? = some v := ⟨(enc x0)[0]'(by omega), List.getElem?_eq_getElem (by omega)⟩
        have hcell0 := hcell 0 x0 hx0 0 v0 hv0
        have e0 : (a.add (0 * sz)).add 0 = a := by simp [Addr.add]
        rw [e0] at hcell0
        have hbl := World.block_lt_of_cell? w a hcell0
        obtain ⟨b, off, spot⟩ := a
        obtain rfl : spot = none := by
          cases spot with
          | none => rfl
          | some s =>
            simp only [World.cell?] at hcell0
            split at hcell0 <;> simp_all
        refine .inr ⟨b, off, rfl, hbl, fun k x hk j v hv => ?_⟩
        have := hcell k x hk j v hv
        rwa [Addr.add_lit, Addr.add_lit] at this
    · obtain ⟨i, hi⟩ := List.getElem?_of_mem hy
      obtain ⟨_, _, _, ho⟩ := hQ i y hi
      exact ho
end
end Go.Proofs.YtbgohcedakpnbaaDoor
