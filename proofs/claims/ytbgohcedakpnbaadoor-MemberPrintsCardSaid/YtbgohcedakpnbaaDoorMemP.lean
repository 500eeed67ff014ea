/- member, plain: names, records, places. -/
import Derived.Test.YtbgohcedakpnbaaDoorInts
set_option linter.unusedVariables false
set_option linter.unusedSimpArgs false
namespace Go.Proofs.YtbgohcedakpnbaaDoor
structure Rec where
  epoch : Int
  k : Int
  names : List ByteArray
  pledges : List ByteArray
def noRec : Rec := ⟨0, 0, [], []⟩
def letC (c : UInt8) : Bool := decide (97 ≤ c.toNat) && decide (c.toNat ≤ 122)
def digC (c : UInt8) : Bool := decide (48 ≤ c.toNat) && decide (c.toNat ≤ 57)
def nameC (c : UInt8) : Bool := letC c || digC c
/-- is a text a name? -/
def nameB (s : ByteArray) : Bool := decide (1 ≤ s.size) && (decide (s.size ≤ 20) && s.data.toList.all nameC)
theorem nameB_size {s : ByteArray} (h : s.size < 1 ∨ 20 < s.size) : nameB s = false := by
  unfold nameB
  rcases h with h | h
  · rw [decide_eq_false (by omega)]; rfl
  · rw [decide_eq_false (p := s.size ≤ 20) (by omega)]; simp
theorem nameB_all {s : ByteArray} (h1 : 1 ≤ s.size) (h2 : s.size ≤ 20) (h : ∀ i (hi : i < s.size), nameC s[i] = true) : nameB s = true := by
  unfold nameB
  rw [decide_eq_true h1, decide_eq_true h2]
  simp only [Bool.true_and, List.all_eq_true]
  intro x hx
  obtain ⟨i, hi, rfl⟩ := List.mem_iff_getElem.1 hx
  exact h i (by simpa using hi)
theorem nameB_no {s : ByteArray} {i : Nat} (hi : i < s.size) (h : nameC s[i] = false) : nameB s = false := by
  cases e : nameB s with
  | false => rfl
  | true =>
    unfold nameB at e
    simp only [Bool.and_eq_true, List.all_eq_true] at e
    have := e.2.2 s[i] (List.mem_iff_getElem.2 ⟨i, by simpa using hi, rfl⟩)
    rw [h] at this
    exact absurd this (by decide)
/-- is a not behind b? -/
def leS (a b : ByteArray) : Bool := Op.bytesLess a.toList b.toList || (a.toList == b.toList)
/-- the place i of a record is right -/
def placeB (r : Rec) (i : Nat) : Bool := nameB (r.names.getD i ⟨#[]⟩) && (decide ((r.pledges.getD i ⟨#[]⟩).size = 32) && (decide (i = 0) || !leS (r.names.getD i ⟨#[]⟩) (r.names.getD (i - 1) ⟨#[]⟩)))
def sizeB (r : Rec) : Bool := decide (1 ≤ r.epoch) && (decide (r.epoch ≤ 1000000) && (decide (1 ≤ r.names.length) && (decide (r.names.length ≤ 16) && (decide (r.pledges.length = r.names.length) && (decide (1 ≤ r.k) && decide (r.k ≤ r.names.length))))))
/-- is a record right? -/
def checkB (r : Rec) : Bool := sizeB r && (List.range r.names.length).all (placeB r)
theorem sizeB_iff (r : Rec) : sizeB r = true ↔ 1 ≤ r.epoch ∧ r.epoch ≤ 1000000 ∧ 1 ≤ r.names.length ∧ r.names.length ≤ 16 ∧ r.pledges.length = r.names.length ∧ 1 ≤ r.k ∧ r.k ≤ r.names.length := by
  simp [sizeB]
theorem checkB_iff (r : Rec) : checkB r = true ↔ (1 ≤ r.epoch ∧ r.epoch ≤ 1000000 ∧ 1 ≤ r.names.length ∧ r.names.length ≤ 16 ∧ r.pledges.length = r.names.length ∧ 1 ≤ r.k ∧ r.k ≤ r.names.length) ∧ ∀ i, i < r.names.length → placeB r i = true := by
  unfold checkB
  rw [Bool.and_eq_true, sizeB_iff, List.all_eq_true]
  simp only [List.mem_range]
theorem checkB_size {r : Rec} (h : ¬ (1 ≤ r.epoch ∧ r.epoch ≤ 1000000 ∧ 1 ≤ r.names.length ∧ r.names.length ≤ 16 ∧ r.pledges.length = r.names.length ∧ 1 ≤ r.k ∧ r.k ≤ r.names.length)) : checkB r = false := by
  cases e : checkB r with
  | false => rfl
  | true => exact absurd ((checkB_iff r).1 e).1 h
theorem checkB_at {r : Rec} {i : Nat} (hi : i < r.names.length) (h : placeB r i = false) : checkB r = false := by
  cases e : checkB r with
  | false => rfl
  | true =>
    have := ((checkB_iff r).1 e).2 i hi
    rw [h] at this
    exact absurd this (by decide)
theorem mgetD_at {L : List ByteArray} {i : Nat} {x : ByteArray} (h : L[i]? = some x) : L.getD i ⟨#[]⟩ = x := by
  rw [List.getD_eq_getElem?_getD, h]; rfl
/-- the first place of a name, from the end on -/
def findAt (L : List ByteArray) (s : ByteArray) (i : Nat) : Option Nat := (List.range i).find? fun j => (L.getD j ⟨#[]⟩).toList == s.toList
/-- what Place tells -/
def placeF (r : Rec) (s : ByteArray) : Int × Bool :=
  if checkB r = true then (match findAt r.names s r.names.length with | some j => ((j : Int) + 1, true) | none => (0, false)) else (0, false)
theorem findAt_none {L : List ByteArray} {s : ByteArray} {n : Nat} (h : ∀ j, j < n → ((L.getD j ⟨#[]⟩).toList == s.toList) = false) : findAt L s n = none := by
  unfold findAt
  rw [List.find?_eq_none]
  intro j hj
  rw [h j (by simpa using hj)]
  decide
theorem findAt_some {L : List ByteArray} {s : ByteArray} {n j : Nat} (hj : j < n) (h : ((L.getD j ⟨#[]⟩).toList == s.toList) = true) (h0 : ∀ i, i < j → ((L.getD i ⟨#[]⟩).toList == s.toList) = false) : findAt L s n = some j := by
  unfold findAt
  rw [List.find?_eq_some_iff_append]
  refine ⟨h, List.range j, (List.range (n - j - 1)).map (fun x => j + 1 + x), ?_, ?_⟩
  · have e : n = j + (1 + (n - j - 1)) := by omega
    rw [e, List.range_add, List.range_add]
    simp only [List.map_append, List.range_one, List.map_cons, List.map_nil, Nat.add_zero, List.singleton_append, List.map_map]
    congr 2
    rw [show j + (1 + (n - j - 1)) - j - 1 = n - j - 1 by omega]
    apply List.map_congr_left
    intro x _
    simp; omega
  · intro a ha
    rw [h0 a (by simpa using ha)]
    decide
end Go.Proofs.YtbgohcedakpnbaaDoor
/- member, plain: the order of names; places; a record without one of its names. -/
namespace Go.Proofs.YtbgohcedakpnbaaDoor
theorem less_self (l : List UInt8) : Op.bytesLess l l = false := by
  induction l with
  | nil => rfl
  | cons a l ih => rw [Op.bytesLess, ih]; simp
theorem less_cons (a b : UInt8) (l r : List UInt8) : Op.bytesLess (a :: l) (b :: r) = true ↔ a < b ∨ (a = b ∧ Op.bytesLess l r = true) := by
  rw [Op.bytesLess]; simp
theorem less_trans (l : List UInt8) : ∀ m r, Op.bytesLess l m = true → Op.bytesLess m r = true → Op.bytesLess l r = true := by
  induction l with
  | nil =>
    intro m r h1 h2
    cases m with
    | nil => exact h2
    | cons b m =>
      cases r with
      | nil => simp [Op.bytesLess] at h2
      | cons c r => rfl
  | cons a l ih =>
    intro m r h1 h2
    cases m with
    | nil => simp [Op.bytesLess] at h1
    | cons b m =>
      cases r with
      | nil => simp [Op.bytesLess] at h2
      | cons c r =>
        rw [less_cons] at h1 h2 ⊢
        rcases h1 with h1 | ⟨rfl, h1⟩
        · rcases h2 with h2 | ⟨rfl, h2⟩
          · exact .inl (UInt8.lt_trans h1 h2)
          · exact .inl h1
        · rcases h2 with h2 | ⟨rfl, h2⟩
          · exact .inl h2
          · exact .inr ⟨rfl, ih m r h1 h2⟩
theorem less_total (l : List UInt8) : ∀ m, Op.bytesLess l m = false → l ≠ m → Op.bytesLess m l = true := by
  induction l with
  | nil =>
    intro m h1 h2
    cases m with
    | nil => exact absurd rfl h2
    | cons b m => cases h1
  | cons a l ih =>
    intro m h1 h2
    cases m with
    | nil => rfl
    | cons b m =>
      rw [less_cons]
      have h3 : ¬ (a < b ∨ (a = b ∧ Op.bytesLess l m = true)) := by rw [← less_cons, h1]; simp
      by_cases e : a = b
      · subst e
        refine .inr ⟨rfl, ih m ?_ (fun e => h2 (by rw [e]))⟩
        cases h : Op.bytesLess l m with
        | false => rfl
        | true => exact absurd (.inr ⟨rfl, h⟩) h3
      · refine .inl ?_
        have h4 : ¬ a < b := fun h => h3 (.inl h)
        rw [UInt8.lt_iff_toNat_lt] at h4 ⊢
        have h5 : a.toNat ≠ b.toNat := fun h => e (UInt8.toNat_inj.1 h)
        omega
/-- texts that rise -/
def risesL (L : List ByteArray) : Prop := ∀ (i j : Nat) (x y : ByteArray), i < j → L[i]? = some x → L[j]? = some y → Op.bytesLess x.toList y.toList = true
theorem leS_no {a b : ByteArray} (h : leS a b = false) : Op.bytesLess b.toList a.toList = true := by
  unfold leS at h
  rw [Bool.or_eq_false_iff] at h
  exact less_total _ _ h.1 (by simpa using h.2)
theorem leS_lt {a b : ByteArray} (h : Op.bytesLess b.toList a.toList = true) : leS a b = false := by
  unfold leS
  rw [Bool.or_eq_false_iff]
  refine ⟨?_, ?_⟩
  · cases e : Op.bytesLess a.toList b.toList with
    | false => rfl
    | true => have := less_trans _ _ _ h e; rw [less_self] at this; exact this.symm ▸ rfl
  · cases e : (a.toList == b.toList) with
    | false => rfl
    | true =>
      have e' : a.toList = b.toList := by simpa using e
      rw [e', less_self] at h
      exact h.symm ▸ rfl
theorem check_place {r : Rec} (h : checkB r = true) {i : Nat} {x : ByteArray} (hx : r.names[i]? = some x) : nameB x = true ∧ (∀ y, r.pledges[i]? = some y → y.size = 32) ∧ ∀ z, 0 < i → r.names[i - 1]? = some z → Op.bytesLess z.toList x.toList = true := by
  have h1 := ((checkB_iff r).1 h).2 i (List.getElem?_eq_some_iff.1 hx).1
  unfold placeB at h1
  rw [mgetD_at hx] at h1
  simp only [Bool.and_eq_true, decide_eq_true_eq, Bool.or_eq_true] at h1
  refine ⟨h1.1, fun y hy => ?_, fun z hi hz => ?_⟩
  · rw [← mgetD_at hy]; exact h1.2.1
  · rcases h1.2.2 with h2 | h2
    · omega
    · rw [mgetD_at hz] at h2
      exact leS_no (by simpa using h2)
theorem check_rises {r : Rec} (h : checkB r = true) : risesL r.names := by
  intro i j x y hij hx hy
  induction j generalizing y with
  | zero => omega
  | succ j ih =>
    have hjl := (List.getElem?_eq_some_iff.1 hy).1
    obtain ⟨z, hz⟩ : ∃ z, r.names[j]? = some z := ⟨_, List.getElem?_eq_getElem (by omega)⟩
    have h1 := (check_place h hy).2.2 z (by omega) (by simpa using hz)
    by_cases e : i = j
    · subst e
      rw [hx] at hz
      rw [Option.some.inj hz]
      exact h1
    · exact less_trans _ _ _ (ih z (by omega) hz) h1
theorem rises_ne {L : List ByteArray} (h : risesL L) {i j : Nat} {x y : ByteArray} (hij : i < j) (hx : L[i]? = some x) (hy : L[j]? = some y) : (x.toList == y.toList) = false ∧ Op.bytesLess y.toList x.toList = false := by
  have h1 := h i j x y hij hx hy
  refine ⟨?_, ?_⟩
  · cases e : (x.toList == y.toList) with
    | false => rfl
    | true =>
      have e' : x.toList = y.toList := by simpa using e
      rw [e', less_self] at h1
      exact h1.symm ▸ rfl
  · cases e : Op.bytesLess y.toList x.toList with
    | false => rfl
    | true => have := less_trans _ _ _ h1 e; rw [less_self] at this; exact this.symm ▸ rfl
theorem place_at {r : Rec} (h : checkB r = true) {i : Nat} {x : ByteArray} (hx : r.names[i]? = some x) : placeF r x = ((i : Int) + 1, true) := by
  unfold placeF
  have hi := (List.getElem?_eq_some_iff.1 hx).1
  rw [if_pos h, findAt_some hi (by rw [mgetD_at hx]; simp) (fun k hk => by
    obtain ⟨z, hz⟩ : ∃ z, r.names[k]? = some z := ⟨_, List.getElem?_eq_getElem (by omega)⟩
    rw [mgetD_at hz]
    exact (rises_ne (check_rises h) hk hz hx).1)]
theorem place_none {r : Rec} {x : ByteArray} (hx : ∀ (i : Nat) y, r.names[i]? = some y → y.toList ≠ x.toList) : placeF r x = (0, false) := by
  unfold placeF
  split
  · rw [findAt_none (fun j hj => by
      obtain ⟨z, hz⟩ : ∃ z, r.names[j]? = some z := ⟨_, List.getElem?_eq_getElem hj⟩
      rw [mgetD_at hz]
      simpa using hx j z hz)]
  · rfl
theorem place_empty {r : Rec} (h : checkB r = true) : placeF r ⟨#[]⟩ = (0, false) := place_none (fun i y hy e => by
  have h1 := (check_place h hy).1
  have h2 : y.size = 0 := by
    have := congrArg List.length e
    rw [ByteArray.toList_eq] at this
    simpa using this
  rw [nameB_size (.inl (by omega))] at h1
  cases h1)
end Go.Proofs.YtbgohcedakpnbaaDoor
