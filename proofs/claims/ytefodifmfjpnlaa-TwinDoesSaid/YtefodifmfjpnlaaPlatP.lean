/- chapter 13, plain: what the platter's operations keep. -/
import Derived.Test.YtefodifmfjpnlaaPlatO
set_option linter.unusedVariables false
namespace Go.Proofs.Ytefodifmfjpnlaa
open Go.RowKit
theorem write_ok {p : Plat} {i : Int} {s : ByteArray} (h : (writeF p i s).2 = 0) : checkP p = true ∧ hasB p.sectors.length i = true ∧ s.size ≤ 128 ∧ p.cache.length < 100 ∧ (writeF p i s).1 = ⟨p.sectors, p.cache ++ [⟨i, s⟩]⟩ := by
  unfold writeF oneF at *
  by_cases h1 : checkP p = true
  · by_cases h2 : hasB p.sectors.length i = true
    · by_cases h3 : s.size ≤ 128
      · by_cases h4 : 100 ≤ p.cache.length
        · simp [h1, h2, h3, h4] at h
        · simp only [h1, h2, h3, h4, if_true, decide_false]
          refine ⟨trivial, trivial, trivial, by omega, rfl⟩
      · simp [h1, h2, h3] at h
    · simp [h1, h2] at h
  · simp [h1] at h
theorem write_bad {p : Plat} {i : Int} {s : ByteArray} (h : (writeF p i s).2 ≠ 0) : (writeF p i s).1 = noPlat := by
  unfold writeF oneF at *
  split <;> try rfl
  split <;> try rfl
  split <;> try rfl
  split
  · rfl
  · simp_all
theorem put_ok {p : Plat} {i : Int} {s : ByteArray} (hc : checkP p = true) (hi : hasB p.sectors.length i = true) (hs : s.size ≤ 128) (hl : p.cache.length < 100) : checkP ⟨p.sectors, p.cache ++ [⟨i, s⟩]⟩ = true := by
  obtain ⟨a, b, c, d, e⟩ := (checkP_iff p).1 hc
  refine (checkP_iff _).2 ⟨a, b, by simp; omega, d, ?_⟩
  intro x hx
  simp only [List.mem_append, List.mem_singleton] at hx
  rcases hx with hx | rfl
  · exact e x hx
  · simp only [putB, longB, hi, Bool.and_true, Bool.not_eq_true', decide_eq_false_iff_not]; omega
theorem lastP_snoc (L : List PPut) (x : PPut) (i : Nat) : lastP (L ++ [x]) i = if x.pos = (i : Int) then some x else lastP L i := by
  unfold lastP
  rw [List.reverse_append]
  by_cases h : x.pos = (i : Int) <;> simp [h]
/-- what a sector has behind the first k texts is what is read of them -/
theorem settle1_get (p : Plat) (hc : checkP p = true) (i : Nat) (hi : i < p.sectors.length) : ∀ k, k ≤ p.cache.length →
    (settleTo p (fun _ => 1) k).sectors.getD i ByteArray.empty = readOf ⟨p.sectors, p.cache.take k⟩ i := by
  obtain ⟨_, _, _, _, e⟩ := (checkP_iff p).1 hc
  intro k
  induction k with
  | zero => intro _; simp [settleTo, readOf, lastP]
  | succ k ih =>
    intro hk
    have hx : p.cache[k]? = some (p.cache[k]'(by omega)) := List.getElem?_eq_getElem (by omega)
    generalize p.cache[k]'(by omega) = x at hx
    have hp := e x (List.mem_of_getElem? hx)
    have ht : p.cache.take (k + 1) = p.cache.take k ++ [x] := by rw [List.take_add_one, hx]; rfl
    have hg : p.cache.getD k noPut = x := by simp [List.getD, hx]
    have hl := (settleTo_keeps p (fun _ => 1) hc k (by omega)).1
    rw [settleTo, hg, ht]
    have h1 : fallF (settleTo p (fun _ => 1) k) x 1 = { settleTo p (fun _ => 1) k with sectors := (settleTo p (fun _ => 1) k).sectors.set x.pos.toNat x.text } := by simp [fallF]
    simp only [h1]
    simp only [putB, hasB, Bool.and_eq_true, decide_eq_true_eq] at hp
    unfold readOf
    rw [lastP_snoc]
    by_cases hxi : x.pos = (i : Int)
    · rw [if_pos hxi]
      have : x.pos.toNat = i := by omega
      rw [this]
      simp only [List.getD, List.getElem?_set_self (show i < (settleTo p (fun _ => 1) k).sectors.length by omega), Option.getD_some]
    · rw [if_neg hxi]
      have : x.pos.toNat ≠ i := by omega
      have := ih (by omega)
      unfold readOf at this
      rw [← this]
      simp only [List.getD, List.getElem?_set_ne ‹x.pos.toNat ≠ i›]
theorem sync_ok {p : Plat} (hc : checkP p = true) : (syncF p).2 = 0 ∧ (syncF p).1.cache = [] ∧ (syncF p).1.sectors.length = p.sectors.length ∧ checkP (syncF p).1 = true ∧
    ∀ i, i < p.sectors.length → (syncF p).1.sectors.getD i ByteArray.empty = readOf p i := by
  have e : syncF p = (⟨(settleTo p (fun _ => 1) p.cache.length).sectors, []⟩, 0) := by unfold syncF settleF; rw [if_pos hc]
  obtain ⟨k1, k2, _⟩ := settleTo_keeps p (fun _ => 1) hc p.cache.length (Nat.le_refl _)
  obtain ⟨a, b, c, _, _⟩ := (checkP_iff p).1 hc
  rw [e]
  refine ⟨rfl, rfl, k1, (checkP_iff _).2 ⟨by simp only; omega, by simp only; omega, by simp, k2, by simp⟩, ?_⟩
  intro i hi
  have := settle1_get p hc i hi p.cache.length (Nat.le_refl _)
  rw [List.take_length] at this
  exact this
theorem readOf_bare (S : List ByteArray) (i : Nat) : readOf ⟨S, []⟩ i = S.getD i ByteArray.empty := by simp [readOf, lastP]
theorem readF_ok {p : Plat} (hc : checkP p = true) (i : Int) : readF p i = if hasB p.sectors.length i = true then (readOf p i.toNat, 0) else (ByteArray.empty, 130) := by unfold readF; rw [if_pos hc]
theorem hasB_iff (n : Nat) (i : Int) : hasB n i = true ↔ 0 ≤ i ∧ i < n := by simp [hasB]
theorem read_sync {p : Plat} (hc : checkP p = true) (i : Int) : readF (syncF p).1 i = readF p i := by
  obtain ⟨_, h2, h3, h4, h5⟩ := sync_ok hc
  rw [readF_ok hc, readF_ok h4, h3]
  by_cases hb : hasB p.sectors.length i = true
  · rw [if_pos hb, if_pos hb]
    have hi := (hasB_iff _ _).1 hb
    have e : (syncF p).1 = ⟨(syncF p).1.sectors, []⟩ := by rw [← h2]
    rw [e, readOf_bare, h5 _ (by omega)]
  · rw [if_neg hb, if_neg hb]
/-- PlatterLast's plain law -/
theorem last_plain {p : Plat} {i o : Int} {s : ByteArray} (hio : i ≠ o) (h : (writeF p i s).2 = 0) :
    (syncF (writeF p i s).1).2 = 0 ∧ (syncF (writeF p i s).1).1.cache = [] ∧ readF (writeF p i s).1 i = (s, 0) ∧ readF (syncF (writeF p i s).1).1 i = (s, 0) ∧ readF p o = readF (syncF (writeF p i s).1).1 o := by
  obtain ⟨hc, hi, hs, hl, e⟩ := write_ok h
  rw [e]
  have hc' := put_ok hc hi hs hl
  obtain ⟨h1, h2, _⟩ := sync_ok hc'
  have hn := (hasB_iff _ _).1 hi
  have hr : readF ⟨p.sectors, p.cache ++ [⟨i, s⟩]⟩ i = (s, 0) := by
    rw [readF_ok hc', if_pos hi]
    simp only [readOf, lastP_snoc]
    rw [if_pos (by omega)]
  refine ⟨h1, h2, hr, by rw [read_sync hc', hr], ?_⟩
  rw [read_sync hc', readF_ok hc, readF_ok hc']
  by_cases hb : hasB p.sectors.length o = true
  · rw [if_pos hb, if_pos hb]
    have ho := (hasB_iff _ _).1 hb
    simp only [readOf, lastP_snoc]
    rw [if_neg (by omega)]
  · rw [if_neg hb, if_neg hb]
end Go.Proofs.Ytefodifmfjpnlaa
