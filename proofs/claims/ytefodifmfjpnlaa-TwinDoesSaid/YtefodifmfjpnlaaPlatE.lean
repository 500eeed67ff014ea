/- platter: what becomes of all texts that wait (plain); Crash's fates. -/
import Derived.Test.YtefodifmfjpnlaaPlatD
set_option linter.unusedVariables false
namespace Go.Proofs.Ytefodifmfjpnlaa
open Go.RowKit
def noPlat : Plat := ⟨[], []⟩
def noPut : PPut := ⟨0, ByteArray.empty⟩
/-- the disk behind the first k texts that waited -/
def settleTo (p : Plat) (f : Nat → Int) : Nat → Plat
  | 0 => p
  | k + 1 => fallF (settleTo p f k) (p.cache.getD k noPut) (f k)
def settleF (p : Plat) (f : Nat → Int) : Plat × Int := if checkP p = true then (⟨(settleTo p f p.cache.length).sectors, []⟩, 0) else (noPlat, 1)
theorem size_mix (old s : ByteArray) (n : Nat) (h1 : old.size ≤ 128) (h2 : s.size ≤ 128) : (mixB old s n).size ≤ 128 := by
  unfold mixB
  split
  · simp only [ByteArray.size_append, ByteArray.size_extract]; omega
  · simp only [ByteArray.size_extract]; omega
theorem checkP_iff (p : Plat) : checkP p = true ↔ 1 ≤ p.sectors.length ∧ p.sectors.length ≤ 200 ∧ p.cache.length ≤ 100 ∧ (∀ s ∈ p.sectors, s.size ≤ 128) ∧ (∀ x ∈ p.cache, putB p.sectors.length x = true) := by
  simp only [checkP, Bool.and_eq_true, decide_eq_true_eq, List.all_eq_true, Bool.not_eq_true', List.any_eq_false]
  constructor
  · rintro ⟨a, b, c, d, e⟩
    exact ⟨a, b, c, fun s hs => by have := d s hs; simp [longB] at this; exact this, e⟩
  · rintro ⟨a, b, c, d, e⟩
    exact ⟨a, b, c, fun s hs => by have := d s hs; simp [longB]; exact this, e⟩
theorem fallF_keeps (p : Plat) (x : PPut) (fate : Int) (hs : ∀ s ∈ p.sectors, s.size ≤ 128) (hx : x.text.size ≤ 128) :
    (fallF p x fate).sectors.length = p.sectors.length ∧ (∀ s ∈ (fallF p x fate).sectors, s.size ≤ 128) ∧ (fallF p x fate).cache = p.cache := by
  unfold fallF
  split
  · exact ⟨rfl, hs, rfl⟩
  · split
    · refine ⟨by simp, fun s h => ?_, rfl⟩
      rcases List.mem_or_eq_of_mem_set h with h | rfl
      · exact hs s h
      · exact hx
    · refine ⟨by simp, fun s h => ?_, rfl⟩
      rcases List.mem_or_eq_of_mem_set h with h | rfl
      · exact hs s h
      · refine size_mix _ _ _ ?_ hx
        rw [List.getD_eq_getElem?_getD]
        cases h : p.sectors[x.pos.toNat]? with
        | none => simp
        | some y => exact hs y (List.mem_of_getElem? h)
theorem settleTo_keeps (p : Plat) (f : Nat → Int) (hc : checkP p = true) : ∀ k, k ≤ p.cache.length → (settleTo p f k).sectors.length = p.sectors.length ∧ (∀ s ∈ (settleTo p f k).sectors, s.size ≤ 128) ∧ (settleTo p f k).cache = p.cache := by
  obtain ⟨_, _, _, hs, hx⟩ := (checkP_iff p).1 hc
  intro k
  induction k with
  | zero => intro _; exact ⟨rfl, hs, rfl⟩
  | succ k ih =>
    intro hk
    obtain ⟨h1, h2, h3⟩ := ih (by omega)
    have hm : p.cache.getD k noPut ∈ p.cache := by
      rw [List.getD_eq_getElem?_getD, List.getElem?_eq_getElem (show k < p.cache.length by omega)]; exact List.getElem_mem _
    have hp := hx _ hm
    have ht : (p.cache.getD k noPut).text.size ≤ 128 := by
      simp [putB, longB] at hp; exact hp.1
    obtain ⟨g1, g2, g3⟩ := fallF_keeps (settleTo p f k) (p.cache.getD k noPut) (f k) h2 ht
    exact ⟨g1.trans h1, g2, g3.trans h3⟩

theorem sync1_any (i : Int) (w : World) : Calls Try.prog 35 #[.int .i64 i] w fun e w' => e = .returned (.int .i64 1) ∧ w = w' := by
  go_enter Try.func35, Try.ntmps35
  go_wp2
  go_ret
  exact ⟨rfl, rfl⟩
def encI (n : Int) : List Value := [.int .i64 n]
theorem encI_len (n : Int) : (encI n).length = 1 := rfl
theorem SlC.int {w : World} {b off : Nat} {L : List Int} (h : SlC encI 1 w b off L) {k : Nat} {s : Int} (hl : L[k]? = some s) : w.cell? ⟨b, off + k, none⟩ = some (.int .i64 s) := by have := h k s hl 0 _ rfl; simpa using this
set_option maxHeartbeats 400000 in
theorem crash1_any (F : List Int) (k h : Nat) (A : Option Addr) (n c : Nat) (w : World) (hb : w.cell? ⟨h, 0, none⟩ = some (.slice A n c)) (hS : SlR encI 1 w w.heap.size A n F) (hn : n ≤ 140737488355328) :
    Calls Try.prog 40 #[.int .i64 k, .pointer (some ⟨h, 0, none⟩)] w fun e w' => e = .returned (.int .i64 (F.getD k 0)) ∧ w = w' := by
  obtain ⟨rfl, hA⟩ := hS
  by_cases hk : k < F.length
  · rcases hA with h0 | ⟨b, off, rfl, hb', hC⟩
    · omega
    · obtain ⟨x, hx⟩ : ∃ x, F[k]? = some x := ⟨F[k], List.getElem?_eq_getElem hk⟩
      have e1 : F.getD k 0 = x := by simp [List.getD, hx]
      rw [e1]
      have c0 := hC.int hx
      clear hC hx e1
      go_enter Try.func40, Try.ntmps40
      go_wp2
      go_ret
      exact ⟨rfl, rfl⟩
  · have e1 : F.getD k 0 = 0 := by rw [List.getD_eq_getElem?_getD, List.getElem?_eq_none (by omega)]; rfl
    rw [e1]
    clear e1
    go_enter Try.func40, Try.ntmps40
    go_wp2
    go_ret
    exact ⟨rfl, rfl⟩
end Go.Proofs.Ytefodifmfjpnlaa
