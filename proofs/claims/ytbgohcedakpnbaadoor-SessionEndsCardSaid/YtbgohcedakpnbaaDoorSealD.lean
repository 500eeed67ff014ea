/- Chapter 6: what is sealed is opened (plain); the chapter's rows. -/
import Derived.Test.YtbgohcedakpnbaaDoorSealC
set_option linter.unusedVariables false
namespace Go.Proofs.YtbgohcedakpnbaaDoor
open Go.RowKit
theorem ba_eq {a b : ByteArray} (h : a.data = b.data) : a = b := by cases a; cases b; simp_all
theorem front_append (a b : ByteArray) : (a ++ b).extract 0 a.size = a := ba_eq (by
  rw [ByteArray.data_extract, ByteArray.data_append]
  show (a.data ++ b.data).extract 0 a.data.size = a.data
  simp)
theorem back_append (a b : ByteArray) : (a ++ b).extract a.size (a ++ b).size = b := ba_eq (by
  have h : (a ++ b).size = (a.data ++ b.data).size := by rw [← ByteArray.data_append]; rfl
  rw [h, ByteArray.data_extract, ByteArray.data_append]
  show (a.data ++ b.data).extract a.data.size (a.data ++ b.data).size = b.data
  rw [Array.extract_append, Array.extract_empty_of_size_le_start (Nat.le_refl _)]
  simp)
theorem two_parts (s : ByteArray) (k : Nat) (h : k ≤ s.size) : s.extract 0 k ++ s.extract k s.size = s := ba_eq (by
  rw [ByteArray.data_append, ByteArray.data_extract, ByteArray.data_extract]
  show s.data.extract 0 k ++ s.data.extract k s.data.size = s.data
  simp
  exact .inr (by omega))
theorem seal_ok {key nonce beside s a : ByteArray} (h : sealF key nonce beside s = (a, 0)) : key.size = 32 ∧ nonce.size = 12 ∧ beside.size ≤ 4000 ∧ s.size ≤ 4000 ∧ a = hideB key nonce 1 s ++ tagB (onceB key nonce) (stoldB beside (hideB key nonce 1 s)) := by
  unfold sealF at h
  by_cases h1 : key.size ≠ 32 ∨ nonce.size ≠ 12
  · rw [if_pos h1] at h; exact absurd (Prod.mk.inj h).2 (by decide)
  · rw [if_neg h1] at h
    by_cases h2 : 4000 < beside.size ∨ 4000 < s.size
    · rw [if_pos h2] at h; exact absurd (Prod.mk.inj h).2 (by decide)
    · rw [if_neg h2] at h
      exact ⟨by omega, by omega, by omega, by omega, ((Prod.mk.inj h).1).symm⟩
theorem seal_no {key nonce beside s a : ByteArray} {e : Int} (h : sealF key nonce beside s = (a, e)) (he : e ≠ 0) : a = ⟨#[]⟩ := by
  unfold sealF at h
  split at h
  · exact ((Prod.mk.inj h).1).symm
  · split at h
    · exact ((Prod.mk.inj h).1).symm
    · exact absurd ((Prod.mk.inj h).2).symm he
theorem open_no {key nonce beside s a : ByteArray} {e : Int} (h : openF key nonce beside s = (a, e)) (he : e ≠ 0) : a = ⟨#[]⟩ := by
  unfold openF at h
  split at h
  · exact ((Prod.mk.inj h).1).symm
  · split at h
    · exact ((Prod.mk.inj h).1).symm
    · split at h
      · exact ((Prod.mk.inj h).1).symm
      · exact absurd ((Prod.mk.inj h).2).symm he
theorem open_ok {key nonce beside s a : ByteArray} (h : openF key nonce beside s = (a, 0)) : key.size = 32 ∧ nonce.size = 12 ∧ beside.size ≤ 4000 ∧ s.size ≤ 4016 ∧ 16 ≤ s.size ∧ fitsB key nonce beside s = true ∧ a = hideB key nonce 1 (headB s) := by
  unfold openF at h
  by_cases h1 : key.size ≠ 32 ∨ nonce.size ≠ 12
  · rw [if_pos h1] at h; exact absurd (Prod.mk.inj h).2 (by decide)
  · rw [if_neg h1] at h
    by_cases h2 : 4000 < beside.size ∨ 4016 < s.size
    · rw [if_pos h2] at h; exact absurd (Prod.mk.inj h).2 (by decide)
    · rw [if_neg h2] at h
      by_cases h3 : s.size < 16 ∨ fitsB key nonce beside s = false
      · rw [if_pos h3] at h; exact absurd (Prod.mk.inj h).2 (by decide)
      · rw [if_neg h3] at h
        refine ⟨by omega, by omega, by omega, by omega, by omega, ?_, ((Prod.mk.inj h).1).symm⟩
        cases hf : fitsB key nonce beside s with
        | true => rfl
        | false => exact absurd (.inr hf) h3
theorem sealed_parts (h t : ByteArray) (ht : t.size = 16) : headB (h ++ t) = h ∧ tailB (h ++ t) = t ∧ (h ++ t).size = h.size + 16 := by
  have hs : (h ++ t).size = h.size + 16 := by rw [ByteArray.size_append, ht]
  have h1 : (h ++ t).size - 16 = h.size := by omega
  exact ⟨by rw [headB, h1]; exact front_append h t, by rw [tailB, h1]; exact back_append h t, hs⟩
theorem seal_size {key nonce beside s a : ByteArray} (h : sealF key nonce beside s = (a, 0)) : a.size = s.size + 16 := by
  obtain ⟨_, _, _, _, rfl⟩ := seal_ok h
  rw [(sealed_parts _ _ (tagB_size _ _)).2.2, hideB_size]
/-- what is sealed is opened as it was -/
theorem seal_open {key nonce beside s a : ByteArray} (h : sealF key nonce beside s = (a, 0)) : openF key nonce beside a = (s, 0) := by
  have hs := seal_size h
  obtain ⟨hk, hn, hb, hl, rfl⟩ := seal_ok h
  obtain ⟨p1, p2, p3⟩ := sealed_parts (hideB key nonce 1 s) (tagB (onceB key nonce) (stoldB beside (hideB key nonce 1 s))) (tagB_size _ _)
  unfold openF
  rw [if_neg (by omega), if_neg (by omega), if_neg]
  · rw [p1, hide_hide]
  · rintro (h | h)
    · omega
    · rw [fitsB, p1, p2] at h
      simp at h
/-- what is opened is sealed as the same bytes -/
theorem open_seal {key nonce beside x c : ByteArray} (h : openF key nonce beside x = (c, 0)) : sealF key nonce beside c = (x, 0) := by
  obtain ⟨hk, hn, hb, hl, h16, hf, rfl⟩ := open_ok h
  have hh : (headB x).size = x.size - 16 := by simp [headB]
  unfold sealF
  rw [if_neg (by omega), if_neg (by rw [hideB_size]; omega), hide_hide]
  have ht : tagB (onceB key nonce) (stoldB beside (headB x)) = tailB x := bytes_ext (by unfold fitsB at hf; exact eq_of_beq hf)
  rw [ht]
  have := two_parts x (x.size - 16) (by omega)
  rw [headB, tailB, this]
theorem open_short {key nonce beside x : ByteArray} (hk : key.size = 32) (hn : nonce.size = 12) (hb : beside.size ≤ 4000) (hx : x.size < 16) : openF key nonce beside x = (⟨#[]⟩, 60) := by
  unfold openF
  rw [if_neg (by omega), if_neg (by omega), if_pos (.inl hx)]
def kX : ByteArray := tmanyB 1 32
def nX : ByteArray := tmanyB 2 12
theorem far_open : (openF kX nX ⟨#[121]⟩ (sealF kX nX ⟨#[120]⟩ ⟨#[97, 98, 99]⟩).1).2 = 60 := by decide +kernel
theorem stold_x : (stoldB ⟨#[97]⟩ ⟨#[]⟩).size = 32 := by decide +kernel
end Go.Proofs.YtbgohcedakpnbaaDoor
