/- nonce: whatever stops the disk (plain). -/
import Derived.Test.YtefodifmfjpnlaaDoorNonT
import Derived.Test.YtefodifmfjpnlaaDoorNonG
import Derived.Test.YtefodifmfjpnlaaDoorNonO
import Derived.Test.YtefodifmfjpnlaaDoorTwinQ
import Derived.Test.YtefodifmfjpnlaaDoorNonM
set_option linter.unusedVariables false
namespace Go.Proofs.YtefodifmfjpnlaaDoor
open Go.RowKit
theorem dig_all : ((List.range 104).all fun r => decide (numF (digB (16 * r)) = some (16 * r)) && decide ((digB (16 * r)).size ≤ 10)) = true := by kernel_rfl
theorem dig_16 {r : Nat} (h : r < 104) : numF (digB (16 * r)) = some (16 * r) ∧ (digB (16 * r)).size ≤ 10 := by
  have := (List.all_eq_true.1 dig_all) r (List.mem_range.2 h)
  simpa using this
/-- a Put that was done whole leaves a clean disk -/
theorem put_clean {p a : Plat} {i : Int} {s : ByteArray} {most : Int} (h : putF p i s most = (a, true, 0)) : a.cache = [] ∧ a.sectors.length = p.sectors.length ∧ getF a i = (s, true, 0) := by
  have hz : (putF p i s most).2.2 = 0 := by rw [h]
  have hg := put_get hz
  have h9 := h
  rw [putF_do hg] at h
  have hN : mostN most = 4 := by
    unfold doN at h
    split at h
    · have := congrArg (fun x => x.2.1) h
      simpa using this
    · have := congrArg (fun x => x.2.1) h
      simp at this
  have e4 : putF p i s most = putF p i s 4 := by rw [putF_do hg, putF_do hg, hN]; rfl
  rw [e4] at hz h9
  obtain ⟨_, k2, _⟩ := put_back hz
  rw [h9] at k2
  refine ⟨?_, ?_, k2⟩
  all_goals
    obtain ⟨⟨m, hm⟩, _⟩ := get_ok hg
    rw [hN] at h
    have hd : (doTo p (i + (bodyF (markF (readF p i).1)).1) s i (markF (readF p i).1) 4).2 = 0 := by
      unfold doN at h
      split at h
      · assumption
      · have := congrArg (fun x => x.2.1) h
        simp at this
    have h1 := doTo_w1 (by omega) hd
    have h2 := doTo_w2 (by omega) hd
    rw [doN_ok (doTo_ok4 h1 h2)] at h
    have ha := congrArg (fun x => x.1) h
    dsimp only at ha
    rw [← ha]
    obtain ⟨_, s2, s3, _, _⟩ := sync_ok (write_check h2)
    obtain ⟨_, _, s5, _, _⟩ := sync_ok (write_check h1)
    first
      | exact s2
      | rw [s3, write_len h2, s5, write_len h1]
/-- the disk is clean and the source at 1 has 16 r behind it -/
def FGood (p : Plat) (r : Nat) : Prop := p.cache = [] ∧ p.sectors.length = 5 ∧ ∃ x ok, getF p 1 = (x, ok, 0) ∧ ((ok = false ∧ r = 0) ∨ (ok = true ∧ x = digB (16 * r)))
theorem fgood_len {p : Plat} {r : Nat} (h : FGood p r) : p.sectors.length = 5 ∧ p.cache.length = 0 := ⟨h.2.1, by rw [h.1]; rfl⟩
theorem fgood_open {p : Plat} {r : Nat} (h : FGood p r) (hr : r < 104) : openN p 1 = (⟨1, ((16 * r : Nat) : Int), ((16 * r : Nat) : Int)⟩, 0) := by
  obtain ⟨_, _, x, ok, hg, hc⟩ := h
  unfold openN
  rw [hg]
  rcases hc with ⟨rfl, rfl⟩ | ⟨rfl, rfl⟩
  · simp
  · simp [(dig_16 hr).1]
def P55 : Plat := (newF 5).1
theorem fresh_new : newF 5 = (P55, 0) := by kernel_rfl
theorem fresh_good : FGood P55 0 := ⟨by kernel_rfl, by kernel_rfl, ⟨#[]⟩, false, by kernel_rfl, .inl ⟨rfl, rfl⟩⟩
theorem fresh_crash {p : Plat} {r : Nat} (h : FGood p r) (F : List Int) : crashF p F = (p, 0) := by
  obtain ⟨h1, _, x, ok, hg, _⟩ := h
  have hz : (getF p 1).2.2 = 0 := by rw [hg]
  obtain ⟨hc, _⟩ := read_pos (get_read hz)
  exact crash_bare hc h1 F
/-- what Next does to a source of a good disk -/
theorem fresh_step {p : Plat} {r nx : Nat} (h : FGood p r) (hr : r < 103) (hn : nx ≤ 16 * r) (deeds : Int) :
    (∃ (a : Plat) (r' : Nat), nextN p ⟨1, (nx : Int), ((16 * r : Nat) : Int)⟩ deeds = (nonB nx, ⟨1, ((nx + 1 : Nat) : Int), ((16 * r' : Nat) : Int)⟩, a, 0) ∧ FGood a r' ∧ nx + 1 ≤ 16 * r' ∧ r' ≤ r + 1) ∨
    (∃ a : Plat, nextN p ⟨1, (nx : Int), ((16 * r : Nat) : Int)⟩ deeds = (⟨#[]⟩, ⟨1, (nx : Int), ((16 * r : Nat) : Int)⟩, a, 0) ∧ (a.sectors.length ≤ 1000 ∧ a.cache.length ≤ 1000) ∧ ∀ F, ∃ (b : Plat) (r' : Nat), crashF a F = (b, 0) ∧ FGood b r' ∧ nx ≤ 16 * r' ∧ r' ≤ r + 1) := by
  have hr0 : rightB (nx : Int) ((16 * r : Nat) : Int) = true := by rw [right_iff]; omega
  by_cases hlt : nx < 16 * r
  · left
    refine ⟨p, r, ?_, h, by omega, by omega⟩
    unfold nextN
    rw [if_neg (by dsimp only; rw [hr0]; simp), if_pos (by dsimp only; omega)]
    dsimp only
    rw [Int.toNat_natCast, Int.natCast_add]
    rfl
  · obtain rfl : nx = 16 * r := by omega
    have hh := h
    obtain ⟨h1, h2, x, ok, hg, hc⟩ := h
    have hz : (getF p 1).2.2 = 0 := by rw [hg]
    obtain ⟨d1, d2⟩ := dig_16 (show r + 1 < 104 by omega)
    have hf := put_fits (i := 1) (s := digB (16 * (r + 1))) h1 hz (by rw [h2]; decide) (by omega) deeds
    have et : (((16 * r : Nat) : Int)).toNat + 16 = 16 * (r + 1) := by omega
    obtain ⟨a, dn, er, hP⟩ : ∃ a dn er, putF p 1 (digB (16 * (r + 1))) deeds = (a, dn, er) := ⟨_, _, _, rfl⟩
    obtain rfl : er = 0 := by rw [hP] at hf; exact hf
    cases dn
    · right
      refine ⟨a, ?_, ?_, fun F => ?_⟩
      · unfold nextN
        rw [if_neg (by dsimp only; rw [hr0]; simp), if_neg (by simp), if_neg (by dsimp only; omega)]
        dsimp only
        rw [et, hP]
        simp
      · have hl := put_lens p 1 (digB (16 * (r + 1))) deeds
        rw [hP] at hl
        exact hl
      · obtain ⟨b, y, ok', k1, k2, k3, k4, k5⟩ := tcrash_plain h1 hz (by rw [hP]) F
        rw [hP] at k1 k3
        dsimp only at k1 k3
        rcases k3 with ⟨rfl, rfl⟩ | ⟨_, rfl, rfl⟩
        · exact ⟨b, r + 1, k1, ⟨k4, by rw [k5, h2], _, _, k2, .inr ⟨rfl, rfl⟩⟩, by omega, by omega⟩
        · refine ⟨b, r, k1, ⟨k4, by rw [k5, h2], _, _, k2, ?_⟩, by omega, by omega⟩
          rw [hg]
          exact hc
    · left
      obtain ⟨c1, c2, c3⟩ := put_clean hP
      refine ⟨a, r + 1, ?_, ⟨c1, by rw [c2, h2], _, _, c3, .inr ⟨rfl, rfl⟩⟩, by omega, by omega⟩
      unfold nextN
      rw [if_neg (by dsimp only; rw [hr0]; simp), if_neg (by simp), if_neg (by dsimp only; omega)]
      dsimp only
      rw [et, hP]
      dsimp only
      have e1 : ((16 * r + 1 : Nat) : Int) = ((16 * r : Nat) : Int) + 1 := by omega
      have e2 : ((16 * (r + 1) : Nat) : Int) = ((16 * r : Nat) : Int) + 16 := by omega
      rw [if_neg (by simp), if_neg (by simp), e1, e2, Int.toNat_natCast]
end Go.Proofs.YtefodifmfjpnlaaDoor
