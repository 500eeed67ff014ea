/- nonce: behind so many nonces. -/
import Derived.Test.YtefodifmfjpnlaaDoorNonT
import Derived.Test.YtefodifmfjpnlaaDoorNonG
set_option linter.unusedVariables false
namespace Go.Proofs.YtefodifmfjpnlaaDoor
open Go.RowKit
/-- the platter behind k reservings -/
def PK : Nat → Plat
  | 0 => P3
  | k + 1 => (nextN (PK k) ⟨0, ((16 * k : Nat) : Int), ((16 * k : Nat) : Int)⟩ 4).2.2.1
theorem pk_next0 : nextN (PK 0) ⟨0, 0, 0⟩ 4 = (nonB 0, ⟨0, 1, 16⟩, PK 1, 0) := by kernel_rfl
theorem pk_next1 : nextN (PK 1) ⟨0, 16, 16⟩ 4 = (nonB 16, ⟨0, 17, 32⟩, PK 2, 0) := by kernel_rfl
theorem pk_next2 : nextN (PK 2) ⟨0, 32, 32⟩ 4 = (nonB 32, ⟨0, 33, 48⟩, PK 3, 0) := by kernel_rfl
theorem pk_next3 : nextN (PK 3) ⟨0, 48, 48⟩ 4 = (nonB 48, ⟨0, 49, 64⟩, PK 4, 0) := by kernel_rfl
theorem pk_next4 : nextN (PK 4) ⟨0, 64, 64⟩ 4 = (nonB 64, ⟨0, 65, 80⟩, PK 5, 0) := by kernel_rfl
theorem pk_next5 : nextN (PK 5) ⟨0, 80, 80⟩ 4 = (nonB 80, ⟨0, 81, 96⟩, PK 6, 0) := by kernel_rfl
theorem pk_next6 : nextN (PK 6) ⟨0, 96, 96⟩ 4 = (nonB 96, ⟨0, 97, 112⟩, PK 7, 0) := by kernel_rfl
theorem pk_next7 : nextN (PK 7) ⟨0, 112, 112⟩ 4 = (nonB 112, ⟨0, 113, 128⟩, PK 8, 0) := by kernel_rfl
theorem pk_open0 : openN (PK 0) 0 = (⟨0, 0, 0⟩, 0) := by kernel_rfl
theorem pk_len0 : (PK 0).sectors.length = 3 ∧ (PK 0).cache.length = 0 := ⟨by kernel_rfl, by kernel_rfl⟩
theorem pk_open1 : openN (PK 1) 0 = (⟨0, 16, 16⟩, 0) := by kernel_rfl
theorem pk_len1 : (PK 1).sectors.length = 3 ∧ (PK 1).cache.length = 0 := ⟨by kernel_rfl, by kernel_rfl⟩
theorem pk_open2 : openN (PK 2) 0 = (⟨0, 32, 32⟩, 0) := by kernel_rfl
theorem pk_len2 : (PK 2).sectors.length = 3 ∧ (PK 2).cache.length = 0 := ⟨by kernel_rfl, by kernel_rfl⟩
theorem pk_open3 : openN (PK 3) 0 = (⟨0, 48, 48⟩, 0) := by kernel_rfl
theorem pk_len3 : (PK 3).sectors.length = 3 ∧ (PK 3).cache.length = 0 := ⟨by kernel_rfl, by kernel_rfl⟩
theorem pk_open4 : openN (PK 4) 0 = (⟨0, 64, 64⟩, 0) := by kernel_rfl
theorem pk_len4 : (PK 4).sectors.length = 3 ∧ (PK 4).cache.length = 0 := ⟨by kernel_rfl, by kernel_rfl⟩
theorem pk_open5 : openN (PK 5) 0 = (⟨0, 80, 80⟩, 0) := by kernel_rfl
theorem pk_len5 : (PK 5).sectors.length = 3 ∧ (PK 5).cache.length = 0 := ⟨by kernel_rfl, by kernel_rfl⟩
theorem pk_open6 : openN (PK 6) 0 = (⟨0, 96, 96⟩, 0) := by kernel_rfl
theorem pk_len6 : (PK 6).sectors.length = 3 ∧ (PK 6).cache.length = 0 := ⟨by kernel_rfl, by kernel_rfl⟩
theorem pk_open7 : openN (PK 7) 0 = (⟨0, 112, 112⟩, 0) := by kernel_rfl
theorem pk_len7 : (PK 7).sectors.length = 3 ∧ (PK 7).cache.length = 0 := ⟨by kernel_rfl, by kernel_rfl⟩
theorem pk_open8 : openN (PK 8) 0 = (⟨0, 128, 128⟩, 0) := by kernel_rfl
theorem pk_len8 : (PK 8).sectors.length = 3 ∧ (PK 8).cache.length = 0 := ⟨by kernel_rfl, by kernel_rfl⟩
theorem pk_next : ∀ k : Nat, k < 8 → nextN (PK k) ⟨0, ((16 * k : Nat) : Int), ((16 * k : Nat) : Int)⟩ 4 = (nonB (16 * k), ⟨0, ((16 * k + 1 : Nat) : Int), ((16 * (k + 1) : Nat) : Int)⟩, PK (k + 1), 0)
  | 0, _ => pk_next0
  | 1, _ => pk_next1
  | 2, _ => pk_next2
  | 3, _ => pk_next3
  | 4, _ => pk_next4
  | 5, _ => pk_next5
  | 6, _ => pk_next6
  | 7, _ => pk_next7
  | k + 8, h => by omega
theorem pk_open : ∀ k : Nat, k < 9 → openN (PK k) 0 = (⟨0, ((16 * k : Nat) : Int), ((16 * k : Nat) : Int)⟩, 0)
  | 0, _ => pk_open0
  | 1, _ => pk_open1
  | 2, _ => pk_open2
  | 3, _ => pk_open3
  | 4, _ => pk_open4
  | 5, _ => pk_open5
  | 6, _ => pk_open6
  | 7, _ => pk_open7
  | 8, _ => pk_open8
  | k + 9, h => by omega
theorem pk_len : ∀ k : Nat, k < 9 → (PK k).sectors.length = 3 ∧ (PK k).cache.length = 0
  | 0, _ => pk_len0
  | 1, _ => pk_len1
  | 2, _ => pk_len2
  | 3, _ => pk_len3
  | 4, _ => pk_len4
  | 5, _ => pk_len5
  | 6, _ => pk_len6
  | 7, _ => pk_len7
  | 8, _ => pk_len8
  | k + 9, h => by omega
theorem ahead_step {i k : Nat} (h1 : i ≤ 16 * k) (h2 : 16 * k < i + 16) (hi : i < 120) : ∃ k', i + 1 ≤ 16 * k' ∧ 16 * k' < i + 1 + 16 ∧ k' < 9 ∧ nextN (PK k) ⟨0, (i : Int), ((16 * k : Nat) : Int)⟩ 4 = (nonB i, ⟨0, ((i + 1 : Nat) : Int), ((16 * k' : Nat) : Int)⟩, PK k', 0) := by
  by_cases h : i = 16 * k
  · refine ⟨k + 1, by omega, by omega, by omega, ?_⟩
    rw [h]
    exact pk_next k (by omega)
  · refine ⟨k, by omega, by omega, by omega, ?_⟩
    unfold nextN
    have hr : rightB (i : Int) ((16 * k : Nat) : Int) = true := by rw [right_iff]; omega
    rw [if_neg (by dsimp only; rw [hr]; simp), if_pos (by dsimp only; omega)]
    dsimp only
    rw [Int.toNat_natCast, Int.natCast_add]
    rfl
end Go.Proofs.YtefodifmfjpnlaaDoor
