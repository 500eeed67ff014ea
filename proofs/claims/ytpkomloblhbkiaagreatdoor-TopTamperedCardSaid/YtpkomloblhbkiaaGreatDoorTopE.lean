/- top26, plain: a Store that is done whole; what kept sees. -/
import Derived.Test.YtpkomloblhbkiaaGreatDoorTopD
import Derived.Test.YtpkomloblhbkiaaGreatDoorVauL
set_option linter.unusedVariables false
set_option linter.unusedSimpArgs false
namespace Go.Proofs.YtpkomloblhbkiaaGreatDoor
open Go.RowKit
theorem lies_check {p : Plat} {i : Int} (h : (getF p i).2.2 = 0) : checkP p = true := (read_pos (get_read h)).1
theorem load_lies {p : Plat} {n a g : Nat} {v : Vol} (h : Lies p n a g v) : loadP p = (v, g, 0) := by
  unfold loadP
  rw [openP_lies h]
  rfl
theorem store_whole {p : Plat} {n a g : Nat} {v u : Vol} (h : Lies p n a g v) (hu : Whole u n) (hg : g + 1 ≤ 1000000000) : ∃ q, storeF p n (1 - a) (g + 1) u (n + 5) = (q, true, 0) ∧ Lies q n (1 - a) (g + 1) u := by
  obtain ⟨h0, _, q1, hq1, hor⟩ := store_crash h hu.vol hu.len hu.rt hg (n + 5) []
  have e : storeF p n (1 - a) (g + 1) u (n + 5) = putF (deedTo p n (1 - a) u.blocks (n + 1)) 0 (vheadB (g + 1) (1 - a) u.root) ((n + 5 - (n + 1) : Nat) : Int) := by
    unfold storeF; rw [if_neg (by omega)]
  have h4 : ((n + 5 - (n + 1) : Nat) : Int) = 4 := by omega
  rw [h4] at e
  rw [e] at h0 hq1 hor ⊢
  have hw := put_whole h0 rfl
  obtain ⟨a', dn, er, hP⟩ : ∃ x dn er, putF (deedTo p n (1 - a) u.blocks (n + 1)) 0 (vheadB (g + 1) (1 - a) u.root) 4 = (x, dn, er) := ⟨_, _, _, rfl⟩
  rw [hP] at h0 hq1 hor hw ⊢
  dsimp only at h0 hq1 hor hw
  subst h0 hw
  obtain ⟨c1, _, c3⟩ := put_clean hP
  have hb := crash_bare (lies_check (p := a') (i := 0) (by rw [c3])) c1 []
  rw [hb] at hq1
  injection hq1 with hq1
  subst hq1
  refine ⟨_, rfl, ?_⟩
  rcases hor with ⟨_, hx⟩ | hx
  · cases hx
  · exact hx
def abcB : ByteArray := ⟨#[97, 98, 99]⟩
theorem kept_plain : ∃ (p0 q : Plat) (v0 u : Vol), vformP 2 = (p0, 0) ∧ loadP p0 = (v0, 0, 0) ∧ writeV v0 (tmanyB 1 32) (tmanyB 2 12) 1 abcB = (u, 0) ∧ Lies p0 2 0 0 v0 ∧ Whole v0 2 ∧ Whole u 2 ∧ storeF p0 2 (1 - 0) (0 + 1) u (normD 2 (-1)) = (q, true, 0) ∧ DeedsOk p0 2 (1 - 0) u.blocks ∧ loadP q = (u, 1, 0) ∧ readV u (tmanyB 1 32) 1 = (abcB, 0) := by
  have hc : countI ((2 : Nat) : Int) = true := by decide
  obtain ⟨h1, h2, h3, h4⟩ := format_lies hc
  have hk : (tmanyB 1 32).size = 32 := tmanyB_size _ _
  have hn : (tmanyB 2 12).size = 12 := tmanyB_size _ _
  obtain ⟨u, hu, hw, ht, _, _⟩ := write_may (k := 1) h3 (h4 (tmanyB 1 32)) hk hn (by omega) (show abcB.size ≤ 64 by decide)
  obtain ⟨q, hq, hl⟩ := store_whole h2 hw (by omega)
  obtain ⟨_, hd, _⟩ := store_crash h2 hw.vol hw.len hw.rt (by omega) 7 []
  have hr := reads_told (k := 1) hw ht (by omega)
  refine ⟨_, q, _, u, Prod.ext rfl h1, load_lies h2, hu, h2, h3, hw, ?_, hd, load_lies hl, ?_⟩
  · rw [show normD 2 (-1) = 7 by rfl]
    exact hq
  · have e : ((List.replicate 2 ByteArray.empty).set 1 abcB).getD 1 ByteArray.empty = abcB := rfl
    rw [e] at hr
    exact hr
end Go.Proofs.YtpkomloblhbkiaaGreatDoor
