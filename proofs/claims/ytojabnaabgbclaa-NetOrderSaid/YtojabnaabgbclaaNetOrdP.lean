/- NetOrder, plain: what is sent and delivered from the first place on. -/
import Derived.Test.YtojabnaabgbclaaNetR
import Derived.Test.YtojabnaabgbclaaNetBackP
set_option linter.unusedVariables false
namespace Go.Proofs.Ytojabnaabgbclaa
open Go.RowKit
def ord1 (L : List Letter) (k : Nat) : Net := ⟨L.take k, k, 0, 0, 0⟩
def ord2 (L : List Letter) (i : Nat) : Net := ⟨L.drop i, L.length, i, 0, 0⟩
theorem ord_start (L : List Letter) : ord1 L 0 = noNet := rfl
theorem ord_turn (L : List Letter) : ord1 L L.length = ord2 L 0 := by simp [ord1, ord2]
theorem ord1_len {L : List Letter} {k : Nat} (hk : k ≤ L.length) : (ord1 L k).way.length = k := by simp [ord1]; omega
theorem ord_send {L : List Letter} {k : Nat} {l : Letter} (h60 : L.length ≤ 60) (hl : L[k]? = some l) (hc : checkB (ord1 L k) = true) :
    (∃ er : Int, sendF (ord1 L k) l = (noNet, er) ∧ (er = 1 ∨ er = 2)) ∨ (sendF (ord1 L k) l = (ord1 L (k + 1), 0) ∧ checkB (ord1 L (k + 1)) = true) := by
  have hk := (List.getElem?_eq_some_iff.1 hl).1
  have hlen := ord1_len (L := L) (k := k) (by omega)
  by_cases ha : addrB l = true
  · by_cases ht : l.text.size ≤ 4000
    · right
      have hs : sendF (ord1 L k) l = (ord1 L (k + 1), 0) := by
        unfold sendF
        rw [if_pos hc, if_pos ha, if_pos ht, if_neg (by rw [hlen]; simp [ord1]; omega)]
        simp only [ord1, Prod.mk.injEq, and_true]
        obtain ⟨h1, rfl⟩ := List.getElem?_eq_some_iff.1 hl
        simp
      exact ⟨hs, send_check _ _ l hs⟩
    · left
      exact ⟨2, by unfold sendF; rw [if_pos hc, if_pos ha, if_neg ht], .inr rfl⟩
  · left
    exact ⟨1, by unfold sendF; rw [if_pos hc, if_neg ha], .inl rfl⟩
theorem ord_for {L : List Letter} {k : Nat} {l : Letter} (h60 : L.length ≤ 60) (hl : L[k]? = some l) (hc : checkB (ord1 L (k + 1)) = true) :
    ∃ j, (forV (ord1 L (k + 1)) l.to).length = j + 1 ∧ (forV (ord1 L (k + 1)) l.to)[j]? = some k ∧ j ≤ 60 := by
  have hk := (List.getElem?_eq_some_iff.1 hl).1
  have hlen := ord1_len (L := L) (k := k + 1) (by omega)
  have hw : (ord1 L (k + 1)).way[k]? = some l := by simp [ord1, hl]
  have hV : forV (ord1 L (k + 1)) l.to = forTo (ord1 L (k + 1)).way l.to k ++ [k] := by
    unfold forV
    rw [if_pos hc, hlen]
    exact forTo_yes hw rfl
  have hle := forTo_len (ord1 L (k + 1)).way l.to k
  rw [hV]
  exact ⟨_, by simp; rfl, by simp, by omega⟩
theorem ord_deliver {L : List Letter} {i : Nat} {l : Letter} (h60 : L.length ≤ 60) (hl : L[i]? = some l) (hc : checkB (ord2 L i) = true) :
    stepF deliverF (ord2 L i) 0 = (l, ord2 L (i + 1), 0) ∧ checkB (ord2 L (i + 1)) = true := by
  have hi := (List.getElem?_eq_some_iff.1 hl).1
  have hlen : 0 < (ord2 L i).way.length := by simp [ord2]; omega
  have hd : deliverF (ord2 L i) 0 = (0, ord2 L (i + 1)) := by
    unfold deliverF
    rw [if_neg (by simp [ord2]; omega)]
    simp only [ord2, Prod.mk.injEq, true_and]
    simp [List.eraseIdx_zero]
  have hg : (ord2 L i).way.getD 0 noLetter = l := by
    simp [ord2, hl]
  have h := stepF_at deliverF (ord2 L i) 0 hc hlen
  rw [hd, if_pos rfl, hg] at h
  exact ⟨h, (deliver_check _ _ 0 hc hlen hd).1⟩
end Go.Proofs.Ytojabnaabgbclaa
