/- nonce, plain: a nonce's bytes, a number's digits. -/
import Derived.Test.YtbgohcedakpnbaaDoorInts
import Derived.Lib.ItoaMem
set_option linter.unusedVariables false
namespace Go.Proofs.YtbgohcedakpnbaaDoor
def lowL (n : Nat) : Nat → List UInt8
  | 0 => []
  | k + 1 => UInt8.ofNat (n / 2 ^ (8 * k) % 256) :: lowL n k
theorem lowL_len (n k : Nat) : (lowL n k).length = k := by
  induction k with
  | zero => rfl
  | succ k ih => rw [lowL, List.length_cons, ih]
def beL (n k : Nat) : List UInt8 := List.replicate (12 - k) 0 ++ lowL n k
theorem beL_len (n k : Nat) (h : k ≤ 12) : (beL n k).length = 12 := by simp [beL, lowL_len]; omega
theorem beL_set (n k : Nat) (h : k < 12) : (beL n k).set (11 - k) (UInt8.ofNat (n / 2 ^ (8 * k) % 256)) = beL n (k + 1) := by
  unfold beL
  rw [show 12 - k = (11 - k) + 1 by omega, List.replicate_succ', List.append_assoc, List.set_append_right _ _ (by simp), List.length_replicate, Nat.sub_self, List.singleton_append, List.set_cons_zero, lowL, show 12 - (k + 1) = 11 - k by omega]
def nonB (n : Nat) : ByteArray := ⟨(beL n 8).toArray⟩
theorem nonB_size (n : Nat) : (nonB n).size = 12 := by
  show (beL n 8).toArray.size = 12
  rw [List.size_toArray, beL_len n 8 (by decide)]
def nonF (n : Int) : ByteArray × Int := if 0 ≤ n ∧ n ≤ 1000000000 then (nonB n.toNat, 0) else (⟨#[]⟩, 1)
/-- the digits of a number -/
def digB (n : Nat) : ByteArray := ⟨(Lib.decDigits n).toArray⟩
def isDig (c : UInt8) : Bool := decide (48 ≤ c.toNat) && decide (c.toNat ≤ 57)
/-- the number that the first k digits of l tell -/
def valTo (l : List UInt8) : Nat → Nat
  | 0 => 0
  | k + 1 => 10 * valTo l k + ((l.getD k 0).toNat - 48)
theorem dig_iff (c : UInt8) : isDig c = true ↔ 48 ≤ c.toNat ∧ c.toNat ≤ 57 := by simp [isDig]
theorem valTo_lt (l : List UInt8) (k : Nat) (h : ∀ i, i < k → isDig (l.getD i 0) = true) : valTo l k < 10 ^ k := by
  induction k with
  | zero => exact Nat.one_pos
  | succ k ih =>
    have h1 := ih fun i hi => h i (by omega)
    have h2 := (dig_iff _).1 (h k (by omega))
    rw [valTo, Nat.pow_succ]
    omega
theorem dec_rec (n : Nat) : Lib.decDigits n = if n < 10 then [UInt8.ofNat (48 + n)] else Lib.decDigits (n / 10) ++ [UInt8.ofNat (48 + n % 10)] := by
  rw [Lib.decDigits]
  split <;> rfl
theorem dig_back (c : UInt8) (h : isDig c = true) : UInt8.ofNat (48 + (c.toNat - 48)) = c := by
  have := (dig_iff c).1 h
  rw [show 48 + (c.toNat - 48) = c.toNat by omega]
  simp
/-- digits with no 0 ahead are those of their number -/
theorem dec_val (l : List UInt8) (k : Nat) (hk : 1 ≤ k) (hl : k ≤ l.length) (h : ∀ i, i < k → isDig (l.getD i 0) = true) (h0 : k = 1 ∨ l.getD 0 0 ≠ 48) :
    Lib.decDigits (valTo l k) = l.take k ∧ (l.getD 0 0 ≠ 48 → 1 ≤ valTo l k) := by
  induction k with
  | zero => omega
  | succ k ih =>
    have hd := h k (by omega)
    have hd2 := (dig_iff _).1 hd
    have hg : l[k]? = some (l.getD k 0) := by rw [List.getD_eq_getElem?_getD, List.getElem?_eq_getElem (by omega)]; rfl
    have ht : l.take (k + 1) = l.take k ++ [l.getD k 0] := by rw [List.take_add_one, hg]; rfl
    by_cases hk1 : k = 0
    · subst hk1
      have hv : valTo l 1 = (l.getD 0 0).toNat - 48 := by simp [valTo]
      refine ⟨?_, fun hne => ?_⟩
      · rw [hv, dec_rec, if_pos (by omega), dig_back _ hd, ht]; rfl
      · rw [hv]
        have : (l.getD 0 0).toNat ≠ 48 := fun e => hne (UInt8.toNat_inj.1 e)
        omega
    · have hne : l.getD 0 0 ≠ 48 := h0.resolve_left (by omega)
      obtain ⟨h1, h2⟩ := ih (by omega) (by omega) (fun i hi => h i (by omega)) (.inr hne)
      have h3 := h2 hne
      have hv : valTo l (k + 1) = 10 * valTo l k + ((l.getD k 0).toNat - 48) := rfl
      refine ⟨?_, fun _ => by omega⟩
      rw [dec_rec, if_neg (by omega), hv, show (10 * valTo l k + ((l.getD k 0).toNat - 48)) / 10 = valTo l k by omega, show (10 * valTo l k + ((l.getD k 0).toNat - 48)) % 10 = (l.getD k 0).toNat - 48 by omega, dig_back _ hd, h1, ht]
theorem dec_head (n : Nat) : Lib.decDigits n ≠ [] ∧ ((Lib.decDigits n).getD 0 0 = 48 → (Lib.decDigits n).length = 1) := by
  induction n using Nat.strongRecOn with
  | _ n ih =>
    rw [dec_rec]
    split
    · exact ⟨by simp, fun _ => rfl⟩
    · rename_i hn
      obtain ⟨h1, h2⟩ := ih (n / 10) (by omega)
      refine ⟨by simp, fun h0 => ?_⟩
      exfalso
      have h3 : (Lib.decDigits (n / 10) ++ [UInt8.ofNat (48 + n % 10)]).getD 0 0 = (Lib.decDigits (n / 10)).getD 0 0 := by
        cases e : Lib.decDigits (n / 10) with
        | nil => exact absurd e h1
        | cons a t => rfl
      rw [h3] at h0
      have h4 := h2 h0
      -- one digit, and it is 0: so n / 10 = 0
      have h5 : n / 10 < 10 := by
        rcases Nat.lt_or_ge (n / 10) 10 with h | h
        · exact h
        · exfalso
          rw [dec_rec, if_neg (by omega)] at h4
          have h6 := (ih (n / 10 / 10) (by omega)).1
          have h7 : 1 ≤ (Lib.decDigits (n / 10 / 10)).length := by
            cases e : Lib.decDigits (n / 10 / 10) with
            | nil => exact absurd e h6
            | cons a t => simp
          rw [List.length_append, List.length_singleton] at h4
          omega
      rw [dec_rec, if_pos h5] at h0
      have h8 : UInt8.ofNat (48 + n / 10) = 48 := h0
      have h9 := congrArg UInt8.toNat h8
      have h10 : (UInt8.ofNat (48 + n / 10)).toNat = 48 + n / 10 := by simp; omega
      rw [h10] at h9
      have : n / 10 = 0 := by have : (48 : UInt8).toNat = 48 := rfl; omega
      omega
/-- do the bytes tell a number, with no 0 ahead of others? -/
def digsB (l : List UInt8) : Bool := l.all isDig
def numOk (l : List UInt8) : Bool := decide (1 ≤ l.length) && decide (l.length ≤ 10) && !(decide (1 < l.length) && l.getD 0 0 == 48) && digsB l
theorem digs_get {l : List UInt8} (h : digsB l = true) (i : Nat) (hi : i < l.length) : isDig (l.getD i 0) = true := by
  unfold digsB at h
  rw [List.all_eq_true] at h
  rw [List.getD_eq_getElem?_getD, List.getElem?_eq_getElem hi]
  exact h _ (List.getElem_mem hi)
/-- of digits the document's test: they are the digits of their number -/
theorem canon (l : List UInt8) (h1 : 1 ≤ l.length) (hd : digsB l = true) : Lib.decDigits (valTo l l.length) = l ↔ ¬ (1 < l.length ∧ l.getD 0 0 = 48) := by
  constructor
  · rintro h ⟨h2, h3⟩
    have := (dec_head (valTo l l.length)).2
    rw [h] at this
    have := this h3
    omega
  · intro h
    have := (dec_val l l.length h1 (Nat.le_refl _) (fun i hi => digs_get hd i hi) (by
      by_cases h2 : l.length = 1
      · exact .inl h2
      · exact .inr fun e => h ⟨by omega, e⟩)).1
    rw [this, List.take_length]
end Go.Proofs.YtbgohcedakpnbaaDoor
