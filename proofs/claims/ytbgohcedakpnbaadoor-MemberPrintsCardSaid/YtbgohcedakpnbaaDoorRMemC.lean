/- the reference's Cut, digit, Unhex. -/
import Derived.Test.YtbgohcedakpnbaaDoorRMemB
import Derived.Test.YtbgohcedakpnbaaDoorBytes
import Derived.IntWalk
set_option linter.unusedVariables false
set_option linter.unusedSimpArgs false
namespace Go.Proofs.YtbgohcedakpnbaaDoor
open Go.RowKit
/-- the parts that end ahead of a place, and where the next one begins -/
def rpTo (s : ByteArray) (c : UInt8) : Nat → List ByteArray × Nat
  | 0 => ([], 0)
  | i + 1 => if i = s.size ∨ s.data.toList[i]? = some c then ((rpTo s c i).1 ++ [s.extract (rpTo s c i).2 i], i + 1) else rpTo s c i
def rpF (s : ByteArray) (c : UInt8) : List ByteArray := (rpTo s c (s.size + 1)).1
theorem rpTo_hit {s : ByteArray} {c : UInt8} {i : Nat} (h : i = s.size ∨ s.data.toList[i]? = some c) : rpTo s c (i + 1) = ((rpTo s c i).1 ++ [s.extract (rpTo s c i).2 i], i + 1) := by rw [rpTo, if_pos h]
theorem rpTo_no {s : ByteArray} {c : UInt8} {i : Nat} (h : ¬ (i = s.size ∨ s.data.toList[i]? = some c)) : rpTo s c (i + 1) = rpTo s c i := by rw [rpTo, if_neg h]
theorem rpTo_le (s : ByteArray) (c : UInt8) (i : Nat) : (rpTo s c i).2 ≤ i ∧ (rpTo s c i).1.length ≤ i ∧ ∀ x ∈ (rpTo s c i).1, x.size ≤ s.size := by
  induction i with
  | zero => exact ⟨Nat.le_refl _, Nat.le_refl _, fun x hx => by cases hx⟩
  | succ i ih =>
    by_cases h : i = s.size ∨ s.data.toList[i]? = some c
    · rw [rpTo_hit h]
      refine ⟨Nat.le_refl _, by rw [List.length_append]; simp; exact ih.2.1, fun x hx => ?_⟩
      rcases List.mem_append.1 hx with h1 | h1
      · exact ih.2.2 x h1
      · rw [List.mem_singleton.1 h1, ByteArray.size_extract]
        omega
    · rw [rpTo_no h]
      exact ⟨by omega, by omega, ih.2.2⟩
theorem rpTo_piece {s : ByteArray} {c : UInt8} {o : List ByteArray} {p q : Nat} (h : rpTo s c p = (o, p)) (hpq : p ≤ q) (hq : q ≤ s.size) (hno : ∀ i, p ≤ i → i < q → s.data.toList[i]? ≠ some c) (hend : q = s.size ∨ s.data.toList[q]? = some c) : rpTo s c (q + 1) = (o ++ [s.extract p q], q + 1) := by
  have key : ∀ k, p + k ≤ q → rpTo s c (p + k) = (o, p) := by
    intro k
    induction k with
    | zero => exact fun _ => h
    | succ k ih =>
      intro hk
      rw [show p + (k + 1) = (p + k) + 1 by omega, rpTo_no]
      · exact ih (by omega)
      · rintro (h1 | h1)
        · omega
        · exact hno _ (by omega) (by omega) h1
  have h1 := key (q - p) (by omega)
  rw [show p + (q - p) = q by omega] at h1
  rw [rpTo_hit hend, h1]
theorem rp_len (s : ByteArray) (c : UInt8) : 1 ≤ (rpF s c).length ∧ (rpF s c).length ≤ s.size + 1 := by
  refine ⟨?_, (rpTo_le s c (s.size + 1)).2.1⟩
  unfold rpF
  rw [rpTo_hit (.inl rfl)]
  simp
theorem rp_size (s : ByteArray) (c : UInt8) : ∀ x ∈ rpF s c, x.size ≤ s.size := (rpTo_le s c (s.size + 1)).2.2
set_option maxRecDepth 100000 in
set_option maxHeartbeats 4000000 in
theorem rcut_any (s : ByteArray) (c : UInt8) (w : World) (hs : s.size ≤ 100000) :
    Calls Tryd.prog 39 #[.string s, .int .u8 (c.toNat : Nat)] w fun e w' => ∃ (A : Option Addr) (n d : Nat), e = .returned (.slice A n d) ∧ Hid (SRow w' w.heap.size (.slice A n d) (rpF s c)) ∧ (rpF s c).length = n ∧ Below w.heap.size w w' := by
  have hcl := c.toNat_lt
  go_enter Tryd.func39, Tryd.ntmps39
  go_wp2_with fail
  go_loopw [5, 6, 7] (fun ov fv iv wr => ∃ (i n d f : Nat) (A : Option Addr), i ≤ s.size + 1 ∧ iv = .int .i64 i ∧ fv = .int .i64 f ∧ ov = .slice A n d ∧ Hid (f = (rpTo s c i).2) ∧ Hid ((rpTo s c i).1.length = n) ∧ f ≤ i ∧ n ≤ i ∧ Hid (SRow wr w.heap.size (.slice A n d) (rpTo s c i).1) ∧ Hid (Below w.heap.size w wr)) (fun _ _ iv _ => s.size + 1 - (intOf iv).toNat)
  case atStart => exact ⟨0, 0, 0, 0, none, by omega, rfl, rfl, rfl, Lib.hid rfl, Lib.hid rfl, by omega, by omega, Lib.hid (srow_nil _ _), Lib.hid (Below.refl _ _)⟩
  case round =>
    obtain ⟨i, n, d, f, A, hi, rfl, rfl, rfl, HF, HL, hfi, hni, HR, HB⟩ := hrel
    by_cases hle : i ≤ s.size
    · have i0 : (0 : Int) ≤ (i : Int) := by omega
      have f0 : (0 : Int) ≤ (f : Int) := by omega
      have fi : (f : Int) ≤ (i : Int) := by omega
      have is : (i : Int) ≤ (s.size : Int) := by omega
      have u1 : decide ((i : Int) ≤ (s.size : Int)) = true := by simp; omega
      have hHIT : ∀ (h : i = s.size ∨ s.data.toList[i]? = some c), True := fun _ => trivial
      clear hHIT
      by_cases hend : i = s.size
      · have HC := Lib.hid (rpTo_hit (c := c) (.inl hend : i = s.size ∨ s.data.toList[i]? = some c))
        have HE : Hid ((rpTo s c i).1 ++ [s.extract f i] = (rpTo s c (i + 1)).1) := Lib.hid (by rw [HC.out, HF.out])
        have HF2 : Hid (i + 1 = (rpTo s c (i + 1)).2) := Lib.hid (by rw [HC.out])
        have HL2 : Hid ((rpTo s c (i + 1)).1.length = n + 1) := Lib.hid (by rw [← HE.out, List.length_append, HL.out]; rfl)
        have u2 : ((i : Int) == (s.size : Int)) = true := by simp; omega
        have hsz : wr.heap.size + 1 = (wr.alloc (.cells #[.string (s.extract f i)] 9)).heap.size := by simp
        have hbz := HB.out.size
        clear hend
        go_wp2_with (at_builtin; refine wpList_append_str rfl (.tmp 25) (.tmp 30) rfl rfl (orow_alloc HR.out _) wr.heap.size (s.extract f i) rfl (Blk.new _ _ _) n HL.out _ HE.out (by omega) (by simp; omega) ?_; intro A3 c3 w3 HR3 hg3 hb3)
        have HB3 : Hid (Below w.heap.size w w3) := Lib.hid ((HB.out.alloc hbz _).trans hb3)
        clear hg3 hb3
        go_wp2_with fail
        go_roundw
        case rel => exact ⟨i + 1, n + 1, c3, i + 1, A3, by omega, by go_num, by go_num, rfl, HF2, HL2, by omega, by omega, HR3, HB3⟩
        case measure => simp [intOf]; omega
      · have hlt : i < s.size := by omega
        have hbi := (s[i]'hlt).toNat_lt
        have il : (i : Int) < (s.size : Int) := by omega
        have u2 : ((i : Int) == (s.size : Int)) = false := by simp; omega
        have hget : s.data.toList[i]? = some s[i] := by
          rw [List.getElem?_eq_getElem (by simpa using hlt)]
          rfl
        by_cases hc : s[i] = c
        · have HC := Lib.hid (rpTo_hit (s := s) (c := c) (i := i) (.inr (by rw [hget, hc])))
          have HE : Hid ((rpTo s c i).1 ++ [s.extract f i] = (rpTo s c (i + 1)).1) := Lib.hid (by rw [HC.out, HF.out])
          have HF2 : Hid (i + 1 = (rpTo s c (i + 1)).2) := Lib.hid (by rw [HC.out])
          have HL2 : Hid ((rpTo s c (i + 1)).1.length = n + 1) := Lib.hid (by rw [← HE.out, List.length_append, HL.out]; rfl)
          have u3 : (((s[i]'hlt).toNat : Int) == (c.toNat : Int)) = true := by rw [hc]; simp
          have hbz := HB.out.size
          clear hend hget hc
          go_wp2_with (at_builtin; refine wpList_append_str rfl (.tmp 25) (.tmp 30) rfl rfl (orow_alloc HR.out _) wr.heap.size (s.extract f i) rfl (Blk.new _ _ _) n HL.out _ HE.out (by omega) (by simp; omega) ?_; intro A3 c3 w3 HR3 hg3 hb3)
          have HB3 : Hid (Below w.heap.size w w3) := Lib.hid ((HB.out.alloc hbz _).trans hb3)
          clear hg3 hb3
          go_wp2_with fail
          go_roundw
          case rel => exact ⟨i + 1, n + 1, c3, i + 1, A3, by omega, by go_num, by go_num, rfl, HF2, HL2, by omega, by omega, HR3, HB3⟩
          case measure => simp [intOf]; omega
        · have HC := Lib.hid (rpTo_no (s := s) (c := c) (i := i) (by
            rintro (h1 | h1)
            · exact hend h1
            · rw [hget] at h1
              exact hc (Option.some.inj h1)))
          have HF2 : Hid (f = (rpTo s c (i + 1)).2) := Lib.hid (by rw [HC.out]; exact HF.out)
          have HL2 : Hid ((rpTo s c (i + 1)).1.length = n) := Lib.hid (by rw [HC.out]; exact HL.out)
          have HR2 : Hid (SRow wr w.heap.size (.slice A n d) (rpTo s c (i + 1)).1) := Lib.hid (by rw [HC.out]; exact HR.out)
          have hcn : (s[i]'hlt).toNat ≠ c.toNat := fun e => hc (UInt8.toNat_inj.1 e)
          have u3 : (((s[i]'hlt).toNat : Int) == (c.toNat : Int)) = false := by simp; omega
          clear hend hget hc hcn
          go_wp2_with fail
          go_roundw
          case rel => exact ⟨i + 1, n, d, f, A, by omega, by go_num, by go_num, rfl, HF2, HL2, by omega, by omega, HR2, HB⟩
          case measure => simp [intOf]; omega
    · have hie : i = s.size + 1 := by omega
      have u1 : decide ((i : Int) ≤ (s.size : Int)) = false := by simp; omega
      have hR2 : SRow wr w.heap.size (.slice A n d) (rpF s c) := by
        have h := HR.out
        rw [hie] at h
        exact h
      have hL2 : (rpF s c).length = n := by
        have h := HL.out
        rw [hie] at h
        exact h
      have HR2 := Lib.hid hR2
      have HL2 := Lib.hid hL2
      clear hR2 hL2 hie
      go_wp2_with fail
      go_ret
      exact ⟨A, n, d, rfl, HR2, HL2.out, HB.out⟩
/-- the value of a digit in base 16; -1: it is none -/
def digitV (c : UInt8) : Int := if 48 ≤ c.toNat ∧ c.toNat ≤ 57 then (c.toNat : Int) - 48 else if 97 ≤ c.toNat ∧ c.toNat ≤ 102 then (c.toNat : Int) - 87 else -1
set_option maxRecDepth 100000 in
theorem rdigit_any (c : UInt8) (w : World) : Calls Tryd.prog 61 #[.int .u8 (c.toNat : Nat)] w fun e w' => e = .returned (.int .i64 (digitV c)) ∧ w = w' := by
  have hcl := c.toNat_lt
  obtain ⟨V, hV⟩ : ∃ V, digitV c = V := ⟨_, rfl⟩
  rw [hV]
  unfold digitV at hV
  generalize c.toNat = k at *
  have hcase : k < 48 ∨ (48 ≤ k ∧ k ≤ 57) ∨ (58 ≤ k ∧ k ≤ 96) ∨ (97 ≤ k ∧ k ≤ 102) ∨ 103 ≤ k := by omega
  rcases hcase with hc | hc | hc | hc | hc
  · obtain rfl : V = -1 := by rw [← hV, if_neg (by omega), if_neg (by omega)]
    have u0 : decide (48 ≤ (k : Int)) = false := by simp; omega
    have u1 : decide (97 ≤ (k : Int)) = false := by simp; omega
    clear hV hc
    go_enter Tryd.func61, Tryd.ntmps61
    go_wp2_with fail
    go_ret
    exact ⟨rfl, rfl⟩
  · obtain rfl : V = (k : Int) - 48 := by rw [← hV, if_pos (by omega)]
    have u0 : decide (48 ≤ (k : Int)) = true := by simp; omega
    have u1 : decide ((k : Int) ≤ 57) = true := by simp; omega
    have u2 : IntKind.i64.wrap ((k : Int) - 48) = (k : Int) - 48 := IntWalk.i64_in _ (by omega)
    clear hV hc
    go_enter Tryd.func61, Tryd.ntmps61
    go_wp2_with fail
    go_ret
    exact ⟨rfl, rfl⟩
  · obtain rfl : V = -1 := by rw [← hV, if_neg (by omega), if_neg (by omega)]
    have u0 : decide (48 ≤ (k : Int)) = true := by simp; omega
    have u1 : decide ((k : Int) ≤ 57) = false := by simp; omega
    have u2 : decide (97 ≤ (k : Int)) = false := by simp; omega
    clear hV hc
    go_enter Tryd.func61, Tryd.ntmps61
    go_wp2_with fail
    go_ret
    exact ⟨rfl, rfl⟩
  · obtain rfl : V = (k : Int) - 97 + 10 := by rw [← hV, if_neg (by omega), if_pos (by omega)]; omega
    have u0 : decide (48 ≤ (k : Int)) = true := by simp; omega
    have u1 : decide ((k : Int) ≤ 57) = false := by simp; omega
    have u2 : decide (97 ≤ (k : Int)) = true := by simp; omega
    have u3 : decide ((k : Int) ≤ 102) = true := by simp; omega
    have u4 : IntKind.i64.wrap ((k : Int) - 97) = (k : Int) - 97 := IntWalk.i64_in _ (by omega)
    have u5 : IntKind.i64.wrap ((k : Int) - 97 + 10) = (k : Int) - 97 + 10 := IntWalk.i64_in _ (by omega)
    clear hV hc
    go_enter Tryd.func61, Tryd.ntmps61
    go_wp2_with fail
    go_ret
    exact ⟨rfl, rfl⟩
  · obtain rfl : V = -1 := by rw [← hV, if_neg (by omega), if_neg (by omega)]
    have u0 : decide (48 ≤ (k : Int)) = true := by simp; omega
    have u1 : decide ((k : Int) ≤ 57) = false := by simp; omega
    have u2 : decide (97 ≤ (k : Int)) = true := by simp; omega
    have u3 : decide ((k : Int) ≤ 102) = false := by simp; omega
    clear hV hc
    go_enter Tryd.func61, Tryd.ntmps61
    go_wp2_with fail
    go_ret
    exact ⟨rfl, rfl⟩
/-- the bytes that the first pairs of digits tell -/
def pairsTo (l : List UInt8) : Nat → Option (List UInt8)
  | 0 => some []
  | k + 1 => match pairsTo l k with
    | none => none
    | some o => if digitV (l.getD (2 * k) 0) < 0 ∨ digitV (l.getD (2 * k + 1) 0) < 0 then none else some (o ++ [UInt8.ofNat (16 * digitV (l.getD (2 * k) 0) + digitV (l.getD (2 * k + 1) 0)).toNat])
def unhexF (s : ByteArray) : Option ByteArray := if s.size % 2 ≠ 0 then none else (pairsTo s.data.toList (s.size / 2)).map fun l => ⟨l.toArray⟩
theorem pairs_none {l : List UInt8} {k : Nat} (h : pairsTo l k = none) : ∀ m, k ≤ m → pairsTo l m = none := by
  intro m hm
  induction m with
  | zero => obtain rfl : k = 0 := by omega
            exact h
  | succ m ih =>
    by_cases e : k = m + 1
    · subst e; exact h
    · rw [pairsTo, ih (by omega)]
theorem pairs_len {l : List UInt8} : ∀ {k : Nat} {o : List UInt8}, pairsTo l k = some o → o.length = k := by
  intro k
  induction k with
  | zero => intro o h; injection h with h; subst h; rfl
  | succ k ih =>
    intro o h
    rw [pairsTo] at h
    cases hk : pairsTo l k with
    | none => rw [hk] at h; cases h
    | some o' =>
      rw [hk] at h
      simp only at h
      split at h
      · cases h
      · injection h with h
        subst h
        simp [ih hk]
theorem digitV_le (c : UInt8) : -1 ≤ digitV c ∧ digitV c < 16 := by
  unfold digitV
  split
  · omega
  · split <;> omega
set_option maxRecDepth 100000 in
set_option maxHeartbeats 4000000 in
theorem runhex_any (s : ByteArray) (w : World) (hs : s.size ≤ 100000) :
    Calls Tryd.prog 41 #[.string s] w fun e w' => ∃ (p : ByteArray) (q : Bool), e = .returned (.tuple #[.string p, .bool q]) ∧ p.size ≤ 100000 ∧ unhexF s = (if q = true then some p else none) ∧ Below w.heap.size w w' := by
  obtain ⟨V, hV⟩ : ∃ V, unhexF s = V := ⟨_, rfl⟩
  rw [hV]
  have hmod : (s.size : Int) % 2 = ((s.size % 2 : Nat) : Int) := by omega
  have htm : (s.size : Int).tmod 2 = ((s.size % 2 : Nat) : Int) := by rw [Int.tmod_eq_emod_of_nonneg (by omega)]; exact hmod
  by_cases hodd : s.size % 2 ≠ 0
  · have hv : V = none := by rw [← hV, unhexF, if_pos hodd]
    subst hv
    have u0 : ((s.size : Int) % 2 != 0) = true := by rw [hmod]; simp; omega
    have u1 : ((s.size : Int).tmod 2 != 0) = true := by rw [htm]; simp; omega
    clear hV hodd hmod htm
    go_enter Tryd.func41, Tryd.ntmps41
    go_wp2_with (with_reducible refine end_at ?_)
    refine end_ret (v := .tuple #[.string ⟨#[]⟩, .bool false]) (by simp [results, Tryd.results41]) rfl ⟨⟨#[]⟩, false, rfl, Nat.zero_le _, by simp, Below.refl _ _⟩
  · have HV : Hid ((pairsTo s.data.toList (s.size / 2)).map (fun l => (⟨l.toArray⟩ : ByteArray)) = V) := Lib.hid (by rw [← hV, unhexF, if_neg hodd])
    have u0 : ((s.size : Int) % 2 != 0) = false := by rw [hmod]; simp; omega
    have u1 : ((s.size : Int).tmod 2 != 0) = false := by rw [htm]; simp; omega
    have hev : s.size = 2 * (s.size / 2) := by omega
    obtain ⟨H, hH⟩ : ∃ H, s.size / 2 = H := ⟨_, rfl⟩
    rw [hH] at hev HV
    have HG : Hid (∀ k (h : k < s.size), s.data.toList.getD k 0 = s[k]) := Lib.hid (fun k h => by
      rw [List.getD_eq_getElem?_getD, List.getElem?_eq_getElem (by simpa using h)]
      rfl)
    clear hV hodd hmod htm hH
    go_enter Tryd.func41, Tryd.ntmps41
    go_wp2_with fail
    clear u0 u1
    go_loopw [4, 5] (fun ov iv wr => ∃ (k d : Nat) (o : List UInt8) (A : Option Addr), k ≤ H ∧ iv = .int .i64 (2 * k : Nat) ∧ ov = .slice A k d ∧ Hid (pairsTo s.data.toList k = some o) ∧ Hid (o.length = k) ∧ Hid (BRow wr w.heap.size (.slice A k d) o) ∧ Hid (Below w.heap.size w wr)) (fun _ iv _ => s.size - (intOf iv).toNat)
    case atStart => exact ⟨0, 0, [], none, by omega, rfl, rfl, Lib.hid rfl, Lib.hid rfl, Lib.hid (brow_nil _ _), Lib.hid (Below.refl _ _)⟩
    case round =>
      obtain ⟨k, d, o, A, hk, rfl, rfl, HP, HL, HR, HB⟩ := hrel
      obtain ⟨j, hj⟩ : ∃ j, 2 * k = j := ⟨_, rfl⟩
      rw [hj]
      by_cases hlt : k < H
      · have hj1 : j < s.size := by omega
        have hj2 : j + 1 < s.size := by omega
        have j0 : (0 : Int) ≤ (j : Int) := by omega
        have jl : (j : Int) < (s.size : Int) := by omega
        have j1 : (j : Int) + 1 < (s.size : Int) := by omega
        have j2 : IntKind.i64.wrap ((j : Int) + 1) = ((j + 1 : Nat) : Int) := by rw [IntWalk.i64_in _ (by omega)]; omega
        have j3 : (0 : Int) ≤ ((j + 1 : Nat) : Int) := by omega
        have j4 : ((j + 1 : Nat) : Int) < (s.size : Int) := by omega
        have hb1 := (s[j]'hj1).toNat_lt
        have hb2 := (s[j + 1]'hj2).toNat_lt
        have HD1 := Lib.hid (fun W => rdigit_any (s[j]'hj1) W)
        have HD2 := Lib.hid (fun W => rdigit_any (s[j + 1]'hj2) W)
        have hd1 := digitV_le (s[j]'hj1)
        have hd2 := digitV_le (s[j + 1]'hj2)
        have hg1 := HG.out j hj1
        have hg2 := HG.out (j + 1) hj2
        have hstep : pairsTo s.data.toList (k + 1) = if digitV (s[j]'hj1) < 0 ∨ digitV (s[j + 1]'hj2) < 0 then none else some (o ++ [UInt8.ofNat (16 * digitV (s[j]'hj1) + digitV (s[j + 1]'hj2)).toNat]) := by
          rw [pairsTo, HP.out]
          simp only
          rw [hj, hg1, hg2]
        obtain ⟨a, ha⟩ : ∃ a, digitV (s[j]'hj1) = a := ⟨_, rfl⟩
        obtain ⟨b, hb⟩ : ∃ b, digitV (s[j + 1]'hj2) = b := ⟨_, rfl⟩
        rw [ha] at HD1 hd1 hstep
        rw [hb] at HD2 hd2 hstep
        have HST := Lib.hid hstep
        clear ha hb hstep hg1 hg2
        go_wp2_with fail
        refine (HD1.out _).mono ?_
        rintro e w1 ⟨rfl, rfl⟩
        go_wp2_with fail
        refine (HD2.out _).mono ?_
        rintro e w1 ⟨rfl, rfl⟩
        by_cases hneg : a < 0 ∨ b < 0
        · have hv : V = none := by
            rw [← HV.out, pairs_none (k := k + 1) (by rw [HST.out, if_pos hneg]) H (by omega)]
            rfl
          subst hv
          have hway : a < 0 ∨ (¬ a < 0 ∧ b < 0) := by omega
          clear hneg
          rcases hway with h1 | ⟨h1, h2⟩
          all_goals
            go_wp2_with (with_reducible refine end_at ?_)
            refine end_ret (v := .tuple #[.string ⟨#[]⟩, .bool false]) (by simp [results, Tryd.results41]) rfl ⟨⟨#[]⟩, false, rfl, Nat.zero_le _, by simp, HB.out⟩
        · have h1 : ¬ a < 0 := by omega
          have h2 : ¬ b < 0 := by omega
          obtain ⟨x, rfl⟩ : ∃ x : Nat, a = x := ⟨a.toNat, by omega⟩
          obtain ⟨y, rfl⟩ : ∃ y : Nat, b = y := ⟨b.toNat, by omega⟩
          have g1 : IntKind.i64.wrap (16 * (x : Int)) = 16 * (x : Int) := IntWalk.i64_in _ (by omega)
          have g2 : IntKind.i64.wrap (16 * (x : Int) + (y : Int)) = 16 * (x : Int) + (y : Int) := IntWalk.i64_in _ (by omega)
          have g3 : IntKind.u8.wrap (16 * (x : Int) + (y : Int)) = 16 * (x : Int) + (y : Int) := by simp only [IntKind.wrap, IntKind.bits, IntKind.signed]; simp; omega
          have g4 : (16 * (x : Int) + (y : Int)) % 256 = 16 * (x : Int) + (y : Int) := by omega
          have g5 : IntKind.i64.wrap ((j : Int) + 2) = ((2 * (k + 1) : Nat) : Int) := by rw [IntWalk.i64_in _ (by omega)]; omega
          have HE : Hid (o ++ [UInt8.ofNat (16 * x + y)] = o ++ [UInt8.ofNat (16 * x + y)]) := Lib.hid rfl
          have HP2 : Hid (pairsTo s.data.toList (k + 1) = some (o ++ [UInt8.ofNat (16 * x + y)])) := Lib.hid (by
            rw [HST.out, if_neg hneg]
            rw [show (16 * (x : Int) + (y : Int)).toNat = 16 * x + y by omega])
          have HL2 : Hid ((o ++ [UInt8.ofNat (16 * x + y)]).length = k + 1) := Lib.hid (by rw [List.length_append, HL.out]; rfl)
          have hvb : Value.int .u8 (16 * (x : Int) + (y : Int)) = vB (UInt8.ofNat (16 * x + y)) := by
            unfold vB
            rw [show (UInt8.ofNat (16 * x + y)).toNat = 16 * x + y by simp; omega]
            congr 1
          have HVB := Lib.hid hvb
          have hbz := HB.out.size
          clear hneg hvb
          go_wp2_with (at_builtin; go_loud (refine wpList_append_byte rfl (.tmp 33) (.tmp 39) rfl rfl (brow_alloc HR.out _) wr.heap.size (UInt8.ofNat (16 * x + y)) _ rfl (Blk.new wr _ _) HVB.out k HL.out _ rfl (by omega) (by simp; omega) ?_); intro A3 c3 w3 HR3 hg3 hb3)
          have HB3 : Hid (Below w.heap.size w w3) := Lib.hid ((HB.out.alloc hbz _).trans hb3)
          clear hg3 hb3
          go_wp2_with fail
          go_roundw
          case rel => exact ⟨k + 1, c3, _, A3, by omega, by rfl, rfl, HP2, HL2, HR3, HB3⟩
          case measure => simp [intOf]; omega
      · obtain rfl : k = H := by omega
        have hjs : j = s.size := by omega
        have uj : decide ((j : Int) < (s.size : Int)) = false := by simp; omega
        have hv : V = some ⟨o.toArray⟩ := by rw [← HV.out, HP.out]; rfl
        subst hv
        have hcv := run_brow (P := Tryd.prog) 54 9 5 Tryd.underlying54 Tryd.underlying5 Tryd.underlying9 HL.out HR.out
        have hoz : (⟨o.toArray⟩ : ByteArray).size ≤ 100000 := by
          show o.toArray.size ≤ _
          rw [List.size_toArray, HL.out]
          omega
        clear hjs
        go_wp2_with (with_reducible refine end_at ?_)
        refine end_ret (v := .tuple #[.string ⟨o.toArray⟩, .bool true]) (by simp [results, Tryd.results41]) rfl ⟨⟨o.toArray⟩, true, rfl, hoz, by simp, HB.out⟩
end Go.Proofs.YtbgohcedakpnbaaDoor
