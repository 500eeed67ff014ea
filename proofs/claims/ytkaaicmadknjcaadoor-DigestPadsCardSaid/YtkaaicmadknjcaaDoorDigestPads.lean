/- DigestPads: the walk. -/
import Derived.Test.YtkaaicmadknjcaaDoorDigL
set_option linter.unusedVariables false
namespace Go.Proofs.YtkaaicmadknjcaaDoor
open Go.RowKit
set_option maxHeartbeats 400000 in
set_option maxRecDepth 100000 in
theorem pads_no (n m : Int) (S T : ByteArray) (e f : Bool) (w : World) (hG : Rounds w)
    (hn : ∀ w, Calls Tryd.prog 24 #[.int .i64 n] w fun r w' => r = .returned (.tuple #[.string S, .bool e]) ∧ Below w.heap.size w w')
    (hm : ∀ w, Calls Tryd.prog 24 #[.int .i64 m] w fun r w' => r = .returned (.tuple #[.string T, .bool f]) ∧ Below w.heap.size w w')
    (he : e = false → S = ByteArray.empty) (hf : f = false → T = ByteArray.empty) (hef : e = false ∨ f = false) :
    Calls Tryd.prog 6 #[.int .i64 n, .int .i64 m] w fun e w' => e = .returned (.bool true) ∧ Below w.heap.size w w' := by
  have HG := Lib.hid hG
  have HN := Lib.hid hn
  have HM := Lib.hid hm
  clear hG hn hm
  cases e <;> cases f
  · obtain rfl := he rfl
    obtain rfl := hf rfl
    clear he hf hef
    go_enter Tryd.func6, Tryd.ntmps6
    go_wp2_with fail
    refine (HN.out _).mono ?_
    rintro r w1 ⟨rfl, hb1⟩
    go_wp2_with fail
    refine (HM.out _).mono ?_
    rintro r w2 ⟨rfl, hb2⟩
    have hB2 := hb1.trans (hb2.mono hb1.size)
    have HG2 := Lib.hid (rounds_of HG.out hB2)
    clear hb1 hb2
    go_wp2_with fail
    refine (sums_any _ HG2.out).mono ?_
    rintro r w3 ⟨rfl, hb3⟩
    go_wp2_with fail
    go_ret
    exact ⟨rfl, hB2.trans (hb3.mono hB2.size)⟩
  · obtain rfl := he rfl
    clear he hf hef
    go_enter Tryd.func6, Tryd.ntmps6
    go_wp2_with fail
    refine (HN.out _).mono ?_
    rintro r w1 ⟨rfl, hb1⟩
    go_wp2_with fail
    refine (HM.out _).mono ?_
    rintro r w2 ⟨rfl, hb2⟩
    have hB2 := hb1.trans (hb2.mono hb1.size)
    have HG2 := Lib.hid (rounds_of HG.out hB2)
    clear hb1 hb2
    go_wp2_with fail
    refine (sums_any _ HG2.out).mono ?_
    rintro r w3 ⟨rfl, hb3⟩
    go_wp2_with fail
    go_ret
    exact ⟨rfl, hB2.trans (hb3.mono hB2.size)⟩
  · obtain rfl := hf rfl
    clear he hf hef
    go_enter Tryd.func6, Tryd.ntmps6
    go_wp2_with fail
    refine (HN.out _).mono ?_
    rintro r w1 ⟨rfl, hb1⟩
    go_wp2_with fail
    refine (HM.out _).mono ?_
    rintro r w2 ⟨rfl, hb2⟩
    have hB2 := hb1.trans (hb2.mono hb1.size)
    have HG2 := Lib.hid (rounds_of HG.out hB2)
    clear hb1 hb2
    go_wp2_with fail
    refine (sums_any _ HG2.out).mono ?_
    rintro r w3 ⟨rfl, hb3⟩
    go_wp2_with fail
    go_ret
    exact ⟨rfl, hB2.trans (hb3.mono hB2.size)⟩
  · simp at hef
theorem padB_get (n : Nat) (i : Nat) (b : UInt8) (h : i < (padB n).size) (hb : (padL n 8)[i]? = some b) : (padB n)[i] = b := by
  have h1 : (padB n)[i] = (padL n 8).toArray[i]'(by exact h) := rfl
  rw [h1]
  have := Array.getElem?_eq_getElem (xs := (padL n 8).toArray) (i := i) h
  rw [List.getElem?_toArray, hb] at this
  exact (Option.some.inj this).symm
/-- the last 8 bytes -/
def lastB (n : Nat) : ByteArray := (padB n).extract ((padB n).size - 8) (padB n).size
theorem lastB_data (n : Nat) : (lastB n).data.toList = (List.range 8).map fun i => UInt8.ofNat (8 * n / 2 ^ (56 - 8 * i) % 256) := by
  have hs : (padB n).size = padZ n + 9 := padB_size n
  rw [lastB, ByteArray.data_extract, hs, show padZ n + 9 - 8 = padZ n + 1 by omega]
  show ((padL n 8).toArray.extract (padZ n + 1) (padZ n + 9)).toList = _
  rw [Array.toList_extract, List.extract_eq_take_drop, List.toList_toArray]
  unfold padL
  rw [List.drop_append_of_le_length (by simp), List.drop_of_length_le (by simp), List.nil_append, List.take_of_length_le (by first | (simp; done) | (simp; omega))]
theorem lastB_inj {n m : Nat} (hn : n ≤ 1000000000) (hm : m ≤ 1000000000) : lastB n = lastB m ↔ n = m := by
  refine ⟨fun h => ?_, fun h => by rw [h]⟩
  have h1 : (lastB n).data.toList = (lastB m).data.toList := by rw [h]
  rw [lastB_data, lastB_data] at h1
  have hk : ∀ k, k < 8 → UInt8.ofNat (8 * n / 2 ^ (56 - 8 * k) % 256) = UInt8.ofNat (8 * m / 2 ^ (56 - 8 * k) % 256) := by
    intro k hk
    have := congrArg (fun l => l[k]?) h1
    simpa [hk] using this
  have hv : ∀ k, k < 8 → 8 * n / 2 ^ (56 - 8 * k) % 256 = 8 * m / 2 ^ (56 - 8 * k) % 256 := by
    intro k h8
    have := congrArg UInt8.toNat (hk k h8)
    simpa using this
  have e7 := hv 7 (by omega)
  have e6 := hv 6 (by omega)
  have e5 := hv 5 (by omega)
  have e4 := hv 4 (by omega)
  have e3 := hv 3 (by omega)
  simp only [Nat.reduceMul, Nat.reduceSub, Nat.reducePow] at e3 e4 e5 e6 e7
  omega
theorem Rounds.drew {w : World} (h : Rounds w) : Rounds w.drew := h
theorem pad_facts (n : Nat) : ∃ S, padB n = S ∧ 9 ≤ S.size ∧ S.size ≤ 72 ∧ (n + S.size) % 64 = 0 ∧ ∀ h : 0 < S.size, S[0] = 128 :=
  ⟨_, rfl, (pad_bounds n).1, (pad_bounds n).2, pad_whole n, fun h => padB_get n 0 128 h rfl⟩
set_option maxHeartbeats 1000000 in
set_option maxRecDepth 100000 in
theorem pads_in (n m : Nat) (w : World) (hG : Rounds w) (hn : n ≤ 1000000000) (hm : m ≤ 1000000000) :
    Calls Tryd.prog 6 #[.int .i64 n, .int .i64 m] w fun e w' => e = .returned (.bool true) ∧ Below w.heap.size w w' := by
  have HG := Lib.hid hG
  have HN := Lib.hid (And.intro hn hm)
  have hL := lastB_inj hn hm
  unfold lastB at hL
  obtain ⟨S, hS, s0, s2, s1, hz⟩ := pad_facts n
  obtain ⟨T, hT, t0, t2, t1, _⟩ := pad_facts m
  have HST := Lib.hid (And.intro hS hT)
  simp only [hS, hT] at hL
  have h0 := hz (by omega)
  have h1 : ((S[0].toNat : Int) == 128) = true := by rw [h0]; rfl
  clear hS hT hz h0 t1
  have c1 : ((n : Int) + (S.size : Int)) % 64 = 0 := by omega
  have c2 : (((n : Int) + (S.size : Int)) % 64 == 0) = true := by simp [c1]
  have HL : Hid (((S.extract (S.size - 8) S.size).toList == (T.extract (T.size - 8) T.size).toList) = ((n : Int) == (m : Int))) := by
    refine Lib.hid ?_
    rw [Bool.eq_iff_iff, beq_iff_eq, beq_iff_eq, bytes_eq_iff, hL]
    omega
  clear hG s1 c1 hL
  go_enter Tryd.func6, Tryd.ntmps6
  go_wp2_with fail
  refine (pad_in n _ HN.out.1).mono ?_
  rintro r w1 ⟨rfl, hb1⟩
  rw [HST.out.1]
  go_wp2_with fail
  refine (pad_in m _ HN.out.2).mono ?_
  rintro r w2 ⟨rfl, hb2⟩
  rw [HST.out.2]
  have hB2 := hb1.trans (hb2.mono hb1.size)
  have HG2 := Lib.hid (rounds_of HG.out hB2)
  clear hb1 hb2
  go_wp2_with fail
  have d1 : decide ((9 : Int) ≤ (S.size : Int)) = true := by simp; omega
  have d2 : decide ((S.size : Int) ≤ 72) = true := by simp; omega
  have a1 : IntKind.i64.wrap ((n : Int) + (S.size : Int)) = (n : Int) + (S.size : Int) := IntWalk.i64_in _ (by have := HN.out; omega)
  have a2 : ((n : Int) + (S.size : Int)).tmod 64 = 0 := by rw [Int.tmod_eq_emod_of_nonneg (by omega)]; simpa using c2
  obtain ⟨p, hp⟩ : ∃ p, S.size - 8 = p := ⟨_, rfl⟩
  obtain ⟨q, hq⟩ : ∃ q, T.size - 8 = q := ⟨_, rfl⟩
  have b1 : (S.size : Int) - 8 = (p : Int) := by omega
  have b2 : IntKind.i64.wrap (p : Int) = (p : Int) := IntWalk.i64_in _ (by omega)
  have b3 : (0 : Int) ≤ (p : Int) := by omega
  have b4 : (p : Int) ≤ (S.size : Int) := by omega
  have e1 : (T.size : Int) - 8 = (q : Int) := by omega
  have e2 : IntKind.i64.wrap (q : Int) = (q : Int) := IntWalk.i64_in _ (by omega)
  have e3 : (0 : Int) ≤ (q : Int) := by omega
  have e4 : (q : Int) ≤ (T.size : Int) := by omega
  rw [hp, hq] at HL
  clear hp hq
  go_region_held3 (fun w' => True) (trivial) ((go_at_call 26; refine (sums_any _ HG2.out.drew).mono ?_; rintro r w3 ⟨rfl, hb3⟩))
  clear d1 d2 a1 a2 b1 b2 b3 b4 e1 e2 e3 e4 c2 h1
  go_wp2_with fail
  go_ret
  exact ⟨ret_bool (by rw [HL.out]; simp), hB2.trans (Below.trans (by go_grown) (hb3.mono (by simp [hB2.size])))⟩
theorem pad_either (n : Int) : ∃ (S : ByteArray) (e : Bool), (∀ w, Calls Tryd.prog 24 #[.int .i64 n] w fun r w' => r = .returned (.tuple #[.string S, .bool e]) ∧ Below w.heap.size w w') ∧ (e = false → S = ByteArray.empty) ∧ (e = true → 0 ≤ n ∧ n ≤ 1000000000) := by
  by_cases h : 0 ≤ n ∧ n ≤ 1000000000
  · obtain ⟨k, rfl⟩ := Int.eq_ofNat_of_zero_le h.1
    exact ⟨padB k, true, fun w => pad_in k w (by omega), (fun h => by cases h), fun _ => h⟩
  · exact ⟨ByteArray.empty, false, fun w => (pad_no n w (by omega)).mono fun e w' ⟨h1, h2⟩ => ⟨h1, by subst h2; exact Below.refl _ _⟩, fun _ => rfl, (fun h => by cases h)⟩
theorem pads_all (n m : Int) (w : World) (hG : Rounds w) :
    Calls Tryd.prog 6 #[.int .i64 n, .int .i64 m] w fun e w' => e = .returned (.bool true) ∧ Below w.heap.size w w' := by
  obtain ⟨S, e, h1, h2, h3⟩ := pad_either n
  obtain ⟨T, f, g1, g2, g3⟩ := pad_either m
  cases e
  · exact pads_no n m S T _ f w hG h1 g1 h2 g2 (.inl rfl)
  · cases f
    · exact pads_no n m S T _ _ w hG h1 g1 h2 g2 (.inr rfl)
    · obtain ⟨a, rfl⟩ := Int.eq_ofNat_of_zero_le (h3 rfl).1
      obtain ⟨b, rfl⟩ := Int.eq_ofNat_of_zero_le (g3 rfl).1
      exact pads_in a b w hG (by have := (h3 rfl).2; omega) (by have := (g3 rfl).2; omega)
end Go.Proofs.YtkaaicmadknjcaaDoor
