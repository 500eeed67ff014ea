/- word: Cut. -/
import Derived.Test.YtpbbphjhjjpkjaaDoorWordB
import Derived.Test.YtpbbphjhjjpkjaaDoorRow
import Derived.Deep.RegionWith
import Derived.StillTailTactics
import Derived.RegionTactic
set_option linter.unusedVariables false
namespace Go.Proofs.YtpbbphjhjjpkjaaDoor
open Go.RowKit
def belowW (h : Bool) (r : Nat) : Nat := if h then 24 - 8 * r else 8 * r
def byteAt (s : ByteArray) (i : Nat) : Nat := (s.data.toList.getD i 0).toNat
theorem byteAt_lt (s : ByteArray) (i : Nat) : byteAt s i < 256 := UInt8.toNat_lt _
theorem byteAt_get (s : ByteArray) (i : Nat) (h : i < s.size) : s[i].toNat = byteAt s i := by
  unfold byteAt
  have : s.data.toList[i]? = some s[i] := by
    rw [Array.getElem?_toList]
    exact Array.getElem?_eq_getElem h
  simp [List.getD, this]
/-- the words behind the first i bytes -/
def cutTo (s : ByteArray) (h : Bool) : Nat → List Nat
  | 0 => List.replicate (s.size / 4) 0
  | i + 1 => (cutTo s h i).set (i / 4) ((cutTo s h i).getD (i / 4) 0 ||| byteAt s i * 2 ^ belowW h (i % 4))
def cutW (s : ByteArray) (h : Bool) : List Nat := cutTo s h s.size
theorem cutTo_len (s : ByteArray) (h : Bool) (i : Nat) : (cutTo s h i).length = s.size / 4 := by
  induction i with
  | zero => simp [cutTo]
  | succ i ih => rw [cutTo, List.length_set, ih]
theorem cutTo_words (s : ByteArray) (h : Bool) (i : Nat) : words (cutTo s h i) := by
  induction i with
  | zero => intro n hn; rw [cutTo] at hn; rw [List.eq_of_mem_replicate hn]; decide
  | succ i ih =>
    intro n hn
    rw [cutTo] at hn
    rcases List.mem_or_eq_of_mem_set hn with hn | rfl
    · exact ih n hn
    · refine Nat.or_lt_two_pow (n := 32) ?_ ?_
      · rw [List.getD_eq_getElem?_getD]
        cases e : (cutTo s h i)[i / 4]? with
        | none => decide
        | some x => exact ih x (List.mem_of_getElem? e)
      · have h1 := byteAt_lt s i
        have h2 : belowW h (i % 4) ≤ 24 := by unfold belowW; split <;> omega
        have h3 : 2 ^ belowW h (i % 4) ≤ 2 ^ 24 := Nat.pow_le_pow_right (by decide) h2
        calc byteAt s i * 2 ^ belowW h (i % 4) ≤ 255 * 2 ^ 24 := Nat.mul_le_mul (by omega) h3
          _ < 2 ^ 32 := by decide
theorem places1_any (r : Int) (w : World) (h0 : 0 ≤ r) (h3 : r ≤ 3) : Calls Tryd.prog 42 #[.int .i64 r] w fun e w' => e = .returned (.int .i64 (24 - 8 * r)) ∧ w = w' := by
  go_enter Tryd.func42, Tryd.ntmps42
  go_wp2
  go_ret
  exact ⟨rfl, rfl⟩
theorem places2_any (r : Int) (w : World) (h0 : 0 ≤ r) (h3 : r ≤ 3) : Calls Tryd.prog 43 #[.int .i64 r] w fun e w' => e = .returned (.int .i64 (8 * r)) ∧ w = w' := by
  go_enter Tryd.func43, Tryd.ntmps43
  go_wp2
  go_ret
  exact ⟨rfl, rfl⟩
theorem ints_set (L : List Nat) (j x : Nat) : ints (L.set j x) = (ints L).set j (x : Int) := by simp [ints, List.map_set]
theorem places1_nat (r sh : Nat) (hr : r ≤ 3) (h : belowW true r = sh) (w : World) : Calls Tryd.prog 42 #[.int .i64 r] w fun e w' => e = .returned (.int .i64 sh) ∧ w = w' :=
  (places1_any r w (by omega) (by omega)).mono fun e w' ⟨he, hw⟩ => ⟨by rw [he]; refine ret_int ?_; rw [← h]; simp [belowW]; omega, hw⟩
theorem places2_nat (r sh : Nat) (hr : r ≤ 3) (h : belowW false r = sh) (w : World) : Calls Tryd.prog 43 #[.int .i64 r] w fun e w' => e = .returned (.int .i64 sh) ∧ w = w' :=
  (places2_any r w (by omega) (by omega)).mono fun e w' ⟨he, hw⟩ => ⟨by rw [he]; refine ret_int ?_; rw [← h]; simp [belowW], hw⟩

set_option maxHeartbeats 1000000 in
theorem cut_high (s : ByteArray) (w : World) (hs : s.size % 4 = 0) (hmax : s.size ≤ 140737488355328) :
    Calls Tryd.prog 24 #[.string s, .bool true] w fun e w' => ∃ g, e = .returned (.tuple #[.slice (some ⟨g, 0, none⟩) (s.size / 4) (s.size / 4), .bool true]) ∧ Row vI w' g 3 (ints (cutW s true)) ∧ w.heap.size ≤ g ∧ Below w.heap.size w w' := by
  have hmk := fun W => run_mkrow (P := Tryd.prog) 42 3 (.int .i64 0) 8 Tryd.underlying42 int_info3 rfl (s.size / 4) (by omega) (by omega) W
  obtain ⟨m, hme⟩ : ∃ m, s.size / 4 = m := ⟨_, rfl⟩
  rw [hme] at hmk ⊢
  have h0 : (s.size : Int) % 4 = 0 := by omega
  have h1 : (s.size : Int) / 4 = (m : Int) := by omega
  have HME := Lib.hid hme
  have H0 := Lib.hid hs
  clear hs hme
  go_enter Tryd.func24, Tryd.ntmps24
  go_wp2
  clear hmk h0 h1
  have hR0 : Row vI (w.alloc (.cells (List.replicate m (Value.int .i64 0)).toArray 3)) w.heap.size 3 (ints (cutTo s true 0)) := by
    have := Row.new (f := vI) w 3 m 0
    simpa [vI, ints, cutTo, HME.out] using this
  go_loopw [21] (fun iv wr => ∃ i : Nat, i ≤ s.size ∧ iv = .int .i64 i ∧ Below w.heap.size w wr ∧ Hid (Row vI wr w.heap.size 3 (ints (cutTo s true i)))) (fun iv _ => s.size - (intOf iv).toNat)
  case atStart => exact ⟨0, Nat.zero_le _, rfl, by go_grown, hR0⟩
  case round =>
    obtain ⟨i, hi, rfl, hB, HR⟩ := hrel
    clear hR0
    by_cases hlt : i < s.size
    · obtain ⟨j, hje⟩ : ∃ j, i / 4 = j := ⟨_, rfl⟩
      have hj : j < m := by have := H0.out; have := HME.out; omega
      have hlen : j < (cutTo s true i).length := by rw [cutTo_len, HME.out]; exact hj
      have hget : (cutTo s true i)[j]? = some ((cutTo s true i)[j]'hlen) := List.getElem?_eq_getElem hlen
      have hold := cutTo_words s true i _ (List.mem_of_getElem? hget)
      have hgd : (cutTo s true i).getD j 0 = (cutTo s true i)[j]'hlen := by rw [List.getD_eq_getElem?_getD, hget]; rfl
      have c0 := HR.out.get (ints_get hget)
      have cf := HR.out.free j
      simp only [vI] at c0
      generalize (cutTo s true i)[j]'hlen = old at hold hgd c0
      have hbg := byteAt_get s i hlt
      have hbl := byteAt_lt s i
      have hbs : s[i].toNat < 256 := by rw [hbg]; exact hbl
      clear hget hlen
      obtain ⟨r, hre⟩ : ∃ r, i % 4 = r := ⟨_, rfl⟩
      obtain ⟨sh, hshe⟩ : ∃ sh, belowW true r = sh := ⟨_, rfl⟩
      have hr4 : r ≤ 3 := by omega
      have hsh : sh ≤ 24 := by rw [← hshe]; unfold belowW; split <;> omega
      have hq : (i : Int) / 4 = (j : Int) := by omega
      have hm : (i : Int) % 4 = (r : Int) := by omega
      have hp : 2 ^ sh ≤ 2 ^ 24 := Nat.pow_le_pow_right (by decide) hsh
      have hbp : byteAt s i * 2 ^ sh ≤ 255 * 2 ^ 24 := Nat.mul_le_mul (by omega) hp
      have hb0 := i64_or_nat old (byteAt s i * 2 ^ sh) (by omega) (by omega)
      have hcast : ((byteAt s i * 2 ^ sh : Nat) : Int) = (s[i].toNat : Int) * 2 ^ sh := by rw [← hbg]; simp
      rw [hcast] at hb0
      have hw0 : IntKind.i64.wrap ((s[i].toNat : Int) * 2 ^ sh) = (s[i].toNat : Int) * 2 ^ sh := by
        rw [← hcast]; exact IntWalk.i64_in _ (by omega)
      have HS0 : cutTo s true (i + 1) = (cutTo s true i).set j (old ||| byteAt s i * 2 ^ sh) := by
        rw [cutTo, hje, hgd, hre, hshe]
      obtain ⟨new, hnew⟩ : ∃ x, old ||| byteAt s i * 2 ^ sh = x := ⟨_, rfl⟩
      rw [hnew] at hb0 HS0
      have HS := Lib.hid HS0
      have hv : bits .or .i64 (old : Int) (wrap64 (wrap64 (s[i].toNat : Int) * 2 ^ sh)) = (new : Int) := by
        rw [IntWalk.wrap64_in (s[i].toNat : Int) ⟨by omega, by omega⟩, IntWalk.wrap64_in _ ⟨by rw [← hcast]; omega, by rw [← hcast]; omega⟩]
        exact hb0
      have HV := Lib.hid hv
      have HP := Lib.hid (places1_nat r sh hr4 hshe)
      have q1 : (i : Int).tdiv 4 = (j : Int) := by rw [Int.tdiv_eq_ediv_of_nonneg (by omega)]; exact hq
      have q2 : IntKind.i64.wrap (j : Int) = (j : Int) := IntWalk.i64_in _ (by omega)
      have q3 : (i : Int).tmod 4 = (r : Int) := by rw [Int.tmod_eq_emod_of_nonneg (by omega)]; exact hm
      have i0 : (0 : Int) ≤ (j : Int) := by omega
      have i1 : (j : Int) < (m : Int) := by omega
      have i2 : (0 : Int) ≤ (i : Int) := by omega
      have i3 : (i : Int) < (s.size : Int) := by omega
      clear hb0 hw0 hv hbp hp hcast HS0 hnew hre hshe hgd hbg hbl hje hbs hold
      go_wp2_with fail
      go_region_with ((go_at_call 42; refine (HP.out _).mono ?_; rintro e w' ⟨rfl, rfl⟩))
      all_goals
        go_wp2_with fail
        go_roundw
        case rel =>
          (repeat apply Exists.intro)
          refine ⟨⟨i + 1, by omega, by go_num, by have := hB; go_grown, ?_⟩, rfl⟩
          have := HR.out.set_ j (new : Int)
          rw [← ints_set] at this
          rw [HS.out]
          refine Lib.hid ?_
          rw [HV.out]
          exact this
        case measure => simp [intOf]; omega
    · obtain rfl : i = s.size := by omega
      go_wp2
      go_ret2
      exact ⟨w.heap.size, rfl, HR.out, Nat.le_refl _, hB⟩
set_option maxHeartbeats 1000000 in
theorem cut_low (s : ByteArray) (w : World) (hs : s.size % 4 = 0) (hmax : s.size ≤ 140737488355328) :
    Calls Tryd.prog 24 #[.string s, .bool false] w fun e w' => ∃ g, e = .returned (.tuple #[.slice (some ⟨g, 0, none⟩) (s.size / 4) (s.size / 4), .bool true]) ∧ Row vI w' g 3 (ints (cutW s false)) ∧ w.heap.size ≤ g ∧ Below w.heap.size w w' := by
  have hmk := fun W => run_mkrow (P := Tryd.prog) 42 3 (.int .i64 0) 8 Tryd.underlying42 int_info3 rfl (s.size / 4) (by omega) (by omega) W
  obtain ⟨m, hme⟩ : ∃ m, s.size / 4 = m := ⟨_, rfl⟩
  rw [hme] at hmk ⊢
  have h0 : (s.size : Int) % 4 = 0 := by omega
  have h1 : (s.size : Int) / 4 = (m : Int) := by omega
  have HME := Lib.hid hme
  have H0 := Lib.hid hs
  clear hs hme
  go_enter Tryd.func24, Tryd.ntmps24
  go_wp2
  clear hmk h0 h1
  have hR0 : Row vI (w.alloc (.cells (List.replicate m (Value.int .i64 0)).toArray 3)) w.heap.size 3 (ints (cutTo s false 0)) := by
    have := Row.new (f := vI) w 3 m 0
    simpa [vI, ints, cutTo, HME.out] using this
  go_loopw [21] (fun iv wr => ∃ i : Nat, i ≤ s.size ∧ iv = .int .i64 i ∧ Below w.heap.size w wr ∧ Hid (Row vI wr w.heap.size 3 (ints (cutTo s false i)))) (fun iv _ => s.size - (intOf iv).toNat)
  case atStart => exact ⟨0, Nat.zero_le _, rfl, by go_grown, hR0⟩
  case round =>
    obtain ⟨i, hi, rfl, hB, HR⟩ := hrel
    clear hR0
    by_cases hlt : i < s.size
    · obtain ⟨j, hje⟩ : ∃ j, i / 4 = j := ⟨_, rfl⟩
      have hj : j < m := by have := H0.out; have := HME.out; omega
      have hlen : j < (cutTo s false i).length := by rw [cutTo_len, HME.out]; exact hj
      have hget : (cutTo s false i)[j]? = some ((cutTo s false i)[j]'hlen) := List.getElem?_eq_getElem hlen
      have hold := cutTo_words s false i _ (List.mem_of_getElem? hget)
      have hgd : (cutTo s false i).getD j 0 = (cutTo s false i)[j]'hlen := by rw [List.getD_eq_getElem?_getD, hget]; rfl
      have c0 := HR.out.get (ints_get hget)
      have cf := HR.out.free j
      simp only [vI] at c0
      generalize (cutTo s false i)[j]'hlen = old at hold hgd c0
      have hbg := byteAt_get s i hlt
      have hbl := byteAt_lt s i
      have hbs : s[i].toNat < 256 := by rw [hbg]; exact hbl
      clear hget hlen
      obtain ⟨r, hre⟩ : ∃ r, i % 4 = r := ⟨_, rfl⟩
      obtain ⟨sh, hshe⟩ : ∃ sh, belowW false r = sh := ⟨_, rfl⟩
      have hr4 : r ≤ 3 := by omega
      have hsh : sh ≤ 24 := by rw [← hshe]; unfold belowW; split <;> omega
      have hq : (i : Int) / 4 = (j : Int) := by omega
      have hm : (i : Int) % 4 = (r : Int) := by omega
      have hp : 2 ^ sh ≤ 2 ^ 24 := Nat.pow_le_pow_right (by decide) hsh
      have hbp : byteAt s i * 2 ^ sh ≤ 255 * 2 ^ 24 := Nat.mul_le_mul (by omega) hp
      have hb0 := i64_or_nat old (byteAt s i * 2 ^ sh) (by omega) (by omega)
      have hcast : ((byteAt s i * 2 ^ sh : Nat) : Int) = (s[i].toNat : Int) * 2 ^ sh := by rw [← hbg]; simp
      rw [hcast] at hb0
      have hw0 : IntKind.i64.wrap ((s[i].toNat : Int) * 2 ^ sh) = (s[i].toNat : Int) * 2 ^ sh := by
        rw [← hcast]; exact IntWalk.i64_in _ (by omega)
      have HS0 : cutTo s false (i + 1) = (cutTo s false i).set j (old ||| byteAt s i * 2 ^ sh) := by
        rw [cutTo, hje, hgd, hre, hshe]
      obtain ⟨new, hnew⟩ : ∃ x, old ||| byteAt s i * 2 ^ sh = x := ⟨_, rfl⟩
      rw [hnew] at hb0 HS0
      have HS := Lib.hid HS0
      have hv : bits .or .i64 (old : Int) (wrap64 (wrap64 (s[i].toNat : Int) * 2 ^ sh)) = (new : Int) := by
        rw [IntWalk.wrap64_in (s[i].toNat : Int) ⟨by omega, by omega⟩, IntWalk.wrap64_in _ ⟨by rw [← hcast]; omega, by rw [← hcast]; omega⟩]
        exact hb0
      have HV := Lib.hid hv
      have HP := Lib.hid (places2_nat r sh hr4 hshe)
      have q1 : (i : Int).tdiv 4 = (j : Int) := by rw [Int.tdiv_eq_ediv_of_nonneg (by omega)]; exact hq
      have q2 : IntKind.i64.wrap (j : Int) = (j : Int) := IntWalk.i64_in _ (by omega)
      have q3 : (i : Int).tmod 4 = (r : Int) := by rw [Int.tmod_eq_emod_of_nonneg (by omega)]; exact hm
      have i0 : (0 : Int) ≤ (j : Int) := by omega
      have i1 : (j : Int) < (m : Int) := by omega
      have i2 : (0 : Int) ≤ (i : Int) := by omega
      have i3 : (i : Int) < (s.size : Int) := by omega
      clear hb0 hw0 hv hbp hp hcast HS0 hnew hre hshe hgd hbg hbl hje hbs hold
      go_wp2_with fail
      go_region_with ((go_at_call 43; refine (HP.out _).mono ?_; rintro e w' ⟨rfl, rfl⟩))
      all_goals
        go_wp2_with fail
        go_roundw
        case rel =>
          (repeat apply Exists.intro)
          refine ⟨⟨i + 1, by omega, by go_num, by have := hB; go_grown, ?_⟩, rfl⟩
          have := HR.out.set_ j (new : Int)
          rw [← ints_set] at this
          rw [HS.out]
          refine Lib.hid ?_
          rw [HV.out]
          exact this
        case measure => simp [intOf]; omega
    · obtain rfl : i = s.size := by omega
      go_wp2
      go_ret2
      exact ⟨w.heap.size, rfl, HR.out, Nat.le_refl _, hB⟩
end Go.Proofs.YtpbbphjhjjpkjaaDoor
