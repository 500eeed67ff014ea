/- word: Cut. -/
import Derived.Test.YtbgohcedakpnbaaDoorWordB
import Derived.Test.YtbgohcedakpnbaaDoorRow
import Derived.Deep.RegionWith
import Derived.StillTailTactics
import Derived.RegionTactic
import Derived.Laws.IdiomStrings
set_option linter.unusedVariables false
namespace Go.Proofs.YtbgohcedakpnbaaDoor
open Go.RowKit
def belowW (h : Bool) (r : Nat) : Nat := if h then 24 - 8 * r else 8 * r
def byteAt (s : ByteArray) (i : Nat) : Nat := (s.data.toList.getD i 0).toNat
theorem byteAt_lt (s : ByteArray) (i : Nat) : byteAt s i < 256 := UInt8.toNat_lt _
theorem byteAt_get (s : ByteArray) (i : Nat) (h : i < s.size) : s[i].toNat = byteAt s i := by
  unfold byteAt
  have : s.data.toList[i]? = some s[i] := by
    rw [Array.getElem?_toList]
    exact Array.getElem?_eq_getElem h
  simp [List.getD, this]
/-- the words behind the first i bytes -/
def cutTo (s : ByteArray) (h : Bool) : Nat → List Nat
  | 0 => List.replicate (s.size / 4) 0
  | i + 1 => (cutTo s h i).set (i / 4) ((cutTo s h i).getD (i / 4) 0 ||| byteAt s i * 2 ^ belowW h (i % 4))
def cutW (s : ByteArray) (h : Bool) : List Nat := cutTo s h s.size
theorem cutTo_len (s : ByteArray) (h : Bool) (i : Nat) : (cutTo s h i).length = s.size / 4 := by
  induction i with
  | zero => simp [cutTo]
  | succ i ih => rw [cutTo, List.length_set, ih]
theorem cutTo_words (s : ByteArray) (h : Bool) (i : Nat) : words (cutTo s h i) := by
  induction i with
  | zero => intro n hn; rw [cutTo] at hn; rw [List.eq_of_mem_replicate hn]; decide
  | succ i ih =>
    intro n hn
    rw [cutTo] at hn
    rcases List.mem_or_eq_of_mem_set hn with hn | rfl
    · exact ih n hn
    · refine Nat.or_lt_two_pow (n := 32) ?_ ?_
      · rw [List.getD_eq_getElem?_getD]
        cases e : (cutTo s h i)[i / 4]? with
        | none => decide
        | some x => exact ih x (List.mem_of_getElem? e)
      · have h1 := byteAt_lt s i
        have h2 : belowW h (i % 4) ≤ 24 := by unfold belowW; split <;> omega
        have h3 : 2 ^ belowW h (i % 4) ≤ 2 ^ 24 := Nat.pow_le_pow_right (by decide) h2
        calc byteAt s i * 2 ^ belowW h (i % 4) ≤ 255 * 2 ^ 24 := Nat.mul_le_mul (by omega) h3
          _ < 2 ^ 32 := by decide
theorem places1_any (r : Int) (w : World) (h0 : 0 ≤ r) (h3 : r ≤ 3) : Calls Tryd.prog 146 #[.int .i64 r] w fun e w' => e = .returned (.int .i64 (24 - 8 * r)) ∧ w = w' := by
  go_enter Tryd.func146, Tryd.ntmps146
  go_wp2
  go_ret
  exact ⟨rfl, rfl⟩
theorem places2_any (r : Int) (w : World) (h0 : 0 ≤ r) (h3 : r ≤ 3) : Calls Tryd.prog 147 #[.int .i64 r] w fun e w' => e = .returned (.int .i64 (8 * r)) ∧ w = w' := by
  go_enter Tryd.func147, Tryd.ntmps147
  go_wp2
  go_ret
  exact ⟨rfl, rfl⟩
theorem ints_set (L : List Nat) (j x : Nat) : ints (L.set j x) = (ints L).set j (x : Int) := by simp [ints, List.map_set]
theorem places1_nat (r sh : Nat) (hr : r ≤ 3) (h : belowW true r = sh) (w : World) : Calls Tryd.prog 146 #[.int .i64 r] w fun e w' => e = .returned (.int .i64 sh) ∧ w = w' :=
  (places1_any r w (by omega) (by omega)).mono fun e w' ⟨he, hw⟩ => ⟨by rw [he]; refine ret_int ?_; rw [← h]; simp [belowW]; omega, hw⟩
theorem places2_nat (r sh : Nat) (hr : r ≤ 3) (h : belowW false r = sh) (w : World) : Calls Tryd.prog 147 #[.int .i64 r] w fun e w' => e = .returned (.int .i64 sh) ∧ w = w' :=
  (places2_any r w (by omega) (by omega)).mono fun e w' ⟨he, hw⟩ => ⟨by rw [he]; refine ret_int ?_; rw [← h]; simp [belowW], hw⟩

set_option maxHeartbeats 1000000 in
theorem cut_high (s : ByteArray) (w : World) (hs : s.size % 4 = 0) (hmax : s.size ≤ 140737488355328) :
    Calls Tryd.prog 102 #[.string s, .bool true] w fun e w' => ∃ g, e = .returned (.tuple #[.slice (some ⟨g, 0, none⟩) (s.size / 4) (s.size / 4), .bool true]) ∧ Row vI w' g 3 (ints (cutW s true)) ∧ w.heap.size ≤ g ∧ Below w.heap.size w w' := by
  have hmk := fun W => run_mkrow (P := Tryd.prog) 39 3 (.int .i64 0) 8 Tryd.underlying39 int_info3 rfl (s.size / 4) (by omega) (by omega) W
  obtain ⟨m, hme⟩ : ∃ m, s.size / 4 = m := ⟨_, rfl⟩
  rw [hme] at hmk ⊢
  have h0 : (s.size : Int) % 4 = 0 := by omega
  have h1 : (s.size : Int) / 4 = (m : Int) := by omega
  have HME := Lib.hid hme
  have H0 := Lib.hid hs
  clear hs hme
  go_enter Tryd.func102, Tryd.ntmps102
  go_wp2
  clear hmk h0 h1
  have hR0 : Row vI (w.alloc (.cells (List.replicate m (Value.int .i64 0)).toArray 3)) w.heap.size 3 (ints (cutTo s true 0)) := by
    have := Row.new (f := vI) w 3 m 0
    simpa [vI, ints, cutTo, HME.out] using this
  go_loopw [21] (fun iv wr => ∃ i : Nat, i ≤ s.size ∧ iv = .int .i64 i ∧ Below w.heap.size w wr ∧ Hid (Row vI wr w.heap.size 3 (ints (cutTo s true i)))) (fun iv _ => s.size - (intOf iv).toNat)
  case atStart => exact ⟨0, Nat.zero_le _, rfl, by go_grown, hR0⟩
  case round =>
    obtain ⟨i, hi, rfl, hB, HR⟩ := hrel
    clear hR0
    by_cases hlt : i < s.size
    · obtain ⟨j, hje⟩ : ∃ j, i / 4 = j := ⟨_, rfl⟩
      have hj : j < m := by have := H0.out; have := HME.out; omega
      have hlen : j < (cutTo s true i).length := by rw [cutTo_len, HME.out]; exact hj
      have hget : (cutTo s true i)[j]? = some ((cutTo s true i)[j]'hlen) := List.getElem?_eq_getElem hlen
      have hold := cutTo_words s true i _ (List.mem_of_getElem? hget)
      have hgd : (cutTo s true i).getD j 0 = (cutTo s true i)[j]'hlen := by rw [List.getD_eq_getElem?_getD, hget]; rfl
      have c0 := HR.out.get (ints_get hget)
      have cf := HR.out.free j
      simp only [vI] at c0
      generalize (cutTo s true i)[j]'hlen = old at hold hgd c0
      have hbg := byteAt_get s i hlt
      have hbl := byteAt_lt s i
      have hbs : s[i].toNat < 256 := by rw [hbg]; exact hbl
      clear hget hlen
      obtain ⟨r, hre⟩ : ∃ r, i % 4 = r := ⟨_, rfl⟩
      obtain ⟨sh, hshe⟩ : ∃ sh, belowW true r = sh := ⟨_, rfl⟩
      have hr4 : r ≤ 3 := by omega
      have hsh : sh ≤ 24 := by rw [← hshe]; unfold belowW; split <;> omega
      have hq : (i : Int) / 4 = (j : Int) := by omega
      have hm : (i : Int) % 4 = (r : Int) := by omega
      have hp : 2 ^ sh ≤ 2 ^ 24 := Nat.pow_le_pow_right (by decide) hsh
      have hbp : byteAt s i * 2 ^ sh ≤ 255 * 2 ^ 24 := Nat.mul_le_mul (by omega) hp
      have hb0 := i64_or_nat old (byteAt s i * 2 ^ sh) (by omega) (by omega)
      have hcast : ((byteAt s i * 2 ^ sh : Nat) : Int) = (s[i].toNat : Int) * 2 ^ sh := by rw [← hbg]; simp
      rw [hcast] at hb0
      have hw0 : IntKind.i64.wrap ((s[i].toNat : Int) * 2 ^ sh) = (s[i].toNat : Int) * 2 ^ sh := by
        rw [← hcast]; exact IntWalk.i64_in _ (by omega)
      have HS0 : cutTo s true (i + 1) = (cutTo s true i).set j (old ||| byteAt s i * 2 ^ sh) := by
        rw [cutTo, hje, hgd, hre, hshe]
      obtain ⟨new, hnew⟩ : ∃ x, old ||| byteAt s i * 2 ^ sh = x := ⟨_, rfl⟩
      rw [hnew] at hb0 HS0
      have HS := Lib.hid HS0
      have hv : bits .or .i64 (old : Int) (wrap64 (wrap64 (s[i].toNat : Int) * 2 ^ sh)) = (new : Int) := by
        rw [IntWalk.wrap64_in (s[i].toNat : Int) ⟨by omega, by omega⟩, IntWalk.wrap64_in _ ⟨by rw [← hcast]; omega, by rw [← hcast]; omega⟩]
        exact hb0
      have HV := Lib.hid hv
      have HP := Lib.hid (places1_nat r sh hr4 hshe)
      have q1 : (i : Int).tdiv 4 = (j : Int) := by rw [Int.tdiv_eq_ediv_of_nonneg (by omega)]; exact hq
      have q2 : IntKind.i64.wrap (j : Int) = (j : Int) := IntWalk.i64_in _ (by omega)
      have q3 : (i : Int).tmod 4 = (r : Int) := by rw [Int.tmod_eq_emod_of_nonneg (by omega)]; exact hm
      have i0 : (0 : Int) ≤ (j : Int) := by omega
      have i1 : (j : Int) < (m : Int) := by omega
      have i2 : (0 : Int) ≤ (i : Int) := by omega
      have i3 : (i : Int) < (s.size : Int) := by omega
      clear hb0 hw0 hv hbp hp hcast HS0 hnew hre hshe hgd hbg hbl hje hbs hold
      go_wp2_with fail
      go_region_with ((go_at_call 146; refine (HP.out _).mono ?_; rintro e w' ⟨rfl, rfl⟩))
      all_goals
        go_wp2_with fail
        go_roundw
        case rel =>
          (repeat apply Exists.intro)
          refine ⟨⟨i + 1, by omega, by go_num, by have := hB; go_grown, ?_⟩, rfl⟩
          have := HR.out.set_ j (new : Int)
          rw [← ints_set] at this
          rw [HS.out]
          refine Lib.hid ?_
          rw [HV.out]
          exact this
        case measure => simp [intOf]; omega
    · obtain rfl : i = s.size := by omega
      go_wp2
      go_ret2
      exact ⟨w.heap.size, rfl, HR.out, Nat.le_refl _, hB⟩
set_option maxHeartbeats 1000000 in
theorem cut_low (s : ByteArray) (w : World) (hs : s.size % 4 = 0) (hmax : s.size ≤ 140737488355328) :
    Calls Tryd.prog 102 #[.string s, .bool false] w fun e w' => ∃ g, e = .returned (.tuple #[.slice (some ⟨g, 0, none⟩) (s.size / 4) (s.size / 4), .bool true]) ∧ Row vI w' g 3 (ints (cutW s false)) ∧ w.heap.size ≤ g ∧ Below w.heap.size w w' := by
  have hmk := fun W => run_mkrow (P := Tryd.prog) 39 3 (.int .i64 0) 8 Tryd.underlying39 int_info3 rfl (s.size / 4) (by omega) (by omega) W
  obtain ⟨m, hme⟩ : ∃ m, s.size / 4 = m := ⟨_, rfl⟩
  rw [hme] at hmk ⊢
  have h0 : (s.size : Int) % 4 = 0 := by omega
  have h1 : (s.size : Int) / 4 = (m : Int) := by omega
  have HME := Lib.hid hme
  have H0 := Lib.hid hs
  clear hs hme
  go_enter Tryd.func102, Tryd.ntmps102
  go_wp2
  clear hmk h0 h1
  have hR0 : Row vI (w.alloc (.cells (List.replicate m (Value.int .i64 0)).toArray 3)) w.heap.size 3 (ints (cutTo s false 0)) := by
    have := Row.new (f := vI) w 3 m 0
    simpa [vI, ints, cutTo, HME.out] using this
  go_loopw [21] (fun iv wr => ∃ i : Nat, i ≤ s.size ∧ iv = .int .i64 i ∧ Below w.heap.size w wr ∧ Hid (Row vI wr w.heap.size 3 (ints (cutTo s false i)))) (fun iv _ => s.size - (intOf iv).toNat)
  case atStart => exact ⟨0, Nat.zero_le _, rfl, by go_grown, hR0⟩
  case round =>
    obtain ⟨i, hi, rfl, hB, HR⟩ := hrel
    clear hR0
    by_cases hlt : i < s.size
    · obtain ⟨j, hje⟩ : ∃ j, i / 4 = j := ⟨_, rfl⟩
      have hj : j < m := by have := H0.out; have := HME.out; omega
      have hlen : j < (cutTo s false i).length := by rw [cutTo_len, HME.out]; exact hj
      have hget : (cutTo s false i)[j]? = some ((cutTo s false i)[j]'hlen) := List.getElem?_eq_getElem hlen
      have hold := cutTo_words s false i _ (List.mem_of_getElem? hget)
      have hgd : (cutTo s false i).getD j 0 = (cutTo s false i)[j]'hlen := by rw [List.getD_eq_getElem?_getD, hget]; rfl
      have c0 := HR.out.get (ints_get hget)
      have cf := HR.out.free j
      simp only [vI] at c0
      generalize (cutTo s false i)[j]'hlen = old at hold hgd c0
      have hbg := byteAt_get s i hlt
      have hbl := byteAt_lt s i
      have hbs : s[i].toNat < 256 := by rw [hbg]; exact hbl
      clear hget hlen
      obtain ⟨r, hre⟩ : ∃ r, i % 4 = r := ⟨_, rfl⟩
      obtain ⟨sh, hshe⟩ : ∃ sh, belowW false r = sh := ⟨_, rfl⟩
      have hr4 : r ≤ 3 := by omega
      have hsh : sh ≤ 24 := by rw [← hshe]; unfold belowW; split <;> omega
      have hq : (i : Int) / 4 = (j : Int) := by omega
      have hm : (i : Int) % 4 = (r : Int) := by omega
      have hp : 2 ^ sh ≤ 2 ^ 24 := Nat.pow_le_pow_right (by decide) hsh
      have hbp : byteAt s i * 2 ^ sh ≤ 255 * 2 ^ 24 := Nat.mul_le_mul (by omega) hp
      have hb0 := i64_or_nat old (byteAt s i * 2 ^ sh) (by omega) (by omega)
      have hcast : ((byteAt s i * 2 ^ sh : Nat) : Int) = (s[i].toNat : Int) * 2 ^ sh := by rw [← hbg]; simp
      rw [hcast] at hb0
      have hw0 : IntKind.i64.wrap ((s[i].toNat : Int) * 2 ^ sh) = (s[i].toNat : Int) * 2 ^ sh := by
        rw [← hcast]; exact IntWalk.i64_in _ (by omega)
      have HS0 : cutTo s false (i + 1) = (cutTo s false i).set j (old ||| byteAt s i * 2 ^ sh) := by
        rw [cutTo, hje, hgd, hre, hshe]
      obtain ⟨new, hnew⟩ : ∃ x, old ||| byteAt s i * 2 ^ sh = x := ⟨_, rfl⟩
      rw [hnew] at hb0 HS0
      have HS := Lib.hid HS0
      have hv : bits .or .i64 (old : Int) (wrap64 (wrap64 (s[i].toNat : Int) * 2 ^ sh)) = (new : Int) := by
        rw [IntWalk.wrap64_in (s[i].toNat : Int) ⟨by omega, by omega⟩, IntWalk.wrap64_in _ ⟨by rw [← hcast]; omega, by rw [← hcast]; omega⟩]
        exact hb0
      have HV := Lib.hid hv
      have HP := Lib.hid (places2_nat r sh hr4 hshe)
      have q1 : (i : Int).tdiv 4 = (j : Int) := by rw [Int.tdiv_eq_ediv_of_nonneg (by omega)]; exact hq
      have q2 : IntKind.i64.wrap (j : Int) = (j : Int) := IntWalk.i64_in _ (by omega)
      have q3 : (i : Int).tmod 4 = (r : Int) := by rw [Int.tmod_eq_emod_of_nonneg (by omega)]; exact hm
      have i0 : (0 : Int) ≤ (j : Int) := by omega
      have i1 : (j : Int) < (m : Int) := by omega
      have i2 : (0 : Int) ≤ (i : Int) := by omega
      have i3 : (i : Int) < (s.size : Int) := by omega
      clear hb0 hw0 hv hbp hp hcast HS0 hnew hre hshe hgd hbg hbl hje hbs hold
      go_wp2_with fail
      go_region_with ((go_at_call 147; refine (HP.out _).mono ?_; rintro e w' ⟨rfl, rfl⟩))
      all_goals
        go_wp2_with fail
        go_roundw
        case rel =>
          (repeat apply Exists.intro)
          refine ⟨⟨i + 1, by omega, by go_num, by have := hB; go_grown, ?_⟩, rfl⟩
          have := HR.out.set_ j (new : Int)
          rw [← ints_set] at this
          rw [HS.out]
          refine Lib.hid ?_
          rw [HV.out]
          exact this
        case measure => simp [intOf]; omega
    · obtain rfl : i = s.size := by omega
      go_wp2
      go_ret2
      exact ⟨w.heap.size, rfl, HR.out, Nat.le_refl _, hB⟩
end Go.Proofs.YtbgohcedakpnbaaDoor
/- word: Join. -/
namespace Go.Proofs.YtbgohcedakpnbaaDoor
open Go.RowKit
def joinByte (L : List Nat) (h : Bool) (i : Nat) : Nat := L.getD (i / 4) 0 / 2 ^ belowW h (i % 4) % 256
/-- the bytes behind i rounds -/
def bytesTo (L : List Nat) (h : Bool) (i : Nat) : List UInt8 := (List.range (4 * L.length)).map fun t => if t < i then UInt8.ofNat (joinByte L h t) else 0
def joinW (L : List Nat) (h : Bool) : ByteArray := ⟨((List.range (4 * L.length)).map fun t => UInt8.ofNat (joinByte L h t)).toArray⟩
theorem bytesTo_len (L : List Nat) (h : Bool) (i : Nat) : (bytesTo L h i).length = 4 * L.length := by simp [bytesTo]
theorem bytesTo_zero (L : List Nat) (h : Bool) : bytesTo L h 0 = List.replicate (4 * L.length) 0 := by
  unfold bytesTo
  apply List.ext_getElem
  · simp
  · intro n h1 h2; simp
theorem bytesTo_all (L : List Nat) (h : Bool) : bytesTo L h (4 * L.length) = (joinW L h).data.toList := by
  unfold bytesTo joinW
  show _ = (List.map _ _)
  apply List.map_congr_left
  intro t ht
  rw [if_pos (List.mem_range.1 ht)]
theorem bytesTo_succ (L : List Nat) (h : Bool) (i : Nat) : bytesTo L h (i + 1) = (bytesTo L h i).set i (UInt8.ofNat (joinByte L h i)) := by
  unfold bytesTo
  apply List.ext_getElem
  · simp
  · intro n h1 h2
    rw [List.getElem_set]
    simp only [List.getElem_map, List.getElem_range]
    by_cases e : i = n
    · subst e; simp
    · rw [if_neg e]
      by_cases hl : n < i
      · rw [if_pos hl, if_pos (by omega)]
      · rw [if_neg hl, if_neg (by omega)]
theorem joinW_size (L : List Nat) (h : Bool) : (joinW L h).size = 4 * L.length := by
  show (joinW L h).data.size = _
  unfold joinW
  simp
theorem joinByte_lt (L : List Nat) (h : Bool) (i : Nat) : joinByte L h i < 256 := Nat.mod_lt _ (by decide)

set_option maxHeartbeats 1000000 in
theorem join_high (L : List Nat) (A : Option Addr) (n c : Nat) (w : World) (hL : SlR encI 1 w w.heap.size A n (ints L)) (hn : n ≤ 1000000) (hw : words L) (hpos : 0 < n) :
    Calls Tryd.prog 101 #[.slice A n c, .bool true] w fun e w' => e = .returned (.tuple #[.string (joinW L true), .bool true]) ∧ Below w.heap.size w w' := by
  have HI := Lib.hid (words_is hw)
  have HL := Lib.hid hL
  have HW := Lib.hid hw
  obtain ⟨hl, hA⟩ := hL
  have hl2 : L.length = n := by simpa [ints] using hl
  obtain ⟨b, off, rfl, hb, hC⟩ := hA.resolve_left (by omega)
  have HN := Lib.hid hl2
  have HC := Lib.hid hC
  obtain ⟨m, hme⟩ : ∃ m, 4 * n = m := ⟨_, rfl⟩
  have hmk := fun W => run_mkrow (P := Tryd.prog) 54 5 (.int .u8 0) 1 Tryd.underlying54 byte_info rfl m (by omega) (by omega) W
  have h1 : 4 * (n : Int) = (m : Int) := by omega
  have HM := Lib.hid hme
  generalize hjo : joinW L true = out
  have HJO := Lib.hid hjo
  clear hjo
  clear hw hl hl2 hC hA hme
  go_enter Tryd.func101, Tryd.ntmps101
  go_wp2_with fail
  refine (is_any (ints L) _ n c w HL.out (by omega)).mono ?_
  rintro e w1 ⟨rfl, rfl⟩
  rw [HI.out]
  go_wp2
  clear hmk h1
  have hR0 : Row vB (w.alloc (.cells (List.replicate m (Value.int .u8 0)).toArray 5)) w.heap.size 5 (bytesTo L true 0) := by
    have := Row.new (f := vB) w 5 m 0
    rw [bytesTo_zero, HN.out, HM.out]
    simpa [vB] using this
  go_loopw [20] (fun iv wr => ∃ i : Nat, i ≤ m ∧ iv = .int .i64 i ∧ Below w.heap.size w wr ∧ Hid (Row vB wr w.heap.size 5 (bytesTo L true i))) (fun iv _ => m - (intOf iv).toNat)
  case atStart => exact ⟨0, Nat.zero_le _, rfl, by go_grown, hR0⟩
  case round =>
    obtain ⟨i, hi, rfl, hB, HR⟩ := hrel
    clear hR0
    by_cases hlt : i < m
    · obtain ⟨j, hje⟩ : ∃ j, i / 4 = j := ⟨_, rfl⟩
      have hj : j < n := by have := HM.out; omega
      obtain ⟨x, hx⟩ : ∃ x, L[j]? = some x := ⟨L[j]'(by rw [HN.out]; exact hj), List.getElem?_eq_getElem _⟩
      have hxw := HW.out x (List.mem_of_getElem? hx)
      have x0 := (HC.out.below hB hb).int (ints_get hx)
      have c0 := HR.out.get (k := i) (List.getElem?_eq_getElem (by rw [bytesTo_len, HN.out]; have := HM.out; omega))
      simp only [vB] at c0
      generalize (bytesTo L true i)[i]'_ = old at c0
      have cf := HR.out.free i
      obtain ⟨r, hre⟩ : ∃ r, i % 4 = r := ⟨_, rfl⟩
      obtain ⟨sh, hshe⟩ : ∃ sh, belowW true r = sh := ⟨_, rfl⟩
      have hr4 : r ≤ 3 := by omega
      have hsh : sh ≤ 24 := by rw [← hshe]; unfold belowW; split <;> omega
      have hq : (i : Int) / 4 = (j : Int) := by omega
      have hm : (i : Int) % 4 = (r : Int) := by omega
      have hjb : joinByte L true i = x / 2 ^ sh % 256 := by
        unfold joinByte
        rw [hje, hre, hshe]
        simp [List.getD, hx]
      have HP := Lib.hid (places1_nat r sh hr4 hshe)
      have HS := Lib.hid (bytesTo_succ L true i)
      have HV := Lib.hid (show Value.int .u8 ((x : Int) / 2 ^ sh % 256) = vB (UInt8.ofNat (joinByte L true i)) by
        unfold vB
        rw [hjb]
        have : (UInt8.ofNat (x / 2 ^ sh % 256)).toNat = x / 2 ^ sh % 256 := by simp
        rw [this]
        simp)
      have q1 : (i : Int).tdiv 4 = (j : Int) := by rw [Int.tdiv_eq_ediv_of_nonneg (by omega)]; exact hq
      have q2 : IntKind.i64.wrap (j : Int) = (j : Int) := IntWalk.i64_in _ (by omega)
      have q3 : (i : Int).tmod 4 = (r : Int) := by rw [Int.tmod_eq_emod_of_nonneg (by omega)]; exact hm
      have i0 : (0 : Int) ≤ (j : Int) := by omega
      have i1 : (j : Int) < (n : Int) := by omega
      have i2 : (0 : Int) ≤ (i : Int) := by omega
      have i3 : (i : Int) < (m : Int) := by omega
      clear hre hshe hje hx hjb
      go_wp2_with fail
      go_region_with ((go_at_call 146; refine (HP.out _).mono ?_; rintro e w' ⟨rfl, rfl⟩))
      all_goals
        go_wp2_with fail
        go_roundw
        case rel =>
          (repeat apply Exists.intro)
          refine ⟨⟨i + 1, by omega, by go_num, by have := hB; go_grown, ?_⟩, rfl⟩
          have := HR.out.set_ i (UInt8.ofNat (joinByte L true i))
          rw [HS.out]
          refine Lib.hid ?_
          rw [HV.out]
          exact this
        case measure => simp [intOf]; omega
    · obtain rfl : i = m := by omega
      have hcv := run_convert_bytes_back wr 54 9 5 ⟨w.heap.size, 0, none⟩ i (joinW L true).data.toList Tryd.underlying54 Tryd.underlying5 Tryd.underlying9 (fun j hj => by
        have h2 := HR.out
        rw [← HM.out, ← HN.out, bytesTo_all] at h2
        have := h2.get (k := j) (List.getElem?_eq_getElem hj)
        rw [Addr.add_lit, Nat.zero_add, this]; rfl)
      have hsz : (joinW L true).data.toList.length = i := by rw [← HM.out, ← HN.out]; have := joinW_size L true; simpa using this
      rw [hsz] at hcv
      simp only [Array.toArray_toList] at hcv
      rw [HJO.out] at hcv
      clear hsz
      go_wp2
      go_ret2
      exact ⟨rfl, hB⟩
set_option maxHeartbeats 1000000 in
theorem join_low (L : List Nat) (A : Option Addr) (n c : Nat) (w : World) (hL : SlR encI 1 w w.heap.size A n (ints L)) (hn : n ≤ 1000000) (hw : words L) (hpos : 0 < n) :
    Calls Tryd.prog 101 #[.slice A n c, .bool false] w fun e w' => e = .returned (.tuple #[.string (joinW L false), .bool true]) ∧ Below w.heap.size w w' := by
  have HI := Lib.hid (words_is hw)
  have HL := Lib.hid hL
  have HW := Lib.hid hw
  obtain ⟨hl, hA⟩ := hL
  have hl2 : L.length = n := by simpa [ints] using hl
  obtain ⟨b, off, rfl, hb, hC⟩ := hA.resolve_left (by omega)
  have HN := Lib.hid hl2
  have HC := Lib.hid hC
  obtain ⟨m, hme⟩ : ∃ m, 4 * n = m := ⟨_, rfl⟩
  have hmk := fun W => run_mkrow (P := Tryd.prog) 54 5 (.int .u8 0) 1 Tryd.underlying54 byte_info rfl m (by omega) (by omega) W
  have h1 : 4 * (n : Int) = (m : Int) := by omega
  have HM := Lib.hid hme
  generalize hjo : joinW L false = out
  have HJO := Lib.hid hjo
  clear hjo
  clear hw hl hl2 hC hA hme
  go_enter Tryd.func101, Tryd.ntmps101
  go_wp2_with fail
  refine (is_any (ints L) _ n c w HL.out (by omega)).mono ?_
  rintro e w1 ⟨rfl, rfl⟩
  rw [HI.out]
  go_wp2
  clear hmk h1
  have hR0 : Row vB (w.alloc (.cells (List.replicate m (Value.int .u8 0)).toArray 5)) w.heap.size 5 (bytesTo L false 0) := by
    have := Row.new (f := vB) w 5 m 0
    rw [bytesTo_zero, HN.out, HM.out]
    simpa [vB] using this
  go_loopw [20] (fun iv wr => ∃ i : Nat, i ≤ m ∧ iv = .int .i64 i ∧ Below w.heap.size w wr ∧ Hid (Row vB wr w.heap.size 5 (bytesTo L false i))) (fun iv _ => m - (intOf iv).toNat)
  case atStart => exact ⟨0, Nat.zero_le _, rfl, by go_grown, hR0⟩
  case round =>
    obtain ⟨i, hi, rfl, hB, HR⟩ := hrel
    clear hR0
    by_cases hlt : i < m
    · obtain ⟨j, hje⟩ : ∃ j, i / 4 = j := ⟨_, rfl⟩
      have hj : j < n := by have := HM.out; omega
      obtain ⟨x, hx⟩ : ∃ x, L[j]? = some x := ⟨L[j]'(by rw [HN.out]; exact hj), List.getElem?_eq_getElem _⟩
      have hxw := HW.out x (List.mem_of_getElem? hx)
      have x0 := (HC.out.below hB hb).int (ints_get hx)
      have c0 := HR.out.get (k := i) (List.getElem?_eq_getElem (by rw [bytesTo_len, HN.out]; have := HM.out; omega))
      simp only [vB] at c0
      generalize (bytesTo L false i)[i]'_ = old at c0
      have cf := HR.out.free i
      obtain ⟨r, hre⟩ : ∃ r, i % 4 = r := ⟨_, rfl⟩
      obtain ⟨sh, hshe⟩ : ∃ sh, belowW false r = sh := ⟨_, rfl⟩
      have hr4 : r ≤ 3 := by omega
      have hsh : sh ≤ 24 := by rw [← hshe]; unfold belowW; split <;> omega
      have hq : (i : Int) / 4 = (j : Int) := by omega
      have hm : (i : Int) % 4 = (r : Int) := by omega
      have hjb : joinByte L false i = x / 2 ^ sh % 256 := by
        unfold joinByte
        rw [hje, hre, hshe]
        simp [List.getD, hx]
      have HP := Lib.hid (places2_nat r sh hr4 hshe)
      have HS := Lib.hid (bytesTo_succ L false i)
      have HV := Lib.hid (show Value.int .u8 ((x : Int) / 2 ^ sh % 256) = vB (UInt8.ofNat (joinByte L false i)) by
        unfold vB
        rw [hjb]
        have : (UInt8.ofNat (x / 2 ^ sh % 256)).toNat = x / 2 ^ sh % 256 := by simp
        rw [this]
        simp)
      have q1 : (i : Int).tdiv 4 = (j : Int) := by rw [Int.tdiv_eq_ediv_of_nonneg (by omega)]; exact hq
      have q2 : IntKind.i64.wrap (j : Int) = (j : Int) := IntWalk.i64_in _ (by omega)
      have q3 : (i : Int).tmod 4 = (r : Int) := by rw [Int.tmod_eq_emod_of_nonneg (by omega)]; exact hm
      have i0 : (0 : Int) ≤ (j : Int) := by omega
      have i1 : (j : Int) < (n : Int) := by omega
      have i2 : (0 : Int) ≤ (i : Int) := by omega
      have i3 : (i : Int) < (m : Int) := by omega
      clear hre hshe hje hx hjb
      go_wp2_with fail
      go_region_with ((go_at_call 147; refine (HP.out _).mono ?_; rintro e w' ⟨rfl, rfl⟩))
      all_goals
        go_wp2_with fail
        go_roundw
        case rel =>
          (repeat apply Exists.intro)
          refine ⟨⟨i + 1, by omega, by go_num, by have := hB; go_grown, ?_⟩, rfl⟩
          have := HR.out.set_ i (UInt8.ofNat (joinByte L false i))
          rw [HS.out]
          refine Lib.hid ?_
          rw [HV.out]
          exact this
        case measure => simp [intOf]; omega
    · obtain rfl : i = m := by omega
      have hcv := run_convert_bytes_back wr 54 9 5 ⟨w.heap.size, 0, none⟩ i (joinW L false).data.toList Tryd.underlying54 Tryd.underlying5 Tryd.underlying9 (fun j hj => by
        have h2 := HR.out
        rw [← HM.out, ← HN.out, bytesTo_all] at h2
        have := h2.get (k := j) (List.getElem?_eq_getElem hj)
        rw [Addr.add_lit, Nat.zero_add, this]; rfl)
      have hsz : (joinW L false).data.toList.length = i := by rw [← HM.out, ← HN.out]; have := joinW_size L false; simpa using this
      rw [hsz] at hcv
      simp only [Array.toArray_toList] at hcv
      rw [HJO.out] at hcv
      clear hsz
      go_wp2
      go_ret2
      exact ⟨rfl, hB⟩
end Go.Proofs.YtbgohcedakpnbaaDoor
