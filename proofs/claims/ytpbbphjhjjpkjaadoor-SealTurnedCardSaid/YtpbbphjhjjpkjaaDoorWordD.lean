/- word: Join. -/
import Derived.Test.YtpbbphjhjjpkjaaDoorWordC
import Derived.Laws.IdiomStrings
set_option linter.unusedVariables false
namespace Go.Proofs.YtpbbphjhjjpkjaaDoor
open Go.RowKit
def joinByte (L : List Nat) (h : Bool) (i : Nat) : Nat := L.getD (i / 4) 0 / 2 ^ belowW h (i % 4) % 256
/-- the bytes behind i rounds -/
def bytesTo (L : List Nat) (h : Bool) (i : Nat) : List UInt8 := (List.range (4 * L.length)).map fun t => if t < i then UInt8.ofNat (joinByte L h t) else 0
def joinW (L : List Nat) (h : Bool) : ByteArray := ⟨((List.range (4 * L.length)).map fun t => UInt8.ofNat (joinByte L h t)).toArray⟩
theorem bytesTo_len (L : List Nat) (h : Bool) (i : Nat) : (bytesTo L h i).length = 4 * L.length := by simp [bytesTo]
theorem bytesTo_zero (L : List Nat) (h : Bool) : bytesTo L h 0 = List.replicate (4 * L.length) 0 := by
  unfold bytesTo
  apply List.ext_getElem
  · simp
  · intro n h1 h2; simp
theorem bytesTo_all (L : List Nat) (h : Bool) : bytesTo L h (4 * L.length) = (joinW L h).data.toList := by
  unfold bytesTo joinW
  show _ = (List.map _ _)
  apply List.map_congr_left
  intro t ht
  rw [if_pos (List.mem_range.1 ht)]
theorem bytesTo_succ (L : List Nat) (h : Bool) (i : Nat) : bytesTo L h (i + 1) = (bytesTo L h i).set i (UInt8.ofNat (joinByte L h i)) := by
  unfold bytesTo
  apply List.ext_getElem
  · simp
  · intro n h1 h2
    rw [List.getElem_set]
    simp only [List.getElem_map, List.getElem_range]
    by_cases e : i = n
    · subst e; simp
    · rw [if_neg e]
      by_cases hl : n < i
      · rw [if_pos hl, if_pos (by omega)]
      · rw [if_neg hl, if_neg (by omega)]
theorem joinW_size (L : List Nat) (h : Bool) : (joinW L h).size = 4 * L.length := by
  show (joinW L h).data.size = _
  unfold joinW
  simp
theorem joinByte_lt (L : List Nat) (h : Bool) (i : Nat) : joinByte L h i < 256 := Nat.mod_lt _ (by decide)

set_option maxHeartbeats 1000000 in
theorem join_high (L : List Nat) (A : Option Addr) (n c : Nat) (w : World) (hL : SlR encI 1 w w.heap.size A n (ints L)) (hn : n ≤ 1000000) (hw : words L) (hpos : 0 < n) :
    Calls Tryd.prog 27 #[.slice A n c, .bool true] w fun e w' => e = .returned (.tuple #[.string (joinW L true), .bool true]) ∧ Below w.heap.size w w' := by
  have HI := Lib.hid (words_is hw)
  have HL := Lib.hid hL
  have HW := Lib.hid hw
  obtain ⟨hl, hA⟩ := hL
  have hl2 : L.length = n := by simpa [ints] using hl
  obtain ⟨b, off, rfl, hb, hC⟩ := hA.resolve_left (by omega)
  have HN := Lib.hid hl2
  have HC := Lib.hid hC
  obtain ⟨m, hme⟩ : ∃ m, 4 * n = m := ⟨_, rfl⟩
  have hmk := fun W => run_mkrow (P := Tryd.prog) 27 5 (.int .u8 0) 1 Tryd.underlying27 byte_info rfl m (by omega) (by omega) W
  have h1 : 4 * (n : Int) = (m : Int) := by omega
  have HM := Lib.hid hme
  generalize hjo : joinW L true = out
  have HJO := Lib.hid hjo
  clear hjo
  clear hw hl hl2 hC hA hme
  go_enter Tryd.func27, Tryd.ntmps27
  go_wp2_with fail
  refine (is_any (ints L) _ n c w HL.out (by omega)).mono ?_
  rintro e w1 ⟨rfl, rfl⟩
  rw [HI.out]
  go_wp2
  clear hmk h1
  have hR0 : Row vB (w.alloc (.cells (List.replicate m (Value.int .u8 0)).toArray 5)) w.heap.size 5 (bytesTo L true 0) := by
    have := Row.new (f := vB) w 5 m 0
    rw [bytesTo_zero, HN.out, HM.out]
    simpa [vB] using this
  go_loopw [20] (fun iv wr => ∃ i : Nat, i ≤ m ∧ iv = .int .i64 i ∧ Below w.heap.size w wr ∧ Hid (Row vB wr w.heap.size 5 (bytesTo L true i))) (fun iv _ => m - (intOf iv).toNat)
  case atStart => exact ⟨0, Nat.zero_le _, rfl, by go_grown, hR0⟩
  case round =>
    obtain ⟨i, hi, rfl, hB, HR⟩ := hrel
    clear hR0
    by_cases hlt : i < m
    · obtain ⟨j, hje⟩ : ∃ j, i / 4 = j := ⟨_, rfl⟩
      have hj : j < n := by have := HM.out; omega
      obtain ⟨x, hx⟩ : ∃ x, L[j]? = some x := ⟨L[j]'(by rw [HN.out]; exact hj), List.getElem?_eq_getElem _⟩
      have hxw := HW.out x (List.mem_of_getElem? hx)
      have x0 := (HC.out.below hB hb).int (ints_get hx)
      have c0 := HR.out.get (k := i) (List.getElem?_eq_getElem (by rw [bytesTo_len, HN.out]; have := HM.out; omega))
      simp only [vB] at c0
      generalize (bytesTo L true i)[i]'_ = old at c0
      have cf := HR.out.free i
      obtain ⟨r, hre⟩ : ∃ r, i % 4 = r := ⟨_, rfl⟩
      obtain ⟨sh, hshe⟩ : ∃ sh, belowW true r = sh := ⟨_, rfl⟩
      have hr4 : r ≤ 3 := by omega
      have hsh : sh ≤ 24 := by rw [← hshe]; unfold belowW; split <;> omega
      have hq : (i : Int) / 4 = (j : Int) := by omega
      have hm : (i : Int) % 4 = (r : Int) := by omega
      have hjb : joinByte L true i = x / 2 ^ sh % 256 := by
        unfold joinByte
        rw [hje, hre, hshe]
        simp [List.getD, hx]
      have HP := Lib.hid (places1_nat r sh hr4 hshe)
      have HS := Lib.hid (bytesTo_succ L true i)
      have HV := Lib.hid (show Value.int .u8 ((x : Int) / 2 ^ sh % 256) = vB (UInt8.ofNat (joinByte L true i)) by
        unfold vB
        rw [hjb]
        have : (UInt8.ofNat (x / 2 ^ sh % 256)).toNat = x / 2 ^ sh % 256 := by simp
        rw [this]
        simp)
      have q1 : (i : Int).tdiv 4 = (j : Int) := by rw [Int.tdiv_eq_ediv_of_nonneg (by omega)]; exact hq
      have q2 : IntKind.i64.wrap (j : Int) = (j : Int) := IntWalk.i64_in _ (by omega)
      have q3 : (i : Int).tmod 4 = (r : Int) := by rw [Int.tmod_eq_emod_of_nonneg (by omega)]; exact hm
      have i0 : (0 : Int) ≤ (j : Int) := by omega
      have i1 : (j : Int) < (n : Int) := by omega
      have i2 : (0 : Int) ≤ (i : Int) := by omega
      have i3 : (i : Int) < (m : Int) := by omega
      clear hre hshe hje hx hjb
      go_wp2_with fail
      go_region_with ((go_at_call 42; refine (HP.out _).mono ?_; rintro e w' ⟨rfl, rfl⟩))
      all_goals
        go_wp2_with fail
        go_roundw
        case rel =>
          (repeat apply Exists.intro)
          refine ⟨⟨i + 1, by omega, by go_num, by have := hB; go_grown, ?_⟩, rfl⟩
          have := HR.out.set_ i (UInt8.ofNat (joinByte L true i))
          rw [HS.out]
          refine Lib.hid ?_
          rw [HV.out]
          exact this
        case measure => simp [intOf]; omega
    · obtain rfl : i = m := by omega
      have hcv := run_convert_bytes_back wr 27 9 5 ⟨w.heap.size, 0, none⟩ i (joinW L true).data.toList Tryd.underlying27 Tryd.underlying5 Tryd.underlying9 (fun j hj => by
        have h2 := HR.out
        rw [← HM.out, ← HN.out, bytesTo_all] at h2
        have := h2.get (k := j) (List.getElem?_eq_getElem hj)
        rw [Addr.add_lit, Nat.zero_add, this]; rfl)
      have hsz : (joinW L true).data.toList.length = i := by rw [← HM.out, ← HN.out]; have := joinW_size L true; simpa using this
      rw [hsz] at hcv
      simp only [Array.toArray_toList] at hcv
      rw [HJO.out] at hcv
      clear hsz
      go_wp2
      go_ret2
      exact ⟨rfl, hB⟩
set_option maxHeartbeats 1000000 in
theorem join_low (L : List Nat) (A : Option Addr) (n c : Nat) (w : World) (hL : SlR encI 1 w w.heap.size A n (ints L)) (hn : n ≤ 1000000) (hw : words L) (hpos : 0 < n) :
    Calls Tryd.prog 27 #[.slice A n c, .bool false] w fun e w' => e = .returned (.tuple #[.string (joinW L false), .bool true]) ∧ Below w.heap.size w w' := by
  have HI := Lib.hid (words_is hw)
  have HL := Lib.hid hL
  have HW := Lib.hid hw
  obtain ⟨hl, hA⟩ := hL
  have hl2 : L.length = n := by simpa [ints] using hl
  obtain ⟨b, off, rfl, hb, hC⟩ := hA.resolve_left (by omega)
  have HN := Lib.hid hl2
  have HC := Lib.hid hC
  obtain ⟨m, hme⟩ : ∃ m, 4 * n = m := ⟨_, rfl⟩
  have hmk := fun W => run_mkrow (P := Tryd.prog) 27 5 (.int .u8 0) 1 Tryd.underlying27 byte_info rfl m (by omega) (by omega) W
  have h1 : 4 * (n : Int) = (m : Int) := by omega
  have HM := Lib.hid hme
  generalize hjo : joinW L false = out
  have HJO := Lib.hid hjo
  clear hjo
  clear hw hl hl2 hC hA hme
  go_enter Tryd.func27, Tryd.ntmps27
  go_wp2_with fail
  refine (is_any (ints L) _ n c w HL.out (by omega)).mono ?_
  rintro e w1 ⟨rfl, rfl⟩
  rw [HI.out]
  go_wp2
  clear hmk h1
  have hR0 : Row vB (w.alloc (.cells (List.replicate m (Value.int .u8 0)).toArray 5)) w.heap.size 5 (bytesTo L false 0) := by
    have := Row.new (f := vB) w 5 m 0
    rw [bytesTo_zero, HN.out, HM.out]
    simpa [vB] using this
  go_loopw [20] (fun iv wr => ∃ i : Nat, i ≤ m ∧ iv = .int .i64 i ∧ Below w.heap.size w wr ∧ Hid (Row vB wr w.heap.size 5 (bytesTo L false i))) (fun iv _ => m - (intOf iv).toNat)
  case atStart => exact ⟨0, Nat.zero_le _, rfl, by go_grown, hR0⟩
  case round =>
    obtain ⟨i, hi, rfl, hB, HR⟩ := hrel
    clear hR0
    by_cases hlt : i < m
    · obtain ⟨j, hje⟩ : ∃ j, i / 4 = j := ⟨_, rfl⟩
      have hj : j < n := by have := HM.out; omega
      obtain ⟨x, hx⟩ : ∃ x, L[j]? = some x := ⟨L[j]'(by rw [HN.out]; exact hj), List.getElem?_eq_getElem _⟩
      have hxw := HW.out x (List.mem_of_getElem? hx)
      have x0 := (HC.out.below hB hb).int (ints_get hx)
      have c0 := HR.out.get (k := i) (List.getElem?_eq_getElem (by rw [bytesTo_len, HN.out]; have := HM.out; omega))
      simp only [vB] at c0
      generalize (bytesTo L false i)[i]'_ = old at c0
      have cf := HR.out.free i
      obtain ⟨r, hre⟩ : ∃ r, i % 4 = r := ⟨_, rfl⟩
      obtain ⟨sh, hshe⟩ : ∃ sh, belowW false r = sh := ⟨_, rfl⟩
      have hr4 : r ≤ 3 := by omega
      have hsh : sh ≤ 24 := by rw [← hshe]; unfold belowW; split <;> omega
      have hq : (i : Int) / 4 = (j : Int) := by omega
      have hm : (i : Int) % 4 = (r : Int) := by omega
      have hjb : joinByte L false i = x / 2 ^ sh % 256 := by
        unfold joinByte
        rw [hje, hre, hshe]
        simp [List.getD, hx]
      have HP := Lib.hid (places2_nat r sh hr4 hshe)
      have HS := Lib.hid (bytesTo_succ L false i)
      have HV := Lib.hid (show Value.int .u8 ((x : Int) / 2 ^ sh % 256) = vB (UInt8.ofNat (joinByte L false i)) by
        unfold vB
        rw [hjb]
        have : (UInt8.ofNat (x / 2 ^ sh % 256)).toNat = x / 2 ^ sh % 256 := by simp
        rw [this]
        simp)
      have q1 : (i : Int).tdiv 4 = (j : Int) := by rw [Int.tdiv_eq_ediv_of_nonneg (by omega)]; exact hq
      have q2 : IntKind.i64.wrap (j : Int) = (j : Int) := IntWalk.i64_in _ (by omega)
      have q3 : (i : Int).tmod 4 = (r : Int) := by rw [Int.tmod_eq_emod_of_nonneg (by omega)]; exact hm
      have i0 : (0 : Int) ≤ (j : Int) := by omega
      have i1 : (j : Int) < (n : Int) := by omega
      have i2 : (0 : Int) ≤ (i : Int) := by omega
      have i3 : (i : Int) < (m : Int) := by omega
      clear hre hshe hje hx hjb
      go_wp2_with fail
      go_region_with ((go_at_call 43; refine (HP.out _).mono ?_; rintro e w' ⟨rfl, rfl⟩))
      all_goals
        go_wp2_with fail
        go_roundw
        case rel =>
          (repeat apply Exists.intro)
          refine ⟨⟨i + 1, by omega, by go_num, by have := hB; go_grown, ?_⟩, rfl⟩
          have := HR.out.set_ i (UInt8.ofNat (joinByte L false i))
          rw [HS.out]
          refine Lib.hid ?_
          rw [HV.out]
          exact this
        case measure => simp [intOf]; omega
    · obtain rfl : i = m := by omega
      have hcv := run_convert_bytes_back wr 27 9 5 ⟨w.heap.size, 0, none⟩ i (joinW L false).data.toList Tryd.underlying27 Tryd.underlying5 Tryd.underlying9 (fun j hj => by
        have h2 := HR.out
        rw [← HM.out, ← HN.out, bytesTo_all] at h2
        have := h2.get (k := j) (List.getElem?_eq_getElem hj)
        rw [Addr.add_lit, Nat.zero_add, this]; rfl)
      have hsz : (joinW L false).data.toList.length = i := by rw [← HM.out, ← HN.out]; have := joinW_size L false; simpa using this
      rw [hsz] at hcv
      simp only [Array.toArray_toList] at hcv
      rw [HJO.out] at hcv
      clear hsz
      go_wp2
      go_ret2
      exact ⟨rfl, hB⟩
end Go.Proofs.YtpbbphjhjjpkjaaDoor
