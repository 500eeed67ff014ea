/- digest: Pad, Start. -/
import Derived.Test.YtbgohcedakpnbaaDoorBytes
import Derived.Test.YtbgohcedakpnbaaDoorDigB
import Derived.Test.YtbgohcedakpnbaaDoorDigC
import Derived.RangeFuncNested
import Derived.RangeFuncBound
import Derived.RangeFuncCalls
import Derived.RangeFuncLeaves
import Derived.Shelf.Abstract
import Derived.Shelf.RegionOpen
import Derived.OwnWalkIn
import Derived.TacticsInMore
import Derived.LoopNIn
import Derived.LoopIn
set_option linter.unusedVariables false
namespace Go.Proofs.YtbgohcedakpnbaaDoor
open Go.RowKit
def lenV (v : Value) : Nat := match v with | .slice _ n _ => n | _ => 0
def padF (n : Int) : ByteArray × Bool := if 0 ≤ n ∧ n ≤ 1000000000 then (padB n.toNat, true) else (ByteArray.empty, false)
theorem ofNat_mod (x : Nat) : vB (UInt8.ofNat (x % 256)) = .int .u8 ((x % 256 : Nat) : Int) := by
  unfold vB
  have : (UInt8.ofNat (x % 256)).toNat = x % 256 := by simp
  rw [this]
theorem pad_no (n : Int) (w : World) (h : n < 0 ∨ 1000000000 < n) :
    Calls Tryd.prog 123 #[.int .i64 n] w fun e w' => e = .returned (.tuple #[.string ByteArray.empty, .bool false]) ∧ w = w' := by
  rcases h with h | h
  · go_enter Tryd.func123, Tryd.ntmps123
    go_wp2
    go_ret2
    exact ⟨rfl, rfl⟩
  · have h0 : 0 ≤ n := by omega
    go_enter Tryd.func123, Tryd.ntmps123
    go_wp2
    go_ret2
    exact ⟨rfl, rfl⟩
set_option maxHeartbeats 400000 in
set_option maxRecDepth 100000 in
theorem pad_in (n : Nat) (w : World) (h : n ≤ 1000000000) :
    Calls Tryd.prog 123 #[.int .i64 n] w fun e w' => e = .returned (.tuple #[.string (padB n), .bool true]) ∧ Below w.heap.size w w' := by
  obtain ⟨z, hz⟩ : ∃ z, padZ n = z := ⟨_, rfl⟩
  have hz2 : z < 64 := by rw [← hz, padZ]; omega
  have hz3 : (n + z + 9) % 64 = 0 := by rw [← hz, padZ]; omega
  have hz4 : ∀ k, k < z → (n + k + 9) % 64 ≠ 0 := by intro k hk; rw [← hz, padZ] at hk; omega
  have HZ := Lib.hid (And.intro hz (And.intro hz3 hz4))
  clear hz hz3 hz4
  go_enter Tryd.func123, Tryd.ntmps123
  go_wp2_with fail
  have hR0 : BRow (w.alloc (.cells #[.int .u8 128] 5)) w.heap.size (.slice (some ⟨w.heap.size, 0, none⟩) 1 1) (128 :: List.replicate 0 0) := brow_new w (Nat.le_refl _) [128] (Blk.new w _ _) (by decide)
  go_loopw [4] (fun v wr => ∃ (k m : Nat) (A : Option Addr) (c : Nat), v = .slice A m c ∧ Hid (m = k + 1) ∧ k ≤ z ∧ Hid (BRow wr w.heap.size (.slice A m c) (128 :: List.replicate k 0)) ∧ Below w.heap.size w wr) (fun v _ => 100 - lenV v)
  case atStart => exact ⟨0, 1, _, _, rfl, rfl, by omega, hR0, by go_grown⟩
  case round =>
    obtain ⟨k, m, A, c, rfl, HM, hk, HR, hB⟩ := hrel
    have hm1 : m ≤ 64 := by have := HM.out; omega
    clear hR0
    have hsz := hB.size
    by_cases hlt : k < z
    · have t := HZ.out.2.2 k hlt
      have t1 : ((n : Int) + (m : Int) + 8) % 64 ≠ 0 := by have := HM.out; omega
      have t2 : (((n : Int) + (m : Int) + 8) % 64 != 0) = true := by simpa using t1
      clear t t1
      have HE : Hid ((128 :: List.replicate k 0) ++ [0] = (128 :: List.replicate (k + 1) 0 : List UInt8)) := Lib.hid (by rw [List.replicate_succ', List.cons_append])
      have HL : Hid ((128 :: List.replicate k 0 : List UInt8).length = m) := Lib.hid (by have := HM.out; simp; omega)
      go_wp2_with (at_builtin; go_loud (refine wpList_append_byte rfl (.tmp 20) (.tmp 21) rfl rfl (brow_alloc HR.out _) wr.heap.size 0 _ rfl (Blk.new wr _ _) rfl m HL.out (128 :: List.replicate (k + 1) 0) HE.out (by omega) (by simp; omega) ?_); intro A1 c1 w1 HR1 hg1 hb1)
      clear hg1
      go_roundw
      case rel => exact ⟨k + 1, m + 1, A1, c1, rfl, Lib.hid (by rw [HM.out]), by omega, HR1, Below.trans (by go_grown) hb1⟩
      case measure => simp [lenV]; omega
    · obtain rfl : k = z := by omega
      have t := HZ.out.2.1
      have t1 : ((n : Int) + (m : Int) + 8) % 64 = 0 := by have := HM.out; omega
      have t2 : (((n : Int) + (m : Int) + 8) % 64 != 0) = false := by simpa using t1
      have HR0 : Hid (BRow wr w.heap.size (.slice A m c) (padL n 0)) := by
        refine Lib.hid ?_
        unfold padL
        rw [HZ.out.1]
        simpa using HR.out
      clear t t1 HR
      go_wp2_with fail
      clear t2
      obtain ⟨wo, rfl⟩ : ∃ wo : World, wo = wr := ⟨_, rfl⟩
      go_loopw [4, 23] (fun v iv wr => ∃ (i j : Nat) (A : Option Addr) (c : Nat), i ≤ 8 ∧ iv = .int .i64 i ∧ v = .slice A j c ∧ Hid (j = m + i) ∧ Hid (BRow wr w.heap.size (.slice A j c) (padL n i)) ∧ Below w.heap.size w wr) (fun _ iv _ => 8 - (intOf iv).toNat)
      case atStart => exact ⟨0, m, A, c, by omega, rfl, rfl, rfl, HR0, hB⟩
      case round =>
        obtain ⟨i, j, A, c, hi, rfl, rfl, HJ, HR, hB⟩ := hrel
        have hj2 : j ≤ 72 := by have := HJ.out; omega
        have hsz := hB.size
        by_cases hlt : i < 8
        · obtain ⟨sh, hsh⟩ : ∃ sh, 56 - 8 * i = sh := ⟨_, rfl⟩
          have e1 : (56 : Int) - 8 * (i : Int) = (sh : Int) := by omega
          have hs64 : sh ≤ 56 := by omega
          have HV : Hid (Value.int .u8 ((8 * (n : Int)) / 2 ^ sh % 256) = vB (UInt8.ofNat (8 * n / 2 ^ (56 - 8 * i) % 256))) := Lib.hid (by rw [hsh, ofNat_mod]; simp)
          have hlen : (padL n i).length = j := by have := HJ.out; have := HM.out; unfold padL; rw [HZ.out.1]; simp; omega
          have HL := Lib.hid hlen
          have HE : Hid (padL n i ++ [UInt8.ofNat (8 * n / 2 ^ (56 - 8 * i) % 256)] = padL n (i + 1)) := Lib.hid (by unfold padL; rw [List.range_succ]; simp)
          clear hsh hlen
          go_wp2_with (at_builtin; go_loud (refine wpList_append_byte rfl (.tmp 26) (.tmp 34) rfl rfl (brow_alloc HR.out _) wr.heap.size (UInt8.ofNat (8 * n / 2 ^ (56 - 8 * i) % 256)) _ rfl (Blk.new wr _ _) HV.out j HL.out (padL n (i + 1)) HE.out (by omega) (by simp; omega) ?_); intro A1 c1 w1 HR1 hg1 hb1)
          clear hg1
          go_roundw
          case rel => exact ⟨i + 1, j + 1, A1, c1, by omega, by go_num, rfl, Lib.hid (by rw [HJ.out]; rfl), HR1, Below.trans (by go_grown) hb1⟩
          case measure => simp [intOf]; omega
        · obtain rfl : i = 8 := by omega
          have hj8 := HJ.out
          have hm8 := HM.out
          have hlen : (padL n 8).length = j := by unfold padL; rw [HZ.out.1]; simp; omega
          have hcv := run_brow 54 9 5 Tryd.underlying54 Tryd.underlying5 Tryd.underlying9 hlen HR.out
          clear hlen hj8 hm8
          go_wp2
          go_ret2
          exact ⟨rfl, hB⟩
theorem start_any (w : World) : Calls Tryd.prog 124 #[] w fun e w' => e = .returned (.agg ((ints startL).map vI).toArray) ∧ Below w.heap.size w w' := by
  go_enter Tryd.func124, Tryd.ntmps124
  go_wp2
  refine bodyPost_ret (v := .agg ((ints startL).map vI).toArray) (by simp [results, Tryd.results124, go_sem, ints, startL, vI]) rfl ⟨rfl, ?_⟩
  go_grown
end Go.Proofs.YtbgohcedakpnbaaDoor
/- digest.Step: for every state and block. -/
namespace Go.Proofs.YtbgohcedakpnbaaDoor
open Go.RowKit
/-- a state as the program bears it -/
def stV (L : List Int) : Value := .agg (L.map vI).toArray
theorem list8 {α : Type} {L : List α} (h : L.length = 8) : ∃ a b c d e f g i, L = [a, b, c, d, e, f, g, i] := by
  match L, h with
  | [a, b, c, d, e, f, g, i], _ => exact ⟨a, b, c, d, e, f, g, i, rfl⟩
theorem step_good (L : List Nat) (s : ByteArray) (w : World) (hs : s.size = 64) (hG : Rounds w) (hL : State L) :
    Calls Tryd.prog 126 #[stV (ints L), .string s] w fun r w' => r = .returned (.tuple #[stV (ints (stepL L s)), .bool true]) ∧ Below w.heap.size w w' := by
  obtain ⟨hl, hw⟩ := hL
  obtain ⟨a, b, c, d, e, f, g, i, rfl⟩ := list8 hl
  exact step_in a b c d e f g i s w hs hG hw
def zero8 : List Int := [0, 0, 0, 0, 0, 0, 0, 0]
theorem slrI {L : List Int} {ty : TypeId} {W : World} {g B : Nat} (hW : Blk W g ty (L.map vI).toArray) (hB : g < B) : SlR encI 1 W B (some ⟨g, 0, none⟩) L.length L := by
  refine SlR.ofC rfl hB ?_
  intro k x hx j v hv
  have hj : j = 0 := by
    have := (List.getElem?_eq_some_iff.1 hv).1
    simp [encI] at this; omega
  subst hj
  simp [encI] at hv
  subst hv
  have := hW.cell k
  rw [Nat.mul_one, Nat.zero_add, Nat.add_zero, this]
  simp [hx, vI]
set_option maxHeartbeats 400000 in
set_option maxRecDepth 100000 in
theorem step_bad (L : List Int) (s : ByteArray) (w : World) (hl : L.length = 8) (hb : L.all isB = false ∨ s.size ≠ 64) :
    Calls Tryd.prog 126 #[stV L, .string s] w fun r w' => r = .returned (.tuple #[stV zero8, .bool false]) ∧ Below w.heap.size w w' := by
  obtain ⟨a, b, c, d, e, f, g, i, rfl⟩ := list8 hl
  obtain ⟨t, ht⟩ : ∃ t, [a, b, c, d, e, f, g, i].all isB = t := ⟨_, rfl⟩
  have HT := Lib.hid ht
  rw [ht] at hb
  clear ht hl
  unfold stV zero8
  simp only [List.map_cons, List.map_nil, vI]
  cases t
  · clear hb
    go_enter Tryd.func126, Tryd.ntmps126
    go_wp2_with fail
    refine (is_any [a, b, c, d, e, f, g, i] _ 8 8 _ (slrI ((Blk.new w _ _).alloc _) (by simp; omega)) (by omega)).mono ?_
    rintro r w1 ⟨rfl, rfl⟩
    rw [HT.out]
    go_wp2
    refine bodyPost_ret (v := .tuple #[.agg #[.int .i64 0, .int .i64 0, .int .i64 0, .int .i64 0, .int .i64 0, .int .i64 0, .int .i64 0, .int .i64 0], .bool false]) (by simp [results, Tryd.results126, go_sem]) rfl ⟨rfl, by go_grown⟩
  · have hne : s.size ≠ 64 := by simpa using hb
    have t1 : ((s.size : Int) != 64) = true := by simp; omega
    clear hb hne
    go_enter Tryd.func126, Tryd.ntmps126
    go_wp2_with fail
    refine (is_any [a, b, c, d, e, f, g, i] _ 8 8 _ (slrI ((Blk.new w _ _).alloc _) (by simp; omega)) (by omega)).mono ?_
    rintro r w1 ⟨rfl, rfl⟩
    rw [HT.out]
    go_wp2
    refine bodyPost_ret (v := .tuple #[.agg #[.int .i64 0, .int .i64 0, .int .i64 0, .int .i64 0, .int .i64 0, .int .i64 0, .int .i64 0, .int .i64 0], .bool false]) (by simp [results, Tryd.results126, go_sem]) rfl ⟨rfl, by go_grown⟩
/-- the state behind a block of whatever size -/
def stepT (L : List Nat) (s : ByteArray) : List Nat := if s.size = 64 then stepL L s else [0, 0, 0, 0, 0, 0, 0, 0]
theorem stepT_state (L : List Nat) (s : ByteArray) : State (stepT L s) := by
  unfold stepT
  split
  · exact stepL_state _ _
  · exact ⟨rfl, by unfold words; decide⟩
theorem step_tot (L : List Nat) (s : ByteArray) (w : World) (hG : Rounds w) (hL : State L) :
    Calls Tryd.prog 126 #[stV (ints L), .string s] w fun r w' => r = .returned (.tuple #[stV (ints (stepT L s)), .bool (decide (s.size = 64))]) ∧ Below w.heap.size w w' := by
  by_cases h : s.size = 64
  · have := step_good L s w h hG hL
    simpa only [stepT, h, if_true, decide_true] using this
  · have := step_bad (ints L) s w (by simpa [ints] using hL.1) (.inr h)
    simp only [stepT, h, if_false, decide_false]
    exact this
end Go.Proofs.YtbgohcedakpnbaaDoor
/- digest.blocks: the parts of a text and of what stands behind it, for whatever loop body. -/
namespace Go.Proofs.YtbgohcedakpnbaaDoor
open Go.RowKit Go.Shelf
attribute [local go_sem] Oper.semAt_some
/-- the parts of 64 bytes -/
def chunkOf (s : ByteArray) (k : Nat) : ByteArray := s.extract (64 * k) (64 * k + 64)
def chunksOf (s : ByteArray) : List ByteArray := (List.range (s.size / 64)).map (chunkOf s)
theorem chunksOf_len (s : ByteArray) : (chunksOf s).length = s.size / 64 := by simp [chunksOf]
theorem chunks_succ (s : ByteArray) {k : Nat} (h : 64 * k + 64 ≤ s.size) : (chunksOf s).take k ++ [chunkOf s k] = (chunksOf s).take (k + 1) := by
  have hl : k < (chunksOf s).length := by rw [chunksOf_len]; omega
  rw [List.take_succ_eq_append_getElem hl]
  simp [chunksOf]
theorem size_extract (s : ByteArray) (i j : Nat) : (s.extract i j).size = min j s.size - i := by simp
theorem rest_chunk (s : ByteArray) (k : Nat) : (s.extract (64 * k) s.size).extract 0 64 = chunkOf s k := by
  rw [ByteArray.extract_extract, Nat.add_zero, extract_clip]; rfl
theorem rest_rest (s : ByteArray) (k : Nat) : (s.extract (64 * k) s.size).extract 64 (s.extract (64 * k) s.size).size = s.extract (64 * (k + 1)) s.size := by
  rw [ByteArray.extract_extract, size_extract, Nat.min_self]
  rcases Nat.le_total (64 * k) s.size with h | h
  · rw [show 64 * k + (s.size - 64 * k) = s.size by omega, Nat.min_self]; rfl
  · rw [show s.size - 64 * k = 0 by omega]
    rw [ByteArray.extract_eq_empty_iff.2 (by omega), ByteArray.extract_eq_empty_iff.2 (by omega)]
theorem chunk_left (s t : ByteArray) {k : Nat} (h : 64 * k + 64 ≤ s.size) : chunkOf s k = chunkOf (s ++ t) k := (extract_left h).symm
theorem rest_join (s t : ByteArray) {k : Nat} (h : 64 * k ≤ s.size) : s.extract (64 * k) s.size ++ t = (s ++ t).extract (64 * k) (s ++ t).size := by
  rw [ByteArray.extract_append, ByteArray.size_append, show 64 * k - s.size = 0 by omega, show s.size + t.size - s.size = t.size by omega, ByteArray.extract_zero_size]
  rw [← extract_clip s (64 * k) (s.size + t.size), show min (s.size + t.size) s.size = s.size by omega]
def sizeV (v : Value) : Nat := match v with | .string s => s.size | _ => 0

theorem blocks_in (F : Fence) (n : Nat) (hf : F.fn 125) (hro : F.round = none) (s b : ByteArray) (w : World) :
    CallsIn F n Tryd.prog 125 #[.string s, .string b] w fun e w' => e = .returned (.func (.func 138) #[] #[.pointer (some ⟨w.heap.size, 0, none⟩), .pointer (some ⟨w.heap.size + 1, 0, none⟩)]) ∧ (w.alloc (.cells #[.string s] 9)).alloc (.cells #[.string b] 9) = w' := by
  refine callsIn_of_wp Tryd.func125 rfl hf ?_ hro
  simp only [Tryd.ntmps125, List.size_toArray, List.length_cons, List.length_nil, Nat.reduceAdd, Nat.reduceSub, Array.replicate_succ, Array.replicate_zero, List.push_toArray, List.append_toArray, List.nil_append, List.cons_append]
  gi_wp2
  go_ret
  exact ⟨rfl, rfl⟩

set_option maxHeartbeats 400000 in
theorem blocks1_in (F : Fence) (n : Nat) (hf : F.fn 138) (hro : F.round = none) (hn : 1 ≤ n) (l B1 B2 : Nat) (s b : ByteArray) (J Jx : List ByteArray → World → Prop) (Kp : World → World → Prop) (hKr : ∀ A, Kp A A) (hKt : ∀ A B C, Kp A B → Kp B C → Kp A C) (hKc : ∀ A B, Kp A B → B.cell? ⟨B2, 0, none⟩ = A.cell? ⟨B2, 0, none⟩)
    (hY : ∀ pre x W, J pre W → pre.length < (chunksOf (s ++ b)).length → YieldAt F (n - 1) Tryd.prog l #[.string x] W fun e W' =>
      (e = .returned (.bool true) ∧ J (pre ++ [x]) W' ∧ Kp W W') ∨ (e = .returned (.bool false) ∧ Jx (pre ++ [x]) W'))
    (W : World) (h1 : W.cell? ⟨B1, 0, none⟩ = some (.string s)) (h2 : W.cell? ⟨B2, 0, none⟩ = some (.string b)) (hw : (s.size + b.size) % 64 = 0) (hs : s.size ≤ 1000000000) (hb : b.size ≤ 72) (h0 : J [] W) :
    CallsIn F n Tryd.prog 138 #[.func (.yield l) #[] #[], .pointer (some ⟨B1, 0, none⟩), .pointer (some ⟨B2, 0, none⟩)] W fun e W' => (∃ v, e = .returned v) ∧
      ((∃ ys, ys = chunksOf (s ++ b) ∧ J ys W') ∨ (∃ pre, pre <+: chunksOf (s ++ b) ∧ Jx pre W')) := by
  have HY := Lib.hid hY
  have HK := Lib.hid hKt
  have HKc := Lib.hid hKc
  have HS := Lib.hid (And.intro hw (And.intro hs hb))
  have H2 := Lib.hid h2
  clear hY hw hs hb h2 hKt hKc
  refine callsIn_of_wp Tryd.func138 rfl hf ?_ hro
  simp only [Tryd.ntmps138, List.size_toArray, List.length_cons, List.length_nil, Nat.reduceAdd, Nat.reduceSub, Array.replicate_succ, Array.replicate_zero, List.push_toArray, List.append_toArray, List.nil_append, List.cons_append]
  gi_wp2
  gi_loopw [4] (fun v wr => ∃ (k : Nat) (r : ByteArray), v = .string r ∧ Hid (r = s.extract (64 * k) s.size) ∧ Hid (64 * k + r.size = s.size) ∧ Hid (J ((chunksOf (s ++ b)).take k) wr) ∧ Hid (Kp W wr)) (fun v _ => sizeV v)
  case atStart => exact ⟨0, s, rfl, Lib.hid (by simp), Lib.hid (by omega), by simpa [Hid] using h0, hKr _⟩
  case round =>
    obtain ⟨k, r, rfl, HR, HN, HJ, hB⟩ := hrel
    by_cases hlt : 64 ≤ r.size
    · have hk : 64 * k + 64 ≤ s.size := by have := HN.out; omega
      have HC : Hid (r.extract 0 64 = chunkOf (s ++ b) k) := Lib.hid (by rw [HR.out, rest_chunk, chunk_left _ _ hk])
      have HT : Hid (r.extract 64 r.size = s.extract (64 * (k + 1)) s.size) := Lib.hid (by rw [HR.out, rest_rest])
      obtain ⟨fn, tmps, assign, body, hy, hR⟩ := HY.out _ (r.extract 0 64) wr HJ.out (by rw [List.length_take, chunksOf_len, ByteArray.size_append]; omega)
      have HRR := Lib.hid hR
      clear hR
      gi_wp2
      refine HRR.out.mono ?_
      rintro e W3 (⟨rfl, hJ3, hk3⟩ | ⟨rfl, hJx3⟩)
      · rw [HC.out, chunks_succ _ (by rw [ByteArray.size_append]; omega)] at hJ3
        have HJ3 := Lib.hid hJ3
        clear hJ3
        gi_wp2
        go_roundw
        case rel => exact ⟨k + 1, _, rfl, HT, Lib.hid (by rw [size_extract]; have := HN.out; omega), HJ3, HK.out _ _ _ hB.out hk3⟩
        case measure => simp [sizeV]; omega
      · rw [HC.out, chunks_succ _ (by rw [ByteArray.size_append]; omega)] at hJx3
        have HJ3 := Lib.hid hJx3
        clear hJx3
        gi_wp2
        refine bodyPost_ret (results_none rfl _ _ _) rfl ?_
        exact ⟨⟨_, rfl⟩, .inr ⟨_, List.take_prefix _ _, HJ3⟩⟩
    · have hb2 := (HKc.out _ _ hB.out).trans H2.out
      have HA : Hid (r ++ b = (s ++ b).extract (64 * k) (s ++ b).size) := Lib.hid (by rw [HR.out]; exact rest_join s b (by have := HN.out; omega))
      have HN2 : Hid (64 * k + (r ++ b).size = (s ++ b).size) := Lib.hid (by rw [ByteArray.size_append, ByteArray.size_append]; have := HN.out; omega)
      have hcat : r.size + b.size ≤ 1000000100 := by have := HS.out; have := HN.out; omega
      have HW : Hid ((s ++ b).size % 64 = 0) := Lib.hid (by rw [ByteArray.size_append]; exact HS.out.1)
      obtain ⟨wo, rfl⟩ : ∃ wo : World, wo = wr := ⟨_, rfl⟩
      gi_wp2
      gi_loopw [4] (fun v wr => ∃ (k : Nat) (r : ByteArray), v = .string r ∧ Hid (r = (s ++ b).extract (64 * k) (s ++ b).size) ∧ Hid (64 * k + r.size = (s ++ b).size) ∧ Hid (J ((chunksOf (s ++ b)).take k) wr) ∧ Hid (Kp W wr)) (fun v _ => sizeV v)
      case atStart => exact ⟨k, _, rfl, HA, HN2, HJ, hB⟩
      case round =>
        clear hb2 HA HN2 hcat
        obtain ⟨k, r, rfl, HR, HN, HJ, hB⟩ := hrel
        by_cases hz : r.size = 0
        · obtain rfl : r = ByteArray.empty := ByteArray.size_eq_zero_iff.1 hz
          have HD : Hid ((chunksOf (s ++ b)).take k = chunksOf (s ++ b)) := Lib.hid (List.take_of_length_le (by rw [chunksOf_len]; have := HN.out; rw [ByteArray.size_empty] at this; omega))
          clear hz hlt
          gi_wp2
          go_end0
          exact ⟨⟨_, rfl⟩, .inl ⟨_, rfl, by have := HJ.out; rwa [HD.out] at this⟩⟩
        · have hk : 64 * k + 64 ≤ (s ++ b).size := by have := HN.out; have := HW.out; omega
          have hne : r.toList.isEmpty = false := by
            cases h : r.toList with
            | nil =>
              exfalso; apply hz
              rw [Lib.toList_data] at h
              have : r.data.toList.length = 0 := by rw [h]; rfl
              simpa using this
            | cons a b => rfl
          have hsz : 64 ≤ r.size := by have := HN.out; omega
          have HC : Hid (r.extract 0 64 = chunkOf (s ++ b) k) := Lib.hid (by rw [HR.out, rest_chunk])
          have HT : Hid (r.extract 64 r.size = (s ++ b).extract (64 * (k + 1)) (s ++ b).size) := Lib.hid (by rw [HR.out, rest_rest])
          obtain ⟨fn, tmps, assign, body, hy, hR⟩ := HY.out _ (r.extract 0 64) wr HJ.out (by rw [List.length_take, chunksOf_len]; omega)
          have HRR := Lib.hid hR
          clear hR hz hlt
          gi_wp2
          refine HRR.out.mono ?_
          rintro e W3 (⟨rfl, hJ3, hk3⟩ | ⟨rfl, hJx3⟩)
          · rw [HC.out, chunks_succ _ hk] at hJ3
            have HJ3 := Lib.hid hJ3
            clear hJ3
            gi_wp2
            go_roundw
            case rel => exact ⟨k + 1, _, rfl, HT, Lib.hid (by rw [size_extract]; have := HN.out; omega), HJ3, HK.out _ _ _ hB.out hk3⟩
            case measure => simp [sizeV]; omega
          · rw [HC.out, chunks_succ _ hk] at hJx3
            have HJ3 := Lib.hid hJx3
            clear hJx3
            gi_wp2
            refine bodyPost_ret (results_none rfl _ _ _) rfl ?_
            exact ⟨⟨_, rfl⟩, .inr ⟨_, List.take_prefix _ _, HJ3⟩⟩
end Go.Proofs.YtbgohcedakpnbaaDoor
