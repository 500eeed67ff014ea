/- digest.spread. -/
import Derived.Test.YtpkomloblhbkiaaGreatDoorBytes
import Derived.Shelf.Strings.Builder1
import Derived.Shelf.Strings.BuilderF
import Derived.Shelf.Strings.BuilderK
import Derived.RangeFuncWrites
import Derived.Laws.CopyOwn
import Derived.Deep.WholeRow
import Derived.Deep.MidRow
import Derived.Deep.RegionHeld3
set_option linter.unusedVariables false
/- strings.Builder: Len, WriteString, String at this program. -/
namespace Go.Proofs.YtpkomloblhbkiaaGreatDoor
open Go.RowKit Go.Shelf
def lenRen : Go.Shelf.Ren := ⟨fun | 170 => 142 | n => n, fun | 70 => 199 | 3 => 3 | 0 => 0 | 72 => 201 | 37 => 113 | 5 => 5 | n => n, fun | n => n⟩
theorem lenLays : Go.Proofs.Lays.n170 Tryz.prog lenRen := {
  mixed := by kernel_rfl
  f170 := Tryz.func142.trans (congrArg some (by kernel_rfl))
  t0 := Tryz.underlying0
  a0 := Tryz.isAgg0
  z0 := Tryz.sizeOf0
  v0 := Tryz.zeroValue0
  t3 := Tryz.underlying3
  a3 := Tryz.isAgg3
  z3 := Tryz.sizeOf3
  v3 := Tryz.zeroValue3
  t37 := Tryz.underlying113
  a37 := Tryz.isAgg113
  z37 := Tryz.sizeOf113
  v37 := Tryz.zeroValue113
  t70 := Tryz.underlying199
  a70 := Tryz.isAgg199
  z70 := Tryz.sizeOf199
  v70 := Tryz.zeroValue199
  t72 := Tryz.underlying201
  a72 := Tryz.isAgg201
  z72 := Tryz.sizeOf201
  v72 := Tryz.zeroValue201 }
def strRen : Go.Shelf.Ren := ⟨fun | 169 => 144 | n => n, fun | 70 => 199 | 9 => 9 | 0 => 0 | 72 => 201 | 37 => 113 | 127 => 211 | 3 => 3 | 5 => 5 | n => n, fun | n => n⟩
theorem strLays : Go.Proofs.Lays.n169 Tryz.prog strRen := {
  mixed := by kernel_rfl
  f169 := Tryz.func144.trans (congrArg some (by kernel_rfl))
  t0 := Tryz.underlying0
  a0 := Tryz.isAgg0
  z0 := Tryz.sizeOf0
  v0 := Tryz.zeroValue0
  t3 := Tryz.underlying3
  a3 := Tryz.isAgg3
  z3 := Tryz.sizeOf3
  v3 := Tryz.zeroValue3
  t9 := Tryz.underlying9
  a9 := Tryz.isAgg9
  z9 := Tryz.sizeOf9
  v9 := Tryz.zeroValue9
  t37 := Tryz.underlying113
  a37 := Tryz.isAgg113
  z37 := Tryz.sizeOf113
  v37 := Tryz.zeroValue113
  t70 := Tryz.underlying199
  a70 := Tryz.isAgg199
  z70 := Tryz.sizeOf199
  v70 := Tryz.zeroValue199
  t72 := Tryz.underlying201
  a72 := Tryz.isAgg201
  z72 := Tryz.sizeOf201
  v72 := Tryz.zeroValue201
  t127 := Tryz.underlying211
  a127 := Tryz.isAgg211
  z127 := Tryz.sizeOf211
  v127 := Tryz.zeroValue211 }
theorem strExtra : Builder.Extra Tryz.prog strRen := {
  sizeBuilder := by kernel_rfl
  liesBuilder := by kernel_rfl
  t5 := Tryz.underlying5
  a5 := Tryz.isAgg5
  z5 := Tryz.sizeOf5
  v5 := Tryz.zeroValue5
  infoByte := by kernel_rfl
  cellsByte := by kernel_rfl
  sizeByte := by kernel_rfl
  neB5 := by decide }
/-- block b is a builder of one's own, from block B on, that holds the bytes l -/
def Bld (B b : Nat) (l : List UInt8) (w : World) : Prop := Lib.IsBuilderF 201 5 B b (Lib.byteCells l) w
def BldKept (b : Nat) (w w' : World) : Prop := Lib.OthersKept 5 (some b) w w'
theorem bld_new (w : World) : Bld w.heap.size w.heap.size [] (w.alloc (.cells #[.pointer none, .slice none 0 0] 201)) := Lib.IsBuilderF.of (Lib.fresh_isBuilder _ _ w)
theorem bld_len (B b : Nat) (l : List UInt8) (w : World) (h : Bld B b l w) :
    Calls Tryz.prog 142 #[.pointer (some ⟨b, 0, none⟩)] w fun e w' => e = .returned (.int .i64 l.length) ∧ w = w' := by
  have h1 := Any.Builder_Len_f lenLays B b (Lib.byteCells l) w h
  rw [Lib.byteCells_length] at h1
  exact h1.mono fun e w' h => ⟨h.1, h.2.symm⟩
theorem bld_string (B b : Nat) (l : List UInt8) (w : World) (h : Bld B b l w) (hBw : B ≤ w.heap.size) :
    Calls Tryz.prog 144 #[.pointer (some ⟨b, 0, none⟩)] w fun e w' => e = .returned (.string ⟨l.toArray⟩) ∧ Bld B b l w' ∧ Below B w w' ∧ BldKept b w w' :=
  Any.Builder_String_any_k strLays strExtra B b l w h hBw
set_option maxHeartbeats 1000000 in
set_option maxRecDepth 100000 in
theorem bld_check_used (b : Nat) (w : World) (h0 : w.cell? ⟨b, 0, none⟩ = some (.pointer (some ⟨b, 0, none⟩))) :
    Calls Tryz.prog 147 #[.pointer (some ⟨b, 0, none⟩)] w fun e w' => e = .returned (.tuple #[]) ∧ w = w' := by
  obtain ⟨j, hj, _⟩ := Option.map_eq_some_iff.1 strExtra.sizeBuilder
  have hne := Lib.run_neq_ptr_same (P := Tryz.prog) w ⟨b, 0, none⟩ Tryz.underlying199 hj
  go_enter Tryz.func147, Tryz.ntmps147
  go_wp2
  go_end0
  exact ⟨rfl, rfl⟩
set_option maxHeartbeats 1000000 in
set_option maxRecDepth 100000 in
theorem bld_check_fresh (b : Nat) (w : World) (h0 : w.cell? ⟨b, 0, none⟩ = some (.pointer none)) (hsh : w.shape? b = some (201, 2)) (hfz : w.frozen? ⟨b, 0, none⟩ = false) :
    Calls Tryz.prog 147 #[.pointer (some ⟨b, 0, none⟩)] w fun e w' => e = .returned (.tuple #[]) ∧ w.setCell ⟨b, 0, none⟩ (.pointer (some ⟨b, 0, none⟩)) = w' := by
  obtain ⟨j, hj, hjs⟩ := Option.map_eq_some_iff.1 strExtra.sizeBuilder
  go_enter Tryz.func147, Tryz.ntmps147
  go_wp2
  rw [Lib.run_to_unsafe w ⟨b, 0, none⟩ Tryz.underlying199 Tryz.underlying218 hj (by rw [hjs]; decide) hsh (Nat.zero_lt_succ 1)]
  simp only [Result.andThen]
  rw [Oper.upon_value]
  go_wp2
  rw [run_callFunc_extern Tryz.func152 (by kernel_rfl) (by kernel_rfl) (by kernel_rfl) (e := Extern.AbiNoEscape.same) (by kernel_rfl)]
  rw [Lib.run_noEscape]
  simp only [Result.andThen]
  rw [Oper.upon_value]
  go_wp2
  rw [Lib.run_from_unsafe w ⟨b, 0, none⟩ Tryz.underlying218 Tryz.underlying199 hj hsh strExtra.liesBuilder]
  simp only [Result.andThen]
  rw [Oper.upon_value]
  go_wp2
  go_end0
  exact ⟨rfl, rfl⟩
theorem bld_check (B b : Nat) (bs : List Value) (w : World) (h : Lib.IsBuilderF 201 5 B b bs w) :
    Calls Tryz.prog 147 #[.pointer (some ⟨b, 0, none⟩)] w fun e w' => e = .returned (.tuple #[]) ∧ (Lib.BuilderAtF 201 5 B b (.pointer (some ⟨b, 0, none⟩)) bs w' ∧ Below B w w' ∧ BldKept b w w') := by
  rcases h with h | h
  · refine (bld_check_fresh b w h.cell0 h.shape h.frozen0).mono ?_
    rintro e w' ⟨rfl, rfl⟩
    exact ⟨rfl, h.used _, (Below.refl B w).setCell (p := ⟨b, 0, none⟩) h.1 _, (Lib.OthersKept.refl _ _ w).setCell ⟨b, 0, none⟩ rfl _⟩
  · refine (bld_check_used b w h.cell0).mono ?_
    rintro e w' ⟨rfl, rfl⟩
    exact ⟨rfl, h, Below.refl B _, Lib.OthersKept.refl _ _ _⟩
set_option maxHeartbeats 2000000 in
set_option maxRecDepth 100000 in
theorem bld_write (B b : Nat) (l : List UInt8) (s : ByteArray) (w : World) (h : Bld B b l w) (hlen : l.length + s.size ≤ 140737488355328) (hBw : B ≤ w.heap.size) :
    Calls Tryz.prog 141 #[.pointer (some ⟨b, 0, none⟩), .string s] w fun e w' => e = .returned (.tuple #[.int .i64 s.size, .nilIface]) ∧ Bld B b (l ++ s.data.toList) w' ∧ Below B w w' ∧ BldKept b w w' := by
  obtain ⟨i0, hi, hz0, hz1, hz2⟩ := info_parts byte_info
  have HL := Lib.hid hlen
  have hbl : (Lib.byteCells l).length = l.length := Lib.byteCells_length l
  clear hlen
  go_enter Tryz.func141, Tryz.ntmps141
  go_wp2_with fail
  refine (bld_check B b _ _ h).mono ?_
  rintro e w1 ⟨rfl, h1, hb1, hk1⟩
  obtain ⟨hB, v, hbk, hown, hne⟩ := h1
  have c0 : w1.cell? ⟨b, 0, none⟩ = some (.pointer (some ⟨b, 0, none⟩)) := by rw [Lib.cell_of_heap hbk]; rfl
  have c1 : w1.cell? ⟨b, 1, none⟩ = some v := by rw [Lib.cell_of_heap hbk]; rfl
  have hs1 := hb1.size
  have hlt : b < w1.heap.size := (Array.getElem?_eq_some_iff.1 hbk).1
  go_wp2_with (at_builtin; refine Lib.wpList_append_own_stringF _ rfl _ _ 113 9 rfl B 5 i0 Tryz.underlying113 Tryz.underlying9 hi hz0 hz1 hz2 _ _ _ rfl hown s rfl ?c3 ?c4 ?c5 ?_)
  case c3 => rw [hbl]; have := HL.out; unfold maxLen; omega
  case c4 => rw [hbl]; have := HL.out; omega
  case c5 => omega
  intro v' w2 hown' hgrow _
  have hb2 : w2.heap[b]? = some (.cells #[.pointer (some ⟨b, 0, none⟩), v] 201 (0, 0)) := by
    rw [hgrow.block b hlt (fun e => hne e.symm)]
    exact hbk
  have d0 : w2.cell? ⟨b, 0, none⟩ = some (.pointer (some ⟨b, 0, none⟩)) := by rw [Lib.cell_of_heap hb2]; rfl
  have d1 : w2.cell? ⟨b, 1, none⟩ = some v := by rw [Lib.cell_of_heap hb2]; rfl
  have f1 : w2.frozen? ⟨b, 1, none⟩ = false := Lib.frozen_of_heap hb2 1
  obtain ⟨ao, n', cap, rfl⟩ : ∃ ao n' cap, v' = .slice ao n' cap := by
    rcases hown'.2 with ⟨hv, _⟩ | ⟨g, cap, cur, fz, hv, _⟩
    · exact ⟨_, _, _, hv⟩
    · exact ⟨_, _, _, hv⟩
  go_wp2
  go_ret2
  have happ : Lib.byteCells (l ++ s.data.toList) = Lib.byteCells l ++ Lib.strCells s := by
    unfold Lib.strCells Lib.byteCells
    rw [List.map_append]
  refine ⟨rfl, .inr ?_, ?_, (Lib.OthersKept.grown hk1 hgrow (Lib.ownsRowF_kind hown)).setCell ⟨b, 1, none⟩ rfl _⟩
  · rw [happ]
    exact Lib.BuilderAtF.put (T := 201) (e := 5) hB hb2 (bs' := Lib.byteCells l ++ Lib.strCells s) (by rw [List.length_append, hbl, Lib.strCells_length]; exact hown') (by decide)
  · exact (hb1.grown hgrow (by omega) (fun k hk => (hown.lt k hk).1)).setCell (p := ⟨b, 1, none⟩) hB _
theorem BldKept.blk {b : Nat} {w w' : World} (h : BldKept b w w') {g : Nat} {t : TypeId} {cs : Array Value} (hg : Blk w g t cs) (hne : g ≠ b) (ht : t ≠ 5) : Blk w' g t cs :=
  h g _ hg (fun e => hne (by cases e; rfl)) (fun c fz e => ht (by injection e))
end Go.Proofs.YtpkomloblhbkiaaGreatDoor
/- strings.Builder: WriteByte at this program. -/
namespace Go.Proofs.YtpkomloblhbkiaaGreatDoor
open Go.RowKit Go.Shelf
set_option maxHeartbeats 2000000 in
set_option maxRecDepth 100000 in
theorem bld_byte (B b : Nat) (l : List UInt8) (c : UInt8) (w : World) (h : Bld B b l w) (hlen : l.length + 1 ≤ 140737488355328) (hBw : B ≤ w.heap.size) :
    Calls Tryz.prog 143 #[.pointer (some ⟨b, 0, none⟩), .int .u8 c.toNat] w fun e w' => e = .returned .nilIface ∧ Bld B b (l ++ [c]) w' ∧ Below B w w' ∧ BldKept b w w' := by
  obtain ⟨i0, hi, hz0, hz1, hz2⟩ := info_parts byte_info
  have HL := Lib.hid hlen
  have hbl : (Lib.byteCells l).length = l.length := Lib.byteCells_length l
  clear hlen
  go_enter Tryz.func143, Tryz.ntmps143
  go_wp2_with fail
  refine (bld_check B b _ _ h).mono ?_
  rintro e w1 ⟨rfl, h1, hb1, hk1⟩
  obtain ⟨hB, v, hbk, hown, hne⟩ := h1
  have c0 : w1.cell? ⟨b, 0, none⟩ = some (.pointer (some ⟨b, 0, none⟩)) := by rw [Lib.cell_of_heap hbk]; rfl
  have c1 : w1.cell? ⟨b, 1, none⟩ = some v := by rw [Lib.cell_of_heap hbk]; rfl
  have hs1 := hb1.size
  have hlt : b < w1.heap.size := (Array.getElem?_eq_some_iff.1 hbk).1
  go_wp2_with (at_builtin; refine wpList_append_ownF _ rfl _ _ 113 rfl B 5 i0 (.int .u8 0) 1 1 Tryz.underlying113 hi hz0 hz1 hz2 rfl (by decide) _ _ _ rfl (hown.alloc _) ⟨w1.heap.size, 0, none⟩ 1 1 [.int .u8 c.toNat] rfl rfl ?c1 ?c2 ?c3 ?c4 ?c5 ?_)
  case c1 =>
    intro j u hj
    match j, hj with
    | 0, hj => simp at hj; subst hj; simp [Addr.add]
  case c2 => intro u hu; simp at hu; subst hu; rfl
  case c3 => rw [hbl]; have := HL.out; unfold maxLen; omega
  case c4 => rw [hbl]; have := HL.out; omega
  case c5 => simp; omega
  intro v' w2 hown' hgrow _
  have hb2 : w2.heap[b]? = some (.cells #[.pointer (some ⟨b, 0, none⟩), v] 201 (0, 0)) := by
    rw [hgrow.block b (by simp; omega) (fun e => hne e.symm), Lib.alloc_old w1 _ b hlt]
    exact hbk
  have d0 : w2.cell? ⟨b, 0, none⟩ = some (.pointer (some ⟨b, 0, none⟩)) := by rw [Lib.cell_of_heap hb2]; rfl
  have d1 : w2.cell? ⟨b, 1, none⟩ = some v := by rw [Lib.cell_of_heap hb2]; rfl
  have f1 : w2.frozen? ⟨b, 1, none⟩ = false := Lib.frozen_of_heap hb2 1
  obtain ⟨ao, n', cap, rfl⟩ : ∃ ao n' cap, v' = .slice ao n' cap := by
    rcases hown'.2 with ⟨hv, _⟩ | ⟨g, cap, cur, fz, hv, _⟩
    · exact ⟨_, _, _, hv⟩
    · exact ⟨_, _, _, hv⟩
  go_wp2
  go_ret
  have happ : Lib.byteCells (l ++ [c]) = Lib.byteCells l ++ [.int .u8 c.toNat] := by
    unfold Lib.byteCells
    rw [List.map_append]; rfl
  refine ⟨rfl, .inr ?_, ?_, ((hk1.alloc _).grown hgrow (Lib.ownsRowF_kind (hown.alloc _))).setCell ⟨b, 1, none⟩ rfl _⟩
  · rw [happ]
    exact Lib.BuilderAtF.put (T := 201) (e := 5) hB hb2 (bs' := Lib.byteCells l ++ [.int .u8 c.toNat]) (by rw [List.length_append, hbl]; simpa [hbl] using hown') (by decide)
  · exact ((hb1.alloc (by omega) _).grown hgrow (by simp; omega) (fun k hk => (hown.lt k hk).1)).setCell (p := ⟨b, 1, none⟩) hB _
end Go.Proofs.YtpkomloblhbkiaaGreatDoor
namespace Go.Proofs.YtpkomloblhbkiaaGreatDoor
open Go.RowKit
def s0W (p : Nat) : Nat := xorW [rotl p 25, rotl p 14, p / 2 ^ 3]
def s1W (q : Nat) : Nat := xorW [rotl q 15, rotl q 13, q / 2 ^ 10]
/-- the words of a block, k of them made -/
def spreadTo (l : List Nat) : Nat → List Nat
  | 0 => l ++ List.replicate (64 - l.length) 0
  | k + 1 => (spreadTo l k).set (16 + k) (sumW [(spreadTo l k).getD k 0, s0W ((spreadTo l k).getD (k + 1) 0), (spreadTo l k).getD (k + 9) 0, s1W ((spreadTo l k).getD (k + 14) 0)])
def spreadW (s : ByteArray) : List Nat := spreadTo (cutW s true) 48
theorem w64_info : (Tryz.prog.info? 142).map (fun i => (i.zero, i.size)) = some (some (.agg (List.replicate 64 (Value.int .i64 0)).toArray), 64) := by kernel_rfl
theorem cutW_len (s : ByteArray) (h : Bool) : (cutW s h).length = s.size / 4 := cutTo_len s h s.size
theorem cutW_words (s : ByteArray) (h : Bool) : words (cutW s h) := cutTo_words s h s.size
theorem spreadTo_len {l : List Nat} (hl : l.length = 16) (k : Nat) : (spreadTo l k).length = 64 := by
  induction k with
  | zero => simp [spreadTo, hl]
  | succ k ih => rw [spreadTo, List.length_set, ih]
theorem words_set {L : List Nat} (h : words L) {i x : Nat} (hx : x < 4294967296) : words (L.set i x) := by
  intro n hn
  rcases List.mem_or_eq_of_mem_set hn with hn | rfl
  · exact h n hn
  · exact hx
theorem spreadTo_words {l : List Nat} (hw : words l) (k : Nat) : words (spreadTo l k) := by
  induction k with
  | zero =>
    intro n hn
    rw [spreadTo] at hn
    rcases List.mem_append.1 hn with hn | hn
    · exact hw n hn
    · rw [List.eq_of_mem_replicate hn]; decide
  | succ k ih => rw [spreadTo]; exact words_set ih (sumW_lt _)
theorem spread_src {w : World} {g : Nat} {t : TypeId} {l : List Nat} (h : Row vI w g t (ints l)) {j : Nat} {v : Value} (hv : ((ints l).map vI)[j]? = some v) : w.cell? ⟨g, j, none⟩ = some v := by
  rw [Blk.cell h]; simpa using hv
theorem spread_one {l : List Nat} {v : Value} (hv : v ∈ (ints l).map vI) : v.oneCell' = true := by
  obtain ⟨x, _, rfl⟩ := List.mem_map.1 hv
  rfl
theorem spread_zero {l : List Nat} (hl : l.length = 16) : (splice (List.replicate 64 (Value.int .i64 0)).toArray.toList 0 ((ints l).map vI)).toArray = ((ints (spreadTo l 0)).map vI).toArray := by
  congr 1
  simp only [splice, spreadTo, ints]
  simp [hl, vI]
theorem back7 (x y : Nat) (w : World) (hx : x < 4294967296) (h : rotl x 25 = y) : Calls Tryz.prog 76 #[.int .i64 x, .int .i64 7] w fun e w' => e = .returned (.int .i64 y) ∧ w.alloc (.cells #[.int .i64 x] 3) = w' := by subst h; exact dback_any x 7 w hx (by omega) (by omega)
theorem back18 (x y : Nat) (w : World) (hx : x < 4294967296) (h : rotl x 14 = y) : Calls Tryz.prog 76 #[.int .i64 x, .int .i64 18] w fun e w' => e = .returned (.int .i64 y) ∧ w.alloc (.cells #[.int .i64 x] 3) = w' := by subst h; exact dback_any x 18 w hx (by omega) (by omega)
theorem back17 (x y : Nat) (w : World) (hx : x < 4294967296) (h : rotl x 15 = y) : Calls Tryz.prog 76 #[.int .i64 x, .int .i64 17] w fun e w' => e = .returned (.int .i64 y) ∧ w.alloc (.cells #[.int .i64 x] 3) = w' := by subst h; exact dback_any x 17 w hx (by omega) (by omega)
theorem back19 (x y : Nat) (w : World) (hx : x < 4294967296) (h : rotl x 13 = y) : Calls Tryz.prog 76 #[.int .i64 x, .int .i64 19] w fun e w' => e = .returned (.int .i64 y) ∧ w.alloc (.cells #[.int .i64 x] 3) = w' := by subst h; exact dback_any x 19 w hx (by omega) (by omega)
theorem back6 (x y : Nat) (w : World) (hx : x < 4294967296) (h : rotl x 26 = y) : Calls Tryz.prog 76 #[.int .i64 x, .int .i64 6] w fun e w' => e = .returned (.int .i64 y) ∧ w.alloc (.cells #[.int .i64 x] 3) = w' := by subst h; exact dback_any x 6 w hx (by omega) (by omega)
theorem back11 (x y : Nat) (w : World) (hx : x < 4294967296) (h : rotl x 21 = y) : Calls Tryz.prog 76 #[.int .i64 x, .int .i64 11] w fun e w' => e = .returned (.int .i64 y) ∧ w.alloc (.cells #[.int .i64 x] 3) = w' := by subst h; exact dback_any x 11 w hx (by omega) (by omega)
theorem back25 (x y : Nat) (w : World) (hx : x < 4294967296) (h : rotl x 7 = y) : Calls Tryz.prog 76 #[.int .i64 x, .int .i64 25] w fun e w' => e = .returned (.int .i64 y) ∧ w.alloc (.cells #[.int .i64 x] 3) = w' := by subst h; exact dback_any x 25 w hx (by omega) (by omega)
theorem back2 (x y : Nat) (w : World) (hx : x < 4294967296) (h : rotl x 30 = y) : Calls Tryz.prog 76 #[.int .i64 x, .int .i64 2] w fun e w' => e = .returned (.int .i64 y) ∧ w.alloc (.cells #[.int .i64 x] 3) = w' := by subst h; exact dback_any x 2 w hx (by omega) (by omega)
theorem back13 (x y : Nat) (w : World) (hx : x < 4294967296) (h : rotl x 19 = y) : Calls Tryz.prog 76 #[.int .i64 x, .int .i64 13] w fun e w' => e = .returned (.int .i64 y) ∧ w.alloc (.cells #[.int .i64 x] 3) = w' := by subst h; exact dback_any x 13 w hx (by omega) (by omega)
theorem back22 (x y : Nat) (w : World) (hx : x < 4294967296) (h : rotl x 10 = y) : Calls Tryz.prog 76 #[.int .i64 x, .int .i64 22] w fun e w' => e = .returned (.int .i64 y) ∧ w.alloc (.cells #[.int .i64 x] 3) = w' := by subst h; exact dback_any x 22 w hx (by omega) (by omega)
theorem fall3 (x y : Nat) (w : World) (hx : x < 4294967296) (h : x / 2 ^ 3 = y) : Calls Tryz.prog 104 #[.int .i64 x, .int .i64 3] w fun e w' => e = .returned (.int .i64 y) ∧ w = w' := by subst h; exact dfall_any x 3 w hx (by omega)
theorem fall10 (x y : Nat) (w : World) (hx : x < 4294967296) (h : x / 2 ^ 10 = y) : Calls Tryz.prog 104 #[.int .i64 x, .int .i64 10] w fun e w' => e = .returned (.int .i64 y) ∧ w = w' := by subst h; exact dfall_any x 10 w hx (by omega)
theorem xor2 (a b y : Nat) (g : Nat) (w : World) (hg : g < w.heap.size) (hB : Blk w g 3 #[.int .i64 a, .int .i64 b]) (hw : words [a, b]) (h : xorW [a, b] = y) :
    Calls Tryz.prog 75 #[.slice (some ⟨g, 0, none⟩) 2 2] w fun e w' => e = .returned (.int .i64 y) ∧ Below w.heap.size w w' := by
  subst h; exact dxor_any [a, b] _ 2 2 w (slr_new w [a, b] hB hg) (by omega) hw (by omega)
theorem xor3 (a b c y : Nat) (g : Nat) (w : World) (hg : g < w.heap.size) (hB : Blk w g 3 #[.int .i64 a, .int .i64 b, .int .i64 c]) (hw : words [a, b, c]) (h : xorW [a, b, c] = y) :
    Calls Tryz.prog 75 #[.slice (some ⟨g, 0, none⟩) 3 3] w fun e w' => e = .returned (.int .i64 y) ∧ Below w.heap.size w w' := by
  subst h; exact dxor_any [a, b, c] _ 3 3 w (slr_new w [a, b, c] hB hg) (by omega) hw (by omega)
theorem add2 (a b y : Nat) (g : Nat) (w : World) (hg : g < w.heap.size) (hB : Blk w g 3 #[.int .i64 a, .int .i64 b]) (hw : words [a, b]) (h : sumW [a, b] = y) :
    Calls Tryz.prog 74 #[.slice (some ⟨g, 0, none⟩) 2 2] w fun e w' => e = .returned (.int .i64 y) ∧ w = w' := by
  subst h; exact dadd_any [a, b] _ 2 2 w (slr_new w [a, b] hB hg) (by omega) hw
theorem add4 (a b c d y : Nat) (g : Nat) (w : World) (hg : g < w.heap.size) (hB : Blk w g 3 #[.int .i64 a, .int .i64 b, .int .i64 c, .int .i64 d]) (hw : words [a, b, c, d]) (h : sumW [a, b, c, d] = y) :
    Calls Tryz.prog 74 #[.slice (some ⟨g, 0, none⟩) 4 4] w fun e w' => e = .returned (.int .i64 y) ∧ w = w' := by
  subst h; exact dadd_any [a, b, c, d] _ 4 4 w (slr_new w [a, b, c, d] hB hg) (by omega) hw
theorem add5 (a b c d e y : Nat) (g : Nat) (w : World) (hg : g < w.heap.size) (hB : Blk w g 3 #[.int .i64 a, .int .i64 b, .int .i64 c, .int .i64 d, .int .i64 e]) (hw : words [a, b, c, d, e]) (h : sumW [a, b, c, d, e] = y) :
    Calls Tryz.prog 74 #[.slice (some ⟨g, 0, none⟩) 5 5] w fun e w' => e = .returned (.int .i64 y) ∧ w = w' := by
  subst h; exact dadd_any [a, b, c, d, e] _ 5 5 w (slr_new w [a, b, c, d, e] hB hg) (by omega) hw
theorem blk_drew {w : World} {g : Nat} {t : TypeId} {cs : Array Value} (h : Blk w g t cs) : Blk w.drew g t cs := h
/-- what lies in a cell, if anything does -/
def cellOf (w : World) (a : Addr) : Value := (w.cell? a).getD undef
theorem cellOf_eq {w : World} {a : Addr} {v : Value} (h : w.cell? a = some v) : w.cell? a = some (cellOf w a) := by rw [cellOf, h]; rfl
theorem keep3 {w wr : World} {g : Nat} {t : TypeId} {L : List Int} {i j k : Nat} {x y : Int} (h : Row vI wr g t L) (hi : L[i]? = some x) (hj : L[j]? = some y) (hk : k < L.length) (hb : Below wr.heap.size wr w) :
    w.cell? ⟨g, i, none⟩ = some (.int .i64 x) ∧ w.cell? ⟨g, j, none⟩ = some (.int .i64 y) ∧ w.cell? ⟨g, k, none⟩ = some (cellOf w ⟨g, k, none⟩) ∧ w.frozen? ⟨g, k, none⟩ = false :=
  have h' := h.below hb h.lt
  ⟨h'.get hi, h'.get hj, cellOf_eq (h'.get (List.getElem?_eq_getElem hk)), h'.free k⟩
theorem keep3s {w wr : World} {g : Nat} {t : TypeId} {L : List Int} {i j k v : Nat} {x y : Int} (h : Row vI wr g t L) (hi : L[i]? = some x) (hj : L[j]? = some y) (hk : k < L.length) (hik : k ≠ i) (hjk : k ≠ j) (hb : Below wr.heap.size wr w) :
    (w.setCell ⟨g, k, none⟩ (.int .i64 v)).cell? ⟨g, i, none⟩ = some (.int .i64 x) ∧ (w.setCell ⟨g, k, none⟩ (.int .i64 v)).cell? ⟨g, j, none⟩ = some (.int .i64 y) ∧
      (w.setCell ⟨g, k, none⟩ (.int .i64 v)).cell? ⟨g, k, none⟩ = some (cellOf (w.setCell ⟨g, k, none⟩ (.int .i64 v)) ⟨g, k, none⟩) ∧ (w.setCell ⟨g, k, none⟩ (.int .i64 v)).frozen? ⟨g, k, none⟩ = false :=
  have h' := (h.below hb h.lt).set_ k (v : Int)
  ⟨h'.get (by rw [List.getElem?_set_ne hik]; exact hi), h'.get (by rw [List.getElem?_set_ne hjk]; exact hj), cellOf_eq (h'.get (x := (v : Int)) (by rw [List.getElem?_set_self hk])), h'.free k⟩
theorem rotl_get (x k : Nat) (hx : x < 4294967296) : ∃ y, rotl x k = y ∧ y < 4294967296 := ⟨_, rfl, rotl_lt hx⟩
theorem div_get (x k : Nat) (hx : x < 4294967296) : ∃ y, x / k = y ∧ y < 4294967296 := ⟨_, rfl, Nat.lt_of_le_of_lt (Nat.div_le_self _ _) hx⟩
theorem xor_get (L : List Nat) (h : words L) : ∃ y, xorW L = y ∧ y < 4294967296 := ⟨_, rfl, xorW_lt h⟩
theorem sum_get (L : List Nat) : ∃ y, sumW L = y ∧ y < 4294967296 := ⟨_, rfl, sumW_lt L⟩
theorem words3 {a b c : Nat} (ha : a < 4294967296) (hb : b < 4294967296) (hc : c < 4294967296) : words [a, b, c] := by intro n hn; simp at hn; rcases hn with rfl | rfl | rfl <;> assumption
theorem words2 {a b : Nat} (ha : a < 4294967296) (hb : b < 4294967296) : words [a, b] := by intro n hn; simp at hn; rcases hn with rfl | rfl <;> assumption
theorem words4 {a b c d : Nat} (ha : a < 4294967296) (hb : b < 4294967296) (hc : c < 4294967296) (hd : d < 4294967296) : words [a, b, c, d] := by intro n hn; simp at hn; rcases hn with rfl | rfl | rfl | rfl <;> assumption
theorem words5 {a b c d e : Nat} (ha : a < 4294967296) (hb : b < 4294967296) (hc : c < 4294967296) (hd : d < 4294967296) (he : e < 4294967296) : words [a, b, c, d, e] := by intro n hn; simp at hn; rcases hn with rfl | rfl | rfl | rfl | rfl <;> assumption
set_option maxHeartbeats 800000 in
set_option maxRecDepth 100000 in
theorem spread_any (s : ByteArray) (w : World) (hs : s.size = 64) :
    Calls Tryz.prog 73 #[.string s] w fun e w' => e = .returned (.agg ((ints (spreadW s)).map vI).toArray) ∧ Below w.heap.size w w' := by
  obtain ⟨hz, hisz⟩ := zero_of_info w64_info
  obtain ⟨Z, hZ⟩ : ∃ Z : Array Value, (List.replicate 64 (Value.int .i64 0)).toArray = Z := ⟨_, rfl⟩
  rw [hZ] at hz
  have HZ := Lib.hid hZ
  have HI := Lib.hid hisz
  have HS := Lib.hid hs
  clear hZ hisz hs
  go_enter Tryz.func73, Tryz.ntmps73
  go_wp2_with fail
  refine (cut_high s _ (by have := HS.out; omega) (by have := HS.out; omega)).mono ?_
  rintro e w1 ⟨g, rfl, hR1, hg1, hb1⟩
  have e16 : s.size / 4 = 16 := by rw [HS.out]
  rw [e16]
  have hZ1 := (Blk.new_at (g := w.heap.size + 1) (by simp) 142 Z).below hb1 (by simp)
  have hX1 := ((Blk.new w 142 Z).alloc (.cells Z 142)).below hb1 (by simp; omega)
  have hB1 : Below w.heap.size w w1 := Below.trans (by go_grown) (hb1.mono (by simp; omega))
  have hgl := hR1.lt
  have hgw : w.heap.size + 2 ≤ g := by simpa using hg1
  have hll := cutW_len s true
  have hlw := cutW_words s true
  obtain ⟨l, hle⟩ : ∃ l, cutW s true = l := ⟨_, rfl⟩
  rw [hle] at hR1 hll hlw
  rw [e16] at hll
  have HLL := Lib.hid (And.intro hll (And.intro hlw hle))
  have HR1 := Lib.hid hR1
  have HX1 := Lib.hid hX1
  have HZ1 := Lib.hid hZ1
  have HB1 := Lib.hid hB1
  clear hb1 hg1 hll hlw hle hR1 e16 hX1 hZ1 hB1
  go_wp2_with (refine wpList_copy_splice rfl (.tmp 14) (.tmp 15) 29 29 rfl 3 Tryz.underlying29 (by kernel_rfl) (some ⟨w.heap.size + 1, 0, none⟩) (some ⟨g, 0, none⟩) 64 64 16 16 rfl rfl (w.heap.size + 1) 0 Z.toList 142 (by rw [Array.toArray_toList]; exact HZ1.out) ((ints l).map vI) (by simp [ints, HLL.out.1]) (fun _ => ⟨rfl, _, rfl, fun j v hv => by rw [Addr.add_lit, Nat.zero_add]; exact spread_src HR1.out hv⟩) (by rw [← HZ.out]; simp [ints, HLL.out.1]) (fun v hv => spread_one hv) (w.heap.size + 1) w1 (by go_grown) (by omega) ?_; intro w2 hr2 hb2')
  have hR2 : Hid (Row vI w2 (w.heap.size + 1) 142 (ints (spreadTo l 0))) := by
    have := hr2.out
    rw [← HZ.out] at this
    rw [spread_zero HLL.out.1] at this
    exact this
  have HX2 := Lib.hid (HX1.out.below hb2' (by simp))
  have hb2 := Below.trans HB1.out (hb2'.mono (by simp))
  clear hr2 hb2'
  have hBs := HB1.out
  go_wp2_with fail
  go_loopw [6] (fun v wr => ∃ k i : Nat, Hid (i = k + 16) ∧ i ≤ 64 ∧ v = .int .i64 i ∧ Below w.heap.size w wr ∧ Hid (Row vI wr (w.heap.size + 1) 142 (ints (spreadTo l k))) ∧ Hid (Blk wr w.heap.size 142 Z)) (fun v _ => 64 - (intOf v).toNat)
  case atStart => exact ⟨0, 16, rfl, by omega, rfl, hb2, hR2, HX2⟩
  case round =>
    obtain ⟨k, i, HIK, hi, rfl, hBr, HR, HX⟩ := hrel
    have hlen := spreadTo_len HLL.out.1 k
    have hwo := spreadTo_words HLL.out.2.1 k
    by_cases hlt : i < 64
    · obtain ⟨p, hp⟩ : ∃ p, (spreadTo l k)[k + 1]? = some p := ⟨_, List.getElem?_eq_getElem (by have := HIK.out; omega)⟩
      obtain ⟨q, hq⟩ : ∃ q, (spreadTo l k)[k + 14]? = some q := ⟨_, List.getElem?_eq_getElem (by have := HIK.out; omega)⟩
      obtain ⟨u, hu⟩ : ∃ u, (spreadTo l k)[k]? = some u := ⟨_, List.getElem?_eq_getElem (by have := HIK.out; omega)⟩
      obtain ⟨v, hv⟩ : ∃ v, (spreadTo l k)[k + 9]? = some v := ⟨_, List.getElem?_eq_getElem (by have := HIK.out; omega)⟩
      have hp32 := hwo p (List.mem_of_getElem? hp)
      have hq32 := hwo q (List.mem_of_getElem? hq)
      have hu32 := hwo u (List.mem_of_getElem? hu)
      have hv32 := hwo v (List.mem_of_getElem? hv)
      have cp := HR.out.get (ints_get hp)
      have cq := HR.out.get (ints_get hq)
      have cu := HR.out.get (ints_get hu)
      have cv := HR.out.get (ints_get hv)
      simp only [vI] at cp cq cu cv
      have HNew : Hid (spreadTo l (k + 1) = (spreadTo l k).set i (sumW [u, xorW [rotl p 25, rotl p 14, p / 2 ^ 3], v, xorW [rotl q 15, rotl q 13, q / 2 ^ 10]])) := Lib.hid (by rw [spreadTo, HIK.out, Nat.add_comm 16 k, List.getD_eq_getElem?_getD, List.getD_eq_getElem?_getD, List.getD_eq_getElem?_getD, List.getD_eq_getElem?_getD, hp, hq, hu, hv]; rfl)
      obtain ⟨pa, hpa, pa2⟩ := rotl_get p 25 hp32
      obtain ⟨pb, hpb, pb2⟩ := rotl_get p 14 hp32
      obtain ⟨pc, hpc, pc2⟩ := div_get p (2 ^ 3) hp32
      obtain ⟨qa, hqa, qa2⟩ := rotl_get q 15 hq32
      obtain ⟨qb, hqb, qb2⟩ := rotl_get q 13 hq32
      obtain ⟨qc, hqc, qc2⟩ := div_get q (2 ^ 10) hq32
      obtain ⟨X, hX, X2⟩ := xor_get [pa, pb, pc] (words3 pa2 pb2 pc2)
      obtain ⟨Y, hY, Y2⟩ := xor_get [qa, qb, qc] (words3 qa2 qb2 qc2)
      obtain ⟨V, hV, V2⟩ := sum_get [u, X, v, Y]
      rw [hpa, hpb, hpc, hqa, hqb, hqc, hX, hY, hV] at HNew
      have HP := Lib.hid (And.intro hpa (And.intro hpb (And.intro hpc hX)))
      have HQ := Lib.hid (And.intro hqa (And.intro hqb (And.intro hqc hY)))
      have HV := Lib.hid hV
      have HPw := Lib.hid (words3 pa2 pb2 pc2)
      have HQw := Lib.hid (words3 qa2 qb2 qc2)
      have HVw := Lib.hid (words4 hu32 X2 hv32 Y2)
      clear hpa hpb hpc hqa hqb hqc hX hY hV pa2 pb2 pc2 qa2 qb2 qc2 X2 Y2
      obtain ⟨a, ha⟩ : ∃ a, k + 1 = a := ⟨_, rfl⟩
      obtain ⟨b, hb⟩ : ∃ b, k + 14 = b := ⟨_, rfl⟩
      obtain ⟨c, hc⟩ : ∃ c, k = c := ⟨_, rfl⟩
      obtain ⟨d, hd⟩ : ∃ d, k + 9 = d := ⟨_, rfl⟩
      rw [ha] at cp
      rw [hb] at cq
      rw [hd] at cv
      have hik := HIK.out
      have ea : (i : Int) - 15 = a := by omega
      have eb : (i : Int) - 2 = b := by omega
      have ec : (i : Int) - 16 = k := by omega
      have ed : (i : Int) - 7 = d := by omega
      have wa : IntKind.i64.wrap (a : Int) = a := wrap_i64_nat _ (by omega)
      have wb : IntKind.i64.wrap (b : Int) = b := wrap_i64_nat _ (by omega)
      have wc : IntKind.i64.wrap (k : Int) = k := wrap_i64_nat _ (by omega)
      have wd : IntKind.i64.wrap (d : Int) = d := wrap_i64_nat _ (by omega)
      have a0 : (0 : Int) ≤ a := by omega
      have b0 : (0 : Int) ≤ b := by omega
      have c0 : (0 : Int) ≤ k := by omega
      have d0 : (0 : Int) ≤ d := by omega
      have i0 : (0 : Int) ≤ i := by omega
      have a1 : (a : Int) < 64 := by omega
      have b1 : (b : Int) < 64 := by omega
      have c1 : (k : Int) < 64 := by omega
      have d1 : (d : Int) < 64 := by omega
      have i1 : (i : Int) < 64 := by omega
      have HU := Lib.hid (ints_get hu)
      have HD := Lib.hid (ints_get hv)
      rw [hd] at HD
      have hfz := HR.out.free i
      have HLi : Hid (i < (ints (spreadTo l k)).length) := Lib.hid (by simp [ints, hlen]; omega)
      have hik1 : i ≠ k := by omega
      have hik2 : i ≠ d := by omega
      have hrl := HR.out.lt
      have ci := cellOf_eq (HR.out.get (List.getElem?_eq_getElem HLi.out))
      clear ha hb hc hd hik hp hq hu hv hwo hlen hBs
      go_wp2_with fail
      go_region
      go_wp2_with fail
      clear cp cq ea eb wa wb a0 b0 a1 b1
      go_region_held3 (fun w' => w'.cell? ⟨w.heap.size + 1, k, none⟩ = some (.int .i64 u) ∧ w'.cell? ⟨w.heap.size + 1, d, none⟩ = some (.int .i64 v) ∧ w'.cell? ⟨w.heap.size + 1, i, none⟩ = some (cellOf w' ⟨w.heap.size + 1, i, none⟩) ∧ w'.frozen? ⟨w.heap.size + 1, i, none⟩ = false)
        (first | (refine keep3s HR.out HU.out HD.out HLi.out hik1 hik2 ?_; go_grown; done) | (refine keep3 HR.out HU.out HD.out HLi.out ?_; go_grown; done))
        (first
          | (go_at_call 76; with_reducible refine (back7 p pa _ hp32 HP.out.1).mono ?_; rintro e w3 ⟨rfl, rfl⟩)
          | (go_at_call 76; with_reducible refine (back18 p pb _ hp32 HP.out.2.1).mono ?_; rintro e w3 ⟨rfl, rfl⟩)
          | (go_at_call 104; with_reducible refine (fall3 p pc _ hp32 HP.out.2.2.1).mono ?_; rintro e w3 ⟨rfl, rfl⟩)
          | (go_at_call 75; refine Calls.mono (xor3 pa pb pc X _ _ ?_ ?_ HPw.out HP.out.2.2.2) ?_; (focus (simp; done)); (focus ((repeat' (first | (with_reducible refine blk_drew ?_) | (with_reducible refine Blk.new_at ?_ _ _) | (simp; done))); done)); rintro e wx ⟨rfl, hbx⟩; have hBx : Below wr.heap.size wr wx := Below.trans (by go_grown) (hbx.mono (by simp; omega)); clear hbx; have hsx := hBx.size)
          | (go_at_call 76; with_reducible refine (back17 q qa _ hq32 HQ.out.1).mono ?_; rintro e w3 ⟨rfl, rfl⟩)
          | (go_at_call 76; with_reducible refine (back19 q qb _ hq32 HQ.out.2.1).mono ?_; rintro e w3 ⟨rfl, rfl⟩)
          | (go_at_call 104; with_reducible refine (fall10 q qc _ hq32 HQ.out.2.2.1).mono ?_; rintro e w3 ⟨rfl, rfl⟩)
          | (go_at_call 75; refine Calls.mono (xor3 qa qb qc Y _ _ ?_ ?_ HQw.out HQ.out.2.2.2) ?_; (focus (simp; done)); (focus ((repeat' (first | (with_reducible refine blk_drew ?_) | (with_reducible refine Blk.new_at ?_ _ _) | (simp; done))); done)); rintro e wy ⟨rfl, hby⟩; have hBy : Below wr.heap.size wr wy := Below.trans (Below.trans hBx (by go_grown)) (hby.mono (by simp; omega)); clear hby; have hsy := hBy.size)
          | (go_at_call 74; refine Calls.mono (add4 u X v Y V _ _ ?_ ?_ HVw.out HV.out) ?_; (focus (simp; done)); (focus ((repeat' (first | (with_reducible refine blk_drew ?_) | (with_reducible refine Blk.new_at ?_ _ _) | (simp; done))); done)); rintro e w3 ⟨rfl, rfl⟩))
      go_wp2_with fail
      go_round
      case rel =>
        have hR' : Row vI wy (w.heap.size + 1) 142 (ints (spreadTo l k)) := HR.out.below hBy hrl
        refine ⟨k + 1, i + 1, Lib.hid (by rw [HIK.out]), by omega, by go_num, ?_, ?_, ?_⟩
        · exact Below.setCell (Below.alloc (Below.trans hBr (hBy.mono hBr.size)) (Nat.le_trans hBr.size hsy) _) (by simp) _
        · refine Lib.hid ?_
          have := (Row.alloc hR' (.cells #[.int .i64 u, .int .i64 X, .int .i64 v, .int .i64 Y] 3)).set_ i (V : Int)
          rw [HNew.out, ints, List.map_set]
          exact this
        · refine Lib.hid ?_
          exact ((HX.out.below hBy (Nat.lt_trans (by omega) hrl)).alloc _).far (by simp) _
      case measure => simp [intOf]; omega
    · obtain rfl : i = 64 := by omega
      have hk : k = 48 := by have := HIK.out; omega
      have hT : Blk wr (w.heap.size + 1) 142 ((ints (spreadW s)).map vI).toArray := by
        have := HR.out
        rw [hk, ← HLL.out.2.2] at this
        exact this
      have hle : ((ints (spreadW s)).map vI).toArray.size = 64 := by
        have := spreadTo_len HLL.out.1 48
        rw [← HLL.out.2.2] at this
        simp [ints, spreadW, this]
      have hone : ((ints (spreadW s)).map vI).toArray.all (·.oneCell') = true := all_oneCell_toArray (fun v hv => spread_one hv)
      generalize hTT : ((ints (spreadW s)).map vI).toArray = T at hT hle hone
      have HTT := Lib.hid hTT
      clear hTT
      have hZl : Z.size = 64 := by rw [← HZ.out]; simp
      go_wp2_with (first
        | (refine wpList_load_row rfl 142 (.tmp 3) rfl (w.heap.size + 1) rfl 142 T (0, 0) (.array 64 3) hT (by kernel_rfl) rfl (by rw [hle]; exact HI.out) ?_)
        | (refine wpList_store_row rfl 142 (.tmp 2) (.tmp 57) rfl w.heap.size T rfl rfl 142 Z HX.out (by rw [hle]; exact HI.out) (by rw [hle, hZl]) hone ?_))
      refine bodyPost_ret (results_cell_row (Tryz.results73) _ _ w.heap.size 142 T (0, 0) (.array 64 3) rfl (setRow_heap _ _ Z _ _ _ HX.out) (by kernel_rfl) rfl (by rw [hle]; exact HI.out)) rfl ?_
      exact ⟨by rw [HTT.out], below_setRow hBr (Nat.le_refl _) _⟩
end Go.Proofs.YtpkomloblhbkiaaGreatDoor
